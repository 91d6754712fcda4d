/- A part of the walk. -/
import Derived.Test.YtcgfilmmokmdjaaGreatQAM
import Derived.Test.YtcgfilmmokmdjaaGreatQAL
import Derived.Test.YtcgfilmmokmdjaaGreatQAI
import Derived.Test.YtcgfilmmokmdjaaGreatQAK
set_option linter.all false
set_option maxRecDepth 100000
set_option maxHeartbeats 32000000
namespace Go.Proofs.YtcgfilmmokmdjaaGreat
def kA (g : Gn) (key : Int) : Gn:={ g with m:=yP g.m key }
theorem gX.room {g : Gn} (h : gX g) (key : Int) : g.m.dZ + (gW (zR g.m key) : Int) ≤ 1099511627776:=by
 have:=h.small;have:=TU (zR g.m key);omega
theorem X6 {g : Gn} (h : gX g) (key : Int) : gX (kA g key):=by
 have hm:=(zO _).1 h.m;have hr:=h.room key;have hd:=hm.del hr;have hs:=kV hm hr;have QT:=h.sum;refine ⟨h.num,h.rev,h.mode,h.size,(zO _).2 hd,zDK hm hd h.ends (cq _) ?_,?_⟩
 ·
  intro k y hy;rw [qC hm hr] at hy
  split at hy
  ·
   cases hy
  exact hy
 show g.size = 16 + (yP g.m key).live + (yP g.m key).dZ
 omega
theorem zHU {g : Gn} (h : gX g) (key k : Int) : zR (kA g key).m k = if key = k then none else zR g.m k:=qC ((zO _).1 h.m) (h.room key) k
theorem zHt {g : Gn} (h : gX g) (hm : g.mode ≠ 1) (key : Int) : yY g [key] = (0,kA g key):=by
 unfold yY;rw [ag ((yF g).2 h),ah hm]; rfl
theorem zJU {l : List Gn} {i : Nat} (hi : i < l.length) : l[i]? = some (eB l i):=by
 unfold eB; rw [aw,aB hi]; rfl
theorem vW {l : List Gn} {j : Nat} (hj : j < l.length) (g : Gn) (i : Nat) : eB (l.set j g) i = if i = j then g else eB l i:=by
 unfold eB;rw [aw,dK,aw]
 by_cases e : j = i
 ·
  rw [ag e,ag e.symm,ag hj]; rfl
 rw [ah e,ah fun h => e h.symm]
theorem eA.inj {s : eL} (h : eA s) : ∀ {i j : Nat},i < j → j < s.dW.length → (eB s.dW i).num < (eB s.dW j).num
 | i,0,hij,_ => by omega
 | i,j + 1,hij,hj => by
  have h1:=(h.g (j + 1) hj).2.1 (by omega);rw [show j + 1 - 1 = j by omega] at h1
  by_cases e : i = j
  ·
   rw [e]; exact h1
  have:=eA.inj h (show i < j by omega) (by omega);omega
theorem eA.Cp {s : eL} (h : eA s) {i j : Nat} (hi : i < s.dW.length) (hj : j < s.dW.length) (hne : i ≠ j) : (eB s.dW i).num ≠ (eB s.dW j).num:=by
 rcases Nat.lt_or_gt_of_ne hne with h1 | h1
 ·
  have:=h.inj h1 hj; omega
 have:=h.inj h1 hi; omega
theorem zJ7 {s : eL} (h : eA s) {j : Nat} (hj : j < s.dW.length) {g : Gn} (hg : g.num = (eB s.dW j).num) : uf s.dW g = s.dW.set j g:=by
 refine List.ext_getElem? fun i => ?_
 unfold uf;rw [b9,dK]
 by_cases hi : i < s.dW.length
 ·
  rw [zJU hi]
  by_cases hij : j = i
  ·
   subst hij;rw [ag rfl,ag hj];simp [hg]
  rw [ah hij];have h1 : (eB s.dW i).num ≠ g.num:=by rw [hg]; exact h.Cp hi hj fun e => hij e.symm
  simp [h1]
 rw [ah (by omega),List.getElem?_eq_none (by omega)]
 rfl
structure Fit (s : eL) (j : Nat) (g : Gn) : Prop where
 hj : j < s.dW.length
 v : gX g
 n : g.num = (eB s.dW j).num
 m : g.mode = 1 ↔ j + 1 = s.dW.length
 z : g.size ≤ 2 * s.lim
 t : j + 1 = s.dW.length → g.size + (((zG g.m).length * 24 : Nat) : Int) ≤ 2 * s.lim
def tW (s : eL) (j : Nat) (g : Gn) : eL:=⟨s.id,s.lim,s.ro,s.dW.set j g⟩
theorem X7 {s : eL} (h : eA s) {j : Nat} {g : Gn} (hf : Fit s j g) : eA (tW s j g):=by
 have hj:=hf.hj;refine ⟨h.id,h.lim,by show 1 ≤ (s.dW.set j g).length ∧ (s.dW.set j g).length ≤ 8; rw [bC]; exact h.len,fun i hi => ?_,?_⟩
 ·
  have hi : i < s.dW.length:=by have : i < (s.dW.set j g).length:=hi; rwa [bC] at this
  have ho:=h.g i hi;unfold Fl tW;dsimp only;rw [bC,vW hj,vW hj];obtain ⟨h1,h2,h3,h4⟩:=ho
  by_cases e : i = j
  ·
   subst e;rw [ag rfl];refine ⟨(yF _).2 hf.v,fun h0 => ?_,hf.m,hf.z⟩;rw [ah (by omega),hf.n];exact h2 h0
  rw [ah e];refine ⟨h1,fun h0 => ?_,h3,h4⟩
  by_cases e2 : i - 1 = j
  ·
   rw [ag e2,hf.n,← e2]; exact h2 h0
  rw [ah e2]; exact h2 h0
 have hl:=h.len
 show (eB (s.dW.set j g) ((s.dW.set j g).length - 1)).size + (((zG (eB (s.dW.set j g) ((s.dW.set j g).length - 1)).m).length * 24 : Nat) : Int) ≤ 2 * s.lim
 rw [bC,vW hj]
 by_cases e : s.dW.length - 1 = j
 ·
  rw [ag e]; exact hf.t (by omega)
 rw [ah e]; exact h.top
theorem RA {s : eL} (h : eA s) {j : Nat} {g : Gn} (hf : Fit s j g) : yM s g = (tW s j g,0):=by
 have hv:=(zZ _).2 (X7 h hf);have hp:=zJ7 h hf.hj hf.n;unfold tW at hv ⊢;unfold yM;rw [ag ((zZ s).2 h),hp,ag ?_,ag hv]
 ·
  rw [List.any_eq_true];exact ⟨eB s.dW j,ux hf.hj,by simp [hf.n]⟩
theorem fit_drop {s : eL} (h : eA s) {j : Nat} (hj : j + 1 < s.dW.length) (key : Int) : Fit s j (kA (eB s.dW j) key):=by
 have ho:=h.g j (by omega);exact ⟨by omega,X6 (h.vg (by omega)) key,rfl,ho.2.2.1,ho.2.2.2,fun e => by omega⟩
/-! ### The numbers of the older fl -/
theorem X8 (l : List Gn) (key : Int) : ∀ (n i : Nat),i < (qx l key n).length → ∃ r,r < n ∧ (qx l key n)[i]? = some (eB l r).num ∧ zR (eB l r).m key ≠ none ∧ (qx l key r).length = i
 | 0,i,h => by cases h
 | n + 1,i,h => by
  have e : qx l key (n + 1) = qx l key n ++ (match zR (eB l n).m key with | some _ => [(eB l n).num] | none => []):=rfl
  by_cases hi : i < (qx l key n).length
  ·
   obtain ⟨r,h1,h2,h3,h4⟩:=X8 l key n i hi;exact ⟨r,by omega,by rw [e,dP hi]; exact h2,h3,h4⟩
  rw [e,ax] at h
  cases hx : zR (eB l n).m key with
  | none => rw [hx] at h; simp at h; omega
  | some x =>
   rw [hx] at h;have hi2 : i = (qx l key n).length:=by simp at h; omega
   refine ⟨n,by omega,?_,by rw [hx]; exact (fun h => by cases h),hi2.symm⟩;rw [e,hx,dw (by omega),hi2];simp
/-! ### The slot after the RB below place c -/
structure Dn (S : eL) (key : Int) (c : Nat) (s : eL) : Prop where
 v : eA s
 id : s.id = S.id
 lim : s.lim = S.lim
 ro : s.ro = S.ro
 len : s.dW.length = S.dW.length
 num : ∀ r,r < S.dW.length → (eB s.dW r).num = (eB S.dW r).num
 lo : ∀ r,r < c → r < S.dW.length → zR (eB s.dW r).m key = none
 hi : ∀ r,c ≤ r → eB s.dW r = eB S.dW r
 st : fA 48 s.dW
/-! ### What is found -/
theorem zDG {l : List Gn} {key : Int} : ∀ {n : Nat},(∀ r,r < n → zR (eB l r).m key = none) → xF l key n = []
 | 0,_ => rfl
 | n + 1,h => by
  show (match zR (eB l n).m key with | some x => _ | none => []) ++ xF l key n = []
  rw [h n (by omega),zDG fun r hr => h r (by omega)]
  rfl
theorem zCn {l l' : List Gn} {key : Int} {c : Nat} (hg : ∀ r,c ≤ r → eB l' r = eB l r) : ∀ {n : Nat},(∃ r,c ≤ r ∧ r < n ∧ zR (eB l r).m key ≠ none) → ∃ x t t',xF l key n = x :: t ∧ xF l' key n = x :: t'
 | 0,⟨r,_,h,_⟩ => by omega
 | n + 1,⟨r,h1,h2,h3⟩ => by
  have e : ∀ l : List Gn,xF l key (n + 1) = (match zR (eB l n).m key with | some x => [⟨(eB l n).num,(eB l n).mode,(eB l n).rev,x,n⟩] | none => []) ++ xF l key n:=fun _ => rfl
  rw [e l,e l',hg n (by omega)]
  cases hx : zR (eB l n).m key with
  | some x => exact ⟨_,_,_,rfl,rfl⟩
  | none =>
   have hne : r ≠ n:=fun e => h3 (by rw [e]; exact hx)
   exact zCn hg ⟨r,h1,by omega,h3⟩
theorem tw {l : List Gn} {key : Int} : ∀ {n : Nat} {x : jJ} {t : List jJ},xF l key n = x :: t → x.at_ < n ∧ x.mode = (eB l x.at_).mode ∧ zR (eB l x.at_).m key = some x.it ∧ x.gen = (eB l x.at_).num ∧ x.rev = (eB l x.at_).rev ∧ ∀ r,x.at_ < r → r < n → zR (eB l r).m key = none
 | 0,_,_,h => by cases h
 | n + 1,x,t,h => by
  have e : xF l key (n + 1) = (match zR (eB l n).m key with | some x => [⟨(eB l n).num,(eB l n).mode,(eB l n).rev,x,n⟩] | none => []) ++ xF l key n:=rfl;rw [e] at h
  cases hx : zR (eB l n).m key with
  | some y =>
   rw [hx] at h;injection h with h1 _;subst h1;exact ⟨dD n,rfl,hx,rfl,rfl,fun r h1 h2 => by dsimp only at h1; omega⟩
  | none =>
   rw [hx] at h;obtain ⟨h1,h2,h3,h4,h5,h6⟩:=tw (show xF l key n = x :: t from h)
   exact ⟨by omega,h2,h3,h4,h5,fun r h7 h8 => by
    by_cases e : r = n
    ·
     rw [e]; exact hx
    exact h6 r h7 (by omega)⟩
theorem zG7 {l : List Gn} {key : Int} {n r : Nat} (h : r < n) (hg : zR (eB l r).m key ≠ none) : ∃ x t,xF l key n = x :: t:=by
 obtain ⟨x,t,_,h1,_⟩:=zCn (l:=l) (l':=l) (c:=0) (fun _ _ => rfl) ⟨r,aq _,h,hg⟩;exact ⟨x,t,h1⟩
theorem uT {s : eL} (h : eA s) (key : Int) : zl s key = xF s.dW key s.dW.length:=by unfold zl; rw [ag ((zZ s).2 h)]
theorem X9 {s : eL} (h : eA s) (key : Int) : zk s key = qx s.dW key (s.dW.length - 1):=by unfold zk; rw [ag ((zZ s).2 h)]
def q_ (l : List Nd) (j : Nat) : Nd:=l.getD j MY
def wu (l : List Nd) (key : Int) : Nat → Int
 | 0 => -1
 | n + 1 => if ((q_ l n).key : Int) = key then (n : Int) else wu l key n
theorem zA1 (l : List Nd) (key : Int) : ∀ n,wu l key n = -1 ∨ (0 ≤ wu l key n ∧ wu l key n < n)
 | 0 => .inl rfl
 | n + 1 => by
  unfold wu
  split
  ·
   right; omega
  rcases zA1 l key n with h | h
  ·
   exact .inl h
  right; omega
theorem zE6 {l : List Nd} {n : Nat} (h : n < l.length) : l.take (n + 1) = l.take n ++ [q_ l n]:=by
 rw [cz,aB h];unfold q_;rw [aw,aB h]; rfl
theorem zLT {l : List Nd} {n : Nat} (h : n < l.length) : q_ l n ∈ l:=by
 unfold q_;rw [aw,aB h]; exact bM h
theorem X_ (l : List Nd) : ∀ n,fU (l.take n) ≤ fU l:=by
 intro n;have e : fU l = fU (l.take n ++ l.drop n):=by rw [bN]
 have h2 : fU (l.take n ++ l.drop n) = fU (l.take n) + fU (l.drop n):=by unfold fU; rw [bE,List.sum_append]
 omega
theorem zA5 {g : Gn} (hg : gX g) {x : Nd} (hx : x.ok) (hz : g.size + (eP x.data.length : Int) ≤ 1048576) (key : Int) :
  zR (yW g x).m key = if (x.key : Int) = key then (if x.del = true then none else some (Fm g x)) else zR g.m key:=by
 have hm:=(zO _).1 hg.m;have hs:=hg.small;have hxl:=xt x.data.length;unfold yW;dsimp only
 by_cases hd : x.del = true
 ·
  rw [ag hd];have h1 : g.m.dZ + (gW (zR g.m x.key) : Int) ≤ 1099511627776:=hg.room _;have Bf:=hm.del h1;have hds:=kV hm h1;have iy:=Bf.live0;have h2 : (yP g.m x.key).dZ + (eP x.data.length : Int) ≤ 1099511627776:=by omega
  have hw:=Bf.Jw (n:=(eP x.data.length : Int)) (by omega) h2;rw [xR hw,uh,← xR Bf,qC hm h1];simp only [hd,if_true]
 rw [ah hd];have hok:=zJm hg hx;have h1 : g.m.dZ + (gW (zR g.m (Fm g x).key) : Int) ≤ 1099511627776:=hg.room _;rw [zFC hm hok h1,ah hd]
 rfl
/-! ### The slot with B7 added to its last generation -/
noncomputable def zNH (S : eL) (l : List Nd) : eL:=tW S (S.dW.length - 1) (zX (zK S) l)
theorem Ya {S : eL} (h : eA S) : tX S = (0,zK S):=by unfold tX; rw [ag ((zZ S).2 h)]
theorem zMT {S : eL} (h : eA S) {g : Gn} (hg : g.num = (zK S).num ∧ g.rev = (zK S).rev ∧ g.mode = (zK S).mode) (key : Int) :
  xF (S.dW.set (S.dW.length - 1) g) key S.dW.length = (match zR g.m key with | some x => [⟨(zK S).num,(zK S).mode,(zK S).rev,x,S.dW.length - 1⟩] | none => []) ++ xF S.dW key (S.dW.length - 1):=by
 have hlen:=h.len;obtain ⟨k,hk⟩ : ∃ k,S.dW.length = k + 1:=⟨S.dW.length - 1,by omega⟩
 have hj : S.dW.length - 1 < S.dW.length:=by omega
 have RD : ∀ n,n ≤ S.dW.length - 1 → xF (S.dW.set (S.dW.length - 1) g) key n = xF S.dW key n:=by
  intro n
  induction n with
  | zero => intro _; rfl
  | succ n ih =>
   intro hn;unfold xF;rw [ih (by omega),vW hj,ah (by omega)]
 have e : xF (S.dW.set (S.dW.length - 1) g) key S.dW.length = (match zR (eB (S.dW.set (S.dW.length - 1) g) (S.dW.length - 1)).m key with | some x => [⟨(eB (S.dW.set (S.dW.length - 1) g) (S.dW.length - 1)).num,(eB (S.dW.set (S.dW.length - 1) g) (S.dW.length - 1)).mode,(eB (S.dW.set (S.dW.length - 1) g) (S.dW.length - 1)).rev,x,S.dW.length - 1⟩] | none => []) ++ xF (S.dW.set (S.dW.length - 1) g) key (S.dW.length - 1):=by
  rw [hk]; rfl
 rw [e,RD _ (ai _),vW hj,ag rfl,hg.1,hg.2.1,hg.2.2]
theorem vp {S : eL} (h : eA S) (key : Int) :
  xF S.dW key S.dW.length = (match zR (zK S).m key with | some x => [⟨(zK S).num,(zK S).mode,(zK S).rev,x,S.dW.length - 1⟩] | none => []) ++ xF S.dW key (S.dW.length - 1):=by
 have hlen:=h.len;obtain ⟨k,hk⟩ : ∃ k,S.dW.length = k + 1:=⟨S.dW.length - 1,by omega⟩
 unfold zK;rw [hk]; rfl
structure Rq where
  tk : Int
  kind : Int
  key : Nat
  ck : Nat
  data : List UInt8
def PK : Rq:=⟨0,0,0,0,[]⟩
instance : Inhabited Rq:=⟨PK⟩
def Rq.Wf (q : Rq) : Prop:=q.key < 18446744073709551616 ∧ q.ck < 4294967296
abbrev Kl:=Int × List Int
structure fG where
  t : eL
  eN : Bool
  dY : List Kl
  needs : List Nd
  res : List Int
  bytes : Int
noncomputable def vy (P : fG) (x : Nd) : fG:={ P with t:=(yM P.t (xQ (tX P.t).2 [x]).2).1,needs:=P.needs ++ [x],bytes:=P.bytes + (eP x.data.length : Int) }
def k4 (l : List Gn) (num : Int) : Nat:=(l.findIdx? fun g => decide (g.num = num)).getD l.length
noncomputable def yv (s : eL) (num : Int) (keys : List Int) : eL × Int:=
  if k4 s.dW num < s.dW.length then (if (yY (eB s.dW (k4 s.dW num)) keys).1 = 0 then yM s (yY (eB s.dW (k4 s.dW num)) keys).2 else (wJ,(yY (eB s.dW (k4 s.dW num)) keys).1)) else (wJ,6)
def fL (l : List Kl) (num : Int) : Nat:=(l.findIdx? fun k => decide (num ≤ k.1)).getD l.length
def yE (l : List Kl) (i : Nat) : Kl:=l.getD i (0,[])
def ku (l : List Kl) (num key : Int) : List Kl:=
  if fL l num < l.length ∧ (yE l (fL l num)).1 = num then l.set (fL l num) (num,(yE l (fL l num)).2 ++ [key])
  else l.take (fL l num) ++ (num,[key]) :: l.drop (fL l num)
noncomputable def yp (key : Int) (P : fG) (num : Int) : fG:={ P with t:=(yv P.t num [key]).1,dY:=ku P.dY num key }
noncomputable def wT (t : eL) (key : Int) : Bool:=!(zl t key).isEmpty && decide (((zl t key).headD wY).mode = 1)
noncomputable def yN (P : fG) (key : Int) : fG:=(zk P.t key).foldl (yp key) P
def qA (q : Rq) : Nd:=⟨q.key,q.ck,true,[]⟩
def uJ (q : Rq) : Nd:=⟨q.key,q.ck,false,q.data⟩
noncomputable def yl (P : fG) (q : Rq) : fG:=if wT (yN P q.key).t q.key = true then vy (yN P q.key) (qA q) else yN P q.key
noncomputable def zn (t : eL) (q : Rq) : Int:=if 4096 < q.data.length then 8 else if wl t (q.data.length : Int) = true then 0 else 9
noncomputable def xS (t : eL) (q : Rq) : Int:=if (zl t q.key).isEmpty = false ∧ ((zl t q.key).headD wY).it.ck = (q.ck : Int) then 0 else 6
def more (P : fG) (e : Int) : fG:={ P with res:=P.res ++ [e] }
noncomputable def zT (P : fG) (q : Rq) : Bool × fG:=
  if P.res.length = 16 then (false,P)
  else if q.kind = 1 then
    (if zn P.t q = 9 ∧ wh P.t = true then (false,{ P with eN:=decide (P.res.length = 0) })
     else if zn P.t q = 0 then
       (if 0 < P.bytes ∧ 16384 < P.bytes + (eP q.data.length : Int) then (false,P) else (true,more (vy P (uJ q)) 0))
     else (true,more P (zn P.t q)))
  else if q.kind = 2 then
    (if xS P.t q = 0 then
       (if wT P.t q.key = true ∧ 0 < P.bytes ∧ 16384 < P.bytes + 24 then (false,P) else (true,more (yl P q) 0))
     else (true,more P 6))
  else (true,more P 1)
noncomputable def tq : List Rq → fG → fG
  | [],P => P
  | q :: r,P => if (zT P q).1 = true then tq r (zT P q).2 else (zT P q).2
def xB (s : eL) : fG:=⟨s,false,[],[],[],0⟩
noncomputable def yA (s : eL) (l : List Rq) : fG × Int:=if zd s = true then (tq l (xB s),0) else (xB wJ,1)
/-! ### How far the numbers go -/
theorem Yb (P : fG) (x : Nd) : (vy P x).res = P.res:=rfl
theorem xC (P : fG) (key : Int) : (yN P key).res = P.res ∧ (yN P key).needs = P.needs ∧ (yN P key).bytes = P.bytes ∧ (yN P key).eN = P.eN:=by
  have h : ∀ (l : List Int) (P : fG),(l.foldl (yp key) P).res = P.res ∧ (l.foldl (yp key) P).needs = P.needs ∧ (l.foldl (yp key) P).bytes = P.bytes ∧ (l.foldl (yp key) P).eN = P.eN:=by
    intro l
    induction l with
    | nil => intro P; exact ⟨rfl,rfl,rfl,rfl⟩
    | cons x r ih =>
      intro P;have:=ih (yp key P x);exact this
  exact h _ P
theorem qr (P : fG) (q : Rq) (h : P.res.length ≤ 16) : (zT P q).2.res.length ≤ 16 ∧ P.res.length ≤ (zT P q).2.res.length ∧ ((zT P q).1 = true → (zT P q).2.res.length = P.res.length + 1):=by
  have hd : (yl P q).res = P.res:=by
    unfold yl
    split
    · rw [Yb]; exact (xC P q.key).1
    exact (xC P q.key).1
  have hm : ∀ (Q : fG) (e : Int),(more Q e).res.length = Q.res.length + 1:=fun Q e => by unfold more; simp
  unfold zT
  split
  · exact ⟨h,ai _,fun h => by cases h⟩
  split
  · split
    · exact ⟨h,ai _,fun h => by cases h⟩
    split
    · split
      · exact ⟨h,ai _,fun h => by cases h⟩
      dsimp only; rw [hm,Yb]; exact ⟨by omega,by omega,fun _ => rfl⟩
    dsimp only; rw [hm]; exact ⟨by omega,by omega,fun _ => rfl⟩
  split
  · split
    · split
      · exact ⟨h,ai _,fun h => by cases h⟩
      dsimp only; rw [hm,hd]; exact ⟨by omega,by omega,fun _ => rfl⟩
    dsimp only; rw [hm]; exact ⟨by omega,by omega,fun _ => rfl⟩
  dsimp only; rw [hm]; exact ⟨by omega,by omega,fun _ => rfl⟩
structure SmP (K : Nat) (P : fG) : Prop where
  l : fA (K + P.needs.length) P.t.dW
  n : P.needs.length ≤ P.res.length
  r : P.res.length ≤ 16
  b0 : 0 ≤ P.bytes
  b1 : P.bytes ≤ 4128 * (P.needs.length : Int)
  k : P.dY.length ≤ 8 * P.res.length
  kk : ∀ x ∈ P.dY,x.2.length ≤ 8 * P.res.length
  x : ∀ x ∈ P.needs,x.data.length ≤ 4096
end Go.Proofs.YtcgfilmmokmdjaaGreat
namespace Go.Proofs.YtcgfilmmokmdjaaGreat
open Go.RowKit
theorem ul {i l : Int} {r : Bool} {L : List GP} {j : Nat} (h : L.length = j + 1) : zK ⟨i,l,r,ea L⟩ = (pat L j).1:=by
 unfold zK
 show eB (ea L) ((ea L).length - 1) = _
 rw [yB,h,xJ]
 rfl
theorem zFg (i l : Int) (r : Bool) (a : Option Addr) (n c : Nat) (L : List GP) (w : World) (h : fH w (.slice a n c) L) (hs : ∀ p ∈ L,∀ j,j < 8 → (p.1.m.st j).length ≤ 10000) :
  Calls Tryz.prog 35 #[ze i l r a n c] w fun e w' => e = .returned (.bool (wh ⟨i,l,r,ea L⟩)) ∧ Below w.heap.size w w':=by
 have gH:=zh (fun W (hb : Below w.heap.size w W) => yU i l r a n c L W (h.below hb) hs);have eG:=zh (fc.new w i l r a n c 27);have eQ:=zh (zS w i l r a n c 27);have hcs : wh ⟨i,l,r,ea L⟩ = (zd ⟨i,l,r,ea L⟩ && decide ((zK ⟨i,l,r,ea L⟩).num < 8)):=rfl;rw [hcs];clear hcs
 cases hv : zd ⟨i,l,r,ea L⟩
 ·
  rw [hv] at gH;clear h hs hv
  go_enter Tryz.func35,Tryz.ntmps35
  go_upto_region 1 with fail;obtain ⟨W,hW⟩ : ∃ W,w.alloc (.cells (zN i l r a n c) 27) = W:=⟨_,rfl⟩
  change Code.wp _ _ _ _ (w.alloc (.cells (zN i l r a n c) 27));rw [hW] at eG eQ ⊢;clear hW;have Dm:=eG.out.lt;obtain ⟨k0,k1,k2,k3⟩:=eG.out.q;go_wp2_with fail;refine (gH.out _ eQ.out).mono ?_;rintro e w1 ⟨rfl,hb1⟩;have eW:=zh (zA eQ.out hb1);clear k0 k1 k2 k3 hb1;go_wp2_with fail;go_ret;exact ⟨rfl,eW.out⟩
 rw [hv] at gH;have hV:=(zZ _).1 hv;have gy : L.length = n:=by
  obtain ⟨_,_,e,_⟩:=h.shape;injection e with _ e _; exact e.symm
 have hl : (ea L).length = n:=by rw [yB,gy]
 have hn : 1 ≤ n ∧ n ≤ 8:=by have:=hV.len; simp only [hl] at this; exact this
 obtain ⟨j,rfl⟩ : ∃ j,n = j + 1:=⟨n - 1,by omega⟩
 rw [ul gy];have HR:=zh h;clear hV gy hl hv h hs;obtain ⟨b,off,rfl,hg⟩:=HR.out.at (show j < j + 1 by omega);have HG:=zh hg;clear hg HR;generalize pat L j = p at *;obtain ⟨⟨num,rev,md,sz,f,LV,GA⟩,s⟩:=p;dsimp only at *
 go_enter Tryz.func35,Tryz.ntmps35
 go_upto_region 1 with fail;obtain ⟨W,hW⟩ : ∃ W,w.alloc (.cells (zN i l r (some ⟨b,off,none⟩) (j + 1) c) 27) = W:=⟨_,rfl⟩
 change Code.wp _ _ _ _ (w.alloc (.cells (zN i l r (some ⟨b,off,none⟩) (j + 1) c) 27));rw [hW] at eG eQ ⊢;clear hW;have Dm:=eG.out.lt;obtain ⟨k0,k1,k2,k3⟩:=eG.out.q;go_wp2_with fail;refine (gH.out _ eQ.out).mono ?_;rintro e w1 ⟨rfl,hb1⟩;clear k0 k1 k2 k3;have eW:=zh (zA eQ.out hb1);have fC:=zh (eG.out.below hb1);have p_:=zh (HG.out.below eW.out);clear hb1 eQ eG HG gH;have j3 : IntKind.i64.wrap (j : Int) = (j : Int):=aF _ (by omega);have i2 : (j : Int) < ((j + 1 : Nat) : Int):=by omega
 have v3:=fC.out.c3;have g0:=p_.out.n0;dsimp only at g0;go_wp2_with fail;go_ret;exact ⟨by simp,eW.out⟩
theorem uz (g : Gn) (s : Sl) (w : World) (h : fq w s g.m.st) (hs : ∀ i,i < 8 → (g.m.st i).length ≤ 10000) :
  Calls Tryz.prog 48 #[zV g.num g.rev g.mode g.size s g.m.live g.m.dZ] w fun e w' => (∃ s',e = .returned (zV g.num g.rev g.mode g.size s' g.m.live g.m.dZ) ∧ eZ w' w.heap.size s' g.m.st) ∧ Below w.heap.size w w':=by
 have HW:=zh (fun W (hb : Below w.heap.size w W) => uA s g.m 0 W (h.below hb) hs);rw [uN] at HW;obtain ⟨n,r,md,z,⟨f,L,G⟩⟩:=g;dsimp only at *;obtain ⟨W,hW,fF,hbr,fP⟩:=vE w n r md z s L G 38;have HX:=zh fF;have HR:=zh hbr;have HB:=zh fP;clear fF hbr fP h hs
 go_enter Tryz.func48,Tryz.ntmps48
 go_upto_region 1 with fail;change Code.wp _ _ _ _ ((w.alloc (.cells (zQ n r md z s L G) 38)).alloc (.cells (zQ 0 0 0 0 Sl.nil 0 0) 38));rw [hW];clear hW;obtain ⟨x0,x1,x2,x3,x4,x5,x6,x7,x8,x9,fS,fT,fQ,fR⟩:=HX.out.q;go_wp2_with fail;refine (HW.out _ HB.out).mono ?_;rintro e w1 ⟨⟨t,rfl,ho⟩,hb⟩;have hlr:=HR.out.lt;have lZ:=zh (ho.mono (show w.heap.size + 2 ≤ W.heap.size by omega));have fC:=zh (HX.out.below hb);have eY:=zh (HR.out.below hb);have eW:=zh (zA HB.out hb);clear x0 x1 x2 x3 x4 x5 x6 x7 x8 x9 fS fT fQ fR;clear ho hb HX HR HB HW;have xf:=fC.out.f;obtain ⟨x0,x1,x2,x3,x4,x5,x6,x7,x8,x9,fS,fT,fQ,fR⟩:=fC.out.q;go_upto_region 2 with fail;clear xf;clear x0 x1 x2 x3 x4 x5 x6 x7 x8 x9 fS fT fQ fR;change Code.wp _ _ _ _ (pts w1 w.heap.size (yu t L G));have gm:=zh (fC.out.map t L G)
 have gj:=zh (eY.out.eD (show w.heap.size + 1 ≠ w.heap.size by omega) (yu t L G));have eV:=zh (zD (B:=w.heap.size) (b:=w.heap.size) (ai _) (yu t L G) eW.out);have gu:=zh (lZ.out.pts (show w.heap.size < w.heap.size + 2 by omega) (yu t L G));generalize pts w1 w.heap.size (yu t L G) = w2 at *;clear fC eY eW lZ;obtain ⟨x0,x1,x2,x3,x4,x5,x6,x7,x8,x9,fS,fT,fQ,fR⟩:=gm.out.q;obtain ⟨y0,y1,y2,y3,y4,y5,y6,y7,y8,y9,NM,NN,NP,NQ⟩:=gj.out.q;have rf:=gj.out.f;go_wp2_with fail;change bodyPost _ _ _ _ _ (pts w2 (w.heap.size + 1) (zJ n r md z t L G));have hby:=gj.out.all n r md z t L G;have ey:=zh (zD (B:=w.heap.size) (b:=(w.heap.size + 1)) (by omega) (zJ n r md z t L G) eV.out);have gJ:=(gu.out.pts (show w.heap.size + 1 < w.heap.size + 2 by omega) (zJ n r md z t L G)).mono (show w.heap.size ≤ w.heap.size + 2 by omega)
 generalize pts w2 (w.heap.size + 1) (zJ n r md z t L G) = V at *;exact au (v:=zV n r md z t L G) (by simp [results,Tryz.results48,go_sem,hby.q]) rfl ⟨⟨_,rfl,gJ⟩,ey.out⟩
theorem Yc (i l : Int) (r : Bool) (a : Option Addr) (n c : Nat) (L : List GP) (w : World) (h : fH w (.slice a n c) L) (hs : ∀ p ∈ L,∀ j,j < 8 → (p.1.m.st j).length ≤ 10000) :
  Calls Tryz.prog 11 #[ze i l r a n c] w (Kv w (tX ⟨i,l,r,ea L⟩)):=by
 have gH:=zh (fun W (hb : Below w.heap.size w W) => yU i l r a n c L W (h.below hb) hs);have eG:=zh (fc.new w i l r a n c 27);have eQ:=zh (zS w i l r a n c 27);have hcs : tX ⟨i,l,r,ea L⟩ = if zd ⟨i,l,r,ea L⟩ = true then (0,zK ⟨i,l,r,ea L⟩) else (1,gY):=rfl
 cases hv : zd ⟨i,l,r,ea L⟩
 ·
  rw [hv] at gH;rw [hv,ah (by decide)] at hcs;have HC:=zh hcs;clear h hs hv hcs
  go_enter Tryz.func11,Tryz.ntmps11
  go_upto_region 1 with fail;obtain ⟨W,hW⟩ : ∃ W,w.alloc (.cells (zN i l r a n c) 27) = W:=⟨_,rfl⟩
  change Code.wp _ _ _ _ ((w.alloc (.cells (zN i l r a n c) 27)).alloc (.cells (zQ 0 0 0 0 Sl.nil 0 0) 38));have hsz : W.heap.size = w.heap.size + 1:=by rw [← hW]; simp
  rw [hW] at eG eQ ⊢;clear hW;obtain ⟨W2,hW2⟩ : ∃ W2,W.alloc (.cells (zQ 0 0 0 0 Sl.nil 0 0) 38) = W2:=⟨_,rfl⟩
  have HR:=zh (show eH W2 (w.heap.size + 1) 0 0 0 0 Sl.nil 0 0 from by have:=eH.new W 0 0 0 0 Sl.nil 0 0 38; rw [hW2,hsz] at this; exact this);have eO:=zb W 0 0 0 0 Sl.nil 0 0 38;rw [hW2] at eO ⊢;have eV:=zh (zA eQ.out eO);have gm:=zh (eG.out.below eO);clear eO hW2;obtain ⟨k0,k1,k2,k3⟩:=gm.out.q;go_wp2_with fail;refine (gH.out _ eV.out).mono ?_;rintro e w1 ⟨rfl,hb1⟩;have eW:=zh (zA eV.out hb1);have fC:=zh (gm.out.below hb1);have eY:=zh (HR.out.below hb1);clear k0 k1 k2 k3 hb1 eV gm HR eG eQ;have rf:=eY.out.f;obtain ⟨y0,y1,y2,y3,y4,y5,y6,y7,y8,y9,NM,NN,NP,NQ⟩:=eY.out.q;go_wp2_with fail;change bodyPost _ _ _ _ _ (pts w1 (w.heap.size + 1) (zJ 0 0 0 0 Sl.nil 0 0));have hby:=eY.out.all 0 0 0 0 Sl.nil 0 0;have ey:=zh (zD (B:=w.heap.size) (b:=(w.heap.size + 1)) (by omega) (zJ 0 0 0 0 Sl.nil 0 0) eW.out)
  generalize pts w1 (w.heap.size + 1) (zJ 0 0 0 0 Sl.nil 0 0) = V at *;exact au (v:=.tuple #[zV 0 0 0 0 Sl.nil 0 0,.int .i64 1]) (by simp [results,Tryz.results11,go_sem,hby.q]) rfl ⟨⟨Sl.nil,by rw [HC.out]; first | done | rfl,by rw [HC.out]; exact eZ.nil _ _⟩,ey.out⟩
 rw [hv] at gH;rw [hv,ag rfl] at hcs;have hV:=(zZ _).1 hv;have gy : L.length = n:=by
  obtain ⟨_,_,e,_⟩:=h.shape;injection e with _ e _; exact e.symm
 have hl : (ea L).length = n:=by rw [yB,gy]
 have hn : 1 ≤ n ∧ n ≤ 8:=by have:=hV.len; simp only [hl] at this; exact this
 obtain ⟨j,rfl⟩ : ∃ j,n = j + 1:=⟨n - 1,by omega⟩
 rw [ul gy] at hcs;have HC:=zh hcs;have lz:=zh h;have hmem:=xN (l:=L) (i:=j) (by omega);have mJ:=zh (h.m _ hmem);have Ls:=zh (hs _ hmem);clear hV gy hl hv h hs hmem hcs;obtain ⟨b,off,rfl,hg⟩:=lz.out.at (show j < j + 1 by omega);have HG:=zh hg;clear hg lz;generalize pat L j = p at *;obtain ⟨⟨num,rev,md,sz,⟨f,LV,GA⟩⟩,s⟩:=p;dsimp only at *
 go_enter Tryz.func11,Tryz.ntmps11
 go_upto_region 1 with fail;obtain ⟨W,hW⟩ : ∃ W,w.alloc (.cells (zN i l r (some ⟨b,off,none⟩) (j + 1) c) 27) = W:=⟨_,rfl⟩
 change Code.wp _ _ _ _ ((w.alloc (.cells (zN i l r (some ⟨b,off,none⟩) (j + 1) c) 27)).alloc (.cells (zQ 0 0 0 0 Sl.nil 0 0) 38));have hsz : W.heap.size = w.heap.size + 1:=by rw [← hW]; simp
 rw [hW] at eG eQ ⊢;clear hW;obtain ⟨W2,hW2⟩ : ∃ W2,W.alloc (.cells (zQ 0 0 0 0 Sl.nil 0 0) 38) = W2:=⟨_,rfl⟩
 have HR:=zh (show eH W2 (w.heap.size + 1) 0 0 0 0 Sl.nil 0 0 from by have:=eH.new W 0 0 0 0 Sl.nil 0 0 38; rw [hW2,hsz] at this; exact this);have eO:=zb W 0 0 0 0 Sl.nil 0 0 38;rw [hW2] at eO ⊢;have eV:=zh (zA eQ.out eO);have gm:=zh (eG.out.below eO);clear eO hW2;obtain ⟨k0,k1,k2,k3⟩:=gm.out.q;go_wp2_with fail;refine (gH.out _ eV.out).mono ?_;rintro e w1 ⟨rfl,hb1⟩;have eW:=zh (zA eV.out hb1);have fC:=zh (gm.out.below hb1);have eY:=zh (HR.out.below hb1);clear k0 k1 k2 k3 hb1 eV gm HR eG eQ;have p_:=zh (HG.out.below eW.out);clear HG gH;have j3 : IntKind.i64.wrap (j : Int) = (j : Int):=aF _ (by omega);have i2 : (j : Int) < ((j + 1 : Nat) : Int):=by omega
 have v3:=fC.out.c3;obtain ⟨g0,g1,g2,g3,g4,g5,g6,g7,g8,g9,g10,g11,g12,g13⟩:=p_.out.q
 try dsimp only at g0 g1 g2 g3 g4 g5 g6 g7 g8 g9 g10 g11 g12 g13
 go_wp2_with fail;refine (uz ⟨num,rev,md,sz,⟨f,LV,GA⟩⟩ s w1 (mJ.out.below eW.out) Ls.out).mono ?_;rintro e w2 ⟨⟨t,rfl,ho⟩,hb2⟩;have hlr:=eY.out.lt;have gu:=zh (ho.mono (show w.heap.size + 2 ≤ w1.heap.size by omega));have gj:=zh (eY.out.below hb2);have eV:=zh (zA eW.out hb2);clear ho hb2 eY eW fC p_ v3;clear g0 g1 g2 g3 g4 g5 g6 g7 g8 g9 g10 g11 g12 g13;have rf:=gj.out.f;obtain ⟨y0,y1,y2,y3,y4,y5,y6,y7,y8,y9,NM,NN,NP,NQ⟩:=gj.out.q;go_wp2_with fail;change bodyPost _ _ _ _ _ (pts w2 (w.heap.size + 1) (zJ num rev md sz t LV GA));have hby:=gj.out.all num rev md sz t LV GA;have ey:=zh (zD (B:=w.heap.size) (b:=(w.heap.size + 1)) (by omega) (zJ num rev md sz t LV GA) eV.out);have gJ:=(gu.out.pts (show w.heap.size + 1 < w.heap.size + 2 by omega) (zJ num rev md sz t LV GA)).mono (show w.heap.size ≤ w.heap.size + 2 by omega)
 generalize pts w2 (w.heap.size + 1) (zJ num rev md sz t LV GA) = V at *;exact au (v:=.tuple #[zV num rev md sz t LV GA,.int .i64 0]) (by simp [results,Tryz.results11,go_sem,hby.q]) rfl ⟨⟨t,by rw [HC.out]; first | done | rfl,by rw [HC.out]; exact gJ⟩,ey.out⟩
end Go.Proofs.YtcgfilmmokmdjaaGreat
