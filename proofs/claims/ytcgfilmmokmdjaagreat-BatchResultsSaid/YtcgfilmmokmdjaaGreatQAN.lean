/- A part of the walk. -/
import Derived.Test.YtcgfilmmokmdjaaGreatQAM
import Derived.Test.YtcgfilmmokmdjaaGreatQAL
import Derived.Test.YtcgfilmmokmdjaaGreatQAI
import Derived.Test.YtcgfilmmokmdjaaGreatQAK
set_option linter.all false
set_option maxRecDepth 100000
set_option maxHeartbeats 32000000
namespace Go.Proofs.YtcgfilmmokmdjaaGreat
def FZ (g : Gn) (key : Int) : Gn := { g with m := yJ g.m key }
theorem ja.room {g : Gn} (h : ja g) (key : Int) : g.m.dW + (gW (ze g.m key) : Int) ≤ 1099511627776 := by
 have := h.small;have := NF (ze g.m key);omega
theorem XJ {g : Gn} (h : ja g) (key : Int) : ja (FZ g key) := by
 have hm := (zV _).1 h.m;have hr := h.room key;have hd := hm.del hr;have hs := qy hm hr;have KL := h.sum;refine ⟨h.num, h.rev, h.mode, h.size, (zV _).2 hd, Xk hm hd h.ends (cT _) ?_, ?_⟩
 ·
  intro k y hy;rw [kR hm hr] at hy
  split at hy
  ·
   cases hy
  exact hy
 show g.size = 16 + (yJ g.m key).live + (yJ g.m key).dW
 omega
theorem zHL {g : Gn} (h : ja g) (hm : g.mode ≠ 1) (key : Int) : ye g [key] = (0, FZ g key) := by
 unfold ye;rw [ag ((yD g).2 h), ah hm]; rfl
theorem zIq {l : List Gn} {i : Nat} (hi : i < l.length) : l[i]? = some (eN l i) := by
 unfold eN; rw [ax, aB hi]; rfl
theorem vF {l : List Gn} {j : Nat} (hj : j < l.length) (g : Gn) (i : Nat) : eN (l.set j g) i = if i = j then g else eN l i := by
 unfold eN;rw [ax, dH, ax]
 by_cases e : j = i
 ·
  rw [ag e, ag e.symm, ag hj]; rfl
 rw [ah e, ah fun h => e h.symm]
theorem eo.inj {s : eL} (h : eo s) : ∀ {i j : Nat}, i < j → j < s.dU.length → (eN s.dU i).num < (eN s.dU j).num
 | i, 0, hij, _ => by omega
 | i, j + 1, hij, hj => by
  have h1 := (h.g (j + 1) hj).2.1 (by omega);rw [show j + 1 - 1 = j by omega] at h1
  by_cases e : i = j
  ·
   rw [e]; exact h1
  have := eo.inj h (show i < j by omega) (by omega);omega
theorem eo.rJ {s : eL} (h : eo s) {i j : Nat} (hi : i < s.dU.length) (hj : j < s.dU.length) (hne : i ≠ j) : (eN s.dU i).num ≠ (eN s.dU j).num := by
 rcases Nat.lt_or_gt_of_ne hne with h1 | h1
 ·
  have := h.inj h1 hj; omega
 have := h.inj h1 hi; omega
theorem zJR {s : eL} (h : eo s) {j : Nat} (hj : j < s.dU.length) {g : Gn} (hg : g.num = (eN s.dU j).num) : uV s.dU g = s.dU.set j g := by
 refine List.ext_getElem? fun i => ?_
 unfold uV;rw [cm, dH]
 by_cases hi : i < s.dU.length
 ·
  rw [zIq hi]
  by_cases hij : j = i
  ·
   subst hij;rw [ag rfl, ag hj];simp [hg]
  rw [ah hij];have h1 : (eN s.dU i).num ≠ g.num := by rw [hg]; exact h.rJ hi hj fun e => hij e.symm
  simp [h1]
 rw [ah (by omega), List.getElem?_eq_none (by omega)]
 rfl
structure Fit (s : eL) (j : Nat) (g : Gn) : Prop where
 hj : j < s.dU.length
 v : ja g
 n : g.num = (eN s.dU j).num
 m : g.mode = 1 ↔ j + 1 = s.dU.length
 z : g.size ≤ 2 * s.lim
 t : j + 1 = s.dU.length → g.size + (((zI g.m).length * 24 : Nat) : Int) ≤ 2 * s.lim
def uF (s : eL) (j : Nat) (g : Gn) : eL := ⟨s.id, s.lim, s.ro, s.dU.set j g⟩
theorem XK {s : eL} (h : eo s) {j : Nat} {g : Gn} (hf : Fit s j g) : eo (uF s j g) := by
 have hj := hf.hj;refine ⟨h.id, h.lim, by show 1 ≤ (s.dU.set j g).length ∧ (s.dU.set j g).length ≤ 8; rw [aZ]; exact h.len, fun i hi => ?_, ?_⟩
 ·
  have hi : i < s.dU.length := by have : i < (s.dU.set j g).length := hi; rwa [aZ] at this
  have ho := h.g i hi;unfold Bg uF;dsimp only;rw [aZ, vF hj, vF hj];obtain ⟨h1, h2, h3, h4⟩ := ho
  by_cases e : i = j
  ·
   subst e;rw [ag rfl];refine ⟨(yD _).2 hf.v, fun h0 => ?_, hf.m, hf.z⟩;rw [ah (by omega), hf.n];exact h2 h0
  rw [ah e];refine ⟨h1, fun h0 => ?_, h3, h4⟩
  by_cases e2 : i - 1 = j
  ·
   rw [ag e2, hf.n, ← e2]; exact h2 h0
  rw [ah e2]; exact h2 h0
 have hl := h.len
 show (eN (s.dU.set j g) ((s.dU.set j g).length - 1)).size + (((zI (eN (s.dU.set j g) ((s.dU.set j g).length - 1)).m).length * 24 : Nat) : Int) ≤ 2 * s.lim
 rw [aZ, vF hj]
 by_cases e : s.dU.length - 1 = j
 ·
  rw [ag e]; exact hf.t (by omega)
 rw [ah e]; exact h.top
theorem N4 {s : eL} (h : eo s) {j : Nat} {g : Gn} (hf : Fit s j g) : yb s g = (uF s j g, 0) := by
 have hv := (zR _).2 (XK h hf);have hp := zJR h hf.hj hf.n;unfold uF at hv ⊢;unfold yb;rw [ag ((zR s).2 h), hp, ag ?_, ag hv]
 ·
  rw [List.any_eq_true];exact ⟨eN s.dU j, th hf.hj, by simp [hf.n]⟩
theorem fit_drop {s : eL} (h : eo s) {j : Nat} (hj : j + 1 < s.dU.length) (key : Int) : Fit s j (FZ (eN s.dU j) key) := by
 have ho := h.g j (by omega);exact ⟨by omega, XJ (h.vg (by omega)) key, rfl, ho.2.2.1, ho.2.2.2, fun e => by omega⟩
/-! ### The numbers of the older fE -/
theorem Rz (l : List Gn) (key : Int) : ∀ (n i : Nat), i < (kF l key n).length → ∃ r, r < n ∧ (kF l key n)[i]? = some (eN l r).num ∧ ze (eN l r).m key ≠ none ∧ (kF l key r).length = i
 | 0, i, h => by cases h
 | n + 1, i, h => by
  have e : kF l key (n + 1) = kF l key n ++ (match ze (eN l n).m key with | some _ => [(eN l n).num] | none => []) := rfl
  by_cases hi : i < (kF l key n).length
  ·
   obtain ⟨r, h1, h2, h3, h4⟩ := Rz l key n i hi;exact ⟨r, by omega, by rw [e, dP hi]; exact h2, h3, h4⟩
  rw [e, aA] at h
  cases hx : ze (eN l n).m key with
  | none => rw [hx] at h; simp at h; omega
  | some x =>
   rw [hx] at h;have hi2 : i = (kF l key n).length := by simp at h; omega
   refine ⟨n, by omega, ?_, by rw [hx]; exact (fun h => by cases h), hi2.symm⟩;rw [e, hx, dD (by omega), hi2];simp
/-! ### The slot after the Ln below place c -/
structure Dn (S : eL) (key : Int) (c : Nat) (s : eL) : Prop where
 v : eo s
 id : s.id = S.id
 lim : s.lim = S.lim
 ro : s.ro = S.ro
 len : s.dU.length = S.dU.length
 num : ∀ r, r < S.dU.length → (eN s.dU r).num = (eN S.dU r).num
 lo : ∀ r, r < c → r < S.dU.length → ze (eN s.dU r).m key = none
 hi : ∀ r, c ≤ r → eN s.dU r = eN S.dU r
 st : eV 48 s.dU
/-! ### What is found -/
theorem XL {l : List Gn} {key : Int} : ∀ {n : Nat} {x : jT} {t : List jT}, xu l key n = x :: t → x.at_ < n ∧ x.mode = (eN l x.at_).mode ∧ ze (eN l x.at_).m key = some x.it ∧ x.gen = (eN l x.at_).num ∧ x.rev = (eN l x.at_).rev ∧ ∀ r, x.at_ < r → r < n → ze (eN l r).m key = none
 | 0, _, _, h => by cases h
 | n + 1, x, t, h => by
  have e : xu l key (n + 1) = (match ze (eN l n).m key with | some x => [⟨(eN l n).num, (eN l n).mode, (eN l n).rev, x, n⟩] | none => []) ++ xu l key n := rfl;rw [e] at h
  cases hx : ze (eN l n).m key with
  | some y =>
   rw [hx] at h;injection h with h1 _;subst h1;exact ⟨dA n, rfl, hx, rfl, rfl, fun r h1 h2 => by dsimp only at h1; omega⟩
  | none =>
   rw [hx] at h;obtain ⟨h1, h2, h3, h4, h5, h6⟩ := XL (show xu l key n = x :: t from h)
   exact ⟨by omega, h2, h3, h4, h5, fun r h7 h8 => by
    by_cases e : r = n
    ·
     rw [e]; exact hx
    exact h6 r h7 (by omega)⟩
theorem RA {s : eL} (h : eo s) (key : Int) : yM s key = xu s.dU key s.dU.length := by unfold yM; rw [ag ((zR s).2 h)]
theorem XM {s : eL} (h : eo s) (key : Int) : zk s key = kF s.dU key (s.dU.length - 1) := by unfold zk; rw [ag ((zR s).2 h)]
theorem zEu {g : Gn} (hg : ja g) {x : Nd} (hx : x.ok) (hz : g.size + (eM x.data.length : Int) ≤ 1048576) (key : Int) :
  ze (yT g x).m key = if (x.key : Int) = key then (if x.del = true then none else some (Bh g x)) else ze g.m key := by
 have hm := (zV _).1 hg.m;have hs := hg.small;have hxl := xx x.data.length;unfold yT;dsimp only
 by_cases hd : x.del = true
 ·
  rw [ag hd];have h1 : g.m.dW + (gW (ze g.m x.key) : Int) ≤ 1099511627776 := hg.room _;have oI := hm.del h1;have hds := qy hm h1;have iz := oI.live0;have h2 : (yJ g.m x.key).dW + (eM x.data.length : Int) ≤ 1099511627776 := by omega
  have hw := oI.C_ (n := (eM x.data.length : Int)) (by omega) h2;rw [xZ hw, uI, ← xZ oI, kR hm h1];simp only [hd, if_true]
 rw [ah hd];have hok := Xl hg hx;have h1 : g.m.dW + (gW (ze g.m (Bh g x).key) : Int) ≤ 1099511627776 := hg.room _;rw [Wh hm hok h1, ah hd]
 rfl
/-! ### The slot with nQ added to its last generation -/
noncomputable def zMW (S : eL) (l : List Nd) : eL := uF S (S.dU.length - 1) (zb (zS S) l)
theorem XP {S : eL} (h : eo S) : uG S = (0, zS S) := by unfold uG; rw [ag ((zR S).2 h)]
theorem zLj {S : eL} (h : eo S) {g : Gn} (hg : g.num = (zS S).num ∧ g.rev = (zS S).rev ∧ g.mode = (zS S).mode) (key : Int) :
  xu (S.dU.set (S.dU.length - 1) g) key S.dU.length = (match ze g.m key with | some x => [⟨(zS S).num, (zS S).mode, (zS S).rev, x, S.dU.length - 1⟩] | none => []) ++ xu S.dU key (S.dU.length - 1) := by
 have hlen := h.len;obtain ⟨k, hk⟩ : ∃ k, S.dU.length = k + 1 := ⟨S.dU.length - 1, by omega⟩
 have hj : S.dU.length - 1 < S.dU.length := by omega
 have Lp : ∀ n, n ≤ S.dU.length - 1 → xu (S.dU.set (S.dU.length - 1) g) key n = xu S.dU key n := by
  intro n
  induction n with
  | zero => intro _; rfl
  | succ n ih =>
   intro hn;unfold xu;rw [ih (by omega), vF hj, ah (by omega)]
 have e : xu (S.dU.set (S.dU.length - 1) g) key S.dU.length = (match ze (eN (S.dU.set (S.dU.length - 1) g) (S.dU.length - 1)).m key with | some x => [⟨(eN (S.dU.set (S.dU.length - 1) g) (S.dU.length - 1)).num, (eN (S.dU.set (S.dU.length - 1) g) (S.dU.length - 1)).mode, (eN (S.dU.set (S.dU.length - 1) g) (S.dU.length - 1)).rev, x, S.dU.length - 1⟩] | none => []) ++ xu (S.dU.set (S.dU.length - 1) g) key (S.dU.length - 1) := by
  rw [hk]; rfl
 rw [e, Lp _ (ai _), vF hj, ag rfl, hg.1, hg.2.1, hg.2.2]
theorem RB {S : eL} (h : eo S) (key : Int) :
  xu S.dU key S.dU.length = (match ze (zS S).m key with | some x => [⟨(zS S).num, (zS S).mode, (zS S).rev, x, S.dU.length - 1⟩] | none => []) ++ xu S.dU key (S.dU.length - 1) := by
 have hlen := h.len;obtain ⟨k, hk⟩ : ∃ k, S.dU.length = k + 1 := ⟨S.dU.length - 1, by omega⟩
 unfold zS;rw [hk]; rfl
structure Rq where
  tk : Int
  kind : Int
  key : Nat
  ck : Nat
  data : List UInt8
def JC : Rq := ⟨0, 0, 0, 0, []⟩
instance : Inhabited Rq := ⟨JC⟩
def Rq.Wf (q : Rq) : Prop := q.key < 18446744073709551616 ∧ q.ck < 4294967296
abbrev Kl := Int × List Int
structure fh where
  t : eL
  ey : Bool
  ep : List Kl
  needs : List Nd
  res : List Int
  bytes : Int
noncomputable def vH (P : fh) (x : Nd) : fh := { P with t := (yb P.t (yt (uG P.t).2 [x]).2).1, needs := P.needs ++ [x], bytes := P.bytes + (eM x.data.length : Int) }
def kP (l : List Gn) (num : Int) : Nat := (l.findIdx? fun g => decide (g.num = num)).getD l.length
noncomputable def yX (s : eL) (num : Int) (keys : List Int) : eL × Int :=
  if kP s.dU num < s.dU.length then (if (ye (eN s.dU (kP s.dU num)) keys).1 = 0 then yb s (ye (eN s.dU (kP s.dU num)) keys).2 else (xP, (ye (eN s.dU (kP s.dU num)) keys).1)) else (xP, 6)
def fH (l : List Kl) (num : Int) : Nat := (l.findIdx? fun k => decide (num ≤ k.1)).getD l.length
def yH (l : List Kl) (i : Nat) : Kl := l.getD i (0, [])
def kM (l : List Kl) (num key : Int) : List Kl :=
  if fH l num < l.length ∧ (yH l (fH l num)).1 = num then l.set (fH l num) (num, (yH l (fH l num)).2 ++ [key])
  else l.take (fH l num) ++ (num, [key]) :: l.drop (fH l num)
noncomputable def xS (key : Int) (P : fh) (num : Int) : fh := { P with t := (yX P.t num [key]).1, ep := kM P.ep num key }
noncomputable def vI (t : eL) (key : Int) : Bool := !(yM t key).isEmpty && decide (((yM t key).headD us).mode = 1)
noncomputable def yW (P : fh) (key : Int) : fh := (zk P.t key).foldl (xS key) P
def Dj (q : Rq) : Nd := ⟨q.key, q.ck, true, []⟩
def uy (q : Rq) : Nd := ⟨q.key, q.ck, false, q.data⟩
noncomputable def yZ (P : fh) (q : Rq) : fh := if vI (yW P q.key).t q.key = true then vH (yW P q.key) (Dj q) else yW P q.key
noncomputable def zy (t : eL) (q : Rq) : Int := if 4096 < q.data.length then 8 else if wW t (q.data.length : Int) = true then 0 else 9
noncomputable def xI (t : eL) (q : Rq) : Int := if (yM t q.key).isEmpty = false ∧ ((yM t q.key).headD us).it.ck = (q.ck : Int) then 0 else 6
def more (P : fh) (e : Int) : fh := { P with res := P.res ++ [e] }
noncomputable def zT (P : fh) (q : Rq) : Bool × fh :=
  if P.res.length = 16 then (false, P)
  else if q.kind = 1 then
    (if zy P.t q = 9 ∧ xe P.t = true then (false, { P with ey := decide (P.res.length = 0) })
     else if zy P.t q = 0 then
       (if 0 < P.bytes ∧ 16384 < P.bytes + (eM q.data.length : Int) then (false, P) else (true, more (vH P (uy q)) 0))
     else (true, more P (zy P.t q)))
  else if q.kind = 2 then
    (if xI P.t q = 0 then
       (if vI P.t q.key = true ∧ 0 < P.bytes ∧ 16384 < P.bytes + 24 then (false, P) else (true, more (yZ P q) 0))
     else (true, more P 6))
  else (true, more P 1)
noncomputable def wJ : List Rq → fh → fh
  | [], P => P
  | q :: r, P => if (zT P q).1 = true then wJ r (zT P q).2 else (zT P q).2
def yR (s : eL) : fh := ⟨s, false, [], [], [], 0⟩
noncomputable def zm (s : eL) (l : List Rq) : fh × Int := if zg s = true then (wJ l (yR s), 0) else (yR xP, 1)
/-! ### XR far the numbers go -/
theorem RD (P : fh) (x : Nd) : (vH P x).res = P.res := rfl
theorem yl (P : fh) (key : Int) : (yW P key).res = P.res ∧ (yW P key).needs = P.needs ∧ (yW P key).bytes = P.bytes ∧ (yW P key).ey = P.ey := by
  have h : ∀ (l : List Int) (P : fh), (l.foldl (xS key) P).res = P.res ∧ (l.foldl (xS key) P).needs = P.needs ∧ (l.foldl (xS key) P).bytes = P.bytes ∧ (l.foldl (xS key) P).ey = P.ey := by
    intro l
    induction l with
    | nil => intro P; exact ⟨rfl, rfl, rfl, rfl⟩
    | cons x r ih =>
      intro P;have := ih (xS key P x);exact this
  exact h _ P
theorem uW (P : fh) (q : Rq) (h : P.res.length ≤ 16) : (zT P q).2.res.length ≤ 16 ∧ P.res.length ≤ (zT P q).2.res.length ∧ ((zT P q).1 = true → (zT P q).2.res.length = P.res.length + 1) := by
  have hd : (yZ P q).res = P.res := by
    unfold yZ
    split
    · rw [RD]; exact (yl P q.key).1
    exact (yl P q.key).1
  have hm : ∀ (Q : fh) (e : Int), (more Q e).res.length = Q.res.length + 1 := fun Q e => by unfold more; simp
  unfold zT
  split
  · exact ⟨h, ai _, fun h => by cases h⟩
  split
  · split
    · exact ⟨h, ai _, fun h => by cases h⟩
    split
    · split
      · exact ⟨h, ai _, fun h => by cases h⟩
      dsimp only; rw [hm, RD]; exact ⟨by omega, by omega, fun _ => rfl⟩
    dsimp only; rw [hm]; exact ⟨by omega, by omega, fun _ => rfl⟩
  split
  · split
    · split
      · exact ⟨h, ai _, fun h => by cases h⟩
      dsimp only; rw [hm, hd]; exact ⟨by omega, by omega, fun _ => rfl⟩
    dsimp only; rw [hm]; exact ⟨by omega, by omega, fun _ => rfl⟩
  dsimp only; rw [hm]; exact ⟨by omega, by omega, fun _ => rfl⟩
structure SmP (K : Nat) (P : fh) : Prop where
  l : eV (K + P.needs.length) P.t.dU
  n : P.needs.length ≤ P.res.length
  r : P.res.length ≤ 16
  b0 : 0 ≤ P.bytes
  b1 : P.bytes ≤ 4128 * (P.needs.length : Int)
  k : P.ep.length ≤ 8 * P.res.length
  kk : ∀ x ∈ P.ep, x.2.length ≤ 8 * P.res.length
  x : ∀ x ∈ P.needs, x.data.length ≤ 4096
end Go.Proofs.YtcgfilmmokmdjaaGreat
namespace Go.Proofs.YtcgfilmmokmdjaaGreat
open Go.RowKit
theorem vP {i l : Int} {r : Bool} {L : List GP} {j : Nat} (h : L.length = j + 1) : zS ⟨i, l, r, dZ L⟩ = (pat L j).1 := by
 unfold zS
 show eN (dZ L) ((dZ L).length - 1) = _
 rw [zj, h, yu]
 rfl
theorem qY (i l : Int) (r : Bool) (a : Option Addr) (n c : Nat) (L : List GP) (w : World) (h : fq w (.slice a n c) L) (hs : ∀ p ∈ L, ∀ j, j < 8 → (p.1.m.st j).length ≤ 10000) :
  Calls Tryz.prog 35 #[zZ i l r a n c] w fun e w' => e = .returned (.bool (xe ⟨i, l, r, dZ L⟩)) ∧ Below w.heap.size w w' := by
 have gu := zh (fun W (hb : Below w.heap.size w W) => yQ i l r a n c L W (h.below hb) hs);have eE := zh (eT.new w i l r a n c 27);have eD := zh (zN w i l r a n c 27);have hcs : xe ⟨i, l, r, dZ L⟩ = (zg ⟨i, l, r, dZ L⟩ && decide ((zS ⟨i, l, r, dZ L⟩).num < 8)) := rfl;rw [hcs];clear hcs
 cases hv : zg ⟨i, l, r, dZ L⟩
 ·
  rw [hv] at gu;clear h hs hv
  go_enter Tryz.func35, Tryz.ntmps35
  go_upto_region 1 with fail;obtain ⟨W, hW⟩ : ∃ W, w.alloc (.cells (zK i l r a n c) 27) = W := ⟨_, rfl⟩
  change Code.wp _ _ _ _ (w.alloc (.cells (zK i l r a n c) 27));rw [hW] at eE eD ⊢;clear hW;have rE := eE.out.lt;obtain ⟨k0, k1, k2, k3⟩ := eE.out.q;go_wp2_with fail;refine (gu.out _ eD.out).mono ?_;rintro e w1 ⟨rfl, hb1⟩;have eQ := zh (zA eD.out hb1);clear k0 k1 k2 k3 hb1;go_wp2_with fail;go_ret;exact ⟨rfl, eQ.out⟩
 rw [hv] at gu;have hV := (zR _).1 hv;have fR : L.length = n := by
  obtain ⟨_, _, e, _⟩ := h.shape;injection e with _ e _; exact e.symm
 have hl : (dZ L).length = n := by rw [zj, fR]
 have hn : 1 ≤ n ∧ n ≤ 8 := by have := hV.len; simp only [hl] at this; exact this
 obtain ⟨j, rfl⟩ : ∃ j, n = j + 1 := ⟨n - 1, by omega⟩
 rw [vP fR];have HR := zh h;clear hV fR hl hv h hs;obtain ⟨b, off, rfl, hg⟩ := HR.out.at (show j < j + 1 by omega);have HG := zh hg;clear hg HR;generalize pat L j = p at *;obtain ⟨⟨num, rev, md, sz, f, LV, GA⟩, s⟩ := p;dsimp only at *
 go_enter Tryz.func35, Tryz.ntmps35
 go_upto_region 1 with fail;obtain ⟨W, hW⟩ : ∃ W, w.alloc (.cells (zK i l r (some ⟨b, off, none⟩) (j + 1) c) 27) = W := ⟨_, rfl⟩
 change Code.wp _ _ _ _ (w.alloc (.cells (zK i l r (some ⟨b, off, none⟩) (j + 1) c) 27));rw [hW] at eE eD ⊢;clear hW;have rE := eE.out.lt;obtain ⟨k0, k1, k2, k3⟩ := eE.out.q;go_wp2_with fail;refine (gu.out _ eD.out).mono ?_;rintro e w1 ⟨rfl, hb1⟩;clear k0 k1 k2 k3;have eQ := zh (zA eD.out hb1);have fp := zh (eE.out.below hb1);have pX := zh (HG.out.below eQ.out);clear hb1 eD eE HG gu;have j3 : IntKind.i64.wrap (j : Int) = (j : Int) := aH _ (by omega);have i2 : (j : Int) < ((j + 1 : Nat) : Int) := by omega
 have v3 := fp.out.c3;have g0 := pX.out.n0;dsimp only at g0;go_wp2_with fail;go_ret;exact ⟨by simp, eQ.out⟩
theorem qd (g : Gn) (s : Sl) (w : World) (h : fw w s g.m.st) (hs : ∀ i, i < 8 → (g.m.st i).length ≤ 10000) :
  Calls Tryz.prog 48 #[za g.num g.rev g.mode g.size s g.m.live g.m.dW] w fun e w' => (∃ s', e = .returned (za g.num g.rev g.mode g.size s' g.m.live g.m.dW) ∧ eU w' w.heap.size s' g.m.st) ∧ Below w.heap.size w w' := by
 have HW := zh (fun W (hb : Below w.heap.size w W) => vT s g.m 0 W (h.below hb) hs);rw [vj] at HW;obtain ⟨n, r, md, z, ⟨f, L, G⟩⟩ := g;dsimp only at *;obtain ⟨W, hW, fc, hbr, fB⟩ := wU w n r md z s L G 38;have HX := zh fc;have HR := zh hbr;have HB := zh fB;clear fc hbr fB h hs
 go_enter Tryz.func48, Tryz.ntmps48
 go_upto_region 1 with fail;change Code.wp _ _ _ _ ((w.alloc (.cells (zW n r md z s L G) 38)).alloc (.cells (zW 0 0 0 0 Sl.nil 0 0) 38));rw [hW];clear hW;obtain ⟨x0, x1, x2, x3, x4, x5, x6, x7, x8, x9, fM, fN, fK, fL⟩ := HX.out.q;go_wp2_with fail;refine (HW.out _ HB.out).mono ?_;rintro e w1 ⟨⟨t, rfl, ho⟩, hb⟩;have hlr := HR.out.lt;have mR := zh (ho.mono (show w.heap.size + 2 ≤ W.heap.size by omega));have fp := zh (HX.out.below hb);have eY := zh (HR.out.below hb);have eQ := zh (zA HB.out hb);clear x0 x1 x2 x3 x4 x5 x6 x7 x8 x9 fM fN fK fL;clear ho hb HX HR HB HW;have xf := fp.out.f;obtain ⟨x0, x1, x2, x3, x4, x5, x6, x7, x8, x9, fM, fN, fK, fL⟩ := fp.out.q;go_upto_region 2 with fail;clear xf;clear x0 x1 x2 x3 x4 x5 x6 x7 x8 x9 fM fN fK fL;change Code.wp _ _ _ _ (pts w1 w.heap.size (yp t L G));have fU := zh (fp.out.map t L G)
 have fZ := zh (eY.out.eu (show w.heap.size + 1 ≠ w.heap.size by omega) (yp t L G));have eP := zh (zD (B := w.heap.size) (b := w.heap.size) (ai _) (yp t L G) eQ.out);have gj := zh (mR.out.pts (show w.heap.size < w.heap.size + 2 by omega) (yp t L G));generalize pts w1 w.heap.size (yp t L G) = w2 at *;clear fp eY eQ mR;obtain ⟨x0, x1, x2, x3, x4, x5, x6, x7, x8, x9, fM, fN, fK, fL⟩ := fU.out.q;obtain ⟨y0, y1, y2, y3, y4, y5, y6, y7, y8, y9, FT, FU, FV, FW⟩ := fZ.out.q;have rf := fZ.out.f;go_wp2_with fail;change bodyPost _ _ _ _ _ (pts w2 (w.heap.size + 1) (zL n r md z t L G));have hby := fZ.out.all n r md z t L G;have ek := zh (zD (B := w.heap.size) (b := (w.heap.size + 1)) (by omega) (zL n r md z t L G) eP.out);have gB := (gj.out.pts (show w.heap.size + 1 < w.heap.size + 2 by omega) (zL n r md z t L G)).mono (show w.heap.size ≤ w.heap.size + 2 by omega)
 generalize pts w2 (w.heap.size + 1) (zL n r md z t L G) = V at *;exact aw (v := za n r md z t L G) (by simp [results, Tryz.results48, go_sem, hby.q]) rfl ⟨⟨_, rfl, gB⟩, ek.out⟩
theorem XS (i l : Int) (r : Bool) (a : Option Addr) (n c : Nat) (L : List GP) (w : World) (h : fq w (.slice a n c) L) (hs : ∀ p ∈ L, ∀ j, j < 8 → (p.1.m.st j).length ≤ 10000) :
  Calls Tryz.prog 11 #[zZ i l r a n c] w (G4 w (uG ⟨i, l, r, dZ L⟩)) := by
 have gu := zh (fun W (hb : Below w.heap.size w W) => yQ i l r a n c L W (h.below hb) hs);have eE := zh (eT.new w i l r a n c 27);have eD := zh (zN w i l r a n c 27);have hcs : uG ⟨i, l, r, dZ L⟩ = if zg ⟨i, l, r, dZ L⟩ = true then (0, zS ⟨i, l, r, dZ L⟩) else (1, fW) := rfl
 cases hv : zg ⟨i, l, r, dZ L⟩
 ·
  rw [hv] at gu;rw [hv, ah (by decide)] at hcs;have HC := zh hcs;clear h hs hv hcs
  go_enter Tryz.func11, Tryz.ntmps11
  go_upto_region 1 with fail;obtain ⟨W, hW⟩ : ∃ W, w.alloc (.cells (zK i l r a n c) 27) = W := ⟨_, rfl⟩
  change Code.wp _ _ _ _ ((w.alloc (.cells (zK i l r a n c) 27)).alloc (.cells (zW 0 0 0 0 Sl.nil 0 0) 38));have hsz : W.heap.size = w.heap.size + 1 := by rw [← hW]; simp
  rw [hW] at eE eD ⊢;clear hW;obtain ⟨W2, hW2⟩ : ∃ W2, W.alloc (.cells (zW 0 0 0 0 Sl.nil 0 0) 38) = W2 := ⟨_, rfl⟩
  have HR := zh (show eA W2 (w.heap.size + 1) 0 0 0 0 Sl.nil 0 0 from by have := eA.new W 0 0 0 0 Sl.nil 0 0 38; rw [hW2, hsz] at this; exact this);have eG := zQ W 0 0 0 0 Sl.nil 0 0 38;rw [hW2] at eG ⊢;have eP := zh (zA eD.out eG);have fU := zh (eE.out.below eG);clear eG hW2;obtain ⟨k0, k1, k2, k3⟩ := fU.out.q;go_wp2_with fail;refine (gu.out _ eP.out).mono ?_;rintro e w1 ⟨rfl, hb1⟩;have eQ := zh (zA eP.out hb1);have fp := zh (fU.out.below hb1);have eY := zh (HR.out.below hb1);clear k0 k1 k2 k3 hb1 eP fU HR eE eD;have rf := eY.out.f;obtain ⟨y0, y1, y2, y3, y4, y5, y6, y7, y8, y9, FT, FU, FV, FW⟩ := eY.out.q;go_wp2_with fail;change bodyPost _ _ _ _ _ (pts w1 (w.heap.size + 1) (zL 0 0 0 0 Sl.nil 0 0));have hby := eY.out.all 0 0 0 0 Sl.nil 0 0;have ek := zh (zD (B := w.heap.size) (b := (w.heap.size + 1)) (by omega) (zL 0 0 0 0 Sl.nil 0 0) eQ.out)
  generalize pts w1 (w.heap.size + 1) (zL 0 0 0 0 Sl.nil 0 0) = V at *;exact aw (v := .tuple #[za 0 0 0 0 Sl.nil 0 0, .int .i64 1]) (by simp [results, Tryz.results11, go_sem, hby.q]) rfl ⟨⟨Sl.nil, by rw [HC.out]; first | done | rfl, by rw [HC.out]; exact eU.nil _ _⟩, ek.out⟩
 rw [hv] at gu;rw [hv, ag rfl] at hcs;have hV := (zR _).1 hv;have fR : L.length = n := by
  obtain ⟨_, _, e, _⟩ := h.shape;injection e with _ e _; exact e.symm
 have hl : (dZ L).length = n := by rw [zj, fR]
 have hn : 1 ≤ n ∧ n ≤ 8 := by have := hV.len; simp only [hl] at this; exact this
 obtain ⟨j, rfl⟩ : ∃ j, n = j + 1 := ⟨n - 1, by omega⟩
 rw [vP fR] at hcs;have HC := zh hcs;have jO := zh h;have hmem := yd (l := L) (i := j) (by omega);have l9 := zh (h.m _ hmem);have JD := zh (hs _ hmem);clear hV fR hl hv h hs hmem hcs;obtain ⟨b, off, rfl, hg⟩ := jO.out.at (show j < j + 1 by omega);have HG := zh hg;clear hg jO;generalize pat L j = p at *;obtain ⟨⟨num, rev, md, sz, ⟨f, LV, GA⟩⟩, s⟩ := p;dsimp only at *
 go_enter Tryz.func11, Tryz.ntmps11
 go_upto_region 1 with fail;obtain ⟨W, hW⟩ : ∃ W, w.alloc (.cells (zK i l r (some ⟨b, off, none⟩) (j + 1) c) 27) = W := ⟨_, rfl⟩
 change Code.wp _ _ _ _ ((w.alloc (.cells (zK i l r (some ⟨b, off, none⟩) (j + 1) c) 27)).alloc (.cells (zW 0 0 0 0 Sl.nil 0 0) 38));have hsz : W.heap.size = w.heap.size + 1 := by rw [← hW]; simp
 rw [hW] at eE eD ⊢;clear hW;obtain ⟨W2, hW2⟩ : ∃ W2, W.alloc (.cells (zW 0 0 0 0 Sl.nil 0 0) 38) = W2 := ⟨_, rfl⟩
 have HR := zh (show eA W2 (w.heap.size + 1) 0 0 0 0 Sl.nil 0 0 from by have := eA.new W 0 0 0 0 Sl.nil 0 0 38; rw [hW2, hsz] at this; exact this);have eG := zQ W 0 0 0 0 Sl.nil 0 0 38;rw [hW2] at eG ⊢;have eP := zh (zA eD.out eG);have fU := zh (eE.out.below eG);clear eG hW2;obtain ⟨k0, k1, k2, k3⟩ := fU.out.q;go_wp2_with fail;refine (gu.out _ eP.out).mono ?_;rintro e w1 ⟨rfl, hb1⟩;have eQ := zh (zA eP.out hb1);have fp := zh (fU.out.below hb1);have eY := zh (HR.out.below hb1);clear k0 k1 k2 k3 hb1 eP fU HR eE eD;have pX := zh (HG.out.below eQ.out);clear HG gu;have j3 : IntKind.i64.wrap (j : Int) = (j : Int) := aH _ (by omega);have i2 : (j : Int) < ((j + 1 : Nat) : Int) := by omega
 have v3 := fp.out.c3;obtain ⟨g0, g1, g2, g3, g4, g5, g6, g7, g8, g9, g10, g11, g12, g13⟩ := pX.out.q
 try dsimp only at g0 g1 g2 g3 g4 g5 g6 g7 g8 g9 g10 g11 g12 g13
 go_wp2_with fail;refine (qd ⟨num, rev, md, sz, ⟨f, LV, GA⟩⟩ s w1 (l9.out.below eQ.out) JD.out).mono ?_;rintro e w2 ⟨⟨t, rfl, ho⟩, hb2⟩;have hlr := eY.out.lt;have gj := zh (ho.mono (show w.heap.size + 2 ≤ w1.heap.size by omega));have fZ := zh (eY.out.below hb2);have eP := zh (zA eQ.out hb2);clear ho hb2 eY eQ fp pX v3;clear g0 g1 g2 g3 g4 g5 g6 g7 g8 g9 g10 g11 g12 g13;have rf := fZ.out.f;obtain ⟨y0, y1, y2, y3, y4, y5, y6, y7, y8, y9, FT, FU, FV, FW⟩ := fZ.out.q;go_wp2_with fail;change bodyPost _ _ _ _ _ (pts w2 (w.heap.size + 1) (zL num rev md sz t LV GA));have hby := fZ.out.all num rev md sz t LV GA;have ek := zh (zD (B := w.heap.size) (b := (w.heap.size + 1)) (by omega) (zL num rev md sz t LV GA) eP.out);have gB := (gj.out.pts (show w.heap.size + 1 < w.heap.size + 2 by omega) (zL num rev md sz t LV GA)).mono (show w.heap.size ≤ w.heap.size + 2 by omega)
 generalize pts w2 (w.heap.size + 1) (zL num rev md sz t LV GA) = V at *;exact aw (v := .tuple #[za num rev md sz t LV GA, .int .i64 0]) (by simp [results, Tryz.results11, go_sem, hby.q]) rfl ⟨⟨t, by rw [HC.out]; first | done | rfl, by rw [HC.out]; exact gB⟩, ek.out⟩
end Go.Proofs.YtcgfilmmokmdjaaGreat
