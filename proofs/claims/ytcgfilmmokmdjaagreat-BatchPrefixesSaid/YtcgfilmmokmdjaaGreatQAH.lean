/- A part of the walk. -/
import Derived.Test.YtcgfilmmokmdjaaGreatQAG
import Derived.Test.YtcgfilmmokmdjaaGreatMp
import Derived.Test.YtcgfilmmokmdjaaGreatQAA
import Derived.Shelf.SlSortCmp.WholeK
import Derived.Shelf.SlSortCmp.NoneTotal
import Derived.Test.YtcgfilmmokmdjaaGreatQAB
import Derived.Test.YtcgfilmmokmdjaaGreatQAD
import Derived.Test.YtcgfilmmokmdjaaGreatQAE
import Derived.Maps.AppendAt
set_option linter.all false
set_option maxRecDepth 100000
set_option maxHeartbeats 32000000
namespace Go.Proofs.YtcgfilmmokmdjaaGreat
def vO (f : Nat → List It) (k : Nat) (v : List It) : Nat → List It:=fun i => if i = k then v else f i
theorem WX (f : Nat → List It) (k : Nat) (v : List It) : vO f k v k = v:=ag rfl
theorem TR (f : Nat → List It) {k i : Nat} (h : i ≠ k) (v : List It) : vO f k v i = f i:=ah h
theorem zBx (f : Nat → List It) (k : Nat) (v : List It) : ∀ n,n ≤ k → cat (vO f k v) n = cat f n
 | 0,_ => rfl
 | n + 1,h => by
  show cat (vO f k v) n ++ vO f k v n = cat f n ++ f n
  rw [zBx f k v n (by omega),TR f (by omega)]
theorem zEz (f : Nat → List It) (k : Nat) (v : List It) : ∀ n,k < n → zu (cat (vO f k v) n) + zu (f k) = zu (cat f n) + zu v
 | 0,h => by omega
 | n + 1,h => by
  show zu (cat (vO f k v) n ++ vO f k v n) + zu (f k) = zu (cat f n ++ f n) + zu v
  rw [xM,xM]
  by_cases e : k = n
  ·
   subst e;rw [zBx f k v k (ai _),WX];omega
  have:=zEz f k v n (by omega);rw [TR f (by omega)];omega
theorem fN.upd {M : Mp} (h : fN M) {k : Nat} (hk : k < 8) {v : List It} (hv : xx v = true) (hs : ∀ x ∈ v,zg x.key = k) {L G : Int}
  (hL : L + (zu (M.st k) : Int) = M.live + (zu v : Int)) (g0 : 0 ≤ G) (g1 : G ≤ 1099511627776) : fN ⟨vO M.st k v,L,G⟩:=by
 have QT:=zEz M.st k v 8 hk;refine ⟨fun i hi => ?_,fun i hi x hx => ?_,?_,g0,g1⟩
 ·
  by_cases e : i = k
  ·
   show xx (vO M.st k v i) = true
   rw [e,WX]; exact hv
  show xx (vO M.st k v i) = true
  rw [TR _ e]; exact h.ok i hi
 ·
  have hx : x ∈ vO M.st k v i:=hx
  by_cases e : i = k
  ·
   rw [e,WX] at hx; rw [e]; exact hs x hx
  rw [TR _ e] at hx; exact h.sp i hi x hx
 show L = (zu (cat (vO M.st k v) 8) : Int)
 have hl:=h.lv;rw [show vS M = cat M.st 8 from rfl] at hl;omega
theorem zJy {l : List It} {x : It} (h : xx l = true) (hx : okB x = true) : xx (ins l x) = true:=by
 rw [un] at h ⊢;exact ⟨zEG h.1 x,Qi x (aX hx) l h.2⟩
theorem zIc {l : List It} (h : xx l = true) (key : Int) : xx (gB l key) = true:=by
 rw [un] at h ⊢;exact ⟨VK h.1 key,fun y hy => h.2 y (List.mem_filter.1 hy).1⟩
theorem xR {M : Mp} (h : fN M) (key : Int) : zR M key = fJ (M.st (zg key)) key:=by unfold zR; rw [ag ((zO M).2 h)]
theorem TS {M : Mp} (h : fN M) {x : It} (hx : okB x = true) (hg : M.dZ + (gW (zR M x.key) : Int) ≤ 1099511627776) :
  wX M x = ⟨vO M.st (zg x.key) (ins (M.st (zg x.key)) x),M.live + (xV x : Int) - (gW (zR M x.key) : Int),M.dZ + (gW (zR M x.key) : Int)⟩:=by
 rw [xR h] at hg ⊢;unfold wX;rw [ag ⟨(zO M).2 h,hx,hg⟩]
 congr 1
 funext i
 unfold vO
 by_cases e : i = zg x.key
 ·
  rw [ag e,ag e,e]
 rw [ah e,ah e]
theorem WY {M : Mp} (h : fN M) {key : Int} (hg : M.dZ + (gW (zR M key) : Int) ≤ 1099511627776) :
  yP M key = ⟨vO M.st (zg key) (gB (M.st (zg key)) key),M.live - (gW (zR M key) : Int),M.dZ + (gW (zR M key) : Int)⟩:=by
 have hd : ∀ l : List It,fJ l key = none → gB l key = l:=fun l hl => List.filter_eq_self.2 fun y hy => by
  have:=zDr hl y hy;simp [this]
 have hu : (fun i => if i = zg key then gB (M.st i) key else M.st i) = vO M.st (zg key) (gB (M.st (zg key)) key):=funext fun i => by
  unfold vO
  by_cases e : i = zg key
  ·
   rw [ag e,ag e,e]
  rw [ah e,ah e]
 have hgo:=xR h key;unfold yP;generalize zR M key = o at *
 cases o with
 | none =>
  have e : vO M.st (zg key) (gB (M.st (zg key)) key) = M.st:=funext fun i => by
   unfold vO
   by_cases e : i = zg key
   ·
    rw [ag e,e,hd _ hgo.symm]
   rw [ah e]
  obtain ⟨f,L,G⟩:=M
  show (⟨f,L,G⟩ : Mp) = ⟨_,L - ((0 : Nat) : Int),G + ((0 : Nat) : Int)⟩
  rw [show L - ((0 : Nat) : Int) = L by omega,show G + ((0 : Nat) : Int) = G by omega,e]
 | some y =>
  have NF : M.dZ + (xV y : Int) ≤ 1099511627776:=hg
  show (if M.dZ + (xV y : Int) ≤ 1099511627776 then _ else M) = _
  rw [ag NF,hu]
  rfl
theorem zCu {M : Mp} (h : fN M) {n : Int} (h0 : 0 ≤ n) (hg : M.dZ + n ≤ 1099511627776) : xE M n = ⟨M.st,M.live,M.dZ + n⟩:=by
 unfold xE;rw [ag ⟨(zO M).2 h,h0,by omega⟩]
theorem fN.ins {M : Mp} (h : fN M) {x : It} (hx : okB x = true) (hg : M.dZ + (gW (zR M x.key) : Int) ≤ 1099511627776) : fN (wX M x):=by
 rw [TS h hx hg];have hk:=we x.key;have h0:=h.g0;refine h.upd hk (zJy (h.ok _ hk) hx) (Qi (p:=fun y => zg y.key = zg x.key) x rfl _ (h.sp _ hk)) ?_ (by omega) hg;have:=V4 x _ (uV (h.ok _ hk));rw [xR h];unfold xV;omega
theorem fN.del {M : Mp} (h : fN M) {key : Int} (hg : M.dZ + (gW (zR M key) : Int) ≤ 1099511627776) : fN (yP M key):=by
 rw [WY h hg];have hk:=we key;have h0:=h.g0;refine h.upd hk (zIc (h.ok _ hk) key) (fun y hy => h.sp _ hk y (List.mem_filter.1 hy).1) ?_ (by omega) hg;have:=zEZ key _ (uV (h.ok _ hk));rw [xR h];omega
theorem fN.Jw {M : Mp} (h : fN M) {n : Int} (h0 : 0 ≤ n) (hg : M.dZ + n ≤ 1099511627776) : fN (xE M n):=by
 rw [zCu h h0 hg];have:=h.g0;exact ⟨h.ok,h.sp,h.lv,by show 0 ≤ M.dZ + n; omega,hg⟩
theorem TU (o : Option It) : gW o ≤ 4127:=by
 cases o with
 | none => exact aq _
 | some y => exact xt _
theorem zGb (M : Mp) (k : Nat) (v : List It) (key : Int) : fJ (vO M.st k v (zg key)) key = if zg key = k then fJ v key else fJ (M.st (zg key)) key:=by
 unfold vO; split <;> rfl
theorem zFC {M : Mp} (h : fN M) {x : It} (hx : okB x = true) (hg : M.dZ + (gW (zR M x.key) : Int) ≤ 1099511627776) (key : Int) :
  zR (wX M x) key = if x.key = key then some x else zR M key:=by
 rw [xR (h.ins hx hg),TS h hx hg,xR h key]
 show fJ (vO _ _ _ _) key = _
 rw [zGb]
 by_cases e : x.key = key
 ·
  rw [ag e,← e,ag rfl,vX]
 rw [ah e]
 by_cases e2 : zg key = zg x.key
 ·
  rw [ag e2,vH x key (fun e3 => e e3.symm),e2]
 rw [ah e2]
theorem qC {M : Mp} (h : fN M) {k : Int} (hg : M.dZ + (gW (zR M k) : Int) ≤ 1099511627776) (key : Int) :
  zR (yP M k) key = if k = key then none else zR M key:=by
 rw [xR (h.del hg),WY h hg,xR h key]
 show fJ (vO _ _ _ _) key = _
 rw [zGb]
 by_cases e : k = key
 ·
  rw [ag e,← e,ag rfl,k8]
 rw [ah e]
 by_cases e2 : zg key = zg k
 ·
  rw [ag e2,ug k key (fun e3 => e e3.symm),e2]
 rw [ah e2]
theorem zJf {M : Mp} (h : fN M) {x : It} (hx : okB x = true) (hg : M.dZ + (gW (zR M x.key) : Int) ≤ 1099511627776) : (wX M x).live + (wX M x).dZ = M.live + M.dZ + (xV x : Int):=by
 rw [TS h hx hg]
 show M.live + (xV x : Int) - (gW (zR M x.key) : Int) + (M.dZ + (gW (zR M x.key) : Int)) = _
 omega
theorem kV {M : Mp} (h : fN M) {k : Int} (hg : M.dZ + (gW (zR M k) : Int) ≤ 1099511627776) : (yP M k).live + (yP M k).dZ = M.live + M.dZ:=by
 rw [WY h hg]
 show M.live - (gW (zR M k) : Int) + (M.dZ + (gW (zR M k) : Int)) = _
 omega
theorem fN.live0 {M : Mp} (h : fN M) : 0 ≤ M.live:=by
 have:=h.lv; omega
end Go.Proofs.YtcgfilmmokmdjaaGreat
namespace Go.Proofs.YtcgfilmmokmdjaaGreat
open Go.RowKit
def M0 : Mp:=⟨fun _ => [],0,0⟩
end Go.Proofs.YtcgfilmmokmdjaaGreat
namespace Go.Proofs.YtcgfilmmokmdjaaGreat
structure StM (M : Mp) (k S B : Nat) : Prop where
 v : fN M
 sum : M.live + M.dZ = (S : Int)
 le : S ≤ B
 len : ∀ j,(M.st j).length ≤ k
theorem zG0 {f : Nat → List It} {x : It} : ∀ {n},x ∈ cat f n → ∃ i,i < n ∧ x ∈ f i
 | 0,h => by cases h
 | n + 1,h => by
  rcases List.mem_append.1 (show x ∈ cat f n ++ f n from h) with h | h
  ·
   obtain ⟨i,hi,h⟩:=zG0 h;exact ⟨i,by omega,h⟩
  exact ⟨n,by omega,h⟩
theorem qj {M : Mp} (h : fN M) : zG M = fE (vS M):=by unfold zG; rw [ag ((zO M).2 h)]
theorem qg {M : Mp} (h : fN M) : ∀ x ∈ zG M,A8 x:=by
 rw [qj h];refine zHL fun x hx => ?_
 obtain ⟨i,hi,hx⟩:=zG0 (show x ∈ cat M.st 8 from hx);exact (un.1 (h.ok i hi)).2 x hx
theorem zCN {M : Mp} (h : fN M) : (zu (zG M) : Int) = M.live:=by
 rw [qj h,h.sum,h.lv]
def tj (l : List It) (g : Int) : Mp:=
 if l.all okB = true ∧ 0 ≤ g ∧ g ≤ 1099511627776 then ⟨fun i => Cb i (fE l),(zu (fE l) : Int),g⟩ else M0
theorem W5 {l : List It} {g : Int} (h : l.all okB = true) (h0 : 0 ≤ g) (h1 : g ≤ 1099511627776) : tj l g = ⟨fun i => Cb i (fE l),(zu (fE l) : Int),g⟩:=ag ⟨h,h0,h1⟩
theorem zKO {l : List It} {g : Int} (h : ¬ (l.all okB = true ∧ 0 ≤ g ∧ g ≤ 1099511627776)) : tj l g = M0:=ah h
theorem zKq {l : List It} (h : l.all okB = true) : ∀ x ∈ l,A8 x:=fun x hx => by
 have:=List.all_eq_true.1 h x hx;unfold okB at this;exact aX this
theorem zGt {l : List It} (h : ∀ x ∈ l,A8 x) : l.all okB = true:=List.all_eq_true.2 fun x hx => by
 unfold okB;exact aD (h x hx)
theorem zKl (i : Nat) (T : List It) : (Cb i T).length ≤ T.length:=List.length_filter_le _ _
/-! ### The eo Put and Delete -/
def uj (M : Mp) (x : It) : Mp:=
 if xA M = true ∧ okB x = true ∧ M.dZ + (gW (zR M x.key) : Int) ≤ 1099511627776 then tj (ins (zG M) x) (M.dZ + (gW (zR M x.key) : Int)) else M
def th (M : Mp) (key : Int) : Mp:=
 match zR M key with
 | none => M
 | some y => if M.dZ + (xV y : Int) ≤ 1099511627776 then tj (gB (zG M) key) (M.dZ + (xV y : Int)) else M
/-! ### QU -/
structure QV (M N : Mp) : Prop where
 st : ∀ i,i < 8 → M.st i = N.st i
 l : M.live = N.live
 g : M.dZ = N.dZ
theorem QV.refl (M : Mp) : QV M M:=⟨fun _ _ => rfl,rfl,rfl⟩
theorem zJF (M : Mp) (x : It) : QV (wX M x) (uj M x):=by
 by_cases hv : fN M
 ·
  have hv':=(zO M).2 hv
  by_cases hx : okB x = true
  ·
   by_cases hg : M.dZ + (gW (zR M x.key) : Int) ≤ 1099511627776
   ·
    have hp:=qg hv;have ha:=yb M;have hfn : fJ (zG M) x.key = zR M x.key:=by
     have:=vu M x.key
     rwa [yQ ha] at this
    unfold uj;rw [ag ⟨hv',hx,hg⟩,TS hv hx hg];have h0 : 0 ≤ M.dZ + (gW (zR M x.key) : Int):=by have:=hv.g0; omega
    rw [W5 (zGt (Qi x (aX hx) _ hp)) h0 hg,yQ (zEG ha x)];refine ⟨fun i hi => ?_,?_,rfl⟩
    ·
     show vO M.st (zg x.key) (ins (M.st (zg x.key)) x) i = Go.Proofs.YtcgfilmmokmdjaaGreat.Cb i (ins (zG M) x)
     rw [zLE ha,qj hv,hv.Cb hi];unfold vO
     by_cases e : i = zg x.key
     ·
      rw [ag e,ag e.symm,e]
     rw [ah e,ah (aR e)]
    show M.live + (xV x : Int) - (gW (zR M x.key) : Int) = (zu (ins (zG M) x) : Int)
    have h1:=V4 x (zG M) ha;rw [hfn] at h1;have h2:=zCN hv;unfold xV;omega
   unfold uj wX;rw [ah (fun h => hg (by rw [xR hv]; exact h.2.2)),ah (fun h => hg h.2.2)];exact .refl M
  unfold uj wX;rw [ah (fun h => hx h.2.1),ah (fun h => hx h.2.1)];exact .refl M
 unfold uj wX;rw [ah (fun h => hv ((zO M).1 h.1)),ah (fun h => hv ((zO M).1 h.1))];exact .refl M
theorem zIl (M : Mp) (key : Int) : QV (yP M key) (th M key):=by
 unfold yP th
 cases hgo : zR M key with
 | none => exact .refl M
 | some y =>
  have hv : fN M:=(zO M).1 (xj hgo).1
  show QV (if M.dZ + (xV y : Int) ≤ 1099511627776 then _ else M) (if M.dZ + (xV y : Int) ≤ 1099511627776 then _ else M)
  by_cases hg : M.dZ + (xV y : Int) ≤ 1099511627776
  ·
   rw [ag hg,ag hg];have ha:=yb M;have hfn : fJ (zG M) key = zR M key:=by
    have:=vu M key
    rwa [yQ ha] at this
   have h0 : 0 ≤ M.dZ + (xV y : Int):=by have:=hv.g0; omega
   rw [W5 (l:=gB (zG M) key) (zGt fun x hx => qg hv x (List.mem_filter.1 hx).1) h0 hg,yQ (VK ha key)];refine ⟨fun i hi => ?_,?_,rfl⟩
   ·
    show (if i = zg key then gB (M.st i) key else M.st i) = Go.Proofs.YtcgfilmmokmdjaaGreat.Cb i (gB (zG M) key)
    rw [zK9 ha,qj hv,hv.Cb hi]
    by_cases e : i = zg key
    ·
     rw [ag e,ag e.symm]
    rw [ah e,ah (aR e)]
   show M.live - (xV y : Int) = (zu (gB (zG M) key) : Int)
   have h1:=zEZ key (zG M) ha;rw [hfn,hgo] at h1;have h2:=zCN hv;have h3 : gW (some y) = xV y:=rfl;omega
  rw [ah hg,ah hg];exact .refl M
structure Gn where
 num : Int
 rev : Int
 mode : Int
 size : Int
 m : Mp
def uK (x : It) : Int:=x.off + (eP x.size.toNat : Int)
def Kt (x y : It) : Prop:=uK x ≤ y.off ∨ uK y ≤ x.off
instance (x y : It) : Decidable (Kt x y):=by unfold Kt; infer_instance
def kC (l : List It) (size : Int) : Prop:=l.Pairwise Kt ∧ ∀ x ∈ l,uK x ≤ size
instance (l : List It) (size : Int) : Decidable (kC l size):=by unfold kC; infer_instance
def uC (l : List It) (size : Int) : Bool:=decide (kC l size)
theorem zCl {x y : It} (h : Kt x y) : Kt y x:=h.symm
theorem zFr {l l' : List It} (h : l.Perm l') (size : Int) : kC l size ↔ kC l' size:=by
 unfold kC;rw [List.Perm.pairwise_iff (fun h => zCl h) h];exact ⟨fun ⟨h1,h2⟩ => ⟨h1,fun x hx => h2 x (h.mem_iff.2 hx)⟩,fun ⟨h1,h2⟩ => ⟨h1,fun x hx => h2 x (h.mem_iff.1 hx)⟩⟩
theorem zLN {n : Nat} (h : n ≤ 4096) : 0 < eP n:=by
 rw [Qh h];have:=tM n;omega
theorem tH {x : It} (h : A8 x) : x.off < uK x:=by
 have h1:=h.2.2.2;have:=zLN (n:=x.size.toNat) (by omega);unfold uK;omega
def chain (e : Int) : List It → Option Int
 | [] => some e
 | x :: r => if x.off < e then none else chain (uK x) r
def TW (l : List It) (size : Int) : Bool:=match chain 16 l with
 | none => false
 | some e => decide (e ≤ size)
theorem zCI : ∀ (l : List It) (e size : Int),(∀ x ∈ l,A8 x) → l.Pairwise (fun a b => a.off ≤ b.off) → (∀ x ∈ l,e ≤ x.off ∨ x.off < e) →
  ((match chain e l with | none => false | some e' => decide (e' ≤ size)) = true ↔ (l.Pairwise Kt ∧ (∀ x ∈ l,e ≤ x.off) ∧ (∀ x ∈ l,uK x ≤ size) ∧ (l = [] → e ≤ size)))
 | [],e,size,_,_,_ => by simp [chain]
 | x :: r,e,size,hok,hs,_ => by
  have hx:=tH (hok x (by simp));rw [cR] at hs ⊢;have ih:=zCI r (uK x) size (fun y hy => hok y (by simp [hy])) hs.2 (fun y _ => by omega)
  by_cases h : x.off < e
  ·
   have h1 : chain e (x :: r) = none:=by unfold chain; rw [ag h]
   rw [h1]
   constructor
   ·
    intro h2; cases h2
   rintro ⟨_,h3,_⟩;have:=h3 x (by simp);omega
  have h1 : chain e (x :: r) = chain (uK x) r:=by
   show (if x.off < e then none else chain (uK x) r) = _
   rw [ah h]
  rw [h1,ih]
  constructor
  ·
   rintro ⟨h2,h3,h4,h5⟩;refine ⟨⟨fun y hy => .inl (h3 y hy),h2⟩,fun y hy => ?_,fun y hy => ?_,fun e => by cases e⟩
   ·
    rcases List.mem_cons.1 hy with rfl | hy
    ·
     omega
    have:=hs.1 y hy; omega
   rcases List.mem_cons.1 hy with rfl | hy
   ·
    cases r with
    | nil => exact h5 rfl
    | cons z t =>
     have h6:=h4 z (by simp);have h7:=h3 z (by simp);have h8:=tH (hok z (by simp));omega
   exact h4 y hy
  rintro ⟨⟨h2,h3⟩,h4,h5,_⟩;refine ⟨h3,fun y hy => ?_,fun y hy => h5 y (by simp [hy]),fun _ => h5 x (by simp)⟩;rcases h2 y hy with h6 | h6
  ·
   exact h6
  have h7:=hs.1 y hy;have h8:=tH (hok y (by simp [hy]));omega
theorem zJz {l l' : List It} {size : Int} (hok : ∀ x ∈ l,A8 x) (hp : l.Perm l') (hs : l'.Pairwise fun a b => a.off ≤ b.off) (iz : 16 ≤ size) : TW l' size = uC l size:=by
 have QW : ∀ x ∈ l',A8 x:=fun x hx => hok x (hp.mem_iff.2 hx)
 rw [dA];unfold TW uC;rw [zCI l' 16 size QW hs (fun y _ => by omega),aS,zFr hp];exact ⟨fun ⟨h1,_,h2,_⟩ => ⟨h1,h2⟩,fun ⟨h1,h2⟩ => ⟨h1,fun x hx => (QW x hx).1,h2,fun _ => iz⟩⟩
structure gX (g : Gn) : Prop where
 num : 1 ≤ g.num ∧ g.num ≤ 8
 rev : 0 ≤ g.rev ∧ g.rev ≤ 4294967295
 mode : 1 ≤ g.mode ∧ g.mode ≤ 3
 size : 16 ≤ g.size ∧ g.size ≤ 1048576 ∧ g.size % 8 = 0
 m : xA g.m = true
 ends : uC (zG g.m) g.size = true
 sum : g.size = 16 + g.m.live + g.m.dZ
def wM (g : Gn) : Bool:=decide (1 ≤ g.num) && decide (g.num ≤ 8) && decide (0 ≤ g.rev) && decide (g.rev ≤ 4294967295) && decide (1 ≤ g.mode) && decide (g.mode ≤ 3) && decide (16 ≤ g.size) && decide (g.size ≤ 1048576) && decide (g.size % 8 = 0) && xA g.m && uC (zG g.m) g.size && decide (g.size = 16 + g.m.live + g.m.dZ)
theorem yF (g : Gn) : wM g = true ↔ gX g:=by
 unfold wM;simp only [aO,aS];exact ⟨fun ⟨⟨⟨⟨⟨⟨⟨⟨⟨⟨⟨a,b⟩,c⟩,d⟩,e⟩,f⟩,g⟩,h⟩,i⟩,j⟩,k⟩,l⟩ => ⟨⟨a,b⟩,⟨c,d⟩,⟨e,f⟩,⟨g,h,i⟩,j,k,l⟩,fun h => ⟨⟨⟨⟨⟨⟨⟨⟨⟨⟨⟨h.num.1,h.num.2⟩,h.rev.1⟩,h.rev.2⟩,h.mode.1⟩,h.mode.2⟩,h.size.1⟩,h.size.2.1⟩,h.size.2.2⟩,h.m⟩,h.ends⟩,h.sum⟩⟩
theorem zE4 {g : Gn} (h : ¬ gX g) : wM g = false:=by
 cases e : wM g with
 | false => rfl
 | true => exact absurd ((yF g).1 e) h
end Go.Proofs.YtcgfilmmokmdjaaGreat
namespace Go.Proofs.YtcgfilmmokmdjaaGreat
open Go.RowKit Go.Shelf
theorem zJZ (v : Value) (l : List It) (w : World) (B : Nat) (hB : B ≤ w.heap.size) (hv : fu w B v l) (hsm : l.length ≤ 1000000) :
  Calls Tryz.prog 129 #[v,.func (.func 130) #[] #[]] w fun e w' => e = .returned (.tuple #[]) ∧ ∃ l',l.Perm l' ∧ l'.Pairwise (fun a b => a.off ≤ b.off) ∧ i_ w' v l' ∧ Below B w w':=by
 have eg : ∀ args w,(callFunc 130 args).run Tryz.prog w = .ok (.enter 130 args) w:=enters_of Tryz.func130 (by kernel_rfl) rfl;rcases hv.2 with ⟨rfl,h0⟩ | ⟨g,cap,cur,rfl,hb,hg,hn,hc,hs,ht⟩
 ·
  have hl : l = []:=List.eq_nil_of_length_eq_zero h0;subst hl;refine (AnyF.slices_SortFunc_none zLs none 0 _ w).mono ?_;rintro e w' ⟨rfl,rfl⟩;exact ⟨rfl,[],List.Perm.nil,List.Pairwise.nil,ix.nil 4 g_ _,aj _ _⟩
 have W6 : g < w.heap.size:=(Array.getElem?_eq_some_iff.1 hg).1;have hcon:=AnyQ.slices_SortFunc zLs 4 Tryz.isAgg49 Tryz.sizeOf49 g_ ws (fun x u hu => by simp [g_] at hu; rcases hu with rfl | rfl | rfl | rfl <;> rfl) (fun x y => Ma x.off y.off) zNB 130 #[] g 0 cap l.toArray w eg (fun _ _ _ _ x y => zHv x y _) (zBp hg rfl ht) W6 (by rw [b8]; omega);change Calls Tryz.prog 129 _ _ _ at hcon;refine hcon.mono ?_;rintro e w' ⟨rfl,d',n,os,hp,hso,rfl⟩;have hz : d'.size = l.length:=by rw [hp.1,b8]
 refine ⟨rfl,d'.toList,zKm hp,zIN (by rw [hz,b8]) hso,?_,zDb hb W6⟩;have:=zHe (holdsK_sortWorldK_c g_ 4 w g 0 l.toArray d' n os (zBp hg rfl ht) W6 hp.1) (by rw [hz]; exact hn) hc
 rwa [hz] at this
theorem zJA {l : List It} {k : Nat} (h : k < l.length) : l.drop k = d_ l k :: l.drop (k + 1):=by
 rw [dC h];unfold d_;rw [aw,aB h]
 rfl
theorem zKP (v : Value) (l : List It) (size : Int) (w : World) (B : Nat) (hB : B ≤ w.heap.size) (hv : fu w B v l) (hok : ∀ x ∈ l,A8 x) (hsm : l.length ≤ 1000000) (hsz : 16 ≤ size) :
  Calls Tryz.prog 88 #[v,.int .i64 size] w fun e w' => e = .returned (.bool (uC l size)) ∧ Below B w w':=by
 have HS:=zh (fun W (h : fu W B v l) (h2 : B ≤ W.heap.size) => zJZ v l W B h2 h hsm);have HO:=zh hv;have HE:=zh (fun l' (h : l.Perm l') h2 => zJz (size:=size) hok h h2 hsz);have HK:=zh (fun l' (h : l.Perm l') => show ∀ x ∈ l',A8 x from fun x hx => hok x (h.mem_iff.2 hx));generalize uC l size = res at *;clear hv hok hsm
 go_enter Tryz.func88,Tryz.ntmps88
 go_wp2_with fail;refine (HS.out _ HO.out hB).mono ?_;rintro e w1 ⟨rfl,l',hp,hs,gJ,hb⟩;have HB:=zh hb;have QX:=zh (HE.out l' hp hs);have HK':=HK.out l' hp;have Ku:=ak hB hb.size;clear HS HO HE HK hb hp hs;obtain ⟨a,cap,rfl,h1,h2⟩:=gJ.shape;have hm:=IC h1 h2;have Hr:=zh gJ;generalize hn : l'.length = n at *;have Hn:=zh hn;have HKo:=zh HK';clear gJ h1 h2 hn HK';go_wp2_with fail
 go_loopw [5,12] (fun e i wr => ∃ (k : Nat) (s : Int),k ≤ n ∧ e = .int .i64 s ∧ i = .int .i64 (k : Int) ∧ 0 ≤ s ∧ s ≤ 1048576 + 5000 ∧ chain 16 l' = chain s (l'.drop k) ∧ Below B w wr ∧ w1.heap.size ≤ wr.heap.size ∧ Below w1.heap.size w1 wr) (fun _ i _ => n - (intOf i).toNat)
 case atStart => exact ⟨0,16,aq _,rfl,rfl,by omega,by omega,rfl,HB.out,ai _,aj _ _⟩
 obtain ⟨k,s,hk,rfl,rfl,hs0,hs1,hch,hb,H3,hb1⟩:=hrel;have Hc:=zh hch;have Hb:=zh hb;have lX:=zh hb1;clear hch hb hb1
 by_cases hlt : k < n
 ·
  obtain ⟨b,off,rfl,c0,c1,c2,c3⟩:=(Hr.out.below lX.out).at hlt;have hx:=HKo.out (d_ l' k) (by rw [← Hn.out] at hlt; exact qV hlt);have hsl : eP (d_ l' k).size.toNat ≤ 4127:=xt _
  have HD:=zh (show chain s (l'.drop k) = if (d_ l' k).off < s then none else chain ((d_ l' k).off + (eP (d_ l' k).size.toNat : Int)) (l'.drop (k + 1)) by
   rw [zJA (by rw [Hn.out]; exact hlt)]; rfl)
  have HZ:=zh (fun W => Qy (d_ l' k).size.toNat W);have hz0 : ((d_ l' k).size.toNat : Int) = (d_ l' k).size:=Int.toNat_of_nonneg hx.2.2.2.1;have HX:=zh (gG.new wr (d_ l' k));have eG:=zh (zz wr (d_ l' k));generalize eP (d_ l' k).size.toNat = z at *;rw [hz0] at HZ;clear hz0;have hx1:=hx.1;have hx2:=hx.2.1;clear hx;generalize d_ l' k = x at *;go_upto_region 6 with fail;change Code.wp _ _ _ _ (wr.alloc (xO x));obtain ⟨W,hW⟩ : ∃ W,wr.alloc (xO x) = W:=⟨_,rfl⟩
  rw [hW] at HX eG ⊢;have Dm:=HX.out.lt;have jN:=zh (iT Hb.out (ak Ku H3) eG.out);have W7:=zh (iT lX.out H3 eG.out);have NG:=ak H3 eG.out.size;have HZ':=zh (fun W => (HZ.out W).mono (R':=fun e w' => e = .returned (.int .i64 (z : Int)) ∧ Below W.heap.size W w') fun _ _ ⟨he,hw⟩ => ⟨he,hw ▸ aj _ _⟩);clear HZ;have d2:=HX.out.t.c2;have d3:=HX.out.t.c3;clear c0 c1 c2 c3 hW
  by_cases hlo : x.off < s
  ·
   go_wp2_with fail;go_ret;have hf : res = false:=by
    rw [← QX.out]; unfold TW; rw [Hc.out,HD.out,ag hlo]
   exact ⟨zH hf.symm,jN.out⟩
  have hge : s ≤ x.off:=by omega
  go_wp2_with fail;have e2:=zB d2;have e3:=zB d3;refine zC (by kernel_rfl) (by kernel_rfl) ?_
  repeat (go_big_quiet_step ((exact zE (HZ'.out _))))
  refine aA ?_;intro _ hw';obtain ⟨q,hw'⟩:=hw';subst hw';have HbQ:=zh (iT jN.out (ak Ku NG) q.h);have W8:=zh (iT W7.out NG q.h);have W_:=ak NG q.h.size;generalize q.w' = W2 at *;clear e2 e3 d2 d3;go_wp2_with fail;exact ⟨⟨k + 1,x.off + (z : Int),by omega,by go_num,by go_num,by omega,by omega,by rw [Hc.out,HD.out,ah (by omega)],HbQ.out,W_,W8.out⟩,by simp [intOf]; omega⟩
 obtain rfl : k = n:=by omega
 have hd : l'.drop k = []:=bY (by rw [Hn.out]; exact ai _);have hf : res = decide (s ≤ size):=by
  rw [← QX.out]; unfold TW; rw [Hc.out,hd]; rfl
 have HF:=zh hf;clear hf;go_wp2_with fail;go_ret;exact ⟨zH HF.out.symm,Hb.out⟩
end Go.Proofs.YtcgfilmmokmdjaaGreat
namespace Go.Proofs.YtcgfilmmokmdjaaGreat
open Go.RowKit
theorem zBo {P : Program} {w : World} {ops : Array Oper} {o : Oper} {a : Act} {K : Act → World → Prop} {Q : Exit → Act → World → Prop} {E : Prop} (hgd : o.guard = none) (s x : Operand) (t : TypeId)
  (ho : o.op = .call { callee:=.builtin .append,args:=#[s,x],argTypes:=#[t,t] })
  {e : TypeId} {sz bytes : Nat} (hE : wK P t e sz bytes) (base : Nat)
  {v : Value} {n : Nat} {xs : List Value} (hs : a.eval s = v) (hown : w.ownsRow base e sz v n xs) {ad : Addr} {m c : Nat} {news : List Value} (hx : a.eval x = .slice (some ad) m c)
  (hl : news.length = m * sz) (hnews : ∀ j u,news[j]? = some u → w.cell? (ad.add j) = some u)
  (h1 : ∀ u ∈ news,u.oneCell' = true) (h63 : n + m ≤ maxLen) (hbytes : (n + m) * bytes ≤ 140737488355328) (hbase : base ≤ w.heap.size)
  (h : ∀ v' w',w'.ownsRow base e sz v' (n + m) (xs ++ news) → w.grownBy w' v.ownBlock → (v'.ownBlock = v.ownBlock ∨ v'.ownBlock = some w.heap.size) → K (a.put o.dst v') w') :
  if Region.wanted o (yielded ops a.tmps) = true then Oper.wp P o a w K Q else E:=by
 have hw : Region.wanted o (yielded ops a.tmps) = true:=by simp [Region.wanted,hgd]
 rw [ag hw];obtain ⟨ht,hsz,i,z,hi,hz,hs',hby,hzs⟩:=hE;obtain ⟨v',w',hrun,r1,r2,_,r4⟩:=run_append_own_at (P:=P) w base t o.type e i z sz bytes ht hi hz hs' hby hzs hsz v n xs hown ad m c news hl hnews h1 h63 hbytes hbase;unfold Oper.wp;simp [execOp,ho,resolve,invoke,builtin,hs,hx,hrun,Result.andThen];exact h v' w' r1 r2 r4
theorem zIg (W : World) (x : It) (k : Nat) (hk : W.heap.size = k) : ∀ j u,(g_ x)[j]? = some u → (W.alloc (xO x)).drew.cell? ((⟨k,0,none⟩ : Addr).add j) = some u:=by
 subst hk;intro j u hj;rw [yT,aJ]
 show (W.alloc (xO x)).cell? _ = some u
 rw [cell_of_row _ _ j _ _ (0,0) (dg W _)];rw [← Array.getElem?_toList]; exact hj
def Ms (s : Sl) : Prop:=∀ i j,i < 8 → j < 8 → i ≠ j → (s.v i).ownBlock = none ∨ (s.v i).ownBlock ≠ (s.v j).ownBlock
theorem Ms.nil : Ms Sl.nil:=fun _ _ _ _ _ => .inl rfl
theorem eM.grown {W W' : World} {b : Nat} {s : Sl} {l g : Int} {row : Option Nat} (h : eM W b s l g) (hg : W.grownBy W' row) (hne : row ≠ some b) : eM W' b s l g:=by
 have hn : ∀ i,some (⟨b,i,none⟩ : Addr).block ≠ row:=fun i e => hne e.symm
 refine ⟨fun j hj => hg.cell (h.c j hj) (hn j),hg.cell h.cl (hn 8),hg.cell h.cg (hn 9),fun i => ?_⟩;rw [World.frozen?_of_block (w:=W) (hg.block b h.lt (hn 0))];exact h.f i
theorem tK {w : World} {B : Nat} {e : TypeId} {sz n : Nat} {v : Value} {xs : List Value} (h : w.ownsRow B e sz v n xs) {b : Nat} (hb : b < B) : v.ownBlock ≠ some b:=fun e => by
 have:=(h.lt b e).1; omega
theorem zMv {w w4 : World} {bm B k : Nat} {s : Sl} {f : Nat → List It} {x : It} {va : Option Addr} {n vc : Nat} (ho : eZ w B s f) (hd : Ms s) (hk : k < 8) (IQ : bm < B)
  (hown : w4.ownsRow B 49 4 (.slice va n vc) n (zU (f k ++ [x]))) (hg : w.grownBy w4 (s.v k).ownBlock) (hat : (Value.slice va n vc).ownBlock = (s.v k).ownBlock ∨ (Value.slice va n vc).ownBlock = some w.heap.size) :
  eZ (w4.setCell ⟨bm,k,none⟩ (.slice va n vc)) B (s.set k va n vc) (fun i => if i = k then f k ++ [x] else f i) ∧ Ms (s.set k va n vc):=by
 have hlt : ∀ i,i < 8 → ∀ g,(s.v i).ownBlock = some g → g < w.heap.size:=fun i hi g hg => ((ho i hi).lt g hg).2
 constructor
 ·
  intro i hi
  show fu _ B ((s.set k va n vc).v i) (if i = k then f k ++ [x] else f i)
  rw [Sl.Cc]
  by_cases e : i = k
  ·
   rw [ag e,ag e];exact yO (yD hown (p:=⟨bm,k,none⟩) IQ _) rfl
  rw [ah e,ah e];exact yD (World.ownsRow.kept (ho i hi) hg (hd i k hi hk e)) (p:=⟨bm,k,none⟩) IQ _
 intro i j hi hj hij;rw [Sl.Cc,Sl.Cc]
 by_cases e : i = k
 ·
  subst e;rw [ag rfl,ah (aR hij)];rcases hat with hat | hat
  ·
   rw [hat]; exact hd i j hi hj hij
  rw [hat];refine .inr fun h2 => ?_
  have:=hlt j hj _ h2.symm;omega
 rw [ah e]
 by_cases e2 : j = k
 ·
  subst e2;rw [ag rfl];rcases hat with hat | hat
  ·
   rw [hat]; exact hd i j hi hj hij
  rw [hat]
  cases hv : (s.v i).ownBlock with
  | none => exact .inl rfl
  | some g =>
   refine .inr fun h2 => ?_
   injection h2 with h2;have:=hlt i hi g hv;omega
 rw [ah e2]; exact hd i j hi hj hij
theorem zKF {w0 w w4 : World} {B0 bR bm B2 B3 k : Nat} {s : Sl} {f : Nat → List It} {x : It} {va : Option Addr} {n vc : Nat} {v3 : Value} {T : List It} {L G : Int}
  (hR : eM w bR Sl.nil 0 0) (hM : eM w bm s L G) (hO : eZ w B3 s f) (hA : Ms s) (hT : fu w B2 v3 T) (hb : Below B0 w0 w) (h0 : B0 ≤ bm) (h1 : bR < bm) (h2 : bm < B2) (h3 : B2 ≤ B3) (Mt : B3 ≤ w.heap.size)
  (QY : ∀ g,v3.ownBlock = some g → g < B3) (hk : k < 8) (hown : w4.ownsRow B3 49 4 (.slice va n vc) n (zU (f k ++ [x]))) (hg : w.grownBy w4 (s.v k).ownBlock)
  (hat : (Value.slice va n vc).ownBlock = (s.v k).ownBlock ∨ (Value.slice va n vc).ownBlock = some w.heap.size) :
  eM (w4.setCell ⟨bm,k,none⟩ (.slice va n vc)) bR Sl.nil 0 0 ∧ eM (w4.setCell ⟨bm,k,none⟩ (.slice va n vc)) bm (s.set k va n vc) L G ∧
   eZ (w4.setCell ⟨bm,k,none⟩ (.slice va n vc)) B3 (s.set k va n vc) (fun i => if i = k then f k ++ [x] else f i) ∧ Ms (s.set k va n vc) ∧
   fu (w4.setCell ⟨bm,k,none⟩ (.slice va n vc)) B2 v3 T ∧ Below B0 w0 (w4.setCell ⟨bm,k,none⟩ (.slice va n vc)):=by
 have hok:=hO k hk;have hap:=zMv hO hA hk (show bm < B3 by omega) hown hg hat;refine ⟨(hR.grown hg (tK hok (by omega))).ep (p:=⟨bm,k,none⟩) (show bm ≠ bR by omega) _,(hM.grown hg (tK hok (by omega))).K2 hk _ _ _,hap.1,hap.2,?_,?_⟩
 ·
  refine yD (World.ownsRow.kept hT hg ?_) (p:=⟨bm,k,none⟩) h2 _
  cases hv : v3.ownBlock with
  | none => exact .inl rfl
  | some g =>
   refine .inr fun e => ?_
   have h4:=QY g hv;have h5:=(World.ownsRow.lt hok g e.symm).1;omega
 exact (zL hb (World.ownsRow.mono hok (show B0 ≤ B3 by omega)) (by omega) hg).setCell (p:=⟨bm,k,none⟩) h0 _
end Go.Proofs.YtcgfilmmokmdjaaGreat
namespace Go.Proofs.YtcgfilmmokmdjaaGreat
open Go.RowKit
abbrev zQ (n r md z : Int) (s : Sl) (l g : Int) : Array Value:=#[.int .i64 n,.int .i64 r,.int .i64 md,.int .i64 z,.slice (s.a 0) (s.n 0) (s.c 0),.slice (s.a 1) (s.n 1) (s.c 1),.slice (s.a 2) (s.n 2) (s.c 2),.slice (s.a 3) (s.n 3) (s.c 3),.slice (s.a 4) (s.n 4) (s.c 4),.slice (s.a 5) (s.n 5) (s.c 5),.slice (s.a 6) (s.n 6) (s.c 6),.slice (s.a 7) (s.n 7) (s.c 7),.int .i64 l,.int .i64 g]
abbrev zV (n r md z : Int) (s : Sl) (l g : Int) : Value:=.agg (zQ n r md z s l g)
theorem _root_.Go.RowKit.Below.keeps' {w w' : World} (h : Below w.heap.size w w') {p : Addr} {u : Value} (hp : w.cell? p = some u) : w'.cell? p = some u:=(h.cell (World.block_lt_of_cell? w p hp)).trans hp
theorem zEo {w : World} {B : Nat} {e : TypeId} {sz n : Nat} {v : Value} {xs : List Value} {p : Addr} (h : w.ownsRow B e sz v n xs) (hne : v.ownBlock ≠ some p.block) (u : Value) : (w.setCell p u).ownsRow B e sz v n xs:=by
 refine ⟨h.1,?_⟩;rcases h.2 with h0 | ⟨g,cap,cur,rfl,hb,hg,rest⟩
 ·
  exact .inl h0
 refine .inr ⟨g,cap,cur,rfl,hb,?_,rest⟩;rw [Below.heap_setCell w p u g (fun e => hne (by rw [← e]; rfl))]; exact hg
def pts (W : World) (b : Nat) (vs : List (Nat × Value)) : World:=vs.foldl (fun W p => W.setCell ⟨b,p.1,none⟩ p.2) W
theorem zD {B b : Nat} {w0 : World} (hb : B ≤ b) : ∀ (vs : List (Nat × Value)) {W : World},Below B w0 W → Below B w0 (pts W b vs)
 | [],_,h => h
 | p :: r,_,h => zD hb r (h.setCell (p:=⟨b,p.1,none⟩) hb p.2)
theorem kL {b B : Nat} {e : TypeId} {sz n : Nat} {v : Value} {xs : List Value} (hne : v.ownBlock ≠ some b) : ∀ (vs : List (Nat × Value)) {W : World},W.ownsRow B e sz v n xs → (pts W b vs).ownsRow B e sz v n xs
 | [],_,h => h
 | p :: r,_,h => kL hne r (zEo (p:=⟨b,p.1,none⟩) h hne p.2)
theorem vY {b B : Nat} {e : TypeId} {sz n : Nat} {v : Value} {xs : List Value} (hb : b < B) {W : World} (h : W.ownsRow B e sz v n xs) (vs : List (Nat × Value)) : (pts W b vs).ownsRow B e sz v n xs:=kL (tK h hb) vs h
theorem z8 {b : Nat} {p : Addr} (hne : p.block ≠ b) : ∀ (vs : List (Nat × Value)) (W : World),(pts W b vs).cell? p = W.cell? p
 | [],_ => rfl
 | q :: r,W => (z8 hne r _).trans (cu (h:=fun e => hne (by rw [← e])) ..)
theorem xZ {b : Nat} (p : Addr) : ∀ (vs : List (Nat × Value)) (W : World),(pts W b vs).frozen? p = W.frozen? p
 | [],_ => rfl
 | q :: r,W => (xZ p r _).trans (by simp)
theorem uI {b : Nat} : ∀ (vs : List (Nat × Value)) (W : World),(pts W b vs).heap.size = W.heap.size
 | [],_ => rfl
 | q :: r,W => (uI r _).trans (by simp)
theorem eZ.pts {w : World} {B b : Nat} {s : Sl} {f : Nat → List It} (h : eZ w B s f) (hb : b < B) (vs : List (Nat × Value)) : eZ (Go.Proofs.YtcgfilmmokmdjaaGreat.pts w b vs) B s f:=fun i hi => vY hb (h i hi) vs
structure eH (W : World) (b : Nat) (n r md z : Int) (s : Sl) (l g : Int) : Prop where
 n0 : W.cell? ⟨b,0,none⟩ = some (.int .i64 n)
 n1 : W.cell? ⟨b,1,none⟩ = some (.int .i64 r)
 n2 : W.cell? ⟨b,2,none⟩ = some (.int .i64 md)
 n3 : W.cell? ⟨b,3,none⟩ = some (.int .i64 z)
 c : ∀ j,j < 8 → W.cell? ⟨b,4 + j,none⟩ = some (s.v j)
 cl : W.cell? ⟨b,12,none⟩ = some (.int .i64 l)
 cg : W.cell? ⟨b,13,none⟩ = some (.int .i64 g)
 f : ∀ i,W.frozen? ⟨b,i,none⟩ = false
theorem eH.q {W : World} {b : Nat} {n r md z : Int} {s : Sl} {l g : Int} (h : eH W b n r md z s l g) : W.cell? ⟨b,0,none⟩ = some (.int .i64 n) ∧ W.cell? ⟨b,1,none⟩ = some (.int .i64 r) ∧ W.cell? ⟨b,2,none⟩ = some (.int .i64 md) ∧ W.cell? ⟨b,3,none⟩ = some (.int .i64 z) ∧ W.cell? ⟨b,4,none⟩ = some (.slice (s.a 0) (s.n 0) (s.c 0)) ∧ W.cell? ⟨b,5,none⟩ = some (.slice (s.a 1) (s.n 1) (s.c 1)) ∧ W.cell? ⟨b,6,none⟩ = some (.slice (s.a 2) (s.n 2) (s.c 2)) ∧ W.cell? ⟨b,7,none⟩ = some (.slice (s.a 3) (s.n 3) (s.c 3)) ∧ W.cell? ⟨b,8,none⟩ = some (.slice (s.a 4) (s.n 4) (s.c 4)) ∧ W.cell? ⟨b,9,none⟩ = some (.slice (s.a 5) (s.n 5) (s.c 5)) ∧ W.cell? ⟨b,10,none⟩ = some (.slice (s.a 6) (s.n 6) (s.c 6)) ∧ W.cell? ⟨b,11,none⟩ = some (.slice (s.a 7) (s.n 7) (s.c 7)) ∧ W.cell? ⟨b,12,none⟩ = some (.int .i64 l) ∧ W.cell? ⟨b,13,none⟩ = some (.int .i64 g):=⟨h.n0,h.n1,h.n2,h.n3,h.c 0 (by decide),h.c 1 (by decide),h.c 2 (by decide),h.c 3 (by decide),h.c 4 (by decide),h.c 5 (by decide),h.c 6 (by decide),h.c 7 (by decide),h.cl,h.cg⟩
section
variable {W : World} {b : Nat} {n r md z : Int} {s : Sl} {l g : Int}
theorem eH.new (W : World) (n r md z : Int) (s : Sl) (l g : Int) (t : TypeId) : eH (W.alloc (.cells (zQ n r md z s l g) t)) W.heap.size n r md z s l g:=
 ⟨by simp,by simp,by simp,by simp,fun j hj => by rcases Nc hj with h | h | h | h | h | h | h | h <;> subst h <;> simp [Sl.v],by simp,by simp,fun i => by simp⟩
theorem zb (w : World) (n r md z : Int) (s : Sl) (l g : Int) (t : TypeId) : Below w.heap.size w (w.alloc (.cells (zQ n r md z s l g) t)):=(aj _ _).alloc (ai _) _
theorem eH.lt (h : eH W b n r md z s l g) : b < W.heap.size:=cZ W _ h.cl
theorem eH.below {W' : World} (h : eH W b n r md z s l g) (hB : Below W.heap.size W W') : eH W' b n r md z s l g:=
 ⟨hB.keeps' h.n0,hB.keeps' h.n1,hB.keeps' h.n2,hB.keeps' h.n3,fun j hj => hB.keeps' (h.c j hj),hB.keeps' h.cl,hB.keeps' h.cg,fun i => (hB.frozen (p:=⟨b,i,none⟩) h.lt).trans (h.f i)⟩
theorem eH.eD {c : Nat} (h : eH W b n r md z s l g) (hp : b ≠ c) (vs : List (Nat × Value)) : eH (pts W c vs) b n r md z s l g:=
 ⟨(z8 (p:=⟨b,0,none⟩) hp vs W).trans h.n0,(z8 (p:=⟨b,1,none⟩) hp vs W).trans h.n1,(z8 (p:=⟨b,2,none⟩) hp vs W).trans h.n2,(z8 (p:=⟨b,3,none⟩) hp vs W).trans h.n3,fun j hj => (z8 (p:=⟨b,4 + j,none⟩) hp vs W).trans (h.c j hj),(z8 (p:=⟨b,12,none⟩) hp vs W).trans h.cl,(z8 (p:=⟨b,13,none⟩) hp vs W).trans h.cg,fun i => (xZ _ vs W).trans (h.f i)⟩
theorem eH.c0 (h : eH W b n r md z s l g) : W.cell? ⟨b,4,none⟩ = some (.slice (s.a 0) (s.n 0) (s.c 0)):=h.c 0 (by decide)
theorem eH.c1 (h : eH W b n r md z s l g) : W.cell? ⟨b,5,none⟩ = some (.slice (s.a 1) (s.n 1) (s.c 1)):=h.c 1 (by decide)
theorem eH.c2 (h : eH W b n r md z s l g) : W.cell? ⟨b,6,none⟩ = some (.slice (s.a 2) (s.n 2) (s.c 2)):=h.c 2 (by decide)
theorem eH.c3 (h : eH W b n r md z s l g) : W.cell? ⟨b,7,none⟩ = some (.slice (s.a 3) (s.n 3) (s.c 3)):=h.c 3 (by decide)
theorem eH.c4 (h : eH W b n r md z s l g) : W.cell? ⟨b,8,none⟩ = some (.slice (s.a 4) (s.n 4) (s.c 4)):=h.c 4 (by decide)
theorem eH.c5 (h : eH W b n r md z s l g) : W.cell? ⟨b,9,none⟩ = some (.slice (s.a 5) (s.n 5) (s.c 5)):=h.c 5 (by decide)
theorem eH.c6 (h : eH W b n r md z s l g) : W.cell? ⟨b,10,none⟩ = some (.slice (s.a 6) (s.n 6) (s.c 6)):=h.c 6 (by decide)
theorem eH.c7 (h : eH W b n r md z s l g) : W.cell? ⟨b,11,none⟩ = some (.slice (s.a 7) (s.n 7) (s.c 7)):=h.c 7 (by decide)
end
abbrev zJ (n r md z : Int) (s : Sl) (l g : Int) : List (Nat × Value):=[(0,.int .i64 n),(1,.int .i64 r),(2,.int .i64 md),(3,.int .i64 z),(4,.slice (s.a 0) (s.n 0) (s.c 0)),(5,.slice (s.a 1) (s.n 1) (s.c 1)),(6,.slice (s.a 2) (s.n 2) (s.c 2)),(7,.slice (s.a 3) (s.n 3) (s.c 3)),(8,.slice (s.a 4) (s.n 4) (s.c 4)),(9,.slice (s.a 5) (s.n 5) (s.c 5)),(10,.slice (s.a 6) (s.n 6) (s.c 6)),(11,.slice (s.a 7) (s.n 7) (s.c 7)),(12,.int .i64 l),(13,.int .i64 g)]
abbrev yu (s : Sl) (l g : Int) : List (Nat × Value):=[(4,.slice (s.a 0) (s.n 0) (s.c 0)),(5,.slice (s.a 1) (s.n 1) (s.c 1)),(6,.slice (s.a 2) (s.n 2) (s.c 2)),(7,.slice (s.a 3) (s.n 3) (s.c 3)),(8,.slice (s.a 4) (s.n 4) (s.c 4)),(9,.slice (s.a 5) (s.n 5) (s.c 5)),(10,.slice (s.a 6) (s.n 6) (s.c 6)),(11,.slice (s.a 7) (s.n 7) (s.c 7)),(12,.int .i64 l),(13,.int .i64 g)]
theorem eH.all {W : World} {b : Nat} {n r md z : Int} {s : Sl} {l g : Int} (h : eH W b n r md z s l g) (n' r' md' z' : Int) (s' : Sl) (l' g' : Int) : eH (pts W b (zJ n' r' md' z' s' l' g')) b n' r' md' z' s' l' g':=by
 obtain ⟨a0,a1,a2,a3,c0,c1,c2,c3,c4,c5,c6,c7,c8,c9⟩:=h.q;refine ⟨?_,?_,?_,?_,fun j hj => ?_,?_,?_,fun i => (xZ _ _ W).trans (h.f i)⟩
 ·
  simp [pts,go_sem,a0]
 ·
  simp [pts,go_sem,a1]
 ·
  simp [pts,go_sem,a2]
 ·
  simp [pts,go_sem,a3]
 ·
  rcases Nc hj with e | e | e | e | e | e | e | e <;> subst e <;> simp [pts,go_sem,c0,c1,c2,c3,c4,c5,c6,c7,Sl.v]
 ·
  simp [pts,go_sem,c8]
 simp [pts,go_sem,c9]
theorem eH.map {W : World} {b : Nat} {n r md z : Int} {s : Sl} {l g : Int} (h : eH W b n r md z s l g) (s' : Sl) (l' g' : Int) : eH (pts W b (yu s' l' g')) b n r md z s' l' g':=by
 obtain ⟨a0,a1,a2,a3,c0,c1,c2,c3,c4,c5,c6,c7,c8,c9⟩:=h.q;refine ⟨?_,?_,?_,?_,fun j hj => ?_,?_,?_,fun i => (xZ _ _ W).trans (h.f i)⟩
 ·
  simp [pts,go_sem,a0]
 ·
  simp [pts,go_sem,a1]
 ·
  simp [pts,go_sem,a2]
 ·
  simp [pts,go_sem,a3]
 ·
  rcases Nc hj with e | e | e | e | e | e | e | e <;> subst e <;> simp [pts,go_sem,c0,c1,c2,c3,c4,c5,c6,c7,Sl.v]
 ·
  simp [pts,go_sem,c8]
 simp [pts,go_sem,c9]
theorem eH.K_ {W : World} {b : Nat} {n r md z : Int} {s : Sl} {l g : Int} (h : eH W b n r md z s l g) (z' : Int) : eH (pts W b [(3,.int .i64 z')]) b n r md z' s l g:=by
 have a3:=h.n3;have ne : ∀ i,i ≠ 3 → ∀ u,W.cell? ⟨b,i,none⟩ = some u → (pts W b [(3,.int .i64 z')]).cell? ⟨b,i,none⟩ = some u:=fun i hi u hu => (cu (h:=fun e => hi (by injection e with _ e _; exact e.symm)) ..).trans hu
 exact ⟨ne 0 (by decide) _ h.n0,ne 1 (by decide) _ h.n1,ne 2 (by decide) _ h.n2,by simp [pts,go_sem,a3],fun j hj => ne (4 + j) (by omega) _ (h.c j hj),ne 12 (by decide) _ h.cl,ne 13 (by decide) _ h.cg,fun i => (xZ _ _ W).trans (h.f i)⟩
theorem eH.QZ {W : World} {b : Nat} {n r md z : Int} {s : Sl} {l g : Int} (h : eH W b n r md z s l g) (md' : Int) : eH (pts W b [(2,.int .i64 md')]) b n r md' z s l g:=by
 have a3:=h.n2;have ne : ∀ i,i ≠ 2 → ∀ u,W.cell? ⟨b,i,none⟩ = some u → (pts W b [(2,.int .i64 md')]).cell? ⟨b,i,none⟩ = some u:=fun i hi u hu => (cu (h:=fun e => hi (by injection e with _ e _; exact e.symm)) ..).trans hu
 exact ⟨ne 0 (by decide) _ h.n0,ne 1 (by decide) _ h.n1,by simp [pts,go_sem,a3],ne 3 (by decide) _ h.n3,fun j hj => ne (4 + j) (by omega) _ (h.c j hj),ne 12 (by decide) _ h.cl,ne 13 (by decide) _ h.cg,fun i => (xZ _ _ W).trans (h.f i)⟩
end Go.Proofs.YtcgfilmmokmdjaaGreat
