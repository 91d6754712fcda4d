/- A part of the walk. -/
import Derived.Test.YtcgfilmmokmdjaaGreatQAG
import Derived.Test.YtcgfilmmokmdjaaGreatMp
import Derived.Test.YtcgfilmmokmdjaaGreatQAA
import Derived.Shelf.SlSortCmp.WholeK
import Derived.Shelf.SlSortCmp.NoneTotal
import Derived.Test.YtcgfilmmokmdjaaGreatQAB
import Derived.Test.YtcgfilmmokmdjaaGreatQAD
import Derived.Test.YtcgfilmmokmdjaaGreatQAE
import Derived.Maps.AppendAt
set_option maxRecDepth 100000
set_option maxHeartbeats 32000000
namespace Go.Proofs.YtcgfilmmokmdjaaGreat
def wv (f : Nat → List It) (k : Nat) (v : List It) : Nat → List It := fun i => if i = k then v else f i
theorem QP (f : Nat → List It) (k : Nat) (v : List It) : wv f k v k = v := ag rfl
theorem NZ (f : Nat → List It) {k i : Nat} (h : i ≠ k) (v : List It) : wv f k v i = f i := ah h
theorem Wu (f : Nat → List It) (k : Nat) (v : List It) : ∀ n, n ≤ k → cat (wv f k v) n = cat f n
 | 0, _ => rfl
 | n + 1, h => by
  show cat (wv f k v) n ++ wv f k v n = cat f n ++ f n
  rw [Wu f k v n (by omega), NZ f (by omega)]
theorem Wv (f : Nat → List It) (k : Nat) (v : List It) : ∀ n, k < n → zv (cat (wv f k v) n) + zv (f k) = zv (cat f n) + zv v
 | 0, h => by omega
 | n + 1, h => by
  show zv (cat (wv f k v) n ++ wv f k v n) + zv (f k) = zv (cat f n ++ f n) + zv v
  rw [xE, xE]
  by_cases e : k = n
  ·
   subst e;rw [Wu f k v k (ai _), QP];omega
  have := Wv f k v n (by omega);rw [NZ f (by omega)];omega
theorem fK.PE {M : Mp} (h : fK M) {k : Nat} (hk : k < 8) {v : List It} (hv : xp v = true) (hs : ∀ x ∈ v, zh x.key = k) {L G : Int}
  (hL : L + (zv (M.st k) : Int) = M.live + (zv v : Int)) (g0 : 0 ≤ G) (g1 : G ≤ 1099511627776) : fK ⟨wv M.st k v, L, G⟩ := by
 have K6 := Wv M.st k v 8 hk;refine ⟨fun i hi => ?_, fun i hi x hx => ?_, ?_, g0, g1⟩
 ·
  by_cases e : i = k
  ·
   show xp (wv M.st k v i) = true
   rw [e, QP]; exact hv
  show xp (wv M.st k v i) = true
  rw [NZ _ e]; exact h.ok i hi
 ·
  have hx : x ∈ wv M.st k v i := hx
  by_cases e : i = k
  ·
   rw [e, QP] at hx; rw [e]; exact hs x hx
  rw [NZ _ e] at hx; exact h.sp i hi x hx
 show L = (zv (cat (wv M.st k v) 8) : Int)
 have hl := h.lv;rw [show vA M = cat M.st 8 from rfl] at hl;omega
theorem zJJ {l : List It} {x : It} (h : xp l = true) (hx : okB x = true) : xp (ins l x) = true := by
 rw [uP] at h ⊢;exact ⟨U9 h.1 x, ki x (a_ hx) l h.2⟩
theorem zH4 {l : List It} (h : xp l = true) (key : Int) : xp (gd l key) = true := by
 rw [uP] at h ⊢;exact ⟨PR h.1 key, fun y hy => h.2 y (List.mem_filter.1 hy).1⟩
theorem xZ {M : Mp} (h : fK M) (key : Int) : ze M key = fD (M.st (zh key)) key := by unfold ze; rw [ag ((zV M).2 h)]
theorem N0 {M : Mp} (h : fK M) {x : It} (hx : okB x = true) (hg : M.dR + (gR (ze M x.key) : Int) ≤ 1099511627776) :
  wQ M x = ⟨wv M.st (zh x.key) (ins (M.st (zh x.key)) x), M.live + (xN x : Int) - (gR (ze M x.key) : Int), M.dR + (gR (ze M x.key) : Int)⟩ := by
 rw [xZ h] at hg ⊢;unfold wQ;rw [ag ⟨(zV M).2 h, hx, hg⟩]
 congr 1
 funext i
 unfold wv
 by_cases e : i = zh x.key
 ·
  rw [ag e, ag e, e]
 rw [ah e, ah e]
theorem QQ {M : Mp} (h : fK M) {key : Int} (hg : M.dR + (gR (ze M key) : Int) ≤ 1099511627776) :
  yJ M key = ⟨wv M.st (zh key) (gd (M.st (zh key)) key), M.live - (gR (ze M key) : Int), M.dR + (gR (ze M key) : Int)⟩ := by
 have hd : ∀ l : List It, fD l key = none → gd l key = l := fun l hl => List.filter_eq_self.2 fun y hy => by
  have := zDF hl y hy;simp [this]
 have hu : (fun i => if i = zh key then gd (M.st i) key else M.st i) = wv M.st (zh key) (gd (M.st (zh key)) key) := funext fun i => by
  unfold wv
  by_cases e : i = zh key
  ·
   rw [ag e, ag e, e]
  rw [ah e, ah e]
 have hgo := xZ h key;unfold yJ;generalize ze M key = o at *
 cases o with
 | none =>
  have e : wv M.st (zh key) (gd (M.st (zh key)) key) = M.st := funext fun i => by
   unfold wv
   by_cases e : i = zh key
   ·
    rw [ag e, e, hd _ hgo.symm]
   rw [ah e]
  obtain ⟨f, L, G⟩ := M
  show (⟨f, L, G⟩ : Mp) = ⟨_, L - ((0 : Nat) : Int), G + ((0 : Nat) : Int)⟩
  rw [show L - ((0 : Nat) : Int) = L by omega, show G + ((0 : Nat) : Int) = G by omega, e]
 | some y =>
  have Hd : M.dR + (xN y : Int) ≤ 1099511627776 := hg
  show (if M.dR + (xN y : Int) ≤ 1099511627776 then _ else M) = _
  rw [ag Hd, hu]
  rfl
theorem Ww {M : Mp} (h : fK M) {n : Int} (h0 : 0 ≤ n) (hg : M.dR + n ≤ 1099511627776) : xA M n = ⟨M.st, M.live, M.dR + n⟩ := by
 unfold xA;rw [ag ⟨(zV M).2 h, h0, by omega⟩]
theorem fK.ins {M : Mp} (h : fK M) {x : It} (hx : okB x = true) (hg : M.dR + (gR (ze M x.key) : Int) ≤ 1099511627776) : fK (wQ M x) := by
 rw [N0 h hx hg];have hk := wS x.key;have h0 := h.g0;refine h.PE hk (zJJ (h.ok _ hk) hx) (ki (p := fun y => zh y.key = zh x.key) x rfl _ (h.sp _ hk)) ?_ (by omega) hg;have := P9 x _ (vt (h.ok _ hk));rw [xZ h];unfold xN;omega
theorem fK.del {M : Mp} (h : fK M) {key : Int} (hg : M.dR + (gR (ze M key) : Int) ≤ 1099511627776) : fK (yJ M key) := by
 rw [QQ h hg];have hk := wS key;have h0 := h.g0;refine h.PE hk (zH4 (h.ok _ hk) key) (fun y hy => h.sp _ hk y (List.mem_filter.1 hy).1) ?_ (by omega) hg;have := Vt key _ (vt (h.ok _ hk));rw [xZ h];omega
theorem fK.Df {M : Mp} (h : fK M) {n : Int} (h0 : 0 ≤ n) (hg : M.dR + n ≤ 1099511627776) : fK (xA M n) := by
 rw [Ww h h0 hg];have := h.g0;exact ⟨h.ok, h.sp, h.lv, by show 0 ≤ M.dR + n; omega, hg⟩
theorem N1 (o : Option It) : gR o ≤ 4127 := by
 cases o with
 | none => exact au _
 | some y => exact xx _
theorem Wx (M : Mp) (k : Nat) (v : List It) (key : Int) : fD (wv M.st k v (zh key)) key = if zh key = k then fD v key else fD (M.st (zh key)) key := by
 unfold wv; split <;> rfl
theorem Wy {M : Mp} (h : fK M) {x : It} (hx : okB x = true) (hg : M.dR + (gR (ze M x.key) : Int) ≤ 1099511627776) (key : Int) :
  ze (wQ M x) key = if x.key = key then some x else ze M key := by
 rw [xZ (h.ins hx hg), N0 h hx hg, xZ h key]
 show fD (wv _ _ _ _) key = _
 rw [Wx]
 by_cases e : x.key = key
 ·
  rw [ag e, ← e, ag rfl, vG]
 rw [ah e]
 by_cases e2 : zh key = zh x.key
 ·
  rw [ag e2, wl x key (fun e3 => e e3.symm), e2]
 rw [ah e2]
theorem kR {M : Mp} (h : fK M) {k : Int} (hg : M.dR + (gR (ze M k) : Int) ≤ 1099511627776) (key : Int) :
  ze (yJ M k) key = if k = key then none else ze M key := by
 rw [xZ (h.del hg), QQ h hg, xZ h key]
 show fD (wv _ _ _ _) key = _
 rw [Wx]
 by_cases e : k = key
 ·
  rw [ag e, ← e, ag rfl, kW]
 rw [ah e]
 by_cases e2 : zh key = zh k
 ·
  rw [ag e2, uH k key (fun e3 => e e3.symm), e2]
 rw [ah e2]
theorem zI2 {M : Mp} (h : fK M) {x : It} (hx : okB x = true) (hg : M.dR + (gR (ze M x.key) : Int) ≤ 1099511627776) : (wQ M x).live + (wQ M x).dR = M.live + M.dR + (xN x : Int) := by
 rw [N0 h hx hg]
 show M.live + (xN x : Int) - (gR (ze M x.key) : Int) + (M.dR + (gR (ze M x.key) : Int)) = _
 omega
theorem qy {M : Mp} (h : fK M) {k : Int} (hg : M.dR + (gR (ze M k) : Int) ≤ 1099511627776) : (yJ M k).live + (yJ M k).dR = M.live + M.dR := by
 rw [QQ h hg]
 show M.live - (gR (ze M k) : Int) + (M.dR + (gR (ze M k) : Int)) = _
 omega
theorem fK.Bh {M : Mp} (h : fK M) : 0 ≤ M.live := by
 have := h.lv; omega
end Go.Proofs.YtcgfilmmokmdjaaGreat
namespace Go.Proofs.YtcgfilmmokmdjaaGreat
open Go.RowKit
def M0 : Mp := ⟨fun _ => [], 0, 0⟩
end Go.Proofs.YtcgfilmmokmdjaaGreat
namespace Go.Proofs.YtcgfilmmokmdjaaGreat
structure StM (M : Mp) (k S B : Nat) : Prop where
 v : fK M
 sum : M.live + M.dR = (S : Int)
 le : S ≤ B
 len : ∀ j, (M.st j).length ≤ k
theorem Wz {f : Nat → List It} {x : It} : ∀ {n}, x ∈ cat f n → ∃ i, i < n ∧ x ∈ f i
 | 0, h => by cases h
 | n + 1, h => by
  rcases List.mem_append.1 (show x ∈ cat f n ++ f n from h) with h | h
  ·
   obtain ⟨i, hi, h⟩ := Wz h;exact ⟨i, by omega, h⟩
  exact ⟨n, by omega, h⟩
theorem qK {M : Mp} (h : fK M) : zI M = fw (vA M) := by unfold zI; rw [ag ((zV M).2 h)]
theorem qF {M : Mp} (h : fK M) : ∀ x ∈ zI M, nk x := by
 rw [qK h];refine UR fun x hx => ?_
 obtain ⟨i, hi, hx⟩ := Wz (show x ∈ cat M.st 8 from hx);exact (uP.1 (h.ok i hi)).2 x hx
theorem WA {M : Mp} (h : fK M) : (zv (zI M) : Int) = M.live := by
 rw [qK h, h.sum, h.lv]
def tD (l : List It) (g : Int) : Mp :=
 if l.all okB = true ∧ 0 ≤ g ∧ g ≤ 1099511627776 then ⟨fun i => nV i (fw l), (zv (fw l) : Int), g⟩ else M0
theorem QS {l : List It} {g : Int} (h : l.all okB = true) (h0 : 0 ≤ g) (h1 : g ≤ 1099511627776) : tD l g = ⟨fun i => nV i (fw l), (zv (fw l) : Int), g⟩ := ag ⟨h, h0, h1⟩
theorem zJk {l : List It} {g : Int} (h : ¬ (l.all okB = true ∧ 0 ≤ g ∧ g ≤ 1099511627776)) : tD l g = M0 := ah h
theorem zKC {l : List It} (h : l.all okB = true) : ∀ x ∈ l, nk x := fun x hx => by
 have := List.all_eq_true.1 h x hx;unfold okB at this;exact a_ this
theorem WC {l : List It} (h : ∀ x ∈ l, nk x) : l.all okB = true := List.all_eq_true.2 fun x hx => by
 unfold okB;exact aF (h x hx)
theorem zJ7 (i : Nat) (T : List It) : (nV i T).length ≤ T.length := List.length_filter_le _ _
/-! ### The dX Put and Delete -/
def uK (M : Mp) (x : It) : Mp :=
 if yw M = true ∧ okB x = true ∧ M.dR + (gR (ze M x.key) : Int) ≤ 1099511627776 then tD (ins (zI M) x) (M.dR + (gR (ze M x.key) : Int)) else M
def tC (M : Mp) (key : Int) : Mp :=
 match ze M key with
 | none => M
 | some y => if M.dR + (xN y : Int) ≤ 1099511627776 then tD (gd (zI M) key) (M.dR + (xN y : Int)) else M
/-! ### K8 -/
structure K9 (M N : Mp) : Prop where
 st : ∀ i, i < 8 → M.st i = N.st i
 l : M.live = N.live
 g : M.dR = N.dR
theorem K9.refl (M : Mp) : K9 M M := ⟨fun _ _ => rfl, rfl, rfl⟩
def Hj (M N : Mp) : Bool := (List.range 8).all (fun i => decide (M.st i = N.st i)) && (M.live == N.live) && (M.dR == N.dR)
theorem zIb (M : Mp) (x : It) : K9 (wQ M x) (uK M x) := by
 by_cases hv : fK M
 ·
  have GN := (zV M).2 hv
  by_cases hx : okB x = true
  ·
   by_cases hg : M.dR + (gR (ze M x.key) : Int) ≤ 1099511627776
   ·
    have hp := qF hv;have ha := yV M;have hfn : fD (zI M) x.key = ze M x.key := by
     have := vO M x.key
     rwa [yK ha] at this
    unfold uK;rw [ag ⟨GN, hx, hg⟩, N0 hv hx hg];have h0 : 0 ≤ M.dR + (gR (ze M x.key) : Int) := by have := hv.g0; omega
    rw [QS (WC (ki x (a_ hx) _ hp)) h0 hg, yK (U9 ha x)];refine ⟨fun i hi => ?_, ?_, rfl⟩
    ·
     show wv M.st (zh x.key) (ins (M.st (zh x.key)) x) i = Go.Proofs.YtcgfilmmokmdjaaGreat.nV i (ins (zI M) x)
     rw [zKZ ha, qK hv, hv.nV hi];unfold wv
     by_cases e : i = zh x.key
     ·
      rw [ag e, ag e.symm, e]
     rw [ah e, ah (aO e)]
    show M.live + (xN x : Int) - (gR (ze M x.key) : Int) = (zv (ins (zI M) x) : Int)
    have h1 := P9 x (zI M) ha;rw [hfn] at h1;have h2 := WA hv;unfold xN;omega
   unfold uK wQ;rw [ah (fun h => hg (by rw [xZ hv]; exact h.2.2)), ah (fun h => hg h.2.2)];exact .refl M
  unfold uK wQ;rw [ah (fun h => hx h.2.1), ah (fun h => hx h.2.1)];exact .refl M
 unfold uK wQ;rw [ah (fun h => hv ((zV M).1 h.1)), ah (fun h => hv ((zV M).1 h.1))];exact .refl M
theorem zID (M : Mp) (key : Int) : K9 (yJ M key) (tC M key) := by
 unfold yJ tC
 cases hgo : ze M key with
 | none => exact .refl M
 | some y =>
  have hv : fK M := (zV M).1 (xY hgo).1
  show K9 (if M.dR + (xN y : Int) ≤ 1099511627776 then _ else M) (if M.dR + (xN y : Int) ≤ 1099511627776 then _ else M)
  by_cases hg : M.dR + (xN y : Int) ≤ 1099511627776
  ·
   rw [ag hg, ag hg];have ha := yV M;have hfn : fD (zI M) key = ze M key := by
    have := vO M key
    rwa [yK ha] at this
   have h0 : 0 ≤ M.dR + (xN y : Int) := by have := hv.g0; omega
   rw [QS (l := gd (zI M) key) (WC fun x hx => qF hv x (List.mem_filter.1 hx).1) h0 hg, yK (PR ha key)];refine ⟨fun i hi => ?_, ?_, rfl⟩
   ·
    show (if i = zh key then gd (M.st i) key else M.st i) = Go.Proofs.YtcgfilmmokmdjaaGreat.nV i (gd (zI M) key)
    rw [zKV ha, qK hv, hv.nV hi]
    by_cases e : i = zh key
    ·
     rw [ag e, ag e.symm]
    rw [ah e, ah (aO e)]
   show M.live - (xN y : Int) = (zv (gd (zI M) key) : Int)
   have h1 := Vt key (zI M) ha;rw [hfn, hgo] at h1;have h2 := WA hv;have h3 : gR (some y) = xN y := rfl;omega
  rw [ah hg, ah hg];exact .refl M
structure Gn where
 num : Int
 rev : Int
 mode : Int
 size : Int
 m : Mp
def vY (x : It) : Int := x.off + (eG x.size.toNat : Int)
def Ea (x y : It) : Prop := vY x ≤ y.off ∨ vY y ≤ x.off
instance (x y : It) : Decidable (Ea x y) := by unfold Ea; infer_instance
def kK (l : List It) (size : Int) : Prop := l.Pairwise Ea ∧ ∀ x ∈ l, vY x ≤ size
instance (l : List It) (size : Int) : Decidable (kK l size) := by unfold kK; infer_instance
def vU (l : List It) (size : Int) : Bool := decide (kK l size)
theorem WD {x y : It} (h : Ea x y) : Ea y x := h.symm
theorem zFE {l l' : List It} (h : l.Perm l') (size : Int) : kK l size ↔ kK l' size := by
 unfold kK;rw [List.Perm.pairwise_iff (fun h => WD h) h];exact ⟨fun ⟨h1, h2⟩ => ⟨h1, fun x hx => h2 x (h.mem_iff.2 hx)⟩, fun ⟨h1, h2⟩ => ⟨h1, fun x hx => h2 x (h.mem_iff.1 hx)⟩⟩
theorem zKh {n : Nat} (h : n ≤ 4096) : 0 < eG n := by
 rw [Kq h];have := un n;omega
theorem tx {x : It} (h : nk x) : x.off < vY x := by
 have h1 := h.2.2.2;have := zKh (n := x.size.toNat) (by omega);unfold vY;omega
def chain (e : Int) : List It → Option Int
 | [] => some e
 | x :: r => if x.off < e then none else chain (vY x) r
def N3 (l : List It) (size : Int) : Bool := match chain 16 l with
 | none => false
 | some e => decide (e ≤ size)
theorem WE : ∀ (l : List It) (e size : Int), (∀ x ∈ l, nk x) → l.Pairwise (fun a b => a.off ≤ b.off) → (∀ x ∈ l, e ≤ x.off ∨ x.off < e) →
  ((match chain e l with | none => false | some e' => decide (e' ≤ size)) = true ↔ (l.Pairwise Ea ∧ (∀ x ∈ l, e ≤ x.off) ∧ (∀ x ∈ l, vY x ≤ size) ∧ (l = [] → e ≤ size)))
 | [], e, size, _, _, _ => by simp [chain]
 | x :: r, e, size, hok, hs, _ => by
  have hx := tx (hok x (by simp));rw [dr] at hs ⊢;have ih := WE r (vY x) size (fun y hy => hok y (by simp [hy])) hs.2 (fun y _ => by omega)
  by_cases h : x.off < e
  ·
   have h1 : chain e (x :: r) = none := by unfold chain; rw [ag h]
   rw [h1]
   constructor
   ·
    intro h2; cases h2
   rintro ⟨_, h3, _⟩;have := h3 x (by simp);omega
  have h1 : chain e (x :: r) = chain (vY x) r := by
   show (if x.off < e then none else chain (vY x) r) = _
   rw [ah h]
  rw [h1, ih]
  constructor
  ·
   rintro ⟨h2, h3, h4, h5⟩;refine ⟨⟨fun y hy => .inl (h3 y hy), h2⟩, fun y hy => ?_, fun y hy => ?_, fun e => by cases e⟩
   ·
    rcases List.mem_cons.1 hy with rfl | hy
    ·
     omega
    have := hs.1 y hy; omega
   rcases List.mem_cons.1 hy with rfl | hy
   ·
    cases r with
    | nil => exact h5 rfl
    | cons z t =>
     have h6 := h4 z (by simp);have h7 := h3 z (by simp);have h8 := tx (hok z (by simp));omega
   exact h4 y hy
  rintro ⟨⟨h2, h3⟩, h4, h5, _⟩;refine ⟨h3, fun y hy => ?_, fun y hy => h5 y (by simp [hy]), fun _ => h5 x (by simp)⟩;rcases h2 y hy with h6 | h6
  ·
   exact h6
  have h7 := hs.1 y hy;have h8 := tx (hok y (by simp [hy]));omega
theorem zJK {l l' : List It} {size : Int} (hok : ∀ x ∈ l, nk x) (hp : l.Perm l') (hs : l'.Pairwise fun a b => a.off ≤ b.off) (jf : 16 ≤ size) : N3 l' size = vU l size := by
 have K_ : ∀ x ∈ l', nk x := fun x hx => hok x (hp.mem_iff.2 hx)
 rw [dh];unfold N3 vU;rw [WE l' 16 size K_ hs (fun y _ => by omega), aU, zFE hp];exact ⟨fun ⟨h1, _, h2, _⟩ => ⟨h1, h2⟩, fun ⟨h1, h2⟩ => ⟨h1, fun x hx => (K_ x hx).1, h2, fun _ => jf⟩⟩
structure ja (g : Gn) : Prop where
 num : 1 ≤ g.num ∧ g.num ≤ 8
 rev : 0 ≤ g.rev ∧ g.rev ≤ 4294967295
 mode : 1 ≤ g.mode ∧ g.mode ≤ 3
 size : 16 ≤ g.size ∧ g.size ≤ 1048576 ∧ g.size % 8 = 0
 m : yw g.m = true
 ends : vU (zI g.m) g.size = true
 sum : g.size = 16 + g.m.live + g.m.dR
def wB (g : Gn) : Bool := decide (1 ≤ g.num) && decide (g.num ≤ 8) && decide (0 ≤ g.rev) && decide (g.rev ≤ 4294967295) && decide (1 ≤ g.mode) && decide (g.mode ≤ 3) && decide (16 ≤ g.size) && decide (g.size ≤ 1048576) && decide (g.size % 8 = 0) && yw g.m && vU (zI g.m) g.size && decide (g.size = 16 + g.m.live + g.m.dR)
theorem yD (g : Gn) : wB g = true ↔ ja g := by
 unfold wB;simp only [aM, aU];exact ⟨fun ⟨⟨⟨⟨⟨⟨⟨⟨⟨⟨⟨a, b⟩, c⟩, d⟩, e⟩, f⟩, g⟩, h⟩, i⟩, j⟩, k⟩, l⟩ => ⟨⟨a, b⟩, ⟨c, d⟩, ⟨e, f⟩, ⟨g, h, i⟩, j, k, l⟩, fun h => ⟨⟨⟨⟨⟨⟨⟨⟨⟨⟨⟨h.num.1, h.num.2⟩, h.rev.1⟩, h.rev.2⟩, h.mode.1⟩, h.mode.2⟩, h.size.1⟩, h.size.2.1⟩, h.size.2.2⟩, h.m⟩, h.ends⟩, h.sum⟩⟩
theorem WG {g : Gn} (h : ¬ ja g) : wB g = false := by
 cases e : wB g with
 | false => rfl
 | true => exact absurd ((yD g).1 e) h
end Go.Proofs.YtcgfilmmokmdjaaGreat
namespace Go.Proofs.YtcgfilmmokmdjaaGreat
open Go.RowKit Go.Shelf
theorem zIx (v : Value) (l : List It) (w : World) (B : Nat) (hB : B ≤ w.heap.size) (hv : fc w B v l) (La : l.length ≤ 1000000) :
  Calls Tryz.prog 129 #[v, .func (.func 130) #[] #[]] w fun e w' => e = .returned (.tuple #[]) ∧ ∃ l', l.Perm l' ∧ l'.Pairwise (fun a b => a.off ≤ b.off) ∧ iP w' v l' ∧ Below B w w' := by
 have eg : ∀ args w, (callFunc 130 args).run Tryz.prog w = .ok (.enter 130 args) w := enters_of Tryz.func130 (by kernel_rfl) rfl;rcases hv.2 with ⟨rfl, h0⟩ | ⟨g, cap, cur, rfl, hb, hg, hn, hc, hs, ht⟩
 ·
  have hl : l = [] := List.eq_nil_of_length_eq_zero h0;subst hl;refine (AnyF.slices_SortFunc_none UY none 0 _ w).mono ?_;rintro e w' ⟨rfl, rfl⟩;exact ⟨rfl, [], List.Perm.nil, List.Pairwise.nil, iu.nil 4 gW _, aj _ _⟩
 have QT : g < w.heap.size := (Array.getElem?_eq_some_iff.1 hg).1;have Lc := AnyQ.slices_SortFunc UY 4 Tryz.isAgg49 Tryz.sizeOf49 gW wY (fun x u hu => by simp [gW] at hu; rcases hu with rfl | rfl | rfl | rfl <;> rfl) (fun x y => FC x.off y.off) zMR 130 #[] g 0 cap l.toArray w eg (fun _ _ _ _ x y => zHN x y _) (U0 hg rfl ht) QT (by rw [b5]; omega);change Calls Tryz.prog 129 _ _ _ at Lc;refine Lc.mono ?_;rintro e w' ⟨rfl, d', n, os, hp, hso, rfl⟩;have hz : d'.size = l.length := by rw [hp.1, b5]
 refine ⟨rfl, d'.toList, zJ8 hp, zHm (by rw [hz, b5]) hso, ?_, zC2 hb QT⟩;have := zG3 (holdsK_sortWorldK_c gW 4 w g 0 l.toArray d' n os (U0 hg rfl ht) QT hp.1) (by rw [hz]; exact hn) hc
 rwa [hz] at this
theorem zIY {l : List It} {k : Nat} (h : k < l.length) : l.drop k = dS l k :: l.drop (k + 1) := by
 rw [cQ h];unfold dS;rw [ax, aB h]
 rfl
theorem zJl (v : Value) (l : List It) (size : Int) (w : World) (B : Nat) (hB : B ≤ w.heap.size) (hv : fc w B v l) (hok : ∀ x ∈ l, nk x) (La : l.length ≤ 1000000) (hsz : 16 ≤ size) :
  Calls Tryz.prog 88 #[v, .int .i64 size] w fun e w' => e = .returned (.bool (vU l size)) ∧ Below B w w' := by
 have HS := zh (fun W (h : fc W B v l) (h2 : B ≤ W.heap.size) => zIx v l W B h2 h La);have HO := zh hv;have HE := zh (fun l' (h : l.Perm l') h2 => zJK (size := size) hok h h2 hsz);have HK := zh (fun l' (h : l.Perm l') => show ∀ x ∈ l', nk x from fun x hx => hok x (h.mem_iff.2 hx));generalize vU l size = res at *;clear hv hok La
 go_enter Tryz.func88, Tryz.ntmps88
 go_wp2_with fail;refine (HS.out _ HO.out hB).mono ?_;rintro e w1 ⟨rfl, l', hp, hs, gw, hb⟩;have HB := zh hb;have Ld := zh (HE.out l' hp hs);have WH := HK.out l' hp;have Eb := ak hB hb.size;clear HS HO HE HK hb hp hs;obtain ⟨a, cap, rfl, h1, h2⟩ := gw.shape;have hm := BL h1 h2;have Hr := zh gw;generalize hn : l'.length = n at *;have Hn := zh hn;have HKo := zh WH;clear gw h1 h2 hn WH;go_wp2_with fail
 go_loopw [5, 12] (fun e i wr => ∃ (k : Nat) (s : Int), k ≤ n ∧ e = .int .i64 s ∧ i = .int .i64 (k : Int) ∧ 0 ≤ s ∧ s ≤ 1048576 + 5000 ∧ chain 16 l' = chain s (l'.drop k) ∧ Below B w wr ∧ w1.heap.size ≤ wr.heap.size ∧ Below w1.heap.size w1 wr) (fun _ i _ => n - (intOf i).toNat)
 case atStart => exact ⟨0, 16, au _, rfl, rfl, by omega, by omega, rfl, HB.out, ai _, aj _ _⟩
 obtain ⟨k, s, hk, rfl, rfl, hs0, hs1, hch, hb, BW, dW⟩ := eT;have Hc := zh hch;have Hb := zh hb;have lS := zh dW;clear hch hb dW
 by_cases hlt : k < n
 ·
  obtain ⟨b, off, rfl, c0, c1, c2, c3⟩ := (Hr.out.below lS.out).at hlt;have hx := HKo.out (dS l' k) (by rw [← Hn.out] at hlt; exact t7 hlt);have hsl : eG (dS l' k).size.toNat ≤ 4127 := xx _
  have HD := zh (show chain s (l'.drop k) = if (dS l' k).off < s then none else chain ((dS l' k).off + (eG (dS l' k).size.toNat : Int)) (l'.drop (k + 1)) by
   rw [zIY (by rw [Hn.out]; exact hlt)]; rfl)
  have HZ := zh (fun W => KH (dS l' k).size.toNat W);have rC : ((dS l' k).size.toNat : Int) = (dS l' k).size := Int.toNat_of_nonneg hx.2.2.2.1;have HX := zh (gx.new wr (dS l' k));have eB := zh (z8 wr (dS l' k));generalize eG (dS l' k).size.toNat = z at *;rw [rC] at HZ;clear rC;have hx1 := hx.1;have hx2 := hx.2.1;clear hx;generalize dS l' k = x at *;go_upto_region 6 with fail;change Code.wp _ _ _ _ (wr.alloc (xF x));obtain ⟨W, hW⟩ : ∃ W, wr.alloc (xF x) = W := ⟨_, rfl⟩
  rw [hW] at HX eB ⊢;have rD := HX.out.lt;have jK := zh (iO Hb.out (ak Eb BW) eB.out);have QU := zh (iO lS.out BW eB.out);have Hl := ak BW eB.out.size;have HZ' := zh (fun W => (HZ.out W).mono (R' := fun e w' => e = .returned (.int .i64 (z : Int)) ∧ Below W.heap.size W w') fun _ _ ⟨he, hw⟩ => ⟨he, hw ▸ aj _ _⟩);clear HZ;have d2 := HX.out.t.c2;have d3 := HX.out.t.c3;clear c0 c1 c2 c3 hW
  by_cases hlo : x.off < s
  ·
   go_wp2_with fail;go_ret;have hf : res = false := by
    rw [← Ld.out]; unfold N3; rw [Hc.out, HD.out, ag hlo]
   exact ⟨zE hf.symm, jK.out⟩
  have hge : s ≤ x.off := by omega
  go_wp2_with fail;have e2 := zB d2;have e3 := zB d3;refine zC (by kernel_rfl) (by kernel_rfl) ?_
  repeat (go_big_quiet_step ((exact zG (HZ'.out _))))
  refine aC ?_;intro _ dY;obtain ⟨q, dY⟩ := dY;subst dY;have HbQ := zh (iO jK.out (ak Eb Hl) q.h);have QV := zh (iO QU.out Hl q.h);have QW := ak Hl q.h.size;generalize q.w' = W2 at *;clear e2 e3 d2 d3;go_wp2_with fail;exact ⟨⟨k + 1, x.off + (z : Int), by omega, by go_num, by go_num, by omega, by omega, by rw [Hc.out, HD.out, ah (by omega)], HbQ.out, QW, QV.out⟩, by simp [intOf]; omega⟩
 obtain rfl : k = n := by omega
 have hd : l'.drop k = [] := bT (by rw [Hn.out]; exact ai _);have hf : res = decide (s ≤ size) := by
  rw [← Ld.out]; unfold N3; rw [Hc.out, hd]; rfl
 have HF := zh hf;clear hf;go_wp2_with fail;go_ret;exact ⟨zE HF.out.symm, Hb.out⟩
end Go.Proofs.YtcgfilmmokmdjaaGreat
namespace Go.Proofs.YtcgfilmmokmdjaaGreat
open Go.RowKit
theorem WI {P : Program} {w : World} {ops : Array Oper} {o : Oper} {a : Act} {K : Act → World → Prop} {Q : Exit → Act → World → Prop} {E : Prop} (hgd : o.guard = none) (s x : Operand) (t : TypeId)
  (ho : o.op = .call { callee := .builtin .append, args := #[s, x], argTypes := #[t, t] })
  {e : TypeId} {sz bytes : Nat} (hE : xj P t e sz bytes) (base : Nat)
  {v : Value} {n : Nat} {xs : List Value} (hs : a.eval s = v) (hown : w.ownsRow base e sz v n xs) {ad : Addr} {m c : Nat} {news : List Value} (hx : a.eval x = .slice (some ad) m c)
  (hl : news.length = m * sz) (hnews : ∀ j u, news[j]? = some u → w.cell? (ad.add j) = some u)
  (h1 : ∀ u ∈ news, u.oneCell' = true) (h63 : n + m ≤ maxLen) (hbytes : (n + m) * bytes ≤ 140737488355328) (hbase : base ≤ w.heap.size)
  (h : ∀ v' w', w'.ownsRow base e sz v' (n + m) (xs ++ news) → w.grownBy w' v.ownBlock → (v'.ownBlock = v.ownBlock ∨ v'.ownBlock = some w.heap.size) → K (a.put o.dst v') w') :
  if Region.wanted o (yielded ops a.tmps) = true then Oper.wp P o a w K Q else E := by
 have hw : Region.wanted o (yielded ops a.tmps) = true := by simp [Region.wanted, hgd]
 rw [ag hw];obtain ⟨ht, hsz, i, z, hi, hz, hs', hby, hzs⟩ := hE;obtain ⟨v', w', hrun, r1, r2, _, r4⟩ := run_append_own_at (P := P) w base t o.type e i z sz bytes ht hi hz hs' hby hzs hsz v n xs hown ad m c news hl hnews h1 h63 hbytes hbase;unfold Oper.wp;simp [execOp, ho, resolve, invoke, builtin, hs, hx, hrun, Result.andThen];exact h v' w' r1 r2 r4
theorem zH8 (W : World) (x : It) (k : Nat) (hk : W.heap.size = k) : ∀ j u, (gW x)[j]? = some u → (W.alloc (xF x)).drew.cell? ((⟨k, 0, none⟩ : Addr).add j) = some u := by
 subst hk;intro j u hj;rw [yP, aJ]
 show (W.alloc (xF x)).cell? _ = some u
 rw [cell_of_row _ _ j _ _ (0, 0) (cW W _)];rw [← Array.getElem?_toList]; exact hj
def FQ (s : Sl) : Prop := ∀ i j, i < 8 → j < 8 → i ≠ j → (s.v i).ownBlock = none ∨ (s.v i).ownBlock ≠ (s.v j).ownBlock
theorem FQ.nil : FQ Sl.nil := fun _ _ _ _ _ => .inl rfl
theorem ew.grown {W W' : World} {b : Nat} {s : Sl} {l g : Int} {row : Option Nat} (h : ew W b s l g) (hg : W.grownBy W' row) (hne : row ≠ some b) : ew W' b s l g := by
 have hn : ∀ i, some (⟨b, i, none⟩ : Addr).block ≠ row := fun i e => hne e.symm
 refine ⟨fun j hj => hg.cell (h.c j hj) (hn j), hg.cell h.cl (hn 8), hg.cell h.cg (hn 9), fun i => ?_⟩;rw [World.frozen?_of_block (w := W) (hg.block b h.lt (hn 0))];exact h.f i
theorem um {w : World} {B : Nat} {e : TypeId} {sz n : Nat} {v : Value} {xs : List Value} (h : w.ownsRow B e sz v n xs) {b : Nat} (hb : b < B) : v.ownBlock ≠ some b := fun e => by
 have := (h.lt b e).1; omega
theorem zME {w w4 : World} {bm B k : Nat} {s : Sl} {f : Nat → List It} {x : It} {va : Option Addr} {n vc : Nat} (ho : eS w B s f) (hd : FQ s) (hk : k < 8) (FR : bm < B)
  (hown : w4.ownsRow B 49 4 (.slice va n vc) n (zU (f k ++ [x]))) (hg : w.grownBy w4 (s.v k).ownBlock) (hat : (Value.slice va n vc).ownBlock = (s.v k).ownBlock ∨ (Value.slice va n vc).ownBlock = some w.heap.size) :
  eS (w4.setCell ⟨bm, k, none⟩ (.slice va n vc)) B (s.set k va n vc) (fun i => if i = k then f k ++ [x] else f i) ∧ FQ (s.set k va n vc) := by
 have hlt : ∀ i, i < 8 → ∀ g, (s.v i).ownBlock = some g → g < w.heap.size := fun i hi g hg => ((ho i hi).lt g hg).2
 constructor
 ·
  intro i hi
  show fc _ B ((s.set k va n vc).v i) (if i = k then f k ++ [x] else f i)
  rw [Sl.nW]
  by_cases e : i = k
  ·
   rw [ag e, ag e];exact yI (yB hown (p := ⟨bm, k, none⟩) FR _) rfl
  rw [ah e, ah e];exact yB (World.ownsRow.kept (ho i hi) hg (hd i k hi hk e)) (p := ⟨bm, k, none⟩) FR _
 intro i j hi hj hij;rw [Sl.nW, Sl.nW]
 by_cases e : i = k
 ·
  subst e;rw [ag rfl, ah (aO hij)];rcases hat with hat | hat
  ·
   rw [hat]; exact hd i j hi hj hij
  rw [hat];refine .inr fun h2 => ?_
  have := hlt j hj _ h2.symm;omega
 rw [ah e]
 by_cases e2 : j = k
 ·
  subst e2;rw [ag rfl];rcases hat with hat | hat
  ·
   rw [hat]; exact hd i j hi hj hij
  rw [hat]
  cases hv : (s.v i).ownBlock with
  | none => exact .inl rfl
  | some g =>
   refine .inr fun h2 => ?_
   injection h2 with h2;have := hlt i hi g hv;omega
 rw [ah e2]; exact hd i j hi hj hij
theorem zJc {w0 w w4 : World} {B0 bR bm B2 B3 k : Nat} {s : Sl} {f : Nat → List It} {x : It} {va : Option Addr} {n vc : Nat} {v3 : Value} {T : List It} {L G : Int}
  (hR : ew w bR Sl.nil 0 0) (hM : ew w bm s L G) (hO : eS w B3 s f) (hA : FQ s) (hT : fc w B2 v3 T) (hb : Below B0 w0 w) (h0 : B0 ≤ bm) (h1 : bR < bm) (h2 : bm < B2) (h3 : B2 ≤ B3) (FT : B3 ≤ w.heap.size)
  (EN : ∀ g, v3.ownBlock = some g → g < B3) (hk : k < 8) (hown : w4.ownsRow B3 49 4 (.slice va n vc) n (zU (f k ++ [x]))) (hg : w.grownBy w4 (s.v k).ownBlock)
  (hat : (Value.slice va n vc).ownBlock = (s.v k).ownBlock ∨ (Value.slice va n vc).ownBlock = some w.heap.size) :
  ew (w4.setCell ⟨bm, k, none⟩ (.slice va n vc)) bR Sl.nil 0 0 ∧ ew (w4.setCell ⟨bm, k, none⟩ (.slice va n vc)) bm (s.set k va n vc) L G ∧
   eS (w4.setCell ⟨bm, k, none⟩ (.slice va n vc)) B3 (s.set k va n vc) (fun i => if i = k then f k ++ [x] else f i) ∧ FQ (s.set k va n vc) ∧
   fc (w4.setCell ⟨bm, k, none⟩ (.slice va n vc)) B2 v3 T ∧ Below B0 w0 (w4.setCell ⟨bm, k, none⟩ (.slice va n vc)) := by
 have hok := hO k hk;have hap := zME hO hA hk (show bm < B3 by omega) hown hg hat;refine ⟨(hR.grown hg (um hok (by omega))).dZ (p := ⟨bm, k, none⟩) (show bm ≠ bR by omega) _, (hM.grown hg (um hok (by omega))).EC hk _ _ _, hap.1, hap.2, ?_, ?_⟩
 ·
  refine yB (World.ownsRow.kept hT hg ?_) (p := ⟨bm, k, none⟩) h2 _
  cases hv : v3.ownBlock with
  | none => exact .inl rfl
  | some g =>
   refine .inr fun e => ?_
   have h4 := EN g hv;have h5 := (World.ownsRow.lt hok g e.symm).1;omega
 exact (zM hb (World.ownsRow.mono hok (show B0 ≤ B3 by omega)) (by omega) hg).setCell (p := ⟨bm, k, none⟩) h0 _
end Go.Proofs.YtcgfilmmokmdjaaGreat
namespace Go.Proofs.YtcgfilmmokmdjaaGreat
open Go.RowKit
abbrev zW (n r md z : Int) (s : Sl) (l g : Int) : Array Value := #[.int .i64 n, .int .i64 r, .int .i64 md, .int .i64 z, .slice (s.a 0) (s.n 0) (s.c 0), .slice (s.a 1) (s.n 1) (s.c 1), .slice (s.a 2) (s.n 2) (s.c 2), .slice (s.a 3) (s.n 3) (s.c 3), .slice (s.a 4) (s.n 4) (s.c 4), .slice (s.a 5) (s.n 5) (s.c 5), .slice (s.a 6) (s.n 6) (s.c 6), .slice (s.a 7) (s.n 7) (s.c 7), .int .i64 l, .int .i64 g]
abbrev za (n r md z : Int) (s : Sl) (l g : Int) : Value := .agg (zW n r md z s l g)
theorem _root_.Go.RowKit.Below.keeps' {w w' : World} (h : Below w.heap.size w w') {p : Addr} {u : Value} (hp : w.cell? p = some u) : w'.cell? p = some u := (h.cell (World.block_lt_of_cell? w p hp)).trans hp
theorem zEA {w : World} {B : Nat} {e : TypeId} {sz n : Nat} {v : Value} {xs : List Value} {p : Addr} (h : w.ownsRow B e sz v n xs) (hne : v.ownBlock ≠ some p.block) (u : Value) : (w.setCell p u).ownsRow B e sz v n xs := by
 refine ⟨h.1, ?_⟩;rcases h.2 with h0 | ⟨g, cap, cur, rfl, hb, hg, rest⟩
 ·
  exact .inl h0
 refine .inr ⟨g, cap, cur, rfl, hb, ?_, rest⟩;rw [Below.heap_setCell w p u g (fun e => hne (by rw [← e]; rfl))]; exact hg
def pts (W : World) (b : Nat) (vs : List (Nat × Value)) : World := vs.foldl (fun W p => W.setCell ⟨b, p.1, none⟩ p.2) W
theorem zD {B b : Nat} {w0 : World} (hb : B ≤ b) : ∀ (vs : List (Nat × Value)) {W : World}, Below B w0 W → Below B w0 (pts W b vs)
 | [], _, h => h
 | p :: r, _, h => zD hb r (h.setCell (p := ⟨b, p.1, none⟩) hb p.2)
theorem wH {b B : Nat} {e : TypeId} {sz n : Nat} {v : Value} {xs : List Value} (hne : v.ownBlock ≠ some b) : ∀ (vs : List (Nat × Value)) {W : World}, W.ownsRow B e sz v n xs → (pts W b vs).ownsRow B e sz v n xs
 | [], _, h => h
 | p :: r, _, h => wH hne r (zEA (p := ⟨b, p.1, none⟩) h hne p.2)
theorem xw {b B : Nat} {e : TypeId} {sz n : Nat} {v : Value} {xs : List Value} (hb : b < B) {W : World} (h : W.ownsRow B e sz v n xs) (vs : List (Nat × Value)) : (pts W b vs).ownsRow B e sz v n xs := wH (um h hb) vs h
theorem zt {b : Nat} {p : Addr} (hne : p.block ≠ b) : ∀ (vs : List (Nat × Value)) (W : World), (pts W b vs).cell? p = W.cell? p
 | [], _ => rfl
 | q :: r, W => (zt hne r _).trans (cz (h := fun e => hne (by rw [← e])) ..)
theorem xT {b : Nat} (p : Addr) : ∀ (vs : List (Nat × Value)) (W : World), (pts W b vs).frozen? p = W.frozen? p
 | [], _ => rfl
 | q :: r, W => (xT p r _).trans (by simp)
theorem wC {b : Nat} : ∀ (vs : List (Nat × Value)) (W : World), (pts W b vs).heap.size = W.heap.size
 | [], _ => rfl
 | q :: r, W => (wC r _).trans (by simp)
theorem eS.pts {w : World} {B b : Nat} {s : Sl} {f : Nat → List It} (h : eS w B s f) (hb : b < B) (vs : List (Nat × Value)) : eS (Go.Proofs.YtcgfilmmokmdjaaGreat.pts w b vs) B s f := fun i hi => xw hb (h i hi) vs
structure eu (W : World) (b : Nat) (n r md z : Int) (s : Sl) (l g : Int) : Prop where
 n0 : W.cell? ⟨b, 0, none⟩ = some (.int .i64 n)
 n1 : W.cell? ⟨b, 1, none⟩ = some (.int .i64 r)
 n2 : W.cell? ⟨b, 2, none⟩ = some (.int .i64 md)
 n3 : W.cell? ⟨b, 3, none⟩ = some (.int .i64 z)
 c : ∀ j, j < 8 → W.cell? ⟨b, 4 + j, none⟩ = some (s.v j)
 cl : W.cell? ⟨b, 12, none⟩ = some (.int .i64 l)
 cg : W.cell? ⟨b, 13, none⟩ = some (.int .i64 g)
 f : ∀ i, W.frozen? ⟨b, i, none⟩ = false
theorem eu.q {W : World} {b : Nat} {n r md z : Int} {s : Sl} {l g : Int} (h : eu W b n r md z s l g) : W.cell? ⟨b, 0, none⟩ = some (.int .i64 n) ∧ W.cell? ⟨b, 1, none⟩ = some (.int .i64 r) ∧ W.cell? ⟨b, 2, none⟩ = some (.int .i64 md) ∧ W.cell? ⟨b, 3, none⟩ = some (.int .i64 z) ∧ W.cell? ⟨b, 4, none⟩ = some (.slice (s.a 0) (s.n 0) (s.c 0)) ∧ W.cell? ⟨b, 5, none⟩ = some (.slice (s.a 1) (s.n 1) (s.c 1)) ∧ W.cell? ⟨b, 6, none⟩ = some (.slice (s.a 2) (s.n 2) (s.c 2)) ∧ W.cell? ⟨b, 7, none⟩ = some (.slice (s.a 3) (s.n 3) (s.c 3)) ∧ W.cell? ⟨b, 8, none⟩ = some (.slice (s.a 4) (s.n 4) (s.c 4)) ∧ W.cell? ⟨b, 9, none⟩ = some (.slice (s.a 5) (s.n 5) (s.c 5)) ∧ W.cell? ⟨b, 10, none⟩ = some (.slice (s.a 6) (s.n 6) (s.c 6)) ∧ W.cell? ⟨b, 11, none⟩ = some (.slice (s.a 7) (s.n 7) (s.c 7)) ∧ W.cell? ⟨b, 12, none⟩ = some (.int .i64 l) ∧ W.cell? ⟨b, 13, none⟩ = some (.int .i64 g) := ⟨h.n0, h.n1, h.n2, h.n3, h.c 0 (by decide), h.c 1 (by decide), h.c 2 (by decide), h.c 3 (by decide), h.c 4 (by decide), h.c 5 (by decide), h.c 6 (by decide), h.c 7 (by decide), h.cl, h.cg⟩
section
variable {W : World} {b : Nat} {n r md z : Int} {s : Sl} {l g : Int}
theorem eu.new (W : World) (n r md z : Int) (s : Sl) (l g : Int) (t : TypeId) : eu (W.alloc (.cells (zW n r md z s l g) t)) W.heap.size n r md z s l g :=
 ⟨by simp, by simp, by simp, by simp, fun j hj => by rcases GH hj with h | h | h | h | h | h | h | h <;> subst h <;> simp [Sl.v], by simp, by simp, fun i => by simp⟩
theorem zQ (w : World) (n r md z : Int) (s : Sl) (l g : Int) (t : TypeId) : Below w.heap.size w (w.alloc (.cells (zW n r md z s l g) t)) := (aj _ _).alloc (ai _) _
theorem eu.lt (h : eu W b n r md z s l g) : b < W.heap.size := cH W _ h.cl
theorem eu.below {W' : World} (h : eu W b n r md z s l g) (hB : Below W.heap.size W W') : eu W' b n r md z s l g :=
 ⟨hB.keeps' h.n0, hB.keeps' h.n1, hB.keeps' h.n2, hB.keeps' h.n3, fun j hj => hB.keeps' (h.c j hj), hB.keeps' h.cl, hB.keeps' h.cg, fun i => (hB.frozen (p := ⟨b, i, none⟩) h.lt).trans (h.f i)⟩
theorem eu.ek {c : Nat} (h : eu W b n r md z s l g) (hp : b ≠ c) (vs : List (Nat × Value)) : eu (pts W c vs) b n r md z s l g :=
 ⟨(zt (p := ⟨b, 0, none⟩) hp vs W).trans h.n0, (zt (p := ⟨b, 1, none⟩) hp vs W).trans h.n1, (zt (p := ⟨b, 2, none⟩) hp vs W).trans h.n2, (zt (p := ⟨b, 3, none⟩) hp vs W).trans h.n3, fun j hj => (zt (p := ⟨b, 4 + j, none⟩) hp vs W).trans (h.c j hj), (zt (p := ⟨b, 12, none⟩) hp vs W).trans h.cl, (zt (p := ⟨b, 13, none⟩) hp vs W).trans h.cg, fun i => (xT _ vs W).trans (h.f i)⟩
theorem eu.c0 (h : eu W b n r md z s l g) : W.cell? ⟨b, 4, none⟩ = some (.slice (s.a 0) (s.n 0) (s.c 0)) := h.c 0 (by decide)
theorem eu.c1 (h : eu W b n r md z s l g) : W.cell? ⟨b, 5, none⟩ = some (.slice (s.a 1) (s.n 1) (s.c 1)) := h.c 1 (by decide)
theorem eu.c2 (h : eu W b n r md z s l g) : W.cell? ⟨b, 6, none⟩ = some (.slice (s.a 2) (s.n 2) (s.c 2)) := h.c 2 (by decide)
theorem eu.c3 (h : eu W b n r md z s l g) : W.cell? ⟨b, 7, none⟩ = some (.slice (s.a 3) (s.n 3) (s.c 3)) := h.c 3 (by decide)
theorem eu.c4 (h : eu W b n r md z s l g) : W.cell? ⟨b, 8, none⟩ = some (.slice (s.a 4) (s.n 4) (s.c 4)) := h.c 4 (by decide)
theorem eu.c5 (h : eu W b n r md z s l g) : W.cell? ⟨b, 9, none⟩ = some (.slice (s.a 5) (s.n 5) (s.c 5)) := h.c 5 (by decide)
theorem eu.c6 (h : eu W b n r md z s l g) : W.cell? ⟨b, 10, none⟩ = some (.slice (s.a 6) (s.n 6) (s.c 6)) := h.c 6 (by decide)
theorem eu.c7 (h : eu W b n r md z s l g) : W.cell? ⟨b, 11, none⟩ = some (.slice (s.a 7) (s.n 7) (s.c 7)) := h.c 7 (by decide)
end
abbrev zL (n r md z : Int) (s : Sl) (l g : Int) : List (Nat × Value) := [(0, .int .i64 n), (1, .int .i64 r), (2, .int .i64 md), (3, .int .i64 z), (4, .slice (s.a 0) (s.n 0) (s.c 0)), (5, .slice (s.a 1) (s.n 1) (s.c 1)), (6, .slice (s.a 2) (s.n 2) (s.c 2)), (7, .slice (s.a 3) (s.n 3) (s.c 3)), (8, .slice (s.a 4) (s.n 4) (s.c 4)), (9, .slice (s.a 5) (s.n 5) (s.c 5)), (10, .slice (s.a 6) (s.n 6) (s.c 6)), (11, .slice (s.a 7) (s.n 7) (s.c 7)), (12, .int .i64 l), (13, .int .i64 g)]
abbrev yp (s : Sl) (l g : Int) : List (Nat × Value) := [(4, .slice (s.a 0) (s.n 0) (s.c 0)), (5, .slice (s.a 1) (s.n 1) (s.c 1)), (6, .slice (s.a 2) (s.n 2) (s.c 2)), (7, .slice (s.a 3) (s.n 3) (s.c 3)), (8, .slice (s.a 4) (s.n 4) (s.c 4)), (9, .slice (s.a 5) (s.n 5) (s.c 5)), (10, .slice (s.a 6) (s.n 6) (s.c 6)), (11, .slice (s.a 7) (s.n 7) (s.c 7)), (12, .int .i64 l), (13, .int .i64 g)]
theorem eu.all {W : World} {b : Nat} {n r md z : Int} {s : Sl} {l g : Int} (h : eu W b n r md z s l g) (n' r' md' z' : Int) (s' : Sl) (l' g' : Int) : eu (pts W b (zL n' r' md' z' s' l' g')) b n' r' md' z' s' l' g' := by
 obtain ⟨a0, a1, a2, a3, c0, c1, c2, c3, c4, c5, c6, c7, c8, c9⟩ := h.q;refine ⟨?_, ?_, ?_, ?_, fun j hj => ?_, ?_, ?_, fun i => (xT _ _ W).trans (h.f i)⟩
 ·
  simp [pts, go_sem, a0]
 ·
  simp [pts, go_sem, a1]
 ·
  simp [pts, go_sem, a2]
 ·
  simp [pts, go_sem, a3]
 ·
  rcases GH hj with e | e | e | e | e | e | e | e <;> subst e <;> simp [pts, go_sem, c0, c1, c2, c3, c4, c5, c6, c7, Sl.v]
 ·
  simp [pts, go_sem, c8]
 simp [pts, go_sem, c9]
theorem eu.map {W : World} {b : Nat} {n r md z : Int} {s : Sl} {l g : Int} (h : eu W b n r md z s l g) (s' : Sl) (l' g' : Int) : eu (pts W b (yp s' l' g')) b n r md z s' l' g' := by
 obtain ⟨a0, a1, a2, a3, c0, c1, c2, c3, c4, c5, c6, c7, c8, c9⟩ := h.q;refine ⟨?_, ?_, ?_, ?_, fun j hj => ?_, ?_, ?_, fun i => (xT _ _ W).trans (h.f i)⟩
 ·
  simp [pts, go_sem, a0]
 ·
  simp [pts, go_sem, a1]
 ·
  simp [pts, go_sem, a2]
 ·
  simp [pts, go_sem, a3]
 ·
  rcases GH hj with e | e | e | e | e | e | e | e <;> subst e <;> simp [pts, go_sem, c0, c1, c2, c3, c4, c5, c6, c7, Sl.v]
 ·
  simp [pts, go_sem, c8]
 simp [pts, go_sem, c9]
theorem eu.EO {W : World} {b : Nat} {n r md z : Int} {s : Sl} {l g : Int} (h : eu W b n r md z s l g) (z' : Int) : eu (pts W b [(3, .int .i64 z')]) b n r md z' s l g := by
 have a3 := h.n3;have ne : ∀ i, i ≠ 3 → ∀ u, W.cell? ⟨b, i, none⟩ = some u → (pts W b [(3, .int .i64 z')]).cell? ⟨b, i, none⟩ = some u := fun i hi u hu => (cz (h := fun e => hi (by injection e with _ e _; exact e.symm)) ..).trans hu
 exact ⟨ne 0 (by decide) _ h.n0, ne 1 (by decide) _ h.n1, ne 2 (by decide) _ h.n2, by simp [pts, go_sem, a3], fun j hj => ne (4 + j) (by omega) _ (h.c j hj), ne 12 (by decide) _ h.cl, ne 13 (by decide) _ h.cg, fun i => (xT _ _ W).trans (h.f i)⟩
theorem eu.Le {W : World} {b : Nat} {n r md z : Int} {s : Sl} {l g : Int} (h : eu W b n r md z s l g) (md' : Int) : eu (pts W b [(2, .int .i64 md')]) b n r md' z s l g := by
 have a3 := h.n2;have ne : ∀ i, i ≠ 2 → ∀ u, W.cell? ⟨b, i, none⟩ = some u → (pts W b [(2, .int .i64 md')]).cell? ⟨b, i, none⟩ = some u := fun i hi u hu => (cz (h := fun e => hi (by injection e with _ e _; exact e.symm)) ..).trans hu
 exact ⟨ne 0 (by decide) _ h.n0, ne 1 (by decide) _ h.n1, by simp [pts, go_sem, a3], ne 3 (by decide) _ h.n3, fun j hj => ne (4 + j) (by omega) _ (h.c j hj), ne 12 (by decide) _ h.cl, ne 13 (by decide) _ h.cg, fun i => (xT _ _ W).trans (h.f i)⟩
end Go.Proofs.YtcgfilmmokmdjaaGreat
