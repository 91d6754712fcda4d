/- A part of the walk. -/
import Derived.Test.YtcgfilmmokmdjaaGreatQAG
import Derived.Test.YtcgfilmmokmdjaaGreatMp
import Derived.Test.YtcgfilmmokmdjaaGreatQAA
import Derived.Shelf.SlSortCmp.WholeK
import Derived.Shelf.SlSortCmp.NoneTotal
import Derived.Test.YtcgfilmmokmdjaaGreatQAB
import Derived.Test.YtcgfilmmokmdjaaGreatQAD
import Derived.Test.YtcgfilmmokmdjaaGreatQAE
import Derived.Maps.AppendAt
set_option linter.all false
set_option maxRecDepth 100000
set_option maxHeartbeats 32000000
namespace Go.Proofs.YtcgfilmmokmdjaaGreat
def wv (f : Nat → List It) (k : Nat) (v : List It) : Nat → List It := fun i => if i = k then v else f i
theorem Qt (f : Nat → List It) (k : Nat) (v : List It) : wv f k v k = v := ag rfl
theorem NB (f : Nat → List It) {k i : Nat} (h : i ≠ k) (v : List It) : wv f k v i = f i := ah h
theorem Wa (f : Nat → List It) (k : Nat) (v : List It) : ∀ n, n ≤ k → cat (wv f k v) n = cat f n
 | 0, _ => rfl
 | n + 1, h => by
  show cat (wv f k v) n ++ wv f k v n = cat f n ++ f n
  rw [Wa f k v n (by omega), NB f (by omega)]
theorem Wb (f : Nat → List It) (k : Nat) (v : List It) : ∀ n, k < n → zv (cat (wv f k v) n) + zv (f k) = zv (cat f n) + zv v
 | 0, h => by omega
 | n + 1, h => by
  show zv (cat (wv f k v) n ++ wv f k v n) + zv (f k) = zv (cat f n ++ f n) + zv v
  rw [xE, xE]
  by_cases e : k = n
  ·
   subst e;rw [Wa f k v k (ai _), Qt];omega
  have := Wb f k v n (by omega);rw [NB f (by omega)];omega
theorem fO.upd {M : Mp} (h : fO M) {k : Nat} (hk : k < 8) {v : List It} (hv : xp v = true) (hs : ∀ x ∈ v, fl x.key = k) {L G : Int}
  (hL : L + (zv (M.st k) : Int) = M.live + (zv v : Int)) (g0 : 0 ≤ G) (g1 : G ≤ 1099511627776) : fO ⟨wv M.st k v, L, G⟩ := by
 have KL := Wb M.st k v 8 hk;refine ⟨fun i hi => ?_, fun i hi x hx => ?_, ?_, g0, g1⟩
 ·
  by_cases e : i = k
  ·
   show xp (wv M.st k v i) = true
   rw [e, Qt]; exact hv
  show xp (wv M.st k v i) = true
  rw [NB _ e]; exact h.ok i hi
 ·
  have hx : x ∈ wv M.st k v i := hx
  by_cases e : i = k
  ·
   rw [e, Qt] at hx; rw [e]; exact hs x hx
  rw [NB _ e] at hx; exact h.sp i hi x hx
 show L = (zv (cat (wv M.st k v) 8) : Int)
 have hl := h.lv;rw [show vA M = cat M.st 8 from rfl] at hl;omega
theorem zJJ {l : List It} {x : It} (h : xp l = true) (hx : okB x = true) : xp (ins l x) = true := by
 rw [uP] at h ⊢;exact ⟨UR h.1 x, ki x (aY hx) l h.2⟩
theorem zH4 {l : List It} (h : xp l = true) (key : Int) : xp (gl l key) = true := by
 rw [uP] at h ⊢;exact ⟨Pr h.1 key, fun y hy => h.2 y (List.mem_filter.1 hy).1⟩
theorem xZ {M : Mp} (h : fO M) (key : Int) : ze M key = fG (M.st (fl key)) key := by unfold ze; rw [ag ((zV M).2 h)]
theorem NC {M : Mp} (h : fO M) {x : It} (hx : okB x = true) (hg : M.dW + (gW (ze M x.key) : Int) ≤ 1099511627776) :
  wQ M x = ⟨wv M.st (fl x.key) (ins (M.st (fl x.key)) x), M.live + (xN x : Int) - (gW (ze M x.key) : Int), M.dW + (gW (ze M x.key) : Int)⟩ := by
 rw [xZ h] at hg ⊢;unfold wQ;rw [ag ⟨(zV M).2 h, hx, hg⟩]
 congr 1
 funext i
 unfold wv
 by_cases e : i = fl x.key
 ·
  rw [ag e, ag e, e]
 rw [ah e, ah e]
theorem Qu {M : Mp} (h : fO M) {key : Int} (hg : M.dW + (gW (ze M key) : Int) ≤ 1099511627776) :
  yJ M key = ⟨wv M.st (fl key) (gl (M.st (fl key)) key), M.live - (gW (ze M key) : Int), M.dW + (gW (ze M key) : Int)⟩ := by
 have hd : ∀ l : List It, fG l key = none → gl l key = l := fun l hl => List.filter_eq_self.2 fun y hy => by
  have := zDF hl y hy;simp [this]
 have hu : (fun i => if i = fl key then gl (M.st i) key else M.st i) = wv M.st (fl key) (gl (M.st (fl key)) key) := funext fun i => by
  unfold wv
  by_cases e : i = fl key
  ·
   rw [ag e, ag e, e]
  rw [ah e, ah e]
 have hgo := xZ h key;unfold yJ;generalize ze M key = o at *
 cases o with
 | none =>
  have e : wv M.st (fl key) (gl (M.st (fl key)) key) = M.st := funext fun i => by
   unfold wv
   by_cases e : i = fl key
   ·
    rw [ag e, e, hd _ hgo.symm]
   rw [ah e]
  obtain ⟨f, L, G⟩ := M
  show (⟨f, L, G⟩ : Mp) = ⟨_, L - ((0 : Nat) : Int), G + ((0 : Nat) : Int)⟩
  rw [show L - ((0 : Nat) : Int) = L by omega, show G + ((0 : Nat) : Int) = G by omega, e]
 | some y =>
  have GX : M.dW + (xN y : Int) ≤ 1099511627776 := hg
  show (if M.dW + (xN y : Int) ≤ 1099511627776 then _ else M) = _
  rw [ag GX, hu]
  rfl
theorem Wc {M : Mp} (h : fO M) {n : Int} (h0 : 0 ≤ n) (hg : M.dW + n ≤ 1099511627776) : xA M n = ⟨M.st, M.live, M.dW + n⟩ := by
 unfold xA;rw [ag ⟨(zV M).2 h, h0, by omega⟩]
theorem fO.ins {M : Mp} (h : fO M) {x : It} (hx : okB x = true) (hg : M.dW + (gW (ze M x.key) : Int) ≤ 1099511627776) : fO (wQ M x) := by
 rw [NC h hx hg];have hk := wS x.key;have h0 := h.g0;refine h.upd hk (zJJ (h.ok _ hk) hx) (ki (p := fun y => fl y.key = fl x.key) x rfl _ (h.sp _ hk)) ?_ (by omega) hg;have := PI x _ (vt (h.ok _ hk));rw [xZ h];unfold xN;omega
theorem fO.del {M : Mp} (h : fO M) {key : Int} (hg : M.dW + (gW (ze M key) : Int) ≤ 1099511627776) : fO (yJ M key) := by
 rw [Qu h hg];have hk := wS key;have h0 := h.g0;refine h.upd hk (zH4 (h.ok _ hk) key) (fun y hy => h.sp _ hk y (List.mem_filter.1 hy).1) ?_ (by omega) hg;have := Vc key _ (vt (h.ok _ hk));rw [xZ h];omega
theorem fO.C_ {M : Mp} (h : fO M) {n : Int} (h0 : 0 ≤ n) (hg : M.dW + n ≤ 1099511627776) : fO (xA M n) := by
 rw [Wc h h0 hg];have := h.g0;exact ⟨h.ok, h.sp, h.lv, by show 0 ≤ M.dW + n; omega, hg⟩
theorem NF (o : Option It) : gW o ≤ 4127 := by
 cases o with
 | none => exact au _
 | some y => exact xx _
theorem Wd (M : Mp) (k : Nat) (v : List It) (key : Int) : fG (wv M.st k v (fl key)) key = if fl key = k then fG v key else fG (M.st (fl key)) key := by
 unfold wv; split <;> rfl
theorem Wh {M : Mp} (h : fO M) {x : It} (hx : okB x = true) (hg : M.dW + (gW (ze M x.key) : Int) ≤ 1099511627776) (key : Int) :
  ze (wQ M x) key = if x.key = key then some x else ze M key := by
 rw [xZ (h.ins hx hg), NC h hx hg, xZ h key]
 show fG (wv _ _ _ _) key = _
 rw [Wd]
 by_cases e : x.key = key
 ·
  rw [ag e, ← e, ag rfl, vG]
 rw [ah e]
 by_cases e2 : fl key = fl x.key
 ·
  rw [ag e2, wl x key (fun e3 => e e3.symm), e2]
 rw [ah e2]
theorem kR {M : Mp} (h : fO M) {k : Int} (hg : M.dW + (gW (ze M k) : Int) ≤ 1099511627776) (key : Int) :
  ze (yJ M k) key = if k = key then none else ze M key := by
 rw [xZ (h.del hg), Qu h hg, xZ h key]
 show fG (wv _ _ _ _) key = _
 rw [Wd]
 by_cases e : k = key
 ·
  rw [ag e, ← e, ag rfl, kW]
 rw [ah e]
 by_cases e2 : fl key = fl k
 ·
  rw [ag e2, uH k key (fun e3 => e e3.symm), e2]
 rw [ah e2]
theorem zI2 {M : Mp} (h : fO M) {x : It} (hx : okB x = true) (hg : M.dW + (gW (ze M x.key) : Int) ≤ 1099511627776) : (wQ M x).live + (wQ M x).dW = M.live + M.dW + (xN x : Int) := by
 rw [NC h hx hg]
 show M.live + (xN x : Int) - (gW (ze M x.key) : Int) + (M.dW + (gW (ze M x.key) : Int)) = _
 omega
theorem qy {M : Mp} (h : fO M) {k : Int} (hg : M.dW + (gW (ze M k) : Int) ≤ 1099511627776) : (yJ M k).live + (yJ M k).dW = M.live + M.dW := by
 rw [Qu h hg]
 show M.live - (gW (ze M k) : Int) + (M.dW + (gW (ze M k) : Int)) = _
 omega
theorem fO.live0 {M : Mp} (h : fO M) : 0 ≤ M.live := by
 have := h.lv; omega
end Go.Proofs.YtcgfilmmokmdjaaGreat
namespace Go.Proofs.YtcgfilmmokmdjaaGreat
open Go.RowKit
def M0 : Mp := ⟨fun _ => [], 0, 0⟩
end Go.Proofs.YtcgfilmmokmdjaaGreat
namespace Go.Proofs.YtcgfilmmokmdjaaGreat
structure StM (M : Mp) (k S B : Nat) : Prop where
 v : fO M
 sum : M.live + M.dW = (S : Int)
 le : S ≤ B
 len : ∀ j, (M.st j).length ≤ k
theorem Wi {f : Nat → List It} {x : It} : ∀ {n}, x ∈ cat f n → ∃ i, i < n ∧ x ∈ f i
 | 0, h => by cases h
 | n + 1, h => by
  rcases List.mem_append.1 (show x ∈ cat f n ++ f n from h) with h | h
  ·
   obtain ⟨i, hi, h⟩ := Wi h;exact ⟨i, by omega, h⟩
  exact ⟨n, by omega, h⟩
theorem qK {M : Mp} (h : fO M) : zI M = fC (vA M) := by unfold zI; rw [ag ((zV M).2 h)]
theorem qF {M : Mp} (h : fO M) : ∀ x ∈ zI M, nt x := by
 rw [qK h];refine UA fun x hx => ?_
 obtain ⟨i, hi, hx⟩ := Wi (show x ∈ cat M.st 8 from hx);exact (uP.1 (h.ok i hi)).2 x hx
theorem Wj {M : Mp} (h : fO M) : (zv (zI M) : Int) = M.live := by
 rw [qK h, h.sum, h.lv]
def tD (l : List It) (g : Int) : Mp :=
 if l.all okB = true ∧ 0 ≤ g ∧ g ≤ 1099511627776 then ⟨fun i => nX i (fC l), (zv (fC l) : Int), g⟩ else M0
theorem Qw {l : List It} {g : Int} (h : l.all okB = true) (h0 : 0 ≤ g) (h1 : g ≤ 1099511627776) : tD l g = ⟨fun i => nX i (fC l), (zv (fC l) : Int), g⟩ := ag ⟨h, h0, h1⟩
theorem zJk {l : List It} {g : Int} (h : ¬ (l.all okB = true ∧ 0 ≤ g ∧ g ≤ 1099511627776)) : tD l g = M0 := ah h
theorem zKC {l : List It} (h : l.all okB = true) : ∀ x ∈ l, nt x := fun x hx => by
 have := List.all_eq_true.1 h x hx;unfold okB at this;exact aY this
theorem Wl {l : List It} (h : ∀ x ∈ l, nt x) : l.all okB = true := List.all_eq_true.2 fun x hx => by
 unfold okB;exact aF (h x hx)
theorem zJ7 (i : Nat) (T : List It) : (nX i T).length ≤ T.length := List.length_filter_le _ _
/-! ### The d_ Put and Delete -/
def uK (M : Mp) (x : It) : Mp :=
 if yw M = true ∧ okB x = true ∧ M.dW + (gW (ze M x.key) : Int) ≤ 1099511627776 then tD (ins (zI M) x) (M.dW + (gW (ze M x.key) : Int)) else M
def tC (M : Mp) (key : Int) : Mp :=
 match ze M key with
 | none => M
 | some y => if M.dW + (xN y : Int) ≤ 1099511627776 then tD (gl (zI M) key) (M.dW + (xN y : Int)) else M
/-! ### KM -/
structure KN (M N : Mp) : Prop where
 st : ∀ i, i < 8 → M.st i = N.st i
 l : M.live = N.live
 g : M.dW = N.dW
theorem KN.refl (M : Mp) : KN M M := ⟨fun _ _ => rfl, rfl, rfl⟩
def GY (M N : Mp) : Bool := (List.range 8).all (fun i => decide (M.st i = N.st i)) && (M.live == N.live) && (M.dW == N.dW)
theorem zIb (M : Mp) (x : It) : KN (wQ M x) (uK M x) := by
 by_cases hv : fO M
 ·
  have hv' := (zV M).2 hv
  by_cases hx : okB x = true
  ·
   by_cases hg : M.dW + (gW (ze M x.key) : Int) ≤ 1099511627776
   ·
    have hp := qF hv;have ha := yV M;have hfn : fG (zI M) x.key = ze M x.key := by
     have := vO M x.key
     rwa [yK ha] at this
    unfold uK;rw [ag ⟨hv', hx, hg⟩, NC hv hx hg];have h0 : 0 ≤ M.dW + (gW (ze M x.key) : Int) := by have := hv.g0; omega
    rw [Qw (Wl (ki x (aY hx) _ hp)) h0 hg, yK (UR ha x)];refine ⟨fun i hi => ?_, ?_, rfl⟩
    ·
     show wv M.st (fl x.key) (ins (M.st (fl x.key)) x) i = Go.Proofs.YtcgfilmmokmdjaaGreat.nX i (ins (zI M) x)
     rw [zKZ ha, qK hv, hv.nX hi];unfold wv
     by_cases e : i = fl x.key
     ·
      rw [ag e, ag e.symm, e]
     rw [ah e, ah (aO e)]
    show M.live + (xN x : Int) - (gW (ze M x.key) : Int) = (zv (ins (zI M) x) : Int)
    have h1 := PI x (zI M) ha;rw [hfn] at h1;have h2 := Wj hv;unfold xN;omega
   unfold uK wQ;rw [ah (fun h => hg (by rw [xZ hv]; exact h.2.2)), ah (fun h => hg h.2.2)];exact .refl M
  unfold uK wQ;rw [ah (fun h => hx h.2.1), ah (fun h => hx h.2.1)];exact .refl M
 unfold uK wQ;rw [ah (fun h => hv ((zV M).1 h.1)), ah (fun h => hv ((zV M).1 h.1))];exact .refl M
theorem zID (M : Mp) (key : Int) : KN (yJ M key) (tC M key) := by
 unfold yJ tC
 cases hgo : ze M key with
 | none => exact .refl M
 | some y =>
  have hv : fO M := (zV M).1 (xY hgo).1
  show KN (if M.dW + (xN y : Int) ≤ 1099511627776 then _ else M) (if M.dW + (xN y : Int) ≤ 1099511627776 then _ else M)
  by_cases hg : M.dW + (xN y : Int) ≤ 1099511627776
  ·
   rw [ag hg, ag hg];have ha := yV M;have hfn : fG (zI M) key = ze M key := by
    have := vO M key
    rwa [yK ha] at this
   have h0 : 0 ≤ M.dW + (xN y : Int) := by have := hv.g0; omega
   rw [Qw (l := gl (zI M) key) (Wl fun x hx => qF hv x (List.mem_filter.1 hx).1) h0 hg, yK (Pr ha key)];refine ⟨fun i hi => ?_, ?_, rfl⟩
   ·
    show (if i = fl key then gl (M.st i) key else M.st i) = Go.Proofs.YtcgfilmmokmdjaaGreat.nX i (gl (zI M) key)
    rw [zKV ha, qK hv, hv.nX hi]
    by_cases e : i = fl key
    ·
     rw [ag e, ag e.symm]
    rw [ah e, ah (aO e)]
   show M.live - (xN y : Int) = (zv (gl (zI M) key) : Int)
   have h1 := Vc key (zI M) ha;rw [hfn, hgo] at h1;have h2 := Wj hv;have h3 : gW (some y) = xN y := rfl;omega
  rw [ah hg, ah hg];exact .refl M
structure Gn where
 num : Int
 rev : Int
 mode : Int
 size : Int
 m : Mp
def vY (x : It) : Int := x.off + (eM x.size.toNat : Int)
def D7 (x y : It) : Prop := vY x ≤ y.off ∨ vY y ≤ x.off
instance (x y : It) : Decidable (D7 x y) := by unfold D7; infer_instance
def kK (l : List It) (size : Int) : Prop := l.Pairwise D7 ∧ ∀ x ∈ l, vY x ≤ size
instance (l : List It) (size : Int) : Decidable (kK l size) := by unfold kK; infer_instance
def vU (l : List It) (size : Int) : Bool := decide (kK l size)
theorem Wm {x y : It} (h : D7 x y) : D7 y x := h.symm
theorem zFE {l l' : List It} (h : l.Perm l') (size : Int) : kK l size ↔ kK l' size := by
 unfold kK;rw [List.Perm.pairwise_iff (fun h => Wm h) h];exact ⟨fun ⟨h1, h2⟩ => ⟨h1, fun x hx => h2 x (h.mem_iff.2 hx)⟩, fun ⟨h1, h2⟩ => ⟨h1, fun x hx => h2 x (h.mem_iff.1 hx)⟩⟩
theorem zKh {n : Nat} (h : n ≤ 4096) : 0 < eM n := by
 rw [J4 h];have := un n;omega
theorem tx {x : It} (h : nt x) : x.off < vY x := by
 have h1 := h.2.2.2;have := zKh (n := x.size.toNat) (by omega);unfold vY;omega
def chain (e : Int) : List It → Option Int
 | [] => some e
 | x :: r => if x.off < e then none else chain (vY x) r
def NH (l : List It) (size : Int) : Bool := match chain 16 l with
 | none => false
 | some e => decide (e ≤ size)
theorem Wn : ∀ (l : List It) (e size : Int), (∀ x ∈ l, nt x) → l.Pairwise (fun a b => a.off ≤ b.off) → (∀ x ∈ l, e ≤ x.off ∨ x.off < e) →
  ((match chain e l with | none => false | some e' => decide (e' ≤ size)) = true ↔ (l.Pairwise D7 ∧ (∀ x ∈ l, e ≤ x.off) ∧ (∀ x ∈ l, vY x ≤ size) ∧ (l = [] → e ≤ size)))
 | [], e, size, _, _, _ => by simp [chain]
 | x :: r, e, size, hok, hs, _ => by
  have hx := tx (hok x (by simp));rw [dz] at hs ⊢;have ih := Wn r (vY x) size (fun y hy => hok y (by simp [hy])) hs.2 (fun y _ => by omega)
  by_cases h : x.off < e
  ·
   have h1 : chain e (x :: r) = none := by unfold chain; rw [ag h]
   rw [h1]
   constructor
   ·
    intro h2; cases h2
   rintro ⟨_, h3, _⟩;have := h3 x (by simp);omega
  have h1 : chain e (x :: r) = chain (vY x) r := by
   show (if x.off < e then none else chain (vY x) r) = _
   rw [ah h]
  rw [h1, ih]
  constructor
  ·
   rintro ⟨h2, h3, h4, h5⟩;refine ⟨⟨fun y hy => .inl (h3 y hy), h2⟩, fun y hy => ?_, fun y hy => ?_, fun e => by cases e⟩
   ·
    rcases List.mem_cons.1 hy with rfl | hy
    ·
     omega
    have := hs.1 y hy; omega
   rcases List.mem_cons.1 hy with rfl | hy
   ·
    cases r with
    | nil => exact h5 rfl
    | cons z t =>
     have h6 := h4 z (by simp);have h7 := h3 z (by simp);have h8 := tx (hok z (by simp));omega
   exact h4 y hy
  rintro ⟨⟨h2, h3⟩, h4, h5, _⟩;refine ⟨h3, fun y hy => ?_, fun y hy => h5 y (by simp [hy]), fun _ => h5 x (by simp)⟩;rcases h2 y hy with h6 | h6
  ·
   exact h6
  have h7 := hs.1 y hy;have h8 := tx (hok y (by simp [hy]));omega
theorem zJK {l l' : List It} {size : Int} (hok : ∀ x ∈ l, nt x) (hp : l.Perm l') (hs : l'.Pairwise fun a b => a.off ≤ b.off) (jf : 16 ≤ size) : NH l' size = vU l size := by
 have KO : ∀ x ∈ l', nt x := fun x hx => hok x (hp.mem_iff.2 hx)
 rw [dw];unfold NH vU;rw [Wn l' 16 size KO hs (fun y _ => by omega), aT, zFE hp];exact ⟨fun ⟨h1, _, h2, _⟩ => ⟨h1, h2⟩, fun ⟨h1, h2⟩ => ⟨h1, fun x hx => (KO x hx).1, h2, fun _ => jf⟩⟩
structure ja (g : Gn) : Prop where
 num : 1 ≤ g.num ∧ g.num ≤ 8
 rev : 0 ≤ g.rev ∧ g.rev ≤ 4294967295
 mode : 1 ≤ g.mode ∧ g.mode ≤ 3
 size : 16 ≤ g.size ∧ g.size ≤ 1048576 ∧ g.size % 8 = 0
 m : yw g.m = true
 ends : vU (zI g.m) g.size = true
 sum : g.size = 16 + g.m.live + g.m.dW
def wB (g : Gn) : Bool := decide (1 ≤ g.num) && decide (g.num ≤ 8) && decide (0 ≤ g.rev) && decide (g.rev ≤ 4294967295) && decide (1 ≤ g.mode) && decide (g.mode ≤ 3) && decide (16 ≤ g.size) && decide (g.size ≤ 1048576) && decide (g.size % 8 = 0) && yw g.m && vU (zI g.m) g.size && decide (g.size = 16 + g.m.live + g.m.dW)
theorem yD (g : Gn) : wB g = true ↔ ja g := by
 unfold wB;simp only [aM, aT];exact ⟨fun ⟨⟨⟨⟨⟨⟨⟨⟨⟨⟨⟨a, b⟩, c⟩, d⟩, e⟩, f⟩, g⟩, h⟩, i⟩, j⟩, k⟩, l⟩ => ⟨⟨a, b⟩, ⟨c, d⟩, ⟨e, f⟩, ⟨g, h, i⟩, j, k, l⟩, fun h => ⟨⟨⟨⟨⟨⟨⟨⟨⟨⟨⟨h.num.1, h.num.2⟩, h.rev.1⟩, h.rev.2⟩, h.mode.1⟩, h.mode.2⟩, h.size.1⟩, h.size.2.1⟩, h.size.2.2⟩, h.m⟩, h.ends⟩, h.sum⟩⟩
theorem Wo {g : Gn} (h : ¬ ja g) : wB g = false := by
 cases e : wB g with
 | false => rfl
 | true => exact absurd ((yD g).1 e) h
end Go.Proofs.YtcgfilmmokmdjaaGreat
namespace Go.Proofs.YtcgfilmmokmdjaaGreat
open Go.RowKit Go.Shelf
theorem zIx (v : Value) (l : List It) (w : World) (B : Nat) (hB : B ≤ w.heap.size) (hv : fg w B v l) (hsm : l.length ≤ 1000000) :
  Calls Tryz.prog 129 #[v, .func (.func 130) #[] #[]] w fun e w' => e = .returned (.tuple #[]) ∧ ∃ l', l.Perm l' ∧ l'.Pairwise (fun a b => a.off ≤ b.off) ∧ iQ w' v l' ∧ Below B w w' := by
 have eg : ∀ args w, (callFunc 130 args).run Tryz.prog w = .ok (.enter 130 args) w := enters_of Tryz.func130 (by kernel_rfl) rfl;rcases hv.2 with ⟨rfl, h0⟩ | ⟨g, cap, cur, rfl, hb, hg, hn, hc, hs, ht⟩
 ·
  have hl : l = [] := List.eq_nil_of_length_eq_zero h0;subst hl;refine (AnyF.slices_SortFunc_none UG none 0 _ w).mono ?_;rintro e w' ⟨rfl, rfl⟩;exact ⟨rfl, [], List.Perm.nil, List.Pairwise.nil, iy.nil 4 gZ _, aj _ _⟩
 have Qx : g < w.heap.size := (Array.getElem?_eq_some_iff.1 hg).1;have hcon := AnyQ.slices_SortFunc UG 4 Tryz.isAgg49 Tryz.sizeOf49 gZ wY (fun x u hu => by simp [gZ] at hu; rcases hu with rfl | rfl | rfl | rfl <;> rfl) (fun x y => Fu x.off y.off) zMR 130 #[] g 0 cap l.toArray w eg (fun _ _ _ _ x y => zHN x y _) (UI hg rfl ht) Qx (by rw [bZ]; omega);change Calls Tryz.prog 129 _ _ _ at hcon;refine hcon.mono ?_;rintro e w' ⟨rfl, d', n, os, hp, hso, rfl⟩;have hz : d'.size = l.length := by rw [hp.1, bZ]
 refine ⟨rfl, d'.toList, zJ8 hp, zHm (by rw [hz, bZ]) hso, ?_, zC2 hb Qx⟩;have := zG3 (holdsK_sortWorldK_c gZ 4 w g 0 l.toArray d' n os (UI hg rfl ht) Qx hp.1) (by rw [hz]; exact hn) hc
 rwa [hz] at this
theorem zIY {l : List It} {k : Nat} (h : k < l.length) : l.drop k = dX l k :: l.drop (k + 1) := by
 rw [cR h];unfold dX;rw [ax, aB h]
 rfl
theorem zJl (v : Value) (l : List It) (size : Int) (w : World) (B : Nat) (hB : B ≤ w.heap.size) (hv : fg w B v l) (hok : ∀ x ∈ l, nt x) (hsm : l.length ≤ 1000000) (hsz : 16 ≤ size) :
  Calls Tryz.prog 88 #[v, .int .i64 size] w fun e w' => e = .returned (.bool (vU l size)) ∧ Below B w w' := by
 have HS := zh (fun W (h : fg W B v l) (h2 : B ≤ W.heap.size) => zIx v l W B h2 h hsm);have HO := zh hv;have HE := zh (fun l' (h : l.Perm l') h2 => zJK (size := size) hok h h2 hsz);have HK := zh (fun l' (h : l.Perm l') => show ∀ x ∈ l', nt x from fun x hx => hok x (h.mem_iff.2 hx));generalize vU l size = res at *;clear hv hok hsm
 go_enter Tryz.func88, Tryz.ntmps88
 go_wp2_with fail;refine (HS.out _ HO.out hB).mono ?_;rintro e w1 ⟨rfl, l', hp, hs, gB, hb⟩;have HB := zh hb;have KQ := zh (HE.out l' hp hs);have Wp := HK.out l' hp;have D9 := ak hB hb.size;clear HS HO HE HK hb hp hs;obtain ⟨a, cap, rfl, h1, h2⟩ := gB.shape;have hm := BM h1 h2;have Hr := zh gB;generalize hn : l'.length = n at *;have Hn := zh hn;have HKo := zh Wp;clear gB h1 h2 hn Wp;go_wp2_with fail
 go_loopw [5, 12] (fun e i wr => ∃ (k : Nat) (s : Int), k ≤ n ∧ e = .int .i64 s ∧ i = .int .i64 (k : Int) ∧ 0 ≤ s ∧ s ≤ 1048576 + 5000 ∧ chain 16 l' = chain s (l'.drop k) ∧ Below B w wr ∧ w1.heap.size ≤ wr.heap.size ∧ Below w1.heap.size w1 wr) (fun _ i _ => n - (intOf i).toNat)
 case atStart => exact ⟨0, 16, au _, rfl, rfl, by omega, by omega, rfl, HB.out, ai _, aj _ _⟩
 obtain ⟨k, s, hk, rfl, rfl, hs0, hs1, hch, hb, BV, hb1⟩ := hrel;have Hc := zh hch;have Hb := zh hb;have lV := zh hb1;clear hch hb hb1
 by_cases hlt : k < n
 ·
  obtain ⟨b, off, rfl, c0, c1, c2, c3⟩ := (Hr.out.below lV.out).at hlt;have hx := HKo.out (dX l' k) (by rw [← Hn.out] at hlt; exact t7 hlt);have hsl : eM (dX l' k).size.toNat ≤ 4127 := xx _
  have HD := zh (show chain s (l'.drop k) = if (dX l' k).off < s then none else chain ((dX l' k).off + (eM (dX l' k).size.toNat : Int)) (l'.drop (k + 1)) by
   rw [zIY (by rw [Hn.out]; exact hlt)]; rfl)
  have HZ := zh (fun W => Kk (dX l' k).size.toNat W);have hz0 : ((dX l' k).size.toNat : Int) = (dX l' k).size := Int.toNat_of_nonneg hx.2.2.2.1;have HX := zh (gC.new wr (dX l' k));have eE := zh (z8 wr (dX l' k));generalize eM (dX l' k).size.toNat = z at *;rw [hz0] at HZ;clear hz0;have hx1 := hx.1;have hx2 := hx.2.1;clear hx;generalize dX l' k = x at *;go_upto_region 6 with fail;change Code.wp _ _ _ _ (wr.alloc (xF x));obtain ⟨W, hW⟩ : ∃ W, wr.alloc (xF x) = W := ⟨_, rfl⟩
  rw [hW] at HX eE ⊢;have rE := HX.out.lt;have jK := zh (iP Hb.out (ak D9 BV) eE.out);have Qy := zh (iP lV.out BV eE.out);have GZ := ak BV eE.out.size;have HZ' := zh (fun W => (HZ.out W).mono (R' := fun e w' => e = .returned (.int .i64 (z : Int)) ∧ Below W.heap.size W w') fun _ _ ⟨he, hw⟩ => ⟨he, hw ▸ aj _ _⟩);clear HZ;have d2 := HX.out.t.c2;have d3 := HX.out.t.c3;clear c0 c1 c2 c3 hW
  by_cases hlo : x.off < s
  ·
   go_wp2_with fail;go_ret;have hf : res = false := by
    rw [← KQ.out]; unfold NH; rw [Hc.out, HD.out, ag hlo]
   exact ⟨zE hf.symm, jK.out⟩
  have hge : s ≤ x.off := by omega
  go_wp2_with fail;have e2 := zB d2;have e3 := zB d3;refine zC (by kernel_rfl) (by kernel_rfl) ?_
  repeat (go_big_quiet_step ((exact zG (HZ'.out _))))
  refine aC ?_;intro _ hw';obtain ⟨q, hw'⟩ := hw';subst hw';have HbQ := zh (iP jK.out (ak D9 GZ) q.h);have Qz := zh (iP Qy.out GZ q.h);have QA := ak GZ q.h.size;generalize q.w' = W2 at *;clear e2 e3 d2 d3;go_wp2_with fail;exact ⟨⟨k + 1, x.off + (z : Int), by omega, by go_num, by go_num, by omega, by omega, by rw [Hc.out, HD.out, ah (by omega)], HbQ.out, QA, Qz.out⟩, by simp [intOf]; omega⟩
 obtain rfl : k = n := by omega
 have hd : l'.drop k = [] := bQ (by rw [Hn.out]; exact ai _);have hf : res = decide (s ≤ size) := by
  rw [← KQ.out]; unfold NH; rw [Hc.out, hd]; rfl
 have HF := zh hf;clear hf;go_wp2_with fail;go_ret;exact ⟨zE HF.out.symm, Hb.out⟩
end Go.Proofs.YtcgfilmmokmdjaaGreat
namespace Go.Proofs.YtcgfilmmokmdjaaGreat
open Go.RowKit
theorem Wq {P : Program} {w : World} {ops : Array Oper} {o : Oper} {a : Act} {K : Act → World → Prop} {Q : Exit → Act → World → Prop} {E : Prop} (hgd : o.guard = none) (s x : Operand) (t : TypeId)
  (ho : o.op = .call { callee := .builtin .append, args := #[s, x], argTypes := #[t, t] })
  {e : TypeId} {sz bytes : Nat} (hE : xj P t e sz bytes) (base : Nat)
  {v : Value} {n : Nat} {xs : List Value} (hs : a.eval s = v) (hown : w.ownsRow base e sz v n xs) {ad : Addr} {m c : Nat} {news : List Value} (hx : a.eval x = .slice (some ad) m c)
  (hl : news.length = m * sz) (hnews : ∀ j u, news[j]? = some u → w.cell? (ad.add j) = some u)
  (h1 : ∀ u ∈ news, u.oneCell' = true) (h63 : n + m ≤ maxLen) (hbytes : (n + m) * bytes ≤ 140737488355328) (hbase : base ≤ w.heap.size)
  (h : ∀ v' w', w'.ownsRow base e sz v' (n + m) (xs ++ news) → w.grownBy w' v.ownBlock → (v'.ownBlock = v.ownBlock ∨ v'.ownBlock = some w.heap.size) → K (a.put o.dst v') w') :
  if Region.wanted o (yielded ops a.tmps) = true then Oper.wp P o a w K Q else E := by
 have hw : Region.wanted o (yielded ops a.tmps) = true := by simp [Region.wanted, hgd]
 rw [ag hw];obtain ⟨ht, hsz, i, z, hi, hz, hs', hby, hzs⟩ := hE;obtain ⟨v', w', hrun, r1, r2, _, r4⟩ := run_append_own_at (P := P) w base t o.type e i z sz bytes ht hi hz hs' hby hzs hsz v n xs hown ad m c news hl hnews h1 h63 hbytes hbase;unfold Oper.wp;simp [execOp, ho, resolve, invoke, builtin, hs, hx, hrun, Result.andThen];exact h v' w' r1 r2 r4
theorem zH8 (W : World) (x : It) (k : Nat) (hk : W.heap.size = k) : ∀ j u, (gZ x)[j]? = some u → (W.alloc (xF x)).drew.cell? ((⟨k, 0, none⟩ : Addr).add j) = some u := by
 subst hk;intro j u hj;rw [yP, aJ]
 show (W.alloc (xF x)).cell? _ = some u
 rw [cell_of_row _ _ j _ _ (0, 0) (dg W _)];rw [← Array.getElem?_toList]; exact hj
def FK (s : Sl) : Prop := ∀ i j, i < 8 → j < 8 → i ≠ j → (s.v i).ownBlock = none ∨ (s.v i).ownBlock ≠ (s.v j).ownBlock
theorem FK.nil : FK Sl.nil := fun _ _ _ _ _ => .inl rfl
theorem eB.grown {W W' : World} {b : Nat} {s : Sl} {l g : Int} {row : Option Nat} (h : eB W b s l g) (hg : W.grownBy W' row) (hne : row ≠ some b) : eB W' b s l g := by
 have hn : ∀ i, some (⟨b, i, none⟩ : Addr).block ≠ row := fun i e => hne e.symm
 refine ⟨fun j hj => hg.cell (h.c j hj) (hn j), hg.cell h.cl (hn 8), hg.cell h.cg (hn 9), fun i => ?_⟩;rw [World.frozen?_of_block (w := W) (hg.block b h.lt (hn 0))];exact h.f i
theorem um {w : World} {B : Nat} {e : TypeId} {sz n : Nat} {v : Value} {xs : List Value} (h : w.ownsRow B e sz v n xs) {b : Nat} (hb : b < B) : v.ownBlock ≠ some b := fun e => by
 have := (h.lt b e).1; omega
theorem zME {w w4 : World} {bm B k : Nat} {s : Sl} {f : Nat → List It} {x : It} {va : Option Addr} {n vc : Nat} (ho : eU w B s f) (hd : FK s) (hk : k < 8) (FL : bm < B)
  (hown : w4.ownsRow B 49 4 (.slice va n vc) n (zU (f k ++ [x]))) (hg : w.grownBy w4 (s.v k).ownBlock) (hat : (Value.slice va n vc).ownBlock = (s.v k).ownBlock ∨ (Value.slice va n vc).ownBlock = some w.heap.size) :
  eU (w4.setCell ⟨bm, k, none⟩ (.slice va n vc)) B (s.set k va n vc) (fun i => if i = k then f k ++ [x] else f i) ∧ FK (s.set k va n vc) := by
 have hlt : ∀ i, i < 8 → ∀ g, (s.v i).ownBlock = some g → g < w.heap.size := fun i hi g hg => ((ho i hi).lt g hg).2
 constructor
 ·
  intro i hi
  show fg _ B ((s.set k va n vc).v i) (if i = k then f k ++ [x] else f i)
  rw [Sl.nY]
  by_cases e : i = k
  ·
   rw [ag e, ag e];exact yI (yB hown (p := ⟨bm, k, none⟩) FL _) rfl
  rw [ah e, ah e];exact yB (World.ownsRow.kept (ho i hi) hg (hd i k hi hk e)) (p := ⟨bm, k, none⟩) FL _
 intro i j hi hj hij;rw [Sl.nY, Sl.nY]
 by_cases e : i = k
 ·
  subst e;rw [ag rfl, ah (aO hij)];rcases hat with hat | hat
  ·
   rw [hat]; exact hd i j hi hj hij
  rw [hat];refine .inr fun h2 => ?_
  have := hlt j hj _ h2.symm;omega
 rw [ah e]
 by_cases e2 : j = k
 ·
  subst e2;rw [ag rfl];rcases hat with hat | hat
  ·
   rw [hat]; exact hd i j hi hj hij
  rw [hat]
  cases hv : (s.v i).ownBlock with
  | none => exact .inl rfl
  | some g =>
   refine .inr fun h2 => ?_
   injection h2 with h2;have := hlt i hi g hv;omega
 rw [ah e2]; exact hd i j hi hj hij
theorem zJc {w0 w w4 : World} {B0 bR bm B2 B3 k : Nat} {s : Sl} {f : Nat → List It} {x : It} {va : Option Addr} {n vc : Nat} {v3 : Value} {T : List It} {L G : Int}
  (hR : eB w bR Sl.nil 0 0) (hM : eB w bm s L G) (hO : eU w B3 s f) (hA : FK s) (hT : fg w B2 v3 T) (hb : Below B0 w0 w) (h0 : B0 ≤ bm) (h1 : bR < bm) (h2 : bm < B2) (h3 : B2 ≤ B3) (FN : B3 ≤ w.heap.size)
  (EH : ∀ g, v3.ownBlock = some g → g < B3) (hk : k < 8) (hown : w4.ownsRow B3 49 4 (.slice va n vc) n (zU (f k ++ [x]))) (hg : w.grownBy w4 (s.v k).ownBlock)
  (hat : (Value.slice va n vc).ownBlock = (s.v k).ownBlock ∨ (Value.slice va n vc).ownBlock = some w.heap.size) :
  eB (w4.setCell ⟨bm, k, none⟩ (.slice va n vc)) bR Sl.nil 0 0 ∧ eB (w4.setCell ⟨bm, k, none⟩ (.slice va n vc)) bm (s.set k va n vc) L G ∧
   eU (w4.setCell ⟨bm, k, none⟩ (.slice va n vc)) B3 (s.set k va n vc) (fun i => if i = k then f k ++ [x] else f i) ∧ FK (s.set k va n vc) ∧
   fg (w4.setCell ⟨bm, k, none⟩ (.slice va n vc)) B2 v3 T ∧ Below B0 w0 (w4.setCell ⟨bm, k, none⟩ (.slice va n vc)) := by
 have hok := hO k hk;have hap := zME hO hA hk (show bm < B3 by omega) hown hg hat;refine ⟨(hR.grown hg (um hok (by omega))).ea (p := ⟨bm, k, none⟩) (show bm ≠ bR by omega) _, (hM.grown hg (um hok (by omega))).Ew hk _ _ _, hap.1, hap.2, ?_, ?_⟩
 ·
  refine yB (World.ownsRow.kept hT hg ?_) (p := ⟨bm, k, none⟩) h2 _
  cases hv : v3.ownBlock with
  | none => exact .inl rfl
  | some g =>
   refine .inr fun e => ?_
   have h4 := EH g hv;have h5 := (World.ownsRow.lt hok g e.symm).1;omega
 exact (zM hb (World.ownsRow.mono hok (show B0 ≤ B3 by omega)) (by omega) hg).setCell (p := ⟨bm, k, none⟩) h0 _
end Go.Proofs.YtcgfilmmokmdjaaGreat
namespace Go.Proofs.YtcgfilmmokmdjaaGreat
open Go.RowKit
abbrev zW (n r md z : Int) (s : Sl) (l g : Int) : Array Value := #[.int .i64 n, .int .i64 r, .int .i64 md, .int .i64 z, .slice (s.a 0) (s.n 0) (s.c 0), .slice (s.a 1) (s.n 1) (s.c 1), .slice (s.a 2) (s.n 2) (s.c 2), .slice (s.a 3) (s.n 3) (s.c 3), .slice (s.a 4) (s.n 4) (s.c 4), .slice (s.a 5) (s.n 5) (s.c 5), .slice (s.a 6) (s.n 6) (s.c 6), .slice (s.a 7) (s.n 7) (s.c 7), .int .i64 l, .int .i64 g]
abbrev za (n r md z : Int) (s : Sl) (l g : Int) : Value := .agg (zW n r md z s l g)
theorem _root_.Go.RowKit.Below.keeps' {w w' : World} (h : Below w.heap.size w w') {p : Addr} {u : Value} (hp : w.cell? p = some u) : w'.cell? p = some u := (h.cell (World.block_lt_of_cell? w p hp)).trans hp
theorem zEA {w : World} {B : Nat} {e : TypeId} {sz n : Nat} {v : Value} {xs : List Value} {p : Addr} (h : w.ownsRow B e sz v n xs) (hne : v.ownBlock ≠ some p.block) (u : Value) : (w.setCell p u).ownsRow B e sz v n xs := by
 refine ⟨h.1, ?_⟩;rcases h.2 with h0 | ⟨g, cap, cur, rfl, hb, hg, rest⟩
 ·
  exact .inl h0
 refine .inr ⟨g, cap, cur, rfl, hb, ?_, rest⟩;rw [Below.heap_setCell w p u g (fun e => hne (by rw [← e]; rfl))]; exact hg
def pts (W : World) (b : Nat) (vs : List (Nat × Value)) : World := vs.foldl (fun W p => W.setCell ⟨b, p.1, none⟩ p.2) W
theorem zD {B b : Nat} {w0 : World} (hb : B ≤ b) : ∀ (vs : List (Nat × Value)) {W : World}, Below B w0 W → Below B w0 (pts W b vs)
 | [], _, h => h
 | p :: r, _, h => zD hb r (h.setCell (p := ⟨b, p.1, none⟩) hb p.2)
theorem wH {b B : Nat} {e : TypeId} {sz n : Nat} {v : Value} {xs : List Value} (hne : v.ownBlock ≠ some b) : ∀ (vs : List (Nat × Value)) {W : World}, W.ownsRow B e sz v n xs → (pts W b vs).ownsRow B e sz v n xs
 | [], _, h => h
 | p :: r, _, h => wH hne r (zEA (p := ⟨b, p.1, none⟩) h hne p.2)
theorem xw {b B : Nat} {e : TypeId} {sz n : Nat} {v : Value} {xs : List Value} (hb : b < B) {W : World} (h : W.ownsRow B e sz v n xs) (vs : List (Nat × Value)) : (pts W b vs).ownsRow B e sz v n xs := wH (um h hb) vs h
theorem zt {b : Nat} {p : Addr} (hne : p.block ≠ b) : ∀ (vs : List (Nat × Value)) (W : World), (pts W b vs).cell? p = W.cell? p
 | [], _ => rfl
 | q :: r, W => (zt hne r _).trans (cA (h := fun e => hne (by rw [← e])) ..)
theorem xT {b : Nat} (p : Addr) : ∀ (vs : List (Nat × Value)) (W : World), (pts W b vs).frozen? p = W.frozen? p
 | [], _ => rfl
 | q :: r, W => (xT p r _).trans (by simp)
theorem wC {b : Nat} : ∀ (vs : List (Nat × Value)) (W : World), (pts W b vs).heap.size = W.heap.size
 | [], _ => rfl
 | q :: r, W => (wC r _).trans (by simp)
theorem eU.pts {w : World} {B b : Nat} {s : Sl} {f : Nat → List It} (h : eU w B s f) (hb : b < B) (vs : List (Nat × Value)) : eU (Go.Proofs.YtcgfilmmokmdjaaGreat.pts w b vs) B s f := fun i hi => xw hb (h i hi) vs
structure eA (W : World) (b : Nat) (n r md z : Int) (s : Sl) (l g : Int) : Prop where
 n0 : W.cell? ⟨b, 0, none⟩ = some (.int .i64 n)
 n1 : W.cell? ⟨b, 1, none⟩ = some (.int .i64 r)
 n2 : W.cell? ⟨b, 2, none⟩ = some (.int .i64 md)
 n3 : W.cell? ⟨b, 3, none⟩ = some (.int .i64 z)
 c : ∀ j, j < 8 → W.cell? ⟨b, 4 + j, none⟩ = some (s.v j)
 cl : W.cell? ⟨b, 12, none⟩ = some (.int .i64 l)
 cg : W.cell? ⟨b, 13, none⟩ = some (.int .i64 g)
 f : ∀ i, W.frozen? ⟨b, i, none⟩ = false
theorem eA.q {W : World} {b : Nat} {n r md z : Int} {s : Sl} {l g : Int} (h : eA W b n r md z s l g) : W.cell? ⟨b, 0, none⟩ = some (.int .i64 n) ∧ W.cell? ⟨b, 1, none⟩ = some (.int .i64 r) ∧ W.cell? ⟨b, 2, none⟩ = some (.int .i64 md) ∧ W.cell? ⟨b, 3, none⟩ = some (.int .i64 z) ∧ W.cell? ⟨b, 4, none⟩ = some (.slice (s.a 0) (s.n 0) (s.c 0)) ∧ W.cell? ⟨b, 5, none⟩ = some (.slice (s.a 1) (s.n 1) (s.c 1)) ∧ W.cell? ⟨b, 6, none⟩ = some (.slice (s.a 2) (s.n 2) (s.c 2)) ∧ W.cell? ⟨b, 7, none⟩ = some (.slice (s.a 3) (s.n 3) (s.c 3)) ∧ W.cell? ⟨b, 8, none⟩ = some (.slice (s.a 4) (s.n 4) (s.c 4)) ∧ W.cell? ⟨b, 9, none⟩ = some (.slice (s.a 5) (s.n 5) (s.c 5)) ∧ W.cell? ⟨b, 10, none⟩ = some (.slice (s.a 6) (s.n 6) (s.c 6)) ∧ W.cell? ⟨b, 11, none⟩ = some (.slice (s.a 7) (s.n 7) (s.c 7)) ∧ W.cell? ⟨b, 12, none⟩ = some (.int .i64 l) ∧ W.cell? ⟨b, 13, none⟩ = some (.int .i64 g) := ⟨h.n0, h.n1, h.n2, h.n3, h.c 0 (by decide), h.c 1 (by decide), h.c 2 (by decide), h.c 3 (by decide), h.c 4 (by decide), h.c 5 (by decide), h.c 6 (by decide), h.c 7 (by decide), h.cl, h.cg⟩
section
variable {W : World} {b : Nat} {n r md z : Int} {s : Sl} {l g : Int}
theorem eA.new (W : World) (n r md z : Int) (s : Sl) (l g : Int) (t : TypeId) : eA (W.alloc (.cells (zW n r md z s l g) t)) W.heap.size n r md z s l g :=
 ⟨by simp, by simp, by simp, by simp, fun j hj => by rcases Gu hj with h | h | h | h | h | h | h | h <;> subst h <;> simp [Sl.v], by simp, by simp, fun i => by simp⟩
theorem zQ (w : World) (n r md z : Int) (s : Sl) (l g : Int) (t : TypeId) : Below w.heap.size w (w.alloc (.cells (zW n r md z s l g) t)) := (aj _ _).alloc (ai _) _
theorem eA.lt (h : eA W b n r md z s l g) : b < W.heap.size := cI W _ h.cl
theorem eA.below {W' : World} (h : eA W b n r md z s l g) (hB : Below W.heap.size W W') : eA W' b n r md z s l g :=
 ⟨hB.keeps' h.n0, hB.keeps' h.n1, hB.keeps' h.n2, hB.keeps' h.n3, fun j hj => hB.keeps' (h.c j hj), hB.keeps' h.cl, hB.keeps' h.cg, fun i => (hB.frozen (p := ⟨b, i, none⟩) h.lt).trans (h.f i)⟩
theorem eA.eu {c : Nat} (h : eA W b n r md z s l g) (hp : b ≠ c) (vs : List (Nat × Value)) : eA (pts W c vs) b n r md z s l g :=
 ⟨(zt (p := ⟨b, 0, none⟩) hp vs W).trans h.n0, (zt (p := ⟨b, 1, none⟩) hp vs W).trans h.n1, (zt (p := ⟨b, 2, none⟩) hp vs W).trans h.n2, (zt (p := ⟨b, 3, none⟩) hp vs W).trans h.n3, fun j hj => (zt (p := ⟨b, 4 + j, none⟩) hp vs W).trans (h.c j hj), (zt (p := ⟨b, 12, none⟩) hp vs W).trans h.cl, (zt (p := ⟨b, 13, none⟩) hp vs W).trans h.cg, fun i => (xT _ vs W).trans (h.f i)⟩
theorem eA.c0 (h : eA W b n r md z s l g) : W.cell? ⟨b, 4, none⟩ = some (.slice (s.a 0) (s.n 0) (s.c 0)) := h.c 0 (by decide)
theorem eA.c1 (h : eA W b n r md z s l g) : W.cell? ⟨b, 5, none⟩ = some (.slice (s.a 1) (s.n 1) (s.c 1)) := h.c 1 (by decide)
theorem eA.c2 (h : eA W b n r md z s l g) : W.cell? ⟨b, 6, none⟩ = some (.slice (s.a 2) (s.n 2) (s.c 2)) := h.c 2 (by decide)
theorem eA.c3 (h : eA W b n r md z s l g) : W.cell? ⟨b, 7, none⟩ = some (.slice (s.a 3) (s.n 3) (s.c 3)) := h.c 3 (by decide)
theorem eA.c4 (h : eA W b n r md z s l g) : W.cell? ⟨b, 8, none⟩ = some (.slice (s.a 4) (s.n 4) (s.c 4)) := h.c 4 (by decide)
theorem eA.c5 (h : eA W b n r md z s l g) : W.cell? ⟨b, 9, none⟩ = some (.slice (s.a 5) (s.n 5) (s.c 5)) := h.c 5 (by decide)
theorem eA.c6 (h : eA W b n r md z s l g) : W.cell? ⟨b, 10, none⟩ = some (.slice (s.a 6) (s.n 6) (s.c 6)) := h.c 6 (by decide)
theorem eA.c7 (h : eA W b n r md z s l g) : W.cell? ⟨b, 11, none⟩ = some (.slice (s.a 7) (s.n 7) (s.c 7)) := h.c 7 (by decide)
end
abbrev zL (n r md z : Int) (s : Sl) (l g : Int) : List (Nat × Value) := [(0, .int .i64 n), (1, .int .i64 r), (2, .int .i64 md), (3, .int .i64 z), (4, .slice (s.a 0) (s.n 0) (s.c 0)), (5, .slice (s.a 1) (s.n 1) (s.c 1)), (6, .slice (s.a 2) (s.n 2) (s.c 2)), (7, .slice (s.a 3) (s.n 3) (s.c 3)), (8, .slice (s.a 4) (s.n 4) (s.c 4)), (9, .slice (s.a 5) (s.n 5) (s.c 5)), (10, .slice (s.a 6) (s.n 6) (s.c 6)), (11, .slice (s.a 7) (s.n 7) (s.c 7)), (12, .int .i64 l), (13, .int .i64 g)]
abbrev yp (s : Sl) (l g : Int) : List (Nat × Value) := [(4, .slice (s.a 0) (s.n 0) (s.c 0)), (5, .slice (s.a 1) (s.n 1) (s.c 1)), (6, .slice (s.a 2) (s.n 2) (s.c 2)), (7, .slice (s.a 3) (s.n 3) (s.c 3)), (8, .slice (s.a 4) (s.n 4) (s.c 4)), (9, .slice (s.a 5) (s.n 5) (s.c 5)), (10, .slice (s.a 6) (s.n 6) (s.c 6)), (11, .slice (s.a 7) (s.n 7) (s.c 7)), (12, .int .i64 l), (13, .int .i64 g)]
theorem eA.all {W : World} {b : Nat} {n r md z : Int} {s : Sl} {l g : Int} (h : eA W b n r md z s l g) (n' r' md' z' : Int) (s' : Sl) (l' g' : Int) : eA (pts W b (zL n' r' md' z' s' l' g')) b n' r' md' z' s' l' g' := by
 obtain ⟨a0, a1, a2, a3, c0, c1, c2, c3, c4, c5, c6, c7, c8, c9⟩ := h.q;refine ⟨?_, ?_, ?_, ?_, fun j hj => ?_, ?_, ?_, fun i => (xT _ _ W).trans (h.f i)⟩
 ·
  simp [pts, go_sem, a0]
 ·
  simp [pts, go_sem, a1]
 ·
  simp [pts, go_sem, a2]
 ·
  simp [pts, go_sem, a3]
 ·
  rcases Gu hj with e | e | e | e | e | e | e | e <;> subst e <;> simp [pts, go_sem, c0, c1, c2, c3, c4, c5, c6, c7, Sl.v]
 ·
  simp [pts, go_sem, c8]
 simp [pts, go_sem, c9]
theorem eA.map {W : World} {b : Nat} {n r md z : Int} {s : Sl} {l g : Int} (h : eA W b n r md z s l g) (s' : Sl) (l' g' : Int) : eA (pts W b (yp s' l' g')) b n r md z s' l' g' := by
 obtain ⟨a0, a1, a2, a3, c0, c1, c2, c3, c4, c5, c6, c7, c8, c9⟩ := h.q;refine ⟨?_, ?_, ?_, ?_, fun j hj => ?_, ?_, ?_, fun i => (xT _ _ W).trans (h.f i)⟩
 ·
  simp [pts, go_sem, a0]
 ·
  simp [pts, go_sem, a1]
 ·
  simp [pts, go_sem, a2]
 ·
  simp [pts, go_sem, a3]
 ·
  rcases Gu hj with e | e | e | e | e | e | e | e <;> subst e <;> simp [pts, go_sem, c0, c1, c2, c3, c4, c5, c6, c7, Sl.v]
 ·
  simp [pts, go_sem, c8]
 simp [pts, go_sem, c9]
theorem eA.EI {W : World} {b : Nat} {n r md z : Int} {s : Sl} {l g : Int} (h : eA W b n r md z s l g) (z' : Int) : eA (pts W b [(3, .int .i64 z')]) b n r md z' s l g := by
 have a3 := h.n3;have ne : ∀ i, i ≠ 3 → ∀ u, W.cell? ⟨b, i, none⟩ = some u → (pts W b [(3, .int .i64 z')]).cell? ⟨b, i, none⟩ = some u := fun i hi u hu => (cA (h := fun e => hi (by injection e with _ e _; exact e.symm)) ..).trans hu
 exact ⟨ne 0 (by decide) _ h.n0, ne 1 (by decide) _ h.n1, ne 2 (by decide) _ h.n2, by simp [pts, go_sem, a3], fun j hj => ne (4 + j) (by omega) _ (h.c j hj), ne 12 (by decide) _ h.cl, ne 13 (by decide) _ h.cg, fun i => (xT _ _ W).trans (h.f i)⟩
theorem eA.KR {W : World} {b : Nat} {n r md z : Int} {s : Sl} {l g : Int} (h : eA W b n r md z s l g) (md' : Int) : eA (pts W b [(2, .int .i64 md')]) b n r md' z s l g := by
 have a3 := h.n2;have ne : ∀ i, i ≠ 2 → ∀ u, W.cell? ⟨b, i, none⟩ = some u → (pts W b [(2, .int .i64 md')]).cell? ⟨b, i, none⟩ = some u := fun i hi u hu => (cA (h := fun e => hi (by injection e with _ e _; exact e.symm)) ..).trans hu
 exact ⟨ne 0 (by decide) _ h.n0, ne 1 (by decide) _ h.n1, by simp [pts, go_sem, a3], ne 3 (by decide) _ h.n3, fun j hj => ne (4 + j) (by omega) _ (h.c j hj), ne 12 (by decide) _ h.cl, ne 13 (by decide) _ h.cg, fun i => (xT _ _ W).trans (h.f i)⟩
end Go.Proofs.YtcgfilmmokmdjaaGreat
