/- A part of the walk. -/
import Derived.Test.YtcgfilmmokmdjaaGreatQAH
import Derived.Test.YtcgfilmmokmdjaaGreatMp
import Derived.Test.YtcgfilmmokmdjaaGreatQAB
import Derived.Shelf.SlSortCmp.WholeK
import Derived.Shelf.SlSortCmp.NoneTotal
import Derived.Test.YtcgfilmmokmdjaaGreatQAE
import Derived.Test.YtcgfilmmokmdjaaGreatQAD
import Derived.Maps.AppendAt
set_option linter.all false
set_option maxRecDepth 100000
set_option maxHeartbeats 32000000
namespace Go.Proofs.YtcgfilmmokmdjaaGreat
def wi (f : Nat → List It) (k : Nat) (v : List It) : Nat → List It := fun i => if i = k then v else f i
theorem kN (f : Nat → List It) (k : Nat) (v : List It) : wi f k v k = v := if_pos rfl
theorem zAN (f : Nat → List It) {k i : Nat} (h : i ≠ k) (v : List It) : wi f k v i = f i := if_neg h
theorem zAv (f : Nat → List It) (k : Nat) (v : List It) : ∀ n, n ≤ k → cat (wi f k v) n = cat f n
 | 0, _ => rfl
 | n + 1, h => by
  show cat (wi f k v) n ++ wi f k v n = cat f n ++ f n
  rw [zAv f k v n (by omega), zAN f (by omega)]
theorem zDt (f : Nat → List It) (k : Nat) (v : List It) : ∀ n, k < n → zq (cat (wi f k v) n) + zq (f k) = zq (cat f n) + zq v
 | 0, h => by omega
 | n + 1, h => by
  show zq (cat (wi f k v) n ++ wi f k v n) + zq (f k) = zq (cat f n ++ f n) + zq v
  rw [yp, yp]
  by_cases e : k = n
  ·
   subst e;rw [zAv f k v k (Nat.le_refl _), kN];omega
  have := zDt f k v n (by omega);rw [zAN f (by omega)];omega
theorem VldM.upd {M : Mp} (h : VldM M) {k : Nat} (hk : k < 8) {v : List It} (hv : xY v = true) (hs : ∀ x ∈ v, zb x.key = k) {L G : Int}
  (hL : L + (zq (M.st k) : Int) = M.live + (zq v : Int)) (g0 : 0 ≤ G) (g1 : G ≤ 1099511627776) : VldM ⟨wi M.st k v, L, G⟩ := by
 have hsum := zDt M.st k v 8 hk;refine ⟨fun i hi => ?_, fun i hi x hx => ?_, ?_, g0, g1⟩
 ·
  by_cases e : i = k
  ·
   show xY (wi M.st k v i) = true
   rw [e, kN]; exact hv
  show xY (wi M.st k v i) = true
  rw [zAN _ e]; exact h.ok i hi
 ·
  have hx : x ∈ wi M.st k v i := hx
  by_cases e : i = k
  ·
   rw [e, kN] at hx; rw [e]; exact hs x hx
  rw [zAN _ e] at hx; exact h.sp i hi x hx
 show L = (zq (cat (wi M.st k v) 8) : Int)
 have hl := h.lv;rw [show ws M = cat M.st 8 from rfl] at hl;omega
theorem zIl {l : List It} {x : It} (h : xY l = true) (hx : okB x = true) : xY (ins l x) = true := by
 rw [uC] at h ⊢;exact ⟨zC8 h.1 x, qw x (of_decide_eq_true hx) l h.2⟩
theorem zHV {l : List It} (h : xY l = true) (key : Int) : xY (drp l key) = true := by
 rw [uC] at h ⊢;exact ⟨zCs h.1 key, fun y hy => h.2 y (List.mem_filter.1 hy).1⟩
theorem xP {M : Mp} (h : VldM M) (key : Int) : zW M key = fnd (M.st (zb key)) key := by unfold zW; rw [if_pos ((zM M).2 h)]
theorem zAG {M : Mp} (h : VldM M) {x : It} (hx : okB x = true) (hg : M.garb + (szO (zW M x.key) : Int) ≤ 1099511627776) :
  wB M x = ⟨wi M.st (zb x.key) (ins (M.st (zb x.key)) x), M.live + (xA x : Int) - (szO (zW M x.key) : Int), M.garb + (szO (zW M x.key) : Int)⟩ := by
 rw [xP h] at hg ⊢;unfold wB;rw [if_pos ⟨(zM M).2 h, hx, hg⟩]
 congr 1
 funext i
 unfold wi
 by_cases e : i = zb x.key
 ·
  rw [if_pos e, if_pos e, e]
 rw [if_neg e, if_neg e]
theorem zCq {M : Mp} (h : VldM M) {key : Int} (hg : M.garb + (szO (zW M key) : Int) ≤ 1099511627776) :
  yF M key = ⟨wi M.st (zb key) (drp (M.st (zb key)) key), M.live - (szO (zW M key) : Int), M.garb + (szO (zW M key) : Int)⟩ := by
 have hd : ∀ l : List It, fnd l key = none → drp l key = l := fun l hl => List.filter_eq_self.2 fun y hy => by
  have := zCi hl y hy;simp [this]
 have hu : (fun i => if i = zb key then drp (M.st i) key else M.st i) = wi M.st (zb key) (drp (M.st (zb key)) key) := funext fun i => by
  unfold wi
  by_cases e : i = zb key
  ·
   rw [if_pos e, if_pos e, e]
  rw [if_neg e, if_neg e]
 have hgo := xP h key;unfold yF;generalize zW M key = o at *
 cases o with
 | none =>
  have e : wi M.st (zb key) (drp (M.st (zb key)) key) = M.st := funext fun i => by
   unfold wi
   by_cases e : i = zb key
   ·
    rw [if_pos e, e, hd _ hgo.symm]
   rw [if_neg e]
  obtain ⟨f, L, G⟩ := M
  show (⟨f, L, G⟩ : Mp) = ⟨_, L - ((0 : Nat) : Int), G + ((0 : Nat) : Int)⟩
  rw [show L - ((0 : Nat) : Int) = L by omega, show G + ((0 : Nat) : Int) = G by omega, e]
 | some y =>
  have hg' : M.garb + (xA y : Int) ≤ 1099511627776 := hg
  show (if M.garb + (xA y : Int) ≤ 1099511627776 then _ else M) = _
  rw [if_pos hg', hu]
  rfl
theorem zBp {M : Mp} (h : VldM M) {n : Int} (h0 : 0 ≤ n) (hg : M.garb + n ≤ 1099511627776) : yh M n = ⟨M.st, M.live, M.garb + n⟩ := by
 unfold yh;rw [if_pos ⟨(zM M).2 h, h0, by omega⟩]
theorem VldM.ins {M : Mp} (h : VldM M) {x : It} (hx : okB x = true) (hg : M.garb + (szO (zW M x.key) : Int) ≤ 1099511627776) : VldM (wB M x) := by
 rw [zAG h hx hg];have hk := wD x.key;have h0 := h.g0;refine h.upd hk (zIl (h.ok _ hk) hx) (qw (p := fun y => zb y.key = zb x.key) x rfl _ (h.sp _ hk)) ?_ (by omega) hg;have := zAq x _ (vV (h.ok _ hk));rw [xP h];unfold xA;omega
theorem VldM.del {M : Mp} (h : VldM M) {key : Int} (hg : M.garb + (szO (zW M key) : Int) ≤ 1099511627776) : VldM (yF M key) := by
 rw [zCq h hg];have hk := wD key;have h0 := h.g0;refine h.upd hk (zHV (h.ok _ hk) key) (fun y hy => h.sp _ hk y (List.mem_filter.1 hy).1) ?_ (by omega) hg;have := zDS key _ (vV (h.ok _ hk));rw [xP h];omega
theorem VldM.waste {M : Mp} (h : VldM M) {n : Int} (h0 : 0 ≤ n) (hg : M.garb + n ≤ 1099511627776) : VldM (yh M n) := by
 rw [zBp h h0 hg];have := h.g0;exact ⟨h.ok, h.sp, h.lv, by show 0 ≤ M.garb + n; omega, hg⟩
theorem zC5 (o : Option It) : szO o ≤ 4127 := by
 cases o with
 | none => exact Nat.zero_le _
 | some y => exact xg _
theorem zFU (M : Mp) (k : Nat) (v : List It) (key : Int) : fnd (wi M.st k v (zb key)) key = if zb key = k then fnd v key else fnd (M.st (zb key)) key := by
 unfold wi; split <;> rfl
theorem zD4 {M : Mp} (h : VldM M) {x : It} (hx : okB x = true) (hg : M.garb + (szO (zW M x.key) : Int) ≤ 1099511627776) (key : Int) :
  zW (wB M x) key = if x.key = key then some x else zW M key := by
 rw [xP (h.ins hx hg), zAG h hx hg, xP h key]
 show fnd (wi _ _ _ _) key = _
 rw [zFU]
 by_cases e : x.key = key
 ·
  rw [if_pos e, ← e, if_pos rfl, vA]
 rw [if_neg e]
 by_cases e2 : zb key = zb x.key
 ·
  rw [if_pos e2, wW x key (fun e3 => e e3.symm), e2]
 rw [if_neg e2]
theorem qj {M : Mp} (h : VldM M) {k : Int} (hg : M.garb + (szO (zW M k) : Int) ≤ 1099511627776) (key : Int) :
  zW (yF M k) key = if k = key then none else zW M key := by
 rw [xP (h.del hg), zCq h hg, xP h key]
 show fnd (wi _ _ _ _) key = _
 rw [zFU]
 by_cases e : k = key
 ·
  rw [if_pos e, ← e, if_pos rfl, qm]
 rw [if_neg e]
 by_cases e2 : zb key = zb k
 ·
  rw [if_pos e2, vv k key (fun e3 => e e3.symm), e2]
 rw [if_neg e2]
theorem zIT {M : Mp} (h : VldM M) {x : It} (hx : okB x = true) (hg : M.garb + (szO (zW M x.key) : Int) ≤ 1099511627776) : (wB M x).live + (wB M x).garb = M.live + M.garb + (xA x : Int) := by
 rw [zAG h hx hg]
 show M.live + (xA x : Int) - (szO (zW M x.key) : Int) + (M.garb + (szO (zW M x.key) : Int)) = _
 omega
theorem qQ {M : Mp} (h : VldM M) {k : Int} (hg : M.garb + (szO (zW M k) : Int) ≤ 1099511627776) : (yF M k).live + (yF M k).garb = M.live + M.garb := by
 rw [zCq h hg]
 show M.live - (szO (zW M k) : Int) + (M.garb + (szO (zW M k) : Int)) = _
 omega
theorem VldM.live0 {M : Mp} (h : VldM M) : 0 ≤ M.live := by
 have := h.lv; omega
end Go.Proofs.YtcgfilmmokmdjaaGreat
namespace Go.Proofs.YtcgfilmmokmdjaaGreat
open Go.RowKit
def M0 : Mp := ⟨fun _ => [], 0, 0⟩
end Go.Proofs.YtcgfilmmokmdjaaGreat
namespace Go.Proofs.YtcgfilmmokmdjaaGreat
structure StM (M : Mp) (k S B : Nat) : Prop where
 v : VldM M
 sum : M.live + M.garb = (S : Int)
 le : S ≤ B
 len : ∀ j, (M.st j).length ≤ k
theorem zFv {f : Nat → List It} {x : It} : ∀ {n}, x ∈ cat f n → ∃ i, i < n ∧ x ∈ f i
 | 0, h => by cases h
 | n + 1, h => by
  rcases List.mem_append.1 (show x ∈ cat f n ++ f n from h) with h | h
  ·
   obtain ⟨i, hi, h⟩ := zFv h;exact ⟨i, by omega, h⟩
  exact ⟨n, by omega, h⟩
theorem tg {M : Mp} (h : VldM M) : zG M = srt (ws M) := by unfold zG; rw [if_pos ((zM M).2 h)]
theorem tX {M : Mp} (h : VldM M) : ∀ x ∈ zG M, okP x := by
 rw [tg h];refine zGA fun x hx => ?_
 obtain ⟨i, hi, hx⟩ := zFv (show x ∈ cat M.st 8 from hx);exact (uC.1 (h.ok i hi)).2 x hx
theorem zBK {M : Mp} (h : VldM M) : (zq (zG M) : Int) = M.live := by
 rw [tg h, h.sum, h.lv]
def uh (l : List It) (g : Int) : Mp :=
 if l.all okB = true ∧ 0 ≤ g ∧ g ≤ 1099511627776 then ⟨fun i => inS i (srt l), (zq (srt l) : Int), g⟩ else M0
theorem zAt {l : List It} {g : Int} (h : l.all okB = true) (h0 : 0 ≤ g) (h1 : g ≤ 1099511627776) : uh l g = ⟨fun i => inS i (srt l), (zq (srt l) : Int), g⟩ := if_pos ⟨h, h0, h1⟩
theorem zJB {l : List It} {g : Int} (h : ¬ (l.all okB = true ∧ 0 ≤ g ∧ g ≤ 1099511627776)) : uh l g = M0 := if_neg h
theorem zJb {l : List It} (h : l.all okB = true) : ∀ x ∈ l, okP x := fun x hx => by
 have := List.all_eq_true.1 h x hx;unfold okB at this;exact of_decide_eq_true this
theorem zFl {l : List It} (h : ∀ x ∈ l, okP x) : l.all okB = true := List.all_eq_true.2 fun x hx => by
 unfold okB;exact decide_eq_true (h x hx)
theorem zJV (i : Nat) (T : List It) : (inS i T).length ≤ T.length := List.length_filter_le _ _
/-! ### The reference's Put and Delete -/
def vy (M : Mp) (x : It) : Mp :=
 if yX M = true ∧ okB x = true ∧ M.garb + (szO (zW M x.key) : Int) ≤ 1099511627776 then uh (ins (zG M) x) (M.garb + (szO (zW M x.key) : Int)) else M
def ug (M : Mp) (key : Int) : Mp :=
 match zW M key with
 | none => M
 | some y => if M.garb + (xA y : Int) ≤ 1099511627776 then uh (drp (zG M) key) (M.garb + (xA y : Int)) else M
/-! ### Sameness -/
structure EqM (M N : Mp) : Prop where
 st : ∀ i, i < 8 → M.st i = N.st i
 l : M.live = N.live
 g : M.garb = N.garb
theorem EqM.refl (M : Mp) : EqM M M := ⟨fun _ _ => rfl, rfl, rfl⟩
theorem zH5 (M : Mp) (x : It) : EqM (wB M x) (vy M x) := by
 by_cases hv : VldM M
 ·
  have hv' := (zM M).2 hv
  by_cases hx : okB x = true
  ·
   by_cases hg : M.garb + (szO (zW M x.key) : Int) ≤ 1099511627776
   ·
    have hp := tX hv;have ha := yO M;have hfn : fnd (zG M) x.key = zW M x.key := by
     have := vI M x.key
     rwa [yH ha] at this
    unfold vy;rw [if_pos ⟨hv', hx, hg⟩, zAG hv hx hg];have h0 : 0 ≤ M.garb + (szO (zW M x.key) : Int) := by have := hv.g0; omega
    rw [zAt (zFl (qw x (of_decide_eq_true hx) _ hp)) h0 hg, yH (zC8 ha x)];refine ⟨fun i hi => ?_, ?_, rfl⟩
    ·
     show wi M.st (zb x.key) (ins (M.st (zb x.key)) x) i = Go.Proofs.YtcgfilmmokmdjaaGreat.inS i (ins (zG M) x)
     rw [zJ2 ha, tg hv, hv.inS hi];unfold wi
     by_cases e : i = zb x.key
     ·
      rw [if_pos e, if_pos e.symm, e]
     rw [if_neg e, if_neg (Ne.symm e)]
    show M.live + (xA x : Int) - (szO (zW M x.key) : Int) = (zq (ins (zG M) x) : Int)
    have h1 := zAq x (zG M) ha;rw [hfn] at h1;have h2 := zBK hv;unfold xA;omega
   unfold vy wB;rw [if_neg (fun h => hg (by rw [xP hv]; exact h.2.2)), if_neg (fun h => hg h.2.2)];exact .refl M
  unfold vy wB;rw [if_neg (fun h => hx h.2.1), if_neg (fun h => hx h.2.1)];exact .refl M
 unfold vy wB;rw [if_neg (fun h => hv ((zM M).1 h.1)), if_neg (fun h => hv ((zM M).1 h.1))];exact .refl M
theorem zHe (M : Mp) (key : Int) : EqM (yF M key) (ug M key) := by
 unfold yF ug
 cases hgo : zW M key with
 | none => exact .refl M
 | some y =>
  have hv : VldM M := (zM M).1 (xN hgo).1
  show EqM (if M.garb + (xA y : Int) ≤ 1099511627776 then _ else M) (if M.garb + (xA y : Int) ≤ 1099511627776 then _ else M)
  by_cases hg : M.garb + (xA y : Int) ≤ 1099511627776
  ·
   rw [if_pos hg, if_pos hg];have ha := yO M;have hfn : fnd (zG M) key = zW M key := by
    have := vI M key
    rwa [yH ha] at this
   have h0 : 0 ≤ M.garb + (xA y : Int) := by have := hv.g0; omega
   rw [zAt (l := drp (zG M) key) (zFl fun x hx => tX hv x (List.mem_filter.1 hx).1) h0 hg, yH (zCs ha key)];refine ⟨fun i hi => ?_, ?_, rfl⟩
   ·
    show (if i = zb key then drp (M.st i) key else M.st i) = Go.Proofs.YtcgfilmmokmdjaaGreat.inS i (drp (zG M) key)
    rw [zJx ha, tg hv, hv.inS hi]
    by_cases e : i = zb key
    ·
     rw [if_pos e, if_pos e.symm]
    rw [if_neg e, if_neg (Ne.symm e)]
   show M.live - (xA y : Int) = (zq (drp (zG M) key) : Int)
   have h1 := zDS key (zG M) ha;rw [hfn, hgo] at h1;have h2 := zBK hv;have h3 : szO (some y) = xA y := rfl;omega
  rw [if_neg hg, if_neg hg];exact .refl M
structure Gn where
 num : Int
 rev : Int
 mode : Int
 size : Int
 m : Mp
def vP (x : It) : Int := x.off + (szN x.size.toNat : Int)
def zBY (x y : It) : Prop := vP x ≤ y.off ∨ vP y ≤ x.off
instance (x y : It) : Decidable (zBY x y) := by unfold zBY; infer_instance
def qd (l : List It) (size : Int) : Prop := l.Pairwise zBY ∧ ∀ x ∈ l, vP x ≤ size
instance (l : List It) (size : Int) : Decidable (qd l size) := by unfold qd; infer_instance
def vM (l : List It) (size : Int) : Bool := decide (qd l size)
theorem zBh {x y : It} (h : zBY x y) : zBY y x := h.symm
theorem zEh {l l' : List It} (h : l.Perm l') (size : Int) : qd l size ↔ qd l' size := by
 unfold qd;rw [List.Perm.pairwise_iff (fun h => zBh h) h];exact ⟨fun ⟨h1, h2⟩ => ⟨h1, fun x hx => h2 x (h.mem_iff.2 hx)⟩, fun ⟨h1, h2⟩ => ⟨h1, fun x hx => h2 x (h.mem_iff.1 hx)⟩⟩
theorem zKA {n : Nat} (h : n ≤ 4096) : 0 < szN n := by
 rw [kQ h];have := xT n;omega
theorem tO {x : It} (h : okP x) : x.off < vP x := by
 have h1 := h.2.2.2;have := zKA (n := x.size.toNat) (by omega);unfold vP;omega
def chain (e : Int) : List It → Option Int
 | [] => some e
 | x :: r => if x.off < e then none else chain (vP x) r
def zFb (l : List It) (size : Int) : Bool := match chain 16 l with
 | none => false
 | some e => decide (e ≤ size)
theorem zBF : ∀ (l : List It) (e size : Int), (∀ x ∈ l, okP x) → l.Pairwise (fun a b => a.off ≤ b.off) → (∀ x ∈ l, e ≤ x.off ∨ x.off < e) →
  ((match chain e l with | none => false | some e' => decide (e' ≤ size)) = true ↔ (l.Pairwise zBY ∧ (∀ x ∈ l, e ≤ x.off) ∧ (∀ x ∈ l, vP x ≤ size) ∧ (l = [] → e ≤ size)))
 | [], e, size, _, _, _ => by simp [chain]
 | x :: r, e, size, hok, hs, _ => by
  have hx := tO (hok x (by simp));rw [List.pairwise_cons] at hs ⊢;have ih := zBF r (vP x) size (fun y hy => hok y (by simp [hy])) hs.2 (fun y _ => by omega)
  by_cases h : x.off < e
  ·
   have h1 : chain e (x :: r) = none := by unfold chain; rw [if_pos h]
   rw [h1]
   constructor
   ·
    intro h2; cases h2
   rintro ⟨_, h3, _⟩;have := h3 x (by simp);omega
  have h1 : chain e (x :: r) = chain (vP x) r := by
   show (if x.off < e then none else chain (vP x) r) = _
   rw [if_neg h]
  rw [h1, ih]
  constructor
  ·
   rintro ⟨h2, h3, h4, h5⟩;refine ⟨⟨fun y hy => .inl (h3 y hy), h2⟩, fun y hy => ?_, fun y hy => ?_, fun e => by cases e⟩
   ·
    rcases List.mem_cons.1 hy with rfl | hy
    ·
     omega
    have := hs.1 y hy; omega
   rcases List.mem_cons.1 hy with rfl | hy
   ·
    cases r with
    | nil => exact h5 rfl
    | cons z t =>
     have h6 := h4 z (by simp);have h7 := h3 z (by simp);have h8 := tO (hok z (by simp));omega
   exact h4 y hy
  rintro ⟨⟨h2, h3⟩, h4, h5, _⟩;refine ⟨h3, fun y hy => ?_, fun y hy => h5 y (by simp [hy]), fun _ => h5 x (by simp)⟩;rcases h2 y hy with h6 | h6
  ·
   exact h6
  have h7 := hs.1 y hy;have h8 := tO (hok y (by simp [hy]));omega
theorem zIm {l l' : List It} {size : Int} (hok : ∀ x ∈ l, okP x) (hp : l.Perm l') (hs : l'.Pairwise fun a b => a.off ≤ b.off) (h16 : 16 ≤ size) : zFb l' size = vM l size := by
 have hok' : ∀ x ∈ l', okP x := fun x hx => hok x (hp.mem_iff.2 hx)
 rw [Bool.eq_iff_iff];unfold zFb vM;rw [zBF l' 16 size hok' hs (fun y _ => by omega), decide_eq_true_eq, zEh hp];exact ⟨fun ⟨h1, _, h2, _⟩ => ⟨h1, h2⟩, fun ⟨h1, h2⟩ => ⟨h1, fun x hx => (hok' x hx).1, h2, fun _ => h16⟩⟩
structure VldG (g : Gn) : Prop where
 num : 1 ≤ g.num ∧ g.num ≤ 8
 rev : 0 ≤ g.rev ∧ g.rev ≤ 4294967295
 mode : 1 ≤ g.mode ∧ g.mode ≤ 3
 size : 16 ≤ g.size ∧ g.size ≤ 1048576 ∧ g.size % 8 = 0
 m : yX g.m = true
 ends : vM (zG g.m) g.size = true
 sum : g.size = 16 + g.m.live + g.m.garb
def wJ (g : Gn) : Bool := decide (1 ≤ g.num) && decide (g.num ≤ 8) && decide (0 ≤ g.rev) && decide (g.rev ≤ 4294967295) && decide (1 ≤ g.mode) && decide (g.mode ≤ 3) && decide (16 ≤ g.size) && decide (g.size ≤ 1048576) && decide (g.size % 8 = 0) && yX g.m && vM (zG g.m) g.size && decide (g.size = 16 + g.m.live + g.m.garb)
theorem yD (g : Gn) : wJ g = true ↔ VldG g := by
 unfold wJ;simp only [Bool.and_eq_true, decide_eq_true_eq];exact ⟨fun ⟨⟨⟨⟨⟨⟨⟨⟨⟨⟨⟨a, b⟩, c⟩, d⟩, e⟩, f⟩, g⟩, h⟩, i⟩, j⟩, k⟩, l⟩ => ⟨⟨a, b⟩, ⟨c, d⟩, ⟨e, f⟩, ⟨g, h, i⟩, j, k, l⟩, fun h => ⟨⟨⟨⟨⟨⟨⟨⟨⟨⟨⟨h.num.1, h.num.2⟩, h.rev.1⟩, h.rev.2⟩, h.mode.1⟩, h.mode.2⟩, h.size.1⟩, h.size.2.1⟩, h.size.2.2⟩, h.m⟩, h.ends⟩, h.sum⟩⟩
theorem zDw {g : Gn} (h : ¬ VldG g) : wJ g = false := by
 cases e : wJ g with
 | false => rfl
 | true => exact absurd ((yD g).1 e) h
end Go.Proofs.YtcgfilmmokmdjaaGreat
namespace Go.Proofs.YtcgfilmmokmdjaaGreat
open Go.RowKit Go.Shelf
theorem zIN (v : Value) (l : List It) (w : World) (B : Nat) (hB : B ≤ w.heap.size) (hv : OwnT w B v l) (hsm : l.length ≤ 1000000) :
  Calls Tryz.prog 129 #[v, .func (.func 130) #[] #[]] w fun e w' => e = .returned (.tuple #[]) ∧ ∃ l', l.Perm l' ∧ l'.Pairwise (fun a b => a.off ≤ b.off) ∧ RdT w' v l' ∧ Below B w w' := by
 have eg : ∀ args w, (callFunc 130 args).run Tryz.prog w = .ok (.enter 130 args) w := enters_of Tryz.func130 (by kernel_rfl) rfl;rcases hv.2 with ⟨rfl, h0⟩ | ⟨g, cap, cur, rfl, hb, hg, hn, hc, hs, ht⟩
 ·
  have hl : l = [] := List.eq_nil_of_length_eq_zero h0;subst hl;refine (AnyF.slices_SortFunc_none zKf none 0 _ w).mono ?_;rintro e w' ⟨rfl, rfl⟩;exact ⟨rfl, [], List.Perm.nil, List.Pairwise.nil, RdS.nil 4 itC _, Below.refl _ _⟩
 have hgs : g < w.heap.size := (Array.getElem?_eq_some_iff.1 hg).1;have hcon := AnyQ.slices_SortFunc zKf 4 Tryz.isAgg49 Tryz.sizeOf49 itC wM (fun x u hu => by simp [itC] at hu; rcases hu with rfl | rfl | rfl | rfl <;> rfl) (fun x y => zDX x.off y.off) zLx 130 #[] g 0 cap l.toArray w eg (fun _ _ _ _ x y => zGi x y _) (zAp hg rfl ht) hgs (by rw [List.size_toArray]; omega);change Calls Tryz.prog 129 _ _ _ at hcon;refine hcon.mono ?_;rintro e w' ⟨rfl, d', n, os, hp, hso, rfl⟩;have hz : d'.size = l.length := by rw [hp.1, List.size_toArray]
 refine ⟨rfl, d'.toList, zJX hp, zHF (by rw [hz, List.size_toArray]) hso, ?_, zCS hb hgs⟩;have := zGS (holdsK_sortWorldK_c itC 4 w g 0 l.toArray d' n os (zAp hg rfl ht) hgs hp.1) (by rw [hz]; exact hn) hc
 rwa [hz] at this
theorem zH2 {l : List It} {k : Nat} (h : k < l.length) : l.drop k = iat l k :: l.drop (k + 1) := by
 rw [List.drop_eq_getElem_cons h];unfold iat;rw [List.getD_eq_getElem?_getD, List.getElem?_eq_getElem h]
 rfl
theorem zJC (v : Value) (l : List It) (size : Int) (w : World) (B : Nat) (hB : B ≤ w.heap.size) (hv : OwnT w B v l) (hok : ∀ x ∈ l, okP x) (hsm : l.length ≤ 1000000) (hsz : 16 ≤ size) :
  Calls Tryz.prog 88 #[v, .int .i64 size] w fun e w' => e = .returned (.bool (vM l size)) ∧ Below B w w' := by
 have HS := zh (fun W (h : OwnT W B v l) (h2 : B ≤ W.heap.size) => zIN v l W B h2 h hsm);have HO := zh hv;have HE := zh (fun l' (h : l.Perm l') h2 => zIm (size := size) hok h h2 hsz);have HK := zh (fun l' (h : l.Perm l') => show ∀ x ∈ l', okP x from fun x hx => hok x (h.mem_iff.2 hx));generalize vM l size = res at *;clear hv hok hsm
 go_enter Tryz.func88, Tryz.ntmps88
 go_wp2_with fail;refine (HS.out _ HO.out hB).mono ?_;rintro e w1 ⟨rfl, l', hp, hs, hrd, hb⟩;have HB := zh hb;have HRes := zh (HE.out l' hp hs);have HK' := HK.out l' hp;have hBs := Nat.le_trans hB hb.size;clear HS HO HE HK hb hp hs;obtain ⟨a, cap, rfl, h1, h2⟩ := hrd.shape;have hm := kC h1 h2;have Hr := zh hrd;generalize hn : l'.length = n at *;have Hn := zh hn;have HKo := zh HK';clear hrd h1 h2 hn HK';go_wp2_with fail
 go_loopw [5, 12] (fun e i wr => ∃ (k : Nat) (s : Int), k ≤ n ∧ e = .int .i64 s ∧ i = .int .i64 (k : Int) ∧ 0 ≤ s ∧ s ≤ 1048576 + 5000 ∧ chain 16 l' = chain s (l'.drop k) ∧ Below B w wr ∧ w1.heap.size ≤ wr.heap.size ∧ Below w1.heap.size w1 wr) (fun _ i _ => n - (intOf i).toNat)
 case atStart => exact ⟨0, 16, Nat.zero_le _, rfl, rfl, by omega, by omega, rfl, HB.out, Nat.le_refl _, Below.refl _ _⟩
 obtain ⟨k, s, hk, rfl, rfl, hs0, hs1, hch, hb, hsz2, hb1⟩ := hrel;have Hc := zh hch;have Hb := zh hb;have Hb1 := zh hb1;clear hch hb hb1
 by_cases hlt : k < n
 ·
  obtain ⟨b, off, rfl, c0, c1, c2, c3⟩ := (Hr.out.below Hb1.out).at hlt;have hx := HKo.out (iat l' k) (by rw [← Hn.out] at hlt; exact tQ hlt);have hsl : szN (iat l' k).size.toNat ≤ 4127 := xg _
  have HD := zh (show chain s (l'.drop k) = if (iat l' k).off < s then none else chain ((iat l' k).off + (szN (iat l' k).size.toNat : Int)) (l'.drop (k + 1)) by
   rw [zH2 (by rw [Hn.out]; exact hlt)]; rfl)
  have HZ := zh (fun W => zAs (iat l' k).size.toNat W);have hz0 : ((iat l' k).size.toNat : Int) = (iat l' k).size := Int.toNat_of_nonneg hx.2.2.2.1;have HX := zh (BoxI.new wr (iat l' k));have HBx := zh (zu wr (iat l' k));generalize szN (iat l' k).size.toNat = z at *;rw [hz0] at HZ;clear hz0;have hx1 := hx.1;have hx2 := hx.2.1;clear hx;generalize iat l' k = x at *;go_upto_region 6 with fail;change Code.wp _ _ _ _ (wr.alloc (yq x));obtain ⟨W, hW⟩ : ∃ W, wr.alloc (yq x) = W := ⟨_, rfl⟩
  rw [hW] at HX HBx ⊢;have hlw := HX.out.lt;have HbW := zh (bup Hb.out (Nat.le_trans hBs hsz2) HBx.out);have Hb1W := zh (bup Hb1.out hsz2 HBx.out);have hszW := Nat.le_trans hsz2 HBx.out.size;have HZ' := zh (fun W => (HZ.out W).mono (R' := fun e w' => e = .returned (.int .i64 (z : Int)) ∧ Below W.heap.size W w') fun _ _ ⟨he, hw⟩ => ⟨he, hw ▸ Below.refl _ _⟩);clear HZ;have d2 := HX.out.t.c2;have d3 := HX.out.t.c3;clear c0 c1 c2 c3 hW
  by_cases hlo : x.off < s
  ·
   go_wp2_with fail;go_ret;have hf : res = false := by
    rw [← HRes.out]; unfold zFb; rw [Hc.out, HD.out, if_pos hlo]
   exact ⟨zE hf.symm, HbW.out⟩
  have hge : s ≤ x.off := by omega
  go_wp2_with fail;have e2 := zC d2;have e3 := zC d3;refine zB (by kernel_rfl) (by kernel_rfl) ?_
  repeat (go_big_quiet_step ((exact zI (HZ'.out _))))
  refine wpQuiet_nil ?_;intro _ hw';obtain ⟨q, hw'⟩ := hw';subst hw';have HbQ := zh (bup HbW.out (Nat.le_trans hBs hszW) q.h);have HbQ1 := zh (bup Hb1W.out hszW q.h);have hszQ := Nat.le_trans hszW q.h.size;generalize q.w' = W2 at *;clear e2 e3 d2 d3;go_wp2_with fail;exact ⟨⟨k + 1, x.off + (z : Int), by omega, by go_num, by go_num, by omega, by omega, by rw [Hc.out, HD.out, if_neg (by omega)], HbQ.out, hszQ, HbQ1.out⟩, by simp [intOf]; omega⟩
 obtain rfl : k = n := by omega
 have hd : l'.drop k = [] := List.drop_of_length_le (by rw [Hn.out]; exact Nat.le_refl _);have hf : res = decide (s ≤ size) := by
  rw [← HRes.out]; unfold zFb; rw [Hc.out, hd]; rfl
 have HF := zh hf;clear hf;go_wp2_with fail;go_ret;exact ⟨zE HF.out.symm, Hb.out⟩
end Go.Proofs.YtcgfilmmokmdjaaGreat
namespace Go.Proofs.YtcgfilmmokmdjaaGreat
open Go.RowKit
theorem zAo {P : Program} {w : World} {ops : Array Oper} {o : Oper} {a : Act} {K : Act → World → Prop} {Q : Exit → Act → World → Prop} {E : Prop} (hgd : o.guard = none) (s x : Operand) (t : TypeId)
  (ho : o.op = .call { callee := .builtin .append, args := #[s, x], argTypes := #[t, t] })
  {e : TypeId} {sz bytes : Nat} (hE : xe P t e sz bytes) (base : Nat)
  {v : Value} {n : Nat} {xs : List Value} (hs : a.eval s = v) (hown : w.ownsRow base e sz v n xs) {ad : Addr} {m c : Nat} {news : List Value} (hx : a.eval x = .slice (some ad) m c)
  (hl : news.length = m * sz) (hnews : ∀ j u, news[j]? = some u → w.cell? (ad.add j) = some u)
  (h1 : ∀ u ∈ news, u.oneCell' = true) (h63 : n + m ≤ maxLen) (hbytes : (n + m) * bytes ≤ 140737488355328) (hbase : base ≤ w.heap.size)
  (h : ∀ v' w', w'.ownsRow base e sz v' (n + m) (xs ++ news) → w.grownBy w' v.ownBlock → (v'.ownBlock = v.ownBlock ∨ v'.ownBlock = some w.heap.size) → K (a.put o.dst v') w') :
  if Region.wanted o (yielded ops a.tmps) = true then Oper.wp P o a w K Q else E := by
 have hw : Region.wanted o (yielded ops a.tmps) = true := by simp [Region.wanted, hgd]
 rw [if_pos hw];obtain ⟨ht, hsz, i, z, hi, hz, hs', hby, hzs⟩ := hE;obtain ⟨v', w', hrun, r1, r2, _, r4⟩ := run_append_own_at (P := P) w base t o.type e i z sz bytes ht hi hz hs' hby hzs hsz v n xs hown ad m c news hl hnews h1 h63 hbytes hbase;unfold Oper.wp;simp [execOp, ho, resolve, invoke, builtin, hs, hx, hrun, Result.andThen];exact h v' w' r1 r2 r4
theorem zHZ (W : World) (x : It) (k : Nat) (hk : W.heap.size = k) : ∀ j u, (itC x)[j]? = some u → (W.alloc (yq x)).drew.cell? ((⟨k, 0, none⟩ : Addr).add j) = some u := by
 subst hk;intro j u hj;rw [yJ, Nat.zero_add]
 show (W.alloc (yq x)).cell? _ = some u
 rw [cell_of_row _ _ j _ _ (0, 0) (heap_alloc_new W _)];rw [← Array.getElem?_toList]; exact hj
def ApM (s : Sl) : Prop := ∀ i j, i < 8 → j < 8 → i ≠ j → (s.v i).ownBlock = none ∨ (s.v i).ownBlock ≠ (s.v j).ownBlock
theorem ApM.nil : ApM Sl.nil := fun _ _ _ _ _ => .inl rfl
theorem BoxM.grown {W W' : World} {b : Nat} {s : Sl} {l g : Int} {row : Option Nat} (h : BoxM W b s l g) (hg : W.grownBy W' row) (hne : row ≠ some b) : BoxM W' b s l g := by
 have hn : ∀ i, some (⟨b, i, none⟩ : Addr).block ≠ row := fun i e => hne e.symm
 refine ⟨fun j hj => hg.cell (h.c j hj) (hn j), hg.cell h.cl (hn 8), hg.cell h.cg (hn 9), fun i => ?_⟩;rw [World.frozen?_of_block (w := W) (hg.block b h.lt (hn 0))];exact h.f i
theorem uR {w : World} {B : Nat} {e : TypeId} {sz n : Nat} {v : Value} {xs : List Value} (h : w.ownsRow B e sz v n xs) {b : Nat} (hb : b < B) : v.ownBlock ≠ some b := fun e => by
 have := (h.lt b e).1; omega
theorem zLi {w w4 : World} {bm B k : Nat} {s : Sl} {f : Nat → List It} {x : It} {va : Option Addr} {n vc : Nat} (ho : OwnM w B s f) (hd : ApM s) (hk : k < 8) (hbm : bm < B)
  (hown : w4.ownsRow B 49 4 (.slice va n vc) n (zL (f k ++ [x]))) (hg : w.grownBy w4 (s.v k).ownBlock) (hat : (Value.slice va n vc).ownBlock = (s.v k).ownBlock ∨ (Value.slice va n vc).ownBlock = some w.heap.size) :
  OwnM (w4.setCell ⟨bm, k, none⟩ (.slice va n vc)) B (s.set k va n vc) (fun i => if i = k then f k ++ [x] else f i) ∧ ApM (s.set k va n vc) := by
 have hlt : ∀ i, i < 8 → ∀ g, (s.v i).ownBlock = some g → g < w.heap.size := fun i hi g hg => ((ho i hi).lt g hg).2
 constructor
 ·
  intro i hi
  show OwnT _ B ((s.set k va n vc).v i) (if i = k then f k ++ [x] else f i)
  rw [Sl.set_v]
  by_cases e : i = k
  ·
   rw [if_pos e, if_pos e];exact yE (zy hown (p := ⟨bm, k, none⟩) hbm _) rfl
  rw [if_neg e, if_neg e];exact zy (World.ownsRow.kept (ho i hi) hg (hd i k hi hk e)) (p := ⟨bm, k, none⟩) hbm _
 intro i j hi hj hij;rw [Sl.set_v, Sl.set_v]
 by_cases e : i = k
 ·
  subst e;rw [if_pos rfl, if_neg (Ne.symm hij)];rcases hat with hat | hat
  ·
   rw [hat]; exact hd i j hi hj hij
  rw [hat];refine .inr fun h2 => ?_
  have := hlt j hj _ h2.symm;omega
 rw [if_neg e]
 by_cases e2 : j = k
 ·
  subst e2;rw [if_pos rfl];rcases hat with hat | hat
  ·
   rw [hat]; exact hd i j hi hj hij
  rw [hat]
  cases hv : (s.v i).ownBlock with
  | none => exact .inl rfl
  | some g =>
   refine .inr fun h2 => ?_
   injection h2 with h2;have := hlt i hi g hv;omega
 rw [if_neg e2]; exact hd i j hi hj hij
theorem zI3 {w0 w w4 : World} {B0 bR bm B2 B3 k : Nat} {s : Sl} {f : Nat → List It} {x : It} {va : Option Addr} {n vc : Nat} {v3 : Value} {T : List It} {L G : Int}
  (hR : BoxM w bR Sl.nil 0 0) (hM : BoxM w bm s L G) (hO : OwnM w B3 s f) (hA : ApM s) (hT : OwnT w B2 v3 T) (hb : Below B0 w0 w) (h0 : B0 ≤ bm) (h1 : bR < bm) (h2 : bm < B2) (h3 : B2 ≤ B3) (hB3 : B3 ≤ w.heap.size)
  (hTl : ∀ g, v3.ownBlock = some g → g < B3) (hk : k < 8) (hown : w4.ownsRow B3 49 4 (.slice va n vc) n (zL (f k ++ [x]))) (hg : w.grownBy w4 (s.v k).ownBlock)
  (hat : (Value.slice va n vc).ownBlock = (s.v k).ownBlock ∨ (Value.slice va n vc).ownBlock = some w.heap.size) :
  BoxM (w4.setCell ⟨bm, k, none⟩ (.slice va n vc)) bR Sl.nil 0 0 ∧ BoxM (w4.setCell ⟨bm, k, none⟩ (.slice va n vc)) bm (s.set k va n vc) L G ∧
   OwnM (w4.setCell ⟨bm, k, none⟩ (.slice va n vc)) B3 (s.set k va n vc) (fun i => if i = k then f k ++ [x] else f i) ∧ ApM (s.set k va n vc) ∧
   OwnT (w4.setCell ⟨bm, k, none⟩ (.slice va n vc)) B2 v3 T ∧ Below B0 w0 (w4.setCell ⟨bm, k, none⟩ (.slice va n vc)) := by
 have hok := hO k hk;have hap := zLi hO hA hk (show bm < B3 by omega) hown hg hat;refine ⟨(hR.grown hg (uR hok (by omega))).set_ne (p := ⟨bm, k, none⟩) (show bm ≠ bR by omega) _, (hM.grown hg (uR hok (by omega))).setS hk _ _ _, hap.1, hap.2, ?_, ?_⟩
 ·
  refine zy (World.ownsRow.kept hT hg ?_) (p := ⟨bm, k, none⟩) h2 _
  cases hv : v3.ownBlock with
  | none => exact .inl rfl
  | some g =>
   refine .inr fun e => ?_
   have h4 := hTl g hv;have h5 := (World.ownsRow.lt hok g e.symm).1;omega
 exact (zK hb (World.ownsRow.mono hok (show B0 ≤ B3 by omega)) (by omega) hg).setCell (p := ⟨bm, k, none⟩) h0 _
end Go.Proofs.YtcgfilmmokmdjaaGreat
namespace Go.Proofs.YtcgfilmmokmdjaaGreat
open Go.RowKit
abbrev zX (n r md z : Int) (s : Sl) (l g : Int) : Array Value := #[.int .i64 n, .int .i64 r, .int .i64 md, .int .i64 z, .slice (s.a 0) (s.n 0) (s.c 0), .slice (s.a 1) (s.n 1) (s.c 1), .slice (s.a 2) (s.n 2) (s.c 2), .slice (s.a 3) (s.n 3) (s.c 3), .slice (s.a 4) (s.n 4) (s.c 4), .slice (s.a 5) (s.n 5) (s.c 5), .slice (s.a 6) (s.n 6) (s.c 6), .slice (s.a 7) (s.n 7) (s.c 7), .int .i64 l, .int .i64 g]
abbrev ze (n r md z : Int) (s : Sl) (l g : Int) : Value := .agg (zX n r md z s l g)
theorem _root_.Go.RowKit.Below.keeps' {w w' : World} (h : Below w.heap.size w w') {p : Addr} {u : Value} (hp : w.cell? p = some u) : w'.cell? p = some u := (h.cell (World.block_lt_of_cell? w p hp)).trans hp
theorem zDj {w : World} {B : Nat} {e : TypeId} {sz n : Nat} {v : Value} {xs : List Value} {p : Addr} (h : w.ownsRow B e sz v n xs) (hne : v.ownBlock ≠ some p.block) (u : Value) : (w.setCell p u).ownsRow B e sz v n xs := by
 refine ⟨h.1, ?_⟩;rcases h.2 with h0 | ⟨g, cap, cur, rfl, hb, hg, rest⟩
 ·
  exact .inl h0
 refine .inr ⟨g, cap, cur, rfl, hb, ?_, rest⟩;rw [Below.heap_setCell w p u g (fun e => hne (by rw [← e]; rfl))]; exact hg
def pts (W : World) (b : Nat) (vs : List (Nat × Value)) : World := vs.foldl (fun W p => W.setCell ⟨b, p.1, none⟩ p.2) W
theorem zD {B b : Nat} {w0 : World} (hb : B ≤ b) : ∀ (vs : List (Nat × Value)) {W : World}, Below B w0 W → Below B w0 (pts W b vs)
 | [], _, h => h
 | p :: r, _, h => zD hb r (h.setCell (p := ⟨b, p.1, none⟩) hb p.2)
theorem qE {b B : Nat} {e : TypeId} {sz n : Nat} {v : Value} {xs : List Value} (hne : v.ownBlock ≠ some b) : ∀ (vs : List (Nat × Value)) {W : World}, W.ownsRow B e sz v n xs → (pts W b vs).ownsRow B e sz v n xs
 | [], _, h => h
 | p :: r, _, h => qE hne r (zDj (p := ⟨b, p.1, none⟩) h hne p.2)
theorem vB {b B : Nat} {e : TypeId} {sz n : Nat} {v : Value} {xs : List Value} (hb : b < B) {W : World} (h : W.ownsRow B e sz v n xs) (vs : List (Nat × Value)) : (pts W b vs).ownsRow B e sz v n xs := qE (uR h hb) vs h
theorem zw {b : Nat} {p : Addr} (hne : p.block ≠ b) : ∀ (vs : List (Nat × Value)) (W : World), (pts W b vs).cell? p = W.cell? p
 | [], _ => rfl
 | q :: r, W => (zw hne r _).trans (World.cell?_setCell_other (h := fun e => hne (by rw [← e])) ..)
theorem xF {b : Nat} (p : Addr) : ∀ (vs : List (Nat × Value)) (W : World), (pts W b vs).frozen? p = W.frozen? p
 | [], _ => rfl
 | q :: r, W => (xF p r _).trans (by simp)
theorem tA {b : Nat} : ∀ (vs : List (Nat × Value)) (W : World), (pts W b vs).heap.size = W.heap.size
 | [], _ => rfl
 | q :: r, W => (tA r _).trans (by simp)
theorem OwnM.pts {w : World} {B b : Nat} {s : Sl} {f : Nat → List It} (h : OwnM w B s f) (hb : b < B) (vs : List (Nat × Value)) : OwnM (Go.Proofs.YtcgfilmmokmdjaaGreat.pts w b vs) B s f := fun i hi => vB hb (h i hi) vs
structure BoxG (W : World) (b : Nat) (n r md z : Int) (s : Sl) (l g : Int) : Prop where
 n0 : W.cell? ⟨b, 0, none⟩ = some (.int .i64 n)
 n1 : W.cell? ⟨b, 1, none⟩ = some (.int .i64 r)
 n2 : W.cell? ⟨b, 2, none⟩ = some (.int .i64 md)
 n3 : W.cell? ⟨b, 3, none⟩ = some (.int .i64 z)
 c : ∀ j, j < 8 → W.cell? ⟨b, 4 + j, none⟩ = some (s.v j)
 cl : W.cell? ⟨b, 12, none⟩ = some (.int .i64 l)
 cg : W.cell? ⟨b, 13, none⟩ = some (.int .i64 g)
 f : ∀ i, W.frozen? ⟨b, i, none⟩ = false
theorem BoxG.q {W : World} {b : Nat} {n r md z : Int} {s : Sl} {l g : Int} (h : BoxG W b n r md z s l g) : W.cell? ⟨b, 0, none⟩ = some (.int .i64 n) ∧ W.cell? ⟨b, 1, none⟩ = some (.int .i64 r) ∧ W.cell? ⟨b, 2, none⟩ = some (.int .i64 md) ∧ W.cell? ⟨b, 3, none⟩ = some (.int .i64 z) ∧ W.cell? ⟨b, 4, none⟩ = some (.slice (s.a 0) (s.n 0) (s.c 0)) ∧ W.cell? ⟨b, 5, none⟩ = some (.slice (s.a 1) (s.n 1) (s.c 1)) ∧ W.cell? ⟨b, 6, none⟩ = some (.slice (s.a 2) (s.n 2) (s.c 2)) ∧ W.cell? ⟨b, 7, none⟩ = some (.slice (s.a 3) (s.n 3) (s.c 3)) ∧ W.cell? ⟨b, 8, none⟩ = some (.slice (s.a 4) (s.n 4) (s.c 4)) ∧ W.cell? ⟨b, 9, none⟩ = some (.slice (s.a 5) (s.n 5) (s.c 5)) ∧ W.cell? ⟨b, 10, none⟩ = some (.slice (s.a 6) (s.n 6) (s.c 6)) ∧ W.cell? ⟨b, 11, none⟩ = some (.slice (s.a 7) (s.n 7) (s.c 7)) ∧ W.cell? ⟨b, 12, none⟩ = some (.int .i64 l) ∧ W.cell? ⟨b, 13, none⟩ = some (.int .i64 g) := ⟨h.n0, h.n1, h.n2, h.n3, h.c 0 (by decide), h.c 1 (by decide), h.c 2 (by decide), h.c 3 (by decide), h.c 4 (by decide), h.c 5 (by decide), h.c 6 (by decide), h.c 7 (by decide), h.cl, h.cg⟩
section
variable {W : World} {b : Nat} {n r md z : Int} {s : Sl} {l g : Int}
theorem BoxG.new (W : World) (n r md z : Int) (s : Sl) (l g : Int) (t : TypeId) : BoxG (W.alloc (.cells (zX n r md z s l g) t)) W.heap.size n r md z s l g :=
 ⟨by simp, by simp, by simp, by simp, fun j hj => by rcases lt8 hj with h | h | h | h | h | h | h | h <;> subst h <;> simp [Sl.v], by simp, by simp, fun i => by simp⟩
theorem zZ (w : World) (n r md z : Int) (s : Sl) (l g : Int) (t : TypeId) : Below w.heap.size w (w.alloc (.cells (zX n r md z s l g) t)) := (Below.refl _ _).alloc (Nat.le_refl _) _
theorem BoxG.lt (h : BoxG W b n r md z s l g) : b < W.heap.size := World.block_lt_of_cell? W _ h.cl
theorem BoxG.below {W' : World} (h : BoxG W b n r md z s l g) (hB : Below W.heap.size W W') : BoxG W' b n r md z s l g :=
 ⟨hB.keeps' h.n0, hB.keeps' h.n1, hB.keeps' h.n2, hB.keeps' h.n3, fun j hj => hB.keeps' (h.c j hj), hB.keeps' h.cl, hB.keeps' h.cg, fun i => (hB.frozen (p := ⟨b, i, none⟩) h.lt).trans (h.f i)⟩
theorem BoxG.pts_ne {c : Nat} (h : BoxG W b n r md z s l g) (hp : b ≠ c) (vs : List (Nat × Value)) : BoxG (pts W c vs) b n r md z s l g :=
 ⟨(zw (p := ⟨b, 0, none⟩) hp vs W).trans h.n0, (zw (p := ⟨b, 1, none⟩) hp vs W).trans h.n1, (zw (p := ⟨b, 2, none⟩) hp vs W).trans h.n2, (zw (p := ⟨b, 3, none⟩) hp vs W).trans h.n3, fun j hj => (zw (p := ⟨b, 4 + j, none⟩) hp vs W).trans (h.c j hj), (zw (p := ⟨b, 12, none⟩) hp vs W).trans h.cl, (zw (p := ⟨b, 13, none⟩) hp vs W).trans h.cg, fun i => (xF _ vs W).trans (h.f i)⟩
theorem BoxG.c0 (h : BoxG W b n r md z s l g) : W.cell? ⟨b, 4, none⟩ = some (.slice (s.a 0) (s.n 0) (s.c 0)) := h.c 0 (by decide)
theorem BoxG.c1 (h : BoxG W b n r md z s l g) : W.cell? ⟨b, 5, none⟩ = some (.slice (s.a 1) (s.n 1) (s.c 1)) := h.c 1 (by decide)
theorem BoxG.c2 (h : BoxG W b n r md z s l g) : W.cell? ⟨b, 6, none⟩ = some (.slice (s.a 2) (s.n 2) (s.c 2)) := h.c 2 (by decide)
theorem BoxG.c3 (h : BoxG W b n r md z s l g) : W.cell? ⟨b, 7, none⟩ = some (.slice (s.a 3) (s.n 3) (s.c 3)) := h.c 3 (by decide)
theorem BoxG.c4 (h : BoxG W b n r md z s l g) : W.cell? ⟨b, 8, none⟩ = some (.slice (s.a 4) (s.n 4) (s.c 4)) := h.c 4 (by decide)
theorem BoxG.c5 (h : BoxG W b n r md z s l g) : W.cell? ⟨b, 9, none⟩ = some (.slice (s.a 5) (s.n 5) (s.c 5)) := h.c 5 (by decide)
theorem BoxG.c6 (h : BoxG W b n r md z s l g) : W.cell? ⟨b, 10, none⟩ = some (.slice (s.a 6) (s.n 6) (s.c 6)) := h.c 6 (by decide)
theorem BoxG.c7 (h : BoxG W b n r md z s l g) : W.cell? ⟨b, 11, none⟩ = some (.slice (s.a 7) (s.n 7) (s.c 7)) := h.c 7 (by decide)
end
abbrev zO (n r md z : Int) (s : Sl) (l g : Int) : List (Nat × Value) := [(0, .int .i64 n), (1, .int .i64 r), (2, .int .i64 md), (3, .int .i64 z), (4, .slice (s.a 0) (s.n 0) (s.c 0)), (5, .slice (s.a 1) (s.n 1) (s.c 1)), (6, .slice (s.a 2) (s.n 2) (s.c 2)), (7, .slice (s.a 3) (s.n 3) (s.c 3)), (8, .slice (s.a 4) (s.n 4) (s.c 4)), (9, .slice (s.a 5) (s.n 5) (s.c 5)), (10, .slice (s.a 6) (s.n 6) (s.c 6)), (11, .slice (s.a 7) (s.n 7) (s.c 7)), (12, .int .i64 l), (13, .int .i64 g)]
abbrev yd (s : Sl) (l g : Int) : List (Nat × Value) := [(4, .slice (s.a 0) (s.n 0) (s.c 0)), (5, .slice (s.a 1) (s.n 1) (s.c 1)), (6, .slice (s.a 2) (s.n 2) (s.c 2)), (7, .slice (s.a 3) (s.n 3) (s.c 3)), (8, .slice (s.a 4) (s.n 4) (s.c 4)), (9, .slice (s.a 5) (s.n 5) (s.c 5)), (10, .slice (s.a 6) (s.n 6) (s.c 6)), (11, .slice (s.a 7) (s.n 7) (s.c 7)), (12, .int .i64 l), (13, .int .i64 g)]
theorem BoxG.all {W : World} {b : Nat} {n r md z : Int} {s : Sl} {l g : Int} (h : BoxG W b n r md z s l g) (n' r' md' z' : Int) (s' : Sl) (l' g' : Int) : BoxG (pts W b (zO n' r' md' z' s' l' g')) b n' r' md' z' s' l' g' := by
 obtain ⟨a0, a1, a2, a3, c0, c1, c2, c3, c4, c5, c6, c7, c8, c9⟩ := h.q;refine ⟨?_, ?_, ?_, ?_, fun j hj => ?_, ?_, ?_, fun i => (xF _ _ W).trans (h.f i)⟩
 ·
  simp [pts, go_sem, a0]
 ·
  simp [pts, go_sem, a1]
 ·
  simp [pts, go_sem, a2]
 ·
  simp [pts, go_sem, a3]
 ·
  rcases lt8 hj with e | e | e | e | e | e | e | e <;> subst e <;> simp [pts, go_sem, c0, c1, c2, c3, c4, c5, c6, c7, Sl.v]
 ·
  simp [pts, go_sem, c8]
 simp [pts, go_sem, c9]
theorem BoxG.map {W : World} {b : Nat} {n r md z : Int} {s : Sl} {l g : Int} (h : BoxG W b n r md z s l g) (s' : Sl) (l' g' : Int) : BoxG (pts W b (yd s' l' g')) b n r md z s' l' g' := by
 obtain ⟨a0, a1, a2, a3, c0, c1, c2, c3, c4, c5, c6, c7, c8, c9⟩ := h.q;refine ⟨?_, ?_, ?_, ?_, fun j hj => ?_, ?_, ?_, fun i => (xF _ _ W).trans (h.f i)⟩
 ·
  simp [pts, go_sem, a0]
 ·
  simp [pts, go_sem, a1]
 ·
  simp [pts, go_sem, a2]
 ·
  simp [pts, go_sem, a3]
 ·
  rcases lt8 hj with e | e | e | e | e | e | e | e <;> subst e <;> simp [pts, go_sem, c0, c1, c2, c3, c4, c5, c6, c7, Sl.v]
 ·
  simp [pts, go_sem, c8]
 simp [pts, go_sem, c9]
theorem BoxG.num3 {W : World} {b : Nat} {n r md z : Int} {s : Sl} {l g : Int} (h : BoxG W b n r md z s l g) (z' : Int) : BoxG (pts W b [(3, .int .i64 z')]) b n r md z' s l g := by
 have a3 := h.n3;have ne : ∀ i, i ≠ 3 → ∀ u, W.cell? ⟨b, i, none⟩ = some u → (pts W b [(3, .int .i64 z')]).cell? ⟨b, i, none⟩ = some u := fun i hi u hu => (World.cell?_setCell_other (h := fun e => hi (by injection e with _ e _; exact e.symm)) ..).trans hu
 exact ⟨ne 0 (by decide) _ h.n0, ne 1 (by decide) _ h.n1, ne 2 (by decide) _ h.n2, by simp [pts, go_sem, a3], fun j hj => ne (4 + j) (by omega) _ (h.c j hj), ne 12 (by decide) _ h.cl, ne 13 (by decide) _ h.cg, fun i => (xF _ _ W).trans (h.f i)⟩
theorem BoxG.num2 {W : World} {b : Nat} {n r md z : Int} {s : Sl} {l g : Int} (h : BoxG W b n r md z s l g) (md' : Int) : BoxG (pts W b [(2, .int .i64 md')]) b n r md' z s l g := by
 have a3 := h.n2;have ne : ∀ i, i ≠ 2 → ∀ u, W.cell? ⟨b, i, none⟩ = some u → (pts W b [(2, .int .i64 md')]).cell? ⟨b, i, none⟩ = some u := fun i hi u hu => (World.cell?_setCell_other (h := fun e => hi (by injection e with _ e _; exact e.symm)) ..).trans hu
 exact ⟨ne 0 (by decide) _ h.n0, ne 1 (by decide) _ h.n1, by simp [pts, go_sem, a3], ne 3 (by decide) _ h.n3, fun j hj => ne (4 + j) (by omega) _ (h.c j hj), ne 12 (by decide) _ h.cl, ne 13 (by decide) _ h.cg, fun i => (xF _ _ W).trans (h.f i)⟩
end Go.Proofs.YtcgfilmmokmdjaaGreat
