/- total and write of the program: plain facts, the walk of total. -/
import Derived.Test.YtkabcpmnbjllcaaDoorZq
import Derived.Test.YtkabcpmnbjllcaaDoorKK
namespace Go.Proofs.YtkabcpmnbjllcaaDoor
open Go.RowKit

theorem szW_range : ∀ (ws : List Wr) (n : Int), 0 ≤ n → szW ws n = true → ∀ w ∈ ws, RangeW w := fun ws n h0 h w hw => by
  have h1 := szW_lite ws n h0 h w hw
  have h2 : okW w = true := by
    clear h1
    induction ws generalizing n with
    | nil => cases hw
    | cons x r ih =>
      simp only [szW, Bool.and_eq_true, decide_eq_true_eq] at h
      rcases List.mem_cons.1 hw with e | e
      · rw [e]; exact h.1.1
      · have h3 := (okW_iff x).1 h.1.1
        exact ih (grownW x n) (by unfold grownW; split <;> omega) h.2 e
  have h3 := (okW_iff w).1 h2
  exact ⟨by omega, h1.data⟩
theorem sized_range {f : Fil} (h : sizedF f = true) : ∀ w ∈ f.pend, RangeW w := szW_range _ _ (by omega) ((sizedF_iff f).1 h).2
/-- Files whose lengths can be taken and summed. -/
structure SumF (l : List Fil) : Prop where
  len : l.length ≤ 1000
  rng : ∀ f ∈ l, ∀ w ∈ f.pend, RangeW w
  low : ∀ f ∈ l, 0 ≤ lenF f
  high : ∀ f ∈ l, lenF f ≤ 8000000
theorem totL_snoc (l : List Fil) (f : Fil) (n : Int) : totL (l ++ [f]) n = totL l n + lenF f := by unfold totL; rw [List.foldl_append]; rfl
theorem totL_take (l : List Fil) (n : Int) (k : Nat) (h : k < l.length) : totL (l.take (k + 1)) n = totL (l.take k) n + lenF (atN l k) := by
  rw [List.take_add_one, atN_at h]; exact totL_snoc _ _ _
theorem totL_bounds (l : List Fil) (h : SumF l) : ∀ k, k ≤ l.length → 0 ≤ totL (l.take k) 0 ∧ totL (l.take k) 0 ≤ 8000000 * (k : Int)
  | 0, _ => ⟨Int.le_refl _, Int.le_refl _⟩
  | k + 1, hk => by
    have ih := totL_bounds l h k (by omega)
    have h1 := h.low _ (atN_mem (show k < l.length by omega))
    have h2 := h.high _ (atN_mem (show k < l.length by omega))
    rw [totL_take l 0 k (by omega)]
    omega
theorem totL_base : ∀ (l : List Fil) (n : Int), totL l n = n + totL l 0
  | [], n => by simp [totL]
  | f :: r, n => by
    show totL r (n + lenF f) = n + totL r (0 + lenF f)
    rw [totL_base r (n + lenF f), totL_base r (0 + lenF f)]; omega
theorem totL_set : ∀ (l : List Fil) (i : Nat) (f : Fil) (n : Int), i < l.length → totL (l.set i f) n = totL l n + (lenF f - lenF (atN l i))
  | [], _, _, _, h => by simp at h
  | x :: r, 0, f, n, _ => by
    show totL r (n + lenF f) = totL r (n + lenF x) + (lenF f - lenF x)
    rw [totL_base r (n + lenF f), totL_base r (n + lenF x)]; omega
  | x :: r, i + 1, f, n, h => by
    show totL (r.set i f) (n + lenF x) = totL r (n + lenF x) + (lenF f - lenF (atN r i))
    exact totL_set r i f _ (by simpa using h)
set_option maxHeartbeats 800000 in
theorem total_any (c lf : Int) (fv : Value) (l : List Fil) (w : World) (h : RdF w fv l) (hS : SumF l) :
    Calls Tryd.prog 88 #[diskVal c lf fv] w fun e w' => e = .returned (.int .i64 (totL l 0)) ∧ Below w.heap.size w w' := by
  obtain ⟨a, cap, rfl, h1, h2, _⟩ := h.shape
  have HR := Lib.hid h
  have HN := Lib.hid (fun k (hk : k < l.length) => totL_take l 0 k hk)
  have HB := Lib.hid (totL_bounds l hS)
  have HE := Lib.hid (show totL (l.take l.length) 0 = totL l 0 by rw [List.take_length])
  have HG := Lib.hid (fun k (hk : k < l.length) => hS.rng _ (atN_mem hk))
  have HL := Lib.hid (fun k (hk : k < l.length) => And.intro (hS.low _ (atN_mem hk)) (hS.high _ (atN_mem hk)))
  have hln := hS.len
  clear h hS
  generalize l.length = n at *
  generalize totL l 0 = R at *
  have HBx := Lib.hid (show Below w.heap.size w (w.alloc (.cells #[.int .i64 c, .int .i64 lf, .slice a n cap] 33)) from (Below.refl _ _).alloc (Nat.le_refl _) _)
  go_enter Tryd.func88, Tryd.ntmps88
  go_wp2_with fail
  go_loopw [3, 9] (fun sv iv W => ∃ k : Nat, k ≤ n ∧ iv = .int .i64 (k : Int) ∧ sv = .int .i64 (totL (l.take k) 0) ∧ Hid (Below w.heap.size w W)) (fun _ iv _ => n - (intOf iv).toNat)
  case atStart => exact ⟨0, Nat.zero_le _, rfl, rfl, HBx⟩
  case round =>
    obtain ⟨k, hk, rfl, rfl, HBw⟩ := hrel
    by_cases hlt : k < n
    · have i1 : (k : Int) < (n : Int) := by omega
      obtain ⟨b, off, bv, pv, rfl, hb, hp, c0, c1, c2⟩ := (HR.out.below HBw.out).at hlt
      have HLn := Lib.hid (fun W (hW : Below wr.heap.size wr W) => length_any (atN l k).name (atN l k).base (atN l k).pend bv pv W (hb.below hW) (hp.below hW) (HG.out k hlt))
      obtain ⟨ba, bc, rfl, _⟩ := hb.shape0
      obtain ⟨pa, pc, rfl, _⟩ := hp.shape
      have HNk := Lib.hid (HN.out k hlt)
      have hbn := HB.out k hk
      have hln := HL.out k hlt
      change Hid (∀ W, Below wr.heap.size wr W → Calls Tryd.prog 53 #[filVal (atN l k).name (.slice ba (atN l k).base.length bc) (.slice pa (atN l k).pend.length pc)] W fun e w' => e = .returned (.int .i64 (lenF (atN l k))) ∧ Below W.heap.size W w') at HLn
      clear hb hp
      generalize lenF (atN l k) = m at *
      generalize totL (l.take k) 0 = q at *
      obtain ⟨q1, q2⟩ := hbn
      obtain ⟨q3, q4⟩ := hln
      go_wp2_with fail
      refine (HLn.out _ ((Below.refl _ _).alloc (Nat.le_refl _) _)).mono ?_
      rintro e w1 ⟨rfl, hb1⟩
      have HB1 := Lib.hid (bstep (bstep HBw.out ((Below.refl _ _).alloc (Nat.le_refl _) _)) hb1)
      clear hb1
      go_wp2_with fail
      exact ⟨⟨k + 1, by omega, by go_num, by rw [HNk.out], HB1⟩, by simp [intOf]; omega⟩
    · have i1 : ¬ (k : Int) < (n : Int) := by omega
      obtain rfl : k = n := by omega
      go_wp2_with fail
      go_ret
      exact ⟨ret_int HE.out, HBw.out⟩
/-- A write to file i of a disk, its count of operations already taken. -/
def wroteD (d : Dk) (i : Nat) (w : Wr) : Dk × Int :=
  if 1048576 < w.off + (w.data.length : Int) then (dk0, 9) else if 0 < d.cap ∧ lenF (atN d.files i) < grownW w (lenF (atN d.files i)) ∧ d.cap < totD d + (grownW w (lenF (atN d.files i)) - lenF (atN d.files i)) then (dk0, 9)
  else (⟨d.cap, d.left, d.files.set i ⟨(atN d.files i).name, (atN d.files i).base, (atN d.files i).pend ++ [w]⟩⟩, 0)
theorem wroteD_next (d : Dk) (i : Nat) (w : Wr) : writtenD d i w = wroteD ⟨d.cap, nextL d.left, d.files⟩ i w := rfl
theorem OwnFs.at {W : World} {B n cap k i : Nat} {a : Option Addr} {es : List FE} {T : Nat → Nat} (h : OwnFs W B (.slice a n cap) es T k) (hi : i < es.length) (hn : n = es.length) : ∃ g, a = some ⟨g, 0, none⟩ ∧ B ≤ g ∧ g < W.heap.size ∧
    W.cell? ⟨g, i * 3, none⟩ = some (.string (strB (es.getD i fe0).1.name)) ∧ W.cell? ⟨g, i * 3 + 1, none⟩ = some (es.getD i fe0).2.1 ∧ W.cell? ⟨g, i * 3 + 2, none⟩ = some (es.getD i fe0).2.2 ∧ ∀ j, W.frozen? ⟨g, j, none⟩ = false := by
  subst hn
  obtain ⟨g, rfl, hB, hlt⟩ := own_some h.row (by omega)
  have hS : RdS 3 filC W _ es := own_rds (fun _ _ => rfl) (by decide) h.row
  obtain ⟨_, _, e, _, _, _, hc⟩ := hS.shape (by decide) fe0
  injection e with e1 e2 e3
  obtain ⟨b, off, e4, hc⟩ := hc (by omega)
  rw [← e1] at e4
  injection e4 with e4
  injection e4 with e5 e6
  subst e5 e6
  have c := hc i hi
  simp only [Nat.zero_add] at c
  exact ⟨g, rfl, hB, hlt, c 0 _ rfl, c 1 _ rfl, c 2 _ rfl, fun i => own_frozen h.row i⟩
/-- One file has changed, in its own blocks and in the row. -/
theorem OwnFs.changed {W W3 : World} {B g n cap i : Nat} {es : List FE} {T : Nat → Nat} (h : OwnFs W B (.slice (some ⟨g, 0, none⟩) n cap) es T es.length) (hi : i < es.length) (hn : n = es.length)
    (hk : ∀ b, T 0 ≤ b → b < T es.length → ¬ (T i ≤ b ∧ b < T (i + 1)) → b ≠ g → W3.heap[b]? = W.heap[b]?) {p : FE} (hrow : W3.ownsRow B 69 3 (.slice (some ⟨g, 0, none⟩) n cap) n ((es.set i p).flatMap filC))
    (hb : RdB W3 p.2.1 p.1.base) (hp : RdW W3 p.2.2 p.1.pend) : RdF W3 (.slice (some ⟨g, 0, none⟩) n cap) ((es.map (·.1)).set i p.1) := by
  have hlow := h.low g rfl
  have key : ∀ j, j < es.length → RdB W3 ((es.set i p).getD j fe0).2.1 ((es.set i p).getD j fe0).1.base ∧ RdW W3 ((es.set i p).getD j fe0).2.2 ((es.set i p).getD j fe0).1.pend := fun j hj => by
    rw [set_getD _ _ _ _ hi]
    by_cases e : j = i
    · rw [if_pos e]; exact ⟨hb, hp⟩
    · rw [if_neg e]
      refine (h.fil j hj).2 W3 fun b h1 h2 => hk b ?_ ?_ ?_ ?_
      · have := h.mono 0 j (by omega) (by omega); omega
      · have := h.mono (j + 1) es.length (by omega) (Nat.le_refl _)
        omega
      · rintro ⟨h3, h4⟩
        rcases Nat.lt_or_gt_of_ne e with e | e
        · have := h.mono (j + 1) i (by omega) (by omega); omega
        · have := h.mono (i + 1) j (by omega) (by omega); omega
      · have := h.mono 0 j (by omega) (by omega); omega
  refine ⟨es.set i p, List.map_set .., own_rds (fun _ _ => rfl) (by decide) hrow, fun q hq => ?_, fun q hq => ?_⟩
  all_goals
    obtain ⟨j, hj, rfl⟩ := List.getElem_of_mem hq
    have := key j (by simpa using hj)
    rw [List.getD_eq_getElem?_getD, List.getElem?_eq_getElem hj] at this
    first | exact this.1 | exact this.2
/-- From B on all stays but two boxes. -/
structure KeepX (b0 B : Nat) (W W' : World) : Prop where
  size : W.heap.size ≤ W'.heap.size
  same : ∀ b, B ≤ b → b < W.heap.size → b ≠ b0 → b ≠ b0 + 1 → W'.heap[b]? = W.heap[b]?
theorem KeepX.refl (b0 B : Nat) (W : World) : KeepX b0 B W W := ⟨Nat.le_refl _, fun _ _ _ _ _ => rfl⟩
theorem KeepX.trans {b0 B : Nat} {W W' W2 : World} (h : KeepX b0 B W W') (h' : KeepX b0 B W' W2) : KeepX b0 B W W2 := ⟨Nat.le_trans h.size h'.size, fun b h0 hb h1 h2 => (h'.same b h0 (Nat.lt_of_lt_of_le hb h.size) h1 h2).trans (h.same b h0 hb h1 h2)⟩
theorem KeepX.below {b0 B : Nat} {W W' : World} (h : Below W.heap.size W W') : KeepX b0 B W W' := ⟨h.size, fun b _ hb _ _ => h.block b hb⟩
theorem KeepX.set0 {b0 B : Nat} {W : World} (i : Nat) (u : Value) : KeepX b0 B W (W.setCell ⟨b0, i, none⟩ u) := ⟨by simp, fun b _ _ h1 _ => Below.heap_setCell W ⟨b0, i, none⟩ u b h1⟩
theorem KeepX.set1 {b0 B : Nat} {W : World} (i : Nat) (u : Value) : KeepX b0 B W (W.setCell ⟨b0 + 1, i, none⟩ u) := ⟨by simp, fun b _ _ _ h2 => Below.heap_setCell W ⟨b0 + 1, i, none⟩ u b h2⟩
theorem KeepX.all1 {b0 B : Nat} {W : World} (x y z : Value) : KeepX b0 B W (((W.setCell ⟨b0 + 1, 0, none⟩ x).setCell ⟨b0 + 1, 1, none⟩ y).setCell ⟨b0 + 1, 2, none⟩ z) := ((KeepX.set1 0 x).trans (KeepX.set1 1 y)).trans (KeepX.set1 2 z)
/-- From B on all stays. -/
structure KeepB (B : Nat) (W W' : World) : Prop where
  size : W.heap.size ≤ W'.heap.size
  same : ∀ b, B ≤ b → b < W.heap.size → W'.heap[b]? = W.heap[b]?
theorem KeepB.refl (B : Nat) (W : World) : KeepB B W W := ⟨Nat.le_refl _, fun _ _ _ => rfl⟩
theorem KeepB.trans {B : Nat} {W W' W2 : World} (h : KeepB B W W') (h' : KeepB B W' W2) : KeepB B W W2 := ⟨Nat.le_trans h.size h'.size, fun b h0 hb => (h'.same b h0 (Nat.lt_of_lt_of_le hb h.size)).trans (h.same b h0 hb)⟩
theorem KeepB.up {B B' : Nat} {W W' : World} (h : KeepB B W W') (hB : B ≤ B') : KeepB B' W W' := ⟨h.size, fun b h0 hb => h.same b (Nat.le_trans hB h0) hb⟩
theorem KeepB.below {B : Nat} {W W' : World} (h : Below W.heap.size W W') : KeepB B W W' := ⟨h.size, fun b _ hb => h.block b hb⟩
theorem KeepB.set {B b0 : Nat} {W : World} (hb : b0 < B) (i : Nat) (u : Value) : KeepB B W (W.setCell ⟨b0, i, none⟩ u) := ⟨by simp, fun b h0 _ => Below.heap_setCell W ⟨b0, i, none⟩ u b (by dsimp only; omega)⟩
theorem KeepB.all3 {B b0 : Nat} {W : World} (hb : b0 < B) (x y z : Value) : KeepB B W (((W.setCell ⟨b0, 0, none⟩ x).setCell ⟨b0, 1, none⟩ y).setCell ⟨b0, 2, none⟩ z) := ((KeepB.set hb 0 x).trans (KeepB.set hb 1 y)).trans (KeepB.set hb 2 z)
theorem KeepB.x {B b0 : Nat} {W W' : World} (h : KeepB B W W') : KeepX b0 B W W' := ⟨h.size, fun b h0 hb _ _ => h.same b h0 hb⟩
/-- The disk reads so, whatever becomes of what lies below B. -/
def StD (B : Nat) (W : World) (v : Value) (d : Dk) : Prop := ∀ W', KeepB B W W' → RdD W' v d
theorem StD.rd {B : Nat} {W : World} {v : Value} {d : Dk} (h : StD B W v d) : RdD W v d := h W (.refl _ _)
theorem StD.keep {B B' : Nat} {W W' : World} {v : Value} {d : Dk} (h : StD B W v d) (hk : KeepB B W W') (hB : B' ≤ B) : StD B' W' v d := fun _ h' => h _ (hk.trans (h'.up hB))
theorem stD_zero (B : Nat) (W : World) : StD B W (.agg #[.int .i64 0, .int .i64 0, .slice none 0 0]) dk0 := fun W' _ => ⟨_, rfl, RdF_nil W'⟩
/-- A block of disks. -/
def BlkD (W : World) (b : Nat) : Prop := ∃ cs fz, W.heap[b]? = some (.cells cs 33 fz)
theorem BlkD.ne {W : World} {b B : Nat} {e : TypeId} {sz n : Nat} {v : Value} {xs : List Value} (h : BlkD W b) (ho : W.ownsRow B e sz v n xs) (hne : e ≠ 33) : v.ownBlock ≠ some b := fun hv => by
  obtain ⟨cs, fz, h⟩ := h
  obtain ⟨c', fz', h2⟩ := Lib.ownsRow_kind ho b hv
  rw [h] at h2
  injection h2 with h2
  injection h2 with _ h3
  exact hne h3.symm
theorem BlkD.below {W W' : World} {b : Nat} (h : BlkD W b) (hb : Below W.heap.size W W') : BlkD W' b := by
  obtain ⟨cs, fz, h⟩ := h
  exact ⟨cs, fz, by rw [hb.block b (Array.getElem?_eq_some_iff.1 h).1]; exact h⟩
theorem KeepX.own {b0 B B1 : Nat} {W W' : World} {e : TypeId} {sz n : Nat} {v : Value} {xs : List Value} (hk : KeepX b0 B1 W W') (ho : W.ownsRow B e sz v n xs) (hB : B1 ≤ B) (h0 : BlkD W b0) (h1 : BlkD W (b0 + 1)) (hne : e ≠ 33) : W'.ownsRow B e sz v n xs := by
  have n0 := h0.ne ho hne
  have n1 := h1.ne ho hne
  refine ⟨ho.1, ?_⟩
  rcases ho.2 with h' | ⟨g, cap, cur, e1, h2, h3, h4⟩
  · exact .inl h'
  · refine .inr ⟨g, cap, cur, e1, h2, ?_, h4⟩
    rw [hk.same g (Nat.le_trans hB h2) (Array.getElem?_eq_some_iff.1 h3).1 (fun e => n0 (by rw [e1, e]; rfl)) (fun e => n1 (by rw [e1, e]; rfl))]
    exact h3
/-- The files read so, whatever becomes of the two boxes. -/
def StF (W : World) (b0 B : Nat) (fv : Value) (l : List Fil) : Prop := ∀ W', KeepX b0 B W W' → RdF W' fv l
theorem StF.rd {W : World} {b0 B : Nat} {fv : Value} {l : List Fil} (h : StF W b0 B fv l) : RdF W fv l := h W (.refl _ _ _)
theorem StF.keep {W W' : World} {b0 B : Nat} {fv : Value} {l : List Fil} (h : StF W b0 B fv l) (hk : KeepX b0 B W W') : StF W' b0 B fv l := fun _ h' => h _ (hk.trans h')
theorem kept_ne {W w4 : World} {B B' : Nat} {e e' : TypeId} {sz sz' n n' : Nat} {v v' : Value} {xs xs' : List Value} (h : W.ownsRow B e sz v n xs) (h' : W.ownsRow B' e' sz' v' n' xs') (hne : e ≠ e') (hg : W.grownBy w4 v'.ownBlock) : w4.ownsRow B e sz v n xs := h.kept hg (own_ne h h' hne)
theorem set_kept {W : World} {B B' g i : Nat} {e e' : TypeId} {sz sz' n n' cap : Nat} {v : Value} {xs xs' : List Value} (h : W.ownsRow B e sz v n xs) (h' : W.ownsRow B' e' sz' (.slice (some ⟨g, 0, none⟩) n' cap) n' xs') (hne : e ≠ e') (u : Value) : (W.setCell ⟨g, i, none⟩ u).ownsRow B e sz v n xs :=
  own_set_ne (p := ⟨g, i, none⟩) h (by
    rcases own_ne h h' hne with e | e
    · rw [e]; simp
    · exact e) u
/-- A write has been put behind the others of file i. -/
theorem OwnFs.wrote {W w4 : World} {B B5 g n cap i b0 m : Nat} {es : List FE} {T : Nat → Nat} (h : OwnFs W B (.slice (some ⟨g, 0, none⟩) n cap) es T es.length) (hi : i < es.length) (hn : n = es.length) (hT : T es.length ≤ b0 ∨ b0 + 2 ≤ B)
    (hd0 : BlkD W b0) (hd1 : BlkD W (b0 + 1)) {ws : List (Wr × Value)} (hws : OwnWs W (T i) (es.getD i fe0).2.2 ws) (hfst : ws.map (·.1) = (es.getD i fe0).1.pend) {x : Wr} {dv v4 : Value} (hdv : OwnU W B5 dv x.data) (hB5 : B ≤ B5)
    (hm : m = ws.length + 1) (hown : w4.ownsRow (T i) 95 3 v4 m (ws.flatMap wrC ++ wrC (x, dv))) (hgr : W.grownBy w4 (es.getD i fe0).2.2.ownBlock) :
    StF (w4.setCell ⟨g, i * 3 + 2, none⟩ v4) b0 B (.slice (some ⟨g, 0, none⟩) n cap) ((es.map (·.1)).set i ⟨(es.getD i fe0).1.name, (es.getD i fe0).1.base, (es.getD i fe0).1.pend ++ [x]⟩) ∧ BlkD (w4.setCell ⟨g, i * 3 + 2, none⟩ v4) b0 ∧ BlkD (w4.setCell ⟨g, i * 3 + 2, none⟩ v4) (b0 + 1) := by
  subst hn hm
  have hF4 := kept_ne h.row hws.row (by decide) hgr
  have hlow := h.low g rfl
  have hT0 := h.mono 0 es.length (Nat.zero_le _) (Nat.le_refl _)
  have hgB := (h.row.lt g rfl).1
  have hBT := h.base
  have blk : ∀ b, BlkD W b → b ≠ g → BlkD (w4.setCell ⟨g, i * 3 + 2, none⟩ v4) b := fun b hb hbg => by
    have hne := hb.ne hws.row (by decide)
    obtain ⟨cs, fz, hb⟩ := hb
    refine ⟨cs, fz, ?_⟩
    rw [Below.heap_setCell w4 ⟨g, i * 3 + 2, none⟩ v4 b hbg, hgr.block b (Array.getElem?_eq_some_iff.1 hb).1 (fun e => hne e.symm)]
    exact hb
  have b0' := blk b0 hd0 (by omega)
  have b1' := blk (b0 + 1) hd1 (by omega)
  refine ⟨fun W' hk => ?_, b0', b1'⟩
  have hTB : B ≤ T i := by have := h.base; have := h.mono 0 i (by omega) (by omega); omega
  have ku : ∀ {u : Value} {l : List UInt8} {B6 : Nat}, OwnU W B6 u l → B ≤ B6 → RdB W' u l := fun {u l B6} hu hB6 => by
    have a1 : OwnU w4 B6 u l := kept_ne hu hws.row (by decide) hgr
    have a2 : OwnU (w4.setCell ⟨g, i * 3 + 2, none⟩ v4) B6 u l := set_kept a1 hF4 (by decide) v4
    exact OwnU.rd (hk.own a2 hB6 b0' b1' (by decide))
  have hp := hk.own (set_kept hown hF4 (by decide) (i := i * 3 + 2) v4) hTB b0' b1' (by decide)
  have hr := hk.own (hF4.stored (i * 3 + 2) v4).1 (Nat.le_refl _) b0' b1' (by decide)
  rw [flat_set3 filC (fun _ => rfl) es i 2 v4 (⟨(es.getD i fe0).1.name, (es.getD i fe0).1.base, (es.getD i fe0).1.pend ++ [x]⟩, (es.getD i fe0).2.1, v4) hi (by decide) (fun y hy => by rw [List.getD_eq_getElem?_getD, hy]; rfl)] at hr
  refine h.changed hi rfl (fun b hb0 hb h1 h2 => ?_) (p := (⟨(es.getD i fe0).1.name, (es.getD i fe0).1.base, (es.getD i fe0).1.pend ++ [x]⟩, (es.getD i fe0).2.1, v4)) hr (ku (h.fil i hi).1.base hTB) ?_
  · have htop := h.top
    have hlt : b < W.heap.size := by omega
    have hsz : (w4.setCell ⟨g, i * 3 + 2, none⟩ v4).heap.size = w4.heap.size := by simp
    rw [hk.same b (by have := h.base; omega) (by rw [hsz]; have := hgr.size; omega) (by omega) (by omega), Below.heap_setCell w4 ⟨g, i * 3 + 2, none⟩ v4 b h2, hgr.block b hlt ?_]
    intro e
    have hc := (h.cap i hi).2 b e.symm
    have hl := (hws.row.lt b e.symm).1
    exact h1 ⟨hl, hc⟩
  · have hp2 : W'.ownsRow (T i) 95 3 v4 (ws.length + 1) ((ws ++ [(x, dv)]).flatMap wrC) := by
      rw [List.flatMap_append]
      simpa using hp
    refine ⟨ws ++ [(x, dv)], by rw [List.map_append, hfst]; rfl, own_rds (fun _ _ => rfl) (by decide) hp2, fun q hq => ?_⟩
    · rcases List.mem_append.1 hq with hq | hq
      · exact ku (hws.dat q hq) hTB
      · rw [List.mem_singleton.1 hq]; exact ku hdv hB5
end Go.Proofs.YtkabcpmnbjllcaaDoor
