/- The walk over awake; the statement SchedPicks. -/
import Derived.Test.YtffmdhloplindaaWf
namespace Go.Proofs.Ytffmdhloplindaa
open Go.RowKit Go.Maps

theorem rdi_new (w : World) (l : List Int) (e : TypeId) (hm : l.length ≤ maxLen) : RdI (w.alloc (.cells (l.map intV).toArray e)) (.slice (some ⟨w.heap.size, 0, none⟩) l.length l.length) l := by
  have := Rd.new w 1 (l.map intV) e l.length (by simp) hm
  exact this
theorem rde_nil (w : World) : RdE w (.slice none 0 0) [] := ⟨[], rfl, RdS.nil 2 enCells w, fun p hp => by cases hp⟩
theorem pick_b (v : Value) (l : List Int) (n : Int) (w : World) (h : RdI w v l) (hm : l.length ≤ 4611686018427387903) (hn : n ≤ 9223372036854775807) :
    Calls Try.prog 8 #[v, .int .i64 n] w fun e w' => e = .returned (.tuple #[.int .i64 (pickV l n), .int .i64 (pickE l n)]) ∧ Below w.heap.size w w' :=
  (pick_any v l n w h hm hn).mono fun _ _ ⟨h1, h2⟩ => ⟨h1, h2 ▸ Below.refl _ _⟩
theorem next_b (v : Value) (l : List Int) (n : Int) (w : World) (h : RdI w v l) (hm : l.length ≤ 4611686018427387903) :
    Calls Try.prog 10 #[v, .int .i64 n] w fun e w' => e = .returned (.tuple #[.int .i64 (nextW l n), .int .i64 (nextE l)]) ∧ Below w.heap.size w w' :=
  (next_any v l n w h hm).mono fun _ _ ⟨h1, h2⟩ => ⟨h1, h2 ▸ Below.refl _ _⟩
theorem abc_asc : Pl.ascB [2, 5, 9] = true := by decide
set_option maxHeartbeats 400000 in
theorem awake_any (w : World) : Calls Try.prog 12 #[] w fun e w' => e = .returned (.bool true) ∧ Below w.heap.size w w' := by
  have P := pick_yes (l := [2, 5, 9]) (n := 4) ⟨by decide, abc_asc, by decide⟩
  have N := next_yes (l := [2, 5, 9]) (n := 9) ⟨by decide, abc_asc⟩
  have p1 : pickV [2, 5, 9] 4 = 5 := by rw [P.1]; rfl
  have n1 : nextW [2, 5, 9] 9 = 2 := by rw [N.1]; rfl
  have H1 := Lib.hid fun w => pick_b _ [2, 5, 9] 4 _ (rdi_new w [2, 5, 9] 3 (by decide)) (by decide) (by decide)
  have H2 := Lib.hid fun w => next_b _ [2, 5, 9] 9 _ (rdi_new w [2, 5, 9] 3 (by decide)) (by decide)
  have H3 := Lib.hid fun w => worst_any _ [] w (rde_nil w) ⟨by decide, fun j hj => absurd hj (by simp)⟩ (fun e he => by cases he)
  have hw : worstV [] = 1 := by unfold worstV; rw [if_pos (by rfl)]; rfl
  rw [p1, P.2] at H1
  rw [n1, N.2] at H2
  rw [hw] at H3
  clear P N p1 n1 hw
  go_enter Try.func12, Try.ntmps12
  go_wp2_with fail
  refine (H1.out w).mono ?_; rintro e w1 ⟨rfl, hb1⟩
  have Hb1 := Lib.hid (bup ((Below.refl _ _).alloc (Nat.le_refl _) _) (by simp) hb1)
  clear hb1
  go_wp2_with fail
  refine (H2.out w1).mono ?_; rintro e w2 ⟨rfl, hb2⟩
  have Hb2 := Lib.hid (bup ((Below.refl _ _).alloc (Nat.le_refl _) _) (by simp) hb2)
  clear hb2
  go_wp2_with fail
  refine (H3.out w2).mono ?_; rintro e w3 ⟨rfl, hb3⟩
  go_wp2_with fail
  go_ret
  exact ⟨rfl, bstep (bstep Hb1.out Hb2.out) hb3⟩
end Go.Proofs.Ytffmdhloplindaa
