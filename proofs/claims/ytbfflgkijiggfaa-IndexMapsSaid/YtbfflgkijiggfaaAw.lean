/- The walk over the law's awake. -/
import Derived.Test.YtbfflgkijiggfaaDf
import Derived.Test.YtbfflgkijiggfaaEn
namespace Go.Proofs.Ytbfflgkijiggfaa
open Go.RowKit

theorem asc_nil : Asc [] := fun j hj => by simp at hj
theorem asc_one (x : It) : Asc [x] := fun j hj => by simp at hj
theorem rdT_one (w : World) (x : It) : RdT (w.alloc (.cells #[.int .u64 x.key, .int .u32 x.ck, .int .i64 x.off, .int .i64 x.size] 36)) (.slice (some ⟨w.heap.size, 0, none⟩) 1 1) [x] :=
  rd_rdT (by rw [itsC_one]; exact Rd.new w 4 (itC x) 36 1 rfl (by decide))
theorem rdU_one (w : World) (x : Int) : RdU (w.alloc (.cells #[.int .u64 x] 32)) (.slice (some ⟨w.heap.size, 0, none⟩) 1 1) [x] := Rd.new w 1 [.int .u64 x] 32 1 rfl (by decide)
theorem kept_demo : kept [1] (srt [⟨1, 0, 0, 0⟩]) ++ srt [⟨2, 0, 0, 0⟩] = [⟨2, 0, 0, 0⟩] := by decide
theorem mrg_demo : mrg [⟨1, 0, 0, 0⟩] [⟨2, 0, 0, 0⟩] [1] = [⟨2, 0, 0, 0⟩] := by decide
set_option maxHeartbeats 1000000 in
theorem awake_any (w : World) : Calls Try.prog 15 #[] w fun e w' => e = .returned (.bool true) ∧ Below w.heap.size w w' := by
  have HE := Lib.hid (enc_any (.slice none 0 0) [] w (RdS.nil 4 itC w) (fun _ h => by cases h) (by decide) rfl)
  have HF := Lib.hid (fun w => find_any (.slice none 0 0) [] 1 w (RdS.nil 4 itC w) (sorted_asc [] asc_nil (by decide)) (by decide))
  have HM := Lib.hid (fun vo vf vg w ho hf hg => merge_any vo vf vg [⟨1, 0, 0, 0⟩] [⟨2, 0, 0, 0⟩] [1] w ho hf hg (sorted_asc _ (asc_one _) (by decide)) (sorted_asc _ (asc_one _) (by decide)) (by rw [kept_demo]; exact sorted_asc _ (asc_one _) (by decide)) (by decide) (by decide))
  rw [mrg_demo] at HM
  rw [show encB [] = [] from rfl] at HE
  go_enter Try.func15, Try.ntmps15
  go_wp2_with fail
  refine HE.out.mono ?_; rintro e w1 ⟨v1, rfl, hown1, hb1⟩
  have HB1 := Lib.hid hb1
  obtain ⟨a1, c1, rfl⟩ := OwnB.len hown1
  clear hown1 hb1
  go_wp2_with fail
  refine (HF.out _).mono ?_; rintro e w2 ⟨rfl, hb2⟩
  have HB2 := Lib.hid (bstep HB1.out hb2)
  clear hb2
  rw [show ((fnd (srt []) 1).getD it0) = it0 from rfl, show (fnd (srt []) 1).isSome = false from rfl]
  go_wp2_with fail
  have b3 := (Below.refl w2.heap.size w2).alloc (Nat.le_refl _) (.cells #[.int .u64 it0.key, .int .u32 it0.ck, .int .i64 it0.off, .int .i64 it0.size] 36)
  obtain ⟨W3, hW3⟩ : ∃ W3, W3 = w2.alloc (.cells #[.int .u64 it0.key, .int .u32 it0.ck, .int .i64 it0.off, .int .i64 it0.size] 36) := ⟨_, rfl⟩
  rw [← hW3] at b3 ⊢
  have s3 : W3.heap.size = w2.heap.size + 1 := by rw [hW3]; simp
  rw [← s3]
  have r4 := rdT_one W3 ⟨1, 0, 0, 0⟩
  have b4 := (Below.refl W3.heap.size W3).alloc (Nat.le_refl _) (.cells #[.int .u64 1, .int .u32 0, .int .i64 0, .int .i64 0] 36)
  obtain ⟨W4, hW4⟩ : ∃ W4, W4 = W3.alloc (.cells #[.int .u64 1, .int .u32 0, .int .i64 0, .int .i64 0] 36) := ⟨_, rfl⟩
  rw [← hW4] at b4 r4 ⊢
  have s4 : W4.heap.size = W3.heap.size + 1 := by rw [hW4]; simp
  rw [← s4]
  have r5 := rdT_one W4 ⟨2, 0, 0, 0⟩
  have b5 := (Below.refl W4.heap.size W4).alloc (Nat.le_refl _) (.cells #[.int .u64 2, .int .u32 0, .int .i64 0, .int .i64 0] 36)
  obtain ⟨W5, hW5⟩ : ∃ W5, W5 = W4.alloc (.cells #[.int .u64 2, .int .u32 0, .int .i64 0, .int .i64 0] 36) := ⟨_, rfl⟩
  rw [← hW5] at b5 r5 ⊢
  have s5 : W5.heap.size = W4.heap.size + 1 := by rw [hW5]; simp
  rw [← s5]
  have r6 := rdU_one W5 1
  have b6 := (Below.refl W5.heap.size W5).alloc (Nat.le_refl _) (.cells #[.int .u64 1] 32)
  have HM2 := Lib.hid (HM.out _ _ _ _ ((r4.below b5).below b6) (r5.below b6) r6)
  have HB6 := Lib.hid (bstep (bstep (bstep (bstep HB2.out b3) b4) b5) b6)
  clear hW3 hW4 hW5 b3 b4 b5 b6 r4 r5 r6 s3 s4 s5
  refine HM2.out.mono ?_; rintro e w7 ⟨v7, rfl, hown7, hb7⟩
  have HB7 := Lib.hid (bstep HB6.out hb7)
  obtain ⟨a7, c7, rfl, _, _⟩ := hown7.rd.shape
  obtain ⟨b7, o7, rfl, d0, _⟩ := hown7.rd.at (show 0 < 1 by omega)
  have d0' : w7.cell? ⟨b7, o7, none⟩ = some (.int .u64 2) := by
    rw [show (iat [(⟨2, 0, 0, 0⟩ : It)] 0).key = 2 from rfl, Nat.zero_mul, Nat.add_zero] at d0
    exact d0
  clear d0 hown7 hb7
  go_wp2_with fail
  go_ret
  exact ⟨rfl, HB7.out⟩
end Go.Proofs.Ytbfflgkijiggfaa
