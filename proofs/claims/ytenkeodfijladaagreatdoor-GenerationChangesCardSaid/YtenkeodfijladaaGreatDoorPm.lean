/- Merging, in plain Lean: what a key of a merged list has. No program here. -/
import Derived.Test.YtenkeodfijladaaGreatDoorPz
import Derived.Test.YtenkeodfijladaaGreatDoorDf
import Derived.Test.YtenkeodfijladaaGreatDoorMk
namespace Go.Proofs.YtenkeodfijladaaGreatDoor

theorem kept_asc {s : List It} (gone : List Int) (h : Asc s) : Asc (kept gone s) :=
  (ascR_iff _).1 (pw_ascR (List.Pairwise.filter _ (ascR_pw ((ascR_iff _).2 h))))
theorem fnd_kept (gone : List Int) (k : Int) : ∀ s : List It, fnd (kept gone s) k = if gone.contains k then none else fnd s k
  | [] => by simp [kept, fnd]
  | x :: s => by
    have ih := fnd_kept gone k s
    unfold kept at ih ⊢
    rw [List.filter_cons]
    by_cases hx : x.key = k
    · cases hg : gone.contains k with
      | true => rw [hg] at ih; rw [if_neg (by rw [hx, hg]; simp), ih]; simp
      | false => rw [if_pos (by rw [hx, hg]; rfl), fnd_cons, fnd_cons, if_pos hx, if_pos hx]; simp
    · split
      · rw [fnd_cons, if_neg hx, ih, fnd_cons, if_neg hx]
      · rw [ih, fnd_cons, if_neg hx]
theorem srt_append (u v : List It) : srt (u ++ v) = v.foldl ins (srt u) := by unfold srt; rw [List.foldl_append]
/-- A key of the merged list. -/
theorem fnd_mrg (old fresh : List It) (gone : List Int) (k : Int) : fnd (mrg old fresh gone) k = match fnd (srt fresh) k with | some x => some x | none => if gone.contains k then none else fnd (srt old) k := by
  unfold mrg
  rw [srt_append, fnd_foldl, ← fnd_srt (srt fresh) k, srt_of_asc (srt_asc fresh), srt_of_asc (kept_asc gone (srt_asc old)), fnd_kept]
  cases fnd (srt fresh) k <;> rfl
theorem mrg_asc (old fresh : List It) (gone : List Int) : Asc (mrg old fresh gone) := srt_asc _
theorem mrg_valid {old fresh : List It} (gone : List Int) (h1 : vldB old = true) (h2 : vldB fresh = true) : vldB (mrg old fresh gone) = true := by
  rw [vldB_iff] at h1 h2 ⊢
  refine ⟨srt_asc _, srt_all fun x hx => ?_⟩
  rcases List.mem_append.1 hx with hx | hx
  · exact srt_all h1.2 x (List.mem_filter.1 hx).1
  · exact srt_all h2.2 x hx
theorem mrg_length (old fresh : List It) (gone : List Int) : (mrg old fresh gone).length ≤ old.length + fresh.length := by
  unfold mrg
  have := srt_length (kept gone (srt old) ++ srt fresh)
  rw [List.length_append] at this
  have := kept_length gone (srt old)
  have := srt_length old
  have := srt_length fresh
  omega
theorem mrg_nil (l : List It) : mrg [] l [] = srt l := by
  unfold mrg
  rw [srt_nil]
  show srt ([] ++ srt l) = _
  rw [List.nil_append, srt_of_asc (srt_asc l)]
end Go.Proofs.YtenkeodfijladaaGreatDoor
