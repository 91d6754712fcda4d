/- The walks over sched.Valid and the reference's Valid. -/
import Derived.Test.YtffmdhloplindaaWb
import Derived.Test.YtffmdhloplindaaPm
import Derived.Deep.RegionWith
namespace Go.Proofs.Ytffmdhloplindaa
open Go.RowKit

def enCells (p : Value × En) : List Value := [p.1, .int .i64 p.2.pick]
/-- v is a slice of entries that reads as es. -/
def RdE (w : World) (v : Value) (es : List En) : Prop :=
  ∃ ps : List (Value × En), ps.map Prod.snd = es ∧ RdS 2 enCells w v ps ∧ ∀ p ∈ ps, RdI w p.1 p.2.run
theorem RdE.mono {w w' : World} {v : Value} {es : List En} (h : RdE w v es) (hk : ∀ p u, w.cell? p = some u → w'.cell? p = some u) : RdE w' v es := by
  obtain ⟨ps, h1, h2, h3⟩ := h
  exact ⟨ps, h1, h2.mono hk, fun p hp => (h3 p hp).mono hk⟩
theorem RdE.below {w w' : World} {v : Value} {es : List En} (h : RdE w v es) (hb : Below w.heap.size w w') : RdE w' v es := h.mono (Below.keeps hb)
theorem RdE.shape {w : World} {v : Value} {es : List En} (h : RdE w v es) : ∃ a cap, v = .slice a es.length cap ∧ es.length ≤ cap ∧ cap ≤ maxLen ∧ (a = none → cap = 0) ∧
    (0 < es.length → ∃ b off, a = some ⟨b, off, none⟩ ∧ ∀ j, j < es.length → ∃ a' cap', w.cell? ⟨b, off + j * 2, none⟩ = some (.slice a' (enAt es j).run.length cap') ∧ w.cell? ⟨b, off + j * 2 + 1, none⟩ = some (.int .i64 (enAt es j).pick) ∧ RdI w (.slice a' (enAt es j).run.length cap') (enAt es j).run) := by
  obtain ⟨ps, h1, h2, h3⟩ := h
  obtain ⟨a, cap, e1, e2, e3, e4, e5⟩ := h2.shape (by decide) (default, default)
  have hl : ps.length = es.length := by rw [← h1, List.length_map]
  rw [hl] at e1 e2 e5
  refine ⟨a, cap, e1, e2, e3, e4, fun hp => ?_⟩
  obtain ⟨b, off, e, hc⟩ := e5 hp
  refine ⟨b, off, e, fun j hj => ?_⟩
  have hj' : j < ps.length := by omega
  have hx : ps.getD j (default, default) = ps[j] := by rw [List.getD_eq_getElem?_getD, List.getElem?_eq_getElem hj']; rfl
  have hy : enAt es j = ps[j].2 := by
    unfold enAt
    rw [List.getD_eq_getElem?_getD, ← h1, List.getElem?_map, List.getElem?_eq_getElem hj']; rfl
  have g1 := hc j hj 0 ps[j].1 (by rw [hx]; rfl)
  have g2 := hc j hj 1 (.int .i64 ps[j].2.pick) (by rw [hx]; rfl)
  rw [Nat.add_zero] at g1
  rw [← Nat.add_assoc] at g2
  rw [hy]
  have g3 := h3 _ (List.getElem_mem hj')
  obtain ⟨a', cap', e', _⟩ := RdL.shape g3 0
  rw [e'] at g1 g3
  exact ⟨a', cap', g1, g2, g3⟩

set_option maxHeartbeats 400000 in
theorem valid_any (v : Value) (es : List En) (w : World) (h : RdE w v es) (hs : Small es) :
    Calls Try.prog 17 #[v] w fun e w' => e = .returned (.bool (validB es)) ∧ Below w.heap.size w w' := by
  obtain ⟨a, cap, rfl, h1, h2, h3, h4⟩ := h.shape
  obtain ⟨s1, s2⟩ := hs
  have HT := Lib.hid (show ∀ k, k < es.length → _ from fun k => valid_snoc es k)
  have HF := Lib.hid (show ∀ k, k < es.length → enOk (enAt es k) = false → validB es = false from fun k => valid_false es k)
  have HE := Lib.hid (show validB (es.take es.length) = validB es by rw [List.take_length])
  generalize hn : es.length = n at *
  clear hn h
  go_enter Try.func17, Try.ntmps17
  go_wp2_with fail
  go_loopw [7] (fun i wr => ∃ k : Nat, i = .int .i64 (k : Int) ∧ k ≤ n ∧ validB (es.take k) = true ∧ Below w.heap.size w wr) (fun i _ => n - (intOf i).toNat)
  case atStart => exact ⟨0, rfl, Nat.zero_le _, rfl, Below.refl _ _⟩
  case round =>
    obtain ⟨k, rfl, hk, hv, hbel⟩ := hrel
    have Hb := Lib.hid hbel
    have Hv := Lib.hid hv
    clear hv
    by_cases hlt : k < n
    · obtain ⟨b, off, rfl, hc⟩ := h4 (by omega)
      obtain ⟨a', cap', c1, c2, c3⟩ := hc k hlt
      have d1 := Below.keeps hbel _ _ c1
      have d2 := Below.keeps hbel _ _ c2
      have hr := s2 k hlt
      have HT1 := Lib.hid (HT.out k hlt)
      have HF1 := Lib.hid (HF.out k hlt)
      rw [Hv.out, Bool.true_and] at HT1
      unfold enOk at HT1 HF1
      have Hr := Lib.hid (RdL.mono c3 (Below.keeps hbel))
      generalize enAt es k = x at *
      obtain ⟨run, pick⟩ := x
      have hB := hbel.size
      have hr2 : run.length ≤ 9223372036854775807 := Nat.le_trans hr (by decide)
      have HA := Lib.hid (asc_any _ run _ (RdL.alloc Hr.out (.cells #[.slice a' run.length cap', .int .i64 pick] 37)) hr2)
      have HC := Lib.hid (contains_any _ run pick _ (RdL.alloc Hr.out (.cells #[.slice a' run.length cap', .int .i64 pick] 37)) hr2)
      clear hc h4 c1 c2 c3 hbel Hr hr
      simp only [] at HT1 HF1
      cases h5 : Pl.ascB run with
      | false =>
        rw [h5] at HA HF1
        have Hf := Lib.hid (HF1.out rfl)
        clear h5 HT1 HF1
        go_wp2_with fail
        refine HA.out.mono ?_; rintro e w1 ⟨rfl, rfl⟩
        go_wp2_with fail
        go_ret
        exact ⟨ret_bool Hf.out.symm, Hb.out.alloc hB _⟩
      | true =>
        rw [h5] at HA HF1 HT1
        rw [Bool.true_and] at HF1 HT1
        cases h6 : run.contains pick with
        | false =>
          rw [h6] at HC HF1
          have Hf := Lib.hid (HF1.out rfl)
          clear h5 h6 HT1 HF1
          go_wp2_with fail
          refine HA.out.mono ?_; rintro e w1 ⟨rfl, rfl⟩
          go_wp2_with fail
          refine HC.out.mono ?_; rintro e w1 ⟨rfl, rfl⟩
          go_wp2_with fail
          go_ret
          exact ⟨ret_bool Hf.out.symm, Hb.out.alloc hB _⟩
        | true =>
          rw [h6] at HC HT1
          clear h5 h6 HF1
          go_wp2_with fail
          refine HA.out.mono ?_; rintro e w1 ⟨rfl, rfl⟩
          go_wp2_with fail
          refine HC.out.mono ?_; rintro e w1 ⟨rfl, rfl⟩
          go_wp2_with fail
          exact ⟨⟨k + 1, by go_num, by omega, HT1.out, Hb.out.alloc hB _⟩, by simp [intOf]; omega⟩
    · obtain rfl : k = n := by omega
      have Hf := Lib.hid (HE.out.symm.trans Hv.out)
      clear hbel
      go_wp2_with fail
      go_ret
      exact ⟨ret_bool Hf.out.symm, Hb.out⟩
theorem rdi_drewN {w : World} {v : Value} {l : List Int} (h : RdI w v l) (n : Nat) : RdI (w.drewN n) v l := RdL.below h (below_drewN (Below.refl _ _) n)
theorem drewN_more {w wr : World} (h : ∃ m, wr = w.drewN m) (n : Nat) : ∃ m, wr.drewN n = w.drewN m := by
  obtain ⟨m, rfl⟩ := h
  exact ⟨m + n, World.drewN_drewN _ _ _⟩
set_option maxHeartbeats 1000000 in
theorem rvalid_q (v : Value) (es : List En) (w : World) (h : RdE w v es) (hs : Small es) :
    Calls Try.prog 20 #[v] w fun e w' => e = .returned (.bool (validB es)) ∧ ∃ m, w' = w.drewN m := by
  obtain ⟨a, cap, rfl, h1, h2, h3, h4⟩ := h.shape
  obtain ⟨s1, s2⟩ := hs
  have HT := Lib.hid (show ∀ k, k < es.length → _ from fun k => valid_snoc es k)
  have HF := Lib.hid (show ∀ k, k < es.length → enOk (enAt es k) = false → validB es = false from fun k => valid_false es k)
  have HE := Lib.hid (show validB (es.take es.length) = validB es by rw [List.take_length])
  generalize hn : es.length = n at *
  clear hn h
  go_enter Try.func20, Try.ntmps20
  go_wp2_with fail
  go_loopw [3] (fun i wr => ∃ k : Nat, i = .int .i64 (k : Int) ∧ k ≤ n ∧ validB (es.take k) = true ∧ ∃ m, wr = w.drewN m) (fun i _ => n - (intOf i).toNat)
  case atStart => exact ⟨0, rfl, Nat.zero_le _, rfl, 0, rfl⟩
  case round =>
    obtain ⟨k, rfl, hk, hv, hwr⟩ := hrel
    have Hw := Lib.hid hwr
    have hkeep : ∀ p u, w.cell? p = some u → wr.cell? p = some u := by obtain ⟨m, rfl⟩ := hwr; exact fun p u h => h
    clear hwr
    have Hv := Lib.hid hv
    clear hv
    by_cases hlt : k < n
    · obtain ⟨b, off, rfl, hc⟩ := h4 (by omega)
      obtain ⟨a', cap', d1', d2', c3'⟩ := hc k hlt
      have d1 := hkeep _ _ d1'
      have d2 := hkeep _ _ d2'
      have c3 := RdL.mono c3' hkeep
      clear d1' d2' c3' hkeep
      have hr := s2 k hlt
      have HT1 := Lib.hid (HT.out k hlt)
      have HF1 := Lib.hid (HF.out k hlt)
      rw [Hv.out, Bool.true_and] at HT1
      unfold enOk at HT1 HF1
      generalize enAt es k = x at *
      obtain ⟨run, pick⟩ := x
      have hr2 : run.length ≤ 9223372036854775807 := Nat.le_trans hr (by decide)
      have HA := Lib.hid fun (q : Nat) => rasc_q (.slice a' run.length cap') run (wr.drewN q) (rdi_drewN c3 q) hr2
      have HC := Lib.hid fun (q : Nat) => (has_any (.slice a' run.length cap') run pick (wr.drewN q) (rdi_drewN c3 q) hr2).mono (R' := fun e w' => e = .returned (.bool (run.contains pick)) ∧ w' = wr.drewN q) fun _ _ ⟨h1, h2⟩ => ⟨h1, h2.symm⟩
      have i1 : (k : Int) < (n : Int) := by omega
      clear hc h4 c3 hr
      simp only [] at HT1 HF1
      cases h5 : Pl.ascB run with
      | false =>
        rw [h5] at HA HF1
        have Hf := Lib.hid (HF1.out rfl)
        clear h5 HT1 HF1
        go_wp2_with fail
        go_quiet ((go_at_call 25; exact Calls.quiet_of (HA.out _)))
        go_wp2_with fail
        go_ret
        exact ⟨ret_bool Hf.out.symm, drewN_more Hw.out nq⟩
      | true =>
        rw [h5] at HA HF1 HT1
        rw [Bool.true_and] at HF1 HT1
        cases h6 : run.contains pick with
        | false =>
          rw [h6] at HC HF1
          have Hf := Lib.hid (HF1.out rfl)
          clear h5 h6 HT1 HF1
          go_wp2_with fail
          go_quiet ((first | (go_at_call 25; exact Calls.quiet_of (HA.out _)) | (go_at_call 29; exact Calls.quiet_of_same (HC.out _))))
          go_wp2_with fail
          go_ret
          exact ⟨ret_bool Hf.out.symm, drewN_more Hw.out nq⟩
        | true =>
          rw [h6] at HC HT1
          clear h5 h6 HF1
          go_wp2_with fail
          go_quiet ((first | (go_at_call 25; exact Calls.quiet_of (HA.out _)) | (go_at_call 29; exact Calls.quiet_of_same (HC.out _))))
          go_wp2_with fail
          exact ⟨⟨k + 1, by go_num, by omega, HT1.out, drewN_more Hw.out nq⟩, by simp [intOf]; omega⟩
    · obtain rfl : k = n := by omega
      have Hf := Lib.hid (HE.out.symm.trans Hv.out)
      clear hkeep
      go_wp2_with fail
      go_ret
      exact ⟨ret_bool Hf.out.symm, Hw.out⟩
end Go.Proofs.Ytffmdhloplindaa
