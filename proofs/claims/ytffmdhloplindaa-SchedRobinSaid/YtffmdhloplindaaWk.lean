/- The contract of cut. -/
import Derived.Test.YtffmdhloplindaaWj
namespace Go.Proofs.Ytffmdhloplindaa
open Go.RowKit Go.Maps

def cutEn (e : En) : En := ⟨e.run.take 10, e.pick⟩
def cutE (es : List En) : List En := (es.take 30).map cutEn
theorem cut_snoc {es : List En} {k : Nat} (h : k < es.length) : (es.take (k + 1)).map cutEn = (es.take k).map cutEn ++ [cutEn (enAt es k)] := by
  rw [take_snoc h, List.map_append]; rfl
theorem cut_short {e : En} (h : e.run.length ≤ 10) : cutEn e = e := by
  cases e with
  | mk r p => simp only [cutEn]; rw [List.take_of_length_le h]
theorem cut_tiny (es : List En) : Tiny (cutE es) := by
  refine ⟨by simp [cutE]; omega, fun j hj => ?_⟩
  have := enAt_mem hj
  obtain ⟨e, _, he⟩ := List.mem_map.1 this
  rw [← he]; simp [cutEn]; omega
theorem cut_wf {es : List En} (h : ∀ e ∈ es, ∀ x ∈ e.run, Wf x) : AllWf (cutE es) := by
  intro e he x hx
  obtain ⟨e', he', rfl⟩ := List.mem_map.1 he
  exact h e' (List.mem_of_mem_take he') x (List.mem_of_mem_take hx)

set_option maxHeartbeats 2000000 in
theorem cut_any (v : Value) (es : List En) (w : World) (h : RdE w v es) :
    Calls Try.prog 18 #[v] w fun e w' => ∃ v', e = .returned v' ∧ RdE w' v' (cutE es) ∧ Below w.heap.size w w' := by
  obtain ⟨a, cap, rfl, h1, h2, h3, h4⟩ := h.shape
  have H4 := Lib.hid h4
  have HT := Lib.hid (show ∀ k, k < es.length → _ from fun k hk => cut_snoc hk)
  have HL := Lib.hid (show ∀ k, k ≤ 30 → k ≤ es.length → ¬ (k < 30 ∧ k < es.length) → (es.take k).map cutEn = cutE es from fun k h1 h2 h3 => by
    unfold cutE
    congr 1
    rcases Nat.lt_or_ge es.length 30 with h | h
    · rw [List.take_of_length_le (by omega), List.take_of_length_le (by omega)]
    · rw [show k = 30 by omega])
  clear h h4
  unfold maxLen at h2
  generalize hn : es.length = n at *
  go_enter Try.func18, Try.ntmps18
  go_wp2_with fail
  go_loopw [3, 4] (fun v iv wr => ∃ k : Nat, ∃ ps : List (Value × En), iv = .int .i64 (k : Int) ∧ k ≤ n ∧ k ≤ 30 ∧ ps.map Prod.snd = (es.take k).map cutEn ∧ ps.length = k ∧ wr.ownsRow w.heap.size 55 2 v k (ps.flatMap enCells) ∧ (∀ p ∈ ps, RdI w p.1 p.2.run) ∧ Below w.heap.size w wr) (fun _ iv _ => 30 - (intOf iv).toNat)
  case atStart => exact ⟨0, [], rfl, Nat.zero_le _, by decide, by simp, rfl, World.ownsRow_nil _ _ _ _, fun _ h => (by cases h), Below.refl _ _⟩
  case round =>
    obtain ⟨k, ps, rfl, hk, hk30, hps, hpl, hown, hall, hbel⟩ := hrel
    have Hps := Lib.hid hps
    have Hown := Lib.hid hown
    have Hall := Lib.hid hall
    have Hb := Lib.hid hbel
    have hB := hbel.size
    clear hps hown hall hbel
    by_cases hlt : k < n
    · by_cases h30 : k < 30
      · obtain ⟨b, off, rfl, hc⟩ := H4.out (by omega)
        obtain ⟨a', cap', hc1, hc2, hrd⟩ := hc k hlt
        replace hc1 := Below.keeps Hb.out _ _ hc1
        replace hc2 := Below.keeps Hb.out _ _ hc2
        have HTk := Lib.hid (HT.out k hlt)
        clear hc
        generalize enAt es k = en at *
        obtain ⟨_, hb1, hb2⟩ := hrd.bounds
        by_cases hr : en.run.length ≤ 10
        · have Hrd := Lib.hid hrd
          have HS := Lib.hid (cut_short hr)
          clear hrd
          generalize hrl : en.run.length = rl at *
          generalize hpk : en.pick = pk at *
          go_wp2_with (at_builtin; refine wpList_app rfl (.tmp 28) (.tmp 30) 33 rfl elem33 w.heap.size rfl ((Hown.out.alloc _).alloc _) rfl (rd_two _ _ _ _ _ (by simp)) (by intro u hu; simp at hu; rcases hu with rfl | rfl <;> rfl) (by unfold maxLen; omega) (by omega) (by simp; omega) ?_; intro v2 w2 hown2 hgr2 hv2; clear hv2)
          go_roundw
          case rel => exact ⟨k + 1, ps ++ [(.slice a' rl cap', en)], by go_num, by omega, by omega, by rw [HTk.out, ← Hps.out, HS.out]; simp, by simp; omega, by rw [flat_snoc, hpk]; exact hown2, all_snoc Hall.out Hrd.out, own_below ((Hb.out.alloc hB _).alloc (by simp; omega) _) ((Hown.out.alloc _).alloc _) (by simp; omega) hgr2⟩
          case measure => simp [intOf]; omega
        · obtain ⟨b2, off2, rfl⟩ : ∃ b2 off2, a' = some ⟨b2, off2, none⟩ := by
            obtain ⟨a2, c2, e1, _, _, _, e2⟩ := hrd.shape 0
            obtain ⟨b2, off2, e3, _⟩ := e2 (by omega)
            cases e1
            exact ⟨b2, off2, e3⟩
          have Hrd := Lib.hid (hrd.take 10 (by omega))
          have hpk : (cutEn en).pick = en.pick := rfl
          have hrn : (cutEn en).run = en.run.take 10 := rfl
          clear hrd
          unfold maxLen at hb2
          generalize hrl : en.run.length = rl at *
          generalize en.pick = pk at *
          go_wp2_with (at_builtin; refine wpList_app rfl (.tmp 28) (.tmp 30) 33 rfl elem33 w.heap.size rfl ((Hown.out.alloc _).alloc _) rfl (rd_two _ _ _ _ _ (by simp)) (by intro u hu; simp at hu; rcases hu with rfl | rfl <;> rfl) (by unfold maxLen; omega) (by omega) (by simp; omega) ?_; intro v2 w2 hown2 hgr2 hv2; clear hv2)
          go_roundw
          case rel => exact ⟨k + 1, ps ++ [(.slice (some ⟨b2, off2, none⟩) 10 cap', cutEn en)], by go_num, by omega, by omega, by rw [HTk.out, ← Hps.out]; simp, by simp; omega, by rw [flat_snoc, hpk]; exact hown2, all_snoc Hall.out (by rw [hrn]; exact Hrd.out), own_below ((Hb.out.alloc hB _).alloc (by simp; omega) _) ((Hown.out.alloc _).alloc _) (by simp; omega) hgr2⟩
          case measure => simp [intOf]; omega
      · go_wp2_with fail
        go_ret
        exact ⟨_, rfl, by have := own_rde Hown.out (fun p hp => (Hall.out p hp).below Hb.out); rwa [Hps.out, HL.out k hk30 hk (by omega)] at this, Hb.out⟩
    · go_wp2_with fail
      go_ret
      exact ⟨_, rfl, by have := own_rde Hown.out (fun p hp => (Hall.out p hp).below Hb.out); rwa [Hps.out, HL.out k hk30 hk (by omega)] at this, Hb.out⟩
end Go.Proofs.Ytffmdhloplindaa
