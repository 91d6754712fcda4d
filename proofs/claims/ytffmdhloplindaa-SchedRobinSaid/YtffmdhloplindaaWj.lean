/- Contracts: given, cut, made (they make schedules). -/
import Derived.Test.YtffmdhloplindaaWi
namespace Go.Proofs.Ytffmdhloplindaa
open Go.RowKit Go.Maps
theorem info37 : (Try.prog.info? 37).map (fun i => (i.zero, i.size, i.bytes)) = some (some (.agg #[.slice none 0 0, .int .i64 0]), 2, 32) := by kernel_rfl
theorem info55 : (Try.prog.info? 55).map (fun i => (i.zero, i.size, i.bytes)) = some (some (.agg #[.slice none 0 0, .int .i64 0]), 2, 32) := by kernel_rfl
theorem elem31 : ElemT Try.prog 31 37 2 32 := by
  obtain ⟨i, h1, h2, h3, h4⟩ := info_parts info37
  exact ⟨Try.underlying31, by decide, i, _, h1, h2, h3, h4, rfl⟩
theorem elem33 : ElemT Try.prog 33 55 2 32 := by
  obtain ⟨i, h1, h2, h3, h4⟩ := info_parts info55
  exact ⟨Try.underlying33, by decide, i, _, h1, h2, h3, h4, rfl⟩
/-- Entries of a list of pairs: what an owned row reads as. -/
theorem own_rde {w : World} {base : Nat} {e : TypeId} {v : Value} {n : Nat} {ps : List (Value × En)} (h : w.ownsRow base e 2 v n (ps.flatMap enCells)) (hr : ∀ p ∈ ps, RdI w p.1 p.2.run) : RdE w v (ps.map Prod.snd) :=
  ⟨ps, rfl, own_rds (fun _ _ => rfl) (by decide) h, hr⟩
theorem flat_snoc {ps : List (Value × En)} (p : Value × En) : (ps ++ [p]).flatMap enCells = ps.flatMap enCells ++ [p.1, .int .i64 p.2.pick] := by simp [enCells]
theorem rd_two (w : World) (u v : Value) (e : TypeId) (b : Nat) (hb : w.heap.size = b) : Rd (w.alloc (.cells #[u, v] e)) 2 (.slice (some ⟨b, 0, none⟩) 1 1) 1 [u, v] := hb ▸ Rd.new w 2 [u, v] e 1 rfl (by decide)
theorem all_snoc {w : World} {ps : List (Value × En)} {p : Value × En} (h : ∀ q ∈ ps, RdI w q.1 q.2.run) (hp : RdI w p.1 p.2.run) : ∀ q ∈ ps ++ [p], RdI w q.1 q.2.run := by
  intro q hq
  rcases List.mem_append.1 hq with hq | hq
  · exact h q hq
  · rw [List.mem_singleton] at hq; subst hq; exact hp
theorem take_snoc {es : List En} {k : Nat} (h : k < es.length) : es.take (k + 1) = es.take k ++ [enAt es k] := by
  rw [enAt_get h, List.take_succ_eq_append_getElem h]

set_option maxHeartbeats 2000000 in
theorem given_any (v : Value) (es : List En) (w : World) (h : RdE w v es) (ht : es.length ≤ 1000) :
    Calls Try.prog 13 #[v] w fun e w' => ∃ v', e = .returned v' ∧ RdE w' v' es ∧ Below w.heap.size w w' := by
  obtain ⟨a, cap, rfl, h1, h2, h3, h4⟩ := h.shape
  have HE := Lib.hid h
  have H4 := Lib.hid h4
  have HT := Lib.hid (show ∀ k, k < es.length → _ from fun k hk => take_snoc hk)
  have HL := Lib.hid (show es.take es.length = es from List.take_length)
  clear h h4
  generalize hn : es.length = n at *
  go_enter Try.func13, Try.ntmps13
  go_wp2_with fail
  go_loopw [3, 8] (fun v iv wr => ∃ k : Nat, ∃ ps : List (Value × En), iv = .int .i64 (k : Int) ∧ k ≤ n ∧ ps.map Prod.snd = es.take k ∧ ps.length = k ∧ wr.ownsRow w.heap.size 37 2 v k (ps.flatMap enCells) ∧ (∀ p ∈ ps, RdI w p.1 p.2.run) ∧ Below w.heap.size w wr) (fun _ iv _ => n - (intOf iv).toNat)
  case atStart => exact ⟨0, [], rfl, Nat.zero_le _, by simp, rfl, World.ownsRow_nil _ _ _ _, fun _ h => (by cases h), Below.refl _ _⟩
  case round =>
    obtain ⟨k, ps, rfl, hk, hps, hpl, hown, hall, hbel⟩ := hrel
    have Hps := Lib.hid hps
    have Hown := Lib.hid hown
    have Hall := Lib.hid hall
    have Hb := Lib.hid hbel
    have hB := hbel.size
    clear hps hown hall hbel
    by_cases hlt : k < n
    · obtain ⟨b, off, rfl, hc⟩ := H4.out (by omega)
      obtain ⟨a', cap', hc1, hc2, hrd⟩ := hc k hlt
      replace hc1 := Below.keeps Hb.out _ _ hc1
      replace hc2 := Below.keeps Hb.out _ _ hc2
      have Hrd := Lib.hid hrd
      have HTk := Lib.hid (HT.out k hlt)
      clear hrd hc
      generalize enAt es k = en at *
      generalize hrl : en.run.length = rl at *
      generalize hpk : en.pick = pk at *
      go_wp2_with (at_builtin; refine wpList_app rfl (.tmp 12) (.tmp 18) 31 rfl elem31 w.heap.size rfl ((Hown.out.alloc _).alloc _) rfl (rd_two _ _ _ _ _ (by simp)) (by intro u hu; simp at hu; rcases hu with rfl | rfl <;> rfl) (by unfold maxLen; omega) (by omega) (by simp; omega) ?_; intro v2 w2 hown2 hgr2 hv2; clear hv2)
      go_roundw
      case rel =>
        exact ⟨k + 1, ps ++ [(.slice a' rl cap', en)], by go_num, by omega, by rw [HTk.out, ← Hps.out]; simp, by simp; omega, by rw [flat_snoc, hpk]; exact hown2, all_snoc Hall.out Hrd.out, own_below ((Hb.out.alloc hB _).alloc (by simp; omega) _) ((Hown.out.alloc _).alloc _) (by simp; omega) hgr2⟩
      case measure => simp [intOf]; omega
    · obtain rfl : k = n := by omega
      go_wp2_with fail
      go_ret
      exact ⟨_, rfl, by have := own_rde Hown.out (fun p hp => (Hall.out p hp).below Hb.out); rwa [Hps.out, HL.out] at this, Hb.out⟩
end Go.Proofs.Ytffmdhloplindaa
