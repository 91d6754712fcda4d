/- index.Put and index.Drop: the walks. -/
import Derived.Test.YtndhjfmdfcpceaaDl
import Derived.Test.YtndhjfmdfcpceaaPf
namespace Go.Proofs.Ytndhjfmdfcpceaa
open Go.RowKit

set_option maxHeartbeats 1000000 in
theorem put_any (v : Value) (l : List It) (x : It) (w : World) (h : RdT w v l) (hk : SortedOk l) (hs : l.length ≤ 100000) :
    Calls Try.prog 45 #[v, itV x] w fun e w' => ∃ v', e = .returned v' ∧ OwnT w' w.heap.size v' (ins (srt l) x) ∧ Below w.heap.size w w' := by
  have HS := Lib.hid (fun w h => hk v w h)
  have hlen := srt_length l
  have HA := Lib.hid (srt_asc l)
  have HF := Lib.hid (fun v w h => search_any v (srt l) x.key w h (by omega))
  have HIn := Lib.hid (fun v i hb B w h1 h2 h3 => ins_any v (srt l) i x hb B w h1 h2 h3 (by omega))
  have HPl := Lib.hid (fun r (h : Place (srt l) x.key r) => ins_at h (srt_asc l))
  have Hr := Lib.hid h
  obtain ⟨a, cap, rfl, _, _⟩ := h.shape
  generalize srt l = s at *
  generalize ins s x = res at *
  obtain ⟨W0, hW0⟩ : ∃ W0, W0 = w.alloc (.cells #[.int .u64 x.key, .int .u32 x.ck, .int .i64 x.off, .int .i64 x.size] 29) := ⟨_, rfl⟩
  have hb0 : Below w.heap.size w W0 := by rw [hW0]; exact (Below.refl _ _).alloc (Nat.le_refl _) _
  have HB0 := Lib.hid hb0
  have d0 : W0.cell? ⟨w.heap.size, 0, none⟩ = some (.int .u64 x.key) := by rw [hW0]; simp
  have d1 : W0.cell? ⟨w.heap.size, 1, none⟩ = some (.int .u32 x.ck) := by rw [hW0]; simp
  have d2 : W0.cell? ⟨w.heap.size, 2, none⟩ = some (.int .i64 x.off) := by rw [hW0]; simp
  have d3 : W0.cell? ⟨w.heap.size, 3, none⟩ = some (.int .i64 x.size) := by rw [hW0]; simp
  have HW0 := Lib.hid hW0
  have hs0 : w.heap.size ≤ W0.heap.size := hb0.size
  clear h hk hW0 hb0
  go_enter Try.func45, Try.ntmps45
  go_wp2_with fail
  rw [← HW0.out]
  refine (HS.out _ (Hr.out.below HB0.out)).mono ?_; rintro e w1 ⟨v1, rfl, hown1, hb1⟩
  have HO := Lib.hid hown1
  have HB := Lib.hid hb1
  have e0 := Below.keeps hb1 _ _ d0
  have e1 := Below.keeps hb1 _ _ d1
  have e2 := Below.keeps hb1 _ _ d2
  have e3 := Below.keeps hb1 _ _ d3
  clear hown1 hb1 d0 d1 d2 d3
  go_wp2_with fail
  refine (HF.out _ _ HO.out.rd).mono ?_; rintro e w2 ⟨⟨r, hp, rfl⟩, hb2⟩
  have HB2 := Lib.hid (HB.out.trans (hb2.mono HB.out.size))
  have HO2 := Lib.hid (own_keep HO.out hb2)
  have HP := Lib.hid hp
  have d0 := Below.keeps hb2 _ _ e0
  have d1 := Below.keeps hb2 _ _ e1
  have d2 := Below.keeps hb2 _ _ e2
  have d3 := Below.keeps hb2 _ _ e3
  clear hb2 hp e0 e1 e2 e3
  have HPr := Lib.hid (HPl.out r HP.out)
  obtain ⟨oa, oc, rfl, ho1, ho2, ho3⟩ := own_form HO2.out
  have hs2 : W0.heap.size ≤ w2.heap.size := HB2.out.size
  by_cases hy : r < s.length ∧ (iat s r).key = x.key
  · have HR := Lib.hid (HPr.out.trans (if_pos hy))
    rw [decide_eq_true hy]
    have hrl := hy.1
    obtain ⟨g, rfl⟩ : ∃ g, oa = some ⟨g, 0, none⟩ := by
      rcases HO2.out.2 with ⟨e, h0⟩ | ⟨g, _, _, e, _⟩
      · omega
      · injection e with e; exact ⟨g, e⟩
    have hgB := (HO2.out.lt g rfl).1
    obtain ⟨_, _, e, c0, c1, c2, c3⟩ := (rd_rdT (own_rd HO2.out)).at hrl
    injection e with e; injection e with e1 e2; subst e1 e2
    simp only [Nat.zero_add] at c0 c1 c2 c3
    have f0 := HO2.out.frozenAt (r * 4)
    have f1 := HO2.out.frozenAt (r * 4 + 1)
    have f2 := HO2.out.frozenAt (r * 4 + 2)
    have f3 := HO2.out.frozenAt (r * 4 + 3)
    have HSt := Lib.hid (own_set4 HO2.out r hrl x)
    clear hy
    generalize iat s r = y at *
    generalize hn : s.length = n at *
    go_wp2_with fail
    go_ret
    refine ⟨_, rfl, ?_, HB0.out.trans (((((HB2.out.setCell hgB _).setCell hgB _).setCell hgB _).setCell hgB _).mono hs0)⟩
    rw [HR.out]
    exact (ownT_of HSt.out rfl).mono hs0
  · have HR := Lib.hid (HPr.out.trans (if_neg hy))
    rw [decide_eq_false hy]
    clear hy
    have hne : ∀ k, (Value.slice oa s.length oc).ownBlock = some k → k ≠ w2.heap.size := fun k hk => by have := (HO2.out.lt k hk).2; omega
    have HC := Lib.hid (HIn.out (.slice oa s.length oc) r w2.heap.size W0.heap.size (w2.alloc (.cells (itC x).toArray 29)) (HO2.out.alloc _) (by simp; omega) HP.out.1 (heap_alloc_new w2 _) hne)
    have HBA := Lib.hid (HB2.out.alloc hs2 (.cells (itC x).toArray 29))
    clear hne
    go_wp2_with fail
    refine HC.out.mono ?_; rintro e w3 ⟨v3, rfl, hown3, hb3⟩
    have HO3 := Lib.hid hown3
    have HB3 := Lib.hid (HBA.out.trans hb3)
    clear hown3 hb3
    go_wp2_with fail
    go_ret
    refine ⟨_, rfl, ?_, HB0.out.trans (HB3.out.mono hs0)⟩
    rw [HR.out]
    exact HO3.out.mono hs0
set_option maxHeartbeats 1000000 in
theorem drop_any (v : Value) (l : List It) (key : Int) (w : World) (h : RdT w v l) (hk : SortedOk l) (hs : l.length ≤ 100000) :
    Calls Try.prog 49 #[v, .int .u64 key] w fun e w' => ∃ v', e = .returned v' ∧ OwnT w' w.heap.size v' (drp (srt l) key) ∧ Below w.heap.size w w' := by
  have HS := Lib.hid (hk v w h)
  have hlen := srt_length l
  have HF := Lib.hid (fun v w h => search_any v (srt l) key w h (by omega))
  have HDe := Lib.hid (fun v i B w h1 h2 h3 => del_any v (srt l) i B w h1 h2 h3 (by omega))
  have HPl := Lib.hid (fun r (h : Place (srt l) key r) => drp_place h (srt_asc l))
  obtain ⟨a, cap, rfl, _, _⟩ := h.shape
  generalize srt l = s at *
  generalize drp s key = res at *
  clear h hk
  go_enter Try.func49, Try.ntmps49
  go_wp2_with fail
  refine HS.out.mono ?_; rintro e w1 ⟨v1, rfl, hown1, hb1⟩
  have HO := Lib.hid hown1
  have HB := Lib.hid hb1
  clear hown1 hb1
  go_wp2_with fail
  refine (HF.out _ _ HO.out.rd).mono ?_; rintro e w2 ⟨⟨r, hp, rfl⟩, hb2⟩
  have HB2 := Lib.hid (bstep HB.out hb2)
  have HO2 := Lib.hid (own_keep HO.out hb2)
  have HP := Lib.hid hp
  clear hb2 hp
  have HPr := Lib.hid (HPl.out r HP.out)
  have hs2 : w.heap.size ≤ w2.heap.size := HB2.out.size
  by_cases hy : r < s.length ∧ (iat s r).key = key
  · have HR := Lib.hid (HPr.out.trans (if_pos hy))
    rw [decide_eq_true hy]
    have hrl := hy.1
    have HC := Lib.hid (HDe.out v1 r w.heap.size w2 HO2.out hs2 hrl)
    clear hy
    go_wp2_with fail
    refine HC.out.mono ?_; rintro e w3 ⟨v3, rfl, hown3, hb3⟩
    have HO3 := Lib.hid hown3
    have HB3 := Lib.hid (HB2.out.trans hb3)
    clear hown3 hb3
    go_wp2_with fail
    go_ret
    refine ⟨_, rfl, ?_, HB3.out⟩
    rw [HR.out]
    exact HO3.out
  · have HR := Lib.hid (HPr.out.trans (if_neg hy))
    rw [decide_eq_false hy]
    clear hy
    go_wp2_with fail
    go_ret
    refine ⟨_, rfl, ?_, HB2.out⟩
    rw [HR.out]
    exact HO2.out
end Go.Proofs.Ytndhjfmdfcpceaa
