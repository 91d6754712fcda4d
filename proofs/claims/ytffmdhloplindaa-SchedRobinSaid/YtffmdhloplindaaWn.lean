/- SchedPromise: the walk. -/
import Derived.Test.YtffmdhloplindaaWm
import Derived.BigQuiet
namespace Go.Proofs.Ytffmdhloplindaa
open Go.RowKit Go.Maps

def alw (ss : List En) (t : Int) (j : Nat) : Bool := (ss.take j).all fun e => e.run.contains t
def pck (ss : List En) (t : Int) (j : Nat) : Bool := (ss.take j).any fun e => e.pick == t
theorem alw_succ {ss : List En} {j : Nat} (h : j < ss.length) (t : Int) : alw ss t (j + 1) = (alw ss t j && (enAt ss j).run.contains t) := by
  unfold alw; rw [take_snoc h]; simp
theorem pck_succ {ss : List En} {j : Nat} (h : j < ss.length) (t : Int) : pck ss t (j + 1) = (pck ss t j || (enAt ss j).pick == t) := by
  unfold pck; rw [take_snoc h]; simp
theorem pre_all : ∀ (l : List En) (t : Int), (∀ e ∈ l, e.run.contains t = true ∧ (e.pick == t) = false) → Pm.pre l t = l.length
  | [], _, _ => rfl
  | e :: r, t, h => by
    obtain ⟨h1, h2⟩ := h e List.mem_cons_self
    have hw : Pm.wrun e t = true := by
      unfold Pm.wrun
      rw [h1, Bool.true_and]
      rw [beq_eq_false_iff_ne] at h2
      simp only [Bool.not_eq_true', beq_eq_false_iff_ne]
      exact fun e => h2 e.symm
    unfold Pm.pre
    rw [if_pos hw, pre_all r t fun e he => h e (List.mem_cons_of_mem _ he)]
    rfl
/-- What the statement promises. -/
theorem promise {es : List En} {i B : Nat} (hB : B = Pm.worst es + 1) (hi : i + B ≤ es.length) (t : Int) : alw ((es.drop i).take B) t B = true → pck ((es.drop i).take B) t B = true := by
  intro h1
  have hlen : ((es.drop i).take B).length = B := by rw [List.length_take, List.length_drop]; omega
  unfold alw pck at *
  rw [List.take_of_length_le (Nat.le_of_eq hlen)] at h1 ⊢
  rcases Bool.eq_false_or_eq_true (((es.drop i).take B).any fun e => e.pick == t) with h | h
  · exact h
  · have hp := pre_all _ t fun e he => ⟨List.all_eq_true.1 h1 e he, by simpa using List.any_eq_false.1 h e he⟩
    rw [hlen] at hp
    have h2 := Pm.pre_le_lw ((es.drop i).take B) t
    have h3 := lw_take (es.drop i) B t
    have h4 := lw_drop es i t
    have h5 := Pm.most_le_worst es t
    rw [Pm.most_lw] at h5
    omega

theorem enAt_part {es : List En} {i c j : Nat} (hj : j < c) : enAt ((es.drop i).take c) j = enAt es (i + j) := by
  unfold enAt
  rw [List.getD_eq_getElem?_getD, List.getD_eq_getElem?_getD, List.getElem?_take, if_pos hj, List.getElem?_drop]
theorem RdE.sub_cells {w : World} {b off L cap : Nat} {es : List En} (h : RdE w (.slice (some ⟨b, off, none⟩) L cap) es) (hL : es.length = L) (i c : Nat) (hic : i + c ≤ L) : ∀ j, j < c →
    ∃ a' cap', w.cell? ⟨b, off + i * 2 + j * 2, none⟩ = some (.slice a' (enAt ((es.drop i).take c) j).run.length cap') ∧ w.cell? ⟨b, off + i * 2 + j * 2 + 1, none⟩ = some (.int .i64 (enAt ((es.drop i).take c) j).pick) ∧
      RdI w (.slice a' (enAt ((es.drop i).take c) j).run.length cap') (enAt ((es.drop i).take c) j).run := by
  intro j hj
  obtain ⟨a', cap', e1, _, _, _, hc⟩ := h.shape
  injection e1 with e1 _ _
  obtain ⟨b', off', e2, hcs⟩ := hc (by omega)
  rw [← e1] at e2
  injection e2 with e2
  injection e2 with e3 e4 _
  subst e3 e4
  have := hcs (i + j) (by omega)
  rw [enAt_part hj, show off + i * 2 + j * 2 = off + (i + j) * 2 by omega]
  exact this

set_option maxHeartbeats 4000000 in
theorem promise_core (vm vp : Value) (ms qs : List UInt8) (fr : Int) (w : World) (hm : RdB w vm ms) (hp : RdB w vp qs) :
    Calls Try.prog 4 #[vm, vp, .int .i64 fr] w fun e w' => e = .returned (.bool true) ∧ Below w.heap.size w w' := by
  have HM := Lib.hid (made_any vm vp ms qs w hm hp)
  clear hm hp
  go_enter Try.func4, Try.ntmps4
  go_wp2_with fail
  refine HM.out.mono ?_; rintro e w1 ⟨v1, es, rfl, hrd1, hmade, hb1⟩
  have htiny := hmade.tiny
  have hwf := hmade.wf
  have hval := hmade.valid
  have h40 := hmade.1
  have HG := Lib.hid (given_any v1 es w1 hrd1 (by omega))
  have HT := Lib.hid htiny
  have HW := Lib.hid hwf
  have HMd := Lib.hid hmade
  have HB1 := Lib.hid hb1
  clear hrd1 htiny hwf hb1 hmade
  go_wp2_with fail
  refine HG.out.mono ?_; rintro e w2 ⟨v2, rfl, hrd2, hb2⟩
  obtain ⟨a, cap, rfl, h1, h2, h3, h4⟩ := hrd2.shape
  have H2 := Lib.hid hrd2
  have H4 := Lib.hid h4
  have HB2 := Lib.hid (bstep HB1.out hb2)
  clear hrd2 hb2 h4
  have HWo := Lib.hid (worst_any _ es w2 H2.out HT.out HW.out)
  have ewv : worstV es = (Pm.worst es : Int) + 1 := if_pos hval
  have hwl := Pm.worst_len es
  rw [ewv] at HWo
  clear hval ewv
  have hPr := fun i t (h : i + (Pm.worst es + 1) ≤ es.length) => promise (es := es) rfl h t
  have HPr := Lib.hid hPr
  clear hPr
  unfold maxLen at h2
  generalize hW : Pm.worst es = W at *
  generalize hL : es.length = L at *
  go_wp2_with fail
  refine HWo.out.mono ?_; rintro e w3 ⟨rfl, hb3⟩
  have HB3 := Lib.hid (bstep HB2.out hb3)
  have HB32 := Lib.hid hb3
  clear hb3
  by_cases hlen : L < W + 1
  · have hd1 : decide ((L : Int) < (W : Int) + 1) = true := by simp; omega
    have hd2 : decide (1 ≤ (W : Int) + 1) = true := by simp; omega
    go_wp2_with fail
    refine (awake_any _).mono ?_; rintro e w8 ⟨rfl, hb8⟩
    go_wp2_with fail
    go_ret
    exact ⟨rfl, bstep HB3.out hb8⟩
  · have hd1 : decide ((L : Int) < (W : Int) + 1) = false := by simp; omega
    have hd2 : decide ((W : Int) + 1 < 1) = false := by simp; omega
    obtain ⟨d, hd⟩ : ∃ d, d + (W + 1) = L := ⟨L - (W + 1), by omega⟩
    have hLW : (L : Int) - ((W : Int) + 1) + 1 = (d : Int) + 1 := by omega
    obtain ⟨r2, hr2⟩ : ∃ r, fr.tmod ((d : Int) + 1) = r := ⟨_, rfl⟩
    have hrb2 := tmod_bounds fr d
    rw [hr2] at hrb2
    obtain ⟨i, hi, hid⟩ := tmod_nat (r2 + d + 1) (by omega) d
    have hr2' : fr.tmod ((L : Int) - ((W : Int) + 1) + 1) = r2 := by rw [hLW]; exact hr2
    have hc' : (r2 + (L : Int) - ((W : Int) + 1) + 1).tmod ((L : Int) - ((W : Int) + 1) + 1) = (i : Int) := by rw [show r2 + (L : Int) - ((W : Int) + 1) + 1 = r2 + d + 1 by omega, hLW]; exact hi
    have hcz : (r2 + (L : Int) - ((W : Int) + 1) + 1) % ((d : Int) + 1) = (i : Int) := by rw [← Int.tmod_eq_emod_of_nonneg (by omega), show r2 + (L : Int) - ((W : Int) + 1) + 1 = r2 + d + 1 by omega]; exact hi
    obtain ⟨b, off, rfl, _⟩ := H4.out (by omega)
    have HC := Lib.hid (RdE.sub_cells H2.out hL i (W + 1) (by omega))
    have hPi := fun t => HPr.out i t (by omega)
    have HPi := Lib.hid hPi
    have hss : ((es.drop i).take (W + 1)).length = W + 1 := by rw [List.length_take, List.length_drop]; omega
    clear hPi
    generalize (es.drop i).take (W + 1) = ss at *
    go_wp2_with fail
    rw [hcz]
    go_loopw [10] (fun tv wr => ∃ t : Nat, tv = .int .i64 (t : Int) ∧ t ≤ 5 ∧ Below w2.heap.size w2 wr) (fun tv _ => 5 - (intOf tv).toNat)
    case atStart => exact ⟨0, rfl, by decide, HB32.out⟩
    case round =>
      obtain ⟨t, rfl, ht, hbo⟩ := hrel
      have Hbo := Lib.hid hbo
      clear hbo
      by_cases ht5 : t < 5
      · go_wp2_with fail
        obtain ⟨wo, ewo⟩ : ∃ wo : World, wo = wr := ⟨_, rfl⟩
        subst ewo
        go_loopw [11, 12, 67] (fun alv pkv jv wr => ∃ j : Nat, jv = .int .i64 (j : Int) ∧ j ≤ W + 1 ∧ alv = .bool (alw ss t j) ∧ pkv = .bool (pck ss t j) ∧ Below w2.heap.size w2 wr) (fun _ _ jv _ => W + 1 - (intOf jv).toNat)
        case atStart => exact ⟨0, rfl, by omega, rfl, rfl, Hbo.out⟩
        case round =>
          obtain ⟨j, rfl, hj, rfl, rfl, hbj⟩ := hrel
          have Hbj := Lib.hid hbj
          clear hbj
          by_cases hjW : j < W + 1
          · obtain ⟨a', cap', hc1, hc2, hrd⟩ := HC.out j hjW
            replace hc1 := Below.keeps Hbj.out _ _ hc1
            replace hc2 := Below.keeps Hbj.out _ _ hc2
            have HRd := Lib.hid hrd
            have EA := Lib.hid (alw_succ (show j < ss.length by omega) (t : Int))
            have EP := Lib.hid (pck_succ (show j < ss.length by omega) (t : Int))
            clear hrd
            generalize enAt ss j = en at *
            generalize hal : alw ss t j = al at *
            generalize hpk : pck ss t j = pk at *
            generalize hrl : en.run.length = rl at *
            generalize hpi : en.pick = pi at *
            go_wp2_with fail
            obtain ⟨wq, ewq⟩ : ∃ wq : World, wq = wr := ⟨_, rfl⟩
            subst ewq
            have hcn : (wq.alloc (.cells #[.slice a' rl cap', .int .i64 pi] 37)).cell? ⟨wq.heap.size, 1, none⟩ = some (.int .i64 pi) := by simp
            have HCN := Lib.hid hcn
            have HQ := Lib.hid (Hbj.out.alloc (by have := Hbj.out.size; omega) (.cells #[.slice a' rl cap', .int .i64 pi] 37))
            clear hcn hc1 hc2
            generalize (wq.alloc (.cells #[.slice a' rl cap', .int .i64 pi] 37)) = wa at *
            generalize hbe : wq.heap.size = be at *
            have HTk := Lib.hid (show ∀ q, q < en.run.length → (en.run.take (q + 1)).contains (t : Int) = ((en.run.take q).contains (t : Int) || ((t : Int) == Pl.at0 en.run q)) from fun q hq => Pm.take_contains hq (t : Int))
            go_loopw [15, 74] (fun thv qv wr => ∃ q : Nat, qv = .int .i64 (q : Int) ∧ q ≤ rl ∧ thv = .bool ((en.run.take q).contains (t : Int)) ∧ wr.cell? ⟨be, 1, none⟩ = some (.int .i64 pi) ∧ Below w2.heap.size w2 wr) (fun _ qv _ => rl - (intOf qv).toNat)
            case atStart => exact ⟨0, rfl, by omega, rfl, HCN.out, HQ.out⟩
            case round =>
              obtain ⟨q, rfl, hq, rfl, hcp, hbq⟩ := hrel
              have Hcp := Lib.hid hcp
              have Hbq := Lib.hid hbq
              by_cases hqr : q < rl
              · obtain ⟨_, _, e9, _, hm9, _, hsh⟩ := HRd.out.shape 0
                injection e9 with e9 e9b e9c
                clear e9b
                subst e9
                subst e9c
                obtain ⟨br, offr, rfl, hcr⟩ := hsh (by omega)
                have hcell := Below.keeps hbq _ _ (hcr q (by omega))
                have HK := Lib.hid (HTk.out q (by omega))
                unfold maxLen at hm9
                clear hcr hsh hcp hbq
                unfold Pl.at0 at HK
                generalize en.run.getD q 0 = x at *
                generalize (en.run.take q).contains (t : Int) = th at *
                generalize hth2 : (en.run.take (q + 1)).contains (t : Int) = th2 at *
                have HT2 := Lib.hid hth2
                clear hth2
                have HK2 : th2 = (th || (x == (t : Int))) := by rw [HK.out, Bool.beq_comm]
                have HKh := Lib.hid HK2
                clear HK2
                cases th with
                | false =>
                  go_wp2_with fail
                  exact ⟨⟨q + 1, by go_num, by omega, by rw [HT2.out, HKh.out]; rfl, Hcp.out, Hbq.out⟩, by simp [intOf]; omega⟩
                | true =>
                  go_wp2_with fail
                  exact ⟨⟨q + 1, by go_num, by omega, by rw [HT2.out, HKh.out]; rfl, Hcp.out, Hbq.out⟩, by simp [intOf]; omega⟩
              · obtain rfl : q = rl := by omega
                have hfin : (en.run.take q).contains (t : Int) = en.run.contains (t : Int) := by rw [← hrl, List.take_length]
                rw [hfin]
                clear hfin hbq
                generalize en.run.contains (t : Int) = th at *
                cases al <;> cases pk <;> cases th
                all_goals go_wp2_with fail
                all_goals go_quiet (fail)
                all_goals go_wp2_with fail
                all_goals exact ⟨⟨j + 1, by go_num, by omega, by rw [EA.out]; rfl, by rw [EP.out]; first | rfl | simp, below_drewN Hbq.out _⟩, by simp [intOf]; omega⟩
          · obtain rfl : j = W + 1 := by omega
            have hp := HPi.out (t : Int)
            generalize alw ss (t : Int) (W + 1) = al at *
            generalize pck ss (t : Int) (W + 1) = pk at *
            cases al <;> cases pk
            case true.false => exact absurd (hp rfl) (by decide)
            all_goals clear hp
            all_goals go_wp2_with fail
            all_goals exact ⟨⟨t + 1, by go_num, by omega, Hbj.out⟩, by simp [intOf]; omega⟩
      · go_wp2_with fail
        refine (awake_any _).mono ?_; rintro e w8 ⟨rfl, hb8⟩
        go_wp2_with fail
        go_ret
        exact ⟨rfl, bstep (bstep HB2.out Hbo.out) hb8⟩

theorem promise_walk (a1 : Option Addr) (k1 c1 : Nat) (z1 : List Int) (a2 : Option Addr) (k2 c2 : Nat) (z2 : List Int) (fr : Int) (w : World) (h1 : IsRow .u8 w a1 k1 c1 z1) (h2 : IsRow .u8 w a2 k2 c2 z2) (_hf : (Lit.int .i64 fr).wf = true) :
    Calls Try.prog 4 #[.slice a1 k1 c1, .slice a2 k2 c2, .int .i64 fr] w fun e w' => e = .returned (.bool true) ∧ Below w.heap.size w w' := by
  obtain ⟨l1, _, hr1⟩ := isRow_bytes h1
  obtain ⟨l2, _, hr2⟩ := isRow_bytes h2
  exact promise_core _ _ l1 l2 fr w hr1 hr2
end Go.Proofs.Ytffmdhloplindaa
