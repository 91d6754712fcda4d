/- The walks over the reference's Waits, Worst, Fair. -/
import Derived.Test.YtffmdhloplindaaWe
namespace Go.Proofs.Ytffmdhloplindaa
open Go.RowKit Go.Maps

theorem drop_at {es : List En} {i : Nat} (h : i < es.length) : es.drop i = enAt es i :: es.drop (i + 1) := by rw [enAt_get h]; exact List.drop_eq_getElem_cons h
theorem pre_step {es : List En} {i : Nat} (h : i < es.length) (t : Int) : Pm.pre (es.drop i) t = if Pm.wrun (enAt es i) t = true then Pm.pre (es.drop (i + 1)) t + 1 else 0 := by rw [drop_at h]; rfl
theorem lw_step {es : List En} {i : Nat} (h : i < es.length) (t : Int) : Pm.lw (es.drop i) t = max (Pm.pre (es.drop i) t) (Pm.lw (es.drop (i + 1)) t) := by rw [drop_at h]; rfl
theorem pre_done {es : List En} {i : Nat} (h : ¬ i < es.length) (t : Int) : Pm.pre (es.drop i) t = 0 := by rw [List.drop_eq_nil_of_le (by omega)]; rfl
theorem lw_done {es : List En} {i : Nat} (h : ¬ i < es.length) (t : Int) : Pm.lw (es.drop i) t = 0 := by rw [List.drop_eq_nil_of_le (by omega)]; rfl
theorem pre_len : ∀ (es : List En) (t : Int), Pm.pre es t ≤ es.length
  | [], _ => Nat.le_refl _
  | e :: l, t => by
    have := pre_len l t
    unfold Pm.pre
    split <;> simp <;> omega

theorem rwaits_no (v : Value) (es : List En) (t : Int) (w : World) (h : RdE w v es) (ht : Tiny es) (hv : validB es = false) :
    Calls Try.prog 23 #[v, .int .i64 t] w fun e w' => e = .returned (.int .i64 0) ∧ ∃ m, w' = w.drewN m := by
  have H := Lib.hid (rvalid_q v es w h ht.small)
  rw [hv] at H
  obtain ⟨a, cap, rfl, _⟩ := h.shape
  clear h hv
  go_enter Try.func23, Try.ntmps23
  go_wp2_with fail
  refine H.out.mono ?_; rintro e w1 ⟨rfl, hb⟩
  have Hb := Lib.hid hb
  clear hb
  go_wp2_with fail
  go_ret
  exact ⟨rfl, Hb.out⟩
set_option maxHeartbeats 2000000 in
theorem rwaits_yes (v : Value) (es : List En) (t : Int) (w : World) (h : RdE w v es) (ht : Tiny es) (hv : validB es = true) :
    Calls Try.prog 23 #[v, .int .i64 t] w fun e w' => e = .returned (.int .i64 (Pm.most es t : Int)) ∧ ∃ m, w' = w.drewN m := by
  have H := Lib.hid (rvalid_q v es w h ht.small)
  rw [hv] at H
  have HP := Lib.hid (show ∀ i, i < es.length → _ from fun i hi => pre_step (es := es) hi t)
  have HL := Lib.hid (show ∀ i, i < es.length → _ from fun i hi => lw_step (es := es) hi t)
  have HP0 := Lib.hid (show ∀ i, ¬ i < es.length → _ from fun i hi => pre_done (es := es) hi t)
  have HL0 := Lib.hid (show ∀ i, ¬ i < es.length → _ from fun i hi => lw_done (es := es) hi t)
  have HM := Lib.hid (show Pm.lw (es.drop 0) t = Pm.most es t by rw [List.drop_zero, Pm.most_lw])
  have HB : Pm.most es t ≤ 1000 := Nat.le_trans (Pm.most_le es t) ht.1
  obtain ⟨a, cap, rfl, h1, h2, h3, h4⟩ := h.shape
  obtain ⟨t1, t2⟩ := ht
  generalize Pm.most es t = mt at *
  generalize hn : es.length = n at *
  clear hn h hv
  go_enter Try.func23, Try.ntmps23
  go_wp2_with fail
  refine H.out.mono ?_; rintro e w1 ⟨rfl, hb⟩
  have Hb := Lib.hid hb
  have HK := Lib.hid (show ∀ p u, w.cell? p = some u → w1.cell? p = some u by obtain ⟨m, rfl⟩ := hb; exact fun p u h => h)
  clear hb
  go_wp2_with fail
  go_loop [5, 6] (fun mv iv => ∃ i m : Nat, iv = .int .i64 (i : Int) ∧ mv = .int .i64 (m : Int) ∧ i ≤ n ∧ max m (Pm.lw (es.drop i) t) = mt) (fun _ iv => n - (intOf iv).toNat)
  case atStart => exact ⟨0, 0, rfl, rfl, Nat.zero_le _, by rw [HM.out]; omega⟩
  case round =>
    obtain ⟨i, m, rfl, rfl, hi, hmax⟩ := hrel
    have Hmax := Lib.hid hmax
    have hm : m ≤ 1000 := by omega
    clear hmax
    by_cases hlt : i < n
    · have HLi := Lib.hid (HL.out i hlt)
      go_wp2_with fail
      go_loop [7] (fun qv => ∃ q : Nat, qv = .int .i64 (q : Int) ∧ i + q ≤ n ∧ Pm.pre (es.drop i) t = q + Pm.pre (es.drop (i + q)) t) (fun qv => n - (intOf qv).toNat)
      case atStart => exact ⟨0, rfl, by omega, by simp⟩
      case round =>
        obtain ⟨q, rfl, hq, hpre⟩ := hrel
        have Hpre := Lib.hid hpre
        clear hpre
        by_cases hq2 : i + q < n
        · obtain ⟨b, off, rfl, hc⟩ := h4 (by omega)
          obtain ⟨a', cap', d1', d2', c3'⟩ := hc (i + q) hq2
          have d1 := HK.out _ _ d1'
          have d2 := HK.out _ _ d2'
          have HPi := Lib.hid (HP.out (i + q) hq2)
          have hr := t2 (i + q) hq2
          have HC := Lib.hid (has_any _ _ t w1 (RdL.mono c3' HK.out) (by omega))
          unfold Pm.wrun at HPi
          generalize enAt es (i + q) = x at *
          obtain ⟨run, pick⟩ := x
          clear d1' d2' c3' hc h4
          simp only [] at HPi hr
          cases hcon : run.contains t with
          | false =>
            rw [hcon] at HC HPi
            have hp0 : Pm.pre (es.drop i) t = q := by rw [Hpre.out, HPi.out]; simp
            have Hp0 := Lib.hid hp0
            clear hcon hp0
            go_wp2_with fail
            refine HC.out.mono ?_; rintro e w2 ⟨rfl, rfl⟩
            by_cases hmq : q ≤ m
            · go_wp2_with fail
              exact ⟨⟨i + 1, m, by go_num, rfl, by omega, by have := Hmax.out; rw [HLi.out, Hp0.out] at this; omega⟩, by simp [intOf]; omega⟩
            · go_wp2_with fail
              exact ⟨⟨i + 1, q, by go_num, rfl, by omega, by have := Hmax.out; rw [HLi.out, Hp0.out] at this; omega⟩, by simp [intOf]; omega⟩
          | true =>
            rw [hcon] at HC HPi
            by_cases hpk : pick = t
            · have ht1 : (pick != t) = false := by rw [bne_eq_false_iff_eq]; exact hpk
              have hp0 : Pm.pre (es.drop i) t = q := by rw [Hpre.out, HPi.out]; simp [hpk]
              have Hp0 := Lib.hid hp0
              clear hcon hp0 hpk
              go_wp2_with fail
              refine HC.out.mono ?_; rintro e w2 ⟨rfl, rfl⟩
              by_cases hmq : q ≤ m
              · go_wp2_with fail
                exact ⟨⟨i + 1, m, by go_num, rfl, by omega, by have := Hmax.out; rw [HLi.out, Hp0.out] at this; omega⟩, by simp [intOf]; omega⟩
              · go_wp2_with fail
                exact ⟨⟨i + 1, q, by go_num, rfl, by omega, by have := Hmax.out; rw [HLi.out, Hp0.out] at this; omega⟩, by simp [intOf]; omega⟩
            · have ht1 : (pick != t) = true := by rw [bne_iff_ne]; exact hpk
              have hp1 : Pm.pre (es.drop i) t = q + 1 + Pm.pre (es.drop (i + (q + 1))) t := by
                have e1 : (t == pick) = false := beq_eq_false_iff_ne.2 (fun e => hpk e.symm)
                rw [Hpre.out, HPi.out, e1, show i + (q + 1) = i + q + 1 by omega]; simp; omega
              have Hp1 := Lib.hid hp1
              clear hcon hp1 hpk
              go_wp2_with fail
              refine HC.out.mono ?_; rintro e w2 ⟨rfl, rfl⟩
              go_wp2_with fail
              exact ⟨⟨q + 1, by go_num, by omega, Hp1.out⟩, by simp [intOf]; omega⟩
        · have hp0 : Pm.pre (es.drop i) t = q := by rw [Hpre.out, HP0.out _ hq2]; rfl
          have Hp0 := Lib.hid hp0
          clear hp0
          by_cases hmq : q ≤ m
          · go_wp2_with fail
            exact ⟨⟨i + 1, m, by go_num, rfl, by omega, by have := Hmax.out; rw [HLi.out, Hp0.out] at this; omega⟩, by simp [intOf]; omega⟩
          · go_wp2_with fail
            exact ⟨⟨i + 1, q, by go_num, rfl, by omega, by have := Hmax.out; rw [HLi.out, Hp0.out] at this; omega⟩, by simp [intOf]; omega⟩
    · have hfin : m = mt := by have := Hmax.out; rw [HL0.out i hlt] at this; omega
      have Hf := Lib.hid hfin
      clear hfin
      go_wp2_with fail
      go_ret
      exact ⟨by rw [← Hf.out]; rfl, Hb.out⟩
theorem rwaits_any (v : Value) (es : List En) (t : Int) (w : World) (h : RdE w v es) (ht : Tiny es) :
    Calls Try.prog 23 #[v, .int .i64 t] w fun e w' => e = .returned (.int .i64 (waitsV es t)) ∧ ∃ m, w' = w.drewN m := by
  unfold waitsV
  cases hv : validB es with
  | false => exact rwaits_no v es t w h ht hv
  | true => exact rwaits_yes v es t w h ht hv

theorem rworst_no (v : Value) (es : List En) (w : World) (h : RdE w v es) (ht : Tiny es) (hv : validB es = false) :
    Calls Try.prog 21 #[v] w fun e w' => e = .returned (.int .i64 0) ∧ ∃ m, w' = w.drewN m := by
  have H := Lib.hid (rvalid_q v es w h ht.small)
  rw [hv] at H
  obtain ⟨a, cap, rfl, _⟩ := h.shape
  clear h hv
  go_enter Try.func21, Try.ntmps21
  go_wp2_with fail
  refine H.out.mono ?_; rintro e w1 ⟨rfl, hb⟩
  have Hb := Lib.hid hb
  clear hb
  go_wp2_with fail
  go_ret
  exact ⟨rfl, Hb.out⟩
/-- The greatest wait of the tasks of the first i entries and of the first k of the next. -/
def Seen (es : List En) (i k M : Nat) : Prop := (∀ j, j < i → ∀ x ∈ (enAt es j).run, Pm.most es x ≤ M) ∧ (∀ q, q < k → Pm.most es (Pl.at0 (enAt es i).run q) ≤ M) ∧ (M = 0 ∨ ∃ x, Pm.most es x = M)
theorem Seen.next {es : List En} {i k M M' : Nat} (h : Seen es i k M) (hM : M' = max M (Pm.most es (Pl.at0 (enAt es i).run k))) : Seen es i (k + 1) M' := by
  refine ⟨fun j hj x hx => by have := h.1 j hj x hx; omega, fun q hq => ?_, ?_⟩
  · by_cases e : q = k
    · rw [e]; omega
    · have := h.2.1 q (by omega); omega
  · by_cases e : Pm.most es (Pl.at0 (enAt es i).run k) ≤ M
    · rw [hM, Nat.max_eq_left e]; exact h.2.2
    · exact .inr ⟨_, by rw [hM, Nat.max_eq_right (by omega)]⟩
theorem mem_at0 {l : List Int} {x : Int} (h : x ∈ l) : ∃ q, q < l.length ∧ Pl.at0 l q = x := by
  obtain ⟨q, hq, e⟩ := List.mem_iff_getElem.1 h
  exact ⟨q, hq, by unfold Pl.at0; rw [List.getD_eq_getElem?_getD, List.getElem?_eq_getElem hq, Option.getD_some, e]⟩
theorem Seen.entry {es : List En} {i M : Nat} (h : Seen es i (enAt es i).run.length M) : Seen es (i + 1) 0 M := by
  refine ⟨fun j hj x hx => ?_, fun q hq => absurd hq (by omega), h.2.2⟩
  by_cases e : j = i
  · rw [e] at hx
    obtain ⟨q, hq, rfl⟩ := mem_at0 hx
    exact h.2.1 q hq
  · exact h.1 j (by omega) x hx
theorem Seen.worst {es : List En} {M : Nat} (h : Seen es es.length 0 M) : Pm.worst es = M := by
  refine Pm.worst_eq (fun e he x hx => ?_) h.2.2
  obtain ⟨j, hj, e1⟩ := List.mem_iff_getElem.1 he
  exact h.1 j hj x (by rw [enAt_get hj, e1]; exact hx)
set_option maxHeartbeats 2000000 in
theorem rworst_yes (v : Value) (es : List En) (w : World) (h : RdE w v es) (ht : Tiny es) (hv : validB es = true) :
    Calls Try.prog 21 #[v] w fun e w' => e = .returned (.int .i64 ((Pm.worst es : Int) + 1)) ∧ ∃ m, w' = w.drewN m := by
  have H := Lib.hid (rvalid_q v es w h ht.small)
  rw [hv] at H
  have HW := Lib.hid (show ∀ M, Seen es es.length 0 M → Pm.worst es = M from fun M h => h.worst)
  have HC := Lib.hid fun t wr (hw : ∃ m, wr = w.drewN m) => rwaits_yes v es t wr (by obtain ⟨m, rfl⟩ := hw; exact h.mono fun p u h => h) ht hv
  have HB := Lib.hid (show ∀ t, Pm.most es t ≤ 1000 from fun t => Nat.le_trans (Pm.most_le es t) ht.1)
  obtain ⟨a, cap, rfl, h1, h2, h3, h4⟩ := h.shape
  obtain ⟨t1, t2⟩ := ht
  generalize hn : es.length = n at *
  clear hn h hv
  go_enter Try.func21, Try.ntmps21
  go_wp2_with fail
  refine H.out.mono ?_; rintro e w1 ⟨rfl, hb⟩
  have Hb := Lib.hid hb
  clear hb
  go_wp2_with fail
  go_loopw [3, 4] (fun mv iv wr => ∃ i M : Nat, iv = .int .i64 (i : Int) ∧ mv = .int .i64 (M : Int) ∧ i ≤ n ∧ M ≤ 1000 ∧ Seen es i 0 M ∧ ∃ m, wr = w.drewN m) (fun _ iv _ => n - (intOf iv).toNat)
  case atStart => exact ⟨0, 0, rfl, rfl, Nat.zero_le _, Nat.zero_le _, ⟨fun j hj => absurd hj (by omega), fun q hq => absurd hq (by omega), .inl rfl⟩, Hb.out⟩
  case round =>
    obtain ⟨i, M, rfl, rfl, hi, hM, hseen, hwr⟩ := hrel
    have Hseen := Lib.hid hseen
    have Hwr := Lib.hid hwr
    clear hseen hwr
    by_cases hlt : i < n
    · obtain ⟨b, off, rfl, hc⟩ := h4 (by omega)
      obtain ⟨a', cap', d1', _, c3'⟩ := hc i hlt
      have hr := t2 i hlt
      have HEn := Lib.hid (fun M => Seen.entry (es := es) (i := i) (M := M))
      have HNx := Lib.hid (fun k M M' => Seen.next (es := es) (i := i) (k := k) (M := M) (M' := M'))
      generalize enAt es i = x at *
      obtain ⟨run, pick⟩ := x
      simp only [] at HEn HNx hr
      have Hrun := Lib.hid c3'
      clear hc h4 c3'
      obtain ⟨wo, ewo⟩ : ∃ wo : World, wo = wr := ⟨_, rfl⟩
      subst ewo
      go_wp2_with fail
      go_loopw [3, 5] (fun mv kv wr => ∃ k M : Nat, kv = .int .i64 (k : Int) ∧ mv = .int .i64 (M : Int) ∧ k ≤ run.length ∧ M ≤ 1000 ∧ Seen es i k M ∧ ∃ m, wr = w.drewN m) (fun _ kv _ => run.length - (intOf kv).toNat)
      case atStart => exact ⟨0, M, rfl, rfl, Nat.zero_le _, hM, Hseen.out, Hwr.out⟩
      case round =>
        obtain ⟨k, M2, rfl, rfl, hk, hM2, hseen2, hwr2⟩ := hrel
        have Hseen2 := Lib.hid hseen2
        have Hwr2 := Lib.hid hwr2
        have d1 : wr.cell? ⟨b, off + i * 2, none⟩ = some (.slice a' run.length cap') := by obtain ⟨m, rfl⟩ := hwr2; exact d1'
        clear hseen2
        by_cases hkl : k < run.length
        · obtain ⟨_, _, ea, _, _, _, e4⟩ := RdI.shape0 Hrun.out
          injection ea with ea1 ea2 ea3
          subst ea1 ea3
          obtain ⟨b', off', rfl, hcell⟩ := e4 (by omega)
          have c1 : wr.cell? ⟨b', off' + k, none⟩ = some (.int .i64 (Pl.at0 run k)) := by obtain ⟨m, rfl⟩ := hwr2; exact hcell k hkl
          have HN2 := Lib.hid (HNx.out k M2)
          generalize Pl.at0 run k = t at *
          have hb1 := HB.out t
          have HCt := Lib.hid (HC.out t wr hwr2)
          clear hcell e4 d1' hwr2
          generalize Pm.most es t = c at *
          go_wp2_with fail
          refine HCt.out.mono ?_; rintro e w3 ⟨rfl, hw3⟩
          have Hw3 := Lib.hid (show ∃ m, w3 = w.drewN m by obtain ⟨m, rfl⟩ := hw3; exact drewN_more Hwr2.out m)
          clear hw3
          by_cases hle : c ≤ M2
          · go_wp2_with fail
            exact ⟨⟨k + 1, M2, by go_num, rfl, by omega, hM2, HN2.out M2 Hseen2.out (by omega), Hw3.out⟩, by simp [intOf]; omega⟩
          · go_wp2_with fail
            exact ⟨⟨k + 1, c, by go_num, rfl, by omega, hb1, HN2.out c Hseen2.out (by omega), Hw3.out⟩, by simp [intOf]; omega⟩
        · obtain rfl : k = run.length := by omega
          clear d1' hwr2
          go_wp2_with fail
          exact ⟨⟨i + 1, M2, by go_num, rfl, by omega, hM2, HEn.out M2 Hseen2.out, Hwr2.out⟩, by simp [intOf]; omega⟩
    · obtain rfl : i = n := by omega
      have hfin := HW.out M Hseen.out
      have Hf := Lib.hid hfin
      clear hfin
      go_wp2_with fail
      go_ret
      exact ⟨by rw [Hf.out]; rfl, Hwr.out⟩
theorem rworst_any (v : Value) (es : List En) (w : World) (h : RdE w v es) (ht : Tiny es) :
    Calls Try.prog 21 #[v] w fun e w' => e = .returned (.int .i64 (worstV es)) ∧ ∃ m, w' = w.drewN m := by
  unfold worstV
  cases hv : validB es with
  | false => exact rworst_no v es w h ht hv
  | true => exact rworst_yes v es w h ht hv
theorem rfair_any (v : Value) (es : List En) (b : Int) (w : World) (h : RdE w v es) (ht : Tiny es) :
    Calls Try.prog 19 #[v, .int .i64 b] w fun e w' => e = .returned (.bool (fairB es b)) ∧ Below w.heap.size w w' := by
  have H := Lib.hid (rvalid_q v es w h ht.small)
  unfold fairB
  cases hv : validB es with
  | false =>
    rw [hv] at H
    obtain ⟨a, cap, rfl, _⟩ := h.shape
    clear h hv
    go_enter Try.func19, Try.ntmps19
    go_wp2_with fail
    refine H.out.mono ?_; rintro e w1 ⟨rfl, hb⟩
    have Hb := Lib.hid hb
    clear hb
    go_wp2_with fail
    go_ret
    exact ⟨rfl, by obtain ⟨m, hm⟩ := Hb.out; rw [hm]; exact below_drewN (Below.refl _ _) m⟩
  | true =>
    rw [hv] at H
    have H2 := Lib.hid fun wr (hw : ∃ m, wr = w.drewN m) => rworst_yes v es wr (by obtain ⟨m, rfl⟩ := hw; exact h.mono fun p u h => h) ht hv
    obtain ⟨a, cap, rfl, _⟩ := h.shape
    clear h hv
    by_cases hb1 : 1 ≤ b
    · go_enter Try.func19, Try.ntmps19
      go_wp2_with fail
      refine H.out.mono ?_; rintro e w1 ⟨rfl, hb⟩
      have Hb := Lib.hid hb
      clear hb
      go_wp2_with fail
      refine (H2.out _ Hb.out).mono ?_; rintro e w2 ⟨rfl, hb2⟩
      have Hb2 := Lib.hid hb2
      clear hb2
      go_wp2_with fail
      go_ret
      exact ⟨rfl, by obtain ⟨m, hm⟩ := Hb.out; obtain ⟨m2, hm2⟩ := Hb2.out; rw [hm2, hm]; exact below_drewN (below_drewN (Below.refl _ _) m) m2⟩
    · have hfin : decide ((Pm.worst es : Int) + 1 ≤ b) = false := by rw [decide_eq_false_iff_not]; omega
      have Hf := Lib.hid hfin
      clear hfin
      go_enter Try.func19, Try.ntmps19
      go_wp2_with fail
      refine H.out.mono ?_; rintro e w1 ⟨rfl, hb⟩
      have Hb := Lib.hid hb
      clear hb
      go_wp2_with fail
      go_ret
      exact ⟨by rw [Hf.out]; rfl, by obtain ⟨m, hm⟩ := Hb.out; rw [hm]; exact below_drewN (Below.refl _ _) m⟩
end Go.Proofs.Ytffmdhloplindaa
