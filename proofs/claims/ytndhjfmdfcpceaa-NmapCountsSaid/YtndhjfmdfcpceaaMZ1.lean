/- Several texts in one, each over the last: NmapCounts: the walk. NmapCounts, from what the form gives of its arguments. -/
import Derived.Test.YtndhjfmdfcpceaaGD
import Derived.Test.YtndhjfmdfcpceaaGE
import Derived.Test.YtndhjfmdfcpceaaNz
import Derived.StillTailTactics
namespace Go.Proofs.Ytndhjfmdfcpceaa
open Go.RowKit

theorem RdT.cells {w : World} {b off n cap : Nat} {l : List It} (h : RdT w (.slice (some ⟨b, off, none⟩) n cap) l) {j : Nat} (hj : j < n) :
    w.cell? ⟨b, off + j * 4, none⟩ = some (.int .u64 (iat l j).key) ∧ w.cell? ⟨b, off + j * 4 + 1, none⟩ = some (.int .u32 (iat l j).ck) ∧ w.cell? ⟨b, off + j * 4 + 2, none⟩ = some (.int .i64 (iat l j).off) ∧ w.cell? ⟨b, off + j * 4 + 3, none⟩ = some (.int .i64 (iat l j).size) := by
  obtain ⟨b', o', e, h0, h1, h2, h3⟩ := h.at hj
  injection e with e
  injection e with e1 e2
  subst e1 e2
  exact ⟨h0, h1, h2, h3⟩
theorem RdH.cell {w : World} {b off n cap : Nat} {l : List Int} (h : RdH w (.slice (some ⟨b, off, none⟩) n cap) l) {j : Nat} (hj : j < n) : w.cell? ⟨b, off + j, none⟩ = some (.int .u16 (uat l j)) := by
  obtain ⟨b', o', e, h0⟩ := RdH.at h hj
  injection e with e
  injection e with e1 e2
  subst e1 e2
  exact h0
theorem sizeI (y : It) (hy : 0 ≤ y.size) (w : World) : Calls Try.prog 35 #[.int .i64 y.size] w fun e w' => e = .returned (.int .i64 ((lenO y : Nat) : Int)) ∧ w = w' := by
  have h := nsizeB y.size.toNat w
  rwa [Int.toNat_of_nonneg hy] at h
set_option maxRecDepth 100000 in
set_option maxHeartbeats 8000000 in
theorem counts_walk (va vb vc : Value) (l : List It) (dl : List Bool) (ws : List Int) (w : World) (h : RdT w va l) (h2 : RdO w vb dl) (h3 : RdH w vc ws) (hw : ∀ x ∈ ws, 0 ≤ x ∧ x ≤ 65535) :
    Calls Try.prog 6 #[va, vb, vc] w fun e w' => e = .returned (.bool true) ∧ Below w.heap.size w w' := by
  obtain ⟨da, dc, rfl, hd1, hd2⟩ := h2.shape0
  obtain ⟨wa, wc', rfl, hw1, hw2⟩ := h3.shape0
  have HD := Lib.hid h2
  have HW := Lib.hid h3
  have HI := Lib.hid (lawI_any va l w h)
  have HKo := Lib.hid (lawI_ok l)
  have hn20 := lawI_length l
  have HWq := Lib.hid (fun j (hj : j < ws.length) => hw _ (uat_mem hj))
  have HAw := Lib.hid (fun W => awakeM_any W)
  clear h h2 h3 hw
  generalize dl.length = dn at *
  generalize ws.length = wn at *
  generalize lawI l = K at *
  go_enter Try.func6, Try.ntmps6
  go_wp2_with fail
  refine HI.out.mono ?_; rintro e w1 ⟨kv, rfl, hown1, hb1⟩
  have HRk := Lib.hid hown1.rd
  obtain ⟨ka, kc, rfl, hk1, hk2⟩ := HRk.out.shape
  generalize hn : K.length = n at *
  have HN := Lib.hid hn
  have HB1 := Lib.hid hb1
  clear hown1 hb1 HI hn
  go_wp2_with fail
  refine (new_any _).mono ?_; rintro e w2 ⟨rfl, hb2⟩
  have HRk2 := Lib.hid (HRk.out.below hb2)
  have HB2 := Lib.hid (bstep HB1.out hb2)
  have HD2 := Lib.hid (HD.out.below HB2.out)
  have HW2 := Lib.hid (HW.out.below HB2.out)
  clear hb2 HRk HB1 HD HW
  go_upto_region 3 with fail
  obtain ⟨W3, hW3⟩ : ∃ W3, w2.alloc (.cells (mapC Sl.nil 0 0) 37) = W3 := ⟨_, rfl⟩
  have HX3 := Lib.hid (show BoxM W3 w2.heap.size Sl.nil 0 0 from hW3 ▸ BoxM.new w2 Sl.nil 0 0 37)
  have HB3 := Lib.hid (show Below w2.heap.size w2 W3 from hW3 ▸ below_map w2 Sl.nil 0 0 37)
  rw [hW3]
  clear hW3
  go_wp2_with fail
  go_loopw [9, 19] (fun sv iv W => ∃ (i S : Nat) (s : Sl) (M : Mp), sv = .int .i64 (S : Int) ∧ iv = .int .i64 (i : Int) ∧ i ≤ n ∧ Hid (StM M i S (i * 80000)) ∧ Hid (BoxM W w2.heap.size s M.live M.garb) ∧ Hid (OwnM W (w2.heap.size + 1) s M.st) ∧ Hid (Below w2.heap.size w2 W)) (fun _ iv _ => n - (intOf iv).toNat)
  case atStart => exact ⟨0, 0, Sl.nil, M0, rfl, rfl, Nat.zero_le _, Lib.hid StM.nil, HX3, Lib.hid (OwnM.nil _ _), HB3⟩
  case round =>
    obtain ⟨i, S, s, M, rfl, rfl, hi, HS, HX, HO, HB⟩ := hrel
    have hgs : w2.heap.size < wr.heap.size := HX.out.lt
    by_cases hin : i < n
    · have ii1 : (i : Int) < (n : Int) := by omega
      obtain ⟨pb, poff, rfl, k0, k1, k2, k3⟩ := (HRk2.out.below HB.out).at hin
      have hok := HKo.out (iat K i) (iat_mem (by rw [HN.out]; exact hin))
      have HKc := Lib.hid (fun W (hb : Below w2.heap.size w2 W) => (HRk2.out.below hb).cells hin)
      generalize hy : iat K i = y at *
      clear hy
      have hy0 : 0 ≤ y.size := by
        have h := hok
        unfold okB at h
        exact (of_decide_eq_true h).2.2.2.1
      have HP := Lib.hid (show ∀ W, RdM W s M.st → _ from fun W h => putM_any s M y W h (fun j _ => Nat.le_trans (HS.out.len j) (by omega)))
      rw [show itV y = .agg #[.int .u64 y.key, .int .u32 y.ck, .int .i64 y.off, .int .i64 y.size] from rfl] at HP
      have HPa := Lib.hid (HP.out wr.drew (HO.out.rd.below (below_drew (Below.refl _ _))))
      have hSb : S + lenO y ≤ 8000000 := by
        have h1 := HS.out.le
        have h2 : lenO y ≤ 4127 := szN_le _
        omega
      have HS7 := Lib.hid (HS.out.put (by omega) hok)
      clear HP
      have c0 := HX.out.c0
      have c1 := HX.out.c1
      have c2 := HX.out.c2
      have c3 := HX.out.c3
      have c4 := HX.out.c4
      have c5 := HX.out.c5
      have c6 := HX.out.c6
      have c7 := HX.out.c7
      have c8 := HX.out.cl
      have c9 := HX.out.cg
      have cF := HX.out.f
      go_upto_region 7 with fail
      refine wp_region_still_tail 5 (by kernel_rfl) (by kernel_rfl) ?_
      simp only [List.take_succ_cons, List.take_zero, List.drop_succ_cons, List.drop_zero]
      change wpStill Try.prog _ (World.drew _) _ _ _
      repeat still_step
      refine wpStill_nil ?_
      change wpList _ _ _ _ _ (World.drew _)
      go_wp2_with fail
      refine HPa.out.mono ?_; rintro e w7 ⟨⟨s7, rfl, hown7⟩, hb7⟩
      have hbd := bstep (below_drew (Below.refl wr.heap.size wr)) hb7
      have HX7 := Lib.hid (HX.out.below hbd)
      have HB7 := Lib.hid (bstep HB.out hbd)
      have HO7 := Lib.hid (hown7.mono (show w2.heap.size + 1 ≤ wr.drew.heap.size from hgs))
      have hd0 : lenO y ≤ 4127 := szN_le _
      have HZ := Lib.hid (fun W => sizeI y hy0 W)
      generalize insM M y = M7 at *
      generalize lenO y = d at *
      clear c0 c1 c2 c3 c4 c5 c6 c7 c8 c9 cF k0 k1 k2 k3 hown7 hb7 hbd HX HB HO HPa
      have c0 := HX7.out.c0
      have c1 := HX7.out.c1
      have c2 := HX7.out.c2
      have c3 := HX7.out.c3
      have c4 := HX7.out.c4
      have c5 := HX7.out.c5
      have c6 := HX7.out.c6
      have c7 := HX7.out.c7
      have c8 := HX7.out.cl
      have c9 := HX7.out.cg
      have cF := HX7.out.f
      go_upto_region 8 with fail
      change Code.wp _ _ _ _ (putM w7 w2.heap.size s7 M7.live M7.garb)
      obtain ⟨V, hV⟩ : ∃ V, putM w7 w2.heap.size s7 M7.live M7.garb = V := ⟨_, rfl⟩
      have HX8 := Lib.hid (show BoxM V w2.heap.size s7 M7.live M7.garb from hV ▸ HX7.out.all s7 M7.live M7.garb)
      have HB8 := Lib.hid (show Below w2.heap.size w2 V from hV ▸ putM_below HB7.out (Nat.le_refl _) s7 M7.live M7.garb)
      have HO8 := Lib.hid (show OwnM V (w2.heap.size + 1) s7 M7.st from hV ▸ HO7.out.putM (by omega) s7 M7.live M7.garb)
      rw [hV]
      clear hV c0 c1 c2 c3 c4 c5 c6 c7 c8 c9 cF HX7 HB7 HO7
      obtain ⟨k0, k1, k2, k3⟩ := HKc.out _ HB8.out
      go_wp2_with fail
      refine (HZ.out _).mono ?_; rintro e w8 ⟨rfl, rfl⟩
      go_upto_region 9 with fail
      go_cut [45] (fun b wx => b = .bool (decide (i < dn) && oat dl i) ∧ wx = V)
      case first =>
        by_cases hid : i < dn
        · have ii2 : (i : Int) < (dn : Int) := by omega
          obtain ⟨ob, oo, e, o0⟩ := RdO.at (RdL.below HD2.out HB8.out) hid
          subst e
          have HF := Lib.hid (show (decide (i < dn) && oat dl i) = oat dl i by simp [hid])
          generalize oat dl i = b9 at *
          go_wp2_with fail
          go_meet
          case rel => exact ⟨by rw [HF.out], rfl⟩
        · have ii2 : ¬ (i : Int) < (dn : Int) := by omega
          have HF := Lib.hid (show (decide (i < dn) && oat dl i) = false by simp [hid])
          go_wp2_with fail
          go_meet
          case rel => exact ⟨by rw [HF.out], rfl⟩
      case rest =>
        obtain ⟨rfl, hwx⟩ := hcut
        subst hwx
        generalize (decide (i < dn) && oat dl i) = b9 at *
        have HDl := Lib.hid (fun W (h : RdM W s7 M7.st) => deleteM_any s7 M7 y.key W h (fun j _ => Nat.le_trans (HS7.out.len j) (by omega)))
        have HSd := Lib.hid (HS7.out.del (by omega) y.key)
        have hg8 : w2.heap.size < _ := HX8.out.lt
        generalize delM M7 y.key = Md at *
        go_upto_if 45 with fail
        go_cut [9] (fun sv wx => sv = .int .i64 ((S : Int) + (d : Int)) ∧ ∃ (s : Sl) (M : Mp), Hid (StM M (i + 1) (S + d) (i * 80000 + 4127)) ∧ Hid (BoxM wx w2.heap.size s M.live M.garb) ∧ Hid (OwnM wx (w2.heap.size + 1) s M.st) ∧ Hid (Below w2.heap.size w2 wx))
        case first =>
          cases b9
          · go_wp2_with fail
            go_meet
            case rel => exact ⟨rfl, s7, M7, HS7, HX8, HO8, HB8⟩
          · skip
            have c0 := HX8.out.c0
            have c1 := HX8.out.c1
            have c2 := HX8.out.c2
            have c3 := HX8.out.c3
            have c4 := HX8.out.c4
            have c5 := HX8.out.c5
            have c6 := HX8.out.c6
            have c7 := HX8.out.c7
            have c8 := HX8.out.cl
            have c9 := HX8.out.cg
            have cF := HX8.out.f
            go_upto_region 10 with fail
            refine wp_region_still_tail 6 (by kernel_rfl) (by kernel_rfl) ?_
            simp only [List.take_succ_cons, List.take_zero, List.drop_succ_cons, List.drop_zero]
            change wpStill Try.prog _ (World.drew _) _ _ _
            repeat still_step
            refine wpStill_nil ?_
            change wpList _ _ _ _ _ (World.drew _)
            go_wp2_with fail
            refine (HDl.out _ (HO8.out.rd.below (below_drew (Below.refl _ _)))).mono ?_; rintro e w9 ⟨⟨s9, rfl, hown9⟩, hb9⟩
            have hbd := bstep (below_drew (Below.refl _ _)) hb9
            have HX9 := Lib.hid (HX8.out.below hbd)
            have HB9 := Lib.hid (bstep HB8.out hbd)
            have HO9 := Lib.hid (hown9.mono (show w2.heap.size + 1 ≤ _ from hg8))
            clear c0 c1 c2 c3 c4 c5 c6 c7 c8 c9 cF k0 k1 k2 k3 hown9 hbd hb9 HX8 HB8 HO8 HDl HS7
            have c0 := HX9.out.c0
            have c1 := HX9.out.c1
            have c2 := HX9.out.c2
            have c3 := HX9.out.c3
            have c4 := HX9.out.c4
            have c5 := HX9.out.c5
            have c6 := HX9.out.c6
            have c7 := HX9.out.c7
            have c8 := HX9.out.cl
            have c9 := HX9.out.cg
            have cF := HX9.out.f
            go_wp2_with fail
            go_meet
            case rel => exact ⟨rfl, s9, Md, HSd, Lib.hid (HX9.out.all s9 Md.live Md.garb), Lib.hid (HO9.out.putM (by omega) s9 Md.live Md.garb), Lib.hid (putM_below HB9.out (Nat.le_refl _) s9 Md.live Md.garb)⟩
        case rest =>
          obtain ⟨rfl, s9, M9, HS9, HX9, HO9, HB9⟩ := hcut
          clear HDl HSd HX8 HB8 HO8 HS7 k0 k1 k2 k3
          have hg9 : w2.heap.size < _ := HX9.out.lt
          by_cases hiw : i < wn
          · have ii3 : (i : Int) < (wn : Int) := by omega
            obtain ⟨ob, oo, e, o0⟩ := RdH.at (RdL.below HW2.out HB9.out) hiw
            subst e
            have HMc := Lib.hid (fun W (hb : Below w2.heap.size w2 W) => RdH.cell (RdL.below HW2.out hb) hiw)
            have hq := HWq.out i hiw
            generalize uat ws i = m at *
            obtain ⟨m, rfl⟩ := Int.eq_ofNat_of_zero_le hq.1
            have hm : m ≤ 65535 := by omega
            have HWs := Lib.hid (fun W (h : RdM W s9 M9.st) => wasteM_any s9 M9 (m : Int) W h (fun j _ => Nat.le_trans (HS9.out.len j) (by omega)))
            have HSw := Lib.hid (HS9.out.waste (by omega) hm)
            generalize wasteM M9 (m : Int) = Mw at *
            have c0 := HX9.out.c0
            have c1 := HX9.out.c1
            have c2 := HX9.out.c2
            have c3 := HX9.out.c3
            have c4 := HX9.out.c4
            have c5 := HX9.out.c5
            have c6 := HX9.out.c6
            have c7 := HX9.out.c7
            have c8 := HX9.out.cl
            have c9 := HX9.out.cg
            have cF := HX9.out.f
            go_upto_region 12 with fail
            refine wp_region_still_tail 6 (by kernel_rfl) (by kernel_rfl) ?_
            simp only [List.take_succ_cons, List.take_zero, List.drop_succ_cons, List.drop_zero]
            change wpStill Try.prog _ (World.drew _) _ _ _
            repeat still_step
            refine wpStill_nil ?_
            change wpList _ _ _ _ _ (World.drew _)
            go_wp2_with fail
            refine (HWs.out _ (HO9.out.rd.below (below_drew (Below.refl _ _)))).mono ?_; rintro e w10 ⟨⟨s10, rfl, hown10⟩, hb10⟩
            have hbd := bstep (below_drew (Below.refl _ _)) hb10
            have HX10 := Lib.hid (HX9.out.below hbd)
            have HB10 := Lib.hid (bstep HB9.out hbd)
            have HO10 := Lib.hid (hown10.mono (show w2.heap.size + 1 ≤ _ from hg9))
            clear c0 c1 c2 c3 c4 c5 c6 c7 c8 c9 cF hown10 hbd hb10 HX9 HB9 HO9 HWs HS9 o0
            have c0 := HX10.out.c0
            have c1 := HX10.out.c1
            have c2 := HX10.out.c2
            have c3 := HX10.out.c3
            have c4 := HX10.out.c4
            have c5 := HX10.out.c5
            have c6 := HX10.out.c6
            have c7 := HX10.out.c7
            have c8 := HX10.out.cl
            have c9 := HX10.out.cg
            have cF := HX10.out.f
            go_upto_region 13 with fail
            change Code.wp _ _ _ _ (putM w10 w2.heap.size s10 Mw.live Mw.garb)
            obtain ⟨V, hV⟩ : ∃ V, putM w10 w2.heap.size s10 Mw.live Mw.garb = V := ⟨_, rfl⟩
            have HX11 := Lib.hid (show BoxM V w2.heap.size s10 Mw.live Mw.garb from hV ▸ HX10.out.all s10 Mw.live Mw.garb)
            have HB11 := Lib.hid (show Below w2.heap.size w2 V from hV ▸ putM_below HB10.out (Nat.le_refl _) s10 Mw.live Mw.garb)
            have HO11 := Lib.hid (show OwnM V (w2.heap.size + 1) s10 Mw.st from hV ▸ HO10.out.putM (by omega) s10 Mw.live Mw.garb)
            rw [hV]
            clear hV c0 c1 c2 c3 c4 c5 c6 c7 c8 c9 cF HX10 HB10 HO10
            have o0 := HMc.out _ HB11.out
            clear HMc
            go_wp2_with fail
            exact ⟨⟨i + 1, S + d + m, s10, Mw, by go_num, by go_num, by omega, Lib.hid (HSw.out.mono (by omega)), HX11, HO11, HB11⟩, by simp [intOf]; omega⟩
          · have ii3 : ¬ (i : Int) < (wn : Int) := by omega
            go_wp2_with fail
            exact ⟨⟨i + 1, S + d, s9, M9, by go_num, by go_num, by omega, Lib.hid (HS9.out.mono (by omega)), HX9, HO9, HB9⟩, by simp [intOf]; omega⟩
    · have ii1 : ¬ (i : Int) < (n : Int) := by omega
      obtain rfl : i = n := by omega
      have hsl := HS.out.le
      have HI := Lib.hid (itemsM_any s M wr HO.out.rd (fun j _ => Nat.le_trans (HS.out.len j) (by omega)))
      have htl := itemsM_len (M := M) (fun j _ => Nat.le_trans (HS.out.len j) (by omega))
      have HTk := Lib.hid (itemsM_ok HS.out.v)
      have hlv := itemsM_sum HS.out.v
      have hsm := HS.out.sum
      have hg0 := HS.out.v.g0
      generalize itemsM M = T at *
      have HT := Lib.hid (fun j (hj : j < T.length) => sumI_take hj)
      have HTb := Lib.hid (fun j => show sumI (T.take j) ≤ 80000 * 4127 from Nat.le_trans (sumI_le _) (Nat.mul_le_mul_right _ (Nat.le_trans (by rw [List.length_take]; omega) htl)))
      have HTe := Lib.hid (show sumI (T.take T.length) = sumI T by rw [List.take_of_length_le (Nat.le_refl _)])
      generalize M.live = L at *
      generalize M.garb = G at *
      obtain ⟨G, rfl⟩ := Int.eq_ofNat_of_zero_le hg0
      subst hlv
      obtain rfl : S = sumI T + G := by omega
      clear HS hsm hg0
      have c0 := HX.out.c0
      have c1 := HX.out.c1
      have c2 := HX.out.c2
      have c3 := HX.out.c3
      have c4 := HX.out.c4
      have c5 := HX.out.c5
      have c6 := HX.out.c6
      have c7 := HX.out.c7
      have c8 := HX.out.cl
      have c9 := HX.out.cg
      have cF := HX.out.f
      go_wp2_with fail
      refine HI.out.mono ?_; rintro e w11 ⟨tv, rfl, hown11, hb11⟩
      have HX11 := Lib.hid (HX.out.below hb11)
      have HB11 := Lib.hid (bstep HB.out hb11)
      have HR11 := Lib.hid hown11.rd
      obtain ⟨ta, tc, rfl, ht1, ht2⟩ := HR11.out.shape
      generalize hn : T.length = tn at *
      clear hown11 hb11 c0 c1 c2 c3 c4 c5 c6 c7 c8 c9 cF HX HB HO HI
      have HHn := Lib.hid hn
      clear hn
      go_wp2_with fail
      go_loopw [11, 75] (fun sv iv W => ∃ j : Nat, sv = .int .i64 ((sumI (T.take j) : Nat) : Int) ∧ iv = .int .i64 (j : Int) ∧ j ≤ tn ∧ Hid (Below w11.heap.size w11 W)) (fun _ iv _ => tn - (intOf iv).toNat)
      case atStart => exact ⟨0, rfl, rfl, Nat.zero_le _, Lib.hid (Below.refl _ _)⟩
      case round =>
        obtain ⟨j, rfl, rfl, hj, HB⟩ := hrel
        by_cases hjt : j < tn
        · have jj1 : (j : Int) < (tn : Int) := by omega
          obtain ⟨pb, poff, rfl, k0, k1, k2, k3⟩ := (HR11.out.below HB.out).at hjt
          have hx0 : 0 ≤ (iat T j).size := (HTk.out _ (iat_mem (by rw [HHn.out]; exact hjt))).2.2.2.1
          have HS1 := Lib.hid (HT.out j hjt)
          have hb1 := HTb.out (j + 1)
          rw [HS1.out] at hb1
          have HS2 := Lib.hid (show ((sumI (T.take (j + 1)) : Nat) : Int) = ((sumI (T.take j) : Nat) : Int) + ((lenO (iat T j) : Nat) : Int) by rw [HS1.out]; unfold lenO; omega)
          have hb2 : sumI (T.take j) + lenO (iat T j) ≤ 80000 * 4127 := hb1
          have HZ := Lib.hid (fun W => sizeI (iat T j) hx0 W)
          clear HS1 hb1
          generalize lenO (iat T j) = d at *
          generalize iat T j = x at *
          generalize sumI (T.take j) = S1 at *
          have HBa := Lib.hid (show Below w11.heap.size w11 (wr.alloc (boxC x)) from bstep HB.out (below_box wr x))
          go_wp2_with fail
          refine (HZ.out _).mono ?_; rintro e w12 ⟨rfl, rfl⟩
          go_wp2_with fail
          exact ⟨⟨j + 1, by rw [HS2.out], by go_num, by omega, HBa⟩, by simp [intOf]; omega⟩
        · have jj1 : ¬ (j : Int) < (tn : Int) := by omega
          obtain rfl : j = tn := by omega
          have HXe := Lib.hid (HX11.out.below HB.out)
          have HBe := Lib.hid (bstep HB2.out (HB11.out.trans (HB.out.mono HB11.out.size)))
          rw [HTe.out]
          have hsb := HTb.out j
          rw [HTe.out] at hsb
          generalize sumI T = S1 at *
          clear HB HX11 HB11
          have c0 := HXe.out.c0
          have c1 := HXe.out.c1
          have c2 := HXe.out.c2
          have c3 := HXe.out.c3
          have c4 := HXe.out.c4
          have c5 := HXe.out.c5
          have c6 := HXe.out.c6
          have c7 := HXe.out.c7
          have c8 := HXe.out.cl
          have c9 := HXe.out.cg
          have cF := HXe.out.f
          go_wp2_with fail
          refine (HAw.out _).mono ?_; rintro e w13 ⟨rfl, hb13⟩
          have HBf := Lib.hid (bstep HBe.out hb13)
          clear hb13
          go_wp2_with fail
          go_ret
          exact ⟨rfl, HBf.out⟩
end Go.Proofs.Ytndhjfmdfcpceaa

namespace Go.Proofs.Ytndhjfmdfcpceaa
open Go.RowKit

theorem counts_open (a : Option Addr) (n cap : Nat) (b : Option Addr) (m c : Nat) (d : Option Addr) (k e : Nat) (w : World) (h : ∃ l, RdT w (.slice a n cap) l ∧ ∀ x ∈ l, x.Wf) (h2 : ∃ l, RdO w (.slice b m c) l) (h3 : ∃ l, RdH w (.slice d k e) l ∧ ∀ x ∈ l, 0 ≤ x ∧ x ≤ 65535) :
    Calls Try.prog 6 #[.slice a n cap, .slice b m c, .slice d k e] w fun e w' => e = .returned (.bool true) ∧ Below w.heap.size w w' := by
  obtain ⟨l, hl, _⟩ := h
  obtain ⟨dl, hd⟩ := h2
  obtain ⟨ws, hw, hq⟩ := h3
  exact counts_walk _ _ _ l dl ws w hl hd hw hq
end Go.Proofs.Ytndhjfmdfcpceaa
