/- needle.Decode: the walk. -/
import Derived.Test.YtecflhklpkjhcaaNd
import Derived.Test.YtecflhklpkjhcaaCr
import Derived.Test.YtecflhklpkjhcaaDe
import Derived.Deep.DeepCutAuto
import Derived.Deep.RegionHeld3
import Derived.Deep.Onto
namespace Go.Proofs.Ytecflhklpkjhcaa
open Go.RowKit

/-- A needle as a value; v is its data. -/
abbrev ndV (x : Nd) (v : Value) : Value := .agg #[.int .u64 (x.key : Int), .int .u32 (x.ck : Int), .bool x.del, v]
theorem hform_nat (b : List UInt8) : hform b ↔ (bat b 0).toNat = 78 ∧ (bat b 1).toNat = 165 ∧ (bat b 2).toNat ≤ 1 ∧ (bat b 3).toNat = 0 ∧ nlen b ≤ 4096 ∧ ((bat b 2).toNat = 1 → nlen b = 0) := by
  unfold hform
  have e : ∀ (x : UInt8) (k : Nat), k < 256 → (x = UInt8.ofNat k ↔ x.toNat = k) := fun x k hk => by
    rw [← UInt8.toNat_inj, UInt8.toNat_ofNat', Nat.mod_eq_of_lt hk]
  rw [show (78 : UInt8) = UInt8.ofNat 78 from rfl, show (165 : UInt8) = UInt8.ofNat 165 from rfl, show (0 : UInt8) = UInt8.ofNat 0 from rfl, show (1 : UInt8) = UInt8.ofNat 1 from rfl, e _ 78 (by decide), e _ 165 (by decide), e _ 0 (by decide), e _ 1 (by decide)]
set_option maxHeartbeats 400000 in
theorem bclone_any (v : Value) (l : List UInt8) (w : World) (h : RdB w v l) (hs : l.length ≤ 1000000) :
    Calls Try.prog 33 #[v] w fun e w' => ∃ v', e = .returned v' ∧ OwnB w' w.heap.size v' l ∧ Below w.heap.size w w' := by
  obtain ⟨a, cap, rfl, h1, h2⟩ := h.shape0
  have q22 : ∀ (w : World) (a : Option Addr) (n c n' c' : Nat), (binOp .eql 23 (.slice a n c) (.slice none n' c')).run Try.prog w = .ok (.bool a.isNone) w := fun w a n c n' c' => Lib.run_eql_slice_nil w _ _ a n c n' c' Try.underlying23
  cases a with
  | none =>
    have h0 : l = [] := by
      obtain ⟨_, a', cap', e, _, _, h5, _⟩ := h
      injection e with e1 e2 e3
      have := h5 e1.symm
      exact List.length_eq_zero_iff.1 (by omega)
    subst h0
    clear h
    go_enter Try.func33, Try.ntmps33
    go_wp2_with fail
    go_ret
    exact ⟨_, rfl, World.ownsRow_nil _ _ _ _, Below.refl _ _⟩
  | some p =>
    have Hr := Lib.hid h
    generalize hn : l.length = n at *
    have HL := Lib.hid hn
    clear h hn
    go_enter Try.func33, Try.ntmps33
    go_wp2_with (at_builtin; go_must (refine wpList_app (n := 0) (m := n) rfl (.tmp 5) (.tmp 6) 23 rfl elemB w.heap.size rfl (World.ownsRow_made (size := 1) _ #[] 0 (Nat.le_refl _) (by decide) rfl) rfl (by have := RdL.alloc Hr.out (.cells #[] 5); unfold RdL at this; rw [HL.out] at this; exact this) (bytes_one _) (by unfold maxLen; omega) (by omega) (by simp) ?_); intro v3 w3 hown3 hgr3 hv3; clear hv3)
    have HB := Lib.hid (own_below ((Below.refl w.heap.size w).alloc (Nat.le_refl _) _) (World.ownsRow_made (e := 5) (size := 1) w #[] 0 (Nat.le_refl _) (by decide) rfl) (by simp) hgr3)
    have HO := Lib.hid (ownB_of hown3 (List.nil_append _))
    clear hown3 hgr3
    go_wp2_with fail
    go_ret
    exact ⟨_, rfl, HO.out, HB.out⟩
/-- What Decode leaves. -/
def NRes (w : World) (b : List UInt8) (e : Ending) (w' : World) : Prop := (∃ dv, e = .returned (.tuple #[ndV (ndec b).2.1 dv, .int .i64 ((ndec b).2.2 : Int), .int .i64 (ndec b).1]) ∧ OwnB w' w.heap.size dv (ndec b).2.1.data) ∧ Below w.heap.size w w'
abbrev zeroN : Obj := .cells #[.int .u64 0, .int .u32 0, .bool false, .slice none 0 0] 31
set_option maxRecDepth 100000 in
set_option maxHeartbeats 4000000 in
theorem ndecode_any (v : Value) (b : List UInt8) (w : World) (h : RdB w v b) (hs : b.length ≤ 9223372036854775807) : Calls Try.prog 12 #[v] w (NRes w b) := by
  obtain ⟨a, cap, rfl, h1, h2⟩ := h.shape0
  have Hw0 := Lib.hid h
  have HBZ := Lib.hid (show Below w.heap.size w (w.alloc zeroN) from (Below.refl _ _).alloc (Nat.le_refl _) _)
  have HBAD := Lib.hid (fun (r : Int) w' (hr : ndec b = (r, nd0, 0)) (hb : Below w.heap.size w w') => show NRes w b (.returned (.tuple #[ndV nd0 (.slice none 0 0), .int .i64 0, .int .i64 r])) w' from
    ⟨⟨.slice none 0 0, by rw [hr]; rfl, by rw [hr]; exact World.ownsRow_nil _ _ _ _⟩, hb⟩)
  have Hr := Lib.hid (RdL.below h HBZ.out)
  generalize hR : NRes w b = R at *
  have HR := Lib.hid hR
  clear hR
  by_cases h20 : b.length < 20
  · have HX := Lib.hid (HBAD.out 4 (w.alloc zeroN) (by unfold ndec; rw [if_pos h20]) HBZ.out)
    have hd : decide ((b.length : Int) < 20) = true := by simp; omega
    clear h HBAD HBZ Hr HR
    go_enter Try.func12, Try.ntmps12
    go_wp2_with fail
    exact bodyPost_ret (v := .tuple #[ndV nd0 (.slice none 0 0), .int .i64 0, .int .i64 4]) (by simp [results, Try.results12, go_sem, nd0]) rfl HX.out
  · have hd : decide ((b.length : Int) < 20) = false := by simp; omega
    obtain ⟨x1, y1, g1, r1⟩ := RdL.part (P := Try.prog) elemB Hr.out 16 20 (by omega) (by omega)
    rw [show ((16 : Nat) : Int) = 16 from rfl, show ((20 : Nat) : Int) = 20 from rfl] at g1
    have HN := Lib.hid (nbig_any _ _ _ r1)
    have hnl := val4_lt (l := (b.drop 16).take 4) (by rw [List.length_take]; omega)
    have HF := Lib.hid (hform_nat b)
    have HNL := Lib.hid (show val ((b.drop 16).take (20 - 16)) = nlen b from rfl)
    have HNL2 := Lib.hid (show nlen b = nlen b from rfl)
    simp only [show 20 - 16 = 4 from rfl] at HN HNL g1
    rw [HNL.out] at HN
    change nlen b < _ at hnl
    obtain ⟨ab, off, rfl, e0⟩ := RdB.at Hr.out (show 0 < b.length by omega)
    obtain ⟨_, _, e, e1⟩ := RdB.at Hr.out (show 1 < b.length by omega)
    injection e with e; injection e with ea eb; subst ea eb
    obtain ⟨_, _, e, e2⟩ := RdB.at Hr.out (show 2 < b.length by omega)
    injection e with e; injection e with ea eb; subst ea eb
    obtain ⟨_, _, e, e3⟩ := RdB.at Hr.out (show 3 < b.length by omega)
    injection e with e; injection e with ea eb; subst ea eb
    obtain ⟨q, hq⟩ : ∃ q, decide (hform b) = q := ⟨_, rfl⟩
    have HQ := Lib.hid hq
    obtain ⟨n0, hn0⟩ : ∃ n, (bat b 0).toNat = n := ⟨_, rfl⟩
    obtain ⟨n1, hn1⟩ : ∃ n, (bat b 1).toNat = n := ⟨_, rfl⟩
    obtain ⟨n2, hn2, hn2l⟩ : ∃ n, (bat b 2).toNat = n ∧ n < 256 := ⟨_, rfl, (bat b 2).toNat_lt⟩
    obtain ⟨n3, hn3⟩ : ∃ n, (bat b 3).toNat = n := ⟨_, rfl⟩
    obtain ⟨nl, hnl'⟩ : ∃ n, nlen b = n := ⟨_, rfl⟩
    rw [hn0] at e0
    rw [hn1] at e1
    rw [hn2] at e2
    rw [hn3] at e3
    rw [hn0, hn1, hn2, hn3, hnl'] at HF
    rw [hnl'] at HN hnl
    have HN2 := Lib.hid hn2
    have HNl := Lib.hid hnl'
    have HQ2 := Lib.hid (show q = decide (n0 = 78 ∧ n1 = 165 ∧ n2 ≤ 1 ∧ n3 = 0 ∧ nl ≤ 4096 ∧ (n2 = 1 → nl = 0)) by rw [← hq]; exact decide_eq_decide.2 HF.out)
    clear h hq hn0 hn1 hn2 hn3 hnl' HF HNL HNL2 r1
    go_enter Try.func12, Try.ntmps12
    go_wp2_with fail
    refine HN.out.mono ?_; rintro e w1 ⟨rfl, rfl⟩
    go_upto_region 4 with fail
    go_cut [53] (fun s wx => s = .bool (!q) ∧ w.alloc zeroN = wx)
    case first =>
      simp only [Nat.add_zero] at e0
      by_cases c0 : n0 = 78
      · have t0 : ((n0 : Int) != 78) = false := by rw [bne_eq_false_iff_eq]; omega
        by_cases c1 : n1 = 165
        · have t1 : ((n1 : Int) != 165) = false := by rw [bne_eq_false_iff_eq]; omega
          by_cases c2 : n2 ≤ 1
          · have t2 : decide ((1 : Int) < (n2 : Int)) = false := decide_eq_false (by omega)
            by_cases c3 : n3 = 0
            · have t3 : ((n3 : Int) != 0) = false := by rw [bne_eq_false_iff_eq]; omega
              by_cases c4 : nl ≤ 4096
              · have t4 : decide ((4096 : Int) < (nl : Int)) = false := decide_eq_false (by omega)
                by_cases c5 : n2 = 1
                · have t5 : ((n2 : Int) == 1) = true := beq_iff_eq.2 (by omega)
                  by_cases c6 : nl = 0
                  · have t6 : decide (0 < nl) = false := decide_eq_false (by omega)
                    have HQv := Lib.hid (show q = true by rw [HQ2.out]; exact decide_eq_true (by omega))
                    go_wp2_with fail
                    go_meet
                    case rel => exact ⟨by rw [HQv.out]; rfl, rfl⟩
                  · have t6 : decide (0 < nl) = true := decide_eq_true (by omega)
                    have HQv := Lib.hid (show q = false by rw [HQ2.out]; exact decide_eq_false (by omega))
                    go_wp2_with fail
                    go_meet
                    case rel => exact ⟨by rw [HQv.out]; rfl, rfl⟩
                · have t5 : ((n2 : Int) == 1) = false := beq_eq_false_iff_ne.2 (by omega)
                  have HQv := Lib.hid (show q = true by rw [HQ2.out]; exact decide_eq_true (by omega))
                  go_wp2_with fail
                  go_meet
                  case rel => exact ⟨by rw [HQv.out]; rfl, rfl⟩
              · have t4 : decide ((4096 : Int) < (nl : Int)) = true := decide_eq_true (by omega)
                have HQv := Lib.hid (show q = false by rw [HQ2.out]; exact decide_eq_false (by omega))
                go_wp2_with fail
                go_meet
                case rel => exact ⟨by rw [HQv.out]; rfl, rfl⟩
            · have t3 : ((n3 : Int) != 0) = true := by rw [bne_iff_ne]; omega
              have HQv := Lib.hid (show q = false by rw [HQ2.out]; exact decide_eq_false (by omega))
              go_wp2_with fail
              go_meet
              case rel => exact ⟨by rw [HQv.out]; rfl, rfl⟩
          · have t2 : decide ((1 : Int) < (n2 : Int)) = true := decide_eq_true (by omega)
            have HQv := Lib.hid (show q = false by rw [HQ2.out]; exact decide_eq_false (by omega))
            go_wp2_with fail
            go_meet
            case rel => exact ⟨by rw [HQv.out]; rfl, rfl⟩
        · have t1 : ((n1 : Int) != 165) = true := by rw [bne_iff_ne]; omega
          have HQv := Lib.hid (show q = false by rw [HQ2.out]; exact decide_eq_false (by omega))
          go_wp2_with fail
          go_meet
          case rel => exact ⟨by rw [HQv.out]; rfl, rfl⟩
      · have t0 : ((n0 : Int) != 78) = true := by rw [bne_iff_ne]; omega
        have HQv := Lib.hid (show q = false by rw [HQ2.out]; exact decide_eq_false (by omega))
        go_wp2_with fail
        go_meet
        case rel => exact ⟨by rw [HQv.out]; rfl, rfl⟩
    case rest =>
      obtain ⟨rfl, rfl⟩ := hcut
      cases q with
      | false =>
        have HX := Lib.hid (HBAD.out 3 (w.alloc zeroN) (by unfold ndec; rw [if_neg h20, if_pos (of_decide_eq_false HQ.out)]) HBZ.out)
        go_wp2_with fail
        exact bodyPost_ret (v := .tuple #[ndV nd0 (.slice none 0 0), .int .i64 0, .int .i64 3]) (by simp [results, Try.results12, go_sem, nd0]) rfl HX.out
      | true =>
        have hf := of_decide_eq_true HQ.out
        have hnl4 : nl ≤ 4096 := by rw [← HNl.out]; exact hf.2.2.2.2.1
        have HSz := Lib.hid (fun w => nsize_any nl w (by omega))
        rw [szN_of hnl4] at HSz
        have hszb := nsz_bounds nl
        have HPre := Lib.hid (show ∀ r : Int × Nd × Nat, (if b.length < nsz nl then ((4 : Int), nd0, 0) else if ck (b.take (20 + nl)) ≠ (b.drop (20 + nl)).take 4 then (5, nd0, 0) else if ¬ (npad b).all (· == 0) then (3, nd0, 0) else (0, nread b, nsz nl)) = r → ndec b = r from fun r h => by
          rw [← h, ← HNl.out]; unfold ndec; rw [if_neg h20, if_neg (fun e => e hf)])
        generalize hsz : nsz nl = sz at *
        have HSZ := Lib.hid hsz
        have HFo := Lib.hid hf
        clear hsz hf
        go_wp2_with fail
        refine (HSz.out _).mono ?_; rintro e w2 ⟨rfl, rfl⟩
        by_cases hlt : b.length < sz
        · have HX := Lib.hid (HBAD.out 4 (w.alloc zeroN) (HPre.out _ (by rw [if_pos hlt])) HBZ.out)
          have hd2 : decide (b.length < sz) = true := decide_eq_true hlt
          go_wp2_with fail
          exact bodyPost_ret (v := .tuple #[ndV nd0 (.slice none 0 0), .int .i64 0, .int .i64 4]) (by simp [results, Try.results12, go_sem, nd0]) rfl HX.out
        · have hd2 : decide (b.length < sz) = false := decide_eq_false hlt
          obtain ⟨W, hW, hBW, hBW2, hWp, hWs⟩ : ∃ W, (w.alloc zeroN).alloc (.cells #[.slice none 0 0] 76) = W ∧ Below (w.alloc zeroN).heap.size (w.alloc zeroN) W ∧ Below w.heap.size w W ∧ W.heap[w.heap.size + 1]? = some (.cells #[.slice none 0 0] 76 (0, 0)) ∧ W.heap.size = w.heap.size + 2 :=
            ⟨_, rfl, (Below.refl _ _).alloc (Nat.le_refl _) _, ((Below.refl _ _).alloc (Nat.le_refl _) _).alloc (by simp) _, by have := heap_alloc_new (w.alloc zeroN) (.cells #[.slice none 0 0] 76); simpa using this, by simp⟩
          have HrW := Lib.hid (RdL.below Hr.out hBW)
          have hto := slice_to (P := Try.prog) elemB (a := some ⟨ab, off, none⟩) (n := b.length) (cap := cap) (RdL.spot Hr.out (by omega)) (20 + nl) (by omega)
          have e20 : ((20 + nl : Nat) : Int) = 20 + (nl : Int) := by omega
          rw [e20] at hto
          have HSum := Lib.hid (sum_any (.slice (some ⟨ab, off, none⟩) (20 + nl) cap) (b.take (20 + nl)) W (RdL.take HrW.out (20 + nl) (by omega)))
          have hcl := Crc.sum_lt (b.take (20 + nl))
          have HLi := Lib.hid (little_any (w.heap.size + 1) (Crc.sum (b.take (20 + nl))) (w.heap.size + 1) W (Nat.le_refl _) hWp (by omega) hcl)
          have HCk := Lib.hid (show le4 (Crc.sum (b.take (20 + nl))) = ck (b.take (20 + nl)) from rfl)
          generalize Crc.sum (b.take (20 + nl)) = c at *
          have HBW2 := Lib.hid hBW2
          have HZ : ∀ i u, (w.alloc zeroN).cell? ⟨w.heap.size, i, none⟩ = some u → W.cell? ⟨w.heap.size, i, none⟩ = some u := fun i u hu => Below.keeps hBW _ _ hu
          have HZF : ∀ i, W.frozen? ⟨w.heap.size, i, none⟩ = false := fun i => (hBW.frozen (p := ⟨w.heap.size, i, none⟩) (by simp)).trans (by simp)
          have HZ0 := Lib.hid (HZ 0 _ (by simp; rfl))
          have HZ1 := Lib.hid (HZ 1 _ (by simp; rfl))
          have HZ2 := Lib.hid (HZ 2 _ (by simp; rfl))
          have HZ3 := Lib.hid (HZ 3 _ (by simp; rfl))
          have HZF := Lib.hid HZF
          clear hBW hBW2 hWp HZ
          go_wp2_with fail
          refine HSum.out.mono ?_; rintro e w3 ⟨rfl, rfl⟩
          go_wp2_with fail
          refine HLi.out.mono ?_; rintro e w4 ⟨rfl, wv, hwv, hown4, hb4⟩
          rw [HCk.out] at hown4
          have HB4 := Lib.hid (show Below w.heap.size w w4 from HBW2.out.trans (hb4.mono (by omega)))
          have hw4 := hb4.size
          have R4 := Lib.hid (RdL.below Hw0.out HB4.out)
          have HO4 := Lib.hid hown4.rd
          have zc : ∀ i u, W.cell? ⟨w.heap.size, i, none⟩ = some u → w4.cell? ⟨w.heap.size, i, none⟩ = some u := fun i u hu => (hb4.cell (p := ⟨w.heap.size, i, none⟩) (by simp)).trans hu
          have Z0 := Lib.hid (zc 0 _ HZ0.out)
          have Z1 := Lib.hid (zc 1 _ HZ1.out)
          have Z2 := Lib.hid (zc 2 _ HZ2.out)
          have Z3 := Lib.hid (zc 3 _ HZ3.out)
          have ZF := Lib.hid (fun i => show w4.frozen? ⟨w.heap.size, i, none⟩ = false from (hb4.frozen (p := ⟨w.heap.size, i, none⟩) (by simp)).trans (HZF.out i))
          obtain ⟨x2, y2, g2, r2⟩ := RdL.part (P := Try.prog) elemB R4.out (20 + nl) (24 + nl) (by omega) (by omega)
          have e24 : ((24 + nl : Nat) : Int) = 20 + (nl : Int) + 4 := by omega
          rw [e20, e24] at g2
          have hl2 : 24 + nl - (20 + nl) = 4 := by omega
          rw [hl2] at g2 r2
          have HEq := Lib.hid (fun (u : BelowBy w4) => eqb_any wv (.slice x2 4 y2) (ck (b.take (20 + nl))) ((b.drop (20 + nl)).take 4) u.w' (RdL.below HO4.out u.h) (RdL.below r2 u.h))
          have f0 := cell_by hwv
          obtain ⟨q2, hq2⟩ : ∃ q2, decide (ck (b.take (20 + nl)) = (b.drop (20 + nl)).take 4) = q2 := ⟨_, rfl⟩
          rw [hq2] at HEq
          have HQ3 := Lib.hid hq2
          have j1 : IntKind.i64.wrap (20 + (nl : Int) + 4) = 20 + (nl : Int) + 4 := IntWalk.i64_in _ (by omega)
          clear hwv hown4 hb4 zc r2 hq2 HZ0 HZ1 HZ2 HZ3 HZF e20 e24 hl2 hto HrW HSum HLi
          go_wp2_with fail
          refine wp_region_below (by kernel_rfl) (by kernel_rfl) ?_
          repeat (go_big_quiet_step ((exact calls_by (HEq.out _))))
          refine wpQuiet_nil ?_
          intro _ hw'
          obtain ⟨u, hw'⟩ := hw'
          subst hw'
          clear f0 g2 j1
          have hu := u.h
          have Z0 := Below.keeps hu _ _ Z0.out
          have Z1 := Below.keeps hu _ _ Z1.out
          have Z2 := Below.keeps hu _ _ Z2.out
          have Z3 := Below.keeps hu _ _ Z3.out
          have hzl : w.heap.size < u.w'.heap.size := World.block_lt_of_cell? _ _ Z0
          have ZF5 := fun i => (hu.frozen (p := ⟨w.heap.size, i, none⟩) (by show w.heap.size < w4.heap.size; omega)).trans (ZF.out i)
          have F0 := ZF5 0
          have F1 := ZF5 1
          have F2 := ZF5 2
          have F3 := ZF5 3
          have HB5 := Lib.hid (bstep HB4.out hu)
          have R5 := Lib.hid (RdL.below R4.out hu)
          generalize u.w' = W5 at *
          clear ZF5 hu HEq HO4 R4 HB4 ZF
          cases q2
          · go_wp2_with fail
            exact bodyPost_ret (v := .tuple #[ndV nd0 (.slice none 0 0), .int .i64 0, .int .i64 5]) (by simp [results, Try.results12, go_sem, nd0, Z0, Z1, Z2, Z3]) rfl (HBAD.out 5 _ (HPre.out _ (by rw [if_neg hlt, if_pos (of_decide_eq_false HQ3.out)])) ((((HB5.out.setCell (Nat.le_refl _) _).setCell (Nat.le_refl _) _).setCell (Nat.le_refl _) _).setCell (Nat.le_refl _) _))
          · have e24 : ((24 + nl : Nat) : Int) = 20 + (nl : Int) + 4 := by omega
            obtain ⟨x3, y3, g3, r3⟩ := RdL.part (P := Try.prog) elemB R5.out (24 + nl) sz (by omega) (by omega)
            rw [e24] at g3
            have HPd := Lib.hid (show npad b = (b.drop (24 + nl)).take (sz - (24 + nl)) by unfold npad; rw [HNl.out, HSZ.out])
            have hpl : ((b.drop (24 + nl)).take (sz - (24 + nl))).length = sz - (24 + nl) := by rw [List.length_take, List.length_drop]; omega
            obtain ⟨m, hm⟩ : ∃ m, sz - (24 + nl) = m := ⟨_, rfl⟩
            rw [hm] at g3 r3 HPd hpl
            generalize (b.drop (24 + nl)).take m = pl at *
            have R3 := Lib.hid r3
            have HPl := Lib.hid hpl
            have hmm : m ≤ 4127 := by omega
            clear e24 r3 hpl hm
            go_wp2_with fail
            go_loop [93] (fun iv => ∃ i : Nat, iv = .int .i64 (i : Int) ∧ i ≤ m ∧ Hid (∀ j, j < i → bat pl j = 0)) (fun iv => m - (intOf iv).toNat)
            case atStart => exact ⟨0, by go_num, by omega, fun j hj => by omega⟩
            case round =>
              obtain ⟨i, rfl, hi, hz⟩ := hrel
              by_cases hlm : i < m
              · obtain ⟨pb, poff, rfl, c0⟩ := RdB.at R3.out hlm
                obtain ⟨z, hzz⟩ : ∃ z, (bat pl i).toNat = z := ⟨_, rfl⟩
                rw [hzz] at c0
                have HZZ := Lib.hid hzz
                clear hzz
                by_cases hz0 : z = 0
                · have hd3 : ((z : Int) != 0) = false := by rw [bne_eq_false_iff_eq]; omega
                  have HZ1 := Lib.hid (show bat pl i = 0 from by rw [← UInt8.toNat_inj, HZZ.out, hz0]; rfl)
                  clear hz0
                  go_wp2_with fail
                  exact ⟨⟨i + 1, by go_num, by omega, fun j hj => by
                    by_cases e : j = i
                    · rw [e]; exact HZ1.out
                    · exact hz.out j (by omega)⟩, by simp [intOf]; omega⟩
                · have hd3 : ((z : Int) != 0) = true := by rw [bne_iff_ne]; omega
                  have HX := Lib.hid (show ¬ (npad b).all (· == 0) = true from fun h => by
                    rw [HPd.out, List.all_eq_true] at h
                    have := h (bat pl i) (by unfold bat; rw [List.getD_eq_getElem?_getD, List.getElem?_eq_getElem (by rw [HPl.out]; exact hlm)]; exact List.getElem_mem _)
                    simp at this
                    apply hz0; rw [← HZZ.out, this]; rfl)
                  clear hz0
                  go_wp2_with fail
                  exact bodyPost_ret (v := .tuple #[ndV nd0 (.slice none 0 0), .int .i64 0, .int .i64 3]) (by simp [results, Try.results12, go_sem, nd0, Z0, Z1, Z2, Z3]) rfl (HBAD.out 3 _ (HPre.out _ (by rw [if_neg hlt, if_neg (fun e => e (of_decide_eq_true HQ3.out)), if_pos HX.out])) ((((HB5.out.setCell (Nat.le_refl _) _).setCell (Nat.le_refl _) _).setCell (Nat.le_refl _) _).setCell (Nat.le_refl _) _))
              · obtain rfl : i = m := by omega
                have HX := Lib.hid (show (npad b).all (· == 0) = true from by
                  rw [HPd.out, List.all_eq_true]
                  intro x hx
                  obtain ⟨j, hj, rfl⟩ := List.mem_iff_getElem.1 hx
                  have := hz.out j (by have := HPl.out; omega)
                  unfold bat at this
                  rw [List.getD_eq_getElem?_getD, List.getElem?_eq_getElem hj] at this
                  simpa using this)
                have HFin := Lib.hid (show ndec b = (0, nread b, sz) from HPre.out _ (by rw [if_neg hlt, if_neg (fun e => e (of_decide_eq_true HQ3.out)), if_neg (fun e => e HX.out)]))
                clear hz hlm
                obtain ⟨x8, y8, g8, r8⟩ := RdL.part (P := Try.prog) elemB (RdL.drew R5.out) 8 16 (by omega) (by omega)
                obtain ⟨x4, y4, g4, r4⟩ := RdL.part (P := Try.prog) elemB (RdL.drew R5.out) 4 8 (by omega) (by omega)
                obtain ⟨xd, yd, gd, rd⟩ := RdL.part (P := Try.prog) elemB (RdL.drew R5.out) 20 (20 + nl) (by omega) (by omega)
                have e20 : ((20 + nl : Nat) : Int) = 20 + (nl : Int) := by omega
                have hsub : 20 + nl - 20 = nl := by omega
                rw [e20, hsub] at gd
                rw [hsub] at rd
                rw [show ((8 : Nat) : Int) = 8 from rfl, show ((16 : Nat) : Int) = 16 from rfl] at g8
                rw [show ((4 : Nat) : Int) = 4 from rfl, show ((8 : Nat) : Int) = 8 from rfl] at g4
                rw [show ((20 : Nat) : Int) = 20 from rfl] at gd
                simp only [show 16 - 8 = 8 from rfl, show 8 - 4 = 4 from rfl] at g8 g4 r8 r4
                have HN8 := Lib.hid (nbig_any _ _ _ r8)
                have HN4 := Lib.hid (nbig_any _ _ _ r4)
                have HCl := Lib.hid (bclone_any _ _ _ rd (by rw [List.length_take]; omega))
                have HRd := Lib.hid (show nread b = ⟨val ((b.drop 8).take 8), val ((b.drop 4).take 4), bat b 2 == 1, (b.drop 20).take nl⟩ by unfold nread; rw [HNl.out])
                have HB2 := Lib.hid (show (bat b 2 == 1) = ((n2 : Int) == 1) by
                  rw [Bool.eq_iff_iff, beq_iff_eq, beq_iff_eq, ← UInt8.toNat_inj, HN2.out]
                  show n2 = 1 ↔ _; omega)
                have v8 := val_lt ((b.drop 8).take 8)
                have v4 := val4_lt (l := (b.drop 4).take 4) (by rw [List.length_take]; omega)
                generalize val ((b.drop 8).take 8) = k8 at *
                generalize val ((b.drop 4).take 4) = k4 at *
                generalize (b.drop 20).take nl = dl at *
                have j4 : IntKind.u32.wrap (k4 : Int) = (k4 : Int) := IntWalk.u32_in _ (by omega)
                obtain ⟨_, _, e, c2⟩ := RdB.at R5.out (show 2 < b.length by omega)
                injection e with e; injection e with ea eb; subst ea eb
                rw [HN2.out] at c2
                have ib2 : (2 : Int) < (b.length : Int) := by omega
                have HSX := Lib.hid (show ∀ w', Below W5.heap.size W5 w' → w'.cell? ⟨ab, off + 2, none⟩ = some (.int .u8 (n2 : Int)) from fun w' hb => Below.keeps hb _ _ c2)
                have HSZ2 := Lib.hid (show ∀ w', Below W5.heap.size W5 w' → w'.cell? ⟨w.heap.size, 0, none⟩ = some (.int .u64 0) ∧ w'.cell? ⟨w.heap.size, 1, none⟩ = some (.int .u32 0) ∧ w'.cell? ⟨w.heap.size, 2, none⟩ = some (.bool false) ∧ w'.cell? ⟨w.heap.size, 3, none⟩ = some (.slice none 0 0) ∧ w'.frozen? ⟨w.heap.size, 0, none⟩ = false ∧ w'.frozen? ⟨w.heap.size, 1, none⟩ = false ∧ w'.frozen? ⟨w.heap.size, 2, none⟩ = false ∧ w'.frozen? ⟨w.heap.size, 3, none⟩ = false from fun w' hb => ⟨Below.keeps hb _ _ Z0, Below.keeps hb _ _ Z1, Below.keeps hb _ _ Z2, Below.keeps hb _ _ Z3,
                  (hb.frozen (p := ⟨w.heap.size, 0, none⟩) (World.block_lt_of_cell? _ _ Z0)).trans F0, (hb.frozen (p := ⟨w.heap.size, 1, none⟩) (World.block_lt_of_cell? _ _ Z1)).trans F1, (hb.frozen (p := ⟨w.heap.size, 2, none⟩) (World.block_lt_of_cell? _ _ Z2)).trans F2, (hb.frozen (p := ⟨w.heap.size, 3, none⟩) (World.block_lt_of_cell? _ _ Z3)).trans F3⟩)
                obtain ⟨_, _, e, c2w⟩ := RdB.at Hw0.out (show 2 < b.length by omega)
                injection e with e; injection e with ea eb; subst ea eb
                have habw : ab < w.heap.size := World.block_lt_of_cell? _ _ c2w
                have HSt := Lib.hid (fun (w' : World) (u0 u1 u2 u3 : Value) (h : w'.cell? ⟨ab, off + 2, none⟩ = some (.int .u8 (n2 : Int))) => show ((((w'.setCell ⟨w.heap.size, 0, none⟩ u0).setCell ⟨w.heap.size, 1, none⟩ u1).setCell ⟨w.heap.size, 2, none⟩ u2).setCell ⟨w.heap.size, 3, none⟩ u3).cell? ⟨ab, off + 2, none⟩ = some (.int .u8 (n2 : Int)) from by
                  have hne : ∀ k, (⟨w.heap.size, k, none⟩ : Addr) ≠ ⟨ab, off + 2, none⟩ := fun k e => by injection e with e; omega
                  rw [World.cell?_setCell_other (h := hne 3), World.cell?_setCell_other (h := hne 2), World.cell?_setCell_other (h := hne 1), World.cell?_setCell_other (h := hne 0)]; exact h)
                clear e20 hsub r8 r4 rd c2 g3 Z0 Z1 Z2 Z3 F0 F1 F2 F3
                go_wp2_with fail
                clear c2w
                go_region_held3 (fun w' => w'.cell? ⟨ab, off + 2, none⟩ = some (.int .u8 (n2 : Int)))
                  (first | exact HSX.out _ (Below.refl _ _).drew | exact HSX.out _ (bstep (Below.refl _ _).drew hbc) | exact HSt.out _ _ _ _ _ (HSX.out _ (bstep (Below.refl _ _).drew hbc)))
                  (first | (go_at_call 29; (with_reducible refine (HN8.out).mono ?_); rintro e w6 ⟨rfl, rfl⟩) | (go_at_call 29; (with_reducible refine (HN4.out).mono ?_); rintro e w6 ⟨rfl, rfl⟩) | (go_at_call 33; (with_reducible refine (HCl.out).mono ?_); rintro e w7 ⟨v7, rfl, hown7, hbc⟩; obtain ⟨oa7, oc7, hv7, _, _, _⟩ := own_form hown7; subst hv7; obtain ⟨z0, z1, z2, z3, y0, y1, y2, y3⟩ := HSZ2.out _ (bstep (Below.refl _ _).drew hbc)))
                have hown7' : OwnB w7 W5.heap.size (.slice oa7 dl.length oc7) dl := hown7
                have hnb : (Value.slice oa7 dl.length oc7).ownBlock ≠ some w.heap.size := fun e => by have := (World.ownsRow.lt hown7' _ e).1; omega
                have HO7 := Lib.hid (World.ownsRow.mono (own_set_ne (p := ⟨w.heap.size, 3, none⟩) (own_set_ne (p := ⟨w.heap.size, 2, none⟩) (own_set_ne (p := ⟨w.heap.size, 1, none⟩) (own_set_ne (p := ⟨w.heap.size, 0, none⟩) hown7' hnb (.int .u64 (k8 : Int))) hnb (.int .u32 (k4 : Int))) hnb (.bool ((n2 : Int) == 1))) hnb (.slice oa7 dl.length oc7)) (Nat.le_of_lt hzl))
                have HB7 := Lib.hid ((((bstep HB5.out (bstep (Below.refl _ _).drew hbc)).setCell (p := ⟨w.heap.size, 0, none⟩) (Nat.le_refl _) (.int .u64 (k8 : Int))).setCell (p := ⟨w.heap.size, 1, none⟩) (Nat.le_refl _) (.int .u32 (k4 : Int))).setCell (p := ⟨w.heap.size, 2, none⟩) (Nat.le_refl _) (.bool ((n2 : Int) == 1)) |>.setCell (p := ⟨w.heap.size, 3, none⟩) (Nat.le_refl _) (.slice oa7 dl.length oc7))
                clear hown7 hown7' hbc y0 y1 y2 y3
                go_wp2_with fail
                exact bodyPost_ret (v := .tuple #[.agg #[.int .u64 (k8 : Int), .int .u32 (k4 : Int), .bool ((n2 : Int) == 1), .slice oa7 dl.length oc7], .int .i64 (sz : Int), .int .i64 0]) (by simp [results, Try.results12, go_sem, z0, z1, z2, z3]) rfl (by
                  rw [← HR.out]
                  refine ⟨⟨.slice oa7 dl.length oc7, ?_, ?_⟩, HB7.out⟩
                  · rw [HFin.out, HRd.out, HB2.out]
                  · rw [HFin.out, HRd.out]; exact HO7.out)
end Go.Proofs.Ytecflhklpkjhcaa
