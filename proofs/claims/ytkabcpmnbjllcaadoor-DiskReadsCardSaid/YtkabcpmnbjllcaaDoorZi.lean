/- Lengths on a disk: grown, length, sized of the program. The walks. -/
import Derived.Test.YtkabcpmnbjllcaaDoorKA
import Derived.Test.YtkabcpmnbjllcaaDoorZd
import Derived.Test.YtkabcpmnbjllcaaDoorProg
namespace Go.Proofs.YtkabcpmnbjllcaaDoor
open Go.RowKit

theorem lenW_take (ws : List Wr) (n : Int) (j : Nat) (h : j < ws.length) : lenW (ws.take (j + 1)) n = grownW (watW ws j) (lenW (ws.take j) n) := by
  unfold watW
  rw [List.take_add_one, List.getElem?_eq_getElem h, List.getD_eq_getElem?_getD, List.getElem?_eq_getElem h]
  exact lenW_snoc _ _ _
theorem watW_mem {ws : List Wr} {j : Nat} (h : j < ws.length) : watW ws j ∈ ws := getD_mem ws j wr0 h
/-- No sum is too great. -/
structure RangeW (w : Wr) : Prop where
  off : -4611686018427387904 ≤ w.off ∧ w.off ≤ 4611686018427387904
  data : w.data.length ≤ 2000000
set_option maxHeartbeats 400000 in
theorem grown_any (x : Wr) (dv : Value) (n : Int) (w : World) (hd : RdB w dv x.data) (hr : RangeW x) :
    Calls Tryd.prog 76 #[.agg #[.int .i64 x.off, dv, .bool x.cut], .int .i64 n] w fun e w' => e = .returned (.int .i64 (grownW x n)) ∧ Below w.heap.size w w' := by
  obtain ⟨xo, xd, xc⟩ := x
  obtain ⟨da, dc, rfl, hd1, hd2, _⟩ := hd.shape0
  obtain ⟨⟨r1, r2⟩, r3⟩ := hr
  dsimp only at *
  have HG := Lib.hid (show grownW ⟨xo, xd, xc⟩ n = if xc then min n xo else max n (xo + (xd.length : Int)) from rfl)
  generalize xd.length = dl at *
  generalize grownW ⟨xo, xd, xc⟩ n = g at *
  clear hd
  cases xc
  · go_enter Tryd.func76, Tryd.ntmps76
    go_wp2_with fail
    all_goals
      go_ret
      refine ⟨ret_int ?_, (Below.refl _ _).alloc (Nat.le_refl _) _⟩
      rw [HG.out, if_neg (by simp)]
      omega
  · go_enter Tryd.func76, Tryd.ntmps76
    go_wp2_with fail
    all_goals
      go_ret
      refine ⟨ret_int ?_, (Below.refl _ _).alloc (Nat.le_refl _) _⟩
      rw [HG.out, if_pos (by simp)]
      omega
/-- The value of a file. -/
abbrev filVal (nm : List UInt8) (bv pv : Value) : Value := .agg #[.string (strB nm), bv, pv]
set_option maxHeartbeats 800000 in
theorem length_any (nm base : List UInt8) (ws : List Wr) (bv pv : Value) (w : World) (hb : RdB w bv base) (hp : RdW w pv ws) (hr : ∀ x ∈ ws, RangeW x) :
    Calls Tryd.prog 53 #[filVal nm bv pv] w fun e w' => e = .returned (.int .i64 (lenW ws base.length)) ∧ Below w.heap.size w w' := by
  obtain ⟨ba, bc, rfl, hb1, hb2, _⟩ := hb.shape0
  obtain ⟨pa, pc, rfl, hp1, hp2, _⟩ := hp.shape
  have HP := Lib.hid hp
  have HR := Lib.hid (show ∀ j, j < ws.length → RangeW (watW ws j) from fun j hj => hr _ (watW_mem hj))
  have HS := Lib.hid (show ∀ j, j < ws.length → lenW (ws.take (j + 1)) base.length = grownW (watW ws j) (lenW (ws.take j) base.length) from fun j hj => lenW_take ws base.length j hj)
  have HE := Lib.hid (show lenW (ws.take ws.length) base.length = lenW ws base.length by rw [List.take_length])
  have H0 := Lib.hid (show (base.length : Int) = lenW (ws.take 0) base.length from rfl)
  clear hb hp hr
  generalize hn : ws.length = n at *
  generalize hl : base.length = l at *
  clear hn hl
  generalize lenW ws l = R at *
  go_enter Tryd.func53, Tryd.ntmps53
  go_wp2_with fail
  have HBx := Lib.hid (show Below w.heap.size w (w.alloc (.cells #[.string (strB nm), .slice ba l bc, .slice pa n pc] 69)) from (Below.refl _ _).alloc (Nat.le_refl _) _)
  unfold maxLen at hp2
  go_loopw [3, 12] (fun nv iv W => ∃ k : Nat, k ≤ n ∧ iv = .int .i64 (k : Int) ∧ nv = .int .i64 (lenW (ws.take k) l) ∧ Hid (Below w.heap.size w W)) (fun _ iv _ => n - (intOf iv).toNat)
  case atStart => exact ⟨0, Nat.zero_le _, rfl, congrArg (Value.int .i64) H0.out, HBx⟩
  case round =>
    obtain ⟨k, hk, rfl, rfl, HB⟩ := hrel
    by_cases hlt : k < n
    · have i1 : (k : Int) < (n : Int) := by omega
      obtain ⟨b, off, dv, rfl, hd, c0, c1, c2⟩ := (HP.out.below HB.out).at hlt
      obtain ⟨da, dc, rfl, _, _, _⟩ := hd.shape0
      have HC := Lib.hid (fun W (hW : Below wr.heap.size wr W) => grown_any (watW ws k) _ (lenW (ws.take k) l) W (hd.below hW) (HR.out k hlt))
      have HSk := Lib.hid (HS.out k hlt)
      clear hd
      generalize lenW (ws.take k) l = q at *
      generalize watW ws k = x at *
      obtain ⟨xo, xd, xc⟩ := x
      dsimp only at *
      go_wp2_with fail
      refine (HC.out _ ?_).mono ?_
      · exact (Below.refl _ _).alloc (Nat.le_refl _) _
      rintro e w1 ⟨rfl, hb⟩
      have HB1 := Lib.hid (bstep (bstep HB.out ((Below.refl _ _).alloc (Nat.le_refl _) _)) hb)
      clear hb
      go_wp2_with fail
      exact ⟨⟨k + 1, by omega, by go_num, by rw [HSk.out], HB1⟩, by simp [intOf]; omega⟩
    · have i1 : ¬ (k : Int) < (n : Int) := by omega
      obtain rfl : k = n := by omega
      go_wp2_with fail
      go_ret
      exact ⟨ret_int HE.out, HB.out⟩
theorem szW_next (ws : List Wr) (n : Int) (j : Nat) (h : j < ws.length) : szW (ws.take (j + 1)) n = (szW (ws.take j) n && okW (watW ws j) && decide (grownW (watW ws j) (lenW (ws.take j) n) ≤ 1048576)) := by
  unfold watW
  rw [List.take_add_one, List.getElem?_eq_getElem h, List.getD_eq_getElem?_getD, List.getElem?_eq_getElem h]
  exact szW_snoc _ _ _
theorem szW_no (ws : List Wr) (n : Int) (j : Nat) (h : szW (ws.take j) n = false) : szW ws n = false := by
  cases e : szW ws n
  · rfl
  · rw [szW_take ws n j e] at h; cases h
set_option maxHeartbeats 1600000 in
theorem sized_any (nm base : List UInt8) (ws : List Wr) (bv pv : Value) (w : World) (hb : RdB w bv base) (hp : RdW w pv ws) (hr : ∀ x ∈ ws, LiteW x) :
    Calls Tryd.prog 46 #[filVal nm bv pv] w fun e w' => e = .returned (.bool (sizedF ⟨nm, base, ws⟩)) ∧ Below w.heap.size w w' := by
  obtain ⟨ba, bc, rfl, hb1, hb2, _⟩ := hb.shape0
  obtain ⟨pa, pc, rfl, hp1, hp2, _⟩ := hp.shape
  have HP := Lib.hid hp
  have HR := Lib.hid (show ∀ j, j < ws.length → LiteW (watW ws j) from fun j hj => hr _ (watW_mem hj))
  have HS := Lib.hid (show ∀ j, j < ws.length → lenW (ws.take (j + 1)) base.length = grownW (watW ws j) (lenW (ws.take j) base.length) from fun j hj => lenW_take ws base.length j hj)
  have HZ := Lib.hid (show ∀ j, j < ws.length → _ from fun j hj => szW_next ws base.length j hj)
  have HN := Lib.hid (show ∀ j, szW (ws.take j) base.length = false → szW ws base.length = false from fun j hj => szW_no ws base.length j hj)
  have HE := Lib.hid (show szW (ws.take ws.length) base.length = szW ws base.length by rw [List.take_length])
  have H0 := Lib.hid (show (base.length : Int) = lenW (ws.take 0) base.length from rfl)
  have HF := Lib.hid (show sizedF ⟨nm, base, ws⟩ = (decide ((base.length : Int) ≤ 1048576) && szW ws base.length) from rfl)
  clear hb hp hr
  generalize sizedF ⟨nm, base, ws⟩ = R at *
  generalize hn : ws.length = n at *
  generalize hl : base.length = l at *
  clear hn hl
  generalize szW ws l = S at *
  unfold maxLen at hp2
  have HBx := Lib.hid (show Below w.heap.size w (w.alloc (.cells #[.string (strB nm), .slice ba l bc, .slice pa n pc] 69)) from (Below.refl _ _).alloc (Nat.le_refl _) _)
  by_cases hlm : l ≤ 1048576
  · have q0 : ¬ (1048576 : Int) < (l : Int) := by omega
    have HF2 := Lib.hid (show R = S by rw [HF.out, decide_eq_true (by omega)]; rfl)
    go_enter Tryd.func46, Tryd.ntmps46
    go_wp2_with fail
    go_loopw [3, 14] (fun nv iv W => ∃ k : Nat, k ≤ n ∧ iv = .int .i64 (k : Int) ∧ nv = .int .i64 (lenW (ws.take k) l) ∧ Hid (szW (ws.take k) l = true) ∧ Hid (Below w.heap.size w W)) (fun _ iv _ => n - (intOf iv).toNat)
    case atStart => exact ⟨0, Nat.zero_le _, rfl, congrArg (Value.int .i64) H0.out, Lib.hid rfl, HBx⟩
    case round =>
      obtain ⟨k, hk, rfl, rfl, HT, HB⟩ := hrel
      by_cases hlt : k < n
      · have i1 : (k : Int) < (n : Int) := by omega
        obtain ⟨b, off, dv, rfl, hd, c0, c1, c2⟩ := (HP.out.below HB.out).at hlt
        obtain ⟨da, dc, rfl, _, _, _⟩ := hd.shape0
        have HD := Lib.hid hd
        have HSk := Lib.hid (HS.out k hlt)
        have HNk := Lib.hid (HN.out (k + 1))
        have HZk := HZ.out k hlt
        rw [HT.out] at HZk
        have HZk := Lib.hid HZk
        have HRk := Lib.hid (HR.out k hlt)
        clear hd
        generalize lenW (ws.take k) l = q at *
        generalize watW ws k = x at *
        obtain ⟨xo, xd, xc⟩ := x
        dsimp only at *
        have HO := Lib.hid (okW_iff ⟨xo, xd, xc⟩)
        generalize okW ⟨xo, xd, xc⟩ = ok at *
        have HDl := Lib.hid (show xd.length = 0 ↔ xd = [] from List.length_eq_zero_iff)
        by_cases h1 : xo < 0
        · have HX := Lib.hid (show false = R by
            rw [HF2.out, HNk.out]
            rw [HZk.out, show ok = false from by cases hok : ok; rfl; exact absurd (HO.out.1 hok).1 (by dsimp only; omega)]; rfl)
          go_wp2_with fail
          go_ret
          exact ⟨ret_bool HX.out, bstep HB.out ((Below.refl _ _).alloc (Nat.le_refl _) _)⟩
        · by_cases h2 : 1048576 < xo
          · have HX := Lib.hid (show false = R by
              rw [HF2.out, HNk.out]
              rw [HZk.out, show ok = false from by cases hok : ok; rfl; exact absurd (HO.out.1 hok).2.1 (by dsimp only; omega)]; rfl)
            go_wp2_with fail
            go_ret
            exact ⟨ret_bool HX.out, bstep HB.out ((Below.refl _ _).alloc (Nat.le_refl _) _)⟩
          · have HG : RangeW ⟨xo, xd, xc⟩ := ⟨⟨by dsimp only; omega, by dsimp only; omega⟩, HRk.out.data⟩
            have HC := Lib.hid (fun W (hW : Below wr.heap.size wr W) => grown_any ⟨xo, xd, xc⟩ _ q W (HD.out.below hW) HG)
            clear HG
            dsimp only at HC
            have HDd := Lib.hid (show xd.length = 0 → xd = [] from HDl.out.1)
            have HDe := Lib.hid (show xd = [] → xd.length = 0 from HDl.out.2)
            clear HD HDl HRk
            generalize xd.length = dl at *
            cases xc
            · have Hok := Lib.hid (show ok = true from HO.out.2 ⟨by dsimp only; omega, by dsimp only; omega, fun h => by cases h⟩)
              clear HO
              generalize grownW ⟨xo, xd, false⟩ q = g at *
              by_cases h4 : 1048576 < g
              · have HX := Lib.hid (show false = R by
                  rw [HF2.out, HNk.out]
                  rw [HZk.out, decide_eq_false (by omega), Bool.and_false])
                go_wp2_with fail
                refine (HC.out _ ?_).mono ?_
                · exact (Below.refl _ _).alloc (Nat.le_refl _) _
                rintro e w1 ⟨rfl, hb⟩
                have HB1 := Lib.hid (bstep (bstep HB.out ((Below.refl _ _).alloc (Nat.le_refl _) _)) hb)
                clear hb
                go_wp2_with fail
                go_ret
                exact ⟨ret_bool HX.out, HB1.out⟩
              · have HX := Lib.hid (show szW (ws.take (k + 1)) l = true by rw [HZk.out, Hok.out, decide_eq_true (by omega)]; rfl)
                go_wp2_with fail
                refine (HC.out _ ?_).mono ?_
                · exact (Below.refl _ _).alloc (Nat.le_refl _) _
                rintro e w1 ⟨rfl, hb⟩
                have HB1 := Lib.hid (bstep (bstep HB.out ((Below.refl _ _).alloc (Nat.le_refl _) _)) hb)
                clear hb
                go_wp2_with fail
                exact ⟨⟨k + 1, by omega, by go_num, by rw [HSk.out], HX, HB1⟩, by simp [intOf]; omega⟩
            · by_cases h3 : dl = 0
              · have Hok := Lib.hid (show ok = true from HO.out.2 ⟨by dsimp only; omega, by dsimp only; omega, fun _ => HDd.out h3⟩)
                subst h3
                clear HO
                generalize grownW ⟨xo, xd, true⟩ q = g at *
                by_cases h4 : 1048576 < g
                · have HX := Lib.hid (show false = R by
                    rw [HF2.out, HNk.out]
                    rw [HZk.out, decide_eq_false (by omega), Bool.and_false])
                  go_wp2_with fail
                  refine (HC.out _ ?_).mono ?_
                  · exact (Below.refl _ _).alloc (Nat.le_refl _) _
                  rintro e w1 ⟨rfl, hb⟩
                  have HB1 := Lib.hid (bstep (bstep HB.out ((Below.refl _ _).alloc (Nat.le_refl _) _)) hb)
                  clear hb
                  go_wp2_with fail
                  go_ret
                  exact ⟨ret_bool HX.out, HB1.out⟩
                · have HX := Lib.hid (show szW (ws.take (k + 1)) l = true by rw [HZk.out, Hok.out, decide_eq_true (by omega)]; rfl)
                  go_wp2_with fail
                  refine (HC.out _ ?_).mono ?_
                  · exact (Below.refl _ _).alloc (Nat.le_refl _) _
                  rintro e w1 ⟨rfl, hb⟩
                  have HB1 := Lib.hid (bstep (bstep HB.out ((Below.refl _ _).alloc (Nat.le_refl _) _)) hb)
                  clear hb
                  go_wp2_with fail
                  exact ⟨⟨k + 1, by omega, by go_num, by rw [HSk.out], HX, HB1⟩, by simp [intOf]; omega⟩
              · have h3' : 0 < dl := by omega
                have HX := Lib.hid (show false = R by
                  rw [HF2.out, HNk.out]
                  rw [HZk.out, show ok = false from by cases hok : ok; rfl; exact absurd (HDe.out ((HO.out.1 hok).2.2 rfl)) h3]; rfl)
                go_wp2_with fail
                go_ret
                exact ⟨ret_bool HX.out, bstep HB.out ((Below.refl _ _).alloc (Nat.le_refl _) _)⟩
      · have i1 : ¬ (k : Int) < (n : Int) := by omega
        obtain rfl : k = n := by omega
        have HX := Lib.hid (show true = R by rw [HF2.out, ← HE.out, HT.out])
        go_wp2_with fail
        go_ret
        exact ⟨ret_bool HX.out, HB.out⟩
  · have q0 : (1048576 : Int) < (l : Int) := by omega
    have HF2 := Lib.hid (show false = R by rw [HF.out, decide_eq_false (by omega)]; rfl)
    go_enter Tryd.func46, Tryd.ntmps46
    go_wp2_with fail
    go_ret
    exact ⟨ret_bool HF2.out, HBx.out⟩
end Go.Proofs.YtkabcpmnbjllcaaDoor
