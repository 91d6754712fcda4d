/- The walk over SchedPicks where the list is longer than 30, and the two joined. Written by gen-Wi.py from Wh. -/
import Derived.Test.YtffmdhloplindaaWh
namespace Go.Proofs.Ytffmdhloplindaa
open Go.RowKit Go.Maps

set_option maxRecDepth 100000 in
set_option maxHeartbeats 2000000 in
theorem picks_long (a : Option Addr) (k cap : Nat) (l : List Int) (n : Int) (mask : Nat) (w : World) (h : RdI w (.slice a k cap) l) (hk : 30 < k) (hn : n ≤ 9223372036854775807) :
    Calls Try.prog 3 #[.slice a k cap, .int .i64 n, .int .u8 (mask : Int)] w fun e w' => e = .returned (.bool true) ∧ Below w.heap.size w w' := by
  have h30 := RdL.take h 30 (by omega)
  obtain ⟨hl, hcap, hmax⟩ := h30.bounds
  generalize l.take 30 = l3 at h30 hl
  have H := Lib.hid h30
  have hk64 := h.bounds.2.2
  have hkc := h.bounds.2.1
  clear h h30
  go_enter Try.func3, Try.ntmps3
  have hd30 : decide ((30 : Int) < (k : Int)) = true := by simp; omega
  go_wp2_with fail
  go_loopw [7, 8] (fun v iv wr => ∃ t : Nat, ∃ lst : List Int, iv = .int .i64 (t : Int) ∧ t ≤ 8 ∧ lst.length ≤ t ∧ wr.ownsRow w.heap.size 3 1 v lst.length (lst.map intV) ∧ Below w.heap.size w wr) (fun _ iv _ => 8 - (intOf iv).toNat)
  case atStart => exact ⟨0, [], rfl, by decide, by decide, World.ownsRow_nil _ _ _ _, Below.refl _ _⟩
  case round =>
    obtain ⟨t, lst, rfl, ht, hlst, hown, hbel⟩ := hrel
    have Hown := Lib.hid hown
    have Hb := Lib.hid hbel
    have hB := hbel.size
    clear hown hbel
    by_cases hlt : t < 8
    · go_wp2_with (at_builtin; refine wpList_app rfl (.tmp 36) (.tmp 39) 22 rfl elem22 w.heap.size rfl (Hown.out.alloc _) rfl (rd_one _ _ _) (one_map intV (fun _ => rfl) [3 * (t : Int)]) (by unfold maxLen; omega) (by omega) (by simp; omega) ?_; intro v2 w2 hown2 hgr2 hv2; clear hv2)
      · have hO : w2.ownsRow w.heap.size 3 1 v2 (lst ++ [3 * (t : Int)]).length ((lst ++ [3 * (t : Int)]).map intV) := by rw [List.length_append, map_snoc]; exact hown2
        exact ⟨⟨t + 1, lst ++ [3 * (t : Int)], by go_num, by omega, by simp; omega, hO, own_below (Hb.out.alloc hB _) (Hown.out.alloc _) (by simp; omega) hgr2⟩, by simp [intOf]; omega⟩
      · exact ⟨⟨t + 1, lst, by go_num, by omega, by omega, Hown.out, Hb.out⟩, by simp [intOf]; omega⟩
    · have hrd2 : RdI wr _ lst := own_rdl Hown.out
      clear Hown
      obtain ⟨a2, cap2, rfl, _⟩ := hrd2.shape0
      have hlst2 : lst.length ≤ 30 := by omega
      have Hrd2 := Lib.hid hrd2
      clear hrd2 hlst ht
      generalize hn2 : lst.length = n2 at *
      go_wp2_with fail
      have henv : Env w wr.heap.size (.slice a 30 cap) (.slice a2 n2 cap2) l3 lst (wr.alloc (.cells #[.slice a 30 cap, .slice a2 n2 cap2] 22)) := by
        refine ⟨by simp, by simp, RdL.alloc (RdL.below H.out Hb.out) _, RdL.alloc Hrd2.out _, Hb.out.alloc hB _⟩
      have HEnv := Lib.hid henv
      have hl30 : l3.length ≤ 30 := by omega
      have hn30 : lst.length ≤ 30 := by omega
      clear henv
      generalize hbk : wr.heap.size = bk at *
      generalize (wr.alloc (.cells #[.slice a 30 cap, .slice a2 n2 cap2] 22)) = wa at *
      go_loopw [45] (fun iv wr => ∃ i : Nat, iv = .int .i64 (i : Int) ∧ i ≤ 2 ∧ Env w bk (.slice a 30 cap) (.slice a2 n2 cap2) l3 lst wr) (fun iv _ => 2 - (intOf iv).toNat)
      case atStart => exact ⟨0, rfl, by decide, HEnv.out⟩
      case round =>
        obtain ⟨i, rfl, hi, henv⟩ := hrel
        have HE := Lib.hid henv
        clear henv
        by_cases hi2 : i < 2
        · obtain ⟨sa, sn, sc, L, hcell, hrdL, hL⟩ := HE.out.at hl30 hn30 hi2
          have HL := Lib.hid hrdL
          clear hrdL
          have hwm := bounds_of_i64 (wf_and n)
          have Hwm := Lib.hid hwm
          clear hwm
          go_wp2_with fail
          have HE2 := Lib.hid (HE.out.keep ((Below.refl _ _).alloc (Nat.le_refl _) (.cells #[.int .i64 n, .int .i64 (bits .and .i64 n 31)] 3)))
          have hc0 : (wr.alloc (.cells #[.int .i64 n, .int .i64 (bits .and .i64 n 31)] 3)).cell? ⟨wr.heap.size, 0, none⟩ = some (.int .i64 n) := by simp
          have hc1 : (wr.alloc (.cells #[.int .i64 n, .int .i64 (bits .and .i64 n 31)] 3)).cell? ⟨wr.heap.size, 1, none⟩ = some (.int .i64 (bits .and .i64 n 31)) := by simp
          have HC := Lib.hid (And.intro hc0 hc1)
          have HL2 := Lib.hid (RdL.alloc HL.out (.cells #[.int .i64 n, .int .i64 (bits .and .i64 n 31)] 3))
          clear hc0 hc1 HL HE hcell
          generalize wr.heap.size = b3 at *
          generalize (wr.alloc (.cells #[.int .i64 n, .int .i64 (bits .and .i64 n 31)] 3)) = wb at *
          generalize bits .and .i64 n 31 = n31 at *
          go_loopw [54] (fun jv wr => ∃ j : Nat, jv = .int .i64 (j : Int) ∧ j ≤ 2 ∧ Env w bk (.slice a 30 cap) (.slice a2 n2 cap2) l3 lst wr ∧ (wr.cell? ⟨b3, 0, none⟩ = some (.int .i64 n) ∧ wr.cell? ⟨b3, 1, none⟩ = some (.int .i64 n31)) ∧ RdI wr (.slice sa sn sc) L) (fun jv _ => 2 - (intOf jv).toNat)
          case atStart => exact ⟨0, rfl, by decide, HE2.out, HC.out, HL2.out⟩
          case round =>
            obtain ⟨j, rfl, hj, henv, hcc, hrdL⟩ := hrel
            have HEj := Lib.hid henv
            have HCj := Lib.hid hcc
            have HLj := Lib.hid hrdL
            clear henv hrdL
            by_cases hj2 : j < 2
            · obtain ⟨m, hmc, hmb⟩ : ∃ m, wr.cell? ⟨b3, j, none⟩ = some (.int .i64 m) ∧ m ≤ 9223372036854775807 := by
                by_cases e : j = 0
                · exact ⟨n, by rw [e]; exact hcc.1, hn⟩
                · exact ⟨n31, by rw [show j = 1 by omega]; exact hcc.2, Hwm.out.2⟩
              have HP := Lib.hid (pick_b _ L m wr HLj.out (by omega) hmb)
              have HP2 := Lib.hid fun w1 (hb : Below wr.heap.size wr w1) => rpick_any _ L m w1 (RdL.below HLj.out hb) (by omega) hmb
              have HN := Lib.hid fun w1 (hb : Below wr.heap.size wr w1) => next_b _ L m w1 (RdL.below HLj.out hb) (by omega)
              have HN2 := Lib.hid fun w1 (hb : Below wr.heap.size wr w1) => rnext_any _ L m w1 (RdL.below HLj.out hb) (by omega)
              clear hcc
              generalize pickV L m = x1 at *
              generalize pickE L m = x2 at *
              generalize nextW L m = x3 at *
              generalize nextE L = x4 at *
              go_wp2_with fail
              refine HP.out.mono ?_; rintro e w1 ⟨rfl, hb1⟩
              have B1 := Lib.hid hb1
              clear hb1
              go_wp2_with fail
              refine (HP2.out _ B1.out).mono ?_; rintro e w2 ⟨rfl, hb2⟩
              have B2 := Lib.hid (bstep B1.out hb2)
              clear hb2
              go_wp2_with fail
              refine (HN.out _ B2.out).mono ?_; rintro e w3 ⟨rfl, hb3⟩
              have B3 := Lib.hid (bstep B2.out hb3)
              clear hb3
              go_wp2_with fail
              refine (HN2.out _ B3.out).mono ?_; rintro e w4 ⟨rfl, hb4⟩
              have B4 := Lib.hid (bstep B3.out hb4)
              clear hb4
              go_wp2_with fail
              have hdec : decide ((i : Int) < 2) = true := by simp; omega
              rw [hdec]
              go_roundw
              case rel => exact ⟨j + 1, by go_num, by omega, HEj.out.keep B4.out, ⟨Below.keeps B4.out _ _ HCj.out.1, Below.keeps B4.out _ _ HCj.out.2⟩, RdL.below HLj.out B4.out⟩
              case measure => simp [intOf]; omega
            · clear hcc
              go_wp2_with fail
              exact ⟨⟨i + 1, by go_num, by omega, HEj.out⟩, by simp [intOf]; omega⟩
        · have hbelE := HE.out.bel
          have HBE := Lib.hid hbelE
          clear hbelE
          go_wp2_with fail
          refine (awake_any _).mono ?_; rintro e w9 ⟨rfl, hb9⟩
          go_wp2_with fail
          go_ret
          exact ⟨rfl, bstep HBE.out hb9⟩

theorem picks_walk (a : Option Addr) (k cap : Nat) (z : List Int) (n mask : Int) (w : World) (hr : IsRow .i64 w a k cap z) (hn : (Lit.int .i64 n).wf = true) (hm : (Lit.int .u8 mask).wf = true) :
    Calls Try.prog 3 #[.slice a k cap, .int .i64 n, .int .u8 mask] w fun e w' => e = .returned (.bool true) ∧ Below w.heap.size w w' := by
  obtain ⟨m, rfl, _⟩ := nat_of_u8 hm
  obtain ⟨l, _, h, _⟩ := isRow_ints hr
  by_cases hk : k ≤ 30
  · exact picks_core a k cap _ n m w h hk (bounds_of_i64 hn).2
  · exact picks_long a k cap _ n m w h (by omega) (bounds_of_i64 hn).2
end Go.Proofs.Ytffmdhloplindaa
