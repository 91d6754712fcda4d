/- The walk over the law SchedPicks. -/
import Derived.Test.YtffmdhloplindaaWg
namespace Go.Proofs.Ytffmdhloplindaa
open Go.RowKit Go.Maps

theorem info3 : (Try.prog.info? 3).map (fun i => (i.zero, i.size, i.bytes)) = some (some (.int .i64 0), 1, 8) := by kernel_rfl
theorem elem22 : ElemT Try.prog 22 3 1 8 := by
  obtain ⟨i, h1, h2, h3, h4⟩ := info_parts info3
  exact ⟨Try.underlying22, by decide, i, _, h1, h2, h3, h4, rfl⟩
theorem rd_one (w : World) (u : Value) (e : TypeId) : Rd (w.alloc (.cells #[u] e)) 1 (.slice (some ⟨w.heap.size, 0, none⟩) 1 1) 1 [u] := Rd.new w 1 [u] e 1 rfl (by decide)
/-- The two lists that the law tries, in block b. -/
structure Env (w : World) (b : Nat) (v1 v2 : Value) (l1 l2 : List Int) (wr : World) : Prop where
  c1 : wr.cell? ⟨b, 0, none⟩ = some v1
  c2 : wr.cell? ⟨b, 1, none⟩ = some v2
  r1 : RdI wr v1 l1
  r2 : RdI wr v2 l2
  bel : Below w.heap.size w wr
theorem Env.keep {w : World} {b : Nat} {v1 v2 : Value} {l1 l2 : List Int} {wr w' : World} (h : Env w b v1 v2 l1 l2 wr) (hb : Below wr.heap.size wr w') : Env w b v1 v2 l1 l2 w' :=
  ⟨Below.keeps hb _ _ h.c1, Below.keeps hb _ _ h.c2, RdL.below h.r1 hb, RdL.below h.r2 hb, bstep h.bel hb⟩
theorem Env.at {w : World} {b : Nat} {v1 v2 : Value} {l1 l2 : List Int} {wr : World} (h : Env w b v1 v2 l1 l2 wr) (h1 : l1.length ≤ 30) (h2 : l2.length ≤ 30) {i : Nat} (hi : i < 2) :
    ∃ a n cap L, wr.cell? ⟨b, i, none⟩ = some (.slice a n cap) ∧ RdI wr (.slice a n cap) L ∧ L.length ≤ 30 := by
  by_cases e : i = 0
  · subst e
    obtain ⟨a, cap, rfl, _⟩ := h.r1.shape0
    exact ⟨_, _, _, l1, h.c1, h.r1, h1⟩
  · obtain rfl : i = 1 := by omega
    obtain ⟨a, cap, rfl, _⟩ := h.r2.shape0
    exact ⟨_, _, _, l2, h.c2, h.r2, h2⟩
theorem wf_and (n : Int) : (Lit.int .i64 (bits .and .i64 n 31)).wf = true := wf_bits _ _ _ _

set_option maxRecDepth 100000 in
set_option maxHeartbeats 2000000 in
theorem picks_core (a : Option Addr) (k cap : Nat) (l : List Int) (n : Int) (mask : Nat) (w : World) (h : RdI w (.slice a k cap) l) (hk : k ≤ 30) (hn : n ≤ 9223372036854775807) :
    Calls Try.prog 3 #[.slice a k cap, .int .i64 n, .int .u8 (mask : Int)] w fun e w' => e = .returned (.bool true) ∧ Below w.heap.size w w' := by
  have hl := h.bounds.1
  have H := Lib.hid h
  clear h
  go_enter Try.func3, Try.ntmps3
  go_wp2_with fail
  go_loopw [7, 8] (fun v iv wr => ∃ t : Nat, ∃ lst : List Int, iv = .int .i64 (t : Int) ∧ t ≤ 8 ∧ lst.length ≤ t ∧ wr.ownsRow w.heap.size 3 1 v lst.length (lst.map intV) ∧ Below w.heap.size w wr) (fun _ iv _ => 8 - (intOf iv).toNat)
  case atStart => exact ⟨0, [], rfl, by decide, by decide, World.ownsRow_nil _ _ _ _, Below.refl _ _⟩
  case round =>
    obtain ⟨t, lst, rfl, ht, hlst, hown, hbel⟩ := hrel
    have Hown := Lib.hid hown
    have Hb := Lib.hid hbel
    have hB := hbel.size
    clear hown hbel
    by_cases hlt : t < 8
    · go_wp2_with (at_builtin; refine wpList_app rfl (.tmp 36) (.tmp 39) 22 rfl elem22 w.heap.size rfl (Hown.out.alloc _) rfl (rd_one _ _ _) (one_map intV (fun _ => rfl) [3 * (t : Int)]) (by unfold maxLen; omega) (by omega) (by simp; omega) ?_; intro v2 w2 hown2 hgr2 hv2; clear hv2)
      · have hO : w2.ownsRow w.heap.size 3 1 v2 (lst ++ [3 * (t : Int)]).length ((lst ++ [3 * (t : Int)]).map intV) := by rw [List.length_append, map_snoc]; exact hown2
        go_roundw
        case rel => exact ⟨t + 1, lst ++ [3 * (t : Int)], by go_num, by omega, by simp; omega, hO, own_below (Hb.out.alloc hB _) (Hown.out.alloc _) (by simp; omega) hgr2⟩
        case measure => simp [intOf]; omega
      · exact ⟨⟨t + 1, lst, by go_num, by omega, by omega, Hown.out, Hb.out⟩, by simp [intOf]; omega⟩
    · have hrd2 : RdI wr _ lst := own_rdl Hown.out
      clear Hown
      obtain ⟨a2, cap2, rfl, _⟩ := hrd2.shape0
      have hlst2 : lst.length ≤ 30 := by omega
      have Hrd2 := Lib.hid hrd2
      clear hrd2 hlst ht
      generalize hn2 : lst.length = n2 at *
      go_wp2_with fail
      have henv : Env w wr.heap.size (.slice a k cap) (.slice a2 n2 cap2) l lst (wr.alloc (.cells #[.slice a k cap, .slice a2 n2 cap2] 22)) := by
        refine ⟨by simp, by simp, RdL.alloc (RdL.below H.out Hb.out) _, RdL.alloc Hrd2.out _, Hb.out.alloc hB _⟩
      have HEnv := Lib.hid henv
      have hl30 : l.length ≤ 30 := by omega
      have hn30 : lst.length ≤ 30 := by omega
      clear henv
      generalize hbk : wr.heap.size = bk at *
      generalize (wr.alloc (.cells #[.slice a k cap, .slice a2 n2 cap2] 22)) = wa at *
      go_loopw [45] (fun iv wr => ∃ i : Nat, iv = .int .i64 (i : Int) ∧ i ≤ 2 ∧ Env w bk (.slice a k cap) (.slice a2 n2 cap2) l lst wr) (fun iv _ => 2 - (intOf iv).toNat)
      case atStart => exact ⟨0, rfl, by decide, HEnv.out⟩
      case round =>
        obtain ⟨i, rfl, hi, henv⟩ := hrel
        have HE := Lib.hid henv
        clear henv
        by_cases hi2 : i < 2
        · obtain ⟨sa, sn, sc, L, hcell, hrdL, hL⟩ := HE.out.at hl30 hn30 hi2
          have HL := Lib.hid hrdL
          clear hrdL
          have hwm := bounds_of_i64 (wf_and n)
          have Hwm := Lib.hid hwm
          clear hwm
          go_wp2_with fail
          have HE2 := Lib.hid (HE.out.keep ((Below.refl _ _).alloc (Nat.le_refl _) (.cells #[.int .i64 n, .int .i64 (bits .and .i64 n 31)] 3)))
          have hc0 : (wr.alloc (.cells #[.int .i64 n, .int .i64 (bits .and .i64 n 31)] 3)).cell? ⟨wr.heap.size, 0, none⟩ = some (.int .i64 n) := by simp
          have hc1 : (wr.alloc (.cells #[.int .i64 n, .int .i64 (bits .and .i64 n 31)] 3)).cell? ⟨wr.heap.size, 1, none⟩ = some (.int .i64 (bits .and .i64 n 31)) := by simp
          have HC := Lib.hid (And.intro hc0 hc1)
          have HL2 := Lib.hid (RdL.alloc HL.out (.cells #[.int .i64 n, .int .i64 (bits .and .i64 n 31)] 3))
          clear hc0 hc1 HL HE hcell
          generalize wr.heap.size = b3 at *
          generalize (wr.alloc (.cells #[.int .i64 n, .int .i64 (bits .and .i64 n 31)] 3)) = wb at *
          generalize bits .and .i64 n 31 = n31 at *
          go_loopw [54] (fun jv wr => ∃ j : Nat, jv = .int .i64 (j : Int) ∧ j ≤ 2 ∧ Env w bk (.slice a k cap) (.slice a2 n2 cap2) l lst wr ∧ (wr.cell? ⟨b3, 0, none⟩ = some (.int .i64 n) ∧ wr.cell? ⟨b3, 1, none⟩ = some (.int .i64 n31)) ∧ RdI wr (.slice sa sn sc) L) (fun jv _ => 2 - (intOf jv).toNat)
          case atStart => exact ⟨0, rfl, by decide, HE2.out, HC.out, HL2.out⟩
          case round =>
            obtain ⟨j, rfl, hj, henv, hcc, hrdL⟩ := hrel
            have HEj := Lib.hid henv
            have HCj := Lib.hid hcc
            have HLj := Lib.hid hrdL
            clear henv hrdL
            by_cases hj2 : j < 2
            · obtain ⟨m, hmc, hmb⟩ : ∃ m, wr.cell? ⟨b3, j, none⟩ = some (.int .i64 m) ∧ m ≤ 9223372036854775807 := by
                by_cases e : j = 0
                · exact ⟨n, by rw [e]; exact hcc.1, hn⟩
                · exact ⟨n31, by rw [show j = 1 by omega]; exact hcc.2, Hwm.out.2⟩
              have HP := Lib.hid (pick_b _ L m wr HLj.out (by omega) hmb)
              have HP2 := Lib.hid fun w1 (hb : Below wr.heap.size wr w1) => rpick_any _ L m w1 (RdL.below HLj.out hb) (by omega) hmb
              have HN := Lib.hid fun w1 (hb : Below wr.heap.size wr w1) => next_b _ L m w1 (RdL.below HLj.out hb) (by omega)
              have HN2 := Lib.hid fun w1 (hb : Below wr.heap.size wr w1) => rnext_any _ L m w1 (RdL.below HLj.out hb) (by omega)
              clear hcc
              generalize pickV L m = x1 at *
              generalize pickE L m = x2 at *
              generalize nextW L m = x3 at *
              generalize nextE L = x4 at *
              go_wp2_with fail
              refine HP.out.mono ?_; rintro e w1 ⟨rfl, hb1⟩
              have B1 := Lib.hid hb1
              clear hb1
              go_wp2_with fail
              refine (HP2.out _ B1.out).mono ?_; rintro e w2 ⟨rfl, hb2⟩
              have B2 := Lib.hid (bstep B1.out hb2)
              clear hb2
              go_wp2_with fail
              refine (HN.out _ B2.out).mono ?_; rintro e w3 ⟨rfl, hb3⟩
              have B3 := Lib.hid (bstep B2.out hb3)
              clear hb3
              go_wp2_with fail
              refine (HN2.out _ B3.out).mono ?_; rintro e w4 ⟨rfl, hb4⟩
              have B4 := Lib.hid (bstep B3.out hb4)
              clear hb4
              go_wp2_with fail
              have hdec : decide ((i : Int) < 2) = true := by simp; omega
              rw [hdec]
              go_roundw
              case rel => exact ⟨j + 1, by go_num, by omega, HEj.out.keep B4.out, ⟨Below.keeps B4.out _ _ HCj.out.1, Below.keeps B4.out _ _ HCj.out.2⟩, RdL.below HLj.out B4.out⟩
              case measure => simp [intOf]; omega
            · clear hcc
              go_wp2_with fail
              exact ⟨⟨i + 1, by go_num, by omega, HEj.out⟩, by simp [intOf]; omega⟩
        · have hbelE := HE.out.bel
          have HBE := Lib.hid hbelE
          clear hbelE
          go_wp2_with fail
          refine (awake_any _).mono ?_; rintro e w9 ⟨rfl, hb9⟩
          go_wp2_with fail
          go_ret
          exact ⟨rfl, bstep HBE.out hb9⟩
end Go.Proofs.Ytffmdhloplindaa
