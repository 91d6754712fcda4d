/- IndexEncodes: the walk. -/
import Derived.Test.YtbfflgkijiggfaaLv
namespace Go.Proofs.Ytbfflgkijiggfaa
open Go.RowKit

/-- Two lists in the cells of block b. -/
structure Two (W : World) (b : Nat) (v1 v2 : Value) (l1 l2 : List It) : Prop where
  c1 : W.cell? ⟨b, 0, none⟩ = some v1
  c2 : W.cell? ⟨b, 1, none⟩ = some v2
  r1 : RdT W v1 l1
  r2 : RdT W v2 l2
theorem Two.below {W W' : World} {b : Nat} {v1 v2 : Value} {l1 l2 : List It} (h : Two W b v1 v2 l1 l2) (hb : Below W.heap.size W W') : Two W' b v1 v2 l1 l2 :=
  ⟨Below.keeps hb _ _ h.c1, Below.keeps hb _ _ h.c2, h.r1.below hb, h.r2.below hb⟩
theorem Two.at {W : World} {b : Nat} {v1 v2 : Value} {l1 l2 : List It} (h : Two W b v1 v2 l1 l2) {p : List It → Prop} (h1 : p l1) (h2 : p l2) {i : Nat} (hi : i < 2) :
    ∃ a n cap L, W.cell? ⟨b, i, none⟩ = some (.slice a n cap) ∧ RdT W (.slice a n cap) L ∧ p L := by
  by_cases e : i = 0
  · subst e
    obtain ⟨a, cap, rfl, _⟩ := h.r1.shape
    exact ⟨_, _, _, l1, h.c1, h.r1, h1⟩
  · obtain rfl : i = 1 := by omega
    obtain ⟨a, cap, rfl, _⟩ := h.r2.shape
    exact ⟨_, _, _, l2, h.c2, h.r2, h2⟩
/-- A list whose bytes are asked for. -/
def Mid (L : List It) : Prop := L.length ≤ 1000 ∧ ∀ x ∈ L, x.Kwf
theorem It.Wf.kwf {x : It} (h : x.Wf) : x.Kwf := ⟨h.1, h.2.1, h.2.2.1, h.2.2.2.1⟩
theorem mid_cut {l : List It} (h : ∀ x ∈ l, x.Wf) : Mid (l.take 40) := ⟨by rw [List.length_take]; omega, fun x hx => (h x (List.mem_of_mem_take hx)).kwf⟩
theorem mid_mk {l : List It} (h : ∀ x ∈ l, x.Wf) : Mid (mk l) := by
  refine ⟨Nat.le_trans (mk_length l) (by decide), fun x hx => ?_⟩
  obtain ⟨y, hy, rfl⟩ := List.mem_map.1 hx
  exact (srt_all (p := fun x => x.Kwf) (fun y hy => (h y (List.mem_of_mem_take hy)).kwf) y hy)
set_option maxHeartbeats 1000000 in
theorem lenc_core (v : Value) (l : List It) (w : World) (h : RdT w v l) (hw : ∀ x ∈ l, x.Wf) :
    Calls Try.prog 4 #[v] w fun e w' => e = .returned (.bool true) ∧ Below w.heap.size w w' := by
  have HC := Lib.hid (cut_any v l w h)
  have HM := Lib.hid (fun w h => made_any v l w h)
  have HP := Lib.hid (And.intro (mid_cut hw) (mid_mk hw))
  have Hr := Lib.hid h
  obtain ⟨a, cap, rfl, _, _⟩ := h.shape
  generalize mk l = m at *
  generalize l.take 40 = l4 at *
  clear h hw
  go_enter Try.func4, Try.ntmps4
  go_wp2_with fail
  refine HC.out.mono ?_; rintro e w0 ⟨⟨v1, rfl, hr1⟩, rfl⟩
  have Hr1 := Lib.hid hr1
  obtain ⟨a1, c1, rfl, _, _⟩ := hr1.shape
  clear hr1
  go_wp2_with fail
  refine (HM.out _ Hr.out).mono ?_; rintro e w2 ⟨v2, rfl, hown2, hb2⟩
  obtain ⟨a2, c2, rfl, _, _⟩ := hown2.rd.shape
  have HT := Lib.hid (show Two (w2.alloc (.cells #[.slice a1 l4.length c1, .slice a2 m.length c2] 22)) w2.heap.size (.slice a1 l4.length c1) (.slice a2 m.length c2) l4 m from ⟨by simp, by simp, (Hr1.out.below hb2).below ((Below.refl _ _).alloc (Nat.le_refl _) _), hown2.rd.below ((Below.refl _ _).alloc (Nat.le_refl _) _)⟩)
  have HB2 := Lib.hid (hb2.alloc hb2.size (.cells #[.slice a1 l4.length c1, .slice a2 m.length c2] 22))
  clear hown2 hb2
  obtain ⟨W, hW⟩ : ∃ W, W = w2.alloc (.cells #[.slice a1 l4.length c1, .slice a2 m.length c2] 22) := ⟨_, rfl⟩
  rw [← hW] at HT HB2
  have HWe := Lib.hid hW
  clear hW
  clear Hr1 HC HM
  go_wp2_with fail
  rw [← HWe.out]
  go_loopw [15] (fun iv wr => ∃ i : Nat, iv = .int .i64 (i : Int) ∧ i ≤ 2 ∧ Below W.heap.size W wr) (fun iv _ => 2 - (intOf iv).toNat)
  case atStart => exact ⟨0, rfl, by omega, Below.refl _ _⟩
  case round =>
    obtain ⟨i, rfl, hi, hb⟩ := hrel
    have Hb := Lib.hid hb
    clear hb
    by_cases hlt : i < 2
    · obtain ⟨ka, kn, kc, L, e1, hrL, hmid⟩ := (HT.out.below Hb.out).at (p := Mid) HP.out.1 HP.out.2 hlt
      have HrL := Lib.hid hrL
      have HMid := Lib.hid hmid
      clear hrL hmid
      cases hv : vldB L
      · have HE1 := Lib.hid (fun v w h => enc_bad v L w h hv)
        have HE2 := Lib.hid (fun v w h => renc_bad v L w h hv)
        clear hv
        go_wp2_with fail
        refine (HE1.out _ _ HrL.out).mono ?_; rintro e w3 ⟨rfl, hb3⟩
        have HR3 := Lib.hid (HrL.out.below hb3)
        have HB3 := Lib.hid (bstep Hb.out hb3)
        clear hb3
        go_wp2_with fail
        refine (HE2.out _ _ HR3.out).mono ?_; rintro e w4 ⟨rfl, hb4⟩
        have HB4 := Lib.hid (bstep HB3.out hb4)
        clear hb4
        have k1 := run_to_string (P := Try.prog) (w := w4) 27 9 5 Try.underlying27 Try.underlying5 Try.underlying9 (RdL.nil byteV w4)
        go_wp2_with fail
        exact ⟨⟨i + 1, by go_num, by omega, HB4.out⟩, by simp [intOf]; omega⟩
      · have HE1 := Lib.hid (fun v w h => enc_any v L w h HMid.out.2 HMid.out.1 hv)
        have HE2 := Lib.hid (fun v w h => renc_any v L w h HMid.out.2 HMid.out.1 hv)
        clear hv
        go_wp2_with fail
        refine (HE1.out _ _ HrL.out).mono ?_; rintro e w3 ⟨v3, rfl, hown3, hb3⟩
        have HR3 := Lib.hid (HrL.out.below hb3)
        have HB3 := Lib.hid (bstep Hb.out hb3)
        have HO3 := Lib.hid hown3.rd
        obtain ⟨a3, c3, rfl⟩ := OwnB.len hown3
        clear hb3 hown3
        go_wp2_with fail
        refine (HE2.out _ _ HR3.out).mono ?_; rintro e w4 ⟨v4, rfl, hown4, hb4⟩
        have HB4 := Lib.hid (bstep HB3.out hb4)
        have k1 := run_to_string (P := Try.prog) 27 9 5 Try.underlying27 Try.underlying5 Try.underlying9 (HO3.out.below hb4)
        have k2 := run_to_string (P := Try.prog) 27 9 5 Try.underlying27 Try.underlying5 Try.underlying9 hown4.rd
        obtain ⟨a4, c4, rfl⟩ := OwnB.len hown4
        generalize encB L = eb at *
        clear hb4 hown4
        go_wp2_with fail
        exact ⟨⟨i + 1, by go_num, by omega, HB4.out⟩, by simp [intOf]; omega⟩
    · obtain rfl : i = 2 := by omega
      go_wp2_with fail
      refine (awake_any _).mono ?_; rintro e w6 ⟨rfl, hb6⟩
      have HB6 := Lib.hid (bup HB2.out HB2.out.size (bstep Hb.out hb6))
      clear hb6
      go_wp2_with fail
      go_ret
      exact ⟨rfl, HB6.out⟩
theorem encodes_walk (a : Option Addr) (n cap : Nat) (w : World) (h : ∃ l, RdT w (.slice a n cap) l ∧ ∀ x ∈ l, x.Wf) :
    Calls Try.prog 4 #[.slice a n cap] w fun e w' => e = .returned (.bool true) ∧ Below w.heap.size w w' := by
  obtain ⟨l, h, hw⟩ := h
  exact lenc_core _ l w h hw
end Go.Proofs.Ytbfflgkijiggfaa
