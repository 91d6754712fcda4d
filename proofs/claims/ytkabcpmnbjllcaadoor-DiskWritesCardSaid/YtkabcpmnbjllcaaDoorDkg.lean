/- The law's keeps: the walk. -/
import Derived.Test.YtkabcpmnbjllcaaDoorYv
namespace Go.Proofs.YtkabcpmnbjllcaaDoor
open Go.RowKit

theorem elemKp : ElemT Tryd.prog 53 52 3 32 := by
  obtain ⟨i, hi, hz, hs, hb⟩ := info_parts (P := Tryd.prog) (e := 52) (z := .agg #[.string ⟨#[]⟩, .int .i64 0, .int .i64 0]) (size := 3) (bytes := 32) (by kernel_rfl)
  exact ⟨Tryd.underlying53, by decide, i, _, hi, hz, hs, hb, rfl⟩
/-- v is a slice of keeps of the call's own. -/
def OwnK (w : World) (B : Nat) (v : Value) (l : List Kp) : Prop := w.ownsRow B 52 3 v l.length (l.flatMap kpC)
theorem OwnK.nil (w : World) (B : Nat) : OwnK w B (.slice none 0 0) [] := World.ownsRow_nil w B 52 3
theorem OwnK.rd {w : World} {B : Nat} {v : Value} {l : List Kp} (h : OwnK w B v l) : RdK w v l := own_rds (fun _ _ => rfl) (by decide) h
theorem take_next {α : Type} (l : List α) (k : Nat) (d : α) (h : k < l.length) : l.take (k + 1) = l.take k ++ [l.getD k d] := by
  rw [List.take_add_one, List.getD_eq_getElem?_getD, List.getElem?_eq_getElem h]; rfl
set_option maxRecDepth 100000 in
set_option maxHeartbeats 3200000 in
theorem keeps_any (v : Value) (l : List Kp) (w : World) (h : RdK w v l) (hs : l.length ≤ 1000) :
    Calls Tryd.prog 39 #[v] w fun e w' => ∃ v', e = .returned v' ∧ OwnK w' w.heap.size v' l ∧ Below w.heap.size w w' := by
  obtain ⟨a, cap, rfl, h1, h2, h3⟩ := h.shape
  have HR := Lib.hid h
  have HN := Lib.hid (fun k hk => take_next l k kp0 hk)
  have HLn := Lib.hid (show ∀ k, k ≤ l.length → (l.take k).length = k from fun k hk => by rw [List.length_take]; omega)
  have HAll := Lib.hid (show l.take l.length = l from List.take_length)
  clear h h3
  generalize l.length = n at *
  go_enter Tryd.func39, Tryd.ntmps39
  go_wp2_with fail
  go_loopw [3, 8] (fun v iv W => ∃ k : Nat, k ≤ n ∧ iv = .int .i64 (k : Int) ∧ Hid (OwnK W w.heap.size v (l.take k)) ∧ Hid (Below w.heap.size w W)) (fun _ iv _ => n - (intOf iv).toNat)
  case atStart => exact ⟨0, Nat.zero_le _, rfl, Lib.hid (OwnK.nil _ _), Lib.hid (Below.refl _ _)⟩
  case round =>
    obtain ⟨k, hk, rfl, HO, HB⟩ := hrel
    by_cases hlt : k < n
    · have i1 : (k : Int) < (n : Int) := by omega
      obtain ⟨b, off, rfl, c0, c1, c2⟩ := (HR.out.below HB.out).at hlt
      have HNk := Lib.hid (HN.out k hlt)
      change Hid (l.take (k + 1) = l.take k ++ [kpW l k]) at HNk
      have ho := HO.out
      unfold OwnK at ho
      rw [HLn.out k hk] at ho
      obtain ⟨la, lc, hv, _⟩ := own_form ho
      subst hv
      clear HO
      have hsz : w.heap.size ≤ wr.heap.size := HB.out.size
      generalize kpW l k = x at *
      obtain ⟨xn, xw, xt⟩ := x
      dsimp only at *
      have HBV := Lib.hid (show Below wr.heap.size wr ((wr.alloc (.cells #[.string (strB xn), .int .i64 xw, .int .i64 xt] 113)).alloc (.cells #[.string (strB xn), .int .i64 xw, .int .i64 xt] 52)) from ((Below.refl _ _).alloc (Nat.le_refl _) _).alloc (by simp) _)
      have HOw := Lib.hid (own_keep ho HBV.out)
      clear ho
      go_wp2_with (at_builtin; go_must (refine wpList_app (m := 1) rfl (.tmp 12) (.tmp 20) 53 rfl elemKp w.heap.size rfl HOw.out rfl (Rd.newK (wr.heap.size + 1) (wr.alloc (.cells #[.string (strB xn), .int .i64 xw, .int .i64 xt] 113)) (by simp) 3 [.string (strB xn), .int .i64 xw, .int .i64 xt] 52 1 rfl (by decide)) (fun u hu => by simp at hu; rcases hu with rfl | rfl | rfl <;> rfl) (by unfold maxLen; omega) (by omega) (by simp; omega) ?_); intro v4 w4 hown4 hgr4 hv4; clear hv4)
      have HB4 := Lib.hid (own_below ((HB.out.trans (HBV.out.mono hsz))) HOw.out (Nat.le_trans hsz HBV.out.size) hgr4)
      have HO4 := Lib.hid (show OwnK w4 w.heap.size v4 (l.take (k + 1)) from by
        unfold OwnK
        rw [HLn.out (k + 1) hlt, HNk.out, List.flatMap_append]
        exact hown4)
      clear hown4 hgr4
      go_wp2_with fail
      exact ⟨⟨k + 1, hlt, by go_num, HO4, HB4⟩, by simp [intOf]; omega⟩
    · have i1 : ¬ (k : Int) < (n : Int) := by omega
      obtain rfl : k = n := by omega
      go_wp2_with fail
      go_ret
      exact ⟨_, rfl, by rw [HAll.out] at HO; exact HO.out, HB.out⟩
end Go.Proofs.YtkabcpmnbjllcaaDoor
