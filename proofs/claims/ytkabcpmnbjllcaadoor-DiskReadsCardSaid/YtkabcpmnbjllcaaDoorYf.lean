/- Names of the program. -/
import Derived.Test.YtkabcpmnbjllcaaDoorYe
namespace Go.Proofs.YtkabcpmnbjllcaaDoor
open Go.RowKit

theorem elemS : ElemT Tryd.prog 59 9 1 16 := by
  obtain ⟨i, hi, hz, hs, hb⟩ := info_parts (P := Tryd.prog) (e := 9) (z := .string ⟨#[]⟩) (size := 1) (bytes := 16) (by kernel_rfl)
  exact ⟨Tryd.underlying59, by decide, i, _, hi, hz, hs, hb, rfl⟩
theorem Rd.newK (k : Nat) (w : World) (hk : w.heap.size = k) (sz : Nat) (cs : List Value) (e : TypeId) (n : Nat) (hn : cs.length = n * sz) (hm : n ≤ maxLen) : Rd (w.alloc (.cells cs.toArray e)) sz (.slice (some ⟨k, 0, none⟩) n n) n cs := by
  subst hk; exact Rd.new w sz cs e n hn hm
def strV (s : List UInt8) : Value := .string (strB s)
/-- v is a slice of strings of the call's own. -/
def OwnN (w : World) (B : Nat) (v : Value) (l : List (List UInt8)) : Prop := w.ownsRow B 9 1 v l.length (l.map strV)
theorem OwnN.nil (w : World) (B : Nat) : OwnN w B (.slice none 0 0) [] := World.ownsRow_nil w B 9 1
theorem names_take (l : List Fil) (k : Nat) (h : k < l.length) : (l.take (k + 1)).map (·.name) = (l.take k).map (·.name) ++ [(atN l k).name] := by
  unfold atN
  rw [List.take_add_one, List.getElem?_eq_getElem h, List.getD_eq_getElem?_getD, List.getElem?_eq_getElem h, List.map_append]
  rfl
set_option maxRecDepth 100000 in
set_option maxHeartbeats 1600000 in
theorem names_any (d : Dk) (fv : Value) (w : World) (h : RdF w fv d.files) (hL : LiteD d) :
    Calls Tryd.prog 33 #[diskVal d.cap d.left fv] w fun e w' => ∃ v', e = .returned v' ∧ OwnN w' w.heap.size v' (namesD d) ∧ Below w.heap.size w w' := by
  obtain ⟨a, cap, rfl, h1, h2, _⟩ := h.shape
  have HV := Lib.hid (fun W (hW : Below w.heap.size w W) => dvalid_any d.cap d.left _ d.files W (h.below hW) hL.fs)
  have HS := Lib.hid (show namesD d = if validD d then (d.files.take d.files.length).map (·.name) else [] by rw [List.take_length]; rfl)
  have HN := Lib.hid (show ∀ k, k < d.files.length → (d.files.take (k + 1)).map (·.name) = (d.files.take k).map (·.name) ++ [(atN d.files k).name] from fun k hk => names_take _ k hk)
  have HR := Lib.hid h
  have hlen := hL.len
  have hln : ∀ k, k ≤ d.files.length → ((d.files.take k).map (·.name)).length = k := fun k hk => by rw [List.length_map, List.length_take]; omega
  have HLn := Lib.hid hln
  clear h hL hln
  change Hid (∀ W, Below w.heap.size w W → Calls Tryd.prog 16 #[diskVal d.cap d.left (.slice a d.files.length cap)] W fun e w' => e = .returned (.bool (validD d)) ∧ Below W.heap.size W w') at HV
  generalize namesD d = R at *
  generalize validD d = vb at *
  obtain ⟨c, lf, fl⟩ := d
  dsimp only at *
  generalize fl.length = n at *
  have HBx := Lib.hid (show Below w.heap.size w (w.alloc (.cells #[.int .i64 c, .int .i64 lf, .slice a n cap] 33)) from (Below.refl _ _).alloc (Nat.le_refl _) _)
  have X := Lib.hid (BoxD.new w c lf (.slice a n cap) 33)
  go_enter Tryd.func33, Tryd.ntmps33
  go_wp2_with fail
  refine (HV.out _ HBx.out).mono ?_
  rintro e w2 ⟨rfl, hb⟩
  have HB2 := Lib.hid (bstep HBx.out hb)
  have x2 := (X.out.below hb).c2
  clear hb HV
  cases vb
  · go_wp2_with fail
    go_ret
    exact ⟨_, rfl, by rw [HS.out]; exact OwnN.nil _ _, HB2.out⟩
  · go_wp2_with fail
    go_loopw [3, 12] (fun v iv W => ∃ k : Nat, k ≤ n ∧ iv = .int .i64 (k : Int) ∧ Hid (OwnN W w.heap.size v ((fl.take k).map (·.name))) ∧ Hid (Below w.heap.size w W)) (fun _ iv _ => n - (intOf iv).toNat)
    case atStart => exact ⟨0, Nat.zero_le _, rfl, Lib.hid (OwnN.nil _ _), HB2⟩
    case round =>
      clear x2
      obtain ⟨k, hk, rfl, HO, HB⟩ := hrel
      by_cases hlt : k < n
      · have i1 : (k : Int) < (n : Int) := by omega
        obtain ⟨b, off, bv, pv, rfl, hbv, hpv, c0, c1, c2⟩ := (HR.out.below HB.out).at hlt
        obtain ⟨ba, bc, rfl, _⟩ := hbv.shape0
        obtain ⟨pa, pc, rfl, _⟩ := hpv.shape
        have HNk := Lib.hid (HN.out k hlt)
        have ho := HO.out
        unfold OwnN at ho
        rw [HLn.out k hk] at ho
        obtain ⟨la, lc, hv, _⟩ := own_form ho
        subst hv
        clear hbv hpv HO
        have hsz : w.heap.size ≤ wr.heap.size := HB.out.size
        generalize (atN fl k).base.length = l1 at *
        generalize (atN fl k).pend.length = l2 at *
        generalize (atN fl k).name = nm at *
        have HBV := Lib.hid (show Below wr.heap.size wr ((wr.alloc (.cells #[.string (strB nm), .slice ba l1 bc, .slice pa l2 pc] 69)).alloc (.cells #[.string (strB nm)] 9)) from ((Below.refl _ _).alloc (Nat.le_refl _) _).alloc (by simp) _)
        have HOw := Lib.hid (own_keep ho HBV.out)
        clear ho
        go_wp2_with (at_builtin; go_must (refine wpList_app (m := 1) rfl (.tmp 16) (.tmp 19) 59 rfl elemS w.heap.size rfl HOw.out rfl (Rd.newK (wr.heap.size + 1) (wr.alloc (.cells #[.string (strB nm), .slice ba l1 bc, .slice pa l2 pc] 69)) (by simp) 1 [.string (strB nm)] 9 1 rfl (by decide)) (fun u hu => by simp at hu; subst hu; rfl) (by unfold maxLen; omega) (by omega) (by simp; omega) ?_); intro v4 w4 hown4 hgr4 hv4; clear hv4)
        have HB4 := Lib.hid (own_below ((HB.out.trans (HBV.out.mono hsz))) HOw.out (Nat.le_trans hsz HBV.out.size) hgr4)
        have HO4 := Lib.hid (show OwnN w4 w.heap.size v4 ((fl.take (k + 1)).map (·.name)) from by
          unfold OwnN
          rw [HLn.out (k + 1) hlt, HNk.out, List.map_append]
          exact hown4)
        clear hown4 hgr4
        go_wp2_with fail
        exact ⟨⟨k + 1, hlt, by go_num, HO4, HB4⟩, by simp [intOf]; omega⟩
      · have i1 : ¬ (k : Int) < (n : Int) := by omega
        obtain rfl : k = n := by omega
        have HF := Lib.hid (HS.out)
        go_wp2_with fail
        go_ret
        exact ⟨_, rfl, by rw [HF.out]; exact HO.out, HB.out⟩
end Go.Proofs.YtkabcpmnbjllcaaDoor
