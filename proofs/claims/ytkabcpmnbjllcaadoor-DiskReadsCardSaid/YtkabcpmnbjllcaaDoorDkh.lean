/- The law's operations in memory; cut: the walk. Printed by mkDkh.py. -/
import Derived.Test.YtkabcpmnbjllcaaDoorDkg
namespace Go.Proofs.YtkabcpmnbjllcaaDoor
open Go.RowKit

theorem elemKr : ElemT Tryd.prog 75 113 3 32 := by
  obtain ⟨i, hi, hz, hs, hb⟩ := info_parts (P := Tryd.prog) (e := 113) (z := .agg #[.string ⟨#[]⟩, .int .i64 0, .int .i64 0]) (size := 3) (bytes := 32) (by kernel_rfl)
  exact ⟨Tryd.underlying75, by decide, i, _, hi, hz, hs, hb, rfl⟩
/-- The first k keeps. -/
theorem slice_kp {w : World} {a : Option Addr} {n cap : Nat} {ws : List Kp} (h : RdK w (.slice a n cap) ws) (k : Nat) (hk : k ≤ n) (h0 : 0 < k) :
    ∃ a', (∀ W kh, (Instr.slice 75 (.slice a n cap) none (some (.int kh (k : Int))) none).run Tryd.prog W = .ok (.slice a' k cap) W) ∧ RdK w (.slice a' k cap) (ws.take k) := by
  obtain ⟨_, _, e, hc1, _⟩ := h.shape
  injection e with e1 e2 e3
  subst e1 e3
  obtain ⟨b, off, rfl, _⟩ := h.at (j := 0) (by omega)
  exact ⟨_, slice_to (P := Tryd.prog) elemKr (fun x hx => ⟨b, off, by injection hx with hx; exact hx.symm⟩) k (by omega), RdS.take h k hk⟩
abbrev opVal (o : Opr) (dv kv : Value) : Value := .agg #[.int .i64 o.kind, .string (strB o.name), .string (strB o.to), .int .i64 o.off, dv, kv]
structure BoxO (w : World) (b : Nat) (kd : Int) (nm nt : ByteArray) (off : Int) (dv kv : Value) : Prop where
  c0 : w.cell? ⟨b, 0, none⟩ = some (.int .i64 kd)
  c1 : w.cell? ⟨b, 1, none⟩ = some (.string nm)
  c2 : w.cell? ⟨b, 2, none⟩ = some (.string nt)
  c3 : w.cell? ⟨b, 3, none⟩ = some (.int .i64 off)
  c4 : w.cell? ⟨b, 4, none⟩ = some dv
  c5 : w.cell? ⟨b, 5, none⟩ = some kv
  f : ∀ i, w.frozen? ⟨b, i, none⟩ = false
section
variable {w w' : World} {b : Nat} {kd : Int} {nm nt : ByteArray} {off : Int} {dv kv : Value}
theorem BoxO.lt (h : BoxO w b kd nm nt off dv kv) : b < w.heap.size := World.block_lt_of_cell? w _ h.c0
theorem BoxO.below (h : BoxO w b kd nm nt off dv kv) (hb : Below w.heap.size w w') : BoxO w' b kd nm nt off dv kv :=
  ⟨Below.keeps hb _ _ h.c0, Below.keeps hb _ _ h.c1, Below.keeps hb _ _ h.c2, Below.keeps hb _ _ h.c3, Below.keeps hb _ _ h.c4, Below.keeps hb _ _ h.c5, fun i => (hb.frozen (p := ⟨b, i, none⟩) h.lt).trans (h.f i)⟩
theorem BoxO.set_ne {p : Addr} (h : BoxO w b kd nm nt off dv kv) (hne : b ≠ p.block) (u : Value) : BoxO (w.setCell p u) b kd nm nt off dv kv :=
  ⟨cell_set_ne h.c0 hne u, cell_set_ne h.c1 hne u, cell_set_ne h.c2 hne u, cell_set_ne h.c3 hne u, cell_set_ne h.c4 hne u, cell_set_ne h.c5 hne u, fun i => by rw [← h.f i]; simp⟩
theorem BoxO.set4 (h : BoxO w b kd nm nt off dv kv) (u : Value) : BoxO (w.setCell ⟨b, 4, none⟩ u) b kd nm nt off u kv :=
  ⟨cell_set_off h.c0 (by decide) u, cell_set_off h.c1 (by decide) u, cell_set_off h.c2 (by decide) u, cell_set_off h.c3 (by decide) u, cell_set_same h.c4 u, cell_set_off h.c5 (by decide) u, fun i => by rw [← h.f i]; simp⟩
theorem BoxO.set5 (h : BoxO w b kd nm nt off dv kv) (u : Value) : BoxO (w.setCell ⟨b, 5, none⟩ u) b kd nm nt off dv u :=
  ⟨cell_set_off h.c0 (by decide) u, cell_set_off h.c1 (by decide) u, cell_set_off h.c2 (by decide) u, cell_set_off h.c3 (by decide) u, cell_set_off h.c4 (by decide) u, cell_set_same h.c5 u, fun i => by rw [← h.f i]; simp⟩
end
set_option maxRecDepth 100000 in
set_option maxHeartbeats 3200000 in
theorem cut_any (o : Opr) (dv kv : Value) (w : World) (hd : RdB w dv o.data) (hk : RdK w kv o.keep) :
    Calls Tryd.prog 43 #[opVal o dv kv] w fun e w' => ∃ da dn dc ka kn kc, e = .returned (opVal (cutO o) (.slice da dn dc) (.slice ka kn kc)) ∧ RdB w' (.slice da dn dc) (cutO o).data ∧ RdK w' (.slice ka kn kc) (cutO o).keep ∧ Below w.heap.size w w' := by
  obtain ⟨da, dc, rfl, hd1, hd2, _⟩ := hd.shape0
  obtain ⟨ka, kc, rfl, hk1, hk2, _⟩ := hk.shape
  obtain ⟨kd, nm, nt, off, data, keep⟩ := o
  have HD := Lib.hid hd
  have HK := Lib.hid hk
  have HT := Lib.hid (fun h => List.take_of_length_le (l := data) (i := 200) h)
  have HU := Lib.hid (fun h => List.take_of_length_le (l := keep) (i := 10) h)
  have HS := Lib.hid (fun h => slice_by hd 200 h)
  have HV := Lib.hid (fun h => slice_kp hk 10 h (by decide))
  dsimp only [cutO, opVal] at *
  clear hd hk
  generalize data.take 200 = D at *
  generalize keep.take 10 = K at *
  generalize strB nm = snm at *
  generalize strB nt = sto at *
  generalize data.length = dl at *
  generalize keep.length = kl at *
  have HB := Lib.hid (show Below w.heap.size w ((w.alloc (.cells #[.int .i64 kd, .string snm, .string sto, .int .i64 off, .slice da dl dc, .slice ka kl kc] 85)).alloc (.cells #[.int .i64 0, .string ⟨#[]⟩, .string ⟨#[]⟩, .int .i64 0, .slice none 0 0, .slice none 0 0] 85)) from ((Below.refl _ _).alloc (Nat.le_refl _) _).alloc (by simp) _)
  have X := Lib.hid (show BoxO ((w.alloc (.cells #[.int .i64 kd, .string snm, .string sto, .int .i64 off, .slice da dl dc, .slice ka kl kc] 85)).alloc (.cells #[.int .i64 0, .string ⟨#[]⟩, .string ⟨#[]⟩, .int .i64 0, .slice none 0 0, .slice none 0 0] 85)) w.heap.size kd snm sto off (.slice da dl dc) (.slice ka kl kc) from ⟨by simp, by simp, by simp, by simp, by simp, by simp, fun i => by simp⟩)
  have R := Lib.hid (show BoxO ((w.alloc (.cells #[.int .i64 kd, .string snm, .string sto, .int .i64 off, .slice da dl dc, .slice ka kl kc] 85)).alloc (.cells #[.int .i64 0, .string ⟨#[]⟩, .string ⟨#[]⟩, .int .i64 0, .slice none 0 0, .slice none 0 0] 85)) (w.heap.size + 1) 0 ⟨#[]⟩ ⟨#[]⟩ 0 (.slice none 0 0) (.slice none 0 0) from ⟨by simp, by simp, by simp, by simp, by simp, by simp, fun i => by simp⟩)
  by_cases h1 : 200 < dl
  · by_cases h2 : 10 < kl
    · have i1 : (200 : Int) < (dl : Int) := by omega
      obtain ⟨dq, hs1, hr1⟩ := HS.out (by omega)
      change ∀ W kh, (Instr.slice 47 (.slice da dl dc) none (some (.int kh 200)) none).run Tryd.prog W = .ok (.slice dq 200 dc) W at hs1
      have i2 : (10 : Int) < (kl : Int) := by omega
      obtain ⟨kq, hs2, hr2⟩ := HV.out (by omega)
      change ∀ W kh, (Instr.slice 75 (.slice ka kl kc) none (some (.int kh 10)) none).run Tryd.prog W = .ok (.slice kq 10 kc) W at hs2
      have HR1 := Lib.hid hr1
      have HR2 := Lib.hid hr2
      clear hr1
      clear hr2
      clear HS HV HT HU HD HK
      go_enter Tryd.func43, Tryd.ntmps43
      go_upto_region 1 with fail
      generalize (w.alloc (.cells #[.int .i64 kd, .string snm, .string sto, .int .i64 off, .slice da dl dc, .slice ka kl kc] 85)).alloc (.cells #[.int .i64 0, .string ⟨#[]⟩, .string ⟨#[]⟩, .int .i64 0, .slice none 0 0, .slice none 0 0] 85) = W0 at *
      have x0 := X.out.c0
      have x1 := X.out.c1
      have x2 := X.out.c2
      have x3 := X.out.c3
      have x4 := X.out.c4
      have x5 := X.out.c5
      have xf := X.out.f
      have X1 := Lib.hid (X.out.set4 (.slice dq 200 dc))
      have R1 := Lib.hid (R.out.set_ne (p := ⟨w.heap.size, 4, none⟩) (by dsimp only; omega) (.slice dq 200 dc))
      have HB1 := Lib.hid (HB.out.setCell (p := ⟨w.heap.size, 4, none⟩) (Nat.le_refl _) (.slice dq 200 dc))
      go_upto_region 3 with fail
      clear x0 x1 x2 x3 x4 x5 xf X R HB
      generalize W0.setCell ⟨w.heap.size, 4, none⟩ (.slice dq 200 dc) = W1 at *
      have X := Lib.hid X1.out
      have R := Lib.hid R1.out
      have HB := Lib.hid HB1.out
      clear X1 R1 HB1
      have x0 := X.out.c0
      have x1 := X.out.c1
      have x2 := X.out.c2
      have x3 := X.out.c3
      have x4 := X.out.c4
      have x5 := X.out.c5
      have xf := X.out.f
      have X1 := Lib.hid (X.out.set5 (.slice kq 10 kc))
      have R1 := Lib.hid (R.out.set_ne (p := ⟨w.heap.size, 5, none⟩) (by dsimp only; omega) (.slice kq 10 kc))
      have HB1 := Lib.hid (HB.out.setCell (p := ⟨w.heap.size, 5, none⟩) (Nat.le_refl _) (.slice kq 10 kc))
      go_upto_region 5 with fail
      clear x0 x1 x2 x3 x4 x5 xf X R HB
      generalize W1.setCell ⟨w.heap.size, 5, none⟩ (.slice kq 10 kc) = W2 at *
      have X := Lib.hid X1.out
      have R := Lib.hid R1.out
      have HB := Lib.hid HB1.out
      clear X1 R1 HB1
      have x0 := X.out.c0
      have x1 := X.out.c1
      have x2 := X.out.c2
      have x3 := X.out.c3
      have x4 := X.out.c4
      have x5 := X.out.c5
      have r0 := R.out.c0
      have r1 := R.out.c1
      have r2 := R.out.c2
      have r3 := R.out.c3
      have r4 := R.out.c4
      have r5 := R.out.c5
      have rf := R.out.f
      go_wp2_with fail
      have HBF := ((((((HB.out.setCell (p := ⟨w.heap.size + 1, 0, none⟩) (Nat.le_add_right _ 1) (.int .i64 kd)).setCell (p := ⟨w.heap.size + 1, 1, none⟩) (Nat.le_add_right _ 1) (.string snm)).setCell (p := ⟨w.heap.size + 1, 2, none⟩) (Nat.le_add_right _ 1) (.string sto)).setCell (p := ⟨w.heap.size + 1, 3, none⟩) (Nat.le_add_right _ 1) (.int .i64 off)).setCell (p := ⟨w.heap.size + 1, 4, none⟩) (Nat.le_add_right _ 1) (.slice dq 200 dc)).setCell (p := ⟨w.heap.size + 1, 5, none⟩) (Nat.le_add_right _ 1) (.slice kq 10 kc))
      exact bodyPost_ret (v := .agg #[.int .i64 kd, .string snm, .string sto, .int .i64 off, .slice dq 200 dc, .slice kq 10 kc]) (by simp [results, Tryd.results43, go_sem, r0, r1, r2, r3, r4, r5]) rfl ⟨_, _, _, _, _, _, rfl, HR1.out.below HBF, HR2.out.below HBF, HBF⟩
    · have i1 : (200 : Int) < (dl : Int) := by omega
      obtain ⟨dq, hs1, hr1⟩ := HS.out (by omega)
      change ∀ W kh, (Instr.slice 47 (.slice da dl dc) none (some (.int kh 200)) none).run Tryd.prog W = .ok (.slice dq 200 dc) W at hs1
      have i2 : ¬ (10 : Int) < (kl : Int) := by omega
      have HR1 := Lib.hid hr1
      have HR2 := Lib.hid (show RdK w (.slice ka kl kc) K by have e := HU.out (by omega); rw [e]; exact HK.out)
      clear hr1
      clear HS HV HT HU HD HK
      go_enter Tryd.func43, Tryd.ntmps43
      go_upto_region 1 with fail
      generalize (w.alloc (.cells #[.int .i64 kd, .string snm, .string sto, .int .i64 off, .slice da dl dc, .slice ka kl kc] 85)).alloc (.cells #[.int .i64 0, .string ⟨#[]⟩, .string ⟨#[]⟩, .int .i64 0, .slice none 0 0, .slice none 0 0] 85) = W0 at *
      have x0 := X.out.c0
      have x1 := X.out.c1
      have x2 := X.out.c2
      have x3 := X.out.c3
      have x4 := X.out.c4
      have x5 := X.out.c5
      have xf := X.out.f
      have X1 := Lib.hid (X.out.set4 (.slice dq 200 dc))
      have R1 := Lib.hid (R.out.set_ne (p := ⟨w.heap.size, 4, none⟩) (by dsimp only; omega) (.slice dq 200 dc))
      have HB1 := Lib.hid (HB.out.setCell (p := ⟨w.heap.size, 4, none⟩) (Nat.le_refl _) (.slice dq 200 dc))
      go_upto_region 3 with fail
      clear x0 x1 x2 x3 x4 x5 xf X R HB
      generalize W0.setCell ⟨w.heap.size, 4, none⟩ (.slice dq 200 dc) = W1 at *
      have X := Lib.hid X1.out
      have R := Lib.hid R1.out
      have HB := Lib.hid HB1.out
      clear X1 R1 HB1
      have x0 := X.out.c0
      have x1 := X.out.c1
      have x2 := X.out.c2
      have x3 := X.out.c3
      have x4 := X.out.c4
      have x5 := X.out.c5
      have r0 := R.out.c0
      have r1 := R.out.c1
      have r2 := R.out.c2
      have r3 := R.out.c3
      have r4 := R.out.c4
      have r5 := R.out.c5
      have rf := R.out.f
      go_wp2_with fail
      have HBF := ((((((HB.out.setCell (p := ⟨w.heap.size + 1, 0, none⟩) (Nat.le_add_right _ 1) (.int .i64 kd)).setCell (p := ⟨w.heap.size + 1, 1, none⟩) (Nat.le_add_right _ 1) (.string snm)).setCell (p := ⟨w.heap.size + 1, 2, none⟩) (Nat.le_add_right _ 1) (.string sto)).setCell (p := ⟨w.heap.size + 1, 3, none⟩) (Nat.le_add_right _ 1) (.int .i64 off)).setCell (p := ⟨w.heap.size + 1, 4, none⟩) (Nat.le_add_right _ 1) (.slice dq 200 dc)).setCell (p := ⟨w.heap.size + 1, 5, none⟩) (Nat.le_add_right _ 1) (.slice ka kl kc))
      exact bodyPost_ret (v := .agg #[.int .i64 kd, .string snm, .string sto, .int .i64 off, .slice dq 200 dc, .slice ka kl kc]) (by simp [results, Tryd.results43, go_sem, r0, r1, r2, r3, r4, r5]) rfl ⟨_, _, _, _, _, _, rfl, HR1.out.below HBF, HR2.out.below HBF, HBF⟩
  · by_cases h2 : 10 < kl
    · have i1 : ¬ (200 : Int) < (dl : Int) := by omega
      have i2 : (10 : Int) < (kl : Int) := by omega
      obtain ⟨kq, hs2, hr2⟩ := HV.out (by omega)
      change ∀ W kh, (Instr.slice 75 (.slice ka kl kc) none (some (.int kh 10)) none).run Tryd.prog W = .ok (.slice kq 10 kc) W at hs2
      have HR1 := Lib.hid (show RdB w (.slice da dl dc) D by have e := HT.out (by omega); rw [e]; exact HD.out)
      have HR2 := Lib.hid hr2
      clear hr2
      clear HS HV HT HU HD HK
      go_enter Tryd.func43, Tryd.ntmps43
      go_upto_region 1 with fail
      generalize (w.alloc (.cells #[.int .i64 kd, .string snm, .string sto, .int .i64 off, .slice da dl dc, .slice ka kl kc] 85)).alloc (.cells #[.int .i64 0, .string ⟨#[]⟩, .string ⟨#[]⟩, .int .i64 0, .slice none 0 0, .slice none 0 0] 85) = W0 at *
      have x0 := X.out.c0
      have x1 := X.out.c1
      have x2 := X.out.c2
      have x3 := X.out.c3
      have x4 := X.out.c4
      have x5 := X.out.c5
      have xf := X.out.f
      have X1 := Lib.hid (X.out.set5 (.slice kq 10 kc))
      have R1 := Lib.hid (R.out.set_ne (p := ⟨w.heap.size, 5, none⟩) (by dsimp only; omega) (.slice kq 10 kc))
      have HB1 := Lib.hid (HB.out.setCell (p := ⟨w.heap.size, 5, none⟩) (Nat.le_refl _) (.slice kq 10 kc))
      go_upto_region 5 with fail
      clear x0 x1 x2 x3 x4 x5 xf X R HB
      generalize W0.setCell ⟨w.heap.size, 5, none⟩ (.slice kq 10 kc) = W2 at *
      have X := Lib.hid X1.out
      have R := Lib.hid R1.out
      have HB := Lib.hid HB1.out
      clear X1 R1 HB1
      have x0 := X.out.c0
      have x1 := X.out.c1
      have x2 := X.out.c2
      have x3 := X.out.c3
      have x4 := X.out.c4
      have x5 := X.out.c5
      have r0 := R.out.c0
      have r1 := R.out.c1
      have r2 := R.out.c2
      have r3 := R.out.c3
      have r4 := R.out.c4
      have r5 := R.out.c5
      have rf := R.out.f
      go_wp2_with fail
      have HBF := ((((((HB.out.setCell (p := ⟨w.heap.size + 1, 0, none⟩) (Nat.le_add_right _ 1) (.int .i64 kd)).setCell (p := ⟨w.heap.size + 1, 1, none⟩) (Nat.le_add_right _ 1) (.string snm)).setCell (p := ⟨w.heap.size + 1, 2, none⟩) (Nat.le_add_right _ 1) (.string sto)).setCell (p := ⟨w.heap.size + 1, 3, none⟩) (Nat.le_add_right _ 1) (.int .i64 off)).setCell (p := ⟨w.heap.size + 1, 4, none⟩) (Nat.le_add_right _ 1) (.slice da dl dc)).setCell (p := ⟨w.heap.size + 1, 5, none⟩) (Nat.le_add_right _ 1) (.slice kq 10 kc))
      exact bodyPost_ret (v := .agg #[.int .i64 kd, .string snm, .string sto, .int .i64 off, .slice da dl dc, .slice kq 10 kc]) (by simp [results, Tryd.results43, go_sem, r0, r1, r2, r3, r4, r5]) rfl ⟨_, _, _, _, _, _, rfl, HR1.out.below HBF, HR2.out.below HBF, HBF⟩
    · have i1 : ¬ (200 : Int) < (dl : Int) := by omega
      have i2 : ¬ (10 : Int) < (kl : Int) := by omega
      have HR1 := Lib.hid (show RdB w (.slice da dl dc) D by have e := HT.out (by omega); rw [e]; exact HD.out)
      have HR2 := Lib.hid (show RdK w (.slice ka kl kc) K by have e := HU.out (by omega); rw [e]; exact HK.out)
      clear HS HV HT HU HD HK
      go_enter Tryd.func43, Tryd.ntmps43
      go_upto_region 1 with fail
      generalize (w.alloc (.cells #[.int .i64 kd, .string snm, .string sto, .int .i64 off, .slice da dl dc, .slice ka kl kc] 85)).alloc (.cells #[.int .i64 0, .string ⟨#[]⟩, .string ⟨#[]⟩, .int .i64 0, .slice none 0 0, .slice none 0 0] 85) = W0 at *
      have x0 := X.out.c0
      have x1 := X.out.c1
      have x2 := X.out.c2
      have x3 := X.out.c3
      have x4 := X.out.c4
      have x5 := X.out.c5
      have r0 := R.out.c0
      have r1 := R.out.c1
      have r2 := R.out.c2
      have r3 := R.out.c3
      have r4 := R.out.c4
      have r5 := R.out.c5
      have rf := R.out.f
      go_wp2_with fail
      have HBF := ((((((HB.out.setCell (p := ⟨w.heap.size + 1, 0, none⟩) (Nat.le_add_right _ 1) (.int .i64 kd)).setCell (p := ⟨w.heap.size + 1, 1, none⟩) (Nat.le_add_right _ 1) (.string snm)).setCell (p := ⟨w.heap.size + 1, 2, none⟩) (Nat.le_add_right _ 1) (.string sto)).setCell (p := ⟨w.heap.size + 1, 3, none⟩) (Nat.le_add_right _ 1) (.int .i64 off)).setCell (p := ⟨w.heap.size + 1, 4, none⟩) (Nat.le_add_right _ 1) (.slice da dl dc)).setCell (p := ⟨w.heap.size + 1, 5, none⟩) (Nat.le_add_right _ 1) (.slice ka kl kc))
      exact bodyPost_ret (v := .agg #[.int .i64 kd, .string snm, .string sto, .int .i64 off, .slice da dl dc, .slice ka kl kc]) (by simp [results, Tryd.results43, go_sem, r0, r1, r2, r3, r4, r5]) rfl ⟨_, _, _, _, _, _, rfl, HR1.out.below HBF, HR2.out.below HBF, HBF⟩
end Go.Proofs.YtkabcpmnbjllcaaDoor
