/- Several texts in one, each over the last: New, Arm and find of the reference: the walks. find of the reference: the walk. applied of the reference: the walk. Printed by mkYo.py. validFile of the reference: the walk. Content of the reference: the walk. total of the reference: the walk. next of the reference: the walk. -/
import Derived.Test.YtkabcpmnbjllcaaDoorYk
namespace Go.Proofs.YtkabcpmnbjllcaaDoor
open Go.RowKit

set_option maxRecDepth 100000 in
theorem rnew_any (limit : Int) (w : World) : Calls Tryd.prog 26 #[.int .i64 limit] w fun e w' => e = .returned (diskVal (max limit 0) (-1) nilS) ∧ Below w.heap.size w w' := by
  have HB0 := Lib.hid (show Below w.heap.size w (w.alloc (.cells #[.int .i64 0, .int .i64 0, .slice none 0 0] 24)) from (Below.refl _ _).alloc (Nat.le_refl _) _)
  have X := Lib.hid (BoxD.new w 0 0 (.slice none 0 0) 24)
  have hmx : max 0 limit = max limit 0 := by omega
  go_enter Tryd.func26, Tryd.ntmps26
  go_upto_region 1 with fail
  generalize w.alloc (.cells #[.int .i64 0, .int .i64 0, .slice none 0 0] 24) = W0 at *
  have r0 := X.out.c0
  have r1 := X.out.c1
  have r2 := X.out.c2
  have rf := X.out.f
  go_wp2_with fail
  exact bodyPost_ret (v := diskVal (max limit 0) (-1) nilS) (by simp [results, Tryd.results26, go_sem, r0, r1, r2]) rfl ⟨rfl, HB0.out.all3 (by omega) _ _ _⟩
set_option maxRecDepth 100000 in
theorem rarm_any (c lf m : Int) (fv : Value) (w : World) (hfv : ∃ a n k, fv = .slice a n k) : Calls Tryd.prog 22 #[diskVal c lf fv, .int .i64 m] w fun e w' => e = .returned (diskVal c (max m (-1)) fv) ∧ Below w.heap.size w w' := by
  obtain ⟨a, n, k, rfl⟩ := hfv
  have HB0 := Lib.hid (show Below w.heap.size w ((w.alloc (.cells #[.int .i64 c, .int .i64 lf, .slice a n k] 24)).alloc (.cells #[.int .i64 0, .int .i64 0, .slice none 0 0] 24)) from ((Below.refl _ _).alloc (Nat.le_refl _) _).alloc (by simp) _)
  have X := Lib.hid (show BoxD ((w.alloc (.cells #[.int .i64 c, .int .i64 lf, .slice a n k] 24)).alloc (.cells #[.int .i64 0, .int .i64 0, .slice none 0 0] 24)) w.heap.size c lf (.slice a n k) from ⟨by simp, by simp, by simp, fun i => by simp⟩)
  have R := Lib.hid (show BoxD ((w.alloc (.cells #[.int .i64 c, .int .i64 lf, .slice a n k] 24)).alloc (.cells #[.int .i64 0, .int .i64 0, .slice none 0 0] 24)) (w.heap.size + 1) 0 0 (.slice none 0 0) from ⟨by simp, by simp, by simp, fun i => by simp⟩)
  have hmx : max (-1) m = max m (-1) := by omega
  go_enter Tryd.func22, Tryd.ntmps22
  go_upto_region 1 with fail
  generalize (w.alloc (.cells #[.int .i64 c, .int .i64 lf, .slice a n k] 24)).alloc (.cells #[.int .i64 0, .int .i64 0, .slice none 0 0] 24) = W0 at *
  have x1 := X.out.c1
  have xf := X.out.f
  go_upto_region 2 with fail
  have X3 := Lib.hid (X.out.set1 (max m (-1)))
  have R3 := Lib.hid (R.out.set_ne (p := ⟨w.heap.size, 1, none⟩) (by dsimp only; omega) (.int .i64 (max m (-1))))
  have HB3 := Lib.hid (HB0.out.setCell (p := ⟨w.heap.size, 1, none⟩) (Nat.le_refl _) (.int .i64 (max m (-1))))
  clear x1 xf
  generalize W0.setCell ⟨w.heap.size, 1, none⟩ (.int .i64 (max m (-1))) = W3 at *
  have x0 := X3.out.c0
  have x1 := X3.out.c1
  have x2 := X3.out.c2
  have r0 := R3.out.c0
  have r1 := R3.out.c1
  have r2 := R3.out.c2
  have rf := R3.out.f
  go_wp2_with fail
  exact bodyPost_ret (v := diskVal c (max m (-1)) (.slice a n k)) (by simp [results, Tryd.results22, go_sem, r0, r1, r2]) rfl ⟨rfl, HB3.out.all3 (by omega) _ _ _⟩
/-- Where the reference finds a name. -/
def rfndI (l : List Fil) (s : List UInt8) : Int := if hasN l s then (lowN l s : Int) else -1
theorem rfnd_at {l : List Fil} {s : List UInt8} (ha : l.Pairwise (fun a b => a.name < b.name)) {i : Nat} (hi : i < l.length) (h : (atN l i).name = s) : rfndI l s = (i : Int) := by
  have hl : lowN l s = i := lowN_of (by omega) (fun k hk => by
      subst hk
      rw [← h]
      have := List.pairwise_iff_getElem.1 ha k (k + 1) (by omega) hi (by omega)
      unfold atN
      rw [List.getD_eq_getElem?_getD, List.getElem?_eq_getElem (by omega), List.getD_eq_getElem?_getD, List.getElem?_eq_getElem hi]
      exact this) (fun _ hlt => by rw [h] at hlt; exact List.lt_irrefl _ hlt) ha
  unfold rfndI
  rw [if_pos ((hasN_iff ha s).2 ⟨by omega, by rw [hl]; exact h⟩), hl]
theorem rfnd_no {l : List Fil} {s : List UInt8} (ha : l.Pairwise (fun a b => a.name < b.name)) (h : ∀ j, j < l.length → (atN l j).name ≠ s) : rfndI l s = -1 := by
  unfold rfndI
  rw [if_neg fun hh => ?_]
  obtain ⟨h1, h2⟩ := (hasN_iff ha s).1 hh
  exact h _ h1 h2
end Go.Proofs.YtkabcpmnbjllcaaDoor

namespace Go.Proofs.YtkabcpmnbjllcaaDoor
open Go.RowKit

set_option maxHeartbeats 800000 in
theorem rfind_any (c lf : Int) (fv : Value) (l : List Fil) (s : List UInt8) (w : World) (h : RdF w fv l) (ha : l.Pairwise (fun a b => a.name < b.name)) (hs : l.length ≤ 1000000) :
    Calls Tryd.prog 90 #[diskVal c lf fv, .string (strB s)] w fun e w' => e = .returned (.int .i64 (rfndI l s)) ∧ Below w.heap.size w w' := by
  obtain ⟨a, cap, rfl, h1, h2, _⟩ := h.shape
  have HR := Lib.hid h
  have HAt := Lib.hid (fun i hi e => rfnd_at (l := l) (s := s) ha (i := i) hi e)
  have HNo := Lib.hid (rfnd_no (l := l) (s := s) ha)
  have HSm := Lib.hid (fun j => same_str (atN l j).name s)
  have X := Lib.hid (BoxD.new w c lf (.slice a l.length cap) 24)
  have HB0 := Lib.hid (show Below w.heap.size w (w.alloc (.cells #[.int .i64 c, .int .i64 lf, .slice a l.length cap] 24)) from (Below.refl _ _).alloc (Nat.le_refl _) _)
  clear h ha
  generalize rfndI l s = R at *
  generalize l.length = n at *
  go_enter Tryd.func90, Tryd.ntmps90
  go_upto_region 1 with fail
  generalize w.alloc (.cells #[.int .i64 c, .int .i64 lf, .slice a n cap] 24) = W0 at *
  have x2 := X.out.c2
  go_wp2_with fail
  go_loop [5] (fun iv => ∃ i : Nat, iv = .int .i64 (i : Int) ∧ i ≤ n ∧ Hid (∀ j, j < i → (atN l j).name ≠ s)) (fun iv => n - (intOf iv).toNat)
  case atStart => exact ⟨0, rfl, Nat.zero_le _, Lib.hid (fun j hj => by omega)⟩
  case round =>
    obtain ⟨i, rfl, hi, HNe⟩ := hrel
    by_cases hlt : i < n
    · have i1 : (i : Int) < (n : Int) := by omega
      obtain ⟨b, off, bv, pv, rfl, hb, hp, c0, c1, c2⟩ := (HR.out.below HB0.out).at hlt
      have HF := Lib.hid (fun h => HAt.out i hlt h)
      have HN := Lib.hid (show (atN l i).name ≠ s → ∀ j, j < i + 1 → (atN l j).name ≠ s from fun h j hj => by
        by_cases e : j = i
        · rw [e]; exact h
        · exact HNe.out j (by omega))
      have hsm := HSm.out i
      have hq : ((atN l i).name == s) = true ∨ ((atN l i).name == s) = false := by cases (atN l i).name == s <;> simp
      clear hb hp c1 c2
      rcases hq with hq | hq
      · have HF2 := Lib.hid (HF.out (by simpa using hq))
        rw [hq] at hsm
        clear HF HN HNe hq
        generalize (atN l i).name = nm at *
        go_wp2_with fail
        go_ret
        exact ⟨by rw [HF2.out]; rfl, HB0.out⟩
      · have HN2 := Lib.hid (HN.out (by simpa using hq))
        rw [hq] at hsm
        clear HF HN HNe hq
        generalize (atN l i).name = nm at *
        go_wp2_with fail
        exact ⟨⟨i + 1, by go_num, by omega, HN2⟩, by simp [intOf]; omega⟩
    · have i1 : ¬ (i : Int) < (n : Int) := by omega
      have HE := Lib.hid (HNo.out (fun j hj => HNe.out j (by omega)))
      go_wp2_with fail
      go_ret
      exact ⟨by rw [HE.out]; rfl, HB0.out⟩
end Go.Proofs.YtkabcpmnbjllcaaDoor

namespace Go.Proofs.YtkabcpmnbjllcaaDoor
open Go.RowKit

theorem zer_snoc (b : List UInt8) (k : Nat) : b ++ zer (k + 1) = (b ++ zer k) ++ [0] := by
  unfold zer
  rw [List.replicate_succ', List.append_assoc]
theorem put_ext (b data : List UInt8) (o : Nat) (h : (b ++ zer (o - b.length)).length < o + data.length) : putW b o data = (b ++ zer (o - b.length)).take o ++ data := by
  rw [List.length_append, zer_length] at h
  unfold putW
  rw [List.drop_of_length_le (l := b) (by omega), List.append_nil]
theorem put_over (b data : List UInt8) (o : Nat) (h : o + data.length ≤ (b ++ zer (o - b.length)).length) : putW b o data = (b ++ zer (o - b.length)).take o ++ data ++ (b ++ zer (o - b.length)).drop (o + data.length) := by
  rw [List.length_append, zer_length] at h
  unfold putW
  congr 1
  by_cases hb : o ≤ b.length
  · rw [show o - b.length = 0 by omega]; simp [zer]
  · rw [List.drop_of_length_le (l := b) (by omega), List.drop_of_length_le (by rw [List.length_append, zer_length]; omega)]
theorem BoxW.low {w w' : World} {b B : Nat} {o : Int} {dv : Value} {cut : Bool} (h : BoxW w b o dv cut) (hb : Below B w w') (hlt : b < B) : BoxW w' b o dv cut := by
  have e := hb.block b hlt
  exact ⟨by rw [← h.c0]; unfold World.cell?; simp only [e], by rw [← h.c1]; unfold World.cell?; simp only [e], by rw [← h.c2]; unfold World.cell?; simp only [e]⟩
theorem OwnU.mid {w : World} {B : Nat} {v : Value} {b : List UInt8} (h : OwnU w B v b) (o m : Nat) (ho : o + m ≤ b.length) : ∃ sl, ∀ W kl kh, (Instr.slice 47 v (some (.int kl (o : Int))) (some (.int kh ((o + m : Nat) : Int))) none).run Tryd.prog W = .ok sl W := by
  have hrd := h.rd
  obtain ⟨ba, bc, rfl, _⟩ := hrd.shape0
  obtain ⟨x1, y1, g1, _⟩ := RdL.part (P := Tryd.prog) elemU8 hrd o (o + m) (by omega) ho
  exact ⟨_, g1⟩
/-- The bytes behind a copy into a part. -/
theorem OwnU.copyS {w : World} {B : Nat} {v dv sl : Value} {b data : List UInt8} (h : OwnU w B v b) (o : Nat) (hsl : ∀ W kl kh, (Instr.slice 47 v (some (.int kl (o : Int))) (some (.int kh ((o + data.length : Nat) : Int))) none).run Tryd.prog W = .ok sl W) (hd : RdB w dv data) (hB : B ≤ w.heap.size) (ho : o + data.length ≤ b.length) :
    ∃ n w', (∀ ty, (Builtin.copy_ #[47, 47] ty #[sl, dv]).run Tryd.prog w = .ok n w') ∧ OwnU w' B v (b.take o ++ data ++ b.drop (o + data.length)) ∧ Below B w w' := by
  have hown : w.ownsRow B 5 1 v b.length (b.map byteV) := h
  have hrd := h.rd
  obtain ⟨a, c, rfl, h1, _⟩ := h.form
  obtain ⟨da, dc, rfl, hd1, hd2, hd3⟩ := hd.shape0
  by_cases h0 : data = []
  · subst h0
    obtain ⟨x1, y1, g1, _⟩ := RdL.part (P := Tryd.prog) elemU8 hrd o o (Nat.le_refl _) (by simpa using ho)
    have hsz : (Tryd.prog.info? 5).map (·.size) = some 1 := by kernel_rfl
    have e := (hsl w .i64 .i64).symm.trans (g1 w .i64 .i64)
    injection e with e
    subst e
    refine ⟨goInt 0, w, fun ty => run_copy_none (P := Tryd.prog) w 47 47 ty 5 x1 da _ _ _ _ Tryd.underlying47 hsz (by simp), ?_, Below.refl _ _⟩
    simpa using h
  · have hdl : 0 < data.length := List.length_pos_iff.2 h0
    obtain ⟨g, rfl, hgB, hgl⟩ : ∃ g, a = some ⟨g, 0, none⟩ ∧ B ≤ g ∧ g < w.heap.size := by
      rcases hown.2 with ⟨e, e0⟩ | ⟨g, _, cur, e, hb, hg, _⟩
      · omega
      · injection e with e _ _
        exact ⟨g, e, hb, (Array.getElem?_eq_some_iff.1 hg).1⟩
    have g1 : ∀ W, (Instr.slice 47 (.slice (some ⟨g, 0, none⟩) b.length c) (some (.int .i64 (o : Int))) (some (.int .i64 ((o + data.length : Nat) : Int))) none).run Tryd.prog W = .ok (.slice (some ⟨g, o * 1, none⟩) data.length (c - o)) W := fun W => by
      obtain ⟨u1, u2⟩ := elem_of (P := Tryd.prog) elemU8
      rw [run_slice_lh W 47 (some ⟨g, 0, none⟩) b.length c u1 .i64 .i64 (o : Int) ((o + data.length : Nat) : Int) (by omega) (by omega) (by omega), u2]
      have : c ≠ o := by omega
      simp [Result.andThen, sliced, this, addr_add]
      omega
    have e := (hsl w .i64 .i64).symm.trans (g1 w)
    injection e with e
    subst e
    obtain ⟨w', hcp, hown', hgr⟩ := copy_row (P := Tryd.prog) (sT := 47) elemU8 hown hd o data.length (c - o) data.length (by show _ = min _ _; omega) hdl (by decide) ho (fun u hu => bytes_one data u (List.mem_of_mem_take hu))
    have e : (b.map byteV).take (o * 1) ++ (data.map byteV).take (data.length * 1) ++ (b.map byteV).drop (o * 1 + data.length * 1) = (b.take o ++ data ++ b.drop (o + data.length)).map byteV := by
      simp only [Nat.mul_one, List.map_append, List.map_take, List.map_drop]
      rw [List.take_of_length_le (l := data.map byteV) (by rw [List.length_map]; exact Nat.le_refl _)]
    have el : (b.take o ++ data ++ b.drop (o + data.length)).length = b.length := by
      rw [List.length_append, List.length_append, List.length_take, List.length_drop]; omega
    rw [e] at hown'
    exact ⟨_, w', hcp, by unfold OwnU; rw [el]; exact hown', (Below.refl B w).grown hgr hB (fun q hq => by injection hq with hq; omega)⟩
theorem OwnU.takeS {w : World} {B : Nat} {a : Option Addr} {n c : Nat} {b : List UInt8} (h : OwnU w B (.slice a n c) b) (k : Nat) (hk : k ≤ n) : OwnU w B (.slice a k c) (b.take k) := by
  have hf := h.form
  obtain ⟨_, _, e, _⟩ := hf
  injection e with _ e2 _
  subst e2
  have ho := own_take (show w.ownsRow B 5 1 (.slice a b.length c) b.length (b.map byteV) from h) k hk
  unfold OwnU
  rw [List.length_take, Nat.min_eq_left hk, List.map_take]
  simpa using ho
set_option maxRecDepth 100000 in
set_option maxHeartbeats 1600000 in
theorem rapplied_any (o : Nat) (data b : List UInt8) (cut : Bool) (dv bv : Value) (w : World) (hb : RdB w bv b) (hd : RdB w dv data) (ho : o ≤ 2000000) (hdl : data.length ≤ 2000000) (hbl : b.length ≤ 4000000) :
    Calls Tryd.prog 62 #[bv, .agg #[.int .i64 (o : Int), dv, .bool cut]] w fun e w' => ∃ v', e = .returned v' ∧ OwnU w' w.heap.size v' (appl ⟨(o : Int), data, cut⟩ b) ∧ Below w.heap.size w w' := by
  obtain ⟨ba, bc, rfl, hb1, hb2, _⟩ := hb.shape0
  obtain ⟨da, dc, rfl, hd1, hd2, _⟩ := hd.shape0
  have Hd := Lib.hid hd
  have Hr := Lib.hid hb
  have hbq : Below w.heap.size w (w.alloc (.cells #[.int .i64 (o : Int), .slice da data.length dc, .bool cut] 94)) := (Below.refl _ _).alloc (Nat.le_refl _) _
  have Y := Lib.hid (show BoxW (w.alloc (.cells #[.int .i64 (o : Int), .slice da data.length dc, .bool cut] 94)) w.heap.size (o : Int) (.slice da data.length dc) cut from ⟨by simp, by simp, by simp⟩)
  have HB1 := Lib.hid hbq
  have hs1 : w.heap.size + 1 ≤ (w.alloc (.cells #[.int .i64 (o : Int), .slice da data.length dc, .bool cut] 94)).heap.size := by simp
  clear hb hd hbq
  generalize hdn : data.length = dn at *
  have Hdn := Lib.hid hdn
  clear hdn
  generalize hbn : b.length = bn at *
  have Hbn := Lib.hid hbn
  clear hbn
  unfold maxLen at hb2 hd2
  go_enter Tryd.func62, Tryd.ntmps62
  go_upto_region 1 with fail
  generalize w.alloc (.cells #[.int .i64 (o : Int), .slice da dn dc, .bool cut] 94) = w1 at *
  have HR1 := Lib.hid (show Rd w1 1 (.slice ba bn bc) bn (b.map byteV) from Hbn.out ▸ (Hr.out.below HB1.out))
  have hw0 : w.heap.size ≤ w1.heap.size := HB1.out.size
  go_upto_region 2 with (at_builtin; go_must (refine wpList_app rfl (.tmp 7) (.tmp 8) 47 rfl elemU8 (w.heap.size + 1) rfl (World.ownsRow_made (size := 1) _ #[] 0 hs1 (by decide) rfl) rfl (HR1.out.alloc _) (bytes_one b) (by unfold maxLen; omega) (by omega) (by simp; omega) ?_); intro v3 w3 hown3 hgr3 hv3; clear hv3)
  have HB3 := Lib.hid (own_below ((Below.refl (w.heap.size + 1) w1).alloc hs1 _) (World.ownsRow_made (e := 5) (size := 1) w1 #[] 0 hs1 (by decide) rfl) (by simp; omega) hgr3)
  have HO3 := Lib.hid (OwnU.of hown3 (List.nil_append _))
  have Y3 := Lib.hid (Y.out.low HB3.out (Nat.lt_succ_self _))
  have HBw := Lib.hid (HB1.out.trans (HB3.out.mono (Nat.le_succ _)))
  have hs3 : w.heap.size + 1 ≤ w3.heap.size := Nat.le_trans hs1 HB3.out.size
  obtain ⟨a3, c3, e3, h31, h32, h33⟩ := own_form hown3
  subst e3
  clear hown3 hgr3 HR1 Y HB1 HB3
  rw [Nat.zero_add] at *
  cases cut
  · have HA := Lib.hid (show appl ⟨(o : Int), data, false⟩ b = putW b o data by unfold appl; simp)
    have HPe := Lib.hid (put_ext b data o)
    have HPo := Lib.hid (put_over b data o)
    have HL := Lib.hid (show ∀ k, (b ++ zer k).length = b.length + k from fun k => by rw [List.length_append, zer_length])
    generalize hAP : appl ⟨(o : Int), data, false⟩ b = AP at *
    have HAP := Lib.hid hAP
    clear hAP
    have x2 := Y3.out.c2
    go_wp2_with fail
    clear x2
    go_loopw [5] (fun v W => ∃ (k : Nat) (a : Option Addr) (c : Nat), v = .slice a (bn + k) c ∧ (k = 0 ∨ bn + k ≤ o) ∧ Hid (OwnU W (w.heap.size + 1) (.slice a (bn + k) c) (b ++ zer k)) ∧ Hid (Below (w.heap.size + 1) w3 W)) (fun v _ => match v with | .slice _ n _ => o - n | _ => 0)
    case atStart => exact ⟨0, _, _, rfl, .inl rfl, Lib.hid (by rw [show b ++ zer 0 = b from List.append_nil b]; exact HO3.out), Lib.hid (Below.refl _ _)⟩
    case round =>
      obtain ⟨k, a, c, rfl, hk, HO, HB⟩ := hrel
      have Yr := Lib.hid (Y3.out.low HB.out (Nat.lt_succ_self _))
      have x0 := Yr.out.c0
      have hsr : w.heap.size + 1 ≤ wr.heap.size := Nat.le_trans hs3 HB.out.size
      have ho1 := HO.out
      unfold OwnU at ho1
      rw [HL.out, Hbn.out] at ho1
      by_cases hlt : bn + k < o
      · have i1 : (bn : Int) + (k : Int) < (o : Int) := by omega
        have hbq : Below wr.heap.size wr (wr.alloc (.cells #[.int .u8 0] 5)) := (Below.refl _ _).alloc (Nat.le_refl _) _
        have HOw := Lib.hid (own_keep ho1 hbq)
        have HBq := Lib.hid (HB.out.trans (hbq.mono hsr))
        clear hbq ho1 HO
        generalize hen : bn + k = en at *
        go_wp2_with (at_builtin; go_must (refine wpList_app (m := 1) rfl (.tmp 24) (.tmp 25) 47 rfl elemU8 (w.heap.size + 1) rfl HOw.out rfl (Rd.new wr 1 [.int .u8 0] 5 1 rfl (by decide)) (fun u hu => by simp at hu; subst hu; rfl) (by unfold maxLen; omega) (by omega) (by simp; omega) ?_); intro v4 w4 hown4 hgr4 hv4; clear hv4)
        have HB4 := Lib.hid (own_below HBq.out HOw.out (by simp; omega) hgr4)
        obtain ⟨a4, c4, e4, _⟩ := own_form hown4
        subst e4
        have HO4 := Lib.hid (show OwnU w4 (w.heap.size + 1) (.slice a4 (bn + (k + 1)) c4) (b ++ zer (k + 1)) from by
          unfold OwnU
          rw [HL.out, Hbn.out, zer_snoc, List.map_append, show bn + (k + 1) = en + 1 by omega]
          exact hown4)
        have e5 : en + 1 = bn + (k + 1) := by omega
        clear hown4 hgr4
        go_wp2_with fail
        exact ⟨⟨k + 1, a4, c4, by rw [e5], .inr (by omega), HO4, HB4⟩, by dsimp only; omega⟩
      · have i1 : ¬ (bn : Int) + (k : Int) < (o : Int) := by omega
        have hko : o - bn = k := by omega
        have hkb : k ≤ 2000000 := by omega
        obtain ⟨_, _, ea, hq1, hq2, hsp⟩ := own_form ho1
        injection ea with ea1 _ ea3
        subst ea1 ea3
        rw [Hbn.out, hko, HL.out, Hbn.out, Hdn.out] at HPe HPo
        have x1 := Yr.out.c1
        have hen0 : o ≤ bn + k := by omega
        unfold maxLen at hq2
        generalize hEb : b ++ zer k = Eb at *
        generalize hen : bn + k = en at *
        have HEl := Lib.hid (show Eb.length = en from by rw [← hEb, HL.out, Hbn.out]; exact hen)
        have hen2 : en ≤ 6000000 := by omega
        have hei : (bn : Int) + (k : Int) = (en : Int) := by omega
        clear hEb ho1 HL hk i1 hko hkb hlt
        have hwr : w.heap.size < wr.heap.size := by omega
        have HT := Lib.hid (HO.out.takeS o hen0)
        have HTl := Lib.hid (show (Eb.take o).length = o by rw [List.length_take, HEl.out]; omega)
        have i1 : ¬ (en : Int) < (o : Int) := by omega
        by_cases hx : en < o + dn
        · have i2 : (en : Int) < (o : Int) + (dn : Int) := by omega
          have HR := Lib.hid (show AP = Eb.take o ++ data by rw [HA.out]; exact HPe.out (by omega))
          have gto := slice_to (P := Tryd.prog) elemU8 (a := a) (n := en) (cap := c) hsp o (by omega)
          go_upto_region 8 with fail
          clear x0 x1
          refine wp_region_rel [eqS (.slice a en c), eqS (.pointer (some ⟨w.heap.size, 0, none⟩)), eqS (.int .i64 (o : Int)), eqS (.slice a o c), eqS (.pointer (some ⟨w.heap.size, 1, none⟩)), eqS (.slice da dn dc)] [] 53 (by kernel_rfl) (by kernel_rfl) (by rfl) (by kernel_rfl) (fun f => by simp [frm, dstOf, Act.put]; exact rfl) ?_ ?_
          · refine ⟨?_, ?_, ?_, ?_, ?_, ?_, trivial⟩
            · intro f w1 hb hd
              clear hd
              dsimp only
              go_wp2_with fail
              exact ⟨rfl, Below.refl _ _, fun t ht => by injection ht with ht; subst ht; exact ⟨rfl, fun h => by simp at h⟩⟩
            · intro f w1 hb hd
              clear hd
              dsimp only
              go_wp2_with fail
              exact ⟨rfl, Below.refl _ _, fun t ht => by injection ht with ht; subst ht; exact ⟨rfl, fun h => by simp at h⟩⟩
            · intro f w1 hb hd
              have d1 : f 1 = .pointer (some ⟨w.heap.size, 0, none⟩) := hd 1 (by kernel_rfl)
              clear hd
              dsimp only
              rw [d1]
              have y := (Yr.out.low hb hwr).c0
              go_wp2_with fail
              exact ⟨rfl, Below.refl _ _, fun t ht => by injection ht with ht; subst ht; exact ⟨rfl, fun h => by simp at h⟩⟩
            · intro f w1 hb hd
              have d0 : f 0 = .slice a en c := hd 0 (by kernel_rfl)
              have d2 : f 2 = .int .i64 (o : Int) := hd 2 (by kernel_rfl)
              clear hd
              dsimp only
              rw [d0]
              rw [d2]
              go_wp2_with fail
              exact ⟨rfl, Below.refl _ _, fun t ht => by injection ht with ht; subst ht; exact ⟨rfl, fun h => by simp at h⟩⟩
            · intro f w1 hb hd
              clear hd
              dsimp only
              go_wp2_with fail
              exact ⟨rfl, Below.refl _ _, fun t ht => by injection ht with ht; subst ht; exact ⟨rfl, fun h => by simp at h⟩⟩
            · intro f w1 hb hd
              have d4 : f 4 = .pointer (some ⟨w.heap.size, 1, none⟩) := hd 4 (by kernel_rfl)
              clear hd
              dsimp only
              rw [d4]
              have y := (Yr.out.low hb hwr).c1
              go_wp2_with fail
              exact ⟨rfl, Below.refl _ _, fun t ht => by injection ht with ht; subst ht; exact ⟨rfl, fun h => by simp at h⟩⟩
          · intro f w1 hb hA _
            have d0 : f 0 = .slice a en c := hA 0 (show 0 < 6 by decide)
            have d1 : f 1 = .pointer (some ⟨w.heap.size, 0, none⟩) := hA 1 (show 1 < 6 by decide)
            have d2 : f 2 = .int .i64 (o : Int) := hA 2 (show 2 < 6 by decide)
            have d3 : f 3 = .slice a o c := hA 3 (show 3 < 6 by decide)
            have d4 : f 4 = .pointer (some ⟨w.heap.size, 1, none⟩) := hA 4 (show 4 < 6 by decide)
            have d5 : f 5 = .slice da dn dc := hA 5 (show 5 < 6 by decide)
            clear hA
            try dsimp only at *
            rw [d0]
            rw [d1]
            rw [d2]
            rw [d3]
            rw [d4]
            rw [d5]
            clear d0 d1 d2 d3 d4 d5
            have HTb := Lib.hid (HT.out.keep hb)
            have HBb := Lib.hid (HB.out.trans (hb.mono hsr))
            have HDb := Lib.hid (Hd.out.below (HBw.out.trans (HBb.out.mono (Nat.le_succ _))))
            have hsb := Nat.le_trans hsr hb.size
            have hto := HTb.out
            unfold OwnU at hto
            rw [HTl.out] at hto
            have Hto := Lib.hid hto
            clear hb hto HTb
            have HRd := Lib.hid (show Rd w1 1 (.slice da dn dc) dn (data.map byteV) from by
              have h : RdL byteV w1 (.slice da dn dc) data := HDb.out
              unfold RdL at h
              rw [Hdn.out] at h
              exact h)
            change wpList _ _ _ (_ :: _ :: []) _ _
            refine wpList_app (n := o) (m := dn) rfl (.tmp 40) (.tmp 42) 47 rfl elemU8 (w.heap.size + 1) rfl Hto.out (by rfl) HRd.out (bytes_one data) (by unfold maxLen; omega) (by omega) hsb ?_
            intro v4 w4 hown4 hgr4 hv4
            clear hv4
            have HB4 := Lib.hid (own_below HBb.out Hto.out hsb hgr4)
            obtain ⟨a4, c4, e4, _⟩ := own_form hown4
            subst e4
            have HO4 := Lib.hid (show OwnU w4 (w.heap.size + 1) (.slice a4 (o + dn) c4) (Eb.take o ++ data) from by
              unfold OwnU
              rw [List.length_append, HTl.out, Hdn.out, List.map_append]
              exact hown4)
            clear hown4 hgr4
            go_wp2_with fail
            go_ret
            exact ⟨_, rfl, by rw [HAP.out, HR.out]; exact World.ownsRow.mono HO4.out (Nat.le_succ _), HBw.out.trans (HB4.out.mono (Nat.le_succ _))⟩
        · have i2 : ¬ (en : Int) < (o : Int) + (dn : Int) := by omega
          have HR := Lib.hid (show AP = Eb.take o ++ data ++ Eb.drop (o + dn) by rw [HA.out]; exact HPo.out (by omega))
          obtain ⟨sl, hsl⟩ := HO.out.mid o dn (by rw [HEl.out]; omega)
          have Hsl := Lib.hid hsl
          have hsl2 : ∀ W kl kh, (Instr.slice 47 (.slice a en c) (some (.int kl (o : Int))) (some (.int kh ((o : Int) + (dn : Int)))) none).run Tryd.prog W = .ok sl W := fun W kl kh => by
            have := hsl W kl kh
            rw [show ((o + dn : Nat) : Int) = (o : Int) + (dn : Int) by omega] at this
            exact this
          clear hsl
          go_upto_region 9 with fail
          clear x0 x1
          refine wp_region_rel [eqS (.slice a en c), eqS (.pointer (some ⟨w.heap.size, 0, none⟩)), eqS (.int .i64 (o : Int)), eqS (.int .i64 ((o : Int) + (dn : Int))), eqS (sl), eqS (.pointer (some ⟨w.heap.size, 1, none⟩)), eqS (.slice da dn dc)] [] 53 (by kernel_rfl) (by kernel_rfl) (by rfl) (by kernel_rfl) (fun f => by simp [frm, dstOf, Act.put]; exact rfl) ?_ ?_
          · refine ⟨?_, ?_, ?_, ?_, ?_, ?_, ?_, trivial⟩
            · intro f w1 hb hd
              clear hd
              dsimp only
              go_wp2_with fail
              exact ⟨rfl, Below.refl _ _, fun t ht => by injection ht with ht; subst ht; exact ⟨rfl, fun h => by simp at h⟩⟩
            · intro f w1 hb hd
              clear hd
              dsimp only
              go_wp2_with fail
              exact ⟨rfl, Below.refl _ _, fun t ht => by injection ht with ht; subst ht; exact ⟨rfl, fun h => by simp at h⟩⟩
            · intro f w1 hb hd
              have d1 : f 1 = .pointer (some ⟨w.heap.size, 0, none⟩) := hd 1 (by kernel_rfl)
              clear hd
              dsimp only
              rw [d1]
              have y := (Yr.out.low hb hwr).c0
              go_wp2_with fail
              exact ⟨rfl, Below.refl _ _, fun t ht => by injection ht with ht; subst ht; exact ⟨rfl, fun h => by simp at h⟩⟩
            · intro f w1 hb hd
              clear hd
              dsimp only
              go_wp2_with fail
              exact ⟨rfl, Below.refl _ _, fun t ht => by injection ht with ht; subst ht; exact ⟨rfl, fun h => by simp at h⟩⟩
            · intro f w1 hb hd
              have d0 : f 0 = .slice a en c := hd 0 (by kernel_rfl)
              have d2 : f 2 = .int .i64 (o : Int) := hd 2 (by kernel_rfl)
              have d3 : f 3 = .int .i64 ((o : Int) + (dn : Int)) := hd 3 (by kernel_rfl)
              clear hd
              dsimp only
              rw [d0]
              rw [d2]
              rw [d3]
              go_wp2_with fail
              exact ⟨rfl, Below.refl _ _, fun t ht => by injection ht with ht; subst ht; exact ⟨rfl, fun h => by simp at h⟩⟩
            · intro f w1 hb hd
              clear hd
              dsimp only
              go_wp2_with fail
              exact ⟨rfl, Below.refl _ _, fun t ht => by injection ht with ht; subst ht; exact ⟨rfl, fun h => by simp at h⟩⟩
            · intro f w1 hb hd
              have d5 : f 5 = .pointer (some ⟨w.heap.size, 1, none⟩) := hd 5 (by kernel_rfl)
              clear hd
              dsimp only
              rw [d5]
              have y := (Yr.out.low hb hwr).c1
              go_wp2_with fail
              exact ⟨rfl, Below.refl _ _, fun t ht => by injection ht with ht; subst ht; exact ⟨rfl, fun h => by simp at h⟩⟩
          · intro f w1 hb hA _
            have d0 : f 0 = .slice a en c := hA 0 (show 0 < 7 by decide)
            have d1 : f 1 = .pointer (some ⟨w.heap.size, 0, none⟩) := hA 1 (show 1 < 7 by decide)
            have d2 : f 2 = .int .i64 (o : Int) := hA 2 (show 2 < 7 by decide)
            have d3 : f 3 = .int .i64 ((o : Int) + (dn : Int)) := hA 3 (show 3 < 7 by decide)
            have d4 : f 4 = sl := hA 4 (show 4 < 7 by decide)
            have d5 : f 5 = .pointer (some ⟨w.heap.size, 1, none⟩) := hA 5 (show 5 < 7 by decide)
            have d6 : f 6 = .slice da dn dc := hA 6 (show 6 < 7 by decide)
            clear hA
            try dsimp only at *
            rw [d0]
            rw [d1]
            rw [d2]
            rw [d3]
            rw [d4]
            rw [d5]
            rw [d6]
            clear d0 d1 d2 d3 d4 d5 d6
            have HOb := Lib.hid (HO.out.keep hb)
            have HBb := Lib.hid (HB.out.trans (hb.mono hsr))
            have HDb := Lib.hid (Hd.out.below (HBw.out.trans (HBb.out.mono (Nat.le_succ _))))
            have hsb := Nat.le_trans hsr hb.size
            obtain ⟨nn, w5, hcp, ho5, hb5⟩ := HOb.out.copyS o (fun W kl kh => by rw [Hdn.out]; exact Hsl.out W kl kh) HDb.out hsb (by rw [Hdn.out, HEl.out]; omega)
            clear hb HOb
            refine wpList_copy_run rfl (.tmp 48) (.tmp 50) 47 47 rfl _ _ rfl rfl nn w5 hcp ?_
            rw [Hdn.out] at ho5
            have HF5 := Lib.hid ho5
            have HB5 := Lib.hid (HBb.out.trans hb5)
            clear hcp ho5 hb5
            go_wp2_with fail
            go_ret
            exact ⟨_, rfl, by rw [HAP.out, HR.out]; exact World.ownsRow.mono HF5.out (Nat.le_succ _), HBw.out.trans (HB5.out.mono (Nat.le_succ _))⟩
  · have HA := Lib.hid (show appl ⟨(o : Int), data, true⟩ b = b.take (min b.length o) by
      show b.take ((o : Int).toNat) = _
      rw [Int.toNat_natCast, List.take_eq_take_iff]; omega)
    rw [Hbn.out] at HA
    have gto := slice_to (P := Tryd.prog) elemU8 (a := a3) (n := bn) (cap := c3) h33 (min bn o) (by omega)
    have HT := Lib.hid (HO3.out.takeS (min bn o) (Nat.min_le_left _ _))
    have i2 : min (bn : Int) (o : Int) = ((min bn o : Nat) : Int) := by omega
    generalize min bn o = mn at *
    have x0 := Y3.out.c0
    have x2 := Y3.out.c2
    go_wp2_with fail
    go_ret
    exact ⟨_, rfl, by rw [HA.out]; exact World.ownsRow.mono HT.out (Nat.le_succ _), HBw.out⟩
end Go.Proofs.YtkabcpmnbjllcaaDoor

namespace Go.Proofs.YtkabcpmnbjllcaaDoor
open Go.RowKit

/-- One write more: it is refused. -/
theorem szW_stop {ws : List Wr} {l : Int} {k : Nat} (hk : k < ws.length) (h : okW (watW ws k) = false ∨ 1048576 < grownW (watW ws k) (lenW (ws.take k) l)) : szW ws l = false := by
  refine szW_no ws l (k + 1) ?_
  rw [szW_next ws l k hk]
  rcases h with h | h
  · rw [h]; simp
  · rw [decide_eq_false (by omega), Bool.and_false]
set_option maxRecDepth 100000 in
set_option maxHeartbeats 1600000 in
theorem rvfile_any (nm base : List UInt8) (ws : List Wr) (bv pv : Value) (w : World) (hb : RdB w bv base) (hp : RdW w pv ws) (hr : LiteF ⟨nm, base, ws⟩) :
    Calls Tryd.prog 47 #[filVal nm bv pv] w fun e w' => e = .returned (.bool (okF ⟨nm, base, ws⟩)) ∧ Below w.heap.size w w' := by
  have HNm := Lib.hid (show ∀ W, Calls Tryd.prog 24 #[.string (strB nm)] W fun e w' => e = .returned (.bool (nameB nm)) ∧ W = w' from fun W => by
    have h := rvname_any (strB nm) W (by rw [strB_size]; have := hr.name; dsimp only at this; omega)
    rwa [show (strB nm).data.toList = nm from rfl] at h)
  have hbl := hr.base
  have hpl := hr.pend
  dsimp only at hbl hpl
  have HF := Lib.hid (show okF ⟨nm, base, ws⟩ = (nameB nm && (decide ((base.length : Int) ≤ 1048576) && szW ws base.length)) from rfl)
  have Hb := Lib.hid hb
  obtain ⟨ba, bc, rfl, hb1, hb2, _⟩ := hb.shape0
  obtain ⟨pa, pc, rfl, hp1, hp2, _⟩ := hp.shape
  have HP := Lib.hid hp
  have HLd := Lib.hid (show ∀ j, j < ws.length → (watW ws j).data.length ≤ 2000000 from fun j hj => (hr.wr _ (watW_mem hj)).data)
  have HNx := Lib.hid (show ∀ j, j < ws.length → appls (ws.take (j + 1)) base = appl (watW ws j) (appls (ws.take j) base) from fun j hj => appls_take ws base j hj)
  have HSt := Lib.hid (fun (k : Nat) (hk : k < ws.length) h => szW_stop (ws := ws) (l := base.length) hk h)
  have HSn := Lib.hid (show ∀ j, j < ws.length → _ from fun j hj => szW_next ws base.length j hj)
  have HAl := Lib.hid (show ∀ j, szW (ws.take j) base.length = true → ((appls (ws.take j) base).length : Int) = lenW (ws.take j) base.length from fun j h => appls_length _ _ h)
  have HE := Lib.hid (show szW (ws.take ws.length) base.length = szW ws base.length by rw [List.take_length])
  clear hb hp hr
  generalize okF ⟨nm, base, ws⟩ = R at *
  generalize hn : ws.length = n at *
  generalize hl : base.length = l at *
  have Hl := Lib.hid hl
  have Hn := Lib.hid hn
  clear hn hl
  generalize szW ws l = S at *
  generalize nameB nm = nb at *
  unfold maxLen at hp2
  have HBx := Lib.hid (show Below w.heap.size w (w.alloc (.cells #[.string (strB nm), .slice ba l bc, .slice pa n pc] 73)) from (Below.refl _ _).alloc (Nat.le_refl _) _)
  have X := Lib.hid (show BoxF (w.alloc (.cells #[.string (strB nm), .slice ba l bc, .slice pa n pc] 73)) w.heap.size (strB nm) (.slice ba l bc) (.slice pa n pc) from ⟨by simp, by simp, by simp, fun i => by simp⟩)
  go_enter Tryd.func47, Tryd.ntmps47
  go_upto_region 1 with fail
  generalize w.alloc (.cells #[.string (strB nm), .slice ba l bc, .slice pa n pc] 73) = w1 at *
  have x0 := X.out.c0
  have x1 := X.out.c1
  cases nb
  · have HX := Lib.hid (show R = false by rw [HF.out]; rfl)
    go_wp2_with (go_at_call 24; (with_reducible refine (HNm.out _).mono ?_); rintro e w' ⟨rfl, rfl⟩)
    go_ret
    exact ⟨by rw [HX.out]; rfl, HBx.out⟩
  · by_cases hlm : 1048576 < l
    · have q0 : (1048576 : Int) < (l : Int) := by omega
      have HX := Lib.hid (show R = false by rw [HF.out, decide_eq_false (by omega)]; rfl)
      go_wp2_with (go_at_call 24; (with_reducible refine (HNm.out _).mono ?_); rintro e w' ⟨rfl, rfl⟩)
      go_ret
      exact ⟨by rw [HX.out]; rfl, HBx.out⟩
    · have q0 : ¬ (1048576 : Int) < (l : Int) := by omega
      have HF2 := Lib.hid (show R = S by rw [HF.out, decide_eq_true (by omega)]; rfl)
      go_wp2_with (go_at_call 24; (with_reducible refine (HNm.out _).mono ?_); rintro e w' ⟨rfl, rfl⟩)
      clear x0 x1
      go_loopw [3, 4] (fun v iv W => ∃ (k cl : Nat) (a : Option Addr) (c : Nat), k ≤ n ∧ iv = .int .i64 (k : Int) ∧ v = .slice a cl c ∧ Hid ((cl : Int) = lenW (ws.take k) l) ∧ cl ≤ 1048576 ∧ Hid (RdB W (.slice a cl c) (appls (ws.take k) base)) ∧ Hid (szW (ws.take k) l = true) ∧ Hid (Below w1.heap.size w1 W)) (fun _ iv _ => n - (intOf iv).toNat)
      case atStart => exact ⟨0, l, _, _, Nat.zero_le _, rfl, rfl, Lib.hid rfl, by omega, Lib.hid (Hb.out.below HBx.out), Lib.hid rfl, Lib.hid (Below.refl _ _)⟩
      case round =>
        obtain ⟨k, cl, va, vc, hk, rfl, rfl, HCl, hcl, HV, HT, HB⟩ := hrel
        have x2 := (X.out.below HB.out).c2
        have HBw := Lib.hid (bstep HBx.out HB.out)
        have hvc := HV.out.bounds
        by_cases hlt : k < n
        · have i1 : (k : Int) < (n : Int) := by omega
          obtain ⟨b, off, dv, rfl, hd, c0, c1, c2⟩ := (HP.out.below HBw.out).at hlt
          obtain ⟨da, dc, rfl, hd1, hd2, _⟩ := hd.shape0
          have HD := Lib.hid hd
          have HStk := Lib.hid (fun h => HSt.out k hlt h)
          have HSk := Lib.hid (HSn.out k hlt)
          have HAk := Lib.hid (HNx.out k hlt)
          have hld := HLd.out k hlt
          have HAl1 := Lib.hid (HAl.out (k + 1))
          have HVl := Lib.hid (show (appls (ws.take k) base).length = cl by have h1 := HAl.out k HT.out; have h2 := HCl.out; omega)
          clear hd
          rw [HT.out] at HSk
          generalize hq : lenW (ws.take k) l = q at *
          generalize hx : watW ws k = x at *
          generalize hA : appls (ws.take k) base = A at *
          generalize hA1 : appls (ws.take (k + 1)) base = A1 at *
          have HA1 := Lib.hid hA1
          have Hqn := Lib.hid (show lenW (ws.take (k + 1)) l = grownW x q by rw [lenW_take ws l k (by rw [Hn.out]; exact hlt), hq, hx])
          clear hq hx hA hA1
          obtain ⟨xo, xd, xc⟩ := x
          dsimp only at *
          have HO := Lib.hid (okW_iff ⟨xo, xd, xc⟩)
          generalize okW ⟨xo, xd, xc⟩ = ok at *
          have HDn := Lib.hid (show xd = [] → xd.length = 0 from fun h => by rw [h]; rfl)
          have HDz := Lib.hid (show xd.length = 0 → xd = [] from List.length_eq_zero_iff.1)
          generalize hdl : xd.length = dl at *
          have Hdl := Lib.hid hdl
          clear hdl
          have hclq := HCl.out
          have Hclq := Lib.hid hclq
          clear hclq
          by_cases h1 : xo < 0
          · clear HAk
            have HX := Lib.hid (show R = false by rw [HF2.out]; exact HStk.out (.inl (by cases hok : ok; rfl; exact absurd (HO.out.1 hok).1 (by dsimp only; omega))))
            go_wp2_with fail
            go_ret
            exact ⟨by rw [HX.out]; rfl, (bstep HBw.out ((Below.refl _ _).alloc (Nat.le_refl _) _))⟩
          · by_cases h2 : 1048576 < xo
            · clear HAk
              have HX := Lib.hid (show R = false by rw [HF2.out]; exact HStk.out (.inl (by cases hok : ok; rfl; exact absurd (HO.out.1 hok).2.1 (by dsimp only; omega))))
              go_wp2_with fail
              go_ret
              exact ⟨by rw [HX.out]; rfl, (bstep HBw.out ((Below.refl _ _).alloc (Nat.le_refl _) _))⟩
            · cases xc
              · by_cases h4 : 1048576 < dl
                · have i4 : (1048576 : Int) < (dl : Int) := by omega
                  have HX := Lib.hid (show R = false by rw [HF2.out]; exact HStk.out (.inr (by unfold grownW; rw [if_neg (by simp)]; dsimp only; rw [Hdl.out]; omega)))
                  go_wp2_with fail
                  go_ret
                  exact ⟨by rw [HX.out]; rfl, (bstep HBw.out ((Below.refl _ _).alloc (Nat.le_refl _) _))⟩
                · have i4 : ¬ (1048576 : Int) < (dl : Int) := by omega
                  obtain ⟨o, rfl⟩ := Int.eq_ofNat_of_zero_le (by omega : 0 ≤ xo)
                  have Hok := Lib.hid (show ok = true from HO.out.2 ⟨by dsimp only; omega, by dsimp only; omega, fun h => by cases h⟩)
                  have hbq : Below wr.heap.size wr (wr.alloc (.cells #[.int .i64 (o : Int), .slice da dl dc, .bool false] 94)) := (Below.refl _ _).alloc (Nat.le_refl _) _
                  have HAp := Lib.hid (rapplied_any o xd A false (.slice da dl dc) (.slice va cl vc) _ (HV.out.below hbq) (HD.out.below hbq) (by omega) (by rw [Hdl.out]; omega) (by rw [HVl.out]; omega))
                  have HL1 := Lib.hid (show (A1.length : Int) = grownW ⟨(o : Int), xd, false⟩ q by rw [HAk.out, appl_length _ _ (by dsimp only; omega), HVl.out, HCl.out])
                  have HBq := Lib.hid (HB.out.trans (hbq.mono HB.out.size))
                  clear hbq
                  go_wp2_with fail
                  refine HAp.out.mono ?_
                  rintro e w5 ⟨v5, rfl, ho5, hb5⟩
                  rw [← HAk.out] at ho5
                  obtain ⟨a5, c5, e5, h51, _⟩ := ho5.form
                  subst e5
                  have HV5 := Lib.hid ho5.rd
                  have HB5 := Lib.hid (HBq.out.trans (hb5.mono HBq.out.size))
                  have HBw5 := Lib.hid (bstep HBx.out HB5.out)
                  clear ho5 hb5 h51
                  generalize A1.length = cl1 at *
                  by_cases h5 : 1048576 < cl1
                  · have i5 : (1048576 : Int) < (cl1 : Int) := by omega
                    have HX := Lib.hid (show R = false by rw [HF2.out]; exact HStk.out (.inr (by rw [← HL1.out]; omega)))
                    go_wp2_with fail
                    go_ret
                    exact ⟨by rw [HX.out]; rfl, HBw5.out⟩
                  · have i5 : ¬ (1048576 : Int) < (cl1 : Int) := by omega
                    have HTn := Lib.hid (show szW (ws.take (k + 1)) l = true by rw [HSk.out, Hok.out, ← HL1.out, decide_eq_true (by omega)]; rfl)
                    go_wp2_with fail
                    exact ⟨⟨k + 1, cl1, _, _, by omega, by go_num, rfl, Lib.hid (by rw [Hqn.out]; exact HL1.out), by omega, Lib.hid (by rw [HA1.out]; exact HV5.out), HTn, HB5⟩, by simp [intOf]; omega⟩
              · by_cases h3 : 0 < dl
                · have i3 : (0 : Int) < (dl : Int) := by omega
                  have HX := Lib.hid (show R = false by rw [HF2.out]; exact HStk.out (.inl (by cases hok : ok; rfl; exact absurd (HDn.out ((HO.out.1 hok).2.2 rfl)) (by omega))))
                  go_wp2_with fail
                  go_ret
                  exact ⟨by rw [HX.out]; rfl, (bstep HBw.out ((Below.refl _ _).alloc (Nat.le_refl _) _))⟩
                · have h0 : dl = 0 := by omega
                  have hx0 := HDz.out h0
                  subst h0
                  have i3 : ¬ (0 : Int) < 0 := by omega
                  obtain ⟨o, rfl⟩ := Int.eq_ofNat_of_zero_le (by omega : 0 ≤ xo)
                  have Hok := Lib.hid (show ok = true from HO.out.2 ⟨by dsimp only; omega, by dsimp only; omega, fun _ => hx0⟩)
                  have hbq : Below wr.heap.size wr (wr.alloc (.cells #[.int .i64 (o : Int), .slice da 0 dc, .bool true] 94)) := (Below.refl _ _).alloc (Nat.le_refl _) _
                  have HAp := Lib.hid (rapplied_any o xd A true (.slice da 0 dc) (.slice va cl vc) _ (HV.out.below hbq) (HD.out.below hbq) (by omega) (by rw [Hdl.out]; omega) (by rw [HVl.out]; omega))
                  have HL1 := Lib.hid (show (A1.length : Int) = grownW ⟨(o : Int), xd, true⟩ q by rw [HAk.out, appl_length _ _ (by dsimp only; omega), HVl.out, HCl.out])
                  have HBq := Lib.hid (HB.out.trans (hbq.mono HB.out.size))
                  clear hbq
                  go_wp2_with fail
                  refine HAp.out.mono ?_
                  rintro e w5 ⟨v5, rfl, ho5, hb5⟩
                  rw [← HAk.out] at ho5
                  obtain ⟨a5, c5, e5, h51, _⟩ := ho5.form
                  subst e5
                  have HV5 := Lib.hid ho5.rd
                  have HB5 := Lib.hid (HBq.out.trans (hb5.mono HBq.out.size))
                  have HBw5 := Lib.hid (bstep HBx.out HB5.out)
                  clear ho5 hb5 h51
                  generalize A1.length = cl1 at *
                  by_cases h5 : 1048576 < cl1
                  · have i5 : (1048576 : Int) < (cl1 : Int) := by omega
                    have HX := Lib.hid (show R = false by rw [HF2.out]; exact HStk.out (.inr (by rw [← HL1.out]; omega)))
                    go_wp2_with fail
                    go_ret
                    exact ⟨by rw [HX.out]; rfl, HBw5.out⟩
                  · have i5 : ¬ (1048576 : Int) < (cl1 : Int) := by omega
                    have HTn := Lib.hid (show szW (ws.take (k + 1)) l = true by rw [HSk.out, Hok.out, ← HL1.out, decide_eq_true (by omega)]; rfl)
                    go_wp2_with fail
                    exact ⟨⟨k + 1, cl1, _, _, by omega, by go_num, rfl, Lib.hid (by rw [Hqn.out]; exact HL1.out), by omega, Lib.hid (by rw [HA1.out]; exact HV5.out), HTn, HB5⟩, by simp [intOf]; omega⟩
        · have i1 : ¬ (k : Int) < (n : Int) := by omega
          obtain rfl : k = n := by omega
          have HX := Lib.hid (show R = true by rw [HF2.out, ← HE.out]; exact HT.out)
          go_wp2_with fail
          go_ret
          exact ⟨by rw [HX.out]; rfl, HBw.out⟩
end Go.Proofs.YtkabcpmnbjllcaaDoor

namespace Go.Proofs.YtkabcpmnbjllcaaDoor
open Go.RowKit

set_option maxRecDepth 100000 in
set_option maxHeartbeats 1600000 in
theorem rcontent_any (nm base : List UInt8) (ws : List Wr) (bv pv : Value) (w : World) (hb : RdB w bv base) (hp : RdW w pv ws) (hr : LiteF ⟨nm, base, ws⟩) :
    Calls Tryd.prog 38 #[filVal nm bv pv] w fun e w' => ∃ v', e = .returned v' ∧ OwnU w' w.heap.size v' (contF ⟨nm, base, ws⟩) ∧ Below w.heap.size w w' := by
  have HC := Lib.hid (fun W (h : Below w.heap.size w W) => rvfile_any [120] base ws bv pv W (hb.below h) (hp.below h) ⟨by show 1 ≤ 1000; decide, hr.base, hr.pend, hr.wr⟩)
  have hbl := hr.base
  have hpl := hr.pend
  dsimp only at hbl hpl
  have hok : okF ⟨[120], base, ws⟩ = sizedF ⟨nm, base, ws⟩ := by
    show (nameB [120] && sizedF ⟨[120], base, ws⟩) = _
    rw [show nameB [120] = true by decide]; rfl
  rw [hok] at HC
  have Hb := Lib.hid hb
  obtain ⟨ba, bc, rfl, hb1, hb2, _⟩ := hb.shape0
  obtain ⟨pa, pc, rfl, hp1, hp2, _⟩ := hp.shape
  have HP := Lib.hid hp
  have HS := Lib.hid (show sizedF ⟨nm, base, ws⟩ = true → ∀ j, j < ws.length → 0 ≤ (watW ws j).off ∧ (watW ws j).off ≤ 1048576 ∧ (watW ws j).data.length ≤ 2000000 ∧ (appls (ws.take j) base).length ≤ 1048576 from fun h j hj => sized_way h hj)
  have HCl := Lib.hid (contF_le ⟨nm, base, ws⟩)
  have HNx := Lib.hid (show ∀ j, j < ws.length → appls (ws.take (j + 1)) base = appl (watW ws j) (appls (ws.take j) base) from fun j hj => appls_take ws base j hj)
  have HE := Lib.hid (show contF ⟨nm, base, ws⟩ = if sizedF ⟨nm, base, ws⟩ then appls (ws.take ws.length) base else [] by rw [List.take_length]; rfl)
  clear hb hp hr hok
  change Hid (∀ W, Below w.heap.size w W → Calls Tryd.prog 47 #[.agg #[.string { data := #[120] }, .slice ba base.length bc, .slice pa ws.length pc]] W _) at HC
  generalize sizedF ⟨nm, base, ws⟩ = sd at *
  generalize hR : contF ⟨nm, base, ws⟩ = R at *
  have HRr := Lib.hid hR
  clear hR
  generalize hn : ws.length = n at *
  have Hn := Lib.hid hn
  clear hn
  generalize hl : base.length = l at *
  have Hl := Lib.hid hl
  clear hl
  unfold maxLen at hp2 hb2
  have HB0 := Lib.hid (show Below w.heap.size w (w.alloc (.cells #[.string (strB nm), .slice ba l bc, .slice pa n pc] 73)) from (Below.refl _ _).alloc (Nat.le_refl _) _)
  have X0 := Lib.hid (show BoxF (w.alloc (.cells #[.string (strB nm), .slice ba l bc, .slice pa n pc] 73)) w.heap.size (strB nm) (.slice ba l bc) (.slice pa n pc) from ⟨by simp, by simp, by simp, fun i => by simp⟩)
  go_enter Tryd.func38, Tryd.ntmps38
  go_upto_region 1 with fail
  generalize w.alloc (.cells #[.string (strB nm), .slice ba l bc, .slice pa n pc] 73) = w0 at *
  have X := Lib.hid (show BoxF (w0.setCell ⟨w.heap.size, 0, none⟩ (.string { data := #[120] })) w.heap.size { data := #[120] } (.slice ba l bc) (.slice pa n pc) from X0.out.set0)
  have HB1 := Lib.hid (HB0.out.setCell (p := ⟨w.heap.size, 0, none⟩) (Nat.le_refl _) (.string { data := #[120] }))
  have x0 := X0.out.c0
  have xf := X0.out.f
  go_upto_region 2 with fail
  clear x0 xf X0 HB0
  generalize w0.setCell ⟨w.heap.size, 0, none⟩ (.string { data := #[120] }) = w1 at *
  have x0 := X.out.c0
  have x1 := X.out.c1
  have x2 := X.out.c2
  go_wp2_with fail
  refine (HC.out _ HB1.out).mono ?_
  rintro e w2 ⟨rfl, hb2'⟩
  have X2 := Lib.hid (X.out.below hb2')
  have HB2 := Lib.hid (bstep HB1.out hb2')
  clear hb2' x0 x1 x2 X HC HB1
  cases sd
  · go_wp2_with fail
    go_ret
    exact ⟨_, rfl, by rw [HE.out]; exact OwnU.nil _ _, HB2.out⟩
  · have HW := Lib.hid (HS.out rfl)
    have x1 := X2.out.c1
    go_wp2_with fail
    clear x1
    go_loopw [3, 4] (fun v iv W => ∃ (k cl : Nat) (a : Option Addr) (c : Nat), k ≤ n ∧ iv = .int .i64 (k : Int) ∧ v = .slice a cl c ∧ Hid ((appls (ws.take k) base).length = cl) ∧ Hid (RdB W (.slice a cl c) (appls (ws.take k) base)) ∧ Hid (Below w2.heap.size w2 W)) (fun _ iv _ => n - (intOf iv).toNat)
    case atStart => exact ⟨0, l, _, _, Nat.zero_le _, rfl, rfl, Hl, Lib.hid (Hb.out.below HB2.out), Lib.hid (Below.refl _ _)⟩
    case round =>
      obtain ⟨k, cl, va, vc, hk, rfl, rfl, HL, HV, HB⟩ := hrel
      have x2 := (X2.out.below HB.out).c2
      have HBw := Lib.hid (bstep HB2.out HB.out)
      by_cases hlt : k < n
      · have i1 : (k : Int) < (n : Int) := by omega
        obtain ⟨b, off, dv, rfl, hd, c0, c1, c2⟩ := (HP.out.below HBw.out).at hlt
        obtain ⟨da, dc, rfl, _, _, _⟩ := hd.shape0
        have HD := Lib.hid hd
        obtain ⟨q1, q2, q3, q4⟩ := HW.out k hlt
        have HNk := Lib.hid (HNx.out k hlt)
        rw [HL.out] at q4
        clear hd
        generalize hA1 : appls (ws.take (k + 1)) base = A1 at *
        have HA1 := Lib.hid hA1
        clear hA1
        generalize appls (ws.take k) base = A at *
        generalize watW ws k = x at *
        obtain ⟨xo, xd, xc⟩ := x
        dsimp only at *
        obtain ⟨o, rfl⟩ := Int.eq_ofNat_of_zero_le q1
        have HAp := Lib.hid (rapplied_any o xd A xc (.slice da xd.length dc) (.slice va cl vc) wr HV.out HD.out (by omega) q3 (by rw [HL.out]; omega))
        generalize xd.length = dl at *
        go_wp2_with fail
        refine HAp.out.mono ?_
        rintro e w5 ⟨v5, rfl, ho5, hb5⟩
        rw [← HNk.out] at ho5
        obtain ⟨a5, c5, e5, _⟩ := ho5.form
        subst e5
        have HV5 := Lib.hid (show RdB w5 (.slice a5 A1.length c5) (appls (ws.take (k + 1)) base) by rw [HA1.out]; exact ho5.rd)
        have HB5 := Lib.hid (bstep HB.out hb5)
        have HL5 := Lib.hid (show (appls (ws.take (k + 1)) base).length = A1.length by rw [HA1.out])
        clear ho5 hb5
        generalize A1.length = cl1 at *
        go_wp2_with fail
        exact ⟨⟨k + 1, cl1, _, _, by omega, by go_num, rfl, HL5, HV5, HB5⟩, by simp [intOf]; omega⟩
      · have i1 : ¬ (k : Int) < (n : Int) := by omega
        obtain rfl : k = n := by omega
        have hRA : appls (ws.take k) base = R := by rw [HE.out]; rfl
        rw [hRA] at HL HV
        have hcl : cl ≤ 1048576 := by rw [← HL.out]; exact HCl.out
        have HR1 := Lib.hid (show Rd wr 1 (.slice va cl vc) cl (R.map byteV) from by
          have h : RdL byteV wr (.slice va cl vc) R := HV.out
          unfold RdL at h
          rw [HL.out] at h
          exact h)
        have hsr : w.heap.size ≤ wr.heap.size := HBw.out.size
        clear hRA
        go_wp2_with (at_builtin; go_must (refine wpList_app rfl (.tmp 25) (.tmp 26) 47 rfl elemU8 w.heap.size rfl (World.ownsRow_made (size := 1) _ #[] 0 hsr (by decide) rfl) rfl (HR1.out.alloc _) (bytes_one R) (by unfold maxLen; omega) (by omega) (by simp; omega) ?_); intro v3 w3 hown3 hgr3 hv3; clear hv3)
        have HB3 := Lib.hid (own_below (HBw.out.alloc hsr _) (World.ownsRow_made (e := 5) (size := 1) wr #[] 0 hsr (by decide) rfl) (by simp; omega) hgr3)
        have HO3 := Lib.hid (show OwnU w3 w.heap.size v3 R from OwnU.of hown3 (List.nil_append _))
        clear hown3 hgr3
        go_wp2_with fail
        go_ret
        exact ⟨_, rfl, HO3.out, HB3.out⟩
end Go.Proofs.YtkabcpmnbjllcaaDoor

namespace Go.Proofs.YtkabcpmnbjllcaaDoor
open Go.RowKit

/-- The sum of the contents' lengths. -/
def totC (l : List Fil) (n : Int) : Int := l.foldl (fun n f => n + ((contF f).length : Int)) n
theorem totC_take (l : List Fil) (n : Int) (k : Nat) (h : k < l.length) : totC (l.take (k + 1)) n = totC (l.take k) n + ((contF (atN l k)).length : Int) := by
  unfold totC atN
  rw [List.take_add_one, List.getElem?_eq_getElem h, List.foldl_append, List.getD_eq_getElem?_getD, List.getElem?_eq_getElem h]
  rfl
theorem totC_bounds (l : List Fil) : ∀ k, k ≤ l.length → 0 ≤ totC (l.take k) 0 ∧ totC (l.take k) 0 ≤ 1048576 * (k : Int)
  | 0, _ => ⟨Int.le_refl 0, Int.le_refl 0⟩
  | k + 1, h => by
    have ih := totC_bounds l k (by omega)
    rw [totC_take l 0 k (by omega)]
    have := contF_le (atN l k)
    constructor <;> omega
set_option maxRecDepth 100000 in
set_option maxHeartbeats 1600000 in
theorem rtotal_any (c lf : Int) (fv : Value) (l : List Fil) (w : World) (h : RdF w fv l) (hL : LiteFs l) (hs : l.length ≤ 1000000) :
    Calls Tryd.prog 106 #[diskVal c lf fv] w fun e w' => e = .returned (.int .i64 (totC l 0)) ∧ Below w.heap.size w w' := by
  obtain ⟨a, cap, rfl, h1, h2, _⟩ := h.shape
  have HR := Lib.hid h
  have HCt := Lib.hid (show ∀ j, j < l.length → ∀ W u p, RdB W u (atN l j).base → RdW W p (atN l j).pend → Calls Tryd.prog 38 #[filVal (atN l j).name u p] W fun e w' => ∃ v', e = .returned v' ∧ OwnU w' W.heap.size v' (contF (atN l j)) ∧ Below W.heap.size W w' from fun j hj W u p h h' => rcontent_any _ _ _ u p W h h' (hL.fil _ (atN_mem hj)))
  have HT := Lib.hid (fun k (h : k < l.length) => totC_take l 0 k h)
  have HBd := Lib.hid (totC_bounds l)
  have HE := Lib.hid (show totC (l.take l.length) 0 = totC l 0 by rw [List.take_length])
  have HB0 := Lib.hid (show Below w.heap.size w (w.alloc (.cells #[.int .i64 c, .int .i64 lf, .slice a l.length cap] 24)) from (Below.refl _ _).alloc (Nat.le_refl _) _)
  have X := Lib.hid (BoxD.new w c lf (.slice a l.length cap) 24)
  clear h hL
  generalize totC l 0 = R at *
  generalize l.length = n at *
  go_enter Tryd.func106, Tryd.ntmps106
  go_upto_region 1 with fail
  generalize w.alloc (.cells #[.int .i64 c, .int .i64 lf, .slice a n cap] 24) = w0 at *
  go_wp2_with fail
  go_loopw [3, 4] (fun nv iv W => ∃ k : Nat, k ≤ n ∧ iv = .int .i64 (k : Int) ∧ nv = .int .i64 (totC (l.take k) 0) ∧ Hid (Below w0.heap.size w0 W)) (fun _ iv _ => n - (intOf iv).toNat)
  case atStart => exact ⟨0, Nat.zero_le _, rfl, rfl, Lib.hid (Below.refl _ _)⟩
  case round =>
    obtain ⟨k, hk, rfl, rfl, HB⟩ := hrel
    have x2 := (X.out.below HB.out).c2
    have HBw := Lib.hid (bstep HB0.out HB.out)
    by_cases hlt : k < n
    · have i1 : (k : Int) < (n : Int) := by omega
      obtain ⟨b, off, bv, pv, rfl, hbv, hpv, c0, c1, c2⟩ := (HR.out.below HBw.out).at hlt
      have HCk := Lib.hid (HCt.out k hlt wr bv pv hbv hpv)
      obtain ⟨ba, bc, rfl, _⟩ := hbv.shape0
      obtain ⟨pa, pc, rfl, _⟩ := hpv.shape
      have HTk := Lib.hid (HT.out k hlt)
      have hbd := HBd.out k hk
      have hcl := contF_le (atN l k)
      clear hbv hpv
      generalize hq : totC (l.take (k + 1)) 0 = q1 at *
      have Hq := Lib.hid hq
      clear hq
      generalize totC (l.take k) 0 = q at *
      generalize contF (atN l k) = C at *
      generalize (atN l k).base.length = bl at *
      generalize (atN l k).pend.length = pl at *
      generalize (atN l k).name = nm at *
      go_wp2_with fail
      refine HCk.out.mono ?_
      rintro e w5 ⟨v5, rfl, ho5, hb5⟩
      obtain ⟨a5, c5, e5, _⟩ := ho5.form
      subst e5
      have HB5 := Lib.hid (bstep HB.out hb5)
      clear ho5 hb5
      generalize C.length = cl at *
      go_wp2_with fail
      exact ⟨⟨k + 1, by omega, by go_num, by rw [Hq.out, HTk.out], HB5⟩, by simp [intOf]; omega⟩
    · have i1 : ¬ (k : Int) < (n : Int) := by omega
      obtain rfl : k = n := by omega
      go_wp2_with fail
      go_ret
      exact ⟨ret_int HE.out, HBw.out⟩
end Go.Proofs.YtkabcpmnbjllcaaDoor

namespace Go.Proofs.YtkabcpmnbjllcaaDoor
open Go.RowKit

set_option maxRecDepth 100000 in
set_option maxHeartbeats 1600000 in
theorem rnext_any (c lf : Int) (fv : Value) (es : List FE) (w : World) (h : RdFE w fv es) (hs : es.length ≤ 1000000) (hlf : I64 lf) :
    Calls Tryd.prog 94 #[diskVal c lf fv] w fun e w' => ∃ v', e = .returned (diskVal c (nextL lf) v') ∧ w'.ownsRow w.heap.size 73 3 v' es.length (es.flatMap filC) ∧ Below w.heap.size w w' := by
  obtain ⟨hlf0, hlf1⟩ := hlf
  obtain ⟨a, cap, rfl, h1, h2, h3, _⟩ := h.row.shape (by decide) fe0
  have HR := Lib.hid (show Rd w 3 (.slice a es.length cap) es.length (es.flatMap filC) from h.row.2)
  have H1 := Lib.hid (fil_one h.base h.pend)
  clear h h3
  generalize hes : es.flatMap filC = xs at *
  clear hes
  generalize es.length = n at *
  have HB0 := Lib.hid (show Below w.heap.size w ((w.alloc (.cells #[.int .i64 c, .int .i64 lf, .slice a n cap] 24)).alloc (.cells #[.int .i64 0, .int .i64 0, .slice none 0 0] 24)) from ((Below.refl _ _).alloc (Nat.le_refl _) _).alloc (by simp) _)
  have X := Lib.hid (show BoxD ((w.alloc (.cells #[.int .i64 c, .int .i64 lf, .slice a n cap] 24)).alloc (.cells #[.int .i64 0, .int .i64 0, .slice none 0 0] 24)) w.heap.size c lf (.slice a n cap) from ⟨by simp, by simp, by simp, fun i => by simp⟩)
  have R := Lib.hid (show BoxD ((w.alloc (.cells #[.int .i64 c, .int .i64 lf, .slice a n cap] 24)).alloc (.cells #[.int .i64 0, .int .i64 0, .slice none 0 0] 24)) (w.heap.size + 1) 0 0 (.slice none 0 0) from ⟨by simp, by simp, by simp, fun i => by simp⟩)
  have hs1 : w.heap.size + 2 ≤ ((w.alloc (.cells #[.int .i64 c, .int .i64 lf, .slice a n cap] 24)).alloc (.cells #[.int .i64 0, .int .i64 0, .slice none 0 0] 24)).heap.size := by simp
  go_enter Tryd.func94, Tryd.ntmps94
  go_upto_region 1 with fail
  generalize (w.alloc (.cells #[.int .i64 c, .int .i64 lf, .slice a n cap] 24)).alloc (.cells #[.int .i64 0, .int .i64 0, .slice none 0 0] 24) = w1 at *
  have HX1 := Lib.hid (X.out.below ((Below.refl w1.heap.size w1).alloc (Nat.le_refl _) (.cells #[] 73)))
  have HRw := Lib.hid (Rd.below HR.out HB0.out)
  have x2 := X.out.c2
  have xf := X.out.f
  have y2 := HX1.out.c2
  go_upto_region 2 with (at_builtin; go_must (refine wpList_app rfl (.tmp 3) (.tmp 5) 22 rfl elemFr (w.heap.size + 2) rfl (World.ownsRow_made (size := 3) _ #[] 0 hs1 (by decide) rfl) rfl (HRw.out.alloc _) H1.out (by unfold maxLen; omega) (by omega) (by simp; omega) ?_); intro v4 w4 hown4 hgr4 hv4; clear hv4; obtain ⟨a4, c4, e4, _⟩ := own_form hown4; subst e4; have hb4 := own_below ((Below.refl (w.heap.size + 2) w1).alloc hs1 (.cells #[] 73)) (World.ownsRow_made (e := 73) (size := 3) w1 #[] 0 hs1 (by decide) rfl) (by simp; omega) hgr4; have X4 := Lib.hid (X.out.of_block (hb4.block _ (by omega))); have R4 := Lib.hid (R.out.of_block (hb4.block _ (by omega))); have HB4 := Lib.hid (HB0.out.trans (hb4.mono (by omega))); have Hown := Lib.hid hown4; clear hown4 hgr4 hb4; have z2 := X4.out.c2; have zf := X4.out.f)
  clear x2 xf y2 z2 zf HX1 X R HB0
  have hO := Hown.out
  rw [Nat.zero_add, List.nil_append] at hO
  rw [Nat.zero_add] at *
  have X5 := Lib.hid (X4.out.set2 (.slice a4 n c4))
  have R5 := Lib.hid (R4.out.set_ne (p := ⟨w.heap.size, 2, none⟩) (by dsimp only; omega) (.slice a4 n c4))
  have HB5 := Lib.hid (HB4.out.setCell (p := ⟨w.heap.size, 2, none⟩) (Nat.le_refl _) (.slice a4 n c4))
  have O5 := Lib.hid (own_set_ne (p := ⟨w.heap.size, 2, none⟩) hO (own_above hO (by dsimp only; omega)) (.slice a4 n c4))
  clear hO Hown X4 R4 HB4
  generalize w4.setCell ⟨w.heap.size, 2, none⟩ (.slice a4 n c4) = w5 at *
  have x1 := X5.out.c1
  have xf := X5.out.f
  by_cases hl : 0 < lf
  · have HL := Lib.hid (show nextL lf = lf - 1 by unfold nextL; rw [if_pos hl])
    have X6 := Lib.hid (X5.out.set1 (lf - 1))
    have R6 := Lib.hid (R5.out.set_ne (p := ⟨w.heap.size, 1, none⟩) (by dsimp only; omega) (.int .i64 (lf - 1)))
    have HB6 := Lib.hid (HB5.out.setCell (p := ⟨w.heap.size, 1, none⟩) (Nat.le_refl _) (.int .i64 (lf - 1)))
    have O6 := Lib.hid (own_set_ne (p := ⟨w.heap.size, 1, none⟩) O5.out (own_above O5.out (by dsimp only; omega)) (.int .i64 (lf - 1)))
    have o6 := O6.out
    have O7 := Lib.hid o6
    clear o6
    go_upto_region 4 with fail
    clear x1 xf X5 R5 HB5 O5 O6
    try change Code.wp _ _ _ _ (w5.setCell ⟨w.heap.size, 1, none⟩ (.int .i64 (lf - 1)))
    generalize w5.setCell ⟨w.heap.size, 1, none⟩ (.int .i64 (lf - 1)) = w6 at *
    have x0 := X6.out.c0
    have x1 := X6.out.c1
    have x2 := X6.out.c2
    have r0 := R6.out.c0
    have r1 := R6.out.c1
    have r2 := R6.out.c2
    have rf := R6.out.f
    go_wp2_with fail
    exact bodyPost_ret (v := diskVal c (lf - 1) (.slice a4 n c4)) (by simp [results, Tryd.results94, go_sem, r0, r1, r2]) rfl ⟨_, by rw [HL.out], World.ownsRow.mono (own_set_ne (p := ⟨w.heap.size + 1, 2, none⟩) (own_set_ne (p := ⟨w.heap.size + 1, 1, none⟩) (own_set_ne (p := ⟨w.heap.size + 1, 0, none⟩) O7.out (own_above O7.out (by dsimp only; omega)) _) (own_above O7.out (by dsimp only; omega)) _) (own_above O7.out (by dsimp only; omega)) _) (Nat.le_add_right _ 2), HB6.out.all3 (by omega) _ _ _⟩
  · have HL := Lib.hid (show nextL lf = lf by unfold nextL; rw [if_neg hl])
    clear xf
    have x0 := X5.out.c0
    have x1 := X5.out.c1
    have x2 := X5.out.c2
    have r0 := R5.out.c0
    have r1 := R5.out.c1
    have r2 := R5.out.c2
    have rf := R5.out.f
    go_wp2_with fail
    exact bodyPost_ret (v := diskVal c lf (.slice a4 n c4)) (by simp [results, Tryd.results94, go_sem, r0, r1, r2]) rfl ⟨_, by rw [HL.out], World.ownsRow.mono (own_set_ne (p := ⟨w.heap.size + 1, 2, none⟩) (own_set_ne (p := ⟨w.heap.size + 1, 1, none⟩) (own_set_ne (p := ⟨w.heap.size + 1, 0, none⟩) O5.out (own_above O5.out (by dsimp only; omega)) _) (own_above O5.out (by dsimp only; omega)) _) (own_above O5.out (by dsimp only; omega)) _) (Nat.le_add_right _ 2), HB5.out.all3 (by omega) _ _ _⟩
end Go.Proofs.YtkabcpmnbjllcaaDoor
