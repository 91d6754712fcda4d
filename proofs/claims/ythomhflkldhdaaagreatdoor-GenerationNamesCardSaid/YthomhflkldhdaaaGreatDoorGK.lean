/- Several texts in one, each over the last: Names of files: the reference's digit, ValidName; name; both File. Names of files: the reference's Format and File. Names of files: what the reference's Parse computes, and that it is what the program's computes. Names of files: the walk of the reference's Parse. Printed by genHu.py. -/
import Derived.Test.YthomhflkldhdaaaGreatDoorGI
import Derived.Test.YthomhflkldhdaaaGreatDoorGJ
import Derived.Laws.Strings2
namespace Go.Proofs.YthomhflkldhdaaaGreatDoor
open Go.RowKit

set_option maxRecDepth 100000 in
theorem digit_any (j : Int) (h : 0 ≤ j ∧ j < 10) (w : World) : Calls Tryz.prog 63 #[.int .i64 j] w fun e w' => e = .returned (strV [UInt8.ofNat (48 + j.toNat)]) ∧ Below w.heap.size w w' := by
  obtain ⟨k, rfl⟩ : ∃ k : Nat, j = (k : Int) := ⟨j.toNat, by omega⟩
  have hn : (UInt8.ofNat (48 + k)).toNat = 48 + k := by rw [UInt8.toNat_ofNat']; omega
  have hr : RdB (w.alloc (.cells #[.int .u8 (48 + (k : Int))] 5)) (.slice (some ⟨w.heap.size, 0, none⟩) 1 1) [UInt8.ofNat (48 + k)] := by
    have := Rd.new w 1 [.int .u8 (48 + (k : Int))] 5 1 rfl (by decide)
    show Rd _ 1 _ 1 ([UInt8.ofNat (48 + k)].map byteV)
    rw [show ([UInt8.ofNat (48 + k)].map byteV) = [.int .u8 (48 + (k : Int))] by
      show [Value.int .u8 ((UInt8.ofNat (48 + k)).toNat : Int)] = _
      rw [hn, Int.natCast_add]; rfl]
    exact this
  have hcv := run_to_string (P := Tryz.prog) 66 9 5 Tryz.underlying66 Tryz.underlying5 Tryz.underlying9 hr
  have HB := Lib.hid ((Below.refl w.heap.size w).alloc (Nat.le_refl _) (.cells #[.int .u8 (48 + (k : Int))] 5))
  clear hr hn
  rw [show ((k : Int)).toNat = k from rfl]
  generalize UInt8.ofNat (48 + k) = c at *
  go_enter Tryz.func63, Tryz.ntmps63
  go_wp2_with fail
  go_ret
  exact ⟨rfl, HB.out⟩
set_option maxRecDepth 100000 in
set_option maxHeartbeats 4000000 in
theorem rnvalid_any (x : Nam) (w : World) : Calls Tryz.prog 62 #[namV x] w fun e w' => e = .returned (.bool (decide (validN x))) ∧ Below w.heap.size w w' := by
  obtain ⟨k, s, g, d, t⟩ := x
  have HB := below_nam w ⟨k, s, g, d, t⟩ 51
  go_enter Tryz.func62, Tryz.ntmps62
  cases t <;> go_wp2_with fail
  all_goals
    go_ret
    refine ⟨ret_bool ?_, below_nam w _ _⟩
    clear HB
    try simp only [beq_iff_eq, bne_iff_ne, beq_eq_false_iff_ne, bne_eq_false_iff_eq, ne_eq] at *
    first
    | (refine (decide_eq_false ?_).symm; unfold validN inN; simp only [reduceCtorEq, and_true, true_and, and_false, false_and, or_false, false_or]; omega)
    | (refine (decide_eq_true ?_).symm; unfold validN inN; simp only [reduceCtorEq, and_true, true_and, and_false, false_and, or_false, false_or]; omega)
    | (rw [Bool.eq_iff_iff, beq_iff_eq, decide_eq_true_eq]; unfold validN inN; simp only [reduceCtorEq, and_true, true_and, and_false, false_and, or_false, false_or]; omega)
    | (rw [decide_eq_decide]; unfold validN inN; simp only [reduceCtorEq, and_true, true_and, and_false, false_and, or_false, false_or]; omega)
set_option maxRecDepth 100000 in
theorem name_any (x : Nam) (w : World) : Calls Tryz.prog 21 #[namV x] w fun e w' => e = .returned (namV x) ∧ Below w.heap.size w w' := by
  obtain ⟨k, s, g, d, t⟩ := x
  go_enter Tryz.func21, Tryz.ntmps21
  go_wp2_with fail
  exact bodyPost_ret (v := namV ⟨k, s, g, d, t⟩) (by simp [results, Tryz.results21, go_sem]) rfl ⟨rfl, bstep (below_nam w ⟨k, s, g, d, t⟩ 51) (below_nam _ ⟨k, s, g, d, t⟩ 55)⟩
theorem file_any (k s g : Int) (w : World) : Calls Tryz.prog 23 #[.int .i64 k, .int .i64 s, .int .i64 g] w fun e w' => e = .returned (strV (fmtN ⟨k, s, g, 0, false⟩)) ∧ Below w.heap.size w w' := by
  have HF := Lib.hid (format_any ⟨k, s, g, 0, false⟩ w)
  generalize fmtN ⟨k, s, g, 0, false⟩ = fn at *
  generalize (if validN ⟨k, s, g, 0, false⟩ then (0 : Int) else 1) = cd at *
  go_enter Tryz.func23, Tryz.ntmps23
  go_wp2_with fail
  refine HF.out.mono ?_
  rintro e w1 ⟨rfl, hb⟩
  go_wp2_with fail
  go_ret
  exact ⟨rfl, hb⟩
end Go.Proofs.YthomhflkldhdaaaGreatDoor

namespace Go.Proofs.YthomhflkldhdaaaGreatDoor
open Go.RowKit

set_option maxRecDepth 100000 in
set_option maxHeartbeats 4000000 in
theorem rformat_any (x : Nam) (w : World) : Calls Tryz.prog 22 #[namV x] w fun e w' => e = .returned (.tuple #[strV (fmtN x), .int .i64 (if validN x then 0 else 1)]) ∧ Below w.heap.size w w' := by
  have HV := Lib.hid (fun W => rnvalid_any x W)
  have HX := Lib.hid (BoxN.new w x 51)
  have HB := Lib.hid (below_nam w x 51)
  by_cases hv : validN x
  · have hv2 := hv
    obtain ⟨⟨h1, h2, h3, h4, h5, h6⟩, hk⟩ := hv2
    have HD := Lib.hid (fun W => digit_any x.shard (by omega) W)
    have HI1 := Lib.hid (fun W => digit_any x.slot (by omega) W)
    have HI2 := Lib.hid (fun W => digit_any x.gen (by omega) W)
    have HF := Lib.hid (show fmtN x = fmtL x from if_pos hv)
    have HL := Lib.hid (show fmtL x = ([118, 46, UInt8.ofNat (48 + x.slot.toNat), 46, UInt8.ofNat (48 + x.gen.toNat), 46] ++ endN x) ++ (if x.temp then [46, 116, 109, 112] else []) from rfl)
    have hel : (endN x).length ≤ 3 := by unfold endN; split <;> (try split) <;> (try split) <;> (try split) <;> simp
    rw [decide_eq_true hv] at HV
    rw [if_pos hv]
    obtain ⟨kn, hkn⟩ : ∃ kn : Nat, x.kind = (kn : Int) := ⟨x.kind.toNat, by omega⟩
    have hk1 : 1 ≤ kn ∧ kn ≤ 5 := by omega
    have HC := Lib.hid (show ∀ (W : World) (t : TypeId), (W.alloc (.cells #[strV [], strV [100, 97, 116], strV [115, 104, 100], strV [100, 101, 108], strV [105, 100, 120], strV [101, 99, UInt8.ofNat (48 + x.shard.toNat)]] t)).cell? ⟨W.heap.size, kn, none⟩ = some (strV (endN x)) from fun W t => by
      rcases (show kn = 1 ∨ kn = 2 ∨ kn = 3 ∨ kn = 4 ∨ kn = 5 by omega) with e | e | e | e | e <;> subst e <;> simp [endN, hkn])
    clear hv h1 h2 h3 h4 h5 h6 hk
    generalize fmtN x = fN at *
    generalize fmtL x = fL at *
    generalize endN x = en at *
    obtain ⟨k, s, g, d, t⟩ := x
    dsimp only at *
    subst hkn
    generalize UInt8.ofNat (48 + s.toNat) = cs at *
    generalize UInt8.ofNat (48 + g.toNat) = cg at *
    generalize UInt8.ofNat (48 + d.toNat) = cd at *
    go_enter Tryz.func22, Tryz.ntmps22
    go_upto_region 1 with fail
    obtain ⟨W, hW⟩ : ∃ W, w.alloc (.cells (namC ⟨(kn : Int), s, g, d, t⟩) 51) = W := ⟨_, rfl⟩
    change Code.wp _ _ _ _ (w.alloc (.cells (namC ⟨(kn : Int), s, g, d, t⟩) 51))
    rw [hW] at HX HB ⊢
    clear hW
    have x0 := HX.out.c0
    have x1 := HX.out.c1
    have x2 := HX.out.c2
    have x3 := HX.out.c3
    have x4 := HX.out.c4
    dsimp only at x0 x1 x2 x3 x4
    go_wp2_with fail
    refine (HV.out _).mono ?_
    rintro e w1 ⟨rfl, hb1⟩
    have HX1 := Lib.hid (HX.out.below hb1)
    have HB1 := Lib.hid (bstep HB.out hb1)
    clear x0 x1 x2 x3 x4 hb1 HX HB HV
    have x3 := HX1.out.c3
    dsimp only at x3
    go_wp2_with fail
    refine (HD.out _).mono ?_
    rintro e w2 ⟨rfl, hb2⟩
    have HX2 := Lib.hid (HX1.out.below hb2)
    have HB2 := Lib.hid (bstep HB1.out hb2)
    clear x3 hb2 HX1 HB1 HD
    go_upto_region 4 with fail
    obtain ⟨V, hV⟩ : ∃ V, w2.alloc (.cells #[strV [], strV [100, 97, 116], strV [115, 104, 100], strV [100, 101, 108], strV [105, 100, 120], strV [101, 99, cd]] 9) = V := ⟨_, rfl⟩
    change Code.wp _ _ _ _ (w2.alloc (.cells #[strV [], strV [100, 97, 116], strV [115, 104, 100], strV [100, 101, 108], strV [105, 100, 120], strV [101, 99, cd]] 9))
    have hq : V.cell? ⟨w2.heap.size, kn, none⟩ = some (strV en) := hV ▸ HC.out w2 _
    have hbV : Below w2.heap.size w2 V := hV ▸ (Below.refl _ w2).alloc (Nat.le_refl _) _
    rw [hV]
    clear hV HC
    have HX3 := Lib.hid (HX2.out.below hbV)
    have HB3 := Lib.hid (bstep HB2.out hbV)
    clear hbV HX2 HB2
    generalize w2.heap.size = pb at *
    clear w2
    have y0 := cell_by HX3.out.c0
    have y1 := cell_by HX3.out.c1
    have y2 := cell_by HX3.out.c2
    have yq := cell_by hq
    dsimp only at y0 y1 y2
    have i1 : (kn : Int) < 6 := by omega
    go_wp2_with fail
    refine wp_region_below (by kernel_rfl) (by kernel_rfl) ?_
    repeat (go_big_quiet_step (first | exact calls_by (HI1.out _) | exact calls_by (HI2.out _)))
    refine wpQuiet_nil ?_
    intro w4 hw4
    obtain ⟨u, hw4⟩ := hw4
    subst hw4
    have HX4 := Lib.hid (HX3.out.below u.h)
    have HB4 := Lib.hid (bstep HB3.out u.h)
    generalize u.w' = w4 at *
    clear u y0 y1 y2 yq hq HX3 HB3 HI1 HI2 i1
    have x4 := HX4.out.c4
    dsimp only at x4
    cases t
    · go_wp2_with fail
      refine bodyPost_ret (v := .tuple #[strV ([118, 46, cs, 46, cg, 46] ++ en), .int .i64 0]) (by simp [results, Tryz.results22, go_sem, strV, ByteArray.mk_append_mk]) rfl ⟨?_, HB4.out⟩
      rw [HF.out, HL.out]
      simp
    · go_wp2_with fail
      refine bodyPost_ret (v := .tuple #[strV ([118, 46, cs, 46, cg, 46] ++ en ++ [46, 116, 109, 112]), .int .i64 0]) (by simp [results, Tryz.results22, go_sem, strV, ByteArray.mk_append_mk]) rfl ⟨?_, HB4.out⟩
      rw [HF.out, HL.out]
      simp
  · have HF := Lib.hid (show fmtN x = [] from if_neg hv)
    rw [decide_eq_false hv] at HV
    rw [if_neg hv]
    clear hv
    generalize fmtN x = fN at *
    obtain ⟨k, s, g, d, t⟩ := x
    go_enter Tryz.func22, Tryz.ntmps22
    go_upto_region 1 with fail
    obtain ⟨W, hW⟩ : ∃ W, w.alloc (.cells (namC ⟨k, s, g, d, t⟩) 51) = W := ⟨_, rfl⟩
    change Code.wp _ _ _ _ (w.alloc (.cells (namC ⟨k, s, g, d, t⟩) 51))
    rw [hW] at HX HB ⊢
    clear hW
    have x0 := HX.out.c0
    have x1 := HX.out.c1
    have x2 := HX.out.c2
    have x3 := HX.out.c3
    have x4 := HX.out.c4
    dsimp only at x0 x1 x2 x3 x4
    go_wp2_with fail
    refine (HV.out _).mono ?_
    rintro e w1 ⟨rfl, hb1⟩
    have HB1 := Lib.hid (bstep HB.out hb1)
    clear x0 x1 x2 x3 x4 hb1 HX HB HV
    go_wp2_with fail
    exact bodyPost_ret (v := .tuple #[strV [], .int .i64 1]) (by simp [results, Tryz.results22, go_sem, strV]) rfl ⟨by rw [HF.out], HB1.out⟩
theorem rfile_any (k s g : Int) (w : World) : Calls Tryz.prog 24 #[.int .i64 k, .int .i64 s, .int .i64 g] w fun e w' => e = .returned (strV (fmtN ⟨k, s, g, 0, false⟩)) ∧ Below w.heap.size w w' := by
  have HF := Lib.hid (rformat_any ⟨k, s, g, 0, false⟩ w)
  generalize fmtN ⟨k, s, g, 0, false⟩ = fn at *
  generalize (if validN ⟨k, s, g, 0, false⟩ then (0 : Int) else 1) = cd at *
  go_enter Tryz.func24, Tryz.ntmps24
  go_wp2_with fail
  refine HF.out.mono ?_
  rintro e w1 ⟨rfl, hb⟩
  go_wp2_with fail
  go_ret
  exact ⟨rfl, hb⟩
end Go.Proofs.YthomhflkldhdaaaGreatDoor

namespace Go.Proofs.YthomhflkldhdaaaGreatDoor
open Go.RowKit

/-- The name at the fixed places of a text of nine bytes or more. -/
def restR (s : List UInt8) : List UInt8 := if 4 < (s.drop 6).length ∧ (s.drop 6).drop ((s.drop 6).length - 4) = tmpL then (s.drop 6).take ((s.drop 6).length - 4) else s.drop 6
def tmpR (s : List UInt8) : Bool := decide (4 < (s.drop 6).length ∧ (s.drop 6).drop ((s.drop 6).length - 4) = tmpL)
def dig (c : UInt8) : Int := (c.toNat : Int) - 48
def candR (s : List UInt8) : Nam := ⟨kindF (restR s), dig (s.getD 2 0), dig (s.getD 4 0), if kindF (restR s) = 5 then dig ((restR s).getD ((restR s).length - 1) 0) else 0, tmpR s⟩
def parseR (s : List UInt8) : Int × Nam := if s.length < 9 then (3, nam0) else if validN (candR s) ∧ fmtL (candR s) = s then (0, candR s) else (3, nam0)
/-- All valid names. -/
def allN : List Nam := (List.range 4).flatMap fun s => (List.range 8).flatMap fun g => [false, true].flatMap fun t => ((List.range 6).map fun d => ⟨5, s, (g : Int) + 1, d, t⟩) ++ [⟨4, s, (g : Int) + 1, 0, t⟩] ++ (if t then [] else [⟨1, s, (g : Int) + 1, 0, t⟩, ⟨2, s, (g : Int) + 1, 0, t⟩, ⟨3, s, (g : Int) + 1, 0, t⟩])
theorem mem_allN {x : Nam} (h : validN x) : x ∈ allN := by
  obtain ⟨k, s, g, d, t⟩ := x
  obtain ⟨⟨h1, h2, h3, h4, h5, h6⟩, hk⟩ := h
  dsimp only at *
  unfold allN
  refine List.mem_flatMap.2 ⟨s.toNat, List.mem_range.2 (by omega), List.mem_flatMap.2 ⟨(g - 1).toNat, List.mem_range.2 (by omega), List.mem_flatMap.2 ⟨t, by cases t <;> simp, ?_⟩⟩⟩
  have e1 : ((s.toNat : Nat) : Int) = s := by omega
  have e2 : (((g - 1).toNat : Nat) : Int) + 1 = g := by omega
  rw [e1, e2]
  rcases hk with ⟨hk, ht, hd⟩ | ⟨hk, hd⟩ | hk
  · subst ht hd
    rcases hk with hk | hk | hk <;> subst hk <;> simp
  · subst hk hd
    simp
  · subst hk
    refine List.mem_append_left _ (List.mem_append_left _ (List.mem_map.2 ⟨d.toNat, List.mem_range.2 (by omega), ?_⟩))
    have e3 : ((d.toNat : Nat) : Int) = d := by omega
    rw [e3]
def chkN (x : Nam) : Bool := decide (candP (fmtL x) = some x) && decide (candR (fmtL x) = x) && decide (9 ≤ (fmtL x).length)
set_option maxRecDepth 1000000 in
theorem chk_all : allN.all chkN = true := by decide +kernel
theorem cand_of {x : Nam} (h : validN x) : candP (fmtL x) = some x ∧ candR (fmtL x) = x ∧ 9 ≤ (fmtL x).length := by
  have := List.all_eq_true.1 chk_all x (mem_allN h)
  unfold chkN at this
  simp only [Bool.and_eq_true, decide_eq_true_eq] at this
  exact ⟨this.1.1, this.1.2, this.2⟩
theorem parseP_fmt {x : Nam} (h : validN x) : parseP (fmtL x) = (0, x) := by
  unfold parseP
  rw [(cand_of h).1]
  exact if_pos ⟨h, rfl⟩
theorem parse_same (s : List UInt8) : parseP s = parseR s := by
  by_cases h : ∃ x, validN x ∧ fmtL x = s
  · obtain ⟨x, hx, rfl⟩ := h
    rw [parseP_fmt hx]
    unfold parseR
    rw [if_neg (by have := (cand_of hx).2.2; omega), (cand_of hx).2.1, if_pos ⟨hx, rfl⟩]
  · have h1 : parseP s = (3, nam0) := by
      unfold parseP
      cases candP s with
      | none => rfl
      | some x => exact if_neg fun hh => h ⟨x, hh⟩
    rw [h1]
    unfold parseR
    split
    · rfl
    · rw [if_neg fun hh => h ⟨_, hh⟩]
end Go.Proofs.YthomhflkldhdaaaGreatDoor

namespace Go.Proofs.YthomhflkldhdaaaGreatDoor
open Go.RowKit

theorem kind_iff {k : Nat} {l : List UInt8} (h1 : 1 ≤ k) (h5 : k < 5) : (l == endK k) = decide (kindF l = k) := by
  by_cases e : l = endK k
  · subst e
    rw [beq_self_eq_true]
    rcases (show k = 1 ∨ k = 2 ∨ k = 3 ∨ k = 4 by omega) with e | e | e | e <;> subst e <;> decide
  · have e' : (l == endK k) = false := beq_eq_false_iff_ne.2 e
    rw [e']
    clear e
    symm
    rw [decide_eq_false_iff_not]
    rcases (show k = 1 ∨ k = 2 ∨ k = 3 ∨ k = 4 by omega) with e1 | e1 | e1 | e1 <;> subst e1 <;> unfold kindF <;> rw [e'] <;> clear e' <;> generalize (l == endK 1) = b1 <;> generalize (l == endK 2) = b2 <;> generalize (l == endK 3) = b3 <;> generalize (l == endK 4) = b4 <;> cases b1 <;> cases b2 <;> cases b3 <;> cases b4 <;> decide
theorem dig_wrap (c : UInt8) : wrap64 (wrap64 (c.toNat : Int) - 48) = dig c := by
  have := UInt8.toNat_lt c
  unfold wrap64 dig
  omega
/-- The kind found before number k is asked. -/
def kindU (k : Nat) (l : List UInt8) : Nat := if kindF l < k then kindF l else 5
theorem kindU_one (l : List UInt8) : kindU 1 l = 5 := if_neg (by have := kindF_pos l; omega)
theorem kindU_hit {k : Nat} {l : List UInt8} (h : kindF l = k) : kindU (k + 1) l = k := by unfold kindU; rw [if_pos (by omega), h]
theorem kindU_miss {k : Nat} {l : List UInt8} (h : kindF l ≠ k) : kindU (k + 1) l = kindU k l := by
  unfold kindU
  by_cases e : kindF l < k
  · rw [if_pos e, if_pos (by omega)]
  · rw [if_neg e, if_neg (by omega)]
theorem kindU_five (l : List UInt8) : kindU 5 l = kindF l := by
  unfold kindU
  have := kindF_pos l
  split <;> omega
theorem BoxN.temp_ {W : World} {b : Nat} {x : Nam} (h : BoxN W b x) (t : Bool) : BoxN (W.setCell ⟨b, 4, none⟩ (.bool t)) b ⟨x.kind, x.slot, x.gen, x.shard, t⟩ := by
  have c0 := h.c0
  have c1 := h.c1
  have c2 := h.c2
  have c3 := h.c3
  have c4 := h.c4
  refine ⟨?_, ?_, ?_, ?_, ?_, fun i => by have := h.f i; simpa using this⟩ <;> simp [go_sem, c0, c1, c2, c3, c4]
/-- The five endings in a block. -/
structure RowE (W : World) (b : Nat) : Prop where
  c : ∀ k, 1 ≤ k → k < 5 → W.cell? ⟨b, k, none⟩ = some (strV (endK k))
theorem RowE.below {W W' : World} {b : Nat} (h : RowE W b) (hB : Below W.heap.size W W') : RowE W' b := ⟨fun k h1 h5 => hB.keeps' (h.c k h1 h5)⟩
theorem RowE.lt {W : World} {b : Nat} (h : RowE W b) : b < W.heap.size := World.block_lt_of_cell? W _ (h.c 1 (by decide) (by decide))
theorem RowE.set_ne {W : World} {b c o : Nat} (h : RowE W b) (hp : b ≠ c) (u : Value) : RowE (W.setCell ⟨c, o, none⟩ u) b := ⟨fun k h1 h5 => (World.cell?_setCell_other (h := fun e => hp (by injection e with e; exact e.symm)) ..).trans (h.c k h1 h5)⟩
theorem RowE.new (w : World) (t : TypeId) : RowE (w.alloc (.cells #[strV [], strV [100, 97, 116], strV [115, 104, 100], strV [100, 101, 108], strV [105, 100, 120]] t)) w.heap.size := ⟨fun k h1 h5 => by
  rcases (show k = 1 ∨ k = 2 ∨ k = 3 ∨ k = 4 by omega) with e | e | e | e <;> subst e <;> simp [endK]⟩
set_option maxRecDepth 100000 in
set_option maxHeartbeats 8000000 in
theorem rparse_any (ls : List UInt8) (w : World) (hs : ls.length ≤ 1000000) : Calls Tryz.prog 26 #[strV ls] w fun e w' => e = .returned (.tuple #[namV (parseR ls).2, .int .i64 (parseR ls).1]) ∧ Below w.heap.size w w' := by
  have HF := Lib.hid (fun x W => rformat_any x W)
  by_cases h9 : ls.length < 9
  · have HP := Lib.hid (show parseR ls = (3, nam0) from if_pos h9)
    have e0 : decide ((ls.length : Int) < 9) = true := by simp; omega
    generalize parseR ls = PR at *
    go_enter Tryz.func26, Tryz.ntmps26
    go_upto_region 1 with fail
    obtain ⟨W, hW⟩ : ∃ W, w.alloc (.cells (namC nam0) 51) = W := ⟨_, rfl⟩
    have HR := Lib.hid (show BoxN W w.heap.size nam0 from hW ▸ BoxN.new w nam0 51)
    have HB := Lib.hid (show Below w.heap.size w W from hW ▸ below_nam w nam0 51)
    change Code.wp _ _ _ _ (w.alloc (.cells (namC nam0) 51))
    rw [hW]
    clear hW
    have r0 := HR.out.c0
    have r1 := HR.out.c1
    have r2 := HR.out.c2
    have r3 := HR.out.c3
    have r4 := HR.out.c4
    have rf := HR.out.f
    dsimp only [nam0] at r0 r1 r2 r3 r4
    go_wp2_with fail
    change bodyPost _ _ _ _ _ (pts W w.heap.size (namL nam0))
    have hby := HR.out.all nam0
    have HBq := Lib.hid (pts_below (B := w.heap.size) (b := w.heap.size) (Nat.le_refl _) (namL nam0) HB.out)
    rw [HP.out]
    generalize pts W w.heap.size (namL nam0) = wq at *
    exact bodyPost_ret (v := .tuple #[namV nam0, .int .i64 3]) (by simp [results, Tryz.results26, go_sem, hby.c0, hby.c1, hby.c2, hby.c3, hby.c4]) rfl ⟨rfl, HBq.out⟩
  · have HP := Lib.hid (show parseR ls = if validN (candR ls) ∧ fmtL (candR ls) = ls then (0, candR ls) else (3, nam0) from if_neg h9)
    obtain ⟨c0, c1, c2, c3, c4, c5, rst, rfl⟩ : ∃ c0 c1 c2 c3 c4 c5 rst, ls = c0 :: c1 :: c2 :: c3 :: c4 :: c5 :: rst := by
      rcases ls with _ | ⟨c0, _ | ⟨c1, _ | ⟨c2, _ | ⟨c3, _ | ⟨c4, _ | ⟨c5, rst⟩⟩⟩⟩⟩⟩
      all_goals first | exact ⟨_, _, _, _, _, _, _, rfl⟩ | (exfalso; apply h9; simp)
    have HCd := Lib.hid (show candR (c0 :: c1 :: c2 :: c3 :: c4 :: c5 :: rst) = ⟨kindF (restR (c0 :: c1 :: c2 :: c3 :: c4 :: c5 :: rst)), dig c2, dig c4, if kindF (restR (c0 :: c1 :: c2 :: c3 :: c4 :: c5 :: rst)) = 5 then dig ((restR (c0 :: c1 :: c2 :: c3 :: c4 :: c5 :: rst)).getD ((restR (c0 :: c1 :: c2 :: c3 :: c4 :: c5 :: rst)).length - 1) 0) else 0, tmpR (c0 :: c1 :: c2 :: c3 :: c4 :: c5 :: rst)⟩ from rfl)
    have HRs := Lib.hid (show restR (c0 :: c1 :: c2 :: c3 :: c4 :: c5 :: rst) = if 4 < rst.length ∧ rst.drop (rst.length - 4) = tmpL then rst.take (rst.length - 4) else rst from rfl)
    have HTm := Lib.hid (show tmpR (c0 :: c1 :: c2 :: c3 :: c4 :: c5 :: rst) = decide (4 < rst.length ∧ rst.drop (rst.length - 4) = tmpL) from rfl)
    generalize candR (c0 :: c1 :: c2 :: c3 :: c4 :: c5 :: rst) = C at *
    generalize restR (c0 :: c1 :: c2 :: c3 :: c4 :: c5 :: rst) = rr at *
    generalize tmpR (c0 :: c1 :: c2 :: c3 :: c4 :: c5 :: rst) = tm at *
    generalize parseR (c0 :: c1 :: c2 :: c3 :: c4 :: c5 :: rst) = PR at *
    have hl3 : 3 ≤ rst.length := by simp at h9; omega
    have hl6 : rst.length ≤ 1000000 := by simp at hs; omega
    have e0 : decide ((((c0 :: c1 :: c2 :: c3 :: c4 :: c5 :: rst).length : Nat) : Int) < 9) = false := by simp; omega
    clear h9 hs
    go_enter Tryz.func26, Tryz.ntmps26
    go_upto_region 1 with fail
    obtain ⟨W, hW⟩ : ∃ W, w.alloc (.cells (namC nam0) 51) = W := ⟨_, rfl⟩
    have HR := Lib.hid (show BoxN W w.heap.size nam0 from hW ▸ BoxN.new w nam0 51)
    have HB := Lib.hid (show Below w.heap.size w W from hW ▸ below_nam w nam0 51)
    change Code.wp _ _ _ _ (w.alloc (.cells (namC nam0) 51))
    rw [hW]
    clear hW
    go_upto_region 3 with fail
    refine wp_region_rel [eqS (strV (c0 :: c1 :: c2 :: c3 :: c4 :: c5 :: rst)), eqS (.int .u8 (c2.toNat : Int)), eqS (.int .i64 (c2.toNat : Int)), eqS (.int .i64 (dig c2)), eqS (strV (c0 :: c1 :: c2 :: c3 :: c4 :: c5 :: rst)), eqS (.int .u8 (c4.toNat : Int)), eqS (.int .i64 (c4.toNat : Int)), eqS (.int .i64 (dig c4)), eqS (.agg #[.int .i64 0, .int .i64 (dig c2), .int .i64 (dig c4), .int .i64 0, .bool false]), nboxS W.heap.size] [9] 81 (by kernel_rfl) (by kernel_rfl) (by rfl) (by kernel_rfl) (fun f => by simp [frm, dstOf, Act.put]; exact rfl) ?_ ?_
    · refine ⟨?_, ?_, ?_, ?_, ?_, ?_, ?_, ?_, ?_, ?_, trivial⟩
      · intro f w1 hb hd
        clear hd
        dsimp only
        go_wp2_with fail
        exact ⟨rfl, Below.refl _ _, fun t ht => by injection ht with ht; subst ht; exact ⟨rfl, fun h => by simp at h⟩⟩
      · intro f w1 hb hd
        have d0 : f 0 = (strV (c0 :: c1 :: c2 :: c3 :: c4 :: c5 :: rst)) := hd 0 (by kernel_rfl)
        clear hd
        dsimp only
        rw [d0]
        go_wp2_with fail
        exact ⟨rfl, Below.refl _ _, fun t ht => by injection ht with ht; subst ht; exact ⟨rfl, fun h => by simp at h⟩⟩
      · intro f w1 hb hd
        have d1 : f 1 = (.int .u8 (c2.toNat : Int)) := hd 1 (by kernel_rfl)
        clear hd
        dsimp only
        rw [d1]
        have hc1 := UInt8.toNat_lt c2
        go_wp2_with fail
        exact ⟨rfl, Below.refl _ _, fun t ht => by injection ht with ht; subst ht; exact ⟨rfl, fun h => by simp at h⟩⟩
      · intro f w1 hb hd
        have d2 : f 2 = (.int .i64 (c2.toNat : Int)) := hd 2 (by kernel_rfl)
        clear hd
        dsimp only
        rw [d2]
        have hc1 := UInt8.toNat_lt c2
        go_wp2_with fail
        exact ⟨rfl, Below.refl _ _, fun t ht => by injection ht with ht; subst ht; exact ⟨rfl, fun h => by simp at h⟩⟩
      · intro f w1 hb hd
        clear hd
        dsimp only
        go_wp2_with fail
        exact ⟨rfl, Below.refl _ _, fun t ht => by injection ht with ht; subst ht; exact ⟨rfl, fun h => by simp at h⟩⟩
      · intro f w1 hb hd
        have d4 : f 4 = (strV (c0 :: c1 :: c2 :: c3 :: c4 :: c5 :: rst)) := hd 4 (by kernel_rfl)
        clear hd
        dsimp only
        rw [d4]
        go_wp2_with fail
        exact ⟨rfl, Below.refl _ _, fun t ht => by injection ht with ht; subst ht; exact ⟨rfl, fun h => by simp at h⟩⟩
      · intro f w1 hb hd
        have d5 : f 5 = (.int .u8 (c4.toNat : Int)) := hd 5 (by kernel_rfl)
        clear hd
        dsimp only
        rw [d5]
        have hc1 := UInt8.toNat_lt c4
        go_wp2_with fail
        exact ⟨rfl, Below.refl _ _, fun t ht => by injection ht with ht; subst ht; exact ⟨rfl, fun h => by simp at h⟩⟩
      · intro f w1 hb hd
        have d6 : f 6 = (.int .i64 (c4.toNat : Int)) := hd 6 (by kernel_rfl)
        clear hd
        dsimp only
        rw [d6]
        have hc1 := UInt8.toNat_lt c4
        go_wp2_with fail
        exact ⟨rfl, Below.refl _ _, fun t ht => by injection ht with ht; subst ht; exact ⟨rfl, fun h => by simp at h⟩⟩
      · intro f w1 hb hd
        have d3 : f 3 = (.int .i64 (dig c2)) := hd 3 (by kernel_rfl)
        have d7 : f 7 = (.int .i64 (dig c4)) := hd 7 (by kernel_rfl)
        clear hd
        dsimp only
        rw [d3]
        rw [d7]
        go_wp2_with fail
        exact ⟨rfl, Below.refl _ _, fun t ht => by injection ht with ht; subst ht; exact ⟨rfl, fun h => by simp at h⟩⟩
      · intro f w1 hb hd
        clear hd
        dsimp only
        have hbs := hb.size
        have hnw := BoxN.new w1 nam0 51
        have hbl := below_nam w1 nam0 51
        go_wp2_with fail
        exact ⟨rfl, hbl, fun t ht => by injection ht with ht; subst ht; exact ⟨⟨_, rfl, hbs, hnw⟩, fun _ => ⟨Nat.le_refl _, by simp [blk]⟩⟩⟩
    · intro f w5 hb hd hff
      clear hff
      have d8 : f 8 = (.agg #[.int .i64 0, .int .i64 (dig c2), .int .i64 (dig c4), .int .i64 0, .bool false]) := hd 8 (show 8 < 10 by decide)
      obtain ⟨bx, d9, lox, hbx⟩ := show ∃ b, f 9 = .pointer (some ⟨b, 0, none⟩) ∧ W.heap.size ≤ b ∧ BoxN w5 b nam0 from hd 9 (show 9 < 10 by decide)
      try dsimp only
      rw [d8, d9]
      clear hd d8 d9
      have HX5 := Lib.hid hbx
      have HR5 := Lib.hid (HR.out.below hb)
      have HB5 := Lib.hid (bstep HB.out hb)
      have hrb : w.heap.size < bx := Nat.lt_of_lt_of_le HR.out.lt lox
      clear hb hbx lox HR HB
      generalize f 0 = g0, f 1 = g1, f 2 = g2, f 3 = g3, f 4 = g4, f 5 = g5, f 6 = g6, f 7 = g7
      clear f
      generalize dig c2 = n1 at *
      generalize dig c4 = n2 at *
      have x0 := HX5.out.c0
      have x1 := HX5.out.c1
      have x2 := HX5.out.c2
      have x3 := HX5.out.c3
      have x4 := HX5.out.c4
      have xf := HX5.out.f
      dsimp only [nam0] at x0 x1 x2 x3 x4
      go_upto_region 4 with fail
      change Code.wp _ _ _ _ (pts w5 bx (namL ⟨0, n1, n2, 0, false⟩))
      have HX6 := Lib.hid (HX5.out.all ⟨0, n1, n2, 0, false⟩)
      have HR6 := Lib.hid (HR5.out.pts_ne (show w.heap.size ≠ bx by omega) (namL ⟨0, n1, n2, 0, false⟩))
      have HB6 := Lib.hid (pts_below (B := w.heap.size) (b := bx) (by omega) (namL ⟨0, n1, n2, 0, false⟩) HB5.out)
      generalize pts w5 bx (namL ⟨0, n1, n2, 0, false⟩) = w6 at *
      clear x0 x1 x2 x3 x4 xf HX5 HR5 HB5
      clear w5
      have e6 : (⟨(c0 :: c1 :: c2 :: c3 :: c4 :: c5 :: rst).toArray⟩ : ByteArray).extract 6 (rst.length + 1 + 1 + 1 + 1 + 1 + 1) = ⟨rst.toArray⟩ := by
        rw [ByteArray.extract_mk]
        rw [show rst.length + 1 + 1 + 1 + 1 + 1 + 1 - 6 = rst.length by omega]
        simp
      go_upto_region 5 with fail
      clear e0
      generalize (c0 :: c1 :: c2 :: c3 :: c4 :: c5 :: rst) = ls at *
      by_cases h4 : 4 < rst.length
      · have e4 : decide (4 < (rst.length : Int)) = true := by simp; omega
        have hE : (⟨rst.toArray⟩ : ByteArray).extract (rst.length - 4) rst.length = ⟨(rst.drop (rst.length - 4)).toArray⟩ := by
          rw [ByteArray.extract_mk, List.take_of_length_le (by rw [List.length_drop]; omega)]
        by_cases ht : rst.drop (rst.length - 4) = tmpL
        · have hr : rr = rst.take (rst.length - 4) := by rw [HRs.out, if_pos ⟨h4, ht⟩]
          have htm : tm = true := by rw [HTm.out, decide_eq_true ⟨h4, ht⟩]
          have hT : (⟨rst.toArray⟩ : ByteArray).extract 0 (rst.length - 4) = ⟨rr.toArray⟩ := by rw [ByteArray.extract_mk, hr]; rfl
          have hr1 : 1 ≤ rr.length := by rw [hr, List.length_take]; omega
          have hrl : rr.length ≤ 1000000 := by rw [hr, List.length_take]; omega
          have x4 := HX6.out.c4
          have xf := HX6.out.f
          dsimp only at x4
          go_upto_region 8 with fail
          rw [hT]
          have HX7 := Lib.hid (HX6.out.temp_ true)
          have HR7 := Lib.hid (HR6.out.pts_ne (show w.heap.size ≠ bx by omega) [(4, .bool true)])
          have HB7 := Lib.hid (pts_below (B := w.heap.size) (b := bx) (by omega) [(4, .bool true)] HB6.out)
          change Hid (BoxN (w6.setCell ⟨bx, 4, none⟩ (.bool true)) w.heap.size nam0) at HR7
          change Hid (Below w.heap.size w (w6.setCell ⟨bx, 4, none⟩ (.bool true))) at HB7
          generalize w6.setCell ⟨bx, 4, none⟩ (.bool true) = w7 at *
          dsimp only at HX7
          rw [← htm] at HX7
          clear x4 xf HX6 HR6 HB6 hE hT e4 e6 htm hr ht h4 hl3 hl6 HRs HTm
          go_upto_region 9 with fail
          obtain ⟨V, hV⟩ : ∃ V, w7.alloc (.cells #[strV [], strV [100, 97, 116], strV [115, 104, 100], strV [100, 101, 108], strV [105, 100, 120]] 9) = V := ⟨_, rfl⟩
          have HQ8 := Lib.hid (show RowE V w7.heap.size from hV ▸ RowE.new w7 9)
          have hbV : Below w7.heap.size w7 V := hV ▸ (Below.refl _ w7).alloc (Nat.le_refl _) _
          change Code.wp _ _ _ _ (w7.alloc (.cells #[strV [], strV [100, 97, 116], strV [115, 104, 100], strV [100, 101, 108], strV [105, 100, 120]] 9))
          rw [hV]
          clear hV
          have HX8 := Lib.hid (HX7.out.below hbV)
          have HR8 := Lib.hid (HR7.out.below hbV)
          have HB8 := Lib.hid (bstep HB7.out hbV)
          have hpb : bx < w7.heap.size := HX7.out.lt
          clear hbV HX7 HR7 HB7
          generalize w7.heap.size = pb at *
          clear w7
          have x0 := HX8.out.c0
          have xf := HX8.out.f
          dsimp only at x0
          go_upto_region 10 with fail
          have HX9 := Lib.hid (HX8.out.kind 5)
          have HQ9 := Lib.hid (HQ8.out.set_ne (o := 0) (show pb ≠ bx by omega) (.int .i64 5))
          have HR9 := Lib.hid (HR8.out.pts_ne (show w.heap.size ≠ bx by omega) [(0, .int .i64 5)])
          have HB9 := Lib.hid (pts_below (B := w.heap.size) (b := bx) (by omega) [(0, .int .i64 5)] HB8.out)
          change Hid (BoxN (V.setCell ⟨bx, 0, none⟩ (.int .i64 5)) w.heap.size nam0) at HR9
          change Hid (Below w.heap.size w (V.setCell ⟨bx, 0, none⟩ (.int .i64 5))) at HB9
          generalize V.setCell ⟨bx, 0, none⟩ (.int .i64 5) = w9 at *
          clear x0 xf HX8 HQ8 HR8 HB8
          clear V
          dsimp only at HX9
          have HKi := Lib.hid (fun (k : Nat) (h1 : 1 ≤ k) (h5 : k < 5) => @kind_iff k rr h1 h5)
          have HKh := Lib.hid (fun (k : Nat) h => @kindU_hit k rr h)
          have HKm := Lib.hid (fun (k : Nat) h => @kindU_miss k rr h)
          have HK5 := Lib.hid (kindU_five rr)
          have hkp := kindF_pos rr
          go_wp2_with fail
          go_loopw [7] (fun kv W => ∃ k : Nat, kv = .int .i64 (k : Int) ∧ 1 ≤ k ∧ k ≤ 5 ∧ Hid (BoxN W bx ⟨(kindU k rr : Int), n1, n2, 0, tm⟩) ∧ Hid (RowE W pb) ∧ Hid (BoxN W w.heap.size nam0) ∧ Hid (Below w.heap.size w W)) (fun kv _ => 5 - (intOf kv).toNat)
          case atStart => exact ⟨1, rfl, by omega, by omega, Lib.hid (by rw [kindU_one]; exact HX9.out), HQ9, HR9, HB9⟩
          case round =>
            obtain ⟨k, rfl, h1, h5, HX, HQ, HR, HB⟩ := hrel
            clear HX9 HQ9 HR9 HB9
            by_cases hk : k = 5
            · subst hk
              rw [HK5.out] at HX
              have x0 := HX.out.c0
              dsimp only at x0
              by_cases hf : kindF rr = 5
              · have hidx : rr.length - 1 < rr.length := by omega
                have HP0 := Lib.hid (show PR = if validN ⟨5, n1, n2, dig (rr[rr.length - 1]'hidx), tm⟩ ∧ fmtL ⟨5, n1, n2, dig (rr[rr.length - 1]'hidx), tm⟩ = ls then (0, ⟨5, n1, n2, dig (rr[rr.length - 1]'hidx), tm⟩) else (3, nam0) from by
                  rw [HP.out, HCd.out, if_pos hf, hf, List.getD_eq_getElem?_getD, List.getElem?_eq_getElem hidx]; rfl)
                rw [hf] at HX x0
                have xf := HX.out.f
                have x3 := HX.out.c3
                dsimp only at x3
                clear HKi HKh HKm HK5 HP HCd hkp hf
                go_upto_region 17 with fail
                change Code.wp _ _ _ _ (wr.setCell ⟨bx, 3, none⟩ (.int .i64 (wrap64 (wrap64 ((rr[rr.length - 1]'hidx).toNat : Int) - 48))))
                rw [dig_wrap (rr[rr.length - 1]'hidx)]
                generalize dig (rr[rr.length - 1]'hidx) = sh at *
                have HXz := Lib.hid (show BoxN (wr.setCell ⟨bx, 3, none⟩ (.int .i64 sh)) bx ⟨5, n1, n2, sh, tm⟩ from HX.out.shard sh)
                have HRz := Lib.hid (show BoxN (wr.setCell ⟨bx, 3, none⟩ (.int .i64 sh)) w.heap.size nam0 from HR.out.pts_ne (show w.heap.size ≠ bx by omega) [(3, .int .i64 sh)])
                have HBz := Lib.hid (show Below w.heap.size w (wr.setCell ⟨bx, 3, none⟩ (.int .i64 sh)) from pts_below (B := w.heap.size) (b := bx) (by omega) [(3, .int .i64 sh)] HB.out)
                generalize wr.setCell ⟨bx, 3, none⟩ (.int .i64 sh) = wz at *
                clear x0 x3 xf HX HR HB
                have z0 := HXz.out.c0
                have z1 := HXz.out.c1
                have z2 := HXz.out.c2
                have z3 := HXz.out.c3
                have z4 := HXz.out.c4
                dsimp only at z0 z1 z2 z3 z4
                go_wp2_with fail
                refine (HF.out ⟨5, n1, n2, sh, tm⟩ wz).mono ?_
                rintro e wf ⟨rfl, hbf⟩
                have HXf := Lib.hid (HXz.out.below hbf)
                have HRf := Lib.hid (HRz.out.below hbf)
                have HBf := Lib.hid (bstep HBz.out hbf)
                clear hbf z0 z1 z2 z3 z4 HXz HRz HBz
                have z0 := HXf.out.c0
                have z1 := HXf.out.c1
                have z2 := HXf.out.c2
                have z3 := HXf.out.c3
                have z4 := HXf.out.c4
                have r0 := HRf.out.c0
                have r1 := HRf.out.c1
                have r2 := HRf.out.c2
                have r3 := HRf.out.c3
                have r4 := HRf.out.c4
                have rf := HRf.out.f
                dsimp only [nam0] at z0 z1 z2 z3 z4 r0 r1 r2 r3 r4
                generalize hXX : (⟨5, n1, n2, sh, tm⟩ : Nam) = X at *
                by_cases hv : validN X
                · have hfn : fmtN X = fmtL X := if_pos hv
                  rw [hfn, if_pos hv]
                  by_cases hq : fmtL X = ls
                  · rw [hq]
                    have hPR : PR = (0, X) := HP0.out.trans (if_pos ⟨hv, hq⟩)
                    go_wp2_with fail
                    change bodyPost _ _ _ _ _ (pts wf w.heap.size (namL ⟨5, n1, n2, sh, tm⟩))
                    have hby := HRf.out.all ⟨5, n1, n2, sh, tm⟩
                    have HBq := Lib.hid (pts_below (B := w.heap.size) (b := w.heap.size) (Nat.le_refl _) (namL ⟨5, n1, n2, sh, tm⟩) HBf.out)
                    rw [hPR, ← hXX]
                    generalize pts wf w.heap.size (namL ⟨5, n1, n2, sh, tm⟩) = wq at *
                    exact bodyPost_ret (v := .tuple #[namV ⟨5, n1, n2, sh, tm⟩, .int .i64 0]) (by simp [results, Tryz.results26, go_sem, hby.c0, hby.c1, hby.c2, hby.c3, hby.c4]) rfl ⟨rfl, HBq.out⟩
                  · have e9 : (fmtL X == ls) = false := beq_eq_false_iff_ne.2 hq
                    have hPR : PR = (3, nam0) := HP0.out.trans (if_neg fun h => hq h.2)
                    go_wp2_with fail
                    change bodyPost _ _ _ _ _ (pts wf w.heap.size (namL nam0))
                    have hby := HRf.out.all nam0
                    have HBq := Lib.hid (pts_below (B := w.heap.size) (b := w.heap.size) (Nat.le_refl _) (namL nam0) HBf.out)
                    rw [hPR]
                    generalize pts wf w.heap.size (namL nam0) = wq at *
                    exact bodyPost_ret (v := .tuple #[namV nam0, .int .i64 3]) (by simp [results, Tryz.results26, go_sem, hby.c0, hby.c1, hby.c2, hby.c3, hby.c4]) rfl ⟨rfl, HBq.out⟩
                · have hPR : PR = (3, nam0) := HP0.out.trans (if_neg fun h => hv h.1)
                  rw [if_neg hv]
                  go_wp2_with fail
                  change bodyPost _ _ _ _ _ (pts wf w.heap.size (namL nam0))
                  have hby := HRf.out.all nam0
                  have HBq := Lib.hid (pts_below (B := w.heap.size) (b := w.heap.size) (Nat.le_refl _) (namL nam0) HBf.out)
                  rw [hPR]
                  generalize pts wf w.heap.size (namL nam0) = wq at *
                  exact bodyPost_ret (v := .tuple #[namV nam0, .int .i64 3]) (by simp [results, Tryz.results26, go_sem, hby.c0, hby.c1, hby.c2, hby.c3, hby.c4]) rfl ⟨rfl, HBq.out⟩
              · have HP0 := Lib.hid (show PR = if validN ⟨(kindF rr : Int), n1, n2, 0, tm⟩ ∧ fmtL ⟨(kindF rr : Int), n1, n2, 0, tm⟩ = ls then (0, ⟨(kindF rr : Int), n1, n2, 0, tm⟩) else (3, nam0) from by
                  rw [HP.out, HCd.out, if_neg hf])
                have e5 : ((kindF rr : Int) == 5) = false := beq_eq_false_iff_ne.2 (by omega)
                clear HKi HKh HKm HK5 HP HCd hkp hf
                have HXz := HX
                have HRz := HR
                have HBz := HB
                clear HX HR HB
                generalize wr = wz at *
                generalize kindF rr = kf at *
                have z0 := HXz.out.c0
                have z1 := HXz.out.c1
                have z2 := HXz.out.c2
                have z3 := HXz.out.c3
                have z4 := HXz.out.c4
                dsimp only at z0 z1 z2 z3 z4
                go_wp2_with fail
                refine (HF.out ⟨(kf : Int), n1, n2, 0, tm⟩ wz).mono ?_
                rintro e wf ⟨rfl, hbf⟩
                have HXf := Lib.hid (HXz.out.below hbf)
                have HRf := Lib.hid (HRz.out.below hbf)
                have HBf := Lib.hid (bstep HBz.out hbf)
                clear hbf z0 z1 z2 z3 z4 HXz HRz HBz
                have z0 := HXf.out.c0
                have z1 := HXf.out.c1
                have z2 := HXf.out.c2
                have z3 := HXf.out.c3
                have z4 := HXf.out.c4
                have r0 := HRf.out.c0
                have r1 := HRf.out.c1
                have r2 := HRf.out.c2
                have r3 := HRf.out.c3
                have r4 := HRf.out.c4
                have rf := HRf.out.f
                dsimp only [nam0] at z0 z1 z2 z3 z4 r0 r1 r2 r3 r4
                generalize hXX : (⟨(kf : Int), n1, n2, 0, tm⟩ : Nam) = X at *
                by_cases hv : validN X
                · have hfn : fmtN X = fmtL X := if_pos hv
                  rw [hfn, if_pos hv]
                  by_cases hq : fmtL X = ls
                  · rw [hq]
                    have hPR : PR = (0, X) := HP0.out.trans (if_pos ⟨hv, hq⟩)
                    go_wp2_with fail
                    change bodyPost _ _ _ _ _ (pts wf w.heap.size (namL ⟨(kf : Int), n1, n2, 0, tm⟩))
                    have hby := HRf.out.all ⟨(kf : Int), n1, n2, 0, tm⟩
                    have HBq := Lib.hid (pts_below (B := w.heap.size) (b := w.heap.size) (Nat.le_refl _) (namL ⟨(kf : Int), n1, n2, 0, tm⟩) HBf.out)
                    rw [hPR, ← hXX]
                    generalize pts wf w.heap.size (namL ⟨(kf : Int), n1, n2, 0, tm⟩) = wq at *
                    exact bodyPost_ret (v := .tuple #[namV ⟨(kf : Int), n1, n2, 0, tm⟩, .int .i64 0]) (by simp [results, Tryz.results26, go_sem, hby.c0, hby.c1, hby.c2, hby.c3, hby.c4]) rfl ⟨rfl, HBq.out⟩
                  · have e9 : (fmtL X == ls) = false := beq_eq_false_iff_ne.2 hq
                    have hPR : PR = (3, nam0) := HP0.out.trans (if_neg fun h => hq h.2)
                    go_wp2_with fail
                    change bodyPost _ _ _ _ _ (pts wf w.heap.size (namL nam0))
                    have hby := HRf.out.all nam0
                    have HBq := Lib.hid (pts_below (B := w.heap.size) (b := w.heap.size) (Nat.le_refl _) (namL nam0) HBf.out)
                    rw [hPR]
                    generalize pts wf w.heap.size (namL nam0) = wq at *
                    exact bodyPost_ret (v := .tuple #[namV nam0, .int .i64 3]) (by simp [results, Tryz.results26, go_sem, hby.c0, hby.c1, hby.c2, hby.c3, hby.c4]) rfl ⟨rfl, HBq.out⟩
                · have hPR : PR = (3, nam0) := HP0.out.trans (if_neg fun h => hv h.1)
                  rw [if_neg hv]
                  go_wp2_with fail
                  change bodyPost _ _ _ _ _ (pts wf w.heap.size (namL nam0))
                  have hby := HRf.out.all nam0
                  have HBq := Lib.hid (pts_below (B := w.heap.size) (b := w.heap.size) (Nat.le_refl _) (namL nam0) HBf.out)
                  rw [hPR]
                  generalize pts wf w.heap.size (namL nam0) = wq at *
                  exact bodyPost_ret (v := .tuple #[namV nam0, .int .i64 3]) (by simp [results, Tryz.results26, go_sem, hby.c0, hby.c1, hby.c2, hby.c3, hby.c4]) rfl ⟨rfl, HBq.out⟩
            · have hk5 : k < 5 := by omega
              have e0 : decide ((k : Int) ≤ 4) = true := by simp; omega
              have qk := HQ.out.c k h1 hk5
              have i1 : (k : Int) < 5 := by omega
              have hi := HKi.out k h1 hk5
              have x0 := HX.out.c0
              have xf := HX.out.f
              dsimp only at x0
              by_cases hf : kindF rr = k
              · have e7 : (rr == endK k) = true := by rw [hi, decide_eq_true hf]
                have HU := Lib.hid (HKh.out k hf)
                clear hi
                go_wp2_with fail
                go_roundw
                case rel => exact ⟨k + 1, by go_num, by omega, by omega, Lib.hid (by rw [HU.out]; exact HX.out.kind (k : Int)), Lib.hid (HQ.out.set_ne (show pb ≠ bx by omega) _), Lib.hid (HR.out.pts_ne (show w.heap.size ≠ bx by omega) [(0, .int .i64 (k : Int))]), Lib.hid (pts_below (B := w.heap.size) (b := bx) (by omega) [(0, .int .i64 (k : Int))] HB.out)⟩
                case measure => simp [intOf]; omega
              · have e7 : (rr == endK k) = false := by rw [hi, decide_eq_false hf]
                have HU := Lib.hid (HKm.out k hf)
                clear hi
                go_wp2_with fail
                go_roundw
                case rel => exact ⟨k + 1, by go_num, by omega, by omega, Lib.hid (by rw [HU.out]; exact HX.out), HQ, HR, HB⟩
                case measure => simp [intOf]; omega
        · have hr : rr = rst := by rw [HRs.out, if_neg fun h => ht h.2]
          have htm : tm = false := by rw [HTm.out, decide_eq_false fun h => ht h.2]
          have e5 : (rst.drop (rst.length - 4) == [46, 116, 109, 112]) = false := beq_eq_false_iff_ne.2 ht
          have hr1 : 1 ≤ rr.length := by rw [hr]; omega
          have hrl : rr.length ≤ 1000000 := by rw [hr]; omega
          go_upto_region 8 with fail
          have HX7 := HX6
          have HR7 := HR6
          have HB7 := HB6
          rw [← htm] at HX7
          rw [← hr]
          clear HX6 HR6 HB6 hE e4 e5 e6 htm hr ht h4 hl3 hl6 HRs HTm
          generalize w6 = w7 at *
          go_upto_region 9 with fail
          obtain ⟨V, hV⟩ : ∃ V, w7.alloc (.cells #[strV [], strV [100, 97, 116], strV [115, 104, 100], strV [100, 101, 108], strV [105, 100, 120]] 9) = V := ⟨_, rfl⟩
          have HQ8 := Lib.hid (show RowE V w7.heap.size from hV ▸ RowE.new w7 9)
          have hbV : Below w7.heap.size w7 V := hV ▸ (Below.refl _ w7).alloc (Nat.le_refl _) _
          change Code.wp _ _ _ _ (w7.alloc (.cells #[strV [], strV [100, 97, 116], strV [115, 104, 100], strV [100, 101, 108], strV [105, 100, 120]] 9))
          rw [hV]
          clear hV
          have HX8 := Lib.hid (HX7.out.below hbV)
          have HR8 := Lib.hid (HR7.out.below hbV)
          have HB8 := Lib.hid (bstep HB7.out hbV)
          have hpb : bx < w7.heap.size := HX7.out.lt
          clear hbV HX7 HR7 HB7
          generalize w7.heap.size = pb at *
          clear w7
          have x0 := HX8.out.c0
          have xf := HX8.out.f
          dsimp only at x0
          go_upto_region 10 with fail
          have HX9 := Lib.hid (HX8.out.kind 5)
          have HQ9 := Lib.hid (HQ8.out.set_ne (o := 0) (show pb ≠ bx by omega) (.int .i64 5))
          have HR9 := Lib.hid (HR8.out.pts_ne (show w.heap.size ≠ bx by omega) [(0, .int .i64 5)])
          have HB9 := Lib.hid (pts_below (B := w.heap.size) (b := bx) (by omega) [(0, .int .i64 5)] HB8.out)
          change Hid (BoxN (V.setCell ⟨bx, 0, none⟩ (.int .i64 5)) w.heap.size nam0) at HR9
          change Hid (Below w.heap.size w (V.setCell ⟨bx, 0, none⟩ (.int .i64 5))) at HB9
          generalize V.setCell ⟨bx, 0, none⟩ (.int .i64 5) = w9 at *
          clear x0 xf HX8 HQ8 HR8 HB8
          clear V
          dsimp only at HX9
          have HKi := Lib.hid (fun (k : Nat) (h1 : 1 ≤ k) (h5 : k < 5) => @kind_iff k rr h1 h5)
          have HKh := Lib.hid (fun (k : Nat) h => @kindU_hit k rr h)
          have HKm := Lib.hid (fun (k : Nat) h => @kindU_miss k rr h)
          have HK5 := Lib.hid (kindU_five rr)
          have hkp := kindF_pos rr
          go_wp2_with fail
          go_loopw [7] (fun kv W => ∃ k : Nat, kv = .int .i64 (k : Int) ∧ 1 ≤ k ∧ k ≤ 5 ∧ Hid (BoxN W bx ⟨(kindU k rr : Int), n1, n2, 0, tm⟩) ∧ Hid (RowE W pb) ∧ Hid (BoxN W w.heap.size nam0) ∧ Hid (Below w.heap.size w W)) (fun kv _ => 5 - (intOf kv).toNat)
          case atStart => exact ⟨1, rfl, by omega, by omega, Lib.hid (by rw [kindU_one]; exact HX9.out), HQ9, HR9, HB9⟩
          case round =>
            obtain ⟨k, rfl, h1, h5, HX, HQ, HR, HB⟩ := hrel
            clear HX9 HQ9 HR9 HB9
            by_cases hk : k = 5
            · subst hk
              rw [HK5.out] at HX
              have x0 := HX.out.c0
              dsimp only at x0
              by_cases hf : kindF rr = 5
              · have hidx : rr.length - 1 < rr.length := by omega
                have HP0 := Lib.hid (show PR = if validN ⟨5, n1, n2, dig (rr[rr.length - 1]'hidx), tm⟩ ∧ fmtL ⟨5, n1, n2, dig (rr[rr.length - 1]'hidx), tm⟩ = ls then (0, ⟨5, n1, n2, dig (rr[rr.length - 1]'hidx), tm⟩) else (3, nam0) from by
                  rw [HP.out, HCd.out, if_pos hf, hf, List.getD_eq_getElem?_getD, List.getElem?_eq_getElem hidx]; rfl)
                rw [hf] at HX x0
                have xf := HX.out.f
                have x3 := HX.out.c3
                dsimp only at x3
                clear HKi HKh HKm HK5 HP HCd hkp hf
                go_upto_region 17 with fail
                change Code.wp _ _ _ _ (wr.setCell ⟨bx, 3, none⟩ (.int .i64 (wrap64 (wrap64 ((rr[rr.length - 1]'hidx).toNat : Int) - 48))))
                rw [dig_wrap (rr[rr.length - 1]'hidx)]
                generalize dig (rr[rr.length - 1]'hidx) = sh at *
                have HXz := Lib.hid (show BoxN (wr.setCell ⟨bx, 3, none⟩ (.int .i64 sh)) bx ⟨5, n1, n2, sh, tm⟩ from HX.out.shard sh)
                have HRz := Lib.hid (show BoxN (wr.setCell ⟨bx, 3, none⟩ (.int .i64 sh)) w.heap.size nam0 from HR.out.pts_ne (show w.heap.size ≠ bx by omega) [(3, .int .i64 sh)])
                have HBz := Lib.hid (show Below w.heap.size w (wr.setCell ⟨bx, 3, none⟩ (.int .i64 sh)) from pts_below (B := w.heap.size) (b := bx) (by omega) [(3, .int .i64 sh)] HB.out)
                generalize wr.setCell ⟨bx, 3, none⟩ (.int .i64 sh) = wz at *
                clear x0 x3 xf HX HR HB
                have z0 := HXz.out.c0
                have z1 := HXz.out.c1
                have z2 := HXz.out.c2
                have z3 := HXz.out.c3
                have z4 := HXz.out.c4
                dsimp only at z0 z1 z2 z3 z4
                go_wp2_with fail
                refine (HF.out ⟨5, n1, n2, sh, tm⟩ wz).mono ?_
                rintro e wf ⟨rfl, hbf⟩
                have HXf := Lib.hid (HXz.out.below hbf)
                have HRf := Lib.hid (HRz.out.below hbf)
                have HBf := Lib.hid (bstep HBz.out hbf)
                clear hbf z0 z1 z2 z3 z4 HXz HRz HBz
                have z0 := HXf.out.c0
                have z1 := HXf.out.c1
                have z2 := HXf.out.c2
                have z3 := HXf.out.c3
                have z4 := HXf.out.c4
                have r0 := HRf.out.c0
                have r1 := HRf.out.c1
                have r2 := HRf.out.c2
                have r3 := HRf.out.c3
                have r4 := HRf.out.c4
                have rf := HRf.out.f
                dsimp only [nam0] at z0 z1 z2 z3 z4 r0 r1 r2 r3 r4
                generalize hXX : (⟨5, n1, n2, sh, tm⟩ : Nam) = X at *
                by_cases hv : validN X
                · have hfn : fmtN X = fmtL X := if_pos hv
                  rw [hfn, if_pos hv]
                  by_cases hq : fmtL X = ls
                  · rw [hq]
                    have hPR : PR = (0, X) := HP0.out.trans (if_pos ⟨hv, hq⟩)
                    go_wp2_with fail
                    change bodyPost _ _ _ _ _ (pts wf w.heap.size (namL ⟨5, n1, n2, sh, tm⟩))
                    have hby := HRf.out.all ⟨5, n1, n2, sh, tm⟩
                    have HBq := Lib.hid (pts_below (B := w.heap.size) (b := w.heap.size) (Nat.le_refl _) (namL ⟨5, n1, n2, sh, tm⟩) HBf.out)
                    rw [hPR, ← hXX]
                    generalize pts wf w.heap.size (namL ⟨5, n1, n2, sh, tm⟩) = wq at *
                    exact bodyPost_ret (v := .tuple #[namV ⟨5, n1, n2, sh, tm⟩, .int .i64 0]) (by simp [results, Tryz.results26, go_sem, hby.c0, hby.c1, hby.c2, hby.c3, hby.c4]) rfl ⟨rfl, HBq.out⟩
                  · have e9 : (fmtL X == ls) = false := beq_eq_false_iff_ne.2 hq
                    have hPR : PR = (3, nam0) := HP0.out.trans (if_neg fun h => hq h.2)
                    go_wp2_with fail
                    change bodyPost _ _ _ _ _ (pts wf w.heap.size (namL nam0))
                    have hby := HRf.out.all nam0
                    have HBq := Lib.hid (pts_below (B := w.heap.size) (b := w.heap.size) (Nat.le_refl _) (namL nam0) HBf.out)
                    rw [hPR]
                    generalize pts wf w.heap.size (namL nam0) = wq at *
                    exact bodyPost_ret (v := .tuple #[namV nam0, .int .i64 3]) (by simp [results, Tryz.results26, go_sem, hby.c0, hby.c1, hby.c2, hby.c3, hby.c4]) rfl ⟨rfl, HBq.out⟩
                · have hPR : PR = (3, nam0) := HP0.out.trans (if_neg fun h => hv h.1)
                  rw [if_neg hv]
                  go_wp2_with fail
                  change bodyPost _ _ _ _ _ (pts wf w.heap.size (namL nam0))
                  have hby := HRf.out.all nam0
                  have HBq := Lib.hid (pts_below (B := w.heap.size) (b := w.heap.size) (Nat.le_refl _) (namL nam0) HBf.out)
                  rw [hPR]
                  generalize pts wf w.heap.size (namL nam0) = wq at *
                  exact bodyPost_ret (v := .tuple #[namV nam0, .int .i64 3]) (by simp [results, Tryz.results26, go_sem, hby.c0, hby.c1, hby.c2, hby.c3, hby.c4]) rfl ⟨rfl, HBq.out⟩
              · have HP0 := Lib.hid (show PR = if validN ⟨(kindF rr : Int), n1, n2, 0, tm⟩ ∧ fmtL ⟨(kindF rr : Int), n1, n2, 0, tm⟩ = ls then (0, ⟨(kindF rr : Int), n1, n2, 0, tm⟩) else (3, nam0) from by
                  rw [HP.out, HCd.out, if_neg hf])
                have e5 : ((kindF rr : Int) == 5) = false := beq_eq_false_iff_ne.2 (by omega)
                clear HKi HKh HKm HK5 HP HCd hkp hf
                have HXz := HX
                have HRz := HR
                have HBz := HB
                clear HX HR HB
                generalize wr = wz at *
                generalize kindF rr = kf at *
                have z0 := HXz.out.c0
                have z1 := HXz.out.c1
                have z2 := HXz.out.c2
                have z3 := HXz.out.c3
                have z4 := HXz.out.c4
                dsimp only at z0 z1 z2 z3 z4
                go_wp2_with fail
                refine (HF.out ⟨(kf : Int), n1, n2, 0, tm⟩ wz).mono ?_
                rintro e wf ⟨rfl, hbf⟩
                have HXf := Lib.hid (HXz.out.below hbf)
                have HRf := Lib.hid (HRz.out.below hbf)
                have HBf := Lib.hid (bstep HBz.out hbf)
                clear hbf z0 z1 z2 z3 z4 HXz HRz HBz
                have z0 := HXf.out.c0
                have z1 := HXf.out.c1
                have z2 := HXf.out.c2
                have z3 := HXf.out.c3
                have z4 := HXf.out.c4
                have r0 := HRf.out.c0
                have r1 := HRf.out.c1
                have r2 := HRf.out.c2
                have r3 := HRf.out.c3
                have r4 := HRf.out.c4
                have rf := HRf.out.f
                dsimp only [nam0] at z0 z1 z2 z3 z4 r0 r1 r2 r3 r4
                generalize hXX : (⟨(kf : Int), n1, n2, 0, tm⟩ : Nam) = X at *
                by_cases hv : validN X
                · have hfn : fmtN X = fmtL X := if_pos hv
                  rw [hfn, if_pos hv]
                  by_cases hq : fmtL X = ls
                  · rw [hq]
                    have hPR : PR = (0, X) := HP0.out.trans (if_pos ⟨hv, hq⟩)
                    go_wp2_with fail
                    change bodyPost _ _ _ _ _ (pts wf w.heap.size (namL ⟨(kf : Int), n1, n2, 0, tm⟩))
                    have hby := HRf.out.all ⟨(kf : Int), n1, n2, 0, tm⟩
                    have HBq := Lib.hid (pts_below (B := w.heap.size) (b := w.heap.size) (Nat.le_refl _) (namL ⟨(kf : Int), n1, n2, 0, tm⟩) HBf.out)
                    rw [hPR, ← hXX]
                    generalize pts wf w.heap.size (namL ⟨(kf : Int), n1, n2, 0, tm⟩) = wq at *
                    exact bodyPost_ret (v := .tuple #[namV ⟨(kf : Int), n1, n2, 0, tm⟩, .int .i64 0]) (by simp [results, Tryz.results26, go_sem, hby.c0, hby.c1, hby.c2, hby.c3, hby.c4]) rfl ⟨rfl, HBq.out⟩
                  · have e9 : (fmtL X == ls) = false := beq_eq_false_iff_ne.2 hq
                    have hPR : PR = (3, nam0) := HP0.out.trans (if_neg fun h => hq h.2)
                    go_wp2_with fail
                    change bodyPost _ _ _ _ _ (pts wf w.heap.size (namL nam0))
                    have hby := HRf.out.all nam0
                    have HBq := Lib.hid (pts_below (B := w.heap.size) (b := w.heap.size) (Nat.le_refl _) (namL nam0) HBf.out)
                    rw [hPR]
                    generalize pts wf w.heap.size (namL nam0) = wq at *
                    exact bodyPost_ret (v := .tuple #[namV nam0, .int .i64 3]) (by simp [results, Tryz.results26, go_sem, hby.c0, hby.c1, hby.c2, hby.c3, hby.c4]) rfl ⟨rfl, HBq.out⟩
                · have hPR : PR = (3, nam0) := HP0.out.trans (if_neg fun h => hv h.1)
                  rw [if_neg hv]
                  go_wp2_with fail
                  change bodyPost _ _ _ _ _ (pts wf w.heap.size (namL nam0))
                  have hby := HRf.out.all nam0
                  have HBq := Lib.hid (pts_below (B := w.heap.size) (b := w.heap.size) (Nat.le_refl _) (namL nam0) HBf.out)
                  rw [hPR]
                  generalize pts wf w.heap.size (namL nam0) = wq at *
                  exact bodyPost_ret (v := .tuple #[namV nam0, .int .i64 3]) (by simp [results, Tryz.results26, go_sem, hby.c0, hby.c1, hby.c2, hby.c3, hby.c4]) rfl ⟨rfl, HBq.out⟩
            · have hk5 : k < 5 := by omega
              have e0 : decide ((k : Int) ≤ 4) = true := by simp; omega
              have qk := HQ.out.c k h1 hk5
              have i1 : (k : Int) < 5 := by omega
              have hi := HKi.out k h1 hk5
              have x0 := HX.out.c0
              have xf := HX.out.f
              dsimp only at x0
              by_cases hf : kindF rr = k
              · have e7 : (rr == endK k) = true := by rw [hi, decide_eq_true hf]
                have HU := Lib.hid (HKh.out k hf)
                clear hi
                go_wp2_with fail
                go_roundw
                case rel => exact ⟨k + 1, by go_num, by omega, by omega, Lib.hid (by rw [HU.out]; exact HX.out.kind (k : Int)), Lib.hid (HQ.out.set_ne (show pb ≠ bx by omega) _), Lib.hid (HR.out.pts_ne (show w.heap.size ≠ bx by omega) [(0, .int .i64 (k : Int))]), Lib.hid (pts_below (B := w.heap.size) (b := bx) (by omega) [(0, .int .i64 (k : Int))] HB.out)⟩
                case measure => simp [intOf]; omega
              · have e7 : (rr == endK k) = false := by rw [hi, decide_eq_false hf]
                have HU := Lib.hid (HKm.out k hf)
                clear hi
                go_wp2_with fail
                go_roundw
                case rel => exact ⟨k + 1, by go_num, by omega, by omega, Lib.hid (by rw [HU.out]; exact HX.out), HQ, HR, HB⟩
                case measure => simp [intOf]; omega
      · have hr : rr = rst := by rw [HRs.out, if_neg fun h => h4 h.1]
        have htm : tm = false := by rw [HTm.out, decide_eq_false fun h => h4 h.1]
        have e4 : decide (4 < (rst.length : Int)) = false := by simp; omega
        have hr1 : 1 ≤ rr.length := by rw [hr]; omega
        have hrl : rr.length ≤ 1000000 := by rw [hr]; omega
        go_upto_region 8 with fail
        have HX7 := HX6
        have HR7 := HR6
        have HB7 := HB6
        rw [← htm] at HX7
        rw [← hr]
        clear HX6 HR6 HB6 e4 e6 htm hr h4 hl3 hl6 HRs HTm
        generalize w6 = w7 at *
        go_upto_region 9 with fail
        obtain ⟨V, hV⟩ : ∃ V, w7.alloc (.cells #[strV [], strV [100, 97, 116], strV [115, 104, 100], strV [100, 101, 108], strV [105, 100, 120]] 9) = V := ⟨_, rfl⟩
        have HQ8 := Lib.hid (show RowE V w7.heap.size from hV ▸ RowE.new w7 9)
        have hbV : Below w7.heap.size w7 V := hV ▸ (Below.refl _ w7).alloc (Nat.le_refl _) _
        change Code.wp _ _ _ _ (w7.alloc (.cells #[strV [], strV [100, 97, 116], strV [115, 104, 100], strV [100, 101, 108], strV [105, 100, 120]] 9))
        rw [hV]
        clear hV
        have HX8 := Lib.hid (HX7.out.below hbV)
        have HR8 := Lib.hid (HR7.out.below hbV)
        have HB8 := Lib.hid (bstep HB7.out hbV)
        have hpb : bx < w7.heap.size := HX7.out.lt
        clear hbV HX7 HR7 HB7
        generalize w7.heap.size = pb at *
        clear w7
        have x0 := HX8.out.c0
        have xf := HX8.out.f
        dsimp only at x0
        go_upto_region 10 with fail
        have HX9 := Lib.hid (HX8.out.kind 5)
        have HQ9 := Lib.hid (HQ8.out.set_ne (o := 0) (show pb ≠ bx by omega) (.int .i64 5))
        have HR9 := Lib.hid (HR8.out.pts_ne (show w.heap.size ≠ bx by omega) [(0, .int .i64 5)])
        have HB9 := Lib.hid (pts_below (B := w.heap.size) (b := bx) (by omega) [(0, .int .i64 5)] HB8.out)
        change Hid (BoxN (V.setCell ⟨bx, 0, none⟩ (.int .i64 5)) w.heap.size nam0) at HR9
        change Hid (Below w.heap.size w (V.setCell ⟨bx, 0, none⟩ (.int .i64 5))) at HB9
        generalize V.setCell ⟨bx, 0, none⟩ (.int .i64 5) = w9 at *
        clear x0 xf HX8 HQ8 HR8 HB8
        clear V
        dsimp only at HX9
        have HKi := Lib.hid (fun (k : Nat) (h1 : 1 ≤ k) (h5 : k < 5) => @kind_iff k rr h1 h5)
        have HKh := Lib.hid (fun (k : Nat) h => @kindU_hit k rr h)
        have HKm := Lib.hid (fun (k : Nat) h => @kindU_miss k rr h)
        have HK5 := Lib.hid (kindU_five rr)
        have hkp := kindF_pos rr
        go_wp2_with fail
        go_loopw [7] (fun kv W => ∃ k : Nat, kv = .int .i64 (k : Int) ∧ 1 ≤ k ∧ k ≤ 5 ∧ Hid (BoxN W bx ⟨(kindU k rr : Int), n1, n2, 0, tm⟩) ∧ Hid (RowE W pb) ∧ Hid (BoxN W w.heap.size nam0) ∧ Hid (Below w.heap.size w W)) (fun kv _ => 5 - (intOf kv).toNat)
        case atStart => exact ⟨1, rfl, by omega, by omega, Lib.hid (by rw [kindU_one]; exact HX9.out), HQ9, HR9, HB9⟩
        case round =>
          obtain ⟨k, rfl, h1, h5, HX, HQ, HR, HB⟩ := hrel
          clear HX9 HQ9 HR9 HB9
          by_cases hk : k = 5
          · subst hk
            rw [HK5.out] at HX
            have x0 := HX.out.c0
            dsimp only at x0
            by_cases hf : kindF rr = 5
            · have hidx : rr.length - 1 < rr.length := by omega
              have HP0 := Lib.hid (show PR = if validN ⟨5, n1, n2, dig (rr[rr.length - 1]'hidx), tm⟩ ∧ fmtL ⟨5, n1, n2, dig (rr[rr.length - 1]'hidx), tm⟩ = ls then (0, ⟨5, n1, n2, dig (rr[rr.length - 1]'hidx), tm⟩) else (3, nam0) from by
                rw [HP.out, HCd.out, if_pos hf, hf, List.getD_eq_getElem?_getD, List.getElem?_eq_getElem hidx]; rfl)
              rw [hf] at HX x0
              have xf := HX.out.f
              have x3 := HX.out.c3
              dsimp only at x3
              clear HKi HKh HKm HK5 HP HCd hkp hf
              go_upto_region 17 with fail
              change Code.wp _ _ _ _ (wr.setCell ⟨bx, 3, none⟩ (.int .i64 (wrap64 (wrap64 ((rr[rr.length - 1]'hidx).toNat : Int) - 48))))
              rw [dig_wrap (rr[rr.length - 1]'hidx)]
              generalize dig (rr[rr.length - 1]'hidx) = sh at *
              have HXz := Lib.hid (show BoxN (wr.setCell ⟨bx, 3, none⟩ (.int .i64 sh)) bx ⟨5, n1, n2, sh, tm⟩ from HX.out.shard sh)
              have HRz := Lib.hid (show BoxN (wr.setCell ⟨bx, 3, none⟩ (.int .i64 sh)) w.heap.size nam0 from HR.out.pts_ne (show w.heap.size ≠ bx by omega) [(3, .int .i64 sh)])
              have HBz := Lib.hid (show Below w.heap.size w (wr.setCell ⟨bx, 3, none⟩ (.int .i64 sh)) from pts_below (B := w.heap.size) (b := bx) (by omega) [(3, .int .i64 sh)] HB.out)
              generalize wr.setCell ⟨bx, 3, none⟩ (.int .i64 sh) = wz at *
              clear x0 x3 xf HX HR HB
              have z0 := HXz.out.c0
              have z1 := HXz.out.c1
              have z2 := HXz.out.c2
              have z3 := HXz.out.c3
              have z4 := HXz.out.c4
              dsimp only at z0 z1 z2 z3 z4
              go_wp2_with fail
              refine (HF.out ⟨5, n1, n2, sh, tm⟩ wz).mono ?_
              rintro e wf ⟨rfl, hbf⟩
              have HXf := Lib.hid (HXz.out.below hbf)
              have HRf := Lib.hid (HRz.out.below hbf)
              have HBf := Lib.hid (bstep HBz.out hbf)
              clear hbf z0 z1 z2 z3 z4 HXz HRz HBz
              have z0 := HXf.out.c0
              have z1 := HXf.out.c1
              have z2 := HXf.out.c2
              have z3 := HXf.out.c3
              have z4 := HXf.out.c4
              have r0 := HRf.out.c0
              have r1 := HRf.out.c1
              have r2 := HRf.out.c2
              have r3 := HRf.out.c3
              have r4 := HRf.out.c4
              have rf := HRf.out.f
              dsimp only [nam0] at z0 z1 z2 z3 z4 r0 r1 r2 r3 r4
              generalize hXX : (⟨5, n1, n2, sh, tm⟩ : Nam) = X at *
              by_cases hv : validN X
              · have hfn : fmtN X = fmtL X := if_pos hv
                rw [hfn, if_pos hv]
                by_cases hq : fmtL X = ls
                · rw [hq]
                  have hPR : PR = (0, X) := HP0.out.trans (if_pos ⟨hv, hq⟩)
                  go_wp2_with fail
                  change bodyPost _ _ _ _ _ (pts wf w.heap.size (namL ⟨5, n1, n2, sh, tm⟩))
                  have hby := HRf.out.all ⟨5, n1, n2, sh, tm⟩
                  have HBq := Lib.hid (pts_below (B := w.heap.size) (b := w.heap.size) (Nat.le_refl _) (namL ⟨5, n1, n2, sh, tm⟩) HBf.out)
                  rw [hPR, ← hXX]
                  generalize pts wf w.heap.size (namL ⟨5, n1, n2, sh, tm⟩) = wq at *
                  exact bodyPost_ret (v := .tuple #[namV ⟨5, n1, n2, sh, tm⟩, .int .i64 0]) (by simp [results, Tryz.results26, go_sem, hby.c0, hby.c1, hby.c2, hby.c3, hby.c4]) rfl ⟨rfl, HBq.out⟩
                · have e9 : (fmtL X == ls) = false := beq_eq_false_iff_ne.2 hq
                  have hPR : PR = (3, nam0) := HP0.out.trans (if_neg fun h => hq h.2)
                  go_wp2_with fail
                  change bodyPost _ _ _ _ _ (pts wf w.heap.size (namL nam0))
                  have hby := HRf.out.all nam0
                  have HBq := Lib.hid (pts_below (B := w.heap.size) (b := w.heap.size) (Nat.le_refl _) (namL nam0) HBf.out)
                  rw [hPR]
                  generalize pts wf w.heap.size (namL nam0) = wq at *
                  exact bodyPost_ret (v := .tuple #[namV nam0, .int .i64 3]) (by simp [results, Tryz.results26, go_sem, hby.c0, hby.c1, hby.c2, hby.c3, hby.c4]) rfl ⟨rfl, HBq.out⟩
              · have hPR : PR = (3, nam0) := HP0.out.trans (if_neg fun h => hv h.1)
                rw [if_neg hv]
                go_wp2_with fail
                change bodyPost _ _ _ _ _ (pts wf w.heap.size (namL nam0))
                have hby := HRf.out.all nam0
                have HBq := Lib.hid (pts_below (B := w.heap.size) (b := w.heap.size) (Nat.le_refl _) (namL nam0) HBf.out)
                rw [hPR]
                generalize pts wf w.heap.size (namL nam0) = wq at *
                exact bodyPost_ret (v := .tuple #[namV nam0, .int .i64 3]) (by simp [results, Tryz.results26, go_sem, hby.c0, hby.c1, hby.c2, hby.c3, hby.c4]) rfl ⟨rfl, HBq.out⟩
            · have HP0 := Lib.hid (show PR = if validN ⟨(kindF rr : Int), n1, n2, 0, tm⟩ ∧ fmtL ⟨(kindF rr : Int), n1, n2, 0, tm⟩ = ls then (0, ⟨(kindF rr : Int), n1, n2, 0, tm⟩) else (3, nam0) from by
                rw [HP.out, HCd.out, if_neg hf])
              have e5 : ((kindF rr : Int) == 5) = false := beq_eq_false_iff_ne.2 (by omega)
              clear HKi HKh HKm HK5 HP HCd hkp hf
              have HXz := HX
              have HRz := HR
              have HBz := HB
              clear HX HR HB
              generalize wr = wz at *
              generalize kindF rr = kf at *
              have z0 := HXz.out.c0
              have z1 := HXz.out.c1
              have z2 := HXz.out.c2
              have z3 := HXz.out.c3
              have z4 := HXz.out.c4
              dsimp only at z0 z1 z2 z3 z4
              go_wp2_with fail
              refine (HF.out ⟨(kf : Int), n1, n2, 0, tm⟩ wz).mono ?_
              rintro e wf ⟨rfl, hbf⟩
              have HXf := Lib.hid (HXz.out.below hbf)
              have HRf := Lib.hid (HRz.out.below hbf)
              have HBf := Lib.hid (bstep HBz.out hbf)
              clear hbf z0 z1 z2 z3 z4 HXz HRz HBz
              have z0 := HXf.out.c0
              have z1 := HXf.out.c1
              have z2 := HXf.out.c2
              have z3 := HXf.out.c3
              have z4 := HXf.out.c4
              have r0 := HRf.out.c0
              have r1 := HRf.out.c1
              have r2 := HRf.out.c2
              have r3 := HRf.out.c3
              have r4 := HRf.out.c4
              have rf := HRf.out.f
              dsimp only [nam0] at z0 z1 z2 z3 z4 r0 r1 r2 r3 r4
              generalize hXX : (⟨(kf : Int), n1, n2, 0, tm⟩ : Nam) = X at *
              by_cases hv : validN X
              · have hfn : fmtN X = fmtL X := if_pos hv
                rw [hfn, if_pos hv]
                by_cases hq : fmtL X = ls
                · rw [hq]
                  have hPR : PR = (0, X) := HP0.out.trans (if_pos ⟨hv, hq⟩)
                  go_wp2_with fail
                  change bodyPost _ _ _ _ _ (pts wf w.heap.size (namL ⟨(kf : Int), n1, n2, 0, tm⟩))
                  have hby := HRf.out.all ⟨(kf : Int), n1, n2, 0, tm⟩
                  have HBq := Lib.hid (pts_below (B := w.heap.size) (b := w.heap.size) (Nat.le_refl _) (namL ⟨(kf : Int), n1, n2, 0, tm⟩) HBf.out)
                  rw [hPR, ← hXX]
                  generalize pts wf w.heap.size (namL ⟨(kf : Int), n1, n2, 0, tm⟩) = wq at *
                  exact bodyPost_ret (v := .tuple #[namV ⟨(kf : Int), n1, n2, 0, tm⟩, .int .i64 0]) (by simp [results, Tryz.results26, go_sem, hby.c0, hby.c1, hby.c2, hby.c3, hby.c4]) rfl ⟨rfl, HBq.out⟩
                · have e9 : (fmtL X == ls) = false := beq_eq_false_iff_ne.2 hq
                  have hPR : PR = (3, nam0) := HP0.out.trans (if_neg fun h => hq h.2)
                  go_wp2_with fail
                  change bodyPost _ _ _ _ _ (pts wf w.heap.size (namL nam0))
                  have hby := HRf.out.all nam0
                  have HBq := Lib.hid (pts_below (B := w.heap.size) (b := w.heap.size) (Nat.le_refl _) (namL nam0) HBf.out)
                  rw [hPR]
                  generalize pts wf w.heap.size (namL nam0) = wq at *
                  exact bodyPost_ret (v := .tuple #[namV nam0, .int .i64 3]) (by simp [results, Tryz.results26, go_sem, hby.c0, hby.c1, hby.c2, hby.c3, hby.c4]) rfl ⟨rfl, HBq.out⟩
              · have hPR : PR = (3, nam0) := HP0.out.trans (if_neg fun h => hv h.1)
                rw [if_neg hv]
                go_wp2_with fail
                change bodyPost _ _ _ _ _ (pts wf w.heap.size (namL nam0))
                have hby := HRf.out.all nam0
                have HBq := Lib.hid (pts_below (B := w.heap.size) (b := w.heap.size) (Nat.le_refl _) (namL nam0) HBf.out)
                rw [hPR]
                generalize pts wf w.heap.size (namL nam0) = wq at *
                exact bodyPost_ret (v := .tuple #[namV nam0, .int .i64 3]) (by simp [results, Tryz.results26, go_sem, hby.c0, hby.c1, hby.c2, hby.c3, hby.c4]) rfl ⟨rfl, HBq.out⟩
          · have hk5 : k < 5 := by omega
            have e0 : decide ((k : Int) ≤ 4) = true := by simp; omega
            have qk := HQ.out.c k h1 hk5
            have i1 : (k : Int) < 5 := by omega
            have hi := HKi.out k h1 hk5
            have x0 := HX.out.c0
            have xf := HX.out.f
            dsimp only at x0
            by_cases hf : kindF rr = k
            · have e7 : (rr == endK k) = true := by rw [hi, decide_eq_true hf]
              have HU := Lib.hid (HKh.out k hf)
              clear hi
              go_wp2_with fail
              go_roundw
              case rel => exact ⟨k + 1, by go_num, by omega, by omega, Lib.hid (by rw [HU.out]; exact HX.out.kind (k : Int)), Lib.hid (HQ.out.set_ne (show pb ≠ bx by omega) _), Lib.hid (HR.out.pts_ne (show w.heap.size ≠ bx by omega) [(0, .int .i64 (k : Int))]), Lib.hid (pts_below (B := w.heap.size) (b := bx) (by omega) [(0, .int .i64 (k : Int))] HB.out)⟩
              case measure => simp [intOf]; omega
            · have e7 : (rr == endK k) = false := by rw [hi, decide_eq_false hf]
              have HU := Lib.hid (HKm.out k hf)
              clear hi
              go_wp2_with fail
              go_roundw
              case rel => exact ⟨k + 1, by go_num, by omega, by omega, Lib.hid (by rw [HU.out]; exact HX.out), HQ, HR, HB⟩
              case measure => simp [intOf]; omega
end Go.Proofs.YthomhflkldhdaaaGreatDoor
