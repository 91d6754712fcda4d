/- IndexFinds: the walk. -/
import Derived.Test.YtbfflgkijiggfaaPu
import Derived.Test.YtbfflgkijiggfaaLb
import Derived.Test.YtbfflgkijiggfaaOv
namespace Go.Proofs.Ytbfflgkijiggfaa
open Go.RowKit

/-- An item in the cells of block b. -/
structure BoxT (w : World) (b : Nat) (x : It) : Prop where
  c0 : w.cell? ⟨b, 0, none⟩ = some (.int .u64 x.key)
  c1 : w.cell? ⟨b, 1, none⟩ = some (.int .u32 x.ck)
  c2 : w.cell? ⟨b, 2, none⟩ = some (.int .i64 x.off)
  c3 : w.cell? ⟨b, 3, none⟩ = some (.int .i64 x.size)
theorem BoxT.below {w w' : World} {b : Nat} {x : It} (h : BoxT w b x) (hb : Below w.heap.size w w') : BoxT w' b x :=
  ⟨Below.keeps hb _ _ h.c0, Below.keeps hb _ _ h.c1, Below.keeps hb _ _ h.c2, Below.keeps hb _ _ h.c3⟩
abbrev boxC (x : It) : Obj := .cells #[.int .u64 x.key, .int .u32 x.ck, .int .i64 x.off, .int .i64 x.size] 36
theorem BoxT.new (w : World) (x : It) : BoxT (w.alloc (boxC x)) w.heap.size x := ⟨by simp, by simp, by simp, by simp⟩
theorem below_box (w : World) (x : It) : Below w.heap.size w (w.alloc (boxC x)) := (Below.refl _ _).alloc (Nat.le_refl _) _
set_option maxHeartbeats 2000000 in
theorem lfind_core (v : Value) (l : List It) (x : It) (key : Int) (w : World) (h : RdT w v l) :
    Calls Try.prog 10 #[v, itV x, .int .u64 key] w fun e w' => e = .returned (.bool true) ∧ Below w.heap.size w w' := by
  have HM := Lib.hid (fun w h => made_any v l w h)
  have hml : (mk l).length ≤ 40 := mk_length l
  have hma : Asc (mk l) := (vldB_iff.1 (mk_valid l)).1
  have Hr := Lib.hid h
  obtain ⟨a, cap, rfl, _, _⟩ := h.shape
  generalize mk l = m at *
  have hsm := srt_of_asc hma
  have hpa := ins_ascA hma x
  have hpl : (ins m x).length ≤ 41 := Nat.le_trans (ins_length x m) (by omega)
  have hda := drp_asc hpa x.key
  have hdl : (drp (ins m x) x.key).length ≤ 41 := Nat.le_trans (drp_length _ _) hpl
  have hsp := srt_of_asc hpa
  have hsd := srt_of_asc hda
  have som := sorted_asc m hma (by omega)
  have sop := sorted_asc _ hpa (by omega)
  have sod := sorted_asc _ hda (by omega)
  have HFm := Lib.hid (fun v w h => find_any v m key w h som (by omega))
  have HPm := Lib.hid (fun v w h => put_any v m x w h som (by omega))
  have HDp := Lib.hid (fun v w h => drop_any v (ins m x) x.key w h sop (by omega))
  have HFp := Lib.hid (fun v w h => find_any v (ins m x) x.key w h sop (by omega))
  have HFd := Lib.hid (fun v w h => find_any v (drp (ins m x) x.key) x.key w h sod (by omega))
  have HGp := Lib.hid (fun v w h => find_any v (ins m x) key w h sop (by omega))
  have HGd := Lib.hid (fun v w h => find_any v (drp (ins m x) x.key) key w h sod (by omega))
  have HPp := Lib.hid (fun v w h => put_any v (ins m x) x w h sop (by omega))
  rw [hsm] at HFm HPm
  rw [hsp] at HDp HFp HGp HPp
  rw [hsd] at HFd HGd
  rw [fnd_ins_self] at HFp
  rw [fnd_drp_self] at HFd
  rw [ins_ins] at HPp
  have HGp := Lib.hid (fun (hk : key ≠ x.key) v w h => by have := HGp.out v w h; rw [fnd_ins_other x key hk] at this; exact this)
  have HGd := Lib.hid (fun (hk : key ≠ x.key) v w h => by have := HGd.out v w h; rw [fnd_drp_other x.key key hk, fnd_ins_other x key hk] at this; exact this)
  have HSa := Lib.hid (fun va vb w h1 h2 => same_any va vb (ins m x) (ins m x) w h1 h2)
  rw [decide_eq_true (rfl : ins m x = ins m x)] at HSa
  clear hsm hsp hsd som sop sod hda hpa hma hdl hpl hml
  generalize drp (ins m x) x.key = d at *
  generalize ins m x = p at *
  generalize (fnd m key).isSome = had at *
  generalize (fnd m key).getD it0 = was at *
  simp only [Option.getD_some, Option.isSome_some] at HFp
  simp only [Option.getD_none, Option.isSome_none] at HFd
  have HBX := Lib.hid (BoxT.new w x)
  have HB0 := Lib.hid (below_box w x)
  clear h
  go_enter Try.func10, Try.ntmps10
  go_wp2_with fail
  refine (HM.out _ (Hr.out.below HB0.out)).mono ?_; rintro e w1 ⟨v1, rfl, hown1, hb1⟩
  have HO1 := Lib.hid hown1.rd
  have HX1 := Lib.hid (HBX.out.below hb1)
  have HB1 := Lib.hid (bstep HB0.out hb1)
  have hs1 : w.heap.size < w1.heap.size := Nat.lt_of_lt_of_le (by simp) hb1.size
  clear hown1 hb1 HM HBX HB0
  obtain ⟨x0, x1, x2, x3⟩ := HX1.out
  go_wp2_with fail
  refine (HFm.out _ _ HO1.out).mono ?_; rintro e w2 ⟨rfl, hb2⟩
  clear x0 x1 x2 x3
  have HX2 := Lib.hid ((HX1.out.below hb2).below (below_box w2 was))
  have HO2 := Lib.hid ((HO1.out.below hb2).below (below_box w2 was))
  have HB2 := Lib.hid (bstep (bstep HB1.out hb2) (below_box w2 was))
  have hs2 : w.heap.size < w2.heap.size := Nat.lt_of_lt_of_le hs1 hb2.size
  have HW2 := Lib.hid (BoxT.new w2 was)
  obtain ⟨x0, x1, x2, x3⟩ := HX1.out.below hb2
  clear hb2 HO1 HX1 HB1 hs1
  go_wp2_with fail
  refine (HPm.out _ _ HO2.out).mono ?_; rintro e w3 ⟨v3, rfl, hown3, hb3⟩
  have HX3 := Lib.hid (HX2.out.below hb3)
  have HW3 := Lib.hid (HW2.out.below hb3)
  have HO3 := Lib.hid (HO2.out.below hb3)
  have HP3 := Lib.hid hown3.rd
  have HB3 := Lib.hid (bstep HB2.out hb3)
  have hs3 : w2.heap.size < w3.heap.size := Nat.lt_of_lt_of_le (by simp) hb3.size
  clear x0 x1 x2 x3 hown3 hb3 HX2 HW2 HO2 HB2 HFm
  obtain ⟨x0, x1, x2, x3⟩ := HX3.out
  go_wp2_with fail
  refine (HDp.out _ _ HP3.out).mono ?_; rintro e w4 ⟨v4, rfl, hown4, hb4⟩
  have HX4 := Lib.hid (HX3.out.below hb4)
  have HW4 := Lib.hid (HW3.out.below hb4)
  have HO4 := Lib.hid (HO3.out.below hb4)
  have HP4 := Lib.hid (HP3.out.below hb4)
  have HD4 := Lib.hid hown4.rd
  have HB4 := Lib.hid (bstep HB3.out hb4)
  have hs4 : w2.heap.size < w4.heap.size := Nat.lt_of_lt_of_le hs3 hb4.size
  clear x0 x1 x2 x3 hown4 hb4 HX3 HW3 HO3 HP3 HB3 hs3 HDp
  obtain ⟨x0, x1, x2, x3⟩ := HX4.out
  go_wp2_with fail
  refine (HFp.out _ _ HP4.out).mono ?_; rintro e w5 ⟨rfl, hb5⟩
  have hb5' := bstep hb5 (below_box w5 x)
  have HX5 := Lib.hid (HX4.out.below hb5')
  have HW5 := Lib.hid (HW4.out.below hb5')
  have HO5 := Lib.hid (HO4.out.below hb5')
  have HP5 := Lib.hid (HP4.out.below hb5')
  have HD5 := Lib.hid (HD4.out.below hb5')
  have HB5 := Lib.hid (bstep HB4.out hb5')
  have HY5 := Lib.hid (BoxT.new w5 x)
  have hs5 : w2.heap.size < w5.heap.size := Nat.lt_of_lt_of_le hs4 hb5.size
  have hx5 : w.heap.size < w5.heap.size := Nat.lt_trans hs2 hs5
  clear x0 x1 x2 x3
  obtain ⟨x0, x1, x2, x3⟩ := HX4.out.below hb5
  clear hb5 hb5' HX4 HW4 HO4 HP4 HD4 HB4 hs4 HFp
  go_wp2_with fail
  refine (HFd.out _ _ HD5.out).mono ?_; rintro e w6 ⟨rfl, hb6⟩
  have hb6' := bstep hb6 (below_box w6 it0)
  have HX6 := Lib.hid (HX5.out.below hb6')
  have HW6 := Lib.hid (HW5.out.below hb6')
  have HO6 := Lib.hid (HO5.out.below hb6')
  have HP6 := Lib.hid (HP5.out.below hb6')
  have HD6 := Lib.hid (HD5.out.below hb6')
  have HB6 := Lib.hid (bstep HB5.out hb6')
  have hs6 : w5.heap.size < w6.heap.size := Nat.lt_of_lt_of_le (by simp) hb6.size
  have hx6 : w.heap.size < w6.heap.size := Nat.lt_trans hx5 hs6
  have hx62 : w2.heap.size < w6.heap.size := Nat.lt_trans hs5 hs6
  clear x0 x1 x2 x3
  obtain ⟨x0, x1, x2, x3⟩ := HX5.out.below hb6
  obtain ⟨y0, y1, y2, y3⟩ := HY5.out.below hb6
  clear hb6 hb6' HX5 HW5 HO5 HP5 HD5 HB5 HFd HY5
  by_cases hk : key = x.key
  · have hkb : (key != x.key) = false := by rw [hk]; simp
    go_wp2_with fail
    have HW := Lib.hid (show ∃ W, W = w6.alloc (boxC it0) from ⟨_, rfl⟩)
    obtain ⟨W, hW⟩ := HW.out
    clear HW
    rw [← hW]
    rw [show w6.alloc (boxC it0) = W from hW.symm] at HX6 HW6 HO6 HP6 HD6 HB6
    clear hW
    have HSX := Lib.hid (show ∀ w', Below W.heap.size W w' → w'.cell? ⟨w.heap.size, 0, none⟩ = some (.int .u64 x.key) ∧ w'.cell? ⟨w.heap.size, 1, none⟩ = some (.int .u32 x.ck) ∧ w'.cell? ⟨w.heap.size, 2, none⟩ = some (.int .i64 x.off) ∧ w'.cell? ⟨w.heap.size, 3, none⟩ = some (.int .i64 x.size) from fun w' hb => ⟨(HX6.out.below hb).c0, (HX6.out.below hb).c1, (HX6.out.below hb).c2, (HX6.out.below hb).c3⟩)
    go_region_held3 (fun w' => w'.cell? ⟨w.heap.size, 0, none⟩ = some (.int .u64 x.key) ∧ w'.cell? ⟨w.heap.size, 1, none⟩ = some (.int .u32 x.ck) ∧ w'.cell? ⟨w.heap.size, 2, none⟩ = some (.int .i64 x.off) ∧ w'.cell? ⟨w.heap.size, 3, none⟩ = some (.int .i64 x.size))
      (first | exact HSX.out _ (Below.refl _ _).drew | exact HSX.out _ (bstep (Below.refl _ _).drew hba) | exact HSX.out _ (bstep (bstep (Below.refl _ _).drew hba) hbb) | exact HSX.out _ (bstep (bstep (bstep (Below.refl _ _).drew hba) hbb) hbc) | exact HSX.out _ (bstep (bstep (bstep (bstep (Below.refl _ _).drew hba) hbb) hbc) hbd))
      (first | (go_at_call 27; (with_reducible refine (HPm.out _ _ HO6.out.drew).mono ?_); rintro e wa ⟨va, rfl, howna, hba⟩) | (go_at_call 27; (with_reducible refine (HPp.out _ _ howna.rd).mono ?_); rintro e wb ⟨vb, rfl, hownb, hbb⟩) | (go_at_call 23; (refine (HSa.out _ _ _ hownb.rd (HP6.out.below (bstep (bstep (Below.refl _ _).drew hba) hbb))).mono ?_); rintro e wc ⟨rfl, hbc⟩) | (go_at_call 15; (refine (awake_any _).mono ?_); rintro e wd ⟨rfl, hbd⟩))
    have HBd := Lib.hid (bstep HB6.out (bstep (bstep (bstep (bstep (Below.refl _ _).drew hba) hbb) hbc) hbd))
    clear hba hbb hbc hbd howna hownb
    go_wp2_with fail
    go_ret
    exact ⟨rfl, HBd.out⟩
  · have hkb : (key != x.key) = true := by rw [bne_iff_ne]; exact hk
    have HGp := Lib.hid (HGp.out hk)
    have HGd := Lib.hid (HGd.out hk)
    go_wp2_with fail
    refine (HGp.out _ _ HP6.out).mono ?_; rintro e w7 ⟨rfl, hb7⟩
    have hb7' := bstep hb7 (below_box w7 was)
    have HX7 := Lib.hid (HX6.out.below hb7')
    have HW7 := Lib.hid (HW6.out.below hb7')
    have HO7 := Lib.hid (HO6.out.below hb7')
    have HP7 := Lib.hid (HP6.out.below hb7')
    have HD7 := Lib.hid (HD6.out.below hb7')
    have HB7 := Lib.hid (bstep HB6.out hb7')
    have HZ7 := Lib.hid (BoxT.new w7 was)
    have hs7 : w6.heap.size < w7.heap.size := Nat.lt_of_lt_of_le (by simp) hb7.size
    have hx7 : w.heap.size < w7.heap.size := Nat.lt_trans hx6 hs7
    have hx72 : w2.heap.size < w7.heap.size := Nat.lt_trans hx62 hs7
    clear hb7 hb7' HX6 HW6 HO6 HP6 HD6 HB6 x0 x1 x2 x3 y0 y1 y2 y3
    go_wp2_with fail
    refine (HGd.out _ _ HD7.out).mono ?_; rintro e w8 ⟨rfl, hb8⟩
    have hb8' := bstep hb8 (below_box w8 was)
    have HX8 := Lib.hid (HX7.out.below hb8')
    have HO8 := Lib.hid (HO7.out.below hb8')
    have HP8 := Lib.hid (HP7.out.below hb8')
    have HB8 := Lib.hid (bstep HB7.out hb8')
    have hs8 : w7.heap.size < w8.heap.size := Nat.lt_of_lt_of_le (by simp) hb8.size
    have hx8 : w.heap.size < w8.heap.size := Nat.lt_trans hx7 hs8
    have hx82 : w2.heap.size < w8.heap.size := Nat.lt_trans hx72 hs8
    obtain ⟨y0, y1, y2, y3⟩ := HW7.out.below hb8
    obtain ⟨z0, z1, z2, z3⟩ := HZ7.out.below hb8
    clear hb8 hb8' HX7 HO7 HP7 HD7 HB7 HW7 HZ7
    go_wp2_with fail
    have HW := Lib.hid (show ∃ W, W = w8.alloc (boxC was) from ⟨_, rfl⟩)
    obtain ⟨W, hW⟩ := HW.out
    clear HW
    rw [← hW]
    rw [show w8.alloc (boxC was) = W from hW.symm] at HX8 HO8 HP8 HB8
    clear hW
    have HSX := Lib.hid (show ∀ w', Below W.heap.size W w' → w'.cell? ⟨w.heap.size, 0, none⟩ = some (.int .u64 x.key) ∧ w'.cell? ⟨w.heap.size, 1, none⟩ = some (.int .u32 x.ck) ∧ w'.cell? ⟨w.heap.size, 2, none⟩ = some (.int .i64 x.off) ∧ w'.cell? ⟨w.heap.size, 3, none⟩ = some (.int .i64 x.size) from fun w' hb => ⟨(HX8.out.below hb).c0, (HX8.out.below hb).c1, (HX8.out.below hb).c2, (HX8.out.below hb).c3⟩)
    go_region_held3 (fun w' => w'.cell? ⟨w.heap.size, 0, none⟩ = some (.int .u64 x.key) ∧ w'.cell? ⟨w.heap.size, 1, none⟩ = some (.int .u32 x.ck) ∧ w'.cell? ⟨w.heap.size, 2, none⟩ = some (.int .i64 x.off) ∧ w'.cell? ⟨w.heap.size, 3, none⟩ = some (.int .i64 x.size))
      (first | exact HSX.out _ (Below.refl _ _).drew | exact HSX.out _ (bstep (Below.refl _ _).drew hba) | exact HSX.out _ (bstep (bstep (Below.refl _ _).drew hba) hbb) | exact HSX.out _ (bstep (bstep (bstep (Below.refl _ _).drew hba) hbb) hbc) | exact HSX.out _ (bstep (bstep (bstep (bstep (Below.refl _ _).drew hba) hbb) hbc) hbd))
      (first | (go_at_call 27; (with_reducible refine (HPm.out _ _ HO8.out.drew).mono ?_); rintro e wa ⟨va, rfl, howna, hba⟩) | (go_at_call 27; (with_reducible refine (HPp.out _ _ howna.rd).mono ?_); rintro e wb ⟨vb, rfl, hownb, hbb⟩) | (go_at_call 23; (refine (HSa.out _ _ _ hownb.rd (HP8.out.below (bstep (bstep (Below.refl _ _).drew hba) hbb))).mono ?_); rintro e wc ⟨rfl, hbc⟩) | (go_at_call 15; (refine (awake_any _).mono ?_); rintro e wd ⟨rfl, hbd⟩))
    have HBd := Lib.hid (bstep HB8.out (bstep (bstep (bstep (bstep (Below.refl _ _).drew hba) hbb) hbc) hbd))
    clear hba hbb hbc hbd howna hownb
    go_wp2_with fail
    go_ret
    exact ⟨rfl, HBd.out⟩
theorem finds_walk (a : Option Addr) (n cap : Nat) (x : It) (key : Int) (w : World) (h : ∃ l, RdT w (.slice a n cap) l ∧ ∀ x ∈ l, x.Wf) (_hx : x.Wf) (_hk : (Lit.int .u64 key).wf = true) :
    Calls Try.prog 10 #[.slice a n cap, itV x, .int .u64 key] w fun e w' => e = .returned (.bool true) ∧ Below w.heap.size w w' := by
  obtain ⟨l, h, _⟩ := h
  exact lfind_core _ l x key w h
end Go.Proofs.Ytbfflgkijiggfaa
