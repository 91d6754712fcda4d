/- Several texts in one, each over the last: NmapWhole: the walk. NmapWhole, from what the form gives of its arguments. -/
import Derived.Test.YtndhjfmdfcpceaaGG
import Derived.Test.YtndhjfmdfcpceaaGE
import Derived.Deep.RegionHeld3
namespace Go.Proofs.Ytndhjfmdfcpceaa
open Go.RowKit

set_option maxRecDepth 100000 in
set_option maxHeartbeats 8000000 in
theorem whole_walk (va : Value) (g : Int) (l : List It) (w : World) (hg : 0 ≤ g ∧ g ≤ 65535) (h : RdT w va l) :
    Calls Try.prog 8 #[va, .int .u16 g] w fun e w' => e = .returned (.bool true) ∧ Below w.heap.size w w' := by
  have HI := Lib.hid (lawI_any va l w h)
  have hn20 := lawI_length l
  have hv := fromM_vld (lawI l) g
  have hle := fromM_len (lawI l) g
  have hok := okP_all (fun x hx => by have := lawI_ok l x hx; unfold okB at this; exact of_decide_eq_true this)
  have HFm := Lib.hid (fun v W h => fromM_any v (lawI l) g W h (Nat.le_trans hn20 (by decide)))
  generalize fromM (lawI l) g = M at *
  have hs : ∀ i, i < 8 → (M.st i).length ≤ 10000 := fun i _ => Nat.le_trans (hle i) (Nat.le_trans hn20 (by decide))
  have hvl : vldM M = true := (vldM_iff M).2 hv
  have hil := itemsM_len hs
  have hsm : sameM (fromM (itemsM M) M.garb) M = true := sameM_iff.2 (fromM_again hv)
  have HVa0 := fun s W h => validM_any s M W h (fun i hi => Nat.le_trans (hs i hi) (by decide))
  have HIt0 := fun s W h => itemsM_any s M W h hs
  have HLe0 := fun s W h => lenM_any s M W h hs
  have HFr := Lib.hid (fun v W h => fromM_any v (itemsM M) M.garb W h hil)
  have HSa := Lib.hid (fun s t W h h2 => sameM_any s t (fromM (itemsM M) M.garb) M W h h2)
  rw [hvl] at HVa0
  rw [hsm] at HSa
  have HV1 := Lib.hid HVa0
  have HI1 := Lib.hid HIt0
  have HL1 := Lib.hid HLe0
  generalize fromM (itemsM M) M.garb = M2 at *
  generalize itemsM M = I at *
  clear h hv hle hok hs hvl hil hsm HVa0 HIt0 HLe0
  generalize lawI l = K at *
  go_enter Try.func8, Try.ntmps8
  go_wp2_with fail
  refine HI.out.mono ?_; rintro e w1 ⟨kv, rfl, hown1, hb1⟩
  have HB1 := Lib.hid hb1
  have HF1 := Lib.hid (HFm.out kv w1 (OwnT.rd hown1))
  clear hown1 hb1 HI HFm
  go_wp2_with fail
  refine HF1.out.mono ?_; rintro e w2 ⟨⟨s, rfl, hown2⟩, hb2⟩
  have HB2 := Lib.hid (bstep HB1.out hb2)
  have HO2 := Lib.hid hown2
  clear hown2 hb2 HF1 HB1
  go_upto_region 2 with fail
  obtain ⟨W3, hW3⟩ : ∃ W3, w2.alloc (.cells (mapC s M.live M.garb) 37) = W3 := ⟨_, rfl⟩
  have HX3 := Lib.hid (show BoxM W3 w2.heap.size s M.live M.garb from hW3 ▸ BoxM.new w2 s M.live M.garb 37)
  have HB3 := Lib.hid (show Below w.heap.size w W3 from hW3 ▸ bstep HB2.out (below_map w2 s M.live M.garb 37))
  have HO3 := Lib.hid (show RdM W3 s M.st from hW3 ▸ HO2.out.rd.below (below_map w2 s M.live M.garb 37))
  rw [hW3]
  clear hW3 HO2 HB2
  generalize w2.heap.size = bm at *
  have HSX := Lib.hid (show ∀ WV, Below W3.heap.size W3 WV → WV.cell? ⟨bm, 0, none⟩ = some (.slice (s.a 0) (s.n 0) (s.c 0)) ∧ WV.cell? ⟨bm, 1, none⟩ = some (.slice (s.a 1) (s.n 1) (s.c 1)) ∧ WV.cell? ⟨bm, 2, none⟩ = some (.slice (s.a 2) (s.n 2) (s.c 2)) ∧ WV.cell? ⟨bm, 3, none⟩ = some (.slice (s.a 3) (s.n 3) (s.c 3)) ∧ WV.cell? ⟨bm, 4, none⟩ = some (.slice (s.a 4) (s.n 4) (s.c 4)) ∧ WV.cell? ⟨bm, 5, none⟩ = some (.slice (s.a 5) (s.n 5) (s.c 5)) ∧ WV.cell? ⟨bm, 6, none⟩ = some (.slice (s.a 6) (s.n 6) (s.c 6)) ∧ WV.cell? ⟨bm, 7, none⟩ = some (.slice (s.a 7) (s.n 7) (s.c 7)) ∧ WV.cell? ⟨bm, 8, none⟩ = some (.int .i64 M.live) ∧ WV.cell? ⟨bm, 9, none⟩ = some (.int .i64 M.garb) from fun WV hb => ⟨(HX3.out.below hb).c0, (HX3.out.below hb).c1, (HX3.out.below hb).c2, (HX3.out.below hb).c3, (HX3.out.below hb).c4, (HX3.out.below hb).c5, (HX3.out.below hb).c6, (HX3.out.below hb).c7, (HX3.out.below hb).cl, (HX3.out.below hb).cg⟩)
  have HRd := Lib.hid (fun W (hb : Below W3.heap.size W3 W) => HO3.out.below hb)
  have HVa := Lib.hid (fun W (hb : Below W3.heap.size W3 W) => HV1.out s W (HRd.out W hb))
  have HIt := Lib.hid (fun W (hb : Below W3.heap.size W3 W) => HI1.out s W (HRd.out W hb))
  have HLe := Lib.hid (fun W (hb : Below W3.heap.size W3 W) => HL1.out s W (HRd.out W hb))
  go_wp2_with fail
  go_region_held3 (fun w' => w'.cell? ⟨bm, 0, none⟩ = some (.slice (s.a 0) (s.n 0) (s.c 0)) ∧ w'.cell? ⟨bm, 1, none⟩ = some (.slice (s.a 1) (s.n 1) (s.c 1)) ∧ w'.cell? ⟨bm, 2, none⟩ = some (.slice (s.a 2) (s.n 2) (s.c 2)) ∧ w'.cell? ⟨bm, 3, none⟩ = some (.slice (s.a 3) (s.n 3) (s.c 3)) ∧ w'.cell? ⟨bm, 4, none⟩ = some (.slice (s.a 4) (s.n 4) (s.c 4)) ∧ w'.cell? ⟨bm, 5, none⟩ = some (.slice (s.a 5) (s.n 5) (s.c 5)) ∧ w'.cell? ⟨bm, 6, none⟩ = some (.slice (s.a 6) (s.n 6) (s.c 6)) ∧ w'.cell? ⟨bm, 7, none⟩ = some (.slice (s.a 7) (s.n 7) (s.c 7)) ∧ w'.cell? ⟨bm, 8, none⟩ = some (.int .i64 M.live) ∧ w'.cell? ⟨bm, 9, none⟩ = some (.int .i64 M.garb))
    (first | with_reducible exact HSX.out _ (bstep (bstep (bstep (bstep (bstep (bstep (bstep (bstep (bstep (Below.refl _ _).drew hba) hbb) hbc) hbd) hbe) hbf) hbg) hbh) hbi) | with_reducible exact HSX.out _ (bstep (bstep (bstep (bstep (bstep (bstep (bstep (bstep (Below.refl _ _).drew hba) hbb) hbc) hbd) hbe) hbf) hbg) hbh) | with_reducible exact HSX.out _ (bstep (bstep (bstep (bstep (bstep (bstep (bstep (Below.refl _ _).drew hba) hbb) hbc) hbd) hbe) hbf) hbg) | with_reducible exact HSX.out _ (bstep (bstep (bstep (bstep (bstep (bstep (Below.refl _ _).drew hba) hbb) hbc) hbd) hbe) hbf) | with_reducible exact HSX.out _ (bstep (bstep (bstep (bstep (bstep (Below.refl _ _).drew hba) hbb) hbc) hbd) hbe) | with_reducible exact HSX.out _ (bstep (bstep (bstep (bstep (Below.refl _ _).drew hba) hbb) hbc) hbd) | with_reducible exact HSX.out _ (bstep (bstep (bstep (Below.refl _ _).drew hba) hbb) hbc) | with_reducible exact HSX.out _ (bstep (bstep (Below.refl _ _).drew hba) hbb) | with_reducible exact HSX.out _ (bstep (Below.refl _ _).drew hba) | exact HSX.out _ (Below.refl _ _).drew)
    (first | (go_at_call 26; (with_reducible refine (HVa.out _ (Below.refl _ _).drew).mono ?_); rintro e wa ⟨rfl, hba⟩) | (go_at_call 31; (with_reducible refine (HIt.out _ (bstep (Below.refl _ _).drew hba)).mono ?_); rintro e wb ⟨vb, rfl, hownb, hbb⟩) | (go_at_call 22; (with_reducible refine (HFr.out _ _ (OwnT.rd hownb)).mono ?_); rintro e wc ⟨⟨sc, rfl, hownc⟩, hbc⟩) | (go_at_call 14; (with_reducible refine (told_any sc M2.live M2.garb _).mono ?_); rintro e wd ⟨rfl, hbd⟩) | (go_at_call 14; (with_reducible refine (told_any s M.live M.garb _).mono ?_); rintro e we ⟨rfl, hbe⟩) | (go_at_call 13; (with_reducible refine (HSa.out _ _ _ (hownc.rd.below (bstep hbd hbe)) (HRd.out _ (bstep (bstep (bstep (bstep (bstep (Below.refl _ _).drew hba) hbb) hbc) hbd) hbe))).mono ?_); rintro e wf ⟨rfl, hbf⟩) | (go_at_call 28; (with_reducible refine (HLe.out _ (bstep (bstep (bstep (bstep (bstep (bstep (Below.refl _ _).drew hba) hbb) hbc) hbd) hbe) hbf)).mono ?_); rintro e wg ⟨rfl, hbg⟩) | (go_at_call 31; (with_reducible refine (HIt.out _ (bstep (bstep (bstep (bstep (bstep (bstep (bstep (Below.refl _ _).drew hba) hbb) hbc) hbd) hbe) hbf) hbg)).mono ?_); rintro e wh ⟨vh, rfl, hownh, hbh⟩; obtain ⟨ha, hc, hvh, _, _, _⟩ := own_form hownh; subst hvh) | (go_at_call 10; (with_reducible refine (awakeM_any _).mono ?_); rintro e wi ⟨rfl, hbi⟩))
  have HBz := Lib.hid (bstep HB3.out (bstep (bstep (bstep (bstep (bstep (bstep (bstep (bstep (bstep (Below.refl _ _).drew hba) hbb) hbc) hbd) hbe) hbf) hbg) hbh) hbi))
  clear hba hbb hbc hbd hbe hbf hbg hbh hbi hownb hownc hownh
  go_wp2_with fail
  go_ret
  exact ⟨rfl, HBz.out⟩
end Go.Proofs.Ytndhjfmdfcpceaa

namespace Go.Proofs.Ytndhjfmdfcpceaa
open Go.RowKit

theorem whole_open (a : Option Addr) (n cap : Nat) (g : Int) (w : World) (h : ∃ l, RdT w (.slice a n cap) l ∧ ∀ x ∈ l, x.Wf) (hg : (Lit.int .u16 g).wf = true) :
    Calls Try.prog 8 #[.slice a n cap, .int .u16 g] w fun e w' => e = .returned (.bool true) ∧ Below w.heap.size w w' := by
  obtain ⟨l, hl, _⟩ := h
  exact whole_walk _ g l w (by simp [Lit.wf, IntKind.min, IntKind.max, IntKind.signed, IntKind.bits] at hg; omega) hl
end Go.Proofs.Ytndhjfmdfcpceaa
