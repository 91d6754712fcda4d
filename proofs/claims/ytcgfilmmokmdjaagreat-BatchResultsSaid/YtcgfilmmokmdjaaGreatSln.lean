/- A part of the walk. -/
import Derived.Test.YtcgfilmmokmdjaaGreatSlv
import Derived.Test.YtcgfilmmokmdjaaGreatQAM
import Derived.Test.YtcgfilmmokmdjaaGreatQAL
set_option linter.all false
set_option maxRecDepth 100000
set_option maxHeartbeats 32000000
namespace Go.Proofs.YtcgfilmmokmdjaaGreat
open Go.RowKit
theorem zGr (i l : Int) (hA : 0 ≤ i ∧ i < 4 ∧ 4136 ≤ l ∧ l ≤ 262144) (w : World) : Calls Tryz.prog 42 #[.int .i64 i, .int .i64 l] w fun e w' => ∃ b, e = .returned (.tuple #[zZ i l false (some ⟨b, 0, none⟩) 1 1, .int .i64 0]) ∧ w.heap.size ≤ b ∧ nw w' b 0 (fresh 1, Sl.nil) ∧ Below w.heap.size w w' := by
 have HF := zh (fun W => Xt 1 (by decide) W)
 have HV := zh (fun b W (h : nw W b 0 (fresh 1, Sl.nil)) => xR i l false (some ⟨b, 0, none⟩) 1 1 B5 W (NV h) (fun p hp j _ => by
  have : p = (fresh 1, Sl.nil) := by simpa [B5] using hp
  subst this
  exact au _))
 rw [NU i l false hA] at HV;have HB := zh (zN w 0 0 false none 0 0 31);have HR := zh (eT.new w 0 0 false none 0 0 31);clear hA
 go_enter Tryz.func42, Tryz.ntmps42
 go_wp2_with fail;refine (HF.out _).mono ?_;rintro e w1 ⟨rfl, hb1⟩;obtain ⟨W0, hW0⟩ : ∃ W0, w.alloc (.cells (zK 0 0 false none 0 0) 31) = W0 := ⟨_, rfl⟩
 have mF : Below (w.alloc (.cells (zK 0 0 false none 0 0) 31)).heap.size (w.alloc (.cells (zK 0 0 false none 0 0) 31)) w1 := hb1;rw [hW0] at mF HB HR;have eQ := zh (zA HB.out mF);have eY := zh (HR.out.below mF);clear hb1 mF HB HR hW0 HF;have G0 := eY.out.lt;generalize hb0 : w.heap.size = b0 at *;have E0 := zh hb0;clear hb0;generalize hnil : Sl.nil = s0 at *;have Da := zh hnil;clear hnil;go_upto_region 2 with fail;obtain ⟨W, hW⟩ : ∃ W, w1.alloc (.cells (zW 1 0 1 16 s0 0 0) 113) = W := ⟨_, rfl⟩
 have HX := zh (eA.new w1 1 0 1 16 s0 0 0 113);have eE := zh (zQ w1 1 0 1 16 s0 0 0 113);change Code.wp _ _ _ _ (w1.alloc (.cells (zW 1 0 1 16 s0 0 0) 113));rw [hW] at HX eE ⊢;clear hW;have fZ := zh (eY.out.below eE.out);have eP := zh (iP eQ.out (bM G0) eE.out);have G1 := HX.out.lt;obtain ⟨m0, m1, m2, m3, m4, m5, m6, m7, m8, m9, m10, m11, m12, m13⟩ := HX.out.q;go_upto_region 3 with fail;change Code.wp _ _ _ _ ((W.alloc (.cells (zW 1 0 1 16 s0 0 0) 113)).alloc (.cells (zK i l false (some ⟨W.heap.size, 0, none⟩) 1 1) 31));obtain ⟨W2, hW2⟩ : ∃ W2, W.alloc (.cells (zW 1 0 1 16 s0 0 0) 113) = W2 := ⟨_, rfl⟩
 have hz2 : W2.heap.size = W.heap.size + 1 := by rw [← hW2]; simp
 have iG := zh (show nw W2 W.heap.size 0 (fresh 1, s0) from hW2 ▸ nw.De (g := fresh 1) (eA.new W 1 0 1 16 s0 0 0 113));have B6 := zh (show Below W.heap.size W W2 from hW2 ▸ zQ W 1 0 1 16 s0 0 0 113);rw [hW2];clear hW2;obtain ⟨W3, hW3⟩ : ∃ W3, W2.alloc (.cells (zK i l false (some ⟨W.heap.size, 0, none⟩) 1 1) 31) = W3 := ⟨_, rfl⟩
 have sj := zh (show eT W3 (W.heap.size + 1) i l false (some ⟨W.heap.size, 0, none⟩) 1 1 from hz2 ▸ hW3 ▸ eT.new W2 i l false (some ⟨W.heap.size, 0, none⟩) 1 1 31);have oW := zh (show Below W2.heap.size W2 W3 from hW3 ▸ zN W2 i l false (some ⟨W.heap.size, 0, none⟩) 1 1 31);rw [hW3];clear hW3;have ES := zh (iG.out.below oW.out);have hab := zA B6.out oW.out;have mh := zh (fZ.out.below hab);have fV := zh (iP eP.out (bM fZ.out.lt) hab);have hl3 := sj.out.lt;have hbW : b0 < W.heap.size := fZ.out.lt;clear m0 m1 m2 m3 m4 m5 m6 m7 m8 m9 m10 m11 m12 m13 HX eE fZ eP iG B6 oW hab eY eQ G1 G0;obtain ⟨x0, x1, x2, x3⟩ := sj.out.q;generalize hgb : W.heap.size = gb at *;clear hgb;go_wp2_with fail;refine (HV.out _ _ ES.out).mono ?_;rintro e w4 ⟨rfl, hb4⟩;have ET := zh (ES.out.below hb4);have jF := zh (mh.out.below hb4);have nz := zh (sj.out.below hb4);have fQ := zh (iP fV.out (bM mh.out.lt) hb4)
 have hl4 := nz.out.lt;have Ru := jF.out.lt;clear x0 x1 x2 x3 hb4 ES mh sj fV HV hl3;obtain ⟨x0, x1, x2, x3⟩ := nz.out.q;obtain ⟨d0, d1, d2, d3⟩ := jF.out.q;have F := jF.out.f;have hne : b0 ≠ gb + 1 := by omega
 go_wp2_with fail;change bodyPost _ _ _ _ _ (pts w4 b0 (zJ i l false (some ⟨gb, 0, none⟩) 1 1));have hby := jF.out.all i l false (some ⟨gb, 0, none⟩) 1 1;have ek := zh (zD (B := b0) (ai _) (zJ i l false (some ⟨gb, 0, none⟩) 1 1) fQ.out);have H5 := zh (ET.out.eu (show gb ≠ b0 by omega) (zJ i l false (some ⟨gb, 0, none⟩) 1 1));generalize pts w4 b0 (zJ i l false (some ⟨gb, 0, none⟩) 1 1) = V at *;exact aw (v := .tuple #[zZ i l false (some ⟨gb, 0, none⟩) 1 1, .int .i64 0]) (by simp [results, Tryz.results42, go_sem, hby.c0, hby.c1, hby.c2, hby.c3]) rfl ⟨gb, rfl, by rw [E0.out]; omega, by rw [Da.out]; exact H5.out, by rw [E0.out]; exact ek.out⟩
end Go.Proofs.YtcgfilmmokmdjaaGreat
