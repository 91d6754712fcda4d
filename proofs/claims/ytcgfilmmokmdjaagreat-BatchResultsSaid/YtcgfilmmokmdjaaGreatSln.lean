/- A part of the walk. -/
import Derived.Test.YtcgfilmmokmdjaaGreatSlv
import Derived.Test.YtcgfilmmokmdjaaGreatQAM
import Derived.Test.YtcgfilmmokmdjaaGreatQAL
set_option maxRecDepth 100000
set_option maxHeartbeats 32000000
namespace Go.Proofs.YtcgfilmmokmdjaaGreat
open Go.RowKit
theorem zGr (i l : Int) (hA : 0 ≤ i ∧ i < 4 ∧ 4136 ≤ l ∧ l ≤ 262144) (w : World) : Calls Tryz.prog 42 #[.int .i64 i, .int .i64 l] w fun e w' => ∃ b, e = .returned (.tuple #[zZ i l false (some ⟨b, 0, none⟩) 1 1, .int .i64 0]) ∧ w.heap.size ≤ b ∧ nt w' b 0 (fresh 1, Sl.nil) ∧ Below w.heap.size w w' := by
 have HF := zh (fun W => XL 1 (by decide) W)
 have HV := zh (fun b W (h : nt W b 0 (fresh 1, Sl.nil)) => xR i l false (some ⟨b, 0, none⟩) 1 1 B7 W (Og h) (fun p hp j _ => by
  have : p = (fresh 1, Sl.nil) := by simpa [B7] using hp
  subst this
  exact au _))
 rw [Oe i l false hA] at HV;have HB := zh (zN w 0 0 false none 0 0 31);have HR := zh (eQ.new w 0 0 false none 0 0 31);clear hA
 go_enter Tryz.func42, Tryz.ntmps42
 go_wp2_with fail;refine (HF.out _).mono ?_;rintro e w1 ⟨rfl, dW⟩;obtain ⟨W0, eR⟩ : ∃ W0, w.alloc (.cells (zK 0 0 false none 0 0) 31) = W0 := ⟨_, rfl⟩
 have mD : Below (w.alloc (.cells (zK 0 0 false none 0 0) 31)).heap.size (w.alloc (.cells (zK 0 0 false none 0 0) 31)) w1 := dW;rw [eR] at mD HB HR;have eO := zh (zA HB.out mD);have eY := zh (HR.out.below mD);clear dW mD HB HR eR HF;have Hs := eY.out.lt;generalize hb0 : w.heap.size = b0 at *;have E0 := zh hb0;clear hb0;generalize hnil : Sl.nil = s0 at *;have Dh := zh hnil;clear hnil;go_upto_region 2 with fail;obtain ⟨W, hW⟩ : ∃ W, w1.alloc (.cells (zW 1 0 1 16 s0 0 0) 113) = W := ⟨_, rfl⟩
 have HX := zh (eu.new w1 1 0 1 16 s0 0 0 113);have eB := zh (zQ w1 1 0 1 16 s0 0 0 113);change Code.wp _ _ _ _ (w1.alloc (.cells (zW 1 0 1 16 s0 0 0) 113));rw [hW] at HX eB ⊢;clear hW;have fU := zh (eY.out.below eB.out);have eN := zh (iO eO.out (bN Hs) eB.out);have Hu := HX.out.lt;obtain ⟨m0, m1, m2, m3, m4, m5, m6, m7, m8, m9, m10, m11, m12, m13⟩ := HX.out.q;go_upto_region 3 with fail;change Code.wp _ _ _ _ ((W.alloc (.cells (zW 1 0 1 16 s0 0 0) 113)).alloc (.cells (zK i l false (some ⟨W.heap.size, 0, none⟩) 1 1) 31));obtain ⟨W2, rI⟩ : ∃ W2, W.alloc (.cells (zW 1 0 1 16 s0 0 0) 113) = W2 := ⟨_, rfl⟩
 have gV : W2.heap.size = W.heap.size + 1 := by rw [← rI]; simp
 have iE := zh (show nt W2 W.heap.size 0 (fresh 1, s0) from rI ▸ nt.Dl (g := fresh 1) (eu.new W 1 0 1 16 s0 0 0 113));have B8 := zh (show Below W.heap.size W W2 from rI ▸ zQ W 1 0 1 16 s0 0 0 113);rw [rI];clear rI;obtain ⟨W3, sN⟩ : ∃ W3, W2.alloc (.cells (zK i l false (some ⟨W.heap.size, 0, none⟩) 1 1) 31) = W3 := ⟨_, rfl⟩
 have su := zh (show eQ W3 (W.heap.size + 1) i l false (some ⟨W.heap.size, 0, none⟩) 1 1 from gV ▸ sN ▸ eQ.new W2 i l false (some ⟨W.heap.size, 0, none⟩) 1 1 31);have oS := zh (show Below W2.heap.size W2 W3 from sN ▸ zN W2 i l false (some ⟨W.heap.size, 0, none⟩) 1 1 31);rw [sN];clear sN;have E2 := zh (iE.out.below oS.out);have hab := zA B8.out oS.out;have me := zh (fU.out.below hab);have fS := zh (iO eN.out (bN fU.out.lt) hab);have G5 := su.out.lt;have hbW : b0 < W.heap.size := fU.out.lt;clear m0 m1 m2 m3 m4 m5 m6 m7 m8 m9 m10 m11 m12 m13 HX eB fU eN iE B8 oS hab eY eO Hu Hs;obtain ⟨x0, x1, x2, x3⟩ := su.out.q;generalize CK : W.heap.size = gb at *;clear CK;go_wp2_with fail;refine (HV.out _ _ E2.out).mono ?_;rintro e w4 ⟨rfl, hb4⟩;have E3 := zh (E2.out.below hb4);have jF := zh (me.out.below hb4);have nw := zh (su.out.below hb4);have fM := zh (iO fS.out (bN me.out.lt) hb4)
 have hl4 := nw.out.lt;have RU := jF.out.lt;clear x0 x1 x2 x3 hb4 E2 me su fS HV G5;obtain ⟨x0, x1, x2, x3⟩ := nw.out.q;obtain ⟨d0, d1, d2, d3⟩ := jF.out.q;have F := jF.out.f;have hne : b0 ≠ gb + 1 := by omega
 go_wp2_with fail;change bodyPost _ _ _ _ _ (pts w4 b0 (zJ i l false (some ⟨gb, 0, none⟩) 1 1));have hby := jF.out.all i l false (some ⟨gb, 0, none⟩) 1 1;have ea := zh (zD (B := b0) (ai _) (zJ i l false (some ⟨gb, 0, none⟩) 1 1) fM.out);have Ii := zh (E3.out.ek (show gb ≠ b0 by omega) (zJ i l false (some ⟨gb, 0, none⟩) 1 1));generalize pts w4 b0 (zJ i l false (some ⟨gb, 0, none⟩) 1 1) = V at *;exact aw (v := .tuple #[zZ i l false (some ⟨gb, 0, none⟩) 1 1, .int .i64 0]) (by simp [results, Tryz.results42, go_sem, hby.c0, hby.c1, hby.c2, hby.c3]) rfl ⟨gb, rfl, by rw [E0.out]; omega, by rw [Dh.out]; exact Ii.out, by rw [E0.out]; exact ea.out⟩
end Go.Proofs.YtcgfilmmokmdjaaGreat
