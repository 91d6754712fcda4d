/- A part of the walk. -/
import Derived.Test.YtcgfilmmokmdjaaGreatSlv
import Derived.Test.YtcgfilmmokmdjaaGreatQAO
import Derived.Test.YtcgfilmmokmdjaaGreatQAN
set_option linter.all false
set_option maxRecDepth 100000
set_option maxHeartbeats 32000000
namespace Go.Proofs.YtcgfilmmokmdjaaGreat
open Go.RowKit
theorem zGH (i l : Int) (hA : 0 ≤ i ∧ i < 4 ∧ 4136 ≤ l ∧ l ≤ 262144) (w : World) : Calls Tryz.prog 42 #[.int .i64 i, .int .i64 l] w fun e w' => ∃ b, e = .returned (.tuple #[zhq i l false (some ⟨b, 0, none⟩) 1 1, .int .i64 0]) ∧ w.heap.size ≤ b ∧ GAt w' b 0 (fresh 1, Sl.nil) ∧ Below w.heap.size w w' := by
 have HF := zh (fun W => zA5 1 (by decide) W)
 have HV := zh (fun b W (h : GAt W b 0 (fresh 1, Sl.nil)) => xC i l false (some ⟨b, 0, none⟩) 1 1 kJ W (zAM h) (fun p hp j _ => by
  have : p = (fresh 1, Sl.nil) := by simpa [kJ] using hp
  subst this
  exact Nat.zero_le _))
 rw [zAP i l false hA] at HV;have HB := zh (zP w 0 0 false none 0 0 31);have HR := zh (BoxV.new w 0 0 false none 0 0 31);clear hA
 go_enter Tryz.func42, Tryz.ntmps42
 go_wp2_with fail;refine (HF.out _).mono ?_;rintro e w1 ⟨rfl, hb1⟩;obtain ⟨W0, hW0⟩ : ∃ W0, w.alloc (.cells (zS 0 0 false none 0 0) 31) = W0 := ⟨_, rfl⟩
 have hb1' : Below (w.alloc (.cells (zS 0 0 false none 0 0) 31)).heap.size (w.alloc (.cells (zS 0 0 false none 0 0) 31)) w1 := hb1;rw [hW0] at hb1' HB HR;have HB1 := zh (zA HB.out hb1');have HR1 := zh (HR.out.below hb1');clear hb1 hb1' HB HR hW0 HF;have hlR := HR1.out.lt;generalize hb0 : w.heap.size = b0 at *;have E0 := zh hb0;clear hb0;generalize hnil : Sl.nil = s0 at *;have HNil := zh hnil;clear hnil;go_upto_region 2 with fail;obtain ⟨W, hW⟩ : ∃ W, w1.alloc (.cells (zX 1 0 1 16 s0 0 0) 113) = W := ⟨_, rfl⟩
 have HX := zh (BoxG.new w1 1 0 1 16 s0 0 0 113);have HBx := zh (zZ w1 1 0 1 16 s0 0 0 113);change Code.wp _ _ _ _ (w1.alloc (.cells (zX 1 0 1 16 s0 0 0) 113));rw [hW] at HX HBx ⊢;clear hW;have HR2 := zh (HR1.out.below HBx.out);have HB2 := zh (bup HB1.out (Nat.le_of_lt hlR) HBx.out);have hlX := HX.out.lt;obtain ⟨m0, m1, m2, m3, m4, m5, m6, m7, m8, m9, m10, m11, m12, m13⟩ := HX.out.q;go_upto_region 3 with fail;change Code.wp _ _ _ _ ((W.alloc (.cells (zX 1 0 1 16 s0 0 0) 113)).alloc (.cells (zS i l false (some ⟨W.heap.size, 0, none⟩) 1 1) 31));obtain ⟨W2, hW2⟩ : ∃ W2, W.alloc (.cells (zX 1 0 1 16 s0 0 0) 113) = W2 := ⟨_, rfl⟩
 have hz2 : W2.heap.size = W.heap.size + 1 := by rw [← hW2]; simp
 have HG2 := zh (show GAt W2 W.heap.size 0 (fresh 1, s0) from hW2 ▸ GAt.of_box (g := fresh 1) (BoxG.new W 1 0 1 16 s0 0 0 113));have HBa := zh (show Below W.heap.size W W2 from hW2 ▸ zZ W 1 0 1 16 s0 0 0 113);rw [hW2];clear hW2;obtain ⟨W3, hW3⟩ : ∃ W3, W2.alloc (.cells (zS i l false (some ⟨W.heap.size, 0, none⟩) 1 1) 31) = W3 := ⟨_, rfl⟩
 have HS3 := zh (show BoxV W3 (W.heap.size + 1) i l false (some ⟨W.heap.size, 0, none⟩) 1 1 from hz2 ▸ hW3 ▸ BoxV.new W2 i l false (some ⟨W.heap.size, 0, none⟩) 1 1 31);have HBb := zh (show Below W2.heap.size W2 W3 from hW3 ▸ zP W2 i l false (some ⟨W.heap.size, 0, none⟩) 1 1 31);rw [hW3];clear hW3;have HG3 := zh (HG2.out.below HBb.out);have hab := zA HBa.out HBb.out;have HR3 := zh (HR2.out.below hab);have HB3 := zh (bup HB2.out (Nat.le_of_lt HR2.out.lt) hab);have hl3 := HS3.out.lt;have hbW : b0 < W.heap.size := HR2.out.lt;clear m0 m1 m2 m3 m4 m5 m6 m7 m8 m9 m10 m11 m12 m13 HX HBx HR2 HB2 HG2 HBa HBb hab HR1 HB1 hlX hlR;obtain ⟨x0, x1, x2, x3⟩ := HS3.out.q;generalize hgb : W.heap.size = gb at *;clear hgb;go_wp2_with fail;refine (HV.out _ _ HG3.out).mono ?_;rintro e w4 ⟨rfl, hb4⟩;have HG4 := zh (HG3.out.below hb4);have HR4 := zh (HR3.out.below hb4);have HS4 := zh (HS3.out.below hb4)
 have HB4 := zh (bup HB3.out (Nat.le_of_lt HR3.out.lt) hb4);have hl4 := HS4.out.lt;have hlr4 := HR4.out.lt;clear x0 x1 x2 x3 hb4 HG3 HR3 HS3 HB3 HV hl3;obtain ⟨x0, x1, x2, x3⟩ := HS4.out.q;obtain ⟨d0, d1, d2, d3⟩ := HR4.out.q;have F := HR4.out.f;have hne : b0 ≠ gb + 1 := by omega
 go_wp2_with fail;change bodyPost _ _ _ _ _ (pts w4 b0 (zU i l false (some ⟨gb, 0, none⟩) 1 1));have hby := HR4.out.all i l false (some ⟨gb, 0, none⟩) 1 1;have HBz := zh (zD (B := b0) (Nat.le_refl _) (zU i l false (some ⟨gb, 0, none⟩) 1 1) HB4.out);have HGz := zh (HG4.out.pts_ne (show gb ≠ b0 by omega) (zU i l false (some ⟨gb, 0, none⟩) 1 1));generalize pts w4 b0 (zU i l false (some ⟨gb, 0, none⟩) 1 1) = V at *;exact bodyPost_ret (v := .tuple #[zhq i l false (some ⟨gb, 0, none⟩) 1 1, .int .i64 0]) (by simp [results, Tryz.results42, go_sem, hby.c0, hby.c1, hby.c2, hby.c3]) rfl ⟨gb, rfl, by rw [E0.out]; omega, by rw [HNil.out]; exact HGz.out, by rw [E0.out]; exact HBz.out⟩
end Go.Proofs.YtcgfilmmokmdjaaGreat
