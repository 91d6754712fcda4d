/- A part of the walk. -/
import Derived.Test.YtcgfilmmokmdjaaGreatQAL
set_option linter.all false
set_option maxRecDepth 100000
set_option maxHeartbeats 32000000
namespace Go.Proofs.YtcgfilmmokmdjaaGreat
open Go.RowKit
theorem zGv (i l : Int) (r : Bool) (a a2 : Option Addr) (n n2 c c2 : Nat) (L L2 : List GP) (w : World) (h : fq w (.slice a n c) L) (h2 : fq w (.slice a2 n2 c2) L2) (he : dZ L = dZ L2) (hcap : n ≤ 1000000) :
  Calls Tryz.prog 32 #[zZ i l r a n c, zZ i l r a2 n2 c2] w fun e w' => e = .returned (.bool true) ∧ Below w.heap.size w w' := by
 have fR : L.length = n := by
  obtain ⟨_, _, e, _⟩ := h.shape;injection e with _ e _; exact e.symm
 have MV : L2.length = n2 := by
  obtain ⟨_, _, e, _⟩ := h2.shape;injection e with _ e _; exact e.symm
 obtain rfl : n2 = n := by rw [← fR, ← MV, ← zj L, ← zj L2, he]
 have HR := zh h;have fZ := zh h2;have HE := zh (show ∀ k, (pat L k).1 = (pat L2 k).1 from fun k => by rw [← yu, ← yu, he]);have HM := zh (show ∀ k, k < n2 → pat L k ∈ L ∧ pat L2 k ∈ L2 from fun k hk => ⟨yd (by omega), yd (by omega)⟩);clear h h2 he fR MV;have jM := zh (eT.new w i l r a n2 c 31);have eD := zh (zN w i l r a n2 c 31)
 go_enter Tryz.func32, Tryz.ntmps32
 go_upto_region 1 with fail;change Code.wp _ _ _ _ ((w.alloc (.cells (zK i l r a n2 c) 31)).alloc (.cells (zK i l r a2 n2 c2) 31));obtain ⟨W0, hW0⟩ : ∃ W0, w.alloc (.cells (zK i l r a n2 c) 31) = W0 := ⟨_, rfl⟩
 have hsz : W0.heap.size = w.heap.size + 1 := by rw [← hW0]; simp
 rw [hW0] at jM eD ⊢;clear hW0;obtain ⟨W, hW⟩ : ∃ W, W0.alloc (.cells (zK i l r a2 n2 c2) 31) = W := ⟨_, rfl⟩
 have HY := zh (show eT W (w.heap.size + 1) i l r a2 n2 c2 from by have := eT.new W0 i l r a2 n2 c2 31; rw [hW, hsz] at this; exact this);have eG := zN W0 i l r a2 n2 c2 31;rw [hW] at eG ⊢;have HX := zh (jM.out.below eG);have HB := zh (zA eD.out eG);clear eG hW jM eD;obtain ⟨x0, x1, x2, x3⟩ := HX.out.q;obtain ⟨y0, y1, y2, y3⟩ := HY.out.q;go_wp2_with fail;clear x0 x1 x2 x3 y0 y1 y2 y3
 go_loopw [5] (fun iv V => ∃ k : Nat, iv = .int .i64 (k : Int) ∧ k ≤ n2 ∧ Hid (Below W.heap.size W V)) (fun iv _ => n2 - (intOf iv).toNat)
 case atStart => exact ⟨0, rfl, au _, zh (aj _ _)⟩
 obtain ⟨k, rfl, hk, oK⟩ := hrel;have T1 := zh (zA HB.out oK.out);have x3 := (HX.out.below oK.out).c3
 by_cases hlk : k < n2
 ·
  as_aux_lemma =>
  have k1 : (k : Int) < (n2 : Int) := by omega
  have hR := HR.out.below T1.out;have hR2 := fZ.out.below T1.out;obtain ⟨b, off, rfl, hg⟩ := hR.at hlk;obtain ⟨b2, aka, rfl, hg2⟩ := hR2.at hlk;have l9 := zh (And.intro (hR.m _ (HM.out k hlk).1) (hR2.m _ (HM.out k hlk).2));have hee := HE.out k;clear hR hR2;generalize pat L k = p at *;generalize pat L2 k = p2 at *;obtain ⟨g, s⟩ := p;obtain ⟨g2, s2⟩ := p2;dsimp only at *;subst hee;have HS := zh (fun V (hb : Below wr.heap.size wr V) => zH2 g s s2 V (l9.out.1.below hb) (l9.out.2.below hb));clear l9;obtain ⟨num, rev, md, sz, ⟨f, LV, GA⟩⟩ := g;dsimp only at *;obtain ⟨g0, g1, g2, g3, g4, g5, g6, g7, g8, g9, g10, g11, g12, g13⟩ := hg;obtain ⟨q0, q1, q2, q3, q4, q5, q6, q7, q8, q9, AY, AZ, A0, A1⟩ := hg2;dsimp only at g0 g1 g2 g3 g4 g5 g6 g7 g8 g9 g10 g11 g12 g13 q0 q1 q2 q3 q4 q5 q6 q7 q8 q9 AY AZ A0 A1;have v3 := zB (HX.out.below oK.out).c3;have u3 := zB (HY.out.below oK.out).c3
  go_upto_region 6 with fail;clear x3;replace g0 := zB g0;replace q0 := zB q0;replace g1 := zB g1;replace q1 := zB q1;replace g2 := zB g2;replace q2 := zB q2;replace g3 := zB g3;replace q3 := zB q3;replace g4 := zB g4;replace q4 := zB q4;replace g5 := zB g5;replace q5 := zB q5;replace g6 := zB g6;replace q6 := zB q6;replace g7 := zB g7;replace q7 := zB q7;replace g8 := zB g8;replace q8 := zB q8;replace g9 := zB g9;replace q9 := zB q9;replace g10 := zB g10;replace AY := zB AY;replace g11 := zB g11;replace AZ := zB AZ;replace g12 := zB g12;replace A0 := zB A0;replace g13 := zB g13;replace A1 := zB A1;refine zC (by kernel_rfl) (by kernel_rfl) ?_
  repeat (go_big_quiet_step ((exact zG (HS.out _ (dY.h _)))))
  refine aC ?_;intro _ hw';obtain ⟨q, hw'⟩ := hw';subst hw';have HQ := zh (iP oK.out oK.out.size q.h);generalize q.w' = W3 at *;clear v3 u3 g0 q0 g1 q1 g2 q2 g3 q3 g4 q4 g5 q5 g6 q6 g7 q7 g8 q8 g9 q9 g10 AY g11 AZ g12 A0 g13 A1;go_wp2_with fail;exact ⟨⟨k + 1, by go_num, by omega, HQ⟩, by simp [intOf]; omega⟩
 have k1 : ¬ (k : Int) < (n2 : Int) := by omega
 go_wp2_with fail;go_ret;exact ⟨rfl, T1.out⟩
end Go.Proofs.YtcgfilmmokmdjaaGreat
