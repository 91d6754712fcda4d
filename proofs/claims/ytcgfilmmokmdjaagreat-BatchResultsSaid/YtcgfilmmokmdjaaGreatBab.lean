/- A part of the walk. -/
import Derived.Test.YtcgfilmmokmdjaaGreatQAP
set_option linter.all false
set_option maxRecDepth 100000
set_option maxHeartbeats 32000000
namespace Go.Proofs.YtcgfilmmokmdjaaGreat
open Go.RowKit
theorem zIX (s : Sl) (L G : Int) (w : World) : Calls Tryz.prog 109 #[yA s L G] w fun e w' => e = .returned (yA s L G) ∧ Below w.heap.size w w' := by
 obtain ⟨W0, hW0⟩ : ∃ W0, (w.alloc (.cells (yN s L G) 111)).alloc (.cells (yN Sl.nil 0 0) 36) = W0 := ⟨_, rfl⟩
 have HX := zh (show eB W0 w.heap.size s L G from hW0 ▸ ((eB.new w s L G 111).below (zP _ Sl.nil 0 0 36)));have HY := zh (show eB W0 (w.heap.size + 1) Sl.nil 0 0 from hW0 ▸ (by have := eB.new (w.alloc (.cells (yN s L G) 111)) Sl.nil 0 0 36; simpa using this));have HB := zh (show Below w.heap.size w W0 from hW0 ▸ zA (zP w s L G 111) (zP _ Sl.nil 0 0 36));have oU := zh hW0;clear hW0
 go_enter Tryz.func109, Tryz.ntmps109
 go_upto_region 1 with fail;have hW0 := oU.out;rw [show (w.alloc (.cells (yN s L G) 111)).alloc (.cells #[.slice none 0 0, .slice none 0 0, .slice none 0 0, .slice none 0 0, .slice none 0 0, .slice none 0 0, .slice none 0 0, .slice none 0 0, .int .i64 0, .int .i64 0] 36) = W0 from hW0];clear hW0 oU;obtain ⟨c0, c1, c2, c3, c4, c5, c6, c7, c8, c9⟩ := HX.out.q;have cF := HX.out.f;obtain ⟨d0, d1, d2, d3, d4, d5, d6, d7, d8, d9⟩ := HY.out.q;have dF := HY.out.f;go_wp2_with fail;change bodyPost _ _ _ _ _ (yC W0 (w.heap.size + 1) s L G);have hby := HY.out.all s L G;have ek := zh (zY HB.out (show w.heap.size ≤ w.heap.size + 1 by omega) s L G);generalize yC W0 (w.heap.size + 1) s L G = V9 at *;exact aw (v := yA s L G) (by simp [results, Tryz.results109, go_sem, hby.q]) rfl ⟨rfl, ek.out⟩
theorem zHv (s : Sl) (L G : Int) (w : World) : Calls Tryz.prog 114 #[yA s L G] w fun e w' => e = .returned (yA s L G) ∧ Below w.heap.size w w' := by
 obtain ⟨W0, hW0⟩ : ∃ W0, (w.alloc (.cells (yN s L G) 36)).alloc (.cells (yN Sl.nil 0 0) 111) = W0 := ⟨_, rfl⟩
 have HX := zh (show eB W0 w.heap.size s L G from hW0 ▸ ((eB.new w s L G 36).below (zP _ Sl.nil 0 0 111)));have HY := zh (show eB W0 (w.heap.size + 1) Sl.nil 0 0 from hW0 ▸ (by have := eB.new (w.alloc (.cells (yN s L G) 36)) Sl.nil 0 0 111; simpa using this));have HB := zh (show Below w.heap.size w W0 from hW0 ▸ zA (zP w s L G 36) (zP _ Sl.nil 0 0 111));have oU := zh hW0;clear hW0
 go_enter Tryz.func114, Tryz.ntmps114
 go_upto_region 1 with fail;have hW0 := oU.out;rw [show (w.alloc (.cells (yN s L G) 36)).alloc (.cells #[.slice none 0 0, .slice none 0 0, .slice none 0 0, .slice none 0 0, .slice none 0 0, .slice none 0 0, .slice none 0 0, .slice none 0 0, .int .i64 0, .int .i64 0] 111) = W0 from hW0];clear hW0 oU;obtain ⟨c0, c1, c2, c3, c4, c5, c6, c7, c8, c9⟩ := HX.out.q;have cF := HX.out.f;obtain ⟨d0, d1, d2, d3, d4, d5, d6, d7, d8, d9⟩ := HY.out.q;have dF := HY.out.f;go_wp2_with fail;change bodyPost _ _ _ _ _ (yC W0 (w.heap.size + 1) s L G);have hby := HY.out.all s L G;have ek := zh (zY HB.out (show w.heap.size ≤ w.heap.size + 1 by omega) s L G);generalize yC W0 (w.heap.size + 1) s L G = V9 at *;exact aw (v := yA s L G) (by simp [results, Tryz.results114, go_sem, hby.q]) rfl ⟨rfl, ek.out⟩
theorem zIG (n r md z : Int) (s : Sl) (L G : Int) (w : World) : Calls Tryz.prog 67 #[za n r md z s L G] w fun e w' => e = .returned (za n r md z s L G) ∧ Below w.heap.size w w' := by
 obtain ⟨W0, hW0⟩ : ∃ W, w.alloc (.cells (zW n r md z s L G) 113) = W := ⟨_, rfl⟩
 have jM := zh (show eA W0 w.heap.size n r md z s L G from hW0 ▸ eA.new w n r md z s L G 113);have eD := zh (show Below w.heap.size w W0 from hW0 ▸ zQ w n r md z s L G 113);have HR := zh (eA.new W0 0 0 0 0 Sl.nil 0 0 38);have HX := zh (jM.out.below (zQ W0 0 0 0 0 Sl.nil 0 0 38));have HB := zh (zA eD.out (zQ W0 0 0 0 0 Sl.nil 0 0 38));have hlz : w.heap.size ≤ W0.heap.size := eD.out.size;have hz0 : W0.heap.size = w.heap.size + 1 := by rw [← hW0]; simp
 go_enter Tryz.func67, Tryz.ntmps67
 go_upto_region 1 with fail;change Code.wp _ _ _ _ (W0.alloc (.cells (zW 0 0 0 0 Sl.nil 0 0) 38));clear hW0 jM eD;obtain ⟨W, hW⟩ : ∃ W, W0.alloc (.cells (zW 0 0 0 0 Sl.nil 0 0) 38) = W := ⟨_, rfl⟩
 rw [hW] at HX HB HR ⊢;clear hW;rw [hz0] at HR;clear hz0;refine yO [eR (.pointer (some ⟨w.heap.size, 0, none⟩)), eR (.int .i64 n), eR (.pointer (some ⟨w.heap.size, 1, none⟩)), eR (.int .i64 r), eR (.pointer (some ⟨w.heap.size, 2, none⟩)), eR (.int .i64 md), eR (.pointer (some ⟨w.heap.size, 3, none⟩)), eR (.int .i64 z), eR (.pointer (some ⟨w.heap.size, 4, none⟩)), eR (yA s L G), eR (yA s L G), eR (za n r md z s L G)] [] 15 (by kernel_rfl) (by kernel_rfl) (by rfl) (by kernel_rfl) (fun f => by simp [fA, zX, Act.put]; exact rfl) ?_ ?_
 ·
  refine ⟨?_, ?_, ?_, ?_, ?_, ?_, ?_, ?_, ?_, ?_, ?_, ?_, trivial⟩
  ·
   intro f w1 hb hd;clear hd;dsimp only;go_wp2_with fail;exact pS rfl (by simp)
  ·
   intro f w1 hb hd;have d0 : f 0 = (.pointer (some ⟨w.heap.size, 0, none⟩)) := hd 0 (by kernel_rfl);clear hd;dsimp only;rw [d0];have q0 := (HX.out.below hb).n0;go_wp2_with fail;exact pS rfl (by simp)
  ·
   intro f w1 hb hd;clear hd;dsimp only;go_wp2_with fail;exact pS rfl (by simp)
  ·
   intro f w1 hb hd;have d2 : f 2 = (.pointer (some ⟨w.heap.size, 1, none⟩)) := hd 2 (by kernel_rfl);clear hd;dsimp only;rw [d2];have q0 := (HX.out.below hb).n1;go_wp2_with fail;exact pS rfl (by simp)
  ·
   intro f w1 hb hd;clear hd;dsimp only;go_wp2_with fail;exact pS rfl (by simp)
  ·
   intro f w1 hb hd;have d4 : f 4 = (.pointer (some ⟨w.heap.size, 2, none⟩)) := hd 4 (by kernel_rfl);clear hd;dsimp only;rw [d4];have q0 := (HX.out.below hb).n2;go_wp2_with fail;exact pS rfl (by simp)
  ·
   intro f w1 hb hd;clear hd;dsimp only;go_wp2_with fail;exact pS rfl (by simp)
  ·
   intro f w1 hb hd;have d6 : f 6 = (.pointer (some ⟨w.heap.size, 3, none⟩)) := hd 6 (by kernel_rfl);clear hd;dsimp only;rw [d6];have q0 := (HX.out.below hb).n3;go_wp2_with fail;exact pS rfl (by simp)
  ·
   intro f w1 hb hd;clear hd;dsimp only;go_wp2_with fail;exact pS rfl (by simp)
  ·
   intro f w1 hb hd;have d8 : f 8 = (.pointer (some ⟨w.heap.size, 4, none⟩)) := hd 8 (by kernel_rfl);clear hd;dsimp only;rw [d8];have zo := HX.out.below hb;obtain ⟨q0, q1, q2, q3, q4, q5, q6, q7, q8, q9, AY, AZ, A0, A1⟩ := zo.q;clear zo;go_wp2_with fail;exact pS rfl (by simp)
  ·
   intro f w1 hb hd;have d9 : f 9 = (yA s L G) := hd 9 (by kernel_rfl);clear hd;dsimp only;rw [d9];go_wp2_with fail;refine (zIX s L G w1).mono ?_;rintro e w9 ⟨rfl, fT⟩;go_wp2_with fail;exact pT rfl (by simp) fT
  intro f w1 hb hd;have d1 : f 1 = (.int .i64 n) := hd 1 (by kernel_rfl);have d3 : f 3 = (.int .i64 r) := hd 3 (by kernel_rfl);have d5 : f 5 = (.int .i64 md) := hd 5 (by kernel_rfl);have d7 : f 7 = (.int .i64 z) := hd 7 (by kernel_rfl);have d10 : f 10 = (yA s L G) := hd 10 (by kernel_rfl);clear hd;dsimp only;rw [d1];rw [d3];rw [d5];rw [d7];rw [d10];go_wp2_with fail;exact pS rfl (by simp)
 intro f w5 hb hd jc;clear jc;have d11 : f 11 = (za n r md z s L G) := hd 11 (show 11 < 12 by decide)
 try dsimp only
 rw [d11];clear hd d11;generalize f 0 = Ag, f 1 = sW, f 2 = sX, f 3 = sY, f 4 = sZ, f 5 = s6, f 6 = Ah, f 7 = CH, f 8 = JL, f 9 = Eh, f 10 = t_;clear f;have HY := zh (HR.out.below hb);have gp := zh (zA HB.out hb);clear hb;have rf := HY.out.f;obtain ⟨r0, r1, r2, r3, r4, r5, r6, r7, r8, r9, lM, lr, l7, mP⟩ := HY.out.q;go_wp2_with fail;change bodyPost _ _ _ _ _ (pts w5 (w.heap.size + 1) (zL n r md z s L G));have hby := HY.out.all n r md z s L G;have ek := zh (zD (B := w.heap.size) (b := w.heap.size + 1) (by omega) (zL n r md z s L G) gp.out);generalize pts w5 (w.heap.size + 1) (zL n r md z s L G) = V at *;exact aw (v := za n r md z s L G) (by simp [results, Tryz.results67, go_sem, hby.q]) rfl ⟨rfl, ek.out⟩
theorem zHI (n r md z : Int) (s : Sl) (L G : Int) (w : World) : Calls Tryz.prog 73 #[za n r md z s L G] w fun e w' => e = .returned (za n r md z s L G) ∧ Below w.heap.size w w' := by
 obtain ⟨W0, hW0⟩ : ∃ W, w.alloc (.cells (zW n r md z s L G) 38) = W := ⟨_, rfl⟩
 have jM := zh (show eA W0 w.heap.size n r md z s L G from hW0 ▸ eA.new w n r md z s L G 38);have eD := zh (show Below w.heap.size w W0 from hW0 ▸ zQ w n r md z s L G 38);have HR := zh (eA.new W0 0 0 0 0 Sl.nil 0 0 113);have HX := zh (jM.out.below (zQ W0 0 0 0 0 Sl.nil 0 0 113));have HB := zh (zA eD.out (zQ W0 0 0 0 0 Sl.nil 0 0 113));have hlz : w.heap.size ≤ W0.heap.size := eD.out.size;have hz0 : W0.heap.size = w.heap.size + 1 := by rw [← hW0]; simp
 go_enter Tryz.func73, Tryz.ntmps73
 go_upto_region 1 with fail;change Code.wp _ _ _ _ (W0.alloc (.cells (zW 0 0 0 0 Sl.nil 0 0) 113));clear hW0 jM eD;obtain ⟨W, hW⟩ : ∃ W, W0.alloc (.cells (zW 0 0 0 0 Sl.nil 0 0) 113) = W := ⟨_, rfl⟩
 rw [hW] at HX HB HR ⊢;clear hW;rw [hz0] at HR;clear hz0;refine yO [eR (.pointer (some ⟨w.heap.size, 0, none⟩)), eR (.int .i64 n), eR (.pointer (some ⟨w.heap.size, 1, none⟩)), eR (.int .i64 r), eR (.pointer (some ⟨w.heap.size, 2, none⟩)), eR (.int .i64 md), eR (.pointer (some ⟨w.heap.size, 3, none⟩)), eR (.int .i64 z), eR (.pointer (some ⟨w.heap.size, 4, none⟩)), eR (yA s L G), eR (yA s L G), eR (za n r md z s L G)] [] 15 (by kernel_rfl) (by kernel_rfl) (by rfl) (by kernel_rfl) (fun f => by simp [fA, zX, Act.put]; exact rfl) ?_ ?_
 ·
  refine ⟨?_, ?_, ?_, ?_, ?_, ?_, ?_, ?_, ?_, ?_, ?_, ?_, trivial⟩
  ·
   intro f w1 hb hd;clear hd;dsimp only;go_wp2_with fail;exact pS rfl (by simp)
  ·
   intro f w1 hb hd;have d0 : f 0 = (.pointer (some ⟨w.heap.size, 0, none⟩)) := hd 0 (by kernel_rfl);clear hd;dsimp only;rw [d0];have q0 := (HX.out.below hb).n0;go_wp2_with fail;exact pS rfl (by simp)
  ·
   intro f w1 hb hd;clear hd;dsimp only;go_wp2_with fail;exact pS rfl (by simp)
  ·
   intro f w1 hb hd;have d2 : f 2 = (.pointer (some ⟨w.heap.size, 1, none⟩)) := hd 2 (by kernel_rfl);clear hd;dsimp only;rw [d2];have q0 := (HX.out.below hb).n1;go_wp2_with fail;exact pS rfl (by simp)
  ·
   intro f w1 hb hd;clear hd;dsimp only;go_wp2_with fail;exact pS rfl (by simp)
  ·
   intro f w1 hb hd;have d4 : f 4 = (.pointer (some ⟨w.heap.size, 2, none⟩)) := hd 4 (by kernel_rfl);clear hd;dsimp only;rw [d4];have q0 := (HX.out.below hb).n2;go_wp2_with fail;exact pS rfl (by simp)
  ·
   intro f w1 hb hd;clear hd;dsimp only;go_wp2_with fail;exact pS rfl (by simp)
  ·
   intro f w1 hb hd;have d6 : f 6 = (.pointer (some ⟨w.heap.size, 3, none⟩)) := hd 6 (by kernel_rfl);clear hd;dsimp only;rw [d6];have q0 := (HX.out.below hb).n3;go_wp2_with fail;exact pS rfl (by simp)
  ·
   intro f w1 hb hd;clear hd;dsimp only;go_wp2_with fail;exact pS rfl (by simp)
  ·
   intro f w1 hb hd;have d8 : f 8 = (.pointer (some ⟨w.heap.size, 4, none⟩)) := hd 8 (by kernel_rfl);clear hd;dsimp only;rw [d8];have zo := HX.out.below hb;obtain ⟨q0, q1, q2, q3, q4, q5, q6, q7, q8, q9, AY, AZ, A0, A1⟩ := zo.q;clear zo;go_wp2_with fail;exact pS rfl (by simp)
  ·
   intro f w1 hb hd;have d9 : f 9 = (yA s L G) := hd 9 (by kernel_rfl);clear hd;dsimp only;rw [d9];go_wp2_with fail;refine (zHv s L G w1).mono ?_;rintro e w9 ⟨rfl, fT⟩;go_wp2_with fail;exact pT rfl (by simp) fT
  intro f w1 hb hd;have d1 : f 1 = (.int .i64 n) := hd 1 (by kernel_rfl);have d3 : f 3 = (.int .i64 r) := hd 3 (by kernel_rfl);have d5 : f 5 = (.int .i64 md) := hd 5 (by kernel_rfl);have d7 : f 7 = (.int .i64 z) := hd 7 (by kernel_rfl);have d10 : f 10 = (yA s L G) := hd 10 (by kernel_rfl);clear hd;dsimp only;rw [d1];rw [d3];rw [d5];rw [d7];rw [d10];go_wp2_with fail;exact pS rfl (by simp)
 intro f w5 hb hd jc;clear jc;have d11 : f 11 = (za n r md z s L G) := hd 11 (show 11 < 12 by decide)
 try dsimp only
 rw [d11];clear hd d11;generalize f 0 = Ag, f 1 = sW, f 2 = sX, f 3 = sY, f 4 = sZ, f 5 = s6, f 6 = Ah, f 7 = CH, f 8 = JL, f 9 = Eh, f 10 = t_;clear f;have HY := zh (HR.out.below hb);have gp := zh (zA HB.out hb);clear hb;have rf := HY.out.f;obtain ⟨r0, r1, r2, r3, r4, r5, r6, r7, r8, r9, lM, lr, l7, mP⟩ := HY.out.q;go_wp2_with fail;change bodyPost _ _ _ _ _ (pts w5 (w.heap.size + 1) (zL n r md z s L G));have hby := HY.out.all n r md z s L G;have ek := zh (zD (B := w.heap.size) (b := w.heap.size + 1) (by omega) (zL n r md z s L G) gp.out);generalize pts w5 (w.heap.size + 1) (zL n r md z s L G) = V at *;exact aw (v := za n r md z s L G) (by simp [results, Tryz.results73, go_sem, hby.q]) rfl ⟨rfl, ek.out⟩
theorem zHF (i l : Int) (r : Bool) (a : Option Addr) (n c : Nat) (L : List GP) (w : World) (h : fq w (.slice a n c) L) (hn : n ≤ 1000000) :
  Calls Tryz.prog 23 #[zZ i l r a n c] w fun e w' => (∃ a' c', e = .returned (zZ i l r a' n c') ∧ fq w' (.slice a' n c') L) ∧ Below w.heap.size w w' := by
 have fR : L.length = n := by
  obtain ⟨_, _, e, _⟩ := h.shape;injection e with _ e _; exact e.symm
 have HR := zh h;have HMm := zh (show ∀ k, k < n → pat L k ∈ L from fun k hk => yd (by omega));have TX := zh (show ∀ k, k < n → (L.take (k + 1)).flatMap gU = (L.take k).flatMap gU ++ gU (pat L k) from fun k hk => Yd L k (by omega));have TY := zh (show L.take n = L from aR (by omega));have iN := zh fR;have hcap : n ≤ 9223372036854775807 := by omega
 clear h fR
 go_enter Tryz.func23, Tryz.ntmps23
 go_upto_region 1 with fail;change Code.wp _ _ _ _ ((w.alloc (.cells (zK i l r a n c) 31)).alloc (.cells (zK 0 0 false none 0 0) 27));obtain ⟨W0, hW0, fc, hbr, fB, sV⟩ := Yb w i l r a n c 31 27;rw [hW0];clear hW0;have k0 := fc.c0;have k1 := fc.c1;have k2 := fc.c2;have jM := zh fc;have jO := zh hbr;have eD := zh fB;have hsz := sV;clear fc hbr fB sV;go_upto_region 2 with fail;clear k0 k1 k2;change Code.wp _ _ _ _ (W0.alloc (.cells (zK i l r none 0 0) 27));have eH := zN W0 i l r none 0 0 27;have HO := zh (eT.new W0 i l r none 0 0 27);have HX := zh (jM.out.below eH);have lR := zh (jO.out.below eH);have HB := zh (zA eD.out eH);clear eH jM jO eD;generalize W0.alloc (.cells (zK i l r none 0 0) 27) = W1 at *;rw [hsz] at HO;clear hsz;clear W0;have hlo := HO.out.lt;have k3 := HX.out.c3;go_wp2_with fail;clear k3
 go_loopw [16] (fun iv V => ∃ (k : Nat) (a' : Option Addr) (c' : Nat), iv = .int .i64 (k : Int) ∧ k ≤ n ∧ Hid (V.ownsRow W1.heap.size 38 14 (.slice a' k c') k ((L.take k).flatMap gU)) ∧ Hid (eT V (w.heap.size + 2) i l r a' k c') ∧ Hid (eT V (w.heap.size + 1) 0 0 false none 0 0) ∧ Hid (Below w.heap.size w V) ∧ Hid (W1.heap.size ≤ V.heap.size)) (fun iv _ => n - (intOf iv).toNat)
 case atStart => exact ⟨0, none, 0, rfl, au _, zh (aU _ _ _ _), HO, lR, HB, zh (ai _)⟩
 clear HO lR HB HX;obtain ⟨k, a', c', rfl, hk, pd, HO, lR, HB, iC⟩ := hrel
 by_cases hlt : k < n
 ·
  have i1 : (k : Int) < (n : Int) := by omega
  have hR := HR.out.below HB.out;obtain ⟨b, off, rfl, hg⟩ := hR.at hlt;have hfl := TX.out k hlt;clear hR;generalize pat L k = p at *;obtain ⟨⟨num, rev, md, sz, ⟨fs, LV, GA⟩⟩, s⟩ := p
  try dsimp only at hfl
  obtain ⟨g0, g1, g2, g3, g4, g5, g6, g7, g8, g9, g10, g11, g12, g13⟩ := hg
  try dsimp only at g0 g1 g2 g3 g4 g5 g6 g7 g8 g9 g10 g11 g12 g13
  go_upto_region 5 with fail;clear g0 g1 g2 g3 g4 g5 g6 g7 g8 g9 g10 g11 g12 g13;change Code.wp _ _ _ _ (wr.alloc (.cells (zW num rev md sz s LV GA) 113));have eH := zQ wr num rev md sz s LV GA 113;have HG := zh (eA.new wr num rev md sz s LV GA 113);replace pd := zh (zH pd.out eH);replace HO := zh (HO.out.below eH);replace lR := zh (lR.out.below eH);replace HB := zh (zA HB.out eH);replace iC := zh (ak iC.out eH.size);clear eH;generalize wr.alloc (.cells (zW num rev md sz s LV GA) 113) = v0 at *;generalize wr.heap.size = bg at *;have I5 := zh hfl;have jm := zh (k7 ((⟨num, rev, md, sz, ⟨fs, LV, GA⟩⟩ : Gn), s));clear hfl
  refine yO [eR (.pointer (some ⟨w.heap.size + 2, 3, none⟩)), eR (.slice a' k c'), eR (za num rev md sz s LV GA), eR (za num rev md sz s LV GA), Yc ((⟨num, rev, md, sz, ⟨fs, LV, GA⟩⟩ : Gn), s)] [] 29 (by kernel_rfl) (by kernel_rfl) (by rfl) (by kernel_rfl) (fun f => by simp [fA, zX, Act.put]; exact rfl) ?_ ?_
  ·
   refine ⟨?_, ?_, ?_, ?_, ?_, trivial⟩
   ·
    intro f w1 hb hd;clear hd;dsimp only;go_wp2_with fail;exact pS rfl (by simp)
   ·
    intro f w1 hb hd;have d0 : f 0 = (.pointer (some ⟨w.heap.size + 2, 3, none⟩)) := hd 0 (by kernel_rfl);clear hd;dsimp only;rw [d0];have q3 := (HO.out.below hb).c3;go_wp2_with fail;exact pS rfl (by simp)
   ·
    intro f w1 hb hd;clear hd;dsimp only;have zo := HG.out.below hb;obtain ⟨q0, q1, q2, q3, q4, q5, q6, q7, q8, q9, AY, AZ, A0, A1⟩ := zo.q;clear zo;go_wp2_with fail;exact pS rfl (by simp)
   ·
    intro f w1 hb hd;have d2 : f 2 = (za num rev md sz s LV GA) := hd 2 (by kernel_rfl);clear hd;dsimp only;rw [d2];go_wp2_with fail;refine (zIG num rev md sz s LV GA w1).mono ?_;rintro e w9 ⟨rfl, fT⟩;go_wp2_with fail;exact pT rfl (by simp) fT
   intro f w1 hb hd;have d3 : f 3 = (za num rev md sz s LV GA) := hd 3 (by kernel_rfl);clear hd;dsimp only;rw [d3];have Eg := zh (Rd.nu w1.heap.size w1 rfl 14 (gU ((⟨num, rev, md, sz, ⟨fs, LV, GA⟩⟩ : Gn), s)) 38 1 rfl (by decide));have jg := zh ((aj w1.heap.size w1).alloc (ai _) (.cells (gU ((⟨num, rev, md, sz, ⟨fs, LV, GA⟩⟩ : Gn), s)).toArray 38));go_wp2_with fail;refine ⟨rfl, ?_, ?_⟩
   ·
    exact jg.out
   intro t ht;injection ht with ht;subst ht;refine ⟨⟨_, rfl, ?_⟩, fun h => by simp at h⟩;exact Eg.out
  intro f' w5 hb hd jc;clear jc;have d1 : f' 1 = .slice a' k c' := hd 1 (show 1 < 5 by decide);obtain ⟨j4, d4, hr4⟩ := show ∃ j, f' 4 = .slice (some ⟨j, 0, none⟩) 1 1 ∧ Rd w5 14 (.slice (some ⟨j, 0, none⟩) 1 1) 1 (gU ((⟨num, rev, md, sz, ⟨fs, LV, GA⟩⟩ : Gn), s)) from hd 4 (show 4 < 5 by decide)
  try dsimp only
  rw [d1, d4];clear hd d1 d4;generalize f' 0 = z0;generalize f' 2 = z2;generalize f' 3 = z3;clear f';have fF := zH pd.out hb;have pE := ak iC.out hb.size;have I6 := HO.out.below hb;have I7 := lR.out.below hb;have I8 := zA HB.out hb;refine zd rfl (.tmp 21) (.tmp 24) 25 rfl RO W1.heap.size rfl fF rfl hr4 jm.out (by unfold maxLen; omega) (by omega) pE ?_;intro v8 w8 fD gM _;obtain ⟨ra, rc, rfl, _⟩ := zO fD;rw [← I5.out] at fD;have A8 := I6.rK gM (Og fF hlo);have I9 := I7.rK gM (Og fF (show w.heap.size + 1 < W1.heap.size by omega));have I_ := I8.trans ((zM (aj W1.heap.size w5) fF pE gM).mono (show w.heap.size ≤ W1.heap.size by omega));have Ja := ak pE gM.size;have q3 := A8.c3;have qf := A8.f;go_wp2_with fail
  exact ⟨⟨k + 1, ra, rc, by go_num, by omega, zh (xw (b := w.heap.size + 2) hlo fD [(3, .slice ra (k + 1) rc)]), zh (A8.Cb ra (k + 1) rc), zh (I9.eu (d := w.heap.size + 2) (by omega) [(3, .slice ra (k + 1) rc)]), zh (zD (B := w.heap.size) (b := w.heap.size + 2) (by omega) [(3, .slice ra (k + 1) rc)] I_), zh (show W1.heap.size ≤ (pts w8 (w.heap.size + 2) [(3, .slice ra (k + 1) rc)]).heap.size by rw [wC]; exact Ja)⟩, by simp [intOf]; omega⟩
 have i1 : ¬ (k : Int) < (n : Int) := by omega
 obtain rfl : k = n := by omega
 rw [TY.out] at pd;obtain ⟨k0, k1, k2, k3⟩ := HO.out.q;have pq : w.heap.size + 1 < W1.heap.size := by omega
 obtain ⟨z0, z1, z2, z3⟩ := lR.out.q;have zf := lR.out.f;go_wp2_with fail;change bodyPost _ _ _ _ _ (pts wr (w.heap.size + 1) (zJ i l r a' k c'));have rZ := zh (show fq (pts wr (w.heap.size + 1) (zJ i l r a' k c')) (.slice a' k c') L from uz (xw (b := w.heap.size + 1) (by omega) pd.out _) iN.out.symm (fun p hp => (HR.out.m p hp).below (zD (B := w.heap.size) (b := w.heap.size + 1) (by omega) (zJ i l r a' k c') HB.out)));have hby := lR.out.all i l r a' k c';have ek := zh (zD (B := w.heap.size) (b := (w.heap.size + 1)) (by omega) (zJ i l r a' k c') HB.out);generalize pts wr (w.heap.size + 1) (zJ i l r a' k c') = V at *;exact aw (v := zZ i l r a' k c') (by simp [results, Tryz.results23, go_sem, hby.c0, hby.c1, hby.c2, hby.c3]) rfl (⟨⟨a', c', rfl, rZ.out⟩, ek.out⟩)
theorem zBt (i l : Int) (r : Bool) (a : Option Addr) (n c : Nat) (L : List GP) (w : World) (h : fq w (.slice a n c) L) (hn : n ≤ 1000000) :
  Calls Tryz.prog 33 #[zZ i l r a n c] w fun e w' => (∃ a' c', e = .returned (zZ i l r a' n c') ∧ fq w' (.slice a' n c') L) ∧ Below w.heap.size w w' := by
 have fR : L.length = n := by
  obtain ⟨_, _, e, _⟩ := h.shape;injection e with _ e _; exact e.symm
 have HR := zh h;have HMm := zh (show ∀ k, k < n → pat L k ∈ L from fun k hk => yd (by omega));have TX := zh (show ∀ k, k < n → (L.take (k + 1)).flatMap gU = (L.take k).flatMap gU ++ gU (pat L k) from fun k hk => Yd L k (by omega));have TY := zh (show L.take n = L from aR (by omega));have iN := zh fR;have hcap : n ≤ 9223372036854775807 := by omega
 clear h fR
 go_enter Tryz.func33, Tryz.ntmps33
 go_upto_region 1 with fail;change Code.wp _ _ _ _ ((w.alloc (.cells (zK i l r a n c) 27)).alloc (.cells (zK 0 0 false none 0 0) 31));obtain ⟨W0, hW0, fc, hbr, fB, sV⟩ := Yb w i l r a n c 27 31;rw [hW0];clear hW0;have k0 := fc.c0;have k1 := fc.c1;have k2 := fc.c2;have jM := zh fc;have jO := zh hbr;have eD := zh fB;have hsz := sV;clear fc hbr fB sV;go_upto_region 2 with fail;clear k0 k1 k2;change Code.wp _ _ _ _ (W0.alloc (.cells (zK i l r none 0 0) 31));have eH := zN W0 i l r none 0 0 31;have HO := zh (eT.new W0 i l r none 0 0 31);have HX := zh (jM.out.below eH);have lR := zh (jO.out.below eH);have HB := zh (zA eD.out eH);clear eH jM jO eD;generalize W0.alloc (.cells (zK i l r none 0 0) 31) = W1 at *;rw [hsz] at HO;clear hsz;clear W0;have hlo := HO.out.lt;have k3 := HX.out.c3;go_wp2_with fail;clear k3
 go_loopw [16] (fun iv V => ∃ (k : Nat) (a' : Option Addr) (c' : Nat), iv = .int .i64 (k : Int) ∧ k ≤ n ∧ Hid (V.ownsRow W1.heap.size 113 14 (.slice a' k c') k ((L.take k).flatMap gU)) ∧ Hid (eT V (w.heap.size + 2) i l r a' k c') ∧ Hid (eT V (w.heap.size + 1) 0 0 false none 0 0) ∧ Hid (Below w.heap.size w V) ∧ Hid (W1.heap.size ≤ V.heap.size)) (fun iv _ => n - (intOf iv).toNat)
 case atStart => exact ⟨0, none, 0, rfl, au _, zh (aU _ _ _ _), HO, lR, HB, zh (ai _)⟩
 clear HO lR HB HX;obtain ⟨k, a', c', rfl, hk, pd, HO, lR, HB, iC⟩ := hrel
 by_cases hlt : k < n
 ·
  have i1 : (k : Int) < (n : Int) := by omega
  have hR := HR.out.below HB.out;obtain ⟨b, off, rfl, hg⟩ := hR.at hlt;have hfl := TX.out k hlt;clear hR;generalize pat L k = p at *;obtain ⟨⟨num, rev, md, sz, ⟨fs, LV, GA⟩⟩, s⟩ := p
  try dsimp only at hfl
  obtain ⟨g0, g1, g2, g3, g4, g5, g6, g7, g8, g9, g10, g11, g12, g13⟩ := hg
  try dsimp only at g0 g1 g2 g3 g4 g5 g6 g7 g8 g9 g10 g11 g12 g13
  go_upto_region 5 with fail;clear g0 g1 g2 g3 g4 g5 g6 g7 g8 g9 g10 g11 g12 g13;change Code.wp _ _ _ _ (wr.alloc (.cells (zW num rev md sz s LV GA) 38));have eH := zQ wr num rev md sz s LV GA 38;have HG := zh (eA.new wr num rev md sz s LV GA 38);replace pd := zh (zH pd.out eH);replace HO := zh (HO.out.below eH);replace lR := zh (lR.out.below eH);replace HB := zh (zA HB.out eH);replace iC := zh (ak iC.out eH.size);clear eH;generalize wr.alloc (.cells (zW num rev md sz s LV GA) 38) = v0 at *;generalize wr.heap.size = bg at *;have I5 := zh hfl;have jm := zh (k7 ((⟨num, rev, md, sz, ⟨fs, LV, GA⟩⟩ : Gn), s));clear hfl
  refine yO [eR (.pointer (some ⟨w.heap.size + 2, 3, none⟩)), eR (.slice a' k c'), eR (za num rev md sz s LV GA), eR (za num rev md sz s LV GA), Yc ((⟨num, rev, md, sz, ⟨fs, LV, GA⟩⟩ : Gn), s)] [] 29 (by kernel_rfl) (by kernel_rfl) (by rfl) (by kernel_rfl) (fun f => by simp [fA, zX, Act.put]; exact rfl) ?_ ?_
  ·
   refine ⟨?_, ?_, ?_, ?_, ?_, trivial⟩
   ·
    intro f w1 hb hd;clear hd;dsimp only;go_wp2_with fail;exact pS rfl (by simp)
   ·
    intro f w1 hb hd;have d0 : f 0 = (.pointer (some ⟨w.heap.size + 2, 3, none⟩)) := hd 0 (by kernel_rfl);clear hd;dsimp only;rw [d0];have q3 := (HO.out.below hb).c3;go_wp2_with fail;exact pS rfl (by simp)
   ·
    intro f w1 hb hd;clear hd;dsimp only;have zo := HG.out.below hb;obtain ⟨q0, q1, q2, q3, q4, q5, q6, q7, q8, q9, AY, AZ, A0, A1⟩ := zo.q;clear zo;go_wp2_with fail;exact pS rfl (by simp)
   ·
    intro f w1 hb hd;have d2 : f 2 = (za num rev md sz s LV GA) := hd 2 (by kernel_rfl);clear hd;dsimp only;rw [d2];go_wp2_with fail;refine (zHI num rev md sz s LV GA w1).mono ?_;rintro e w9 ⟨rfl, fT⟩;go_wp2_with fail;exact pT rfl (by simp) fT
   intro f w1 hb hd;have d3 : f 3 = (za num rev md sz s LV GA) := hd 3 (by kernel_rfl);clear hd;dsimp only;rw [d3];have Eg := zh (Rd.nu w1.heap.size w1 rfl 14 (gU ((⟨num, rev, md, sz, ⟨fs, LV, GA⟩⟩ : Gn), s)) 113 1 rfl (by decide));have jg := zh ((aj w1.heap.size w1).alloc (ai _) (.cells (gU ((⟨num, rev, md, sz, ⟨fs, LV, GA⟩⟩ : Gn), s)).toArray 113));go_wp2_with fail;refine ⟨rfl, ?_, ?_⟩
   ·
    exact jg.out
   intro t ht;injection ht with ht;subst ht;refine ⟨⟨_, rfl, ?_⟩, fun h => by simp at h⟩;exact Eg.out
  intro f' w5 hb hd jc;clear jc;have d1 : f' 1 = .slice a' k c' := hd 1 (show 1 < 5 by decide);obtain ⟨j4, d4, hr4⟩ := show ∃ j, f' 4 = .slice (some ⟨j, 0, none⟩) 1 1 ∧ Rd w5 14 (.slice (some ⟨j, 0, none⟩) 1 1) 1 (gU ((⟨num, rev, md, sz, ⟨fs, LV, GA⟩⟩ : Gn), s)) from hd 4 (show 4 < 5 by decide)
  try dsimp only
  rw [d1, d4];clear hd d1 d4;generalize f' 0 = z0;generalize f' 2 = z2;generalize f' 3 = z3;clear f';have fF := zH pd.out hb;have pE := ak iC.out hb.size;have I6 := HO.out.below hb;have I7 := lR.out.below hb;have I8 := zA HB.out hb;refine zd rfl (.tmp 21) (.tmp 24) 29 rfl Lu W1.heap.size rfl fF rfl hr4 jm.out (by unfold maxLen; omega) (by omega) pE ?_;intro v8 w8 fD gM _;obtain ⟨ra, rc, rfl, _⟩ := zO fD;rw [← I5.out] at fD;have A8 := I6.rK gM (Og fF hlo);have I9 := I7.rK gM (Og fF (show w.heap.size + 1 < W1.heap.size by omega));have I_ := I8.trans ((zM (aj W1.heap.size w5) fF pE gM).mono (show w.heap.size ≤ W1.heap.size by omega));have Ja := ak pE gM.size;have q3 := A8.c3;have qf := A8.f;go_wp2_with fail
  exact ⟨⟨k + 1, ra, rc, by go_num, by omega, zh (xw (b := w.heap.size + 2) hlo fD [(3, .slice ra (k + 1) rc)]), zh (A8.Cb ra (k + 1) rc), zh (I9.eu (d := w.heap.size + 2) (by omega) [(3, .slice ra (k + 1) rc)]), zh (zD (B := w.heap.size) (b := w.heap.size + 2) (by omega) [(3, .slice ra (k + 1) rc)] I_), zh (show W1.heap.size ≤ (pts w8 (w.heap.size + 2) [(3, .slice ra (k + 1) rc)]).heap.size by rw [wC]; exact Ja)⟩, by simp [intOf]; omega⟩
 have i1 : ¬ (k : Int) < (n : Int) := by omega
 obtain rfl : k = n := by omega
 rw [TY.out] at pd;obtain ⟨k0, k1, k2, k3⟩ := HO.out.q;have pq : w.heap.size + 1 < W1.heap.size := by omega
 obtain ⟨z0, z1, z2, z3⟩ := lR.out.q;have zf := lR.out.f;go_wp2_with fail;change bodyPost _ _ _ _ _ (pts wr (w.heap.size + 1) (zJ i l r a' k c'));have rZ := zh (show fq (pts wr (w.heap.size + 1) (zJ i l r a' k c')) (.slice a' k c') L from uz (xw (b := w.heap.size + 1) (by omega) pd.out _) iN.out.symm (fun p hp => (HR.out.m p hp).below (zD (B := w.heap.size) (b := w.heap.size + 1) (by omega) (zJ i l r a' k c') HB.out)));have hby := lR.out.all i l r a' k c';have ek := zh (zD (B := w.heap.size) (b := (w.heap.size + 1)) (by omega) (zJ i l r a' k c') HB.out);generalize pts wr (w.heap.size + 1) (zJ i l r a' k c') = V at *;exact aw (v := zZ i l r a' k c') (by simp [results, Tryz.results33, go_sem, hby.c0, hby.c1, hby.c2, hby.c3]) rfl (⟨⟨a', c', rfl, rZ.out⟩, ek.out⟩)
end Go.Proofs.YtcgfilmmokmdjaaGreat
