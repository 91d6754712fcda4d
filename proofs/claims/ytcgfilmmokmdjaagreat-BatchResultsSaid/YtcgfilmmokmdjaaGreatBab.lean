/- A part of the walk. -/
import Derived.Test.YtcgfilmmokmdjaaGreatQAP
set_option maxRecDepth 100000
set_option maxHeartbeats 32000000
namespace Go.Proofs.YtcgfilmmokmdjaaGreat
open Go.RowKit
theorem zIX (s : Sl) (L G : Int) (w : World) : Calls Tryz.prog 109 #[yA s L G] w fun e w' => e = .returned (yA s L G) ∧ Below w.heap.size w w' := by
 obtain ⟨W0, eR⟩ : ∃ W0, (w.alloc (.cells (yN s L G) 111)).alloc (.cells (yN Sl.nil 0 0) 36) = W0 := ⟨_, rfl⟩
 have HX := zh (show ew W0 w.heap.size s L G from eR ▸ ((ew.new w s L G 111).below (zP _ Sl.nil 0 0 36)));have HY := zh (show ew W0 (w.heap.size + 1) Sl.nil 0 0 from eR ▸ (by have := ew.new (w.alloc (.cells (yN s L G) 111)) Sl.nil 0 0 36; simpa using this));have HB := zh (show Below w.heap.size w W0 from eR ▸ zA (zP w s L G 111) (zP _ Sl.nil 0 0 36));have oQ := zh eR;clear eR
 go_enter Tryz.func109, Tryz.ntmps109
 go_upto_region 1 with fail;have eR := oQ.out;rw [show (w.alloc (.cells (yN s L G) 111)).alloc (.cells #[.slice none 0 0, .slice none 0 0, .slice none 0 0, .slice none 0 0, .slice none 0 0, .slice none 0 0, .slice none 0 0, .slice none 0 0, .int .i64 0, .int .i64 0] 36) = W0 from eR];clear eR oQ;obtain ⟨c0, c1, c2, c3, c4, c5, c6, c7, c8, c9⟩ := HX.out.q;have cF := HX.out.f;obtain ⟨d0, d1, d2, d3, d4, d5, d6, d7, d8, d9⟩ := HY.out.q;have dF := HY.out.f;go_wp2_with fail;change bodyPost _ _ _ _ _ (yC W0 (w.heap.size + 1) s L G);have hby := HY.out.all s L G;have ea := zh (zY HB.out (show w.heap.size ≤ w.heap.size + 1 by omega) s L G);generalize yC W0 (w.heap.size + 1) s L G = V9 at *;exact aw (v := yA s L G) (by simp [results, Tryz.results109, go_sem, hby.q]) rfl ⟨rfl, ea.out⟩
theorem zHv (s : Sl) (L G : Int) (w : World) : Calls Tryz.prog 114 #[yA s L G] w fun e w' => e = .returned (yA s L G) ∧ Below w.heap.size w w' := by
 obtain ⟨W0, eR⟩ : ∃ W0, (w.alloc (.cells (yN s L G) 36)).alloc (.cells (yN Sl.nil 0 0) 111) = W0 := ⟨_, rfl⟩
 have HX := zh (show ew W0 w.heap.size s L G from eR ▸ ((ew.new w s L G 36).below (zP _ Sl.nil 0 0 111)));have HY := zh (show ew W0 (w.heap.size + 1) Sl.nil 0 0 from eR ▸ (by have := ew.new (w.alloc (.cells (yN s L G) 36)) Sl.nil 0 0 111; simpa using this));have HB := zh (show Below w.heap.size w W0 from eR ▸ zA (zP w s L G 36) (zP _ Sl.nil 0 0 111));have oQ := zh eR;clear eR
 go_enter Tryz.func114, Tryz.ntmps114
 go_upto_region 1 with fail;have eR := oQ.out;rw [show (w.alloc (.cells (yN s L G) 36)).alloc (.cells #[.slice none 0 0, .slice none 0 0, .slice none 0 0, .slice none 0 0, .slice none 0 0, .slice none 0 0, .slice none 0 0, .slice none 0 0, .int .i64 0, .int .i64 0] 111) = W0 from eR];clear eR oQ;obtain ⟨c0, c1, c2, c3, c4, c5, c6, c7, c8, c9⟩ := HX.out.q;have cF := HX.out.f;obtain ⟨d0, d1, d2, d3, d4, d5, d6, d7, d8, d9⟩ := HY.out.q;have dF := HY.out.f;go_wp2_with fail;change bodyPost _ _ _ _ _ (yC W0 (w.heap.size + 1) s L G);have hby := HY.out.all s L G;have ea := zh (zY HB.out (show w.heap.size ≤ w.heap.size + 1 by omega) s L G);generalize yC W0 (w.heap.size + 1) s L G = V9 at *;exact aw (v := yA s L G) (by simp [results, Tryz.results114, go_sem, hby.q]) rfl ⟨rfl, ea.out⟩
theorem zIG (n r md z : Int) (s : Sl) (L G : Int) (w : World) : Calls Tryz.prog 67 #[za n r md z s L G] w fun e w' => e = .returned (za n r md z s L G) ∧ Below w.heap.size w w' := by
 obtain ⟨W0, eR⟩ : ∃ W, w.alloc (.cells (zW n r md z s L G) 113) = W := ⟨_, rfl⟩
 have jM := zh (show eu W0 w.heap.size n r md z s L G from eR ▸ eu.new w n r md z s L G 113);have eA := zh (show Below w.heap.size w W0 from eR ▸ zQ w n r md z s L G 113);have HR := zh (eu.new W0 0 0 0 0 Sl.nil 0 0 38);have HX := zh (jM.out.below (zQ W0 0 0 0 0 Sl.nil 0 0 38));have HB := zh (zA eA.out (zQ W0 0 0 0 0 Sl.nil 0 0 38));have hlz : w.heap.size ≤ W0.heap.size := eA.out.size;have rC : W0.heap.size = w.heap.size + 1 := by rw [← eR]; simp
 go_enter Tryz.func67, Tryz.ntmps67
 go_upto_region 1 with fail;change Code.wp _ _ _ _ (W0.alloc (.cells (zW 0 0 0 0 Sl.nil 0 0) 38));clear eR jM eA;obtain ⟨W, hW⟩ : ∃ W, W0.alloc (.cells (zW 0 0 0 0 Sl.nil 0 0) 38) = W := ⟨_, rfl⟩
 rw [hW] at HX HB HR ⊢;clear hW;rw [rC] at HR;clear rC;refine yO [eP (.pointer (some ⟨w.heap.size, 0, none⟩)), eP (.int .i64 n), eP (.pointer (some ⟨w.heap.size, 1, none⟩)), eP (.int .i64 r), eP (.pointer (some ⟨w.heap.size, 2, none⟩)), eP (.int .i64 md), eP (.pointer (some ⟨w.heap.size, 3, none⟩)), eP (.int .i64 z), eP (.pointer (some ⟨w.heap.size, 4, none⟩)), eP (yA s L G), eP (yA s L G), eP (za n r md z s L G)] [] 15 (by kernel_rfl) (by kernel_rfl) (by rfl) (by kernel_rfl) (fun f => by simp [fq, zX, Act.put]; exact rfl) ?_ ?_
 ·
  refine ⟨?_, ?_, ?_, ?_, ?_, ?_, ?_, ?_, ?_, ?_, ?_, ?_, trivial⟩
  ·
   intro f w1 hb hd;clear hd;dsimp only;go_wp2_with fail;exact pS rfl (by simp)
  ·
   intro f w1 hb hd;have d0 : f 0 = (.pointer (some ⟨w.heap.size, 0, none⟩)) := hd 0 (by kernel_rfl);clear hd;dsimp only;rw [d0];have q0 := (HX.out.below hb).n0;go_wp2_with fail;exact pS rfl (by simp)
  ·
   intro f w1 hb hd;clear hd;dsimp only;go_wp2_with fail;exact pS rfl (by simp)
  ·
   intro f w1 hb hd;have d2 : f 2 = (.pointer (some ⟨w.heap.size, 1, none⟩)) := hd 2 (by kernel_rfl);clear hd;dsimp only;rw [d2];have q0 := (HX.out.below hb).n1;go_wp2_with fail;exact pS rfl (by simp)
  ·
   intro f w1 hb hd;clear hd;dsimp only;go_wp2_with fail;exact pS rfl (by simp)
  ·
   intro f w1 hb hd;have d4 : f 4 = (.pointer (some ⟨w.heap.size, 2, none⟩)) := hd 4 (by kernel_rfl);clear hd;dsimp only;rw [d4];have q0 := (HX.out.below hb).n2;go_wp2_with fail;exact pS rfl (by simp)
  ·
   intro f w1 hb hd;clear hd;dsimp only;go_wp2_with fail;exact pS rfl (by simp)
  ·
   intro f w1 hb hd;have d6 : f 6 = (.pointer (some ⟨w.heap.size, 3, none⟩)) := hd 6 (by kernel_rfl);clear hd;dsimp only;rw [d6];have q0 := (HX.out.below hb).n3;go_wp2_with fail;exact pS rfl (by simp)
  ·
   intro f w1 hb hd;clear hd;dsimp only;go_wp2_with fail;exact pS rfl (by simp)
  ·
   intro f w1 hb hd;have d8 : f 8 = (.pointer (some ⟨w.heap.size, 4, none⟩)) := hd 8 (by kernel_rfl);clear hd;dsimp only;rw [d8];have zo := HX.out.below hb;obtain ⟨q0, q1, q2, q3, q4, q5, q6, q7, q8, q9, AY, AZ, A0, A1⟩ := zo.q;clear zo;go_wp2_with fail;exact pS rfl (by simp)
  ·
   intro f w1 hb hd;have d9 : f 9 = (yA s L G) := hd 9 (by kernel_rfl);clear hd;dsimp only;rw [d9];go_wp2_with fail;refine (zIX s L G w1).mono ?_;rintro e w9 ⟨rfl, fP⟩;go_wp2_with fail;exact pT rfl (by simp) fP
  intro f w1 hb hd;have d1 : f 1 = (.int .i64 n) := hd 1 (by kernel_rfl);have d3 : f 3 = (.int .i64 r) := hd 3 (by kernel_rfl);have d5 : f 5 = (.int .i64 md) := hd 5 (by kernel_rfl);have d7 : f 7 = (.int .i64 z) := hd 7 (by kernel_rfl);have d10 : f 10 = (yA s L G) := hd 10 (by kernel_rfl);clear hd;dsimp only;rw [d1];rw [d3];rw [d5];rw [d7];rw [d10];go_wp2_with fail;exact pS rfl (by simp)
 intro f w5 hb hd jc;clear jc;have d11 : f 11 = (za n r md z s L G) := hd 11 (show 11 < 12 by decide)
 try dsimp only
 rw [d11];clear hd d11;generalize f 0 = Ai, f 1 = sX, f 2 = sY, f 3 = sZ, f 4 = s6, f 5 = s_, f 6 = Aj, f 7 = CO, f 8 = J5, f 9 = El, f 10 = t_;clear f;have HY := zh (HR.out.below hb);have gj := zh (zA HB.out hb);clear hb;have rf := HY.out.f;obtain ⟨r0, r1, r2, r3, r4, r5, r6, r7, r8, r9, lK, lq, l6, mO⟩ := HY.out.q;go_wp2_with fail;change bodyPost _ _ _ _ _ (pts w5 (w.heap.size + 1) (zL n r md z s L G));have hby := HY.out.all n r md z s L G;have ea := zh (zD (B := w.heap.size) (b := w.heap.size + 1) (by omega) (zL n r md z s L G) gj.out);generalize pts w5 (w.heap.size + 1) (zL n r md z s L G) = V at *;exact aw (v := za n r md z s L G) (by simp [results, Tryz.results67, go_sem, hby.q]) rfl ⟨rfl, ea.out⟩
theorem zHI (n r md z : Int) (s : Sl) (L G : Int) (w : World) : Calls Tryz.prog 73 #[za n r md z s L G] w fun e w' => e = .returned (za n r md z s L G) ∧ Below w.heap.size w w' := by
 obtain ⟨W0, eR⟩ : ∃ W, w.alloc (.cells (zW n r md z s L G) 38) = W := ⟨_, rfl⟩
 have jM := zh (show eu W0 w.heap.size n r md z s L G from eR ▸ eu.new w n r md z s L G 38);have eA := zh (show Below w.heap.size w W0 from eR ▸ zQ w n r md z s L G 38);have HR := zh (eu.new W0 0 0 0 0 Sl.nil 0 0 113);have HX := zh (jM.out.below (zQ W0 0 0 0 0 Sl.nil 0 0 113));have HB := zh (zA eA.out (zQ W0 0 0 0 0 Sl.nil 0 0 113));have hlz : w.heap.size ≤ W0.heap.size := eA.out.size;have rC : W0.heap.size = w.heap.size + 1 := by rw [← eR]; simp
 go_enter Tryz.func73, Tryz.ntmps73
 go_upto_region 1 with fail;change Code.wp _ _ _ _ (W0.alloc (.cells (zW 0 0 0 0 Sl.nil 0 0) 113));clear eR jM eA;obtain ⟨W, hW⟩ : ∃ W, W0.alloc (.cells (zW 0 0 0 0 Sl.nil 0 0) 113) = W := ⟨_, rfl⟩
 rw [hW] at HX HB HR ⊢;clear hW;rw [rC] at HR;clear rC;refine yO [eP (.pointer (some ⟨w.heap.size, 0, none⟩)), eP (.int .i64 n), eP (.pointer (some ⟨w.heap.size, 1, none⟩)), eP (.int .i64 r), eP (.pointer (some ⟨w.heap.size, 2, none⟩)), eP (.int .i64 md), eP (.pointer (some ⟨w.heap.size, 3, none⟩)), eP (.int .i64 z), eP (.pointer (some ⟨w.heap.size, 4, none⟩)), eP (yA s L G), eP (yA s L G), eP (za n r md z s L G)] [] 15 (by kernel_rfl) (by kernel_rfl) (by rfl) (by kernel_rfl) (fun f => by simp [fq, zX, Act.put]; exact rfl) ?_ ?_
 ·
  refine ⟨?_, ?_, ?_, ?_, ?_, ?_, ?_, ?_, ?_, ?_, ?_, ?_, trivial⟩
  ·
   intro f w1 hb hd;clear hd;dsimp only;go_wp2_with fail;exact pS rfl (by simp)
  ·
   intro f w1 hb hd;have d0 : f 0 = (.pointer (some ⟨w.heap.size, 0, none⟩)) := hd 0 (by kernel_rfl);clear hd;dsimp only;rw [d0];have q0 := (HX.out.below hb).n0;go_wp2_with fail;exact pS rfl (by simp)
  ·
   intro f w1 hb hd;clear hd;dsimp only;go_wp2_with fail;exact pS rfl (by simp)
  ·
   intro f w1 hb hd;have d2 : f 2 = (.pointer (some ⟨w.heap.size, 1, none⟩)) := hd 2 (by kernel_rfl);clear hd;dsimp only;rw [d2];have q0 := (HX.out.below hb).n1;go_wp2_with fail;exact pS rfl (by simp)
  ·
   intro f w1 hb hd;clear hd;dsimp only;go_wp2_with fail;exact pS rfl (by simp)
  ·
   intro f w1 hb hd;have d4 : f 4 = (.pointer (some ⟨w.heap.size, 2, none⟩)) := hd 4 (by kernel_rfl);clear hd;dsimp only;rw [d4];have q0 := (HX.out.below hb).n2;go_wp2_with fail;exact pS rfl (by simp)
  ·
   intro f w1 hb hd;clear hd;dsimp only;go_wp2_with fail;exact pS rfl (by simp)
  ·
   intro f w1 hb hd;have d6 : f 6 = (.pointer (some ⟨w.heap.size, 3, none⟩)) := hd 6 (by kernel_rfl);clear hd;dsimp only;rw [d6];have q0 := (HX.out.below hb).n3;go_wp2_with fail;exact pS rfl (by simp)
  ·
   intro f w1 hb hd;clear hd;dsimp only;go_wp2_with fail;exact pS rfl (by simp)
  ·
   intro f w1 hb hd;have d8 : f 8 = (.pointer (some ⟨w.heap.size, 4, none⟩)) := hd 8 (by kernel_rfl);clear hd;dsimp only;rw [d8];have zo := HX.out.below hb;obtain ⟨q0, q1, q2, q3, q4, q5, q6, q7, q8, q9, AY, AZ, A0, A1⟩ := zo.q;clear zo;go_wp2_with fail;exact pS rfl (by simp)
  ·
   intro f w1 hb hd;have d9 : f 9 = (yA s L G) := hd 9 (by kernel_rfl);clear hd;dsimp only;rw [d9];go_wp2_with fail;refine (zHv s L G w1).mono ?_;rintro e w9 ⟨rfl, fP⟩;go_wp2_with fail;exact pT rfl (by simp) fP
  intro f w1 hb hd;have d1 : f 1 = (.int .i64 n) := hd 1 (by kernel_rfl);have d3 : f 3 = (.int .i64 r) := hd 3 (by kernel_rfl);have d5 : f 5 = (.int .i64 md) := hd 5 (by kernel_rfl);have d7 : f 7 = (.int .i64 z) := hd 7 (by kernel_rfl);have d10 : f 10 = (yA s L G) := hd 10 (by kernel_rfl);clear hd;dsimp only;rw [d1];rw [d3];rw [d5];rw [d7];rw [d10];go_wp2_with fail;exact pS rfl (by simp)
 intro f w5 hb hd jc;clear jc;have d11 : f 11 = (za n r md z s L G) := hd 11 (show 11 < 12 by decide)
 try dsimp only
 rw [d11];clear hd d11;generalize f 0 = Ai, f 1 = sX, f 2 = sY, f 3 = sZ, f 4 = s6, f 5 = s_, f 6 = Aj, f 7 = CO, f 8 = J5, f 9 = El, f 10 = t_;clear f;have HY := zh (HR.out.below hb);have gj := zh (zA HB.out hb);clear hb;have rf := HY.out.f;obtain ⟨r0, r1, r2, r3, r4, r5, r6, r7, r8, r9, lK, lq, l6, mO⟩ := HY.out.q;go_wp2_with fail;change bodyPost _ _ _ _ _ (pts w5 (w.heap.size + 1) (zL n r md z s L G));have hby := HY.out.all n r md z s L G;have ea := zh (zD (B := w.heap.size) (b := w.heap.size + 1) (by omega) (zL n r md z s L G) gj.out);generalize pts w5 (w.heap.size + 1) (zL n r md z s L G) = V at *;exact aw (v := za n r md z s L G) (by simp [results, Tryz.results73, go_sem, hby.q]) rfl ⟨rfl, ea.out⟩
theorem zHF (i l : Int) (r : Bool) (a : Option Addr) (n c : Nat) (L : List GP) (w : World) (h : fl w (.slice a n c) L) (hn : n ≤ 1000000) :
  Calls Tryz.prog 23 #[zZ i l r a n c] w fun e w' => (∃ a' c', e = .returned (zZ i l r a' n c') ∧ fl w' (.slice a' n c') L) ∧ Below w.heap.size w w' := by
 have fN : L.length = n := by
  obtain ⟨_, _, e, _⟩ := h.shape;injection e with _ e _; exact e.symm
 have HR := zh h;have HMm := zh (show ∀ k, k < n → pat L k ∈ L from fun k hk => yd (by omega));have Ud := zh (show ∀ k, k < n → (L.take (k + 1)).flatMap gP = (L.take k).flatMap gP ++ gP (pat L k) from fun k hk => Yy L k (by omega));have Ue := zh (show L.take n = L from aS (by omega));have iM := zh fN;have hcap : n ≤ 9223372036854775807 := by omega
 clear h fN
 go_enter Tryz.func23, Tryz.ntmps23
 go_upto_region 1 with fail;change Code.wp _ _ _ _ ((w.alloc (.cells (zK i l r a n c) 31)).alloc (.cells (zK 0 0 false none 0 0) 27));obtain ⟨W0, eR, fa, f_, fu, sW⟩ := Yw w i l r a n c 31 27;rw [eR];clear eR;have k0 := fa.c0;have k1 := fa.c1;have k2 := fa.c2;have jM := zh fa;have jO := zh f_;have eA := zh fu;have hsz := sW;clear fa f_ fu sW;go_upto_region 2 with fail;clear k0 k1 k2;change Code.wp _ _ _ _ (W0.alloc (.cells (zK i l r none 0 0) 27));have eD := zN W0 i l r none 0 0 27;have HO := zh (eQ.new W0 i l r none 0 0 27);have HX := zh (jM.out.below eD);have lN := zh (jO.out.below eD);have HB := zh (zA eA.out eD);clear eD jM jO eA;generalize W0.alloc (.cells (zK i l r none 0 0) 27) = W1 at *;rw [hsz] at HO;clear hsz;clear W0;have hlo := HO.out.lt;have k3 := HX.out.c3;go_wp2_with fail;clear k3
 go_loopw [16] (fun iv V => ∃ (k : Nat) (a' : Option Addr) (c' : Nat), iv = .int .i64 (k : Int) ∧ k ≤ n ∧ Hid (V.ownsRow W1.heap.size 38 14 (.slice a' k c') k ((L.take k).flatMap gP)) ∧ Hid (eQ V (w.heap.size + 2) i l r a' k c') ∧ Hid (eQ V (w.heap.size + 1) 0 0 false none 0 0) ∧ Hid (Below w.heap.size w V) ∧ Hid (W1.heap.size ≤ V.heap.size)) (fun iv _ => n - (intOf iv).toNat)
 case atStart => exact ⟨0, none, 0, rfl, au _, zh (aV _ _ _ _), HO, lN, HB, zh (ai _)⟩
 clear HO lN HB HX;obtain ⟨k, a', c', rfl, hk, o8, HO, lN, HB, iz⟩ := eT
 by_cases hlt : k < n
 ·
  have i1 : (k : Int) < (n : Int) := by omega
  have hR := HR.out.below HB.out;obtain ⟨b, off, rfl, hg⟩ := hR.at hlt;have hfl := Ud.out k hlt;clear hR;generalize pat L k = p at *;obtain ⟨⟨num, rev, md, sz, ⟨fs, LV, GA⟩⟩, s⟩ := p
  try dsimp only at hfl
  obtain ⟨g0, g1, g2, g3, g4, g5, g6, g7, g8, g9, g10, g11, g12, g13⟩ := hg
  try dsimp only at g0 g1 g2 g3 g4 g5 g6 g7 g8 g9 g10 g11 g12 g13
  go_upto_region 5 with fail;clear g0 g1 g2 g3 g4 g5 g6 g7 g8 g9 g10 g11 g12 g13;change Code.wp _ _ _ _ (wr.alloc (.cells (zW num rev md sz s LV GA) 113));have eD := zQ wr num rev md sz s LV GA 113;have HG := zh (eu.new wr num rev md sz s LV GA 113);replace o8 := zh (zH o8.out eD);replace HO := zh (HO.out.below eD);replace lN := zh (lN.out.below eD);replace HB := zh (zA HB.out eD);replace iz := zh (ak iz.out eD.size);clear eD;generalize wr.alloc (.cells (zW num rev md sz s LV GA) 113) = v0 at *;generalize wr.heap.size = bg at *;have Ji := zh hfl;have jm := zh (k7 ((⟨num, rev, md, sz, ⟨fs, LV, GA⟩⟩ : Gn), s));clear hfl
  refine yO [eP (.pointer (some ⟨w.heap.size + 2, 3, none⟩)), eP (.slice a' k c'), eP (za num rev md sz s LV GA), eP (za num rev md sz s LV GA), Yx ((⟨num, rev, md, sz, ⟨fs, LV, GA⟩⟩ : Gn), s)] [] 29 (by kernel_rfl) (by kernel_rfl) (by rfl) (by kernel_rfl) (fun f => by simp [fq, zX, Act.put]; exact rfl) ?_ ?_
  ·
   refine ⟨?_, ?_, ?_, ?_, ?_, trivial⟩
   ·
    intro f w1 hb hd;clear hd;dsimp only;go_wp2_with fail;exact pS rfl (by simp)
   ·
    intro f w1 hb hd;have d0 : f 0 = (.pointer (some ⟨w.heap.size + 2, 3, none⟩)) := hd 0 (by kernel_rfl);clear hd;dsimp only;rw [d0];have q3 := (HO.out.below hb).c3;go_wp2_with fail;exact pS rfl (by simp)
   ·
    intro f w1 hb hd;clear hd;dsimp only;have zo := HG.out.below hb;obtain ⟨q0, q1, q2, q3, q4, q5, q6, q7, q8, q9, AY, AZ, A0, A1⟩ := zo.q;clear zo;go_wp2_with fail;exact pS rfl (by simp)
   ·
    intro f w1 hb hd;have d2 : f 2 = (za num rev md sz s LV GA) := hd 2 (by kernel_rfl);clear hd;dsimp only;rw [d2];go_wp2_with fail;refine (zIG num rev md sz s LV GA w1).mono ?_;rintro e w9 ⟨rfl, fP⟩;go_wp2_with fail;exact pT rfl (by simp) fP
   intro f w1 hb hd;have d3 : f 3 = (za num rev md sz s LV GA) := hd 3 (by kernel_rfl);clear hd;dsimp only;rw [d3];have Ek := zh (Rd.np w1.heap.size w1 rfl 14 (gP ((⟨num, rev, md, sz, ⟨fs, LV, GA⟩⟩ : Gn), s)) 38 1 rfl (by decide));have jg := zh ((aj w1.heap.size w1).alloc (ai _) (.cells (gP ((⟨num, rev, md, sz, ⟨fs, LV, GA⟩⟩ : Gn), s)).toArray 38));go_wp2_with fail;refine ⟨rfl, ?_, ?_⟩
   ·
    exact jg.out
   intro t ht;injection ht with ht;subst ht;refine ⟨⟨_, rfl, ?_⟩, fun h => by simp at h⟩;exact Ek.out
  intro f' w5 hb hd jc;clear jc;have d1 : f' 1 = .slice a' k c' := hd 1 (show 1 < 5 by decide);obtain ⟨j4, d4, Uf⟩ := show ∃ j, f' 4 = .slice (some ⟨j, 0, none⟩) 1 1 ∧ Rd w5 14 (.slice (some ⟨j, 0, none⟩) 1 1) 1 (gP ((⟨num, rev, md, sz, ⟨fs, LV, GA⟩⟩ : Gn), s)) from hd 4 (show 4 < 5 by decide)
  try dsimp only
  rw [d1, d4];clear hd d1 d4;generalize f' 0 = z0;generalize f' 2 = z2;generalize f' 3 = z3;clear f';have fC := zH o8.out hb;have pg := ak iz.out hb.size;have Jj := HO.out.below hb;have Jk := lN.out.below hb;have Jl := zA HB.out hb;refine zd rfl (.tmp 21) (.tmp 24) 25 rfl Sf W1.heap.size rfl fC rfl Uf jm.out (by unfold maxLen; omega) (by omega) pg ?_;intro v8 w8 fA gH _;obtain ⟨ra, rc, rfl, _⟩ := zO fA;rw [← Ji.out] at fA;have A8 := Jj.rL gH (OG fC hlo);have Jm := Jk.rL gH (OG fC (show w.heap.size + 1 < W1.heap.size by omega));have Jn := Jl.trans ((zM (aj W1.heap.size w5) fC pg gH).mono (show w.heap.size ≤ W1.heap.size by omega));have Jo := ak pg gH.size;have q3 := A8.c3;have qf := A8.f;go_wp2_with fail
  exact ⟨⟨k + 1, ra, rc, by go_num, by omega, zh (xw (b := w.heap.size + 2) hlo fA [(3, .slice ra (k + 1) rc)]), zh (A8.Cd ra (k + 1) rc), zh (Jm.ek (d := w.heap.size + 2) (by omega) [(3, .slice ra (k + 1) rc)]), zh (zD (B := w.heap.size) (b := w.heap.size + 2) (by omega) [(3, .slice ra (k + 1) rc)] Jn), zh (show W1.heap.size ≤ (pts w8 (w.heap.size + 2) [(3, .slice ra (k + 1) rc)]).heap.size by rw [wC]; exact Jo)⟩, by simp [intOf]; omega⟩
 have i1 : ¬ (k : Int) < (n : Int) := by omega
 obtain rfl : k = n := by omega
 rw [Ue.out] at o8;obtain ⟨k0, k1, k2, k3⟩ := HO.out.q;have pd : w.heap.size + 1 < W1.heap.size := by omega
 obtain ⟨z0, z1, z2, z3⟩ := lN.out.q;have zf := lN.out.f;go_wp2_with fail;change bodyPost _ _ _ _ _ (pts wr (w.heap.size + 1) (zJ i l r a' k c'));have sq := zh (show fl (pts wr (w.heap.size + 1) (zJ i l r a' k c')) (.slice a' k c') L from uz (xw (b := w.heap.size + 1) (by omega) o8.out _) iM.out.symm (fun p hp => (HR.out.m p hp).below (zD (B := w.heap.size) (b := w.heap.size + 1) (by omega) (zJ i l r a' k c') HB.out)));have hby := lN.out.all i l r a' k c';have ea := zh (zD (B := w.heap.size) (b := (w.heap.size + 1)) (by omega) (zJ i l r a' k c') HB.out);generalize pts wr (w.heap.size + 1) (zJ i l r a' k c') = V at *;exact aw (v := zZ i l r a' k c') (by simp [results, Tryz.results23, go_sem, hby.c0, hby.c1, hby.c2, hby.c3]) rfl (⟨⟨a', c', rfl, sq.out⟩, ea.out⟩)
theorem zBt (i l : Int) (r : Bool) (a : Option Addr) (n c : Nat) (L : List GP) (w : World) (h : fl w (.slice a n c) L) (hn : n ≤ 1000000) :
  Calls Tryz.prog 33 #[zZ i l r a n c] w fun e w' => (∃ a' c', e = .returned (zZ i l r a' n c') ∧ fl w' (.slice a' n c') L) ∧ Below w.heap.size w w' := by
 have fN : L.length = n := by
  obtain ⟨_, _, e, _⟩ := h.shape;injection e with _ e _; exact e.symm
 have HR := zh h;have HMm := zh (show ∀ k, k < n → pat L k ∈ L from fun k hk => yd (by omega));have Ud := zh (show ∀ k, k < n → (L.take (k + 1)).flatMap gP = (L.take k).flatMap gP ++ gP (pat L k) from fun k hk => Yy L k (by omega));have Ue := zh (show L.take n = L from aS (by omega));have iM := zh fN;have hcap : n ≤ 9223372036854775807 := by omega
 clear h fN
 go_enter Tryz.func33, Tryz.ntmps33
 go_upto_region 1 with fail;change Code.wp _ _ _ _ ((w.alloc (.cells (zK i l r a n c) 27)).alloc (.cells (zK 0 0 false none 0 0) 31));obtain ⟨W0, eR, fa, f_, fu, sW⟩ := Yw w i l r a n c 27 31;rw [eR];clear eR;have k0 := fa.c0;have k1 := fa.c1;have k2 := fa.c2;have jM := zh fa;have jO := zh f_;have eA := zh fu;have hsz := sW;clear fa f_ fu sW;go_upto_region 2 with fail;clear k0 k1 k2;change Code.wp _ _ _ _ (W0.alloc (.cells (zK i l r none 0 0) 31));have eD := zN W0 i l r none 0 0 31;have HO := zh (eQ.new W0 i l r none 0 0 31);have HX := zh (jM.out.below eD);have lN := zh (jO.out.below eD);have HB := zh (zA eA.out eD);clear eD jM jO eA;generalize W0.alloc (.cells (zK i l r none 0 0) 31) = W1 at *;rw [hsz] at HO;clear hsz;clear W0;have hlo := HO.out.lt;have k3 := HX.out.c3;go_wp2_with fail;clear k3
 go_loopw [16] (fun iv V => ∃ (k : Nat) (a' : Option Addr) (c' : Nat), iv = .int .i64 (k : Int) ∧ k ≤ n ∧ Hid (V.ownsRow W1.heap.size 113 14 (.slice a' k c') k ((L.take k).flatMap gP)) ∧ Hid (eQ V (w.heap.size + 2) i l r a' k c') ∧ Hid (eQ V (w.heap.size + 1) 0 0 false none 0 0) ∧ Hid (Below w.heap.size w V) ∧ Hid (W1.heap.size ≤ V.heap.size)) (fun iv _ => n - (intOf iv).toNat)
 case atStart => exact ⟨0, none, 0, rfl, au _, zh (aV _ _ _ _), HO, lN, HB, zh (ai _)⟩
 clear HO lN HB HX;obtain ⟨k, a', c', rfl, hk, o8, HO, lN, HB, iz⟩ := eT
 by_cases hlt : k < n
 ·
  have i1 : (k : Int) < (n : Int) := by omega
  have hR := HR.out.below HB.out;obtain ⟨b, off, rfl, hg⟩ := hR.at hlt;have hfl := Ud.out k hlt;clear hR;generalize pat L k = p at *;obtain ⟨⟨num, rev, md, sz, ⟨fs, LV, GA⟩⟩, s⟩ := p
  try dsimp only at hfl
  obtain ⟨g0, g1, g2, g3, g4, g5, g6, g7, g8, g9, g10, g11, g12, g13⟩ := hg
  try dsimp only at g0 g1 g2 g3 g4 g5 g6 g7 g8 g9 g10 g11 g12 g13
  go_upto_region 5 with fail;clear g0 g1 g2 g3 g4 g5 g6 g7 g8 g9 g10 g11 g12 g13;change Code.wp _ _ _ _ (wr.alloc (.cells (zW num rev md sz s LV GA) 38));have eD := zQ wr num rev md sz s LV GA 38;have HG := zh (eu.new wr num rev md sz s LV GA 38);replace o8 := zh (zH o8.out eD);replace HO := zh (HO.out.below eD);replace lN := zh (lN.out.below eD);replace HB := zh (zA HB.out eD);replace iz := zh (ak iz.out eD.size);clear eD;generalize wr.alloc (.cells (zW num rev md sz s LV GA) 38) = v0 at *;generalize wr.heap.size = bg at *;have Ji := zh hfl;have jm := zh (k7 ((⟨num, rev, md, sz, ⟨fs, LV, GA⟩⟩ : Gn), s));clear hfl
  refine yO [eP (.pointer (some ⟨w.heap.size + 2, 3, none⟩)), eP (.slice a' k c'), eP (za num rev md sz s LV GA), eP (za num rev md sz s LV GA), Yx ((⟨num, rev, md, sz, ⟨fs, LV, GA⟩⟩ : Gn), s)] [] 29 (by kernel_rfl) (by kernel_rfl) (by rfl) (by kernel_rfl) (fun f => by simp [fq, zX, Act.put]; exact rfl) ?_ ?_
  ·
   refine ⟨?_, ?_, ?_, ?_, ?_, trivial⟩
   ·
    intro f w1 hb hd;clear hd;dsimp only;go_wp2_with fail;exact pS rfl (by simp)
   ·
    intro f w1 hb hd;have d0 : f 0 = (.pointer (some ⟨w.heap.size + 2, 3, none⟩)) := hd 0 (by kernel_rfl);clear hd;dsimp only;rw [d0];have q3 := (HO.out.below hb).c3;go_wp2_with fail;exact pS rfl (by simp)
   ·
    intro f w1 hb hd;clear hd;dsimp only;have zo := HG.out.below hb;obtain ⟨q0, q1, q2, q3, q4, q5, q6, q7, q8, q9, AY, AZ, A0, A1⟩ := zo.q;clear zo;go_wp2_with fail;exact pS rfl (by simp)
   ·
    intro f w1 hb hd;have d2 : f 2 = (za num rev md sz s LV GA) := hd 2 (by kernel_rfl);clear hd;dsimp only;rw [d2];go_wp2_with fail;refine (zHI num rev md sz s LV GA w1).mono ?_;rintro e w9 ⟨rfl, fP⟩;go_wp2_with fail;exact pT rfl (by simp) fP
   intro f w1 hb hd;have d3 : f 3 = (za num rev md sz s LV GA) := hd 3 (by kernel_rfl);clear hd;dsimp only;rw [d3];have Ek := zh (Rd.np w1.heap.size w1 rfl 14 (gP ((⟨num, rev, md, sz, ⟨fs, LV, GA⟩⟩ : Gn), s)) 113 1 rfl (by decide));have jg := zh ((aj w1.heap.size w1).alloc (ai _) (.cells (gP ((⟨num, rev, md, sz, ⟨fs, LV, GA⟩⟩ : Gn), s)).toArray 113));go_wp2_with fail;refine ⟨rfl, ?_, ?_⟩
   ·
    exact jg.out
   intro t ht;injection ht with ht;subst ht;refine ⟨⟨_, rfl, ?_⟩, fun h => by simp at h⟩;exact Ek.out
  intro f' w5 hb hd jc;clear jc;have d1 : f' 1 = .slice a' k c' := hd 1 (show 1 < 5 by decide);obtain ⟨j4, d4, Uf⟩ := show ∃ j, f' 4 = .slice (some ⟨j, 0, none⟩) 1 1 ∧ Rd w5 14 (.slice (some ⟨j, 0, none⟩) 1 1) 1 (gP ((⟨num, rev, md, sz, ⟨fs, LV, GA⟩⟩ : Gn), s)) from hd 4 (show 4 < 5 by decide)
  try dsimp only
  rw [d1, d4];clear hd d1 d4;generalize f' 0 = z0;generalize f' 2 = z2;generalize f' 3 = z3;clear f';have fC := zH o8.out hb;have pg := ak iz.out hb.size;have Jj := HO.out.below hb;have Jk := lN.out.below hb;have Jl := zA HB.out hb;refine zd rfl (.tmp 21) (.tmp 24) 29 rfl LW W1.heap.size rfl fC rfl Uf jm.out (by unfold maxLen; omega) (by omega) pg ?_;intro v8 w8 fA gH _;obtain ⟨ra, rc, rfl, _⟩ := zO fA;rw [← Ji.out] at fA;have A8 := Jj.rL gH (OG fC hlo);have Jm := Jk.rL gH (OG fC (show w.heap.size + 1 < W1.heap.size by omega));have Jn := Jl.trans ((zM (aj W1.heap.size w5) fC pg gH).mono (show w.heap.size ≤ W1.heap.size by omega));have Jo := ak pg gH.size;have q3 := A8.c3;have qf := A8.f;go_wp2_with fail
  exact ⟨⟨k + 1, ra, rc, by go_num, by omega, zh (xw (b := w.heap.size + 2) hlo fA [(3, .slice ra (k + 1) rc)]), zh (A8.Cd ra (k + 1) rc), zh (Jm.ek (d := w.heap.size + 2) (by omega) [(3, .slice ra (k + 1) rc)]), zh (zD (B := w.heap.size) (b := w.heap.size + 2) (by omega) [(3, .slice ra (k + 1) rc)] Jn), zh (show W1.heap.size ≤ (pts w8 (w.heap.size + 2) [(3, .slice ra (k + 1) rc)]).heap.size by rw [wC]; exact Jo)⟩, by simp [intOf]; omega⟩
 have i1 : ¬ (k : Int) < (n : Int) := by omega
 obtain rfl : k = n := by omega
 rw [Ue.out] at o8;obtain ⟨k0, k1, k2, k3⟩ := HO.out.q;have pd : w.heap.size + 1 < W1.heap.size := by omega
 obtain ⟨z0, z1, z2, z3⟩ := lN.out.q;have zf := lN.out.f;go_wp2_with fail;change bodyPost _ _ _ _ _ (pts wr (w.heap.size + 1) (zJ i l r a' k c'));have sq := zh (show fl (pts wr (w.heap.size + 1) (zJ i l r a' k c')) (.slice a' k c') L from uz (xw (b := w.heap.size + 1) (by omega) o8.out _) iM.out.symm (fun p hp => (HR.out.m p hp).below (zD (B := w.heap.size) (b := w.heap.size + 1) (by omega) (zJ i l r a' k c') HB.out)));have hby := lN.out.all i l r a' k c';have ea := zh (zD (B := w.heap.size) (b := (w.heap.size + 1)) (by omega) (zJ i l r a' k c') HB.out);generalize pts wr (w.heap.size + 1) (zJ i l r a' k c') = V at *;exact aw (v := zZ i l r a' k c') (by simp [results, Tryz.results33, go_sem, hby.c0, hby.c1, hby.c2, hby.c3]) rfl (⟨⟨a', c', rfl, sq.out⟩, ea.out⟩)
end Go.Proofs.YtcgfilmmokmdjaaGreat
