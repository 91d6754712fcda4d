/- A part of the walk. -/
import Derived.Test.YtcgfilmmokmdjaaGreatQAR
set_option linter.all false
set_option maxRecDepth 100000
set_option maxHeartbeats 32000000
namespace Go.Proofs.YtcgfilmmokmdjaaGreat
open Go.RowKit
theorem zH1 (s : Sl) (L G : Int) (w : World) : Calls Tryz.prog 109 #[yC s L G] w fun e w' => e = .returned (yC s L G) ∧ Below w.heap.size w w' := by
 obtain ⟨W0, hW0⟩ : ∃ W0, (w.alloc (.cells (yQ s L G) 111)).alloc (.cells (yQ Sl.nil 0 0) 36) = W0 := ⟨_, rfl⟩
 have HX := zh (show BoxM W0 w.heap.size s L G from hW0 ▸ ((BoxM.new w s L G 111).below (zR _ Sl.nil 0 0 36)));have HY := zh (show BoxM W0 (w.heap.size + 1) Sl.nil 0 0 from hW0 ▸ (by have := BoxM.new (w.alloc (.cells (yQ s L G) 111)) Sl.nil 0 0 36; simpa using this));have HB := zh (show Below w.heap.size w W0 from hW0 ▸ zA (zR w s L G 111) (zR _ Sl.nil 0 0 36));have HW0 := zh hW0;clear hW0
 go_enter Tryz.func109, Tryz.ntmps109
 go_upto_region 1 with fail;have hW0 := HW0.out;rw [show (w.alloc (.cells (yQ s L G) 111)).alloc (.cells #[.slice none 0 0, .slice none 0 0, .slice none 0 0, .slice none 0 0, .slice none 0 0, .slice none 0 0, .slice none 0 0, .slice none 0 0, .int .i64 0, .int .i64 0] 36) = W0 from hW0];clear hW0 HW0;obtain ⟨c0, c1, c2, c3, c4, c5, c6, c7, c8, c9⟩ := HX.out.q;have cF := HX.out.f;obtain ⟨d0, d1, d2, d3, d4, d5, d6, d7, d8, d9⟩ := HY.out.q;have dF := HY.out.f;go_wp2_with fail;change bodyPost _ _ _ _ _ (z8 W0 (w.heap.size + 1) s L G);have hby := HY.out.all s L G;have HBz := zh (zQ HB.out (show w.heap.size ≤ w.heap.size + 1 by omega) s L G);generalize z8 W0 (w.heap.size + 1) s L G = V9 at *;exact bodyPost_ret (v := yC s L G) (by simp [results, Tryz.results109, go_sem, hby.c0, hby.c1, hby.c2, hby.c3, hby.c4, hby.c5, hby.c6, hby.c7, hby.cl, hby.cg]) rfl ⟨rfl, HBz.out⟩
theorem zHh (n r md z : Int) (s : Sl) (L G : Int) (w : World) : Calls Tryz.prog 67 #[ze n r md z s L G] w fun e w' => e = .returned (ze n r md z s L G) ∧ Below w.heap.size w w' := by
 obtain ⟨W0, hW0⟩ : ∃ W, w.alloc (.cells (zX n r md z s L G) 113) = W := ⟨_, rfl⟩
 have HX0 := zh (show BoxG W0 w.heap.size n r md z s L G from hW0 ▸ BoxG.new w n r md z s L G 113);have HB0 := zh (show Below w.heap.size w W0 from hW0 ▸ zZ w n r md z s L G 113);have HR := zh (BoxG.new W0 0 0 0 0 Sl.nil 0 0 38);have HX := zh (HX0.out.below (zZ W0 0 0 0 0 Sl.nil 0 0 38));have HB := zh (zA HB0.out (zZ W0 0 0 0 0 Sl.nil 0 0 38));have hlz : w.heap.size ≤ W0.heap.size := HB0.out.size;have hz0 : W0.heap.size = w.heap.size + 1 := by rw [← hW0]; simp
 go_enter Tryz.func67, Tryz.ntmps67
 go_upto_region 1 with fail;change Code.wp _ _ _ _ (W0.alloc (.cells (zX 0 0 0 0 Sl.nil 0 0) 38));clear hW0 HX0 HB0;obtain ⟨W, hW⟩ : ∃ W, W0.alloc (.cells (zX 0 0 0 0 Sl.nil 0 0) 38) = W := ⟨_, rfl⟩
 rw [hW] at HX HB HR ⊢;clear hW;rw [hz0] at HR;clear hz0;refine yt [eqS (.pointer (some ⟨w.heap.size, 0, none⟩)), eqS (.int .i64 n), eqS (.pointer (some ⟨w.heap.size, 1, none⟩)), eqS (.int .i64 r), eqS (.pointer (some ⟨w.heap.size, 2, none⟩)), eqS (.int .i64 md), eqS (.pointer (some ⟨w.heap.size, 3, none⟩)), eqS (.int .i64 z), eqS (.pointer (some ⟨w.heap.size, 4, none⟩)), eqS (yC s L G), eqS (yC s L G), eqS (ze n r md z s L G)] [] 15 (by kernel_rfl) (by kernel_rfl) (by rfl) (by kernel_rfl) (fun f => by simp [frm, zN, Act.put]; exact rfl) ?_ ?_
 ·
  refine ⟨?_, ?_, ?_, ?_, ?_, ?_, ?_, ?_, ?_, ?_, ?_, ?_, trivial⟩
  ·
   intro f w1 hb hd;clear hd;dsimp only;go_wp2_with fail;exact pS rfl (by simp)
  ·
   intro f w1 hb hd;have d0 : f 0 = (.pointer (some ⟨w.heap.size, 0, none⟩)) := hd 0 (by kernel_rfl);clear hd;dsimp only;rw [d0];have q0 := (HX.out.below hb).n0;go_wp2_with fail;exact pS rfl (by simp)
  ·
   intro f w1 hb hd;clear hd;dsimp only;go_wp2_with fail;exact pS rfl (by simp)
  ·
   intro f w1 hb hd;have d2 : f 2 = (.pointer (some ⟨w.heap.size, 1, none⟩)) := hd 2 (by kernel_rfl);clear hd;dsimp only;rw [d2];have q0 := (HX.out.below hb).n1;go_wp2_with fail;exact pS rfl (by simp)
  ·
   intro f w1 hb hd;clear hd;dsimp only;go_wp2_with fail;exact pS rfl (by simp)
  ·
   intro f w1 hb hd;have d4 : f 4 = (.pointer (some ⟨w.heap.size, 2, none⟩)) := hd 4 (by kernel_rfl);clear hd;dsimp only;rw [d4];have q0 := (HX.out.below hb).n2;go_wp2_with fail;exact pS rfl (by simp)
  ·
   intro f w1 hb hd;clear hd;dsimp only;go_wp2_with fail;exact pS rfl (by simp)
  ·
   intro f w1 hb hd;have d6 : f 6 = (.pointer (some ⟨w.heap.size, 3, none⟩)) := hd 6 (by kernel_rfl);clear hd;dsimp only;rw [d6];have q0 := (HX.out.below hb).n3;go_wp2_with fail;exact pS rfl (by simp)
  ·
   intro f w1 hb hd;clear hd;dsimp only;go_wp2_with fail;exact pS rfl (by simp)
  ·
   intro f w1 hb hd;have d8 : f 8 = (.pointer (some ⟨w.heap.size, 4, none⟩)) := hd 8 (by kernel_rfl);clear hd;dsimp only;rw [d8];have zo := HX.out.below hb;obtain ⟨q0, q1, q2, q3, q4, q5, q6, q7, q8, q9, q10, q11, q12, q13⟩ := zo.q;clear zo;go_wp2_with fail;exact pS rfl (by simp)
  ·
   intro f w1 hb hd;have d9 : f 9 = (yC s L G) := hd 9 (by kernel_rfl);clear hd;dsimp only;rw [d9];go_wp2_with fail;refine (zH1 s L G w1).mono ?_;rintro e w9 ⟨rfl, hb9⟩;go_wp2_with fail;exact pT rfl (by simp) hb9
  intro f w1 hb hd;have d1 : f 1 = (.int .i64 n) := hd 1 (by kernel_rfl);have d3 : f 3 = (.int .i64 r) := hd 3 (by kernel_rfl);have d5 : f 5 = (.int .i64 md) := hd 5 (by kernel_rfl);have d7 : f 7 = (.int .i64 z) := hd 7 (by kernel_rfl);have d10 : f 10 = (yC s L G) := hd 10 (by kernel_rfl);clear hd;dsimp only;rw [d1];rw [d3];rw [d5];rw [d7];rw [d10];go_wp2_with fail;exact pS rfl (by simp)
 intro f w5 hb hd hff;clear hff;have d11 : f 11 = (ze n r md z s L G) := hd 11 (show 11 < 12 by decide)
 try dsimp only
 rw [d11];clear hd d11;generalize f 0 = zq0, f 1 = zq1, f 2 = zq2, f 3 = zq3, f 4 = zq4, f 5 = zq5, f 6 = zq6, f 7 = zq7, f 8 = zq8, f 9 = zq9, f 10 = zq10;clear f;have HY := zh (HR.out.below hb);have HB5 := zh (zA HB.out hb);clear hb;have rf := HY.out.f;obtain ⟨r0, r1, r2, r3, r4, r5, r6, r7, r8, r9, r10, r11, r12, r13⟩ := HY.out.q;go_wp2_with fail;change bodyPost _ _ _ _ _ (pts w5 (w.heap.size + 1) (zO n r md z s L G));have hby := HY.out.all n r md z s L G;have HBz := zh (zD (B := w.heap.size) (b := w.heap.size + 1) (by omega) (zO n r md z s L G) HB5.out);generalize pts w5 (w.heap.size + 1) (zO n r md z s L G) = V at *;exact bodyPost_ret (v := ze n r md z s L G) (by simp [results, Tryz.results67, go_sem, hby.n0, hby.n1, hby.n2, hby.n3, hby.c0, hby.c1, hby.c2, hby.c3, hby.c4, hby.c5, hby.c6, hby.c7, hby.cl, hby.cg]) rfl ⟨rfl, HBz.out⟩
theorem zGc (i l : Int) (r : Bool) (a : Option Addr) (n c : Nat) (L : List GP) (w : World) (h : RdG w (.slice a n c) L) (hn : n ≤ 1000000) :
  Calls Tryz.prog 23 #[zhq i l r a n c] w fun e w' => (∃ a' c', e = .returned (zhq i l r a' n c') ∧ RdG w' (.slice a' n c') L) ∧ Below w.heap.size w w' := by
 have hLn : L.length = n := by
  obtain ⟨_, _, e, _⟩ := h.shape;injection e with _ e _; exact e.symm
 have HR := zh h;have HMm := zh (show ∀ k, k < n → pat L k ∈ L from fun k hk => xI (by omega));have HFl := zh (show ∀ k, k < n → (L.take (k + 1)).flatMap gpC = (L.take k).flatMap gpC ++ gpC (pat L k) from fun k hk => zGz L k (by omega));have HTn := zh (show L.take n = L from List.take_of_length_le (by omega));have HLn := zh hLn;have hcap : n ≤ 9223372036854775807 := by omega
 clear h hLn
 go_enter Tryz.func23, Tryz.ntmps23
 go_upto_region 1 with fail;change Code.wp _ _ _ _ ((w.alloc (.cells (zS i l r a n c) 31)).alloc (.cells (zS 0 0 false none 0 0) 27));obtain ⟨W0, hW0, hbx, hbr, hbw, hsz0⟩ := zHs w i l r a n c 31 27;rw [hW0];clear hW0;have k0 := hbx.c0;have k1 := hbx.c1;have k2 := hbx.c2;have HX0 := zh hbx;have HR0 := zh hbr;have HB0 := zh hbw;have hsz := hsz0;clear hbx hbr hbw hsz0;go_upto_region 2 with fail;clear k0 k1 k2;change Code.wp _ _ _ _ (W0.alloc (.cells (zS i l r none 0 0) 27));have hbq := zP W0 i l r none 0 0 27;have HO := zh (BoxV.new W0 i l r none 0 0 27);have HX := zh (HX0.out.below hbq);have HRs := zh (HR0.out.below hbq);have HB := zh (zA HB0.out hbq);clear hbq HX0 HR0 HB0;generalize W0.alloc (.cells (zS i l r none 0 0) 27) = W1 at *;rw [hsz] at HO;clear hsz;clear W0;have hlo := HO.out.lt;have k3 := HX.out.c3;go_wp2_with fail;clear k3
 go_loopw [16] (fun iv V => ∃ (k : Nat) (a' : Option Addr) (c' : Nat), iv = .int .i64 (k : Int) ∧ k ≤ n ∧ Hid (V.ownsRow W1.heap.size 38 14 (.slice a' k c') k ((L.take k).flatMap gpC)) ∧ Hid (BoxV V (w.heap.size + 2) i l r a' k c') ∧ Hid (BoxV V (w.heap.size + 1) 0 0 false none 0 0) ∧ Hid (Below w.heap.size w V) ∧ Hid (W1.heap.size ≤ V.heap.size)) (fun iv _ => n - (intOf iv).toNat)
 case atStart => exact ⟨0, none, 0, rfl, Nat.zero_le _, zh (World.ownsRow_nil _ _ _ _), HO, HRs, HB, zh (Nat.le_refl _)⟩
 clear HO HRs HB HX;obtain ⟨k, a', c', rfl, hk, HOw, HO, HRs, HB, HSz⟩ := hrel
 by_cases hlt : k < n
 ·
  have i1 : (k : Int) < (n : Int) := by omega
  have hR := HR.out.below HB.out;obtain ⟨b, off, rfl, hg⟩ := hR.at hlt;have hfl := HFl.out k hlt;clear hR;generalize pat L k = p at *;obtain ⟨⟨num, rev, md, sz, ⟨fs, LV, GA⟩⟩, s⟩ := p
  try dsimp only at hfl
  obtain ⟨g0, g1, g2, g3, g4, g5, g6, g7, g8, g9, g10, g11, g12, g13⟩ := hg
  try dsimp only at g0 g1 g2 g3 g4 g5 g6 g7 g8 g9 g10 g11 g12 g13
  go_upto_region 5 with fail;clear g0 g1 g2 g3 g4 g5 g6 g7 g8 g9 g10 g11 g12 g13;change Code.wp _ _ _ _ (wr.alloc (.cells (zX num rev md sz s LV GA) 113));have hbq := zZ wr num rev md sz s LV GA 113;have HG := zh (BoxG.new wr num rev md sz s LV GA 113);replace HOw := zh (zH HOw.out hbq);replace HO := zh (HO.out.below hbq);replace HRs := zh (HRs.out.below hbq);replace HB := zh (zA HB.out hbq);replace HSz := zh (Nat.le_trans HSz.out hbq.size);clear hbq;generalize wr.alloc (.cells (zX num rev md sz s LV GA) 113) = v0 at *;generalize wr.heap.size = bg at *;have HFl2 := zh hfl;have HOne := zh (zCM ((⟨num, rev, md, sz, ⟨fs, LV, GA⟩⟩ : Gn), s));clear hfl
  refine yt [eqS (.pointer (some ⟨w.heap.size + 2, 3, none⟩)), eqS (.slice a' k c'), eqS (ze num rev md sz s LV GA), eqS (ze num rev md sz s LV GA), zLp ((⟨num, rev, md, sz, ⟨fs, LV, GA⟩⟩ : Gn), s)] [] 29 (by kernel_rfl) (by kernel_rfl) (by rfl) (by kernel_rfl) (fun f => by simp [frm, zN, Act.put]; exact rfl) ?_ ?_
  ·
   refine ⟨?_, ?_, ?_, ?_, ?_, trivial⟩
   ·
    intro f w1 hb hd;clear hd;dsimp only;go_wp2_with fail;exact pS rfl (by simp)
   ·
    intro f w1 hb hd;have d0 : f 0 = (.pointer (some ⟨w.heap.size + 2, 3, none⟩)) := hd 0 (by kernel_rfl);clear hd;dsimp only;rw [d0];have q3 := (HO.out.below hb).c3;go_wp2_with fail;exact pS rfl (by simp)
   ·
    intro f w1 hb hd;clear hd;dsimp only;have zo := HG.out.below hb;obtain ⟨q0, q1, q2, q3, q4, q5, q6, q7, q8, q9, q10, q11, q12, q13⟩ := zo.q;clear zo;go_wp2_with fail;exact pS rfl (by simp)
   ·
    intro f w1 hb hd;have d2 : f 2 = (ze num rev md sz s LV GA) := hd 2 (by kernel_rfl);clear hd;dsimp only;rw [d2];go_wp2_with fail;refine (zHh num rev md sz s LV GA w1).mono ?_;rintro e w9 ⟨rfl, hb9⟩;go_wp2_with fail;exact pT rfl (by simp) hb9
   intro f w1 hb hd;have d3 : f 3 = (ze num rev md sz s LV GA) := hd 3 (by kernel_rfl);clear hd;dsimp only;rw [d3];have hnw := zh (Rd.newK' w1.heap.size w1 rfl 14 (gpC ((⟨num, rev, md, sz, ⟨fs, LV, GA⟩⟩ : Gn), s)) 38 1 rfl (by decide));have hbn := zh ((Below.refl w1.heap.size w1).alloc (Nat.le_refl _) (.cells (gpC ((⟨num, rev, md, sz, ⟨fs, LV, GA⟩⟩ : Gn), s)).toArray 38));go_wp2_with fail;refine ⟨rfl, ?_, ?_⟩
   ·
    exact hbn.out
   intro t ht;injection ht with ht;subst ht;refine ⟨⟨_, rfl, ?_⟩, fun h => by simp at h⟩;exact hnw.out
  intro f' w5 hb hd hff;clear hff;have d1 : f' 1 = .slice a' k c' := hd 1 (show 1 < 5 by decide);obtain ⟨j4, d4, hr4⟩ := show ∃ j, f' 4 = .slice (some ⟨j, 0, none⟩) 1 1 ∧ Rd w5 14 (.slice (some ⟨j, 0, none⟩) 1 1) 1 (gpC ((⟨num, rev, md, sz, ⟨fs, LV, GA⟩⟩ : Gn), s)) from hd 4 (show 4 < 5 by decide)
  try dsimp only
  rw [d1, d4];clear hd d1 d4;generalize f' 0 = z0;generalize f' 2 = z2;generalize f' 3 = z3;clear f';have hown5 := zH HOw.out hb;have hsz5 := Nat.le_trans HSz.out hb.size;have hbx5 := HO.out.below hb;have hrx5 := HRs.out.below hb;have hbb5 := zA HB.out hb;refine za rfl (.tmp 21) (.tmp 24) 25 rfl zI2 W1.heap.size rfl hown5 rfl hr4 HOne.out (by unfold maxLen; omega) (by omega) hsz5 ?_;intro v8 w8 hown8 hgr8 _;obtain ⟨ra, rc, rfl, _⟩ := zJ hown8;rw [← HFl2.out] at hown8;have hbo8 := hbx5.grownT hgr8 (zFd hown5 hlo);have hbr8 := hrx5.grownT hgr8 (zFd hown5 (show w.heap.size + 1 < W1.heap.size by omega));have hbb8 := hbb5.trans ((zK (Below.refl W1.heap.size w5) hown5 hsz5 hgr8).mono (show w.heap.size ≤ W1.heap.size by omega));have hsz8 := Nat.le_trans hsz5 hgr8.size;have q3 := hbo8.c3;have qf := hbo8.f;go_wp2_with fail
  exact ⟨⟨k + 1, ra, rc, by go_num, by omega, zh (vB (b := w.heap.size + 2) hlo hown8 [(3, .slice ra (k + 1) rc)]), zh (hbo8.set3 ra (k + 1) rc), zh (hbr8.pts_ne (d := w.heap.size + 2) (by omega) [(3, .slice ra (k + 1) rc)]), zh (zD (B := w.heap.size) (b := w.heap.size + 2) (by omega) [(3, .slice ra (k + 1) rc)] hbb8), zh (show W1.heap.size ≤ (pts w8 (w.heap.size + 2) [(3, .slice ra (k + 1) rc)]).heap.size by rw [tA]; exact hsz8)⟩, by simp [intOf]; omega⟩
 have i1 : ¬ (k : Int) < (n : Int) := by omega
 obtain rfl : k = n := by omega
 rw [HTn.out] at HOw;obtain ⟨k0, k1, k2, k3⟩ := HO.out.q;have hlo1 : w.heap.size + 1 < W1.heap.size := by omega
 obtain ⟨z0, z1, z2, z3⟩ := HRs.out.q;have zf := HRs.out.f;go_wp2_with fail;change bodyPost _ _ _ _ _ (pts wr (w.heap.size + 1) (zU i l r a' k c'));have HRz := zh (show RdG (pts wr (w.heap.size + 1) (zU i l r a' k c')) (.slice a' k c') L from kB (vB (b := w.heap.size + 1) (by omega) HOw.out _) HLn.out.symm (fun p hp => (HR.out.m p hp).below (zD (B := w.heap.size) (b := w.heap.size + 1) (by omega) (zU i l r a' k c') HB.out)));have hby := HRs.out.all i l r a' k c';have HBz := zh (zD (B := w.heap.size) (b := (w.heap.size + 1)) (by omega) (zU i l r a' k c') HB.out);generalize pts wr (w.heap.size + 1) (zU i l r a' k c') = V at *;exact bodyPost_ret (v := zhq i l r a' k c') (by simp [results, Tryz.results23, go_sem, hby.c0, hby.c1, hby.c2, hby.c3]) rfl (⟨⟨a', c', rfl, HRz.out⟩, HBz.out⟩)
end Go.Proofs.YtcgfilmmokmdjaaGreat
