/- A part of the walk. -/
import Derived.Test.YtcgfilmmokmdjaaGreatSlv
import Derived.Test.YtcgfilmmokmdjaaGreatQAM
import Derived.Test.YtcgfilmmokmdjaaGreatQAL
set_option linter.all false
set_option maxRecDepth 100000
set_option maxHeartbeats 32000000
namespace Go.Proofs.YtcgfilmmokmdjaaGreat
open Go.RowKit
theorem zHS (i l : Int) (hA : 0 ≤ i ∧ i < 4 ∧ 4136 ≤ l ∧ l ≤ 262144) (w : World) : Calls Tryz.prog 42 #[.int .i64 i,.int .i64 l] w fun e w' => ∃ b,e = .returned (.tuple #[ze i l false (some ⟨b,0,none⟩) 1 1,.int .i64 0]) ∧ w.heap.size ≤ b ∧ Bb w' b 0 (fresh 1,Sl.nil) ∧ Below w.heap.size w w':=by
 have HF:=zh (fun W => zCA 1 (by decide) W)
 have HV:=zh (fun b W (h : Bb W b 0 (fresh 1,Sl.nil)) => xY i l false (some ⟨b,0,none⟩) 1 1 H8 W (Ub h) (fun p hp j _ => by
  have : p = (fresh 1,Sl.nil):=by simpa [H8] using hp
  subst this
  exact aq _))
 rw [Ua i l false hA] at HV;have HB:=zh (zS w 0 0 false none 0 0 31);have HR:=zh (fc.new w 0 0 false none 0 0 31);clear hA
 go_enter Tryz.func42,Tryz.ntmps42
 go_wp2_with fail;refine (HF.out _).mono ?_;rintro e w1 ⟨rfl,hb1⟩;obtain ⟨W0,hW0⟩ : ∃ W0,w.alloc (.cells (zN 0 0 false none 0 0) 31) = W0:=⟨_,rfl⟩
 have mH : Below (w.alloc (.cells (zN 0 0 false none 0 0) 31)).heap.size (w.alloc (.cells (zN 0 0 false none 0 0) 31)) w1:=hb1;rw [hW0] at mH HB HR;have eW:=zh (zA HB.out mH);have eY:=zh (HR.out.below mH);clear hb1 mH HB HR hW0 HF;have NH:=eY.out.lt;generalize hb0 : w.heap.size = b0 at *;have E0:=zh hb0;clear hb0;generalize hnil : Sl.nil = s0 at *;have Jy:=zh hnil;clear hnil;go_upto_region 2 with fail;obtain ⟨W,hW⟩ : ∃ W,w1.alloc (.cells (zQ 1 0 1 16 s0 0 0) 113) = W:=⟨_,rfl⟩
 have HX:=zh (eH.new w1 1 0 1 16 s0 0 0 113);have eG:=zh (zb w1 1 0 1 16 s0 0 0 113);change Code.wp _ _ _ _ (w1.alloc (.cells (zQ 1 0 1 16 s0 0 0) 113));rw [hW] at HX eG ⊢;clear hW;have gj:=zh (eY.out.below eG.out);have eV:=zh (iT eW.out (bU NH) eG.out);have NI:=HX.out.lt;obtain ⟨m0,m1,m2,m3,m4,m5,m6,m7,m8,m9,m10,m11,m12,m13⟩:=HX.out.q;go_upto_region 3 with fail;change Code.wp _ _ _ _ ((W.alloc (.cells (zQ 1 0 1 16 s0 0 0) 113)).alloc (.cells (zN i l false (some ⟨W.heap.size,0,none⟩) 1 1) 31));obtain ⟨W2,hW2⟩ : ∃ W2,W.alloc (.cells (zQ 1 0 1 16 s0 0 0) 113) = W2:=⟨_,rfl⟩
 have hz2 : W2.heap.size = W.heap.size + 1:=by rw [← hW2]; simp
 have jt:=zh (show Bb W2 W.heap.size 0 (fresh 1,s0) from hW2 ▸ Bb.JE (g:=fresh 1) (eH.new W 1 0 1 16 s0 0 0 113));have H9:=zh (show Below W.heap.size W W2 from hW2 ▸ zb W 1 0 1 16 s0 0 0 113);rw [hW2];clear hW2;obtain ⟨W3,hW3⟩ : ∃ W3,W2.alloc (.cells (zN i l false (some ⟨W.heap.size,0,none⟩) 1 1) 31) = W3:=⟨_,rfl⟩
 have DX:=zh (show fc W3 (W.heap.size + 1) i l false (some ⟨W.heap.size,0,none⟩) 1 1 from hz2 ▸ hW3 ▸ fc.new W2 i l false (some ⟨W.heap.size,0,none⟩) 1 1 31);have CN:=zh (show Below W2.heap.size W2 W3 from hW3 ▸ zS W2 i l false (some ⟨W.heap.size,0,none⟩) 1 1 31);rw [hW3];clear hW3;have N5:=zh (jt.out.below CN.out);have hab:=zA H9.out CN.out;have mo:=zh (gj.out.below hab);have gp:=zh (iT eV.out (bU gj.out.lt) hab);have hl3:=DX.out.lt;have hbW : b0 < W.heap.size:=gj.out.lt;clear m0 m1 m2 m3 m4 m5 m6 m7 m8 m9 m10 m11 m12 m13 HX eG gj eV jt H9 CN hab eY eW NI NH;obtain ⟨x0,x1,x2,x3⟩:=DX.out.q;generalize hgb : W.heap.size = gb at *;clear hgb;go_wp2_with fail;refine (HV.out _ _ N5.out).mono ?_;rintro e w4 ⟨rfl,hb4⟩;have Fw:=zh (N5.out.below hb4);have lB:=zh (mo.out.below hb4);have Be:=zh (DX.out.below hb4);have fZ:=zh (iT gp.out (bU mo.out.lt) hb4)
 have hl4:=Be.out.lt;have X0:=lB.out.lt;clear x0 x1 x2 x3 hb4 N5 mo DX gp HV hl3;obtain ⟨x0,x1,x2,x3⟩:=Be.out.q;obtain ⟨d0,d1,d2,d3⟩:=lB.out.q;have F:=lB.out.f;have hne : b0 ≠ gb + 1:=by omega
 go_wp2_with fail;change bodyPost _ _ _ _ _ (pts w4 b0 (zP i l false (some ⟨gb,0,none⟩) 1 1));have hby:=lB.out.all i l false (some ⟨gb,0,none⟩) 1 1;have ey:=zh (zD (B:=b0) (ai _) (zP i l false (some ⟨gb,0,none⟩) 1 1) fZ.out);have Rv:=zh (Fw.out.eD (show gb ≠ b0 by omega) (zP i l false (some ⟨gb,0,none⟩) 1 1));generalize pts w4 b0 (zP i l false (some ⟨gb,0,none⟩) 1 1) = V at *;exact au (v:=.tuple #[ze i l false (some ⟨gb,0,none⟩) 1 1,.int .i64 0]) (by simp [results,Tryz.results42,go_sem,hby.c0,hby.c1,hby.c2,hby.c3]) rfl ⟨gb,rfl,by rw [E0.out]; omega,by rw [Jy.out]; exact Rv.out,by rw [E0.out]; exact ey.out⟩
end Go.Proofs.YtcgfilmmokmdjaaGreat
