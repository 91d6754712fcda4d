import Derived.Test.YtcgfilmmokmdjaaGreatQAM
set_option linter.all false
set_option maxRecDepth 100000
set_option maxHeartbeats 32000000
namespace Go.Proofs.YtcgfilmmokmdjaaGreat
open Go.RowKit
def zIC (i l:Int) (hA:0<=i/\i<4/\4136<=l/\l<=262144) (w:World):Calls Tryz.prog 42 #[.int .i64 i,.int .i64 l] w fun e w'=>∃ b,e=.returned (.tuple #[zQ i l false (some ⟨b,0,none⟩) 1 1,.int .i64 0])/\w.heap.size<=b/\q_ w' b 0 (fresh 1,Sl.nil)/\Below w.heap.size w w':=by
 have HF:=zh (fun W=>zCY 1 (by decide) W)
 have HV:=zh (fun b W (h:q_ W b 0 (fresh 1,Sl.nil))=>zt i l false (some ⟨b,0,none⟩) 1 1 EE W (SH h) (fun p hp j _=>by
  have:p=(fresh 1,Sl.nil):=by simpa [EE] using hp
  subst this
  exact aq _))
 rw[SG i l false hA] at HV;have HB:=zh (zR w 0 0 false none 0 0 31);have HR:=zh (fp.new w 0 0 false none 0 0 31);clear hA
 go_enter Tryz.func42,Tryz.ntmps42
 go_wp2_with fail;refine (HF.o _).mono ?_;rintro e w1 ⟨rfl,hb1⟩;obtain ⟨W0,hW0⟩:∃ W0,w.alloc (.cells (zM 0 0 false none 0 0) 31)=W0:=⟨_,rfl⟩
 have oK:Below (w.alloc (.cells (zM 0 0 false none 0 0) 31)).heap.size (w.alloc (.cells (zM 0 0 false none 0 0) 31)) w1:=hb1;rw[hW0] at oK HB HR;have eV:=zh (zA HB.o oK);have fL:=zh (HR.o.bb oK);clear hb1 oK HB HR hW0 HF;have LK:=fL.o.lt;generalize hb0:w.heap.size=b0 at *;have E0:=zh hb0;clear hb0;generalize hnil:Sl.nil=s0 at *;have Gj:=zh hnil;clear hnil;go_upto_region 2 with fail;obtain ⟨W,hW⟩:∃ W,w1.alloc (.cells (zU 1 0 1 16 s0 0 0) 113)=W:=⟨_,rfl⟩
 have HX:=zh (eU.new w1 1 0 1 16 s0 0 0 113);have eO:=zh (zT w1 1 0 1 16 s0 0 0 113);change Code.wp _ _ _ _ (w1.alloc (.cells (zU 1 0 1 16 s0 0 0) 113));rw[hW] at HX eO |-;clear hW;have iq:=zh (fL.o.bb eO.o);have eX:=zh (k_ eV.o (bT LK) eO.o);have LJ:=HX.o.lt;obtain ⟨m0,m1,m2,m3,m4,m5,m6,m7,m8,m9,m10,m11,m12,m13⟩:=HX.o.q;go_upto_region 3 with fail;change Code.wp _ _ _ _ ((W.alloc (.cells (zU 1 0 1 16 s0 0 0) 113)).alloc (.cells (zM i l false (some ⟨W.heap.size,0,none⟩) 1 1) 31));obtain ⟨W2,hW2⟩:∃ W2,W.alloc (.cells (zU 1 0 1 16 s0 0 0) 113)=W2:=⟨_,rfl⟩
 have hz2:W2.heap.size=W.heap.size+1:=by rw[<- hW2];simp
 have lW:Hid (q_ W2 W.heap.size 0 (fresh 1,s0)):=zh (hW2▸q_.Gh (g:=fresh 1) (eU.new W 1 0 1 16 s0 0 0 113));have h_:Hid (Below W.heap.size W W2):=zh (hW2▸zT W 1 0 1 16 s0 0 0 113);rw[hW2];clear hW2;obtain ⟨W3,hW3⟩:∃ W3,W2.alloc (.cells (zM i l false (some ⟨W.heap.size,0,none⟩) 1 1) 31)=W3:=⟨_,rfl⟩
 have BJ:Hid (fp W3 (W.heap.size+1) i l false (some ⟨W.heap.size,0,none⟩) 1 1):=zh (hz2▸hW3▸fp.new W2 i l false (some ⟨W.heap.size,0,none⟩) 1 1 31);have jK:Hid (Below W2.heap.size W2 W3):=zh (hW3▸zR W2 i l false (some ⟨W.heap.size,0,none⟩) 1 1 31);rw[hW3];clear hW3;have LM:=zh (lW.o.bb jK.o);have hab:=zA h_.o jK.o;have ng:=zh (iq.o.bb hab);have f_:=zh (k_ eX.o (bT iq.o.lt) hab);have hl3:=BJ.o.lt;have hbW:b0<W.heap.size:=iq.o.lt;clear m0 m1 m2 m3 m4 m5 m6 m7 m8 m9 m10 m11 m12 m13 HX eO iq eX lW h_ jK hab fL eV LJ LK;obtain ⟨x0,x1,x2,x3⟩:=BJ.o.q;generalize hgb:W.heap.size=gb at *;clear hgb;go_wp2_with fail;refine (HV.o _ _ LM.o).mono ?_;rintro e w4 ⟨rfl,hb4⟩;have Fl:=zh (LM.o.bb hb4);have lB:=zh (ng.o.bb hb4);have rA:=zh (BJ.o.bb hb4);have gq:=zh (k_ f_.o (bT ng.o.lt) hb4)
 have hl4:=rA.o.lt;have V_:=lB.o.lt;clear x0 x1 x2 x3 hb4 LM ng BJ f_ HV hl3;obtain ⟨x0,x1,x2,x3⟩:=rA.o.q;obtain ⟨d0,d1,d2,d3⟩:=lB.o.q;have F:=lB.o.f;have hne:b0≠gb+1:=by omega
 go_wp2_with fail;change bodyPost _ _ _ _ _ (pts w4 b0 (zI i l false (some ⟨gb,0,none⟩) 1 1));have hby:=lB.o.all i l false (some ⟨gb,0,none⟩) 1 1;have eN:=zh (zC (B:=b0) (ag _) (zI i l false (some ⟨gb,0,none⟩) 1 1) gq.o);have LN:=zh (Fl.o.eL (show gb≠b0 by omega) (zI i l false (some ⟨gb,0,none⟩) 1 1));generalize pts w4 b0 (zI i l false (some ⟨gb,0,none⟩) 1 1)=V at *;exact au (v:=.tuple #[zQ i l false (some ⟨gb,0,none⟩) 1 1,.int .i64 0]) (by simp[results,Tryz.results42,go_sem,hby.c0,hby.c1,hby.c2,hby.c3]) rfl ⟨gb,rfl,by rw[E0.o];omega,by rw[Gj.o];exact LN.o,by rw[E0.o];exact eN.o⟩
end Go.Proofs.YtcgfilmmokmdjaaGreat
