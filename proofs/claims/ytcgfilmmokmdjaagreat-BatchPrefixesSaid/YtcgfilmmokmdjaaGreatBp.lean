/- A part of the walk. -/
import Derived.Test.YtcgfilmmokmdjaaGreatQAU
import Derived.Deep.CutBlock
set_option linter.all false
set_option maxRecDepth 100000
set_option maxHeartbeats 32000000
namespace Go.Proofs.YtcgfilmmokmdjaaGreat
open Go.RowKit
theorem zH5 {w : World} {B b : Nat} {P : fG} {ga : Option Addr} {gn gc : Nat} {L : List GP} {kv : Value} {ks : List KP} {nv : Value} {es : List (Nd × Value)} {rv : Value} (hlo : B ≤ b) (hP : CG w b P.t.id P.t.lim P.t.ro ga gn gc P.eN kv nv rv P.bytes) (hR : lF w B P ga gn gc L kv ks nv es rv) (hl : fA 800 P.t.dW) (hB : B ≤ w.heap.size) (hel : es.length ≤ 900) (hby : 0 ≤ P.bytes ∧ P.bytes ≤ 1000000000) (M : Nat) (hM : M ≤ 100000) (hsk : Bt M P.dY) (Co : P.t.dW.length ≤ 1000000) (q : Rq) (tk kind key ck : Int) (da : Option Addr) (dn dc : Nat) (hd : CZ w (.slice da dn dc) q.data) (iy : dn ≤ 1000000) (LI : P.res.length ≤ 16) (hqd : q.kind = kind) (I7 : (q.key : Int) = key) (KL : (q.ck : Int) = ck) :
  Calls Tryz.prog 66 #[.pointer (some ⟨b,0,none⟩),I4 tk kind key ck (.slice da dn dc)] w fun e w' => e = .returned (.bool (zT P q).1) ∧ Dd w' B b (zT P q).2 ∧ fk B w w':=by
 have Ch : q.data.length = dn:=by obtain ⟨_,_,_,e,_⟩:=hd; injection e with _ e _; exact e.symm
 have fP : b < w.heap.size:=hP.lt;have Eg : fA 1000 P.t.dW:=hl.mono (by decide);have FH:=zh (fun W (hb : Below w.heap.size w W) => zGI b P.t ga gn gc L P.eN kv nv rv P.bytes tk kind key ck da dn dc W (hP.below hb) (hR.g.rd.below hb) hR.gg Eg iy q Ch);have UT:=zh (fun W (hb : Below w.heap.size w W) => zFd b P.t ga gn gc L P.eN kv nv rv P.bytes tk kind key ck da dn dc W (hP.below hb) (hR.g.rd.below hb) hR.gg Eg q I7 KL);have eY:=zh (fun W => zII tk kind key ck da dn dc W);have mo:=zh (fun W cap (hb : Below w.heap.size w W) (hc : dX W cap #[.pointer (some ⟨b,0,none⟩)] 143) => zHX b cap P.t ga gn gc L P.eN kv nv rv P.bytes tk kind key ck da dn dc W hc (hP.below hb) (hR.g.rd.below hb) hR.gg Eg);have LJ:=zh (fun W (hb : Below w.heap.size w W) => zLZ P.t ga gn gc L W (hR.g.rd.below hb) hR.gg Eg);have iW:=zh (fun W => zIU tk kind key ck da dn dc W iy)
 have UU:=zh (fun W cap (h0 : zn P.t q = 0) (hb : Below w.heap.size w W) (hc : dX W cap #[.pointer (some ⟨b,0,none⟩)] 143) => zJE hlo (hP.below hb) (hR.below hb) (hl.mono (by decide)) (ak hB hb.size) (by omega) hby q cap tk kind key ck da dn dc hc (iw.below hd hb) (by have:=zFY h0; omega) I7 KL);have IL:=zh (fun W (hb : Below w.heap.size w W) => zIC hlo (hP.below hb) (hR.below hb) hl (ak hB hb.size) hel hby M hM hsk Co q tk kind key ck da dn dc I7 KL);have LG:=zh hP;have Bd:=zh hR;have Bc:=zh (fun W (hb : Below w.heap.size w W) => show Dd W B b P from ⟨ga,gn,gc,L,kv,ks,nv,es,rv,hlo,hP.below hb,hR.below hb⟩);have LB : eP dn ≤ 4127:=xt dn;have h0:=hby.1;have gL:=hby.2;clear hl Eg hsk hel Co hd hby;have HDn:=zh Ch;have E6:=zh hqd;have UI:=zh I7;clear Ch hqd I7 KL;obtain ⟨ra,rc,Zi,hr1,hr2,_⟩:=zM hR.r;subst Zi;have q8:=hP.cell (i:=8) rfl
 clear hP hR;have eO:=(aj w.heap.size w).alloc (ai _) (.cells #[.int .i64 tk,.int .i64 kind,.int .u64 key,.int .u32 ck,.slice da dn dc] 85);have HX:=zh (dX.new w #[.int .i64 tk,.int .i64 kind,.int .u64 key,.int .u32 ck,.slice da dn dc] 85);have HB:=zh eO;have HP1:=zh (LG.out.below eO);clear eO q8
 go_enter Tryz.func66,Tryz.ntmps66
 go_upto_region 1 with fail;change Code.wp _ _ _ _ (w.alloc (.cells #[.int .i64 tk,.int .i64 kind,.int .u64 key,.int .u32 ck,.slice da dn dc] 85));generalize w.alloc (.cells #[.int .i64 tk,.int .i64 kind,.int .u64 key,.int .u32 ck,.slice da dn dc] 85) = w1 at *;generalize E8 : w.heap.size = b3 at *;have hz1 : w.heap.size ≤ b3:=by omega
 have hz2 : b3 ≤ w.heap.size:=by omega
 have hBw : B ≤ w.heap.size:=ak hB hz2;clear E8;have q8:=HP1.out.cell (i:=8) rfl
 by_cases iz : P.res.length = 16
 ·
  have HF:=zh (tP (q:=q) iz);have j16 : ((P.res.length : Int) == 16) = true:=by simp; omega
  have lC:=zh (Bc.out w1 HB.out);go_wp2_with fail;go_ret;exact ⟨by rw [HF.out]; rfl,by rw [HF.out]; exact lC.out,fk.of (HB.out.mono hz1) (ak hB hz2)⟩
 have j16 : ((P.res.length : Int) == 16) = false:=by simp; omega
 go_wp2_with fail;refine (zHQ b w1).mono ?_;rintro e w2 ⟨g,cap,rfl,hru,hb2⟩;have De:=zh hru;have gm:=zh (HX.out.below hb2);have eV:=zh (HB.out.trans (hb2.mono (ak hz2 HB.out.size)));clear hru hb2 HX HB HP1 q8
 go_upto_block 0 with fail
 go_cut [5] (fun ev wx => ∃ E st,ev = .int .i64 E ∧ Hid (zT P q = (true,more st E)) ∧ Hid (Dd wx B b st) ∧ Hid (fk B w wx))
 case first =>
  go_wp2_with fail
  go_loopw [5,18] (fun ev iv W => ∃ (j : Nat) (E : Int) (st : fG),ev = .int .i64 E ∧ iv = .int .i64 (j : Int) ∧ j ≤ 2 ∧ Hid ((j = 0 ∨ (j = 1 ∧ kind ≠ 1) ∨ (j = 2 ∧ kind ≠ 1 ∧ kind ≠ 2)) → E = 1 ∧ st = P ∧ Below b3 w W) ∧ Hid (¬ (j = 0 ∨ (j = 1 ∧ kind ≠ 1) ∨ (j = 2 ∧ kind ≠ 1 ∧ kind ≠ 2)) → zT P q = (true,more st E)) ∧ Hid (Dd W B b st) ∧ Hid (dX W b3 #[.int .i64 tk,.int .i64 kind,.int .u64 key,.int .u32 ck,.slice da dn dc] 85) ∧ Hid (iZ W b g cap) ∧ Hid (fk B w W)) (fun _ iv _ => 2 - (intOf iv).toNat)
  case atStart => exact ⟨0,1,P,rfl,rfl,aq _,zh (fun _ => ⟨rfl,rfl,eV.out⟩),zh (fun h => absurd (.inl rfl) h),zh (Bc.out w2 eV.out),gm,De,zh (fk.of (eV.out.mono hz1) hBw)⟩
  obtain ⟨j,E,st,rfl,rfl,hj2,EW,Ox,DT,HX,De,HB⟩:=hrel;rcases (show j = 0 ∨ j = 1 ∨ j = 2 by omega) with rfl | rfl | rfl
  ·
   have c0:=De.out.r.cell (i:=0) rfl;have c1:=De.out.r.cell (i:=1) rfl;have c2:=De.out.r.cell (i:=2) rfl;have c3:=De.out.r.cell (i:=3) rfl;obtain ⟨rfl,_,jP⟩:=EW.out (.inl rfl);have CN:=zh jP;clear jP Ox;have JT : b3 ≤ wr.heap.size:=ak hz2 CN.out.size;have eO:=(aj wr.heap.size wr).alloc (ai _) (.cells #[.int .i64 1,.func (.func 144) #[.pointer (some ⟨b,0,none⟩)] #[],.func (.func 145) #[] #[],.func (.func 146) #[] #[.pointer (some ⟨cap,0,none⟩)]] 192);have HY:=zh (dX.new wr #[.int .i64 1,.func (.func 144) #[.pointer (some ⟨b,0,none⟩)] #[],.func (.func 145) #[] #[],.func (.func 146) #[] #[.pointer (some ⟨cap,0,none⟩)]] 192);go_upto_region 7 with fail;change Code.wp _ _ _ _ (wr.alloc (.cells #[.int .i64 1,.func (.func 144) #[.pointer (some ⟨b,0,none⟩)] #[],.func (.func 145) #[] #[],.func (.func 146) #[] #[.pointer (some ⟨cap,0,none⟩)]] 192))
   obtain ⟨bR,KN⟩ : ∃ bR,wr.heap.size = bR:=⟨_,rfl⟩
   rw [KN] at HY ⊢
   by_cases Ff : kind = 1
   ·
    have hk : kind = 1:=Ff;subst hk;clear Ff;have jC:=zh (CN.out.trans (eO.mono JT));have JU:=zh (LG.out.below (jC.out.mono hz1));have ik:=zh (HX.out.below eO);have DL:=zh (De.out.below eO);clear eO DT HX De HB CN;generalize wr.alloc (.cells #[.int .i64 1,.func (.func 144) #[.pointer (some ⟨b,0,none⟩)] #[],.func (.func 145) #[] #[],.func (.func 146) #[] #[.pointer (some ⟨cap,0,none⟩)]] 192) = w6 at *;have y0:=HY.out.cell (i:=0) rfl;have y1:=HY.out.cell (i:=1) rfl;have x0:=ik.out.cell (i:=0) rfl;have x1:=ik.out.cell (i:=1) rfl;have x2:=ik.out.cell (i:=2) rfl;have x3:=ik.out.cell (i:=3) rfl;have x4:=ik.out.cell (i:=4) rfl;have JV : b3 ≤ w6.heap.size:=ak hz2 jC.out.size;go_wp2_with fail;refine (FH.out w6 jC.out).mono ?_;rintro e w7 ⟨rfl,B4⟩;have iJ:=zh (jC.out.trans (B4.mono JV));have jD:=zh (JU.out.below B4)
    have iC:=zh (ik.out.below B4);have Cv:=zh (DL.out.below B4);have DU:=zh (HY.out.below B4);have By : b3 ≤ w7.heap.size:=ak hz2 iJ.out.size;clear B4 y0 y1 x0 x1 x2 x3 x4 jC JU ik DL HY JV;obtain ⟨cc,hcc⟩ : ∃ cc,zn P.t q = cc:=⟨_,rfl⟩
    have Bz:=zh hcc;rw [hcc];clear hcc;rcases (show cc = 0 ∨ cc = 8 ∨ cc = 9 by rw [← Bz.out]; exact zCc) with rfl | rfl | rfl
    ·
     have JW : ∃ sb,(decide (0 < P.bytes) && decide (16384 < P.bytes + (eP dn : Int))) = sb:=⟨_,rfl⟩
     obtain ⟨sb,hsb⟩:=JW;have D6:=zh hsb;clear hsb;go_upto_region 13 with fail
     go_cut [73] (fun v wx => v = .bool sb ∧ Hid (Below w7.heap.size w7 wx))
     case first =>
      have Io:=zh (show ∀ W,Calls Tryz.prog 108 #[I4 tk 1 key ck (.slice da dn dc)] W fun e w' => e = .returned (.int .i64 (eP dn : Int)) ∧ Below W.heap.size W w' from fun W => iW.out W);have E_:=zh (show ∀ W,Below b3 w W → dX W cap #[.pointer (some ⟨b,0,none⟩)] 143 → Calls Tryz.prog 145 #[I4 tk 1 key ck (.slice da dn dc)] W fun e w' => e = .returned (.bool true) ∧ Below W.heap.size W w' from fun W _ _ => eY.out W);have SI:=LB;clear FH UT eY mo LJ iW UU IL Bc EW Bd;obtain ⟨bz,JX⟩ : ∃ bz,P.bytes = bz:=⟨_,rfl⟩
      rw [JX] at jD D6 h0 gL;clear JX
      by_cases hpos : 0 < bz
      ·
       obtain ⟨bg,hbg⟩ : ∃ bg,decide (16384 < bz + (eP dn : Int)) = bg:=⟨_,rfl⟩
       have mK:=zh hbg;have hs:=D6.out;rw [aD hpos,hbg] at hs;simp only [cT] at hs;subst hs;clear D6 hbg;have y2:=zB (DU.out.cell (i:=2) rfl);have x0:=zB (iC.out.cell (i:=0) rfl);have x1:=zB (iC.out.cell (i:=1) rfl);have x2:=zB (iC.out.cell (i:=2) rfl);have x3:=zB (iC.out.cell (i:=3) rfl);have x4:=zB (iC.out.cell (i:=4) rfl);have q9:=zB (jD.out.cell (i:=9) rfl);have hg1 : decide (0 < bz) = true:=aD hpos;have hg2 : decide (16384 < bz + (eP dn : Int)) = bg:=mK.out;refine zC (by kernel_rfl) (by kernel_rfl) ?_
       repeat (go_big_quiet_step (first | exact zE (E_.out _ (iJ.out.trans ((ei.h _).mono By)) (Cv.out.c.below (ei.h _))) | exact zE (Io.out _)))
       refine aA ?_;intro _ hw';obtain ⟨qq,hw'⟩:=hw';subst hw';have ey:=zh qq.h;clear y2 x0 x1 x2 x3 x4 q9;generalize qq.w' = w8 at *;go_wp2_with fail;go_meet
       case rel => exact ⟨rfl,ey⟩
      obtain rfl : bz = 0:=by omega
      have hs:=D6.out;rw [aC hpos] at hs;simp only [cT,Bool.false_and] at hs;subst hs;clear D6 hpos;have y2:=zB (DU.out.cell (i:=2) rfl);have x0:=zB (iC.out.cell (i:=0) rfl);have x1:=zB (iC.out.cell (i:=1) rfl);have x2:=zB (iC.out.cell (i:=2) rfl);have x3:=zB (iC.out.cell (i:=3) rfl);have x4:=zB (iC.out.cell (i:=4) rfl);have q9:=zB (jD.out.cell (i:=9) rfl);refine zC (by kernel_rfl) (by kernel_rfl) ?_
      repeat (go_big_quiet_step (first | exact zE (E_.out _ (iJ.out.trans ((ei.h _).mono By)) (Cv.out.c.below (ei.h _))) | exact zE (Io.out _)))
      refine aA ?_;intro _ hw';obtain ⟨qq,hw'⟩:=hw';subst hw';have ey:=zh qq.h;clear y2 x0 x1 x2 x3 x4 q9;generalize qq.w' = w8 at *;go_wp2_with fail;go_meet
      case rel => exact ⟨rfl,ey⟩
     obtain ⟨rfl,mF⟩:=hcut;generalize wc = w8 at *;have jq:=zh (iJ.out.trans (mF.out.mono By));have C8:=zh (iC.out.below mF.out);have Ip:=zh (Cv.out.below mF.out);have Mr:=zh (DU.out.below mF.out);clear mF iC Cv DU jD iJ By
     cases sb
     ·
      have HF:=zh (vn (q:=q) iz E6.out Bz.out (show ¬ (0 < P.bytes ∧ 16384 < P.bytes + (eP q.data.length : Int)) from by
       have hs:=D6.out
       intro hh
       have IG : (decide (0 < P.bytes) && decide (16384 < P.bytes + (eP dn : Int))) = true:=by simp only [aO,aS]; exact ⟨hh.1,by rw [← HDn.out]; exact hh.2⟩
       rw [IG] at hs
       cases hs))
      have y3:=Mr.out.cell (i:=3) rfl;have x0:=C8.out.cell (i:=0) rfl;have x1:=C8.out.cell (i:=1) rfl;have x2:=C8.out.cell (i:=2) rfl;have x3:=C8.out.cell (i:=3) rfl;have x4:=C8.out.cell (i:=4) rfl;have Oy : b3 ≤ w8.heap.size:=ak hz2 jq.out.size;go_wp2_with fail;refine (UU.out w8 cap Bz.out jq.out Ip.out.c).mono ?_;rintro e w9 ⟨rfl,D5,gL⟩;have lL:=zh ((fk.of (jq.out.mono hz1) hBw).trans gL);have Bk:=zh (gL.box C8.out (by decide));have Oz:=zh (Ip.out.kept gL);have El:=zh D5;clear D5 gL C8 Ip Mr jq y3 x0 x1 x2 x3 x4 Oy;go_wp2_with fail;exact ⟨⟨1,0,_,rfl,rfl,by decide,zh (fun h => by omega),zh (fun _ => HF.out),El,Bk,Oz,lL⟩,by simp [intOf]⟩
     have HF:=zh (tE (q:=q) iz E6.out Bz.out (show 0 < P.bytes ∧ 16384 < P.bytes + (eP q.data.length : Int) from by
      have hs:=D6.out
      simp only [aO,aS] at hs
      exact ⟨hs.1,by rw [HDn.out]; exact hs.2⟩))
     have lC:=zh (Bc.out w8 jq.out);go_wp2_with fail;go_ret;exact ⟨by rw [HF.out]; rfl,by rw [HF.out]; exact lC.out,fk.of (jq.out.mono hz1) hBw⟩
    ·
     have HF:=zh (wy (q:=q) iz E6.out (fun h => by have:=h.1; rw [Bz.out] at this; cases this) (by rw [Bz.out]; decide));have lC:=zh (Bc.out w7 iJ.out);have fK:=zh (fk.of (iJ.out.mono hz1) hBw);have HF8:=zh (show zT P q = (true,more P 8) by have h:=HF.out; rw [Bz.out] at h; exact h);clear HF;go_wp2_with fail;go_meet
     case rel => exact ⟨8,P,rfl,HF8,lC,fK⟩
    by_cases hcs : wh P.t = true
    ·
     have HF:=zh (qi (q:=q) iz E6.out Bz.out hcs);have q0:=jD.out.cell (i:=0) rfl;have q1:=jD.out.cell (i:=1) rfl;have q2:=jD.out.cell (i:=2) rfl;have q3:=jD.out.cell (i:=3) rfl;go_wp2_with fail;refine (LJ.out w7 iJ.out).mono ?_;rintro e w8 ⟨rfl,Fj⟩;rw [hcs];have jq:=zh (iJ.out.trans (Fj.mono By));have OA:=jD.out.below Fj;have PQ:=zh (Bd.out.below (jq.out.mono hz1));have q8:=OA.cell (i:=8) rfl;have q4:=OA.cell (i:=4) rfl;have f4:=OA.frozen 4;obtain ⟨rz,hrz⟩ : ∃ rz,((P.res.length : Int) == 0) = rz:=⟨_,rfl⟩
     have Zj : decide (P.res.length = 0) = rz:=by
      rw [← hrz]
      by_cases e : P.res.length = 0
      ·
       simp [e]
      have e2 : ¬ (P.res.length : Int) = 0:=by omega
      simp [e]
     have A_ : iH w8 (w8.setCell ⟨b,4,none⟩ (.bool rz)) B b 145:=iH.pts hlo ⟨_,_,OA⟩ [(4,.bool rz)];have CX:=zh (PQ.out.jB A_);have El:=zh (show CG (w8.setCell ⟨b,4,none⟩ (.bool rz)) b P.t.id P.t.lim P.t.ro ga gn gc rz kv nv (.slice ra P.res.length rc) P.bytes from (by have h:=OA.set 4 (.bool rz); rw [zMG] at h; exact h));have lL:=zh ((fk.of (jq.out.mono hz1) hBw).pts hlo [(4,.bool rz)] ⟨_,_,OA⟩ (by decide));clear Fj OA A_ PQ jD jq q0 q1 q2 q3 iC Cv DU iJ;go_wp2_with fail;go_ret;exact ⟨by rw [HF.out]; rfl,by rw [HF.out,Zj]; exact ⟨ga,gn,gc,L,kv,ks,nv,es,_,hlo,El.out,⟨CX.out.g,CX.out.gg,CX.out.k,CX.out.kk,CX.out.n,CX.out.nn,CX.out.r⟩⟩,lL.out⟩
    have hcf : wh P.t = false:=by simpa using hcs
    have HF:=zh (wy (q:=q) iz E6.out (fun h => hcs h.2) (by rw [Bz.out]; decide));have lC:=zh (Bc.out w7 iJ.out);have fK:=zh (fk.of (iJ.out.mono hz1) hBw);have q0:=jD.out.cell (i:=0) rfl;have q1:=jD.out.cell (i:=1) rfl;have q2:=jD.out.cell (i:=2) rfl;have q3:=jD.out.cell (i:=3) rfl;go_wp2_with fail;refine (LJ.out w7 iJ.out).mono ?_;rintro e w8 ⟨rfl,Fj⟩;rw [hcf];have jq:=zh (iJ.out.trans (Fj.mono By));have Zk:=zh (Bc.out w8 jq.out);have Zl:=zh (fk.of (jq.out.mono hz1) hBw);have HF9:=zh (show zT P q = (true,more P 9) by have h:=HF.out; rw [Bz.out] at h; exact h);clear Fj lC fK q0 q1 q2 q3 HF;go_wp2_with fail;go_meet
    case rel => exact ⟨9,P,rfl,HF9,Zk,Zl⟩
   have jC:=zh (CN.out.trans (eO.mono JT));have ik:=zh (HX.out.below eO);have DL:=zh (De.out.below eO);have lC:=zh (Bc.out _ jC.out);clear eO DT HX De HB CN c0 c1 c2 c3;generalize wr.alloc (.cells #[.int .i64 1,.func (.func 144) #[.pointer (some ⟨b,0,none⟩)] #[],.func (.func 145) #[] #[],.func (.func 146) #[] #[.pointer (some ⟨cap,0,none⟩)]] 192) = w6 at *;have y0:=HY.out.cell (i:=0) rfl;have x1:=ik.out.cell (i:=1) rfl;have hk2 : ¬ (1 : Int) = kind:=fun h => Ff h.symm
   have fK:=zh (fk.of (jC.out.mono hz1) hBw);go_wp2_with fail;exact ⟨⟨1,1,P,rfl,rfl,by decide,zh (fun _ => ⟨rfl,rfl,jC.out⟩),zh (fun h => absurd (.inr (.inl ⟨rfl,Ff⟩)) h),lC,ik,DL,fK⟩,by simp [intOf]⟩
  ·
   have c0:=De.out.r.cell (i:=4) rfl;have c1:=De.out.r.cell (i:=5) rfl;have c2:=De.out.r.cell (i:=6) rfl;have c3:=De.out.r.cell (i:=7) rfl
   by_cases Zm : kind = 1
   ·
    have pX:=Ox.out (by omega);have Zn:=zh pX;clear pX Ox EW;subst Zm;have x1:=HX.out.cell (i:=1) rfl;have eO:=(aj wr.heap.size wr).alloc (ai _) (.cells #[.int .i64 2,.func (.func 149) #[.pointer (some ⟨b,0,none⟩)] #[],.func (.func 150) #[] #[.pointer (some ⟨cap,0,none⟩)],.func (.func 152) #[.pointer (some ⟨b,0,none⟩)] #[]] 192);have Kj : B ≤ wr.heap.size:=ak hB (ak hz2 HB.out.size);have JY:=zh (DT.out.below eO);have gm:=zh (HX.out.below eO);have Zo:=zh (De.out.below eO);have eV:=zh (HB.out.step eO Kj);have x1:=gm.out.cell (i:=1) rfl;clear eO;go_wp2_with fail;exact ⟨⟨2,E,st,rfl,rfl,ai _,zh (fun h => by omega),zh (fun _ => Zn.out),JY,gm,Zo,eV⟩,by simp [intOf]⟩
   obtain ⟨rfl,_,jP⟩:=EW.out (.inr (.inl ⟨rfl,Zm⟩));have CN:=zh jP;clear jP Ox;have JT : b3 ≤ wr.heap.size:=ak hz2 CN.out.size;have eO:=(aj wr.heap.size wr).alloc (ai _) (.cells #[.int .i64 2,.func (.func 149) #[.pointer (some ⟨b,0,none⟩)] #[],.func (.func 150) #[] #[.pointer (some ⟨cap,0,none⟩)],.func (.func 152) #[.pointer (some ⟨b,0,none⟩)] #[]] 192);have HY:=zh (dX.new wr #[.int .i64 2,.func (.func 149) #[.pointer (some ⟨b,0,none⟩)] #[],.func (.func 150) #[] #[.pointer (some ⟨cap,0,none⟩)],.func (.func 152) #[.pointer (some ⟨b,0,none⟩)] #[]] 192);go_upto_region 7 with fail;change Code.wp _ _ _ _ (wr.alloc (.cells #[.int .i64 2,.func (.func 149) #[.pointer (some ⟨b,0,none⟩)] #[],.func (.func 150) #[] #[.pointer (some ⟨cap,0,none⟩)],.func (.func 152) #[.pointer (some ⟨b,0,none⟩)] #[]] 192));obtain ⟨bR,KN⟩ : ∃ bR,wr.heap.size = bR:=⟨_,rfl⟩
   rw [KN] at HY ⊢
   by_cases Ff : kind = 2
   ·
    have hk : kind = 2:=Ff;subst hk;clear Ff;have jC:=zh (CN.out.trans (eO.mono JT));have JU:=zh (LG.out.below (jC.out.mono hz1));have ik:=zh (HX.out.below eO);have DL:=zh (De.out.below eO);clear eO DT HX De HB CN;generalize wr.alloc (.cells #[.int .i64 2,.func (.func 149) #[.pointer (some ⟨b,0,none⟩)] #[],.func (.func 150) #[] #[.pointer (some ⟨cap,0,none⟩)],.func (.func 152) #[.pointer (some ⟨b,0,none⟩)] #[]] 192) = w6 at *;have y0:=HY.out.cell (i:=0) rfl;have y1:=HY.out.cell (i:=1) rfl;have x0:=ik.out.cell (i:=0) rfl;have x1:=ik.out.cell (i:=1) rfl;have x2:=ik.out.cell (i:=2) rfl;have x3:=ik.out.cell (i:=3) rfl;have x4:=ik.out.cell (i:=4) rfl;have JV : b3 ≤ w6.heap.size:=ak hz2 jC.out.size;go_wp2_with fail;refine (UT.out w6 jC.out).mono ?_;rintro e w7 ⟨rfl,B4⟩;have iJ:=zh (jC.out.trans (B4.mono JV));have jD:=zh (JU.out.below B4)
    have iC:=zh (ik.out.below B4);have Cv:=zh (DL.out.below B4);have DU:=zh (HY.out.below B4);have By : b3 ≤ w7.heap.size:=ak hz2 iJ.out.size;clear B4 y0 y1 x0 x1 x2 x3 x4 jC JU ik DL HY JV;obtain ⟨cc,hcc⟩ : ∃ cc,xS P.t q = cc:=⟨_,rfl⟩
    have Bz:=zh hcc;rw [hcc];clear hcc;rcases (show cc = 0 ∨ cc = 6 by rw [← Bz.out]; exact uW) with rfl | rfl
    ·
     have JW : ∃ sb,(wT P.t key && (decide (0 < P.bytes) && decide (16384 < P.bytes + 24))) = sb:=⟨_,rfl⟩
     obtain ⟨sb,hsb⟩:=JW;have D6:=zh hsb;clear hsb;go_upto_region 13 with fail
     go_cut [73] (fun v wx => v = .bool sb ∧ Hid (Below w7.heap.size w7 wx))
     case first =>
      have Io:=zh (show ∀ W,Calls Tryz.prog 108 #[I4 tk 2 key ck (.slice da dn dc)] W fun e w' => e = .returned (.int .i64 24) ∧ Below W.heap.size W w' from fun W => iW.out W);have E_:=zh (show ∀ W,Below b3 w W → dX W cap #[.pointer (some ⟨b,0,none⟩)] 143 → Calls Tryz.prog 150 #[I4 tk 2 key ck (.slice da dn dc),.pointer (some ⟨cap,0,none⟩)] W fun e w' => e = .returned (.bool (wT P.t key)) ∧ Below W.heap.size W w' from fun W hb hc => mo.out W cap hb hc);have SI:=LB;clear FH UT eY mo LJ iW UU IL Bc EW Bd;obtain ⟨bz,JX⟩ : ∃ bz,P.bytes = bz:=⟨_,rfl⟩
      rw [JX] at jD D6 h0 gL;clear JX;obtain ⟨tb,htb⟩ : ∃ tb,wT P.t key = tb:=⟨_,rfl⟩
      rw [htb] at E_ D6;clear htb
      cases tb
      ·
       have hs:=D6.out;rw [Bool.false_and] at hs;subst hs;clear D6;have y2:=zB (DU.out.cell (i:=2) rfl);have x0:=zB (iC.out.cell (i:=0) rfl);have x1:=zB (iC.out.cell (i:=1) rfl);have x2:=zB (iC.out.cell (i:=2) rfl);have x3:=zB (iC.out.cell (i:=3) rfl);have x4:=zB (iC.out.cell (i:=4) rfl);refine zC (by kernel_rfl) (by kernel_rfl) ?_
       repeat (go_big_quiet_step (first | exact zE (E_.out _ (iJ.out.trans ((ei.h _).mono By)) (Cv.out.c.below (ei.h _))) | exact zE (Io.out _)))
       refine aA ?_;intro _ hw';obtain ⟨qq,hw'⟩:=hw';subst hw';have ey:=zh qq.h;clear y2 x0 x1 x2 x3 x4;generalize qq.w' = w8 at *;go_wp2_with fail;go_meet
       case rel => exact ⟨rfl,ey⟩
      by_cases hpos : 0 < bz
      ·
       obtain ⟨bg,hbg⟩ : ∃ bg,decide (16384 < bz + 24) = bg:=⟨_,rfl⟩
       have mK:=zh hbg;have hs:=D6.out;rw [aD hpos,hbg] at hs;simp only [cT] at hs;subst hs;clear D6 hbg;have y2:=zB (DU.out.cell (i:=2) rfl);have x0:=zB (iC.out.cell (i:=0) rfl);have x1:=zB (iC.out.cell (i:=1) rfl);have x2:=zB (iC.out.cell (i:=2) rfl);have x3:=zB (iC.out.cell (i:=3) rfl);have x4:=zB (iC.out.cell (i:=4) rfl);have q9:=zB (jD.out.cell (i:=9) rfl);have hg1 : decide (0 < bz) = true:=aD hpos;have hg2 : decide (16384 < bz + 24) = bg:=mK.out;refine zC (by kernel_rfl) (by kernel_rfl) ?_
       repeat (go_big_quiet_step (first | exact zE (E_.out _ (iJ.out.trans ((ei.h _).mono By)) (Cv.out.c.below (ei.h _))) | exact zE (Io.out _)))
       refine aA ?_;intro _ hw';obtain ⟨qq,hw'⟩:=hw';subst hw';have ey:=zh qq.h;clear y2 x0 x1 x2 x3 x4 q9;generalize qq.w' = w8 at *;go_wp2_with fail;go_meet
       case rel => exact ⟨rfl,ey⟩
      obtain rfl : bz = 0:=by omega
      have hs:=D6.out;rw [aC hpos] at hs;simp only [cT,Bool.false_and] at hs;subst hs;clear D6 hpos;have y2:=zB (DU.out.cell (i:=2) rfl);have x0:=zB (iC.out.cell (i:=0) rfl);have x1:=zB (iC.out.cell (i:=1) rfl);have x2:=zB (iC.out.cell (i:=2) rfl);have x3:=zB (iC.out.cell (i:=3) rfl);have x4:=zB (iC.out.cell (i:=4) rfl);have q9:=zB (jD.out.cell (i:=9) rfl);refine zC (by kernel_rfl) (by kernel_rfl) ?_
      repeat (go_big_quiet_step (first | exact zE (E_.out _ (iJ.out.trans ((ei.h _).mono By)) (Cv.out.c.below (ei.h _))) | exact zE (Io.out _)))
      refine aA ?_;intro _ hw';obtain ⟨qq,hw'⟩:=hw';subst hw';have ey:=zh qq.h;clear y2 x0 x1 x2 x3 x4 q9;generalize qq.w' = w8 at *;go_wp2_with fail;go_meet
      case rel => exact ⟨rfl,ey⟩
     obtain ⟨rfl,mF⟩:=hcut;generalize wc = w8 at *;have jq:=zh (iJ.out.trans (mF.out.mono By));have C8:=zh (iC.out.below mF.out);have Ip:=zh (Cv.out.below mF.out);have Mr:=zh (DU.out.below mF.out);clear mF iC Cv DU jD iJ By
     cases sb
     ·
      have HF:=zh (ww (q:=q) iz E6.out Bz.out (show ¬ (wT P.t q.key = true ∧ 0 < P.bytes ∧ 16384 < P.bytes + 24) from by
       have hs:=D6.out
       intro hh
       have IG : (wT P.t key && (decide (0 < P.bytes) && decide (16384 < P.bytes + 24))) = true:=by simp only [aO,aS]; exact ⟨by rw [← UI.out]; exact hh.1,hh.2⟩
       rw [IG] at hs
       cases hs))
      have y3:=Mr.out.cell (i:=3) rfl;have x0:=C8.out.cell (i:=0) rfl;have x1:=C8.out.cell (i:=1) rfl;have x2:=C8.out.cell (i:=2) rfl;have x3:=C8.out.cell (i:=3) rfl;have x4:=C8.out.cell (i:=4) rfl;have Oy : b3 ≤ w8.heap.size:=ak hz2 jq.out.size;go_wp2_with fail;refine (IL.out w8 jq.out).mono ?_;rintro e w9 ⟨rfl,D5,gL⟩;have lL:=zh ((fk.of (jq.out.mono hz1) hBw).trans gL);have Bk:=zh (gL.box C8.out (by decide));have Oz:=zh (Ip.out.kept gL);have El:=zh D5;clear D5 gL C8 Ip Mr jq y3 x0 x1 x2 x3 x4 Oy;go_wp2_with fail;exact ⟨⟨2,0,_,rfl,rfl,by decide,zh (fun h => by omega),zh (fun _ => HF.out),El,Bk,Oz,lL⟩,by simp [intOf]⟩
     have HF:=zh (tR (q:=q) iz E6.out Bz.out (show wT P.t q.key = true ∧ 0 < P.bytes ∧ 16384 < P.bytes + 24 from by
      have hs:=D6.out
      simp only [aO,aS] at hs
      exact ⟨by rw [UI.out]; exact hs.1,hs.2⟩))
     have lC:=zh (Bc.out w8 jq.out);go_wp2_with fail;go_ret;exact ⟨by rw [HF.out]; rfl,by rw [HF.out]; exact lC.out,fk.of (jq.out.mono hz1) hBw⟩
    have HF:=zh (vC (q:=q) iz E6.out Bz.out);have lC:=zh (Bc.out w7 iJ.out);have fK:=zh (fk.of (iJ.out.mono hz1) hBw);go_wp2_with fail;go_meet
    case rel => exact ⟨6,P,rfl,HF,lC,fK⟩
   have jC:=zh (CN.out.trans (eO.mono JT));have ik:=zh (HX.out.below eO);have DL:=zh (De.out.below eO);have lC:=zh (Bc.out _ jC.out);clear eO DT HX De HB CN c0 c1 c2 c3;generalize wr.alloc (.cells #[.int .i64 2,.func (.func 149) #[.pointer (some ⟨b,0,none⟩)] #[],.func (.func 150) #[] #[.pointer (some ⟨cap,0,none⟩)],.func (.func 152) #[.pointer (some ⟨b,0,none⟩)] #[]] 192) = w6 at *;have y0:=HY.out.cell (i:=0) rfl;have x1:=ik.out.cell (i:=1) rfl;have hk2 : ¬ (2 : Int) = kind:=fun h => Ff h.symm
   have fK:=zh (fk.of (jC.out.mono hz1) hBw);go_wp2_with fail;exact ⟨⟨2,1,P,rfl,rfl,by decide,zh (fun _ => ⟨rfl,rfl,jC.out⟩),zh (fun h => absurd (.inr (.inr ⟨rfl,Zm,Ff⟩)) h),lC,ik,DL,fK⟩,by simp [intOf]⟩
  by_cases Zp : kind ≠ 1 ∧ kind ≠ 2
  ·
   obtain ⟨rfl,_,jP⟩:=EW.out (.inr (.inr ⟨rfl,Zp⟩));have lC:=zh (Bc.out _ jP);have HF:=zh (vL (P:=P) (q:=q) iz (by rw [E6.out]; exact Zp.1) (by rw [E6.out]; exact Zp.2));clear EW Ox jP;go_wp2_with fail;go_meet
   case rel => exact ⟨1,P,rfl,HF,lC,HB⟩
  have HF:=zh (Ox.out (fun h => by omega));clear EW Ox;go_wp2_with fail;go_meet
  case rel => exact ⟨E,st,rfl,HF,DT,HB⟩
 obtain ⟨E,st,rfl,HF,DT,HB⟩:=hcut;generalize wc = v1 at *;obtain ⟨Bu,Bv,gc',L',Oi,Et,JQ,es',UQ,OB,Zq,Zr⟩:=DT.out;obtain ⟨ra',rc',Zs,ap6,ap7,_⟩:=zM Zr.r;subst Zs;have ag_ : st.res.length ≤ 16:=by
  have h:=(qr P q LI).1;rw [HF.out] at h;unfold more at h;simp only [ax,aW,dM] at h;omega
 have hB1 : B ≤ v1.heap.size:=ak hBw HB.out.size;have q8:=Zq.cell (i:=8) rfl;have eO:=(aj v1.heap.size v1).alloc (ai _) (.cells #[.int .i64 E] 39);have ME:=zh (Zq.below eO);have KJ:=zh (Zr.below eO);have H9:=zh (HB.out.step eO hB1);have h_:=zh KJ.out.r;have hBa:=ak hB1 eO.size;clear eO Zq Zr DT HB FH UT eY mo LJ iW UU IL Bc gm eV De LG Bd;go_wp2_with (at_builtin; go_must (refine zi (n:=st.res.length) (m:=1) rfl (.tmp 84) (.tmp 86) 69 rfl zL7 B rfl h_.out rfl (Rd.Da v1.heap.size v1 rfl 1 [.int .i64 E] 39 1 rfl (by decide)) (fun u hu => by simp only [cA,cB,or_false] at hu; rw [hu]; rfl) (by unfold maxLen; omega) (by omega) hBa ?_); intro v3 w3 eu fh hv3; clear hv3; obtain ⟨oa,oc,ev,_,_,_⟩:=zM eu; subst ev; have D5:=ME.out.gD (gM.row h_.out fh (ai B)) (by decide); have c8:=D5.cell (i:=8) rfl; have f8:=D5.frozen 8)
 have A_ : iH w3 (w3.setCell ⟨b,8,none⟩ (.slice oa (st.res.length + 1) oc)) B b 145:=iH.pts OB ⟨_,_,D5⟩ [(8,.slice oa (st.res.length + 1) oc)];have CX:=zh ((KJ.out.res E fh eu).1.jB A_);have El:=zh (show CG (w3.setCell ⟨b,8,none⟩ (.slice oa (st.res.length + 1) oc)) b st.t.id st.t.lim st.t.ro Bu Bv gc' st.eN Oi JQ (.slice oa (st.res.length + 1) oc) st.bytes from (by have h:=D5.set 8 (.slice oa (st.res.length + 1) oc); rw [zMb] at h; exact h));have lL:=zh ((H9.out.own h_.out hBa fh (by decide)).pts OB [(8,.slice oa (st.res.length + 1) oc)] ⟨_,_,D5⟩ (by decide));clear eu fh D5 A_ c8 f8 q8;go_wp2_with fail;go_ret;exact ⟨by rw [HF.out]; rfl,by rw [HF.out]; exact ⟨Bu,Bv,gc',L',Oi,Et,JQ,es',_,OB,El.out,CX.out⟩,lL.out⟩
end Go.Proofs.YtcgfilmmokmdjaaGreat
