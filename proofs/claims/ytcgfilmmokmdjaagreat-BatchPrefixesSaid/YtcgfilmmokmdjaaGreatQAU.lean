/- A part of the walk. -/
import Derived.Test.YtcgfilmmokmdjaaGreatBk
import Derived.Test.YtcgfilmmokmdjaaGreatQAA
import Derived.Deep.Onto
import Derived.Laws.EntriesVeiled
import Derived.Test.YtcgfilmmokmdjaaGreatQAN
set_option linter.all false
set_option maxRecDepth 100000
set_option maxHeartbeats 32000000
namespace Go.Proofs.YtcgfilmmokmdjaaGreat
open Go.RowKit
def zMy (B dn : Nat) (l : List UInt8) : pY:=⟨fun v w => ∃ a c,v = .slice a dn c ∧ gF w B (.slice a dn c) l,fun _ _ _ hb ⟨a,c,h1,h2⟩ => ⟨a,c,h1,iA.below h2 hb⟩⟩
def zMw (B : Nat) (key ck : Int) (dn : Nat) (l : List UInt8) : pY:=⟨fun v w => ∃ a c,v = .agg #[.int .u64 key,.int .u32 ck,.bool false,.slice a dn c] ∧ gF w B (.slice a dn c) l,fun _ _ _ hb ⟨a,c,h1,h2⟩ => ⟨a,c,h1,iA.below h2 hb⟩⟩
theorem zGF (v : Value) (l : List UInt8) (w : World) (h : CZ w v l) (hs : l.length ≤ 1000000) :
  Calls Tryz.prog 148 #[v] w fun e w' => ∃ v',e = .returned v' ∧ Tq w' w.heap.size v' l ∧ Below w.heap.size w w':=by
 obtain ⟨a,cap,rfl,h1,h2⟩:=h.gl;have q22 : ∀ (w : World) (a : Option Addr) (n c n' c' : Nat),(binOp .eql 54 (.slice a n c) (.slice none n' c')).run Tryz.prog w = .ok (.bool a.isNone) w:=fun w a n c n' c' => Lib.run_eql_slice_nil w _ _ a n c n' c' Tryz.underlying54
 cases a with
 | none =>
  have h0 : l = []:=by
   obtain ⟨_,a',cap',e,_,_,h5,_⟩:=h;injection e with e1 e2 e3;have:=h5 e1.symm;exact List.length_eq_zero_iff.1 (by omega)
  subst h0;clear h
  go_enter Tryz.func148,Tryz.ntmps148
  go_wp2_with fail;go_ret;exact ⟨_,rfl,aU _ _ _ _,aj _ _⟩
 | some p =>
  have Hr:=zh h;generalize hn : l.length = n at *;have HL:=zh hn;clear h hn
  go_enter Tryz.func148,Tryz.ntmps148
  go_wp2_with (at_builtin; go_must (refine zi (n:=0) (m:=n) rfl (.tmp 5) (.tmp 6) 54 rfl Tp w.heap.size rfl (di (size:=1) _ #[] 0 (ai _) (by decide) rfl) rfl (by have:=iw.alloc Hr.out (.cells #[] 5); unfold iw at this; rw [HL.out] at this; exact this) (zC9 _) (by unfold maxLen; omega) (by omega) (by simp) ?_); intro v3 w3 eu fh hv3; clear hv3);have HB:=zh (zL ((aj w.heap.size w).alloc (ai _) _) (di (e:=5) (size:=1) w #[] 0 (ai _) (by decide) rfl) (by simp) fh);have HO:=zh (zLb eu (bV _));clear eu fh;go_wp2_with fail;go_ret;exact ⟨_,rfl,HO.out,HB.out⟩
theorem zII (tk kind key ck : Int) (da : Option Addr) (dn dc : Nat) (w : World) : Calls Tryz.prog 145 #[I4 tk kind key ck (.slice da dn dc)] w fun e w' => e = .returned (.bool true) ∧ Below w.heap.size w w':=by
 have hb:=(aj w.heap.size w).alloc (ai _) (.cells #[.int .i64 tk,.int .i64 kind,.int .u64 key,.int .u32 ck,.slice da dn dc] 85);have HB:=zh hb;clear hb
 go_enter Tryz.func145,Tryz.ntmps145
 go_upto_region 1 with fail;change Code.wp _ _ _ _ (w.alloc (.cells #[.int .i64 tk,.int .i64 kind,.int .u64 key,.int .u32 ck,.slice da dn dc] 85));generalize w.alloc (.cells #[.int .i64 tk,.int .i64 kind,.int .u64 key,.int .u32 ck,.slice da dn dc] 85) = w1 at *;go_wp2_with fail;go_ret;exact ⟨rfl,HB.out⟩
theorem zHX (b cap : Nat) (t : eL) (ga : Option Addr) (gn gc : Nat) (L : List GP) (eN : Bool) (kv nv rv : Value) (mg : Int) (tk kind key ck : Int) (da : Option Addr) (dn dc : Nat) (w : World) (hcap : dX w cap #[.pointer (some ⟨b,0,none⟩)] 143) (hb : CG w b t.id t.lim t.ro ga gn gc eN kv nv rv mg) (hg : fH w (.slice ga gn gc) L) (B6 : ea L = t.dW) (hl : fA 1000 t.dW) :
  Calls Tryz.prog 150 #[I4 tk kind key ck (.slice da dn dc),.pointer (some ⟨cap,0,none⟩)] w fun e w' => e = .returned (.bool (wT t key)) ∧ Below w.heap.size w w':=by
 have eO:=(aj w.heap.size w).alloc (ai _) (.cells #[.int .i64 tk,.int .i64 kind,.int .u64 key,.int .u32 ck,.slice da dn dc] 85);have HX:=zh (dX.new w #[.int .i64 tk,.int .i64 kind,.int .u64 key,.int .u32 ck,.slice da dn dc] 85);have HC:=zh (hcap.below eO);have MD:=zh (zEt b t ga gn gc L eN kv nv rv mg key (w.alloc (.cells #[.int .i64 tk,.int .i64 kind,.int .u64 key,.int .u32 ck,.slice da dn dc] 85)) (hb.below eO) (fH.below hg eO) B6 hl);have HB:=zh eO;clear eO hb hg B6 hl hcap;generalize wT t key = tb at *
 go_enter Tryz.func150,Tryz.ntmps150
 go_upto_region 1 with fail;change Code.wp _ _ _ _ (w.alloc (.cells #[.int .i64 tk,.int .i64 kind,.int .u64 key,.int .u32 ck,.slice da dn dc] 85));generalize w.alloc (.cells #[.int .i64 tk,.int .i64 kind,.int .u64 key,.int .u32 ck,.slice da dn dc] 85) = w1 at *;have x2:=HX.out.cell (i:=2) rfl;have c0:=HC.out.cell (i:=0) rfl;go_wp2_with fail;refine MD.out.mono ?_;rintro e w2 ⟨rfl,hb2⟩;have eV:=zh (zA HB.out hb2);clear hb2;go_wp2_with fail;go_ret;exact ⟨rfl,eV.out⟩
theorem zJE {w : World} {B b : Nat} {P : fG} {ga : Option Addr} {gn gc : Nat} {L : List GP} {kv : Value} {ks : List KP} {nv : Value} {es : List (Nd × Value)} {rv : Value} (hlo : B ≤ b) (hP : CG w b P.t.id P.t.lim P.t.ro ga gn gc P.eN kv nv rv P.bytes) (hR : lF w B P ga gn gc L kv ks nv es rv) (hl : fA 900 P.t.dW) (hB : B ≤ w.heap.size) (hel : es.length ≤ 1000) (hby : 0 ≤ P.bytes ∧ P.bytes ≤ 1000000000) (q : Rq) (cap : Nat) (tk kind key ck : Int) (da : Option Addr) (dn dc : Nat) (hcap : dX w cap #[.pointer (some ⟨b,0,none⟩)] 143) (hd : CZ w (.slice da dn dc) q.data) (iy : dn ≤ 100000) (I7 : (q.key : Int) = key) (KL : (q.ck : Int) = ck) :
  Calls Tryz.prog 146 #[I4 tk kind key ck (.slice da dn dc),.pointer (some ⟨cap,0,none⟩)] w fun e w' => e = .returned (.tuple #[]) ∧ Dd w' B b (vy P (uJ q)) ∧ fk B w w':=by
 have Ch : q.data.length = dn:=by obtain ⟨_,_,_,e,_⟩:=hd; injection e with _ e _; exact e.symm
 have eO:=(aj w.heap.size w).alloc (ai _) (.cells #[.int .i64 tk,.int .i64 kind,.int .u64 key,.int .u32 ck,.slice da dn dc] 85);have HX:=zh (dX.new w #[.int .i64 tk,.int .i64 kind,.int .u64 key,.int .u32 ck,.slice da dn dc] 85);have HC:=zh (hcap.below eO);have HB:=zh eO;have HDn:=zh Ch;have Rb:=zh (fun W (hb : Below w.heap.size w W) => zGF (.slice da dn dc) q.data W (iw.below hd hb) (by omega));have CW:=zh (fun W va vc (hb : Below w.heap.size w W) (hv : gF W B (.slice va dn vc) (uJ q).data) => zFL hlo (hP.below hb) (hR.below hb) hl (ak hB hb.size) (uJ q) va dn vc hv Ch iy hel hby);have Ov:=zh (show ((uJ q).key : Int) = key ∧ ((uJ q).ck : Int) = ck ∧ (uJ q).del = false from ⟨I7,KL,rfl⟩);obtain ⟨Bf,hd2,IJ⟩:=Ov.out;rw [Bf,hd2,IJ] at CW;clear eO hcap hd Bf hd2 IJ Ov hP hR hl hel hby I7 KL;generalize vy P (uJ q) = D at *
 change Hid (∀ W va vc,Below w.heap.size w W → gF W B (.slice va dn vc) q.data → _) at CW;generalize q.data = ql at *;generalize fF : w.heap.size = bx at *;have eG:=zh fF;have UO : bx ≤ w.heap.size:=by omega
 have hwc : w.heap.size ≤ bx:=by omega
 clear fF
 go_enter Tryz.func146,Tryz.ntmps146
 go_upto_region 1 with fail
 try rw [eG.out]
 generalize w.alloc (.cells #[.int .i64 tk,.int .i64 kind,.int .u64 key,.int .u32 ck,.slice da dn dc] 85) = w1 at *;refine yx [eX (.pointer (some ⟨b,0,none⟩)),eX (.pointer (some ⟨bx,2,none⟩)),eX (.int .u64 key),eX (.pointer (some ⟨bx,3,none⟩)),eX (.int .u32 ck),eX (.pointer (some ⟨bx,4,none⟩)),eX (.slice da dn dc),zMy B dn ql,zMw B key ck dn ql] [] 13 (by kernel_rfl) (by kernel_rfl) (by rfl) (by kernel_rfl) (fun f => by simp [fD,zW,Act.put]; exact rfl) ?_ ?_
 ·
  refine ⟨?_,?_,?_,?_,?_,?_,?_,?_,?_,trivial⟩
  ·
   intro f w2 hb hd;clear hd;dsimp only;have c0:=(HC.out.below hb).cell (i:=0) rfl;go_wp2_with fail;exact pS rfl (by simp)
  ·
   intro f w2 hb hd;clear hd;dsimp only;go_wp2_with fail;exact pS rfl (by simp)
  ·
   intro f w2 hb hd;have d1 : f 1 = (.pointer (some ⟨bx,2,none⟩)):=hd 1 (by kernel_rfl);clear hd;dsimp only;rw [d1];have q2:=(HX.out.below hb).cell (i:=2) rfl;go_wp2_with fail;exact pS rfl (by simp)
  ·
   intro f w2 hb hd;clear hd;dsimp only;go_wp2_with fail;exact pS rfl (by simp)
  ·
   intro f w2 hb hd;have d3 : f 3 = (.pointer (some ⟨bx,3,none⟩)):=hd 3 (by kernel_rfl);clear hd;dsimp only;rw [d3];have q3:=(HX.out.below hb).cell (i:=3) rfl;go_wp2_with fail;exact pS rfl (by simp)
  ·
   intro f w2 hb hd;clear hd;dsimp only;go_wp2_with fail;exact pS rfl (by simp)
  ·
   intro f w2 hb hd;have d5 : f 5 = (.pointer (some ⟨bx,4,none⟩)):=hd 5 (by kernel_rfl);clear hd;dsimp only;rw [d5];have q4:=(HX.out.below hb).cell (i:=4) rfl;go_wp2_with fail;exact pS rfl (by simp)
  ·
   intro f w2 hb hd;have d6 : f 6 = (.slice da dn dc):=hd 6 (by kernel_rfl);clear hd;dsimp only;rw [d6];go_wp2_with fail;refine (Rb.out w2 (HB.out.trans (hb.mono (ak UO HB.out.size)))).mono ?_;rintro e w9 ⟨ov,rfl,ho,gL⟩;have Ec : ∃ qa qc,ov = .slice qa dn qc:=by
    obtain ⟨qa,qc,hv,_⟩:=zM ho;exact ⟨qa,qc,by rw [hv,HDn.out]⟩
   obtain ⟨qa,qc,rfl⟩:=Ec;have HO:=zh (show gF w9 B (.slice qa dn qc) ql from iA.own ho);clear ho;go_wp2_with fail;exact ⟨rfl,gL,fun t ht => by injection ht with ht; subst ht; exact ⟨⟨qa,qc,rfl,HO.out⟩,fun h => by simp at h⟩⟩
  intro f w2 hb hd;have d2 : f 2 = (.int .u64 key):=hd 2 (by kernel_rfl);have d4 : f 4 = (.int .u32 ck):=hd 4 (by kernel_rfl);obtain ⟨a7,c7,d7,r7⟩:=show ∃ a c,f 7 = .slice a dn c ∧ gF w2 B (.slice a dn c) ql from hd 7 (by kernel_rfl);clear hd;dsimp only;rw [d2];rw [d4];rw [d7];have HO:=zh r7;clear r7;go_wp2_with fail;exact ⟨rfl,aj _ _,fun t ht => by injection ht with ht; subst ht; exact ⟨⟨a7,c7,rfl,HO.out⟩,fun h => by simp at h⟩⟩
 intro f w8 hb hA iD;clear iD;have d0 : f 0 = (.pointer (some ⟨b,0,none⟩)):=hA 0 (show 0 < 9 by decide);obtain ⟨a8,c8,d8,r8⟩:=show ∃ a c,f 8 = .agg #[.int .u64 key,.int .u32 ck,.bool false,.slice a dn c] ∧ gF w8 B (.slice a dn c) ql from hA 8 (show 8 < 9 by decide);clear hA
 try dsimp only
 rw [d0,d8];clear d0 d8;have Y9:=zh (CW.out w8 a8 c8 (HB.out.trans (hb.mono (ak UO HB.out.size))) r8);have mF:=zh (show fk B w w8 from fk.of ((HB.out.trans (hb.mono (ak UO HB.out.size))).mono hwc) (ak hB UO));clear r8 hb CW Rb HX HC HB;generalize f 1 = Dy,f 2 = Dz,f 3 = DC,f 4 = DF,f 5 = DG,f 6 = E7,f 7 = Ii;clear f;go_wp2_with fail;refine Y9.out.mono ?_;rintro e w9 ⟨rfl,D5,gL⟩;have El:=zh D5;have lL:=zh (mF.out.trans gL);clear D5 gL;go_wp2_with fail;go_end0;exact ⟨rfl,El.out,lL.out⟩
structure iZ (W : World) (b g cap : Nat) : Prop where
 c : dX W cap #[.pointer (some ⟨b,0,none⟩)] 143
 r : dX W g #[.int .i64 1,.func (.func 144) #[.pointer (some ⟨b,0,none⟩)] #[],.func (.func 145) #[] #[],.func (.func 146) #[] #[.pointer (some ⟨cap,0,none⟩)],.int .i64 2,.func (.func 149) #[.pointer (some ⟨b,0,none⟩)] #[],.func (.func 150) #[] #[.pointer (some ⟨cap,0,none⟩)],.func (.func 152) #[.pointer (some ⟨b,0,none⟩)] #[]] 192
theorem iZ.below {W W' : World} {b g cap : Nat} (h : iZ W b g cap) (hb : Below W.heap.size W W') : iZ W' b g cap:=⟨h.c.below hb,h.r.below hb⟩
theorem iZ.kept {W W' : World} {B b g cap : Nat} (h : iZ W b g cap) (hb : fk B W W') : iZ W' b g cap:=⟨hb.box h.c (by decide),hb.box h.r (by decide)⟩
theorem zHQ (b : Nat) (w : World) : Calls Tryz.prog 107 #[.pointer (some ⟨b,0,none⟩)] w fun e w' => ∃ g cap,e = .returned (.slice (some ⟨g,0,none⟩) 2 2) ∧ iZ w' b g cap ∧ Below w.heap.size w w':=by
 have eO:=(aj w.heap.size w).alloc (ai _) (.cells #[.pointer (some ⟨b,0,none⟩)] 143);have HC:=zh (dX.new w #[.pointer (some ⟨b,0,none⟩)] 143);have HB:=zh eO;clear eO;generalize P6 : w.heap.size = cap at *;have FH:=zh P6;clear P6
 go_enter Tryz.func107,Tryz.ntmps107
 go_upto_region 1 with fail
 try rw [FH.out]
 generalize w.alloc (.cells #[.pointer (some ⟨b,0,none⟩)] 143) = w1 at *;have c0:=HC.out.cell (i:=0) rfl;have Y_ : cap < w1.heap.size:=HC.out.lt
 go_cut [3] (fun v wx => v = .pointer (some ⟨w1.heap.size,0,none⟩) ∧ wx = w1.alloc (.cells #[.int .i64 1,.func (.func 144) #[.pointer (some ⟨b,0,none⟩)] #[],.func (.func 145) #[] #[],.func (.func 146) #[] #[.pointer (some ⟨cap,0,none⟩)]] 192))
 case first =>
  go_wp2_with fail;go_meet
  case rel => exact ⟨rfl,rfl⟩
 obtain ⟨rfl,rfl⟩:=hcut;have hb2:=(aj w1.heap.size w1).alloc (ai _) (.cells #[.int .i64 1,.func (.func 144) #[.pointer (some ⟨b,0,none⟩)] #[],.func (.func 145) #[] #[],.func (.func 146) #[] #[.pointer (some ⟨cap,0,none⟩)]] 192);have HQ1:=zh (dX.new w1 #[.int .i64 1,.func (.func 144) #[.pointer (some ⟨b,0,none⟩)] #[],.func (.func 145) #[] #[],.func (.func 146) #[] #[.pointer (some ⟨cap,0,none⟩)]] 192);have B9:=zh (HC.out.below hb2);have eV:=zh (HB.out.trans (hb2.mono (bU Y_)));clear hb2 c0;generalize hg1 : w1.heap.size = g1 at *;have p_:=zh hg1;clear hg1;generalize w1.alloc (.cells #[.int .i64 1,.func (.func 144) #[.pointer (some ⟨b,0,none⟩)] #[],.func (.func 145) #[] #[],.func (.func 146) #[] #[.pointer (some ⟨cap,0,none⟩)]] 192) = w2 at *;have c0:=B9.out.cell (i:=0) rfl;have SA : cap < w2.heap.size:=B9.out.lt
 have agJ : g1 < w2.heap.size:=HQ1.out.lt;go_upto_region 2 with fail
 go_cut [4] (fun v wx => v = .pointer (some ⟨w2.heap.size,0,none⟩) ∧ wx = w2.alloc (.cells #[.int .i64 2,.func (.func 149) #[.pointer (some ⟨b,0,none⟩)] #[],.func (.func 150) #[] #[.pointer (some ⟨cap,0,none⟩)],.func (.func 152) #[.pointer (some ⟨b,0,none⟩)] #[]] 192))
 case first =>
  go_wp2_with fail;go_meet
  case rel => exact ⟨rfl,rfl⟩
 obtain ⟨rfl,rfl⟩:=hcut;have hb3:=(aj w2.heap.size w2).alloc (ai _) (.cells #[.int .i64 2,.func (.func 149) #[.pointer (some ⟨b,0,none⟩)] #[],.func (.func 150) #[] #[.pointer (some ⟨cap,0,none⟩)],.func (.func 152) #[.pointer (some ⟨b,0,none⟩)] #[]] 192);have gT:=zh (dX.new w2 #[.int .i64 2,.func (.func 149) #[.pointer (some ⟨b,0,none⟩)] #[],.func (.func 150) #[] #[.pointer (some ⟨cap,0,none⟩)],.func (.func 152) #[.pointer (some ⟨b,0,none⟩)] #[]] 192);have Ow:=zh (HQ1.out.below hb3);have HC3:=zh (B9.out.below hb3);have gp:=zh (eV.out.trans (hb3.mono (bU SA)));clear hb3 c0;generalize hg2 : w2.heap.size = g2 at *;clear hg2;generalize w2.alloc (.cells #[.int .i64 2,.func (.func 149) #[.pointer (some ⟨b,0,none⟩)] #[],.func (.func 150) #[] #[.pointer (some ⟨cap,0,none⟩)],.func (.func 152) #[.pointer (some ⟨b,0,none⟩)] #[]] 192) = w3 at *
 have y0:=Ow.out.cell (i:=0) rfl;have y1:=Ow.out.cell (i:=1) rfl;have y2:=Ow.out.cell (i:=2) rfl;have y3:=Ow.out.cell (i:=3) rfl;have z0:=gT.out.cell (i:=0) rfl;have z1:=gT.out.cell (i:=1) rfl;have z2:=gT.out.cell (i:=2) rfl;have z3:=gT.out.cell (i:=3) rfl;have SB : cap < w3.heap.size:=HC3.out.lt;go_wp2_with fail;go_ret;have hb4:=(aj w3.heap.size w3).alloc (ai _) (.cells #[.int .i64 1,.func (.func 144) #[.pointer (some ⟨b,0,none⟩)] #[],.func (.func 145) #[] #[],.func (.func 146) #[] #[.pointer (some ⟨cap,0,none⟩)],.int .i64 2,.func (.func 149) #[.pointer (some ⟨b,0,none⟩)] #[],.func (.func 150) #[] #[.pointer (some ⟨cap,0,none⟩)],.func (.func 152) #[.pointer (some ⟨b,0,none⟩)] #[]] 192)
 refine ⟨w3.heap.size,cap,rfl,⟨HC3.out.below hb4,dX.new w3 #[.int .i64 1,.func (.func 144) #[.pointer (some ⟨b,0,none⟩)] #[],.func (.func 145) #[] #[],.func (.func 146) #[] #[.pointer (some ⟨cap,0,none⟩)],.int .i64 2,.func (.func 149) #[.pointer (some ⟨b,0,none⟩)] #[],.func (.func 150) #[] #[.pointer (some ⟨cap,0,none⟩)],.func (.func 152) #[.pointer (some ⟨b,0,none⟩)] #[]] 192⟩,gp.out.trans (hb4.mono (bU SB))⟩
end Go.Proofs.YtcgfilmmokmdjaaGreat
namespace Go.Proofs.YtcgfilmmokmdjaaGreat
open Go.RowKit
section
variable {P : fG} {q : Rq}
theorem tP (h : P.res.length = 16) : zT P q = (false,P):=by unfold zT; rw [ag h]
theorem qi (h : ¬ P.res.length = 16) (h1 : q.kind = 1) (h2 : zn P.t q = 9) (h3 : wh P.t = true) : zT P q = (false,{ P with eN:=decide (P.res.length = 0) }):=by
 unfold zT; rw [ah h,ag h1,ag ⟨h2,h3⟩]
theorem wy (h : ¬ P.res.length = 16) (h1 : q.kind = 1) (h2 : ¬ (zn P.t q = 9 ∧ wh P.t = true)) (h3 : ¬ zn P.t q = 0) : zT P q = (true,more P (zn P.t q)):=by
 unfold zT; rw [ah h,ag h1,ah h2,ah h3]
theorem tE (h : ¬ P.res.length = 16) (h1 : q.kind = 1) (h3 : zn P.t q = 0) (h4 : 0 < P.bytes ∧ 16384 < P.bytes + (eP q.data.length : Int)) : zT P q = (false,P):=by
 unfold zT; rw [ah h,ag h1,ah (fun h => by have:=h.1; omega),ag h3,ag h4]
theorem vn (h : ¬ P.res.length = 16) (h1 : q.kind = 1) (h3 : zn P.t q = 0) (h4 : ¬ (0 < P.bytes ∧ 16384 < P.bytes + (eP q.data.length : Int))) : zT P q = (true,more (vy P (uJ q)) 0):=by
 unfold zT; rw [ah h,ag h1,ah (fun h => by have:=h.1; omega),ag h3,ah h4]
theorem uW : xS P.t q = 0 ∨ xS P.t q = 6:=by unfold xS; split <;> simp
theorem zCc : zn P.t q = 0 ∨ zn P.t q = 8 ∨ zn P.t q = 9:=by
 unfold zn
 split
 ·
  simp
 split <;> simp
theorem zFY (h : zn P.t q = 0) : q.data.length ≤ 4096:=by
 unfold zn at h
 split at h
 ·
  cases h
 omega
theorem vC (h : ¬ P.res.length = 16) (h1 : q.kind = 2) (h3 : xS P.t q = 6) : zT P q = (true,more P 6):=by
 unfold zT; rw [ah h,ah (by omega),ag h1,ah (by omega)]
theorem tR (h : ¬ P.res.length = 16) (h1 : q.kind = 2) (h3 : xS P.t q = 0) (h4 : wT P.t q.key = true ∧ 0 < P.bytes ∧ 16384 < P.bytes + 24) : zT P q = (false,P):=by
 unfold zT; rw [ah h,ah (by omega),ag h1,ag h3,ag h4]
theorem ww (h : ¬ P.res.length = 16) (h1 : q.kind = 2) (h3 : xS P.t q = 0) (h4 : ¬ (wT P.t q.key = true ∧ 0 < P.bytes ∧ 16384 < P.bytes + 24)) : zT P q = (true,more (yl P q) 0):=by
 unfold zT; rw [ah h,ah (by omega),ag h1,ag h3,ah h4]
theorem vL (h : ¬ P.res.length = 16) (h1 : ¬ q.kind = 1) (h2 : ¬ q.kind = 2) : zT P q = (true,more P 1):=by
 unfold zT; rw [ah h,ah h1,ah h2]
end
theorem zLZ (s : eL) (a : Option Addr) (n c : Nat) (L : List GP) (W : World) (hr : fH W (.slice a n c) L) (hg : ea L = s.dW) (hl : fA 1000 s.dW) :
  Calls Tryz.prog 35 #[ze s.id s.lim s.ro a n c] W fun e w' => e = .returned (.bool (wh s)) ∧ Below W.heap.size W w':=by
 have h:=zFg s.id s.lim s.ro a n c L W hr (vI (hg ▸ hl) (by decide));obtain ⟨i,l,r,g⟩:=s;dsimp only at hg h ⊢;subst hg;exact h
theorem zL7 : wK Tryz.prog 69 39 1 8:=by
 obtain ⟨i,hi,hz,hs,hb⟩:=b_ (P:=Tryz.prog) (e:=39) (z:=.int .i64 0) (size:=1) (bytes:=8) (by kernel_rfl);exact ⟨Tryz.underlying69,by decide,i,_,hi,hz,hs,hb,rfl⟩
theorem zMb (i l : Int) (r : Bool) (ga : Option Addr) (gn gc : Nat) (eN : Bool) (kv nv rv : Value) (mg : Int) (u : Value) : (qJ i l r ga gn gc eN kv nv rv mg).setIfInBounds 8 u = qJ i l r ga gn gc eN kv nv u mg:=by
 simp only [aM,aN,aK]
theorem zMG (i l : Int) (r : Bool) (ga : Option Addr) (gn gc : Nat) (eN : Bool) (kv nv rv : Value) (mg : Int) (z : Bool) : (qJ i l r ga gn gc eN kv nv rv mg).setIfInBounds 4 (.bool z) = qJ i l r ga gn gc z kv nv rv mg:=by
 simp only [aM,aN,aK]
theorem lF.res {W W1 : World} {B : Nat} {P : fG} {ga : Option Addr} {gn gc : Nat} {L : List GP} {kv : Value} {ks : List KP} {nv : Value} {es : List (Nd × Value)} {rv UQ : Value} (h : lF W B P ga gn gc L kv ks nv es rv) (e : Int)
  (hg : W.grownBy W1 rv.ownBlock) (ho : W1.ownsRow B 39 1 UQ (P.res.length + 1) (P.res.map I3 ++ [.int .i64 e])) : lF W1 B (more P e) ga gn gc L kv ks nv es UQ ∧ gM W W1 B 39:=by
 have hO : gM W W1 B 39:=gM.row h.r hg (ai _);refine ⟨⟨h.g.gD hO (by decide) (by decide),h.gg,h.k.gD hO (by decide) (by decide),h.kk,h.n.gD hO (by decide) (by decide),h.nn,?_⟩,hO⟩
 show W1.ownsRow B _ 1 UQ (P.res ++ [e]).length ((P.res ++ [e]).map I3)
 rw [ax,bE]; exact ho
end Go.Proofs.YtcgfilmmokmdjaaGreat
namespace Go.Proofs.YtcgfilmmokmdjaaGreat
structure lQ (K G n : Nat) (P : fG) : Prop where
 l : fA (K + n) P.t.dW
 k : Bt (8 * n) P.dY
 g : P.t.dW.length ≤ G
 b : 0 ≤ P.bytes ∧ P.bytes ≤ 5000 * (n : Int)
 e : P.needs.length ≤ n
theorem lQ.mono {K G n m : Nat} {P : fG} (h : lQ K G n P) (hm : n ≤ m) : lQ K G m P:=⟨h.l.mono (by omega),h.k.mono (by omega),h.g,⟨h.b.1,by have:=h.b.2; omega⟩,ak h.e hm⟩
theorem zEJ {K n m : Nat} {G : Nat} {P : fG} {x : Nd} (hl : fA (K + n) P.t.dW) (hk : Bt (8 * m) P.dY) (hg : P.t.dW.length ≤ G) (hb : 0 ≤ P.bytes ∧ P.bytes ≤ 5000 * (n : Int)) (he : P.needs.length ≤ n) (hm : m ≤ n + 1) : lQ K G (n + 1) (vy P x):=by
 have hs:=xt x.data.length;refine ⟨?_,hk.mono (by omega),ak (zGn _ _) hg,⟨?_,?_⟩,?_⟩
 ·
  have:=YD (s:=P.t) (g:=(xQ (tX P.t).2 [x]).2) (K:=K + n + 1) (hl.mono (by omega)) (fun i hi => zDJ (zEl hl) i hi);exact this
 ·
  show 0 ≤ P.bytes + (eP x.data.length : Int)
  have:=hb.1; omega
 ·
  show P.bytes + (eP x.data.length : Int) ≤ 5000 * ((n + 1 : Nat) : Int)
  have:=hb.2; omega
 show (P.needs ++ [x]).length ≤ n + 1
 rw [ax]; exact Nat.succ_le_succ he
theorem zCV {K M : Nat} {key : Int} : ∀ (l : List Int) (P : fG),fA K P.t.dW → Bt M P.dY → (∀ x ∈ l,1 ≤ x ∧ x ≤ 8) → fA K (l.foldl (yp key) P).t.dW ∧ Bt (M + l.length) (l.foldl (yp key) P).dY ∧ (l.foldl (yp key) P).t.dW.length ≤ P.t.dW.length
 | [],P,h1,h2,_ => ⟨h1,h2,ai _⟩
 | x :: r,P,h1,h2,h3 => by
  obtain ⟨g1,g2,g3⟩:=zCV (M:=M + 1) r (yp key P x) (kP h1) (h2.ins (h3 x (by simp)) key) (fun y hy => h3 y (by simp [hy]));refine ⟨g1,?_,ak g3 (zEN _ _ _)⟩;have e : M + (x :: r).length = M + 1 + r.length:=by rw [aW]; omega
  rw [e]; exact g2
theorem zHu {K G n : Nat} {P : fG} {q : Rq} (h : lQ K G n P) : lQ K G (n + 1) (yl P q):=by
 obtain ⟨g1,g2,g3⟩:=zCV (key:=q.key) (zk P.t q.key) P h.l h.k (fun x hx => kN hx);have h8:=zBc P.t q.key;obtain ⟨r1,r2,r3,r4⟩:=xC P q.key;have hk : Bt (8 * (n + 1)) (yN P q.key).dY:=Bt.mono g2 (by omega);unfold yl
 split
 ·
  exact zEJ (m:=n + 1) (n:=n) g1 hk (ak g3 h.g) (by rw [r3]; exact h.b) (by rw [r2]; exact h.e) (ai _)
 exact ⟨fA.mono g1 (by omega),hk,ak g3 h.g,by rw [r3]; exact ⟨h.b.1,by have:=h.b.2; omega⟩,by rw [r2]; exact Nat.le_succ_of_le h.e⟩
theorem zJC {K G n : Nat} {P : fG} {e : Int} (h : lQ K G n P) : lQ K G n (more P e):=⟨h.l,h.k,h.g,h.b,h.e⟩
theorem Za (P : fG) (e : Int) : (more P e).res.length = P.res.length + 1:=by unfold more; simp
theorem vm (P : fG) (q : Rq) : (yl P q).res = P.res:=by
 unfold yl
 split
 ·
  rw [Yb]; exact (xC P q.key).1
 exact (xC P q.key).1
theorem zCm {K G : Nat} {P : fG} {q : Rq} (h : lQ K G P.res.length P) : lQ K G (zT P q).2.res.length (zT P q).2:=by
 have hm : ∀ (Q : fG) (e : Int),Q.res.length = P.res.length → lQ K G (P.res.length + 1) Q → lQ K G (more Q e).res.length (more Q e):=fun Q e hq h => by
  rw [Za,hq]; exact zJC h
 unfold zT
 split
 ·
  exact h
 split
 ·
  split
  ·
   exact ⟨h.l,h.k,h.g,h.b,h.e⟩
  split
  ·
   split
   ·
    exact h
   exact hm _ _ rfl (zEJ (m:=P.res.length) (n:=P.res.length) h.l h.k h.g h.b h.e (by omega))
  exact hm _ _ rfl (h.mono (by omega))
 split
 ·
  split
  ·
   split
   ·
    exact h
   exact hm _ _ (by rw [vm]) (zHu h)
  exact hm _ _ rfl (h.mono (by omega))
 exact hm _ _ rfl (h.mono (by omega))
/-! ### How many items a generation may have -/
theorem SD (M : Mp) (k : Int) : fJ (zG M) k = zR M k:=by
 have h:=vu M k
 rwa [yQ (yb M)] at h
theorem Zb {M : Mp} (h : fN M) {x : It} (hx : x ∈ zG M) : A8 x:=by
 have h1:=(xD h).1 hx;rw [xR h] at h1;exact (un.1 (h.ok _ (we _))).2 x (xe h1).1
theorem zHG : ∀ l : List It,(∀ x ∈ l,A8 x) → 24 * l.length ≤ zu l
 | [],_ => aq _
 | x :: r,h => by
  have ih:=zHG r fun y hy => h y (by simp [hy])
  obtain ⟨_,_,_,h4,h5⟩:=h x (by simp);have h6 : eP x.size.toNat = CJ x.size.toNat:=Qh (by omega);have h7:=tM x.size.toNat
  show 24 * (r.length + 1) ≤ eP x.size.toNat + zu r
  omega
theorem zLJ {g : Gn} (h : gX g) : (((zG g.m).length * 24 : Nat) : Int) ≤ g.size - 16:=by
 have hm:=(zO _).1 h.m;have h1:=zHG (zG g.m) fun x hx => Zb hm hx
 have h2 : zu (zG g.m) = zu (vS g.m):=by
  unfold zG; rw [ag h.m]; exact hm.sum
 have h3:=hm.lv;have h4:=hm.g0;have h5:=h.sum;omega
theorem zEa : ∀ {l : List It} {k : Int},fJ l k ≠ none → (gB l k).length + 1 ≤ l.length
 | [],k,h => absurd rfl h
 | x :: r,k,h => by
  by_cases e : x.key = k
  ·
   have h1 : gB (x :: r) k = gB r k:=by unfold gB; rw [cn,ah (by simpa using e)]
   have h2:=uy r k;rw [h1,aW]; omega
  have h1 : gB (x :: r) k = x :: gB r k:=by unfold gB; rw [cn,ag (by simpa using e)]
  rw [zm,ah e] at h;have h2:=zEa h;rw [h1,aW,aW]; omega
theorem zIT {M : Mp} (h : fN M) {k : Int} (hr : M.dZ + (gW (zR M k) : Int) ≤ 1099511627776) : zG (yP M k) = gB (zG M) k:=by
 refine qY _ _ (kE (yb _)) ((kE (yb _)).filter _) fun j => ?_
 rw [SD,qC h hr,VT,SD]
 by_cases e : j = k
 ·
  rw [ag e,ag e.symm]
 rw [ah e,ah fun h => e h.symm]
theorem zEK {M : Mp} (h : fN M) {n : Int} (h0 : 0 ≤ n) (hr : M.dZ + n ≤ 1099511627776) : zG (xE M n) = zG M:=by
 unfold zG;rw [ag ((zO _).2 (h.Jw h0 hr)),ag ((zO _).2 h)];unfold vS;rw [uh]
/-! ### A record more -/
def kT (S : eL) (x : Nd) : Prop:=x.ok ∧ ((x.del = false ∧ (zK S).size + (eP x.data.length : Int) ≤ S.lim) ∨ (x.del = true ∧ zR (zK S).m x.key ≠ none))
theorem zCR {S : eL} (h : eA S) {x : Nd} (hc : kT S x) :
  xQ (zK S) [x] = (0,yW (zK S) x) ∧ Fit S (S.dW.length - 1) (yW (zK S) x):=by
 obtain ⟨hx,hc⟩:=hc;obtain ⟨hv,hm,hz⟩:=h.Cl;have hlen:=h.len;have hlim:=h.lim;have SE : (zK S).size + (((zG (zK S).m).length * 24 : Nat) : Int) ≤ 2 * S.lim:=h.top;have Zc:=(zO _).1 hv.m;have hsz : (zK S).size + (eP x.data.length : Int) ≤ 2 * S.lim:=by
  rcases hc with ⟨_,h1⟩ | ⟨h1,h2⟩
  ·
   omega
  have h3:=hx.2 h1;have h4 : 1 ≤ (zG (zK S).m).length:=by
   rw [← SD] at h2
   cases e : zG (zK S).m with
   | nil => rw [e] at h2; exact absurd rfl h2
   | cons y r => rw [aW]; omega
  have h5 : eP x.data.length = 24:=by rw [h3]; decide
  omega
 have hz2 : (zK S).size + (eP x.data.length : Int) ≤ 1048576:=by omega
 have hz3 : (zK S).size + (fU [x] : Int) ≤ 1048576:=by rw [wi,zGv]; omega
 have hg:=zBa hv hx hz2;refine ⟨zGq hv hm (l:=[x]) (fun y hy => by obtain rfl:=List.mem_singleton.1 hy; exact hx) hz3,by omega,hg,(zBS _ _).1,?_,?_,fun _ => ?_⟩
 ·
  rw [(zBS _ _).2.2,hm]; exact ⟨fun _ => by omega,fun _ => rfl⟩
 ·
  rw [vR]; exact hsz
 rcases hc with ⟨_,h1⟩ | ⟨h1,h2⟩
 ·
  have h3:=zLJ hg;rw [vR] at h3 ⊢;omega
 have h5 : eP x.data.length = 24:=by rw [hx.2 h1]; decide
 have hr:=hv.room x.key;have hd:=Zc.del hr;have hds:=kV Zc hr;have iy:=hd.live0;have hsm:=hv.small;have e : zG (yW (zK S) x).m = gB (zG (zK S).m) x.key:=by
  unfold yW;dsimp only;rw [ag h1,zEK hd (by omega) (by omega),zIT Zc hr]
 have h6:=zEa (l:=zG (zK S).m) (k:=x.key) (by rw [SD]; exact h2);rw [e,vR,h5];omega
/-! ### What a fV slot keeps -/
structure Kp (S s : eL) : Prop where
 v : eA s
 id : s.id = S.id
 lim : s.lim = S.lim
 ro : s.ro = S.ro
 len : s.dW.length = S.dW.length
 num : ∀ r,r < S.dW.length → (eB s.dW r).num = (eB S.dW r).num
theorem Kp.refl {S : eL} (h : eA S) : Kp S S:=⟨h,rfl,rfl,rfl,rfl,fun _ _ => rfl⟩
theorem Kp.set {S s : eL} (h : Kp S s) {j : Nat} {g : Gn} (hf : Fit s j g) : Kp S (tW s j g):=by
 refine ⟨X7 h.v hf,h.id,h.lim,h.ro,?_,fun r hr => ?_⟩
 ·
  show (s.dW.set j g).length = _
  rw [bC]; exact h.len
 show (eB (s.dW.set j g) r).num = _
 rw [vW hf.hj]
 by_cases e : r = j
 ·
  rw [ag e,hf.n,← e]; exact h.num r hr
 rw [ah e]; exact h.num r hr
theorem Kp.trans {S s t : eL} (h : Kp S s) (h' : Kp s t) : Kp S t:=⟨h'.v,h'.id.trans h.id,h'.lim.trans h.lim,h'.ro.trans h.ro,h'.len.trans h.len,fun r hr => (h'.num r (by rw [h.len]; exact hr)).trans (h.num r hr)⟩
theorem zG3 {S : eL} (h : eA S) : wh S = decide ((zK S).num < 8):=by unfold wh; rw [(zZ S).2 h,cT]
theorem Kp.can {S s : eL} (hS : eA S) (h : Kp S s) : wh s = wh S:=by
 have hlen:=hS.len;rw [zG3 h.v,zG3 hS];have e : (zK s).num = (zK S).num:=by
  unfold zK;rw [h.len];exact h.num _ (by omega)
 rw [e]
theorem Zd {s : eL} (h : eA s) (g : Gn) : zK (tW s (s.dW.length - 1) g) = g:=by
 have hlen:=h.len;unfold zK tW;dsimp only;rw [bC,vW (by omega),ag rfl]
theorem Ze {s : eL} {r : Nat} (hr : r + 1 < s.dW.length) (g : Gn) : zK (tW s r g) = zK s:=by
 unfold zK tW;dsimp only;rw [bC,vW (by omega),ah (by omega)]
theorem Zf {P : fG} (h : eA P.t) {x : Nd} (hc : kT P.t x) : (vy P x).t = tW P.t (P.t.dW.length - 1) (yW (zK P.t) x):=by
 obtain ⟨h1,h2⟩:=zCR h hc
 show (yM P.t (xQ (tX P.t).2 [x]).2).1 = _
 rw [Ya h];dsimp only;rw [h1,RA h h2]
theorem zHA {s : eL} (h : eA s) {r : Nat} (hr : r < s.dW.length) : k4 s.dW (eB s.dW r).num = r:=
 zCH hr rfl fun j hj => h.Cp (by omega) hr (by omega)
theorem zES {s : eL} (h : eA s) {r : Nat} (hr : r + 1 < s.dW.length) (key : Int) : yv s (eB s.dW r).num [key] = (tW s r (kA (eB s.dW r) key),0):=by
 have hm : (eB s.dW r).mode ≠ 1:=fun e => by have:=(h.g r (by omega)).2.2.1.1 e; omega
 unfold yv;rw [zHA h (by omega),ag (by omega),zHt (h.vg (by omega)) hm,ag rfl,RA h (fit_drop h hr key)]
theorem zCM {S : eL} {key : Int} : ∀ (l : List Int) (P : fG),Kp S P.t → zK P.t = zK S → (∀ x ∈ l,∃ r,r + 1 < S.dW.length ∧ x = (eB S.dW r).num) → Kp S (l.foldl (yp key) P).t ∧ zK (l.foldl (yp key) P).t = zK S
 | [],P,h,ht,_ => ⟨h,ht⟩
 | x :: l,P,h,ht,hl => by
  obtain ⟨r,hr,e⟩:=hl x (by simp);have hr2 : r + 1 < P.t.dW.length:=by rw [h.len]; exact hr
  have e2 : (yp key P x).t = tW P.t r (kA (eB P.t.dW r) key):=by
   show (yv P.t x [key]).1 = _
   rw [e,← h.num r (by omega),zES h.v hr2]
  refine zCM l (yp key P x) (by rw [e2]; exact h.set (fit_drop h.v hr2 key)) (by rw [e2,Ze hr2]; exact ht) fun y hy => hl y (by simp [hy])
theorem ur {s : eL} (h : eA s) {key x : Int} (hx : x ∈ zk s key) : ∃ r,r + 1 < s.dW.length ∧ x = (eB s.dW r).num:=by
 rw [X9 h] at hx;obtain ⟨i,hi,e⟩:=b7 hx;obtain ⟨r,h1,h2,_,_⟩:=X8 s.dW key _ i hi;rw [aB hi] at h2;exact ⟨r,by omega,by rw [← e]; exact Option.some.inj h2⟩
theorem zCj {P : fG} (h : eA P.t) (key : Int) : Kp P.t (yN P key).t ∧ zK (yN P key).t = zK P.t:=
 zCM _ P (Kp.refl h) rfl fun _ hx => ur h hx
theorem uD {t : eL} (h : eA t) (key : Int) : wT t key = true ↔ zR (zK t).m key ≠ none:=by
 have hlen:=h.len;obtain ⟨_,hm,_⟩:=h.Cl;unfold wT;rw [uT h,vp h]
 cases hx : zR (zK t).m key with
 | some y => simp [hm]
 | none =>
  refine ⟨fun hb => ?_,fun h => absurd rfl h⟩
  exfalso
  simp only [bV,aO,Bool.not_eq_true',aS] at hb;obtain ⟨h1,h2⟩:=hb
  cases e : xF t.dW key (t.dW.length - 1) with
  | nil => rw [e] at h1; cases h1
  | cons x r =>
   rw [e] at h2;obtain ⟨g1,g2,_⟩:=tw e;have h2 : x.mode = 1:=h2;rw [g2] at h2;have:=(h.g x.at_ (by omega)).2.2.1.1 h2;omega
theorem zIz {t : eL} (h : eA t) {n : Int} (hf : wl t n = true) : (zK t).size + (eP n.toNat : Int) ≤ t.lim:=by
 unfold wl at hf;simp only [aO,aS] at hf;exact hf.2
theorem UR {t : eL} (h : eA t) {q : Rq} (hc : zn t q = 0) : kT t (uJ q):=by
 unfold zn at hc
 split at hc
 ·
  cases hc
 rename_i hl
 split at hc
 ·
  rename_i hf;have:=zIz h hf;rw [cS] at this;exact ⟨⟨by show q.data.length ≤ 4096; omega,fun e => (by cases e)⟩,.inl ⟨rfl,this⟩⟩
 cases hc
theorem zFD {t : eL} {q : Rq} (hc : zR (zK t).m q.key ≠ none) : kT t (qA q):=⟨⟨aq _,fun _ => rfl⟩,.inr ⟨rfl,hc⟩⟩
theorem US {P : fG} (h : eA P.t) {x : Nd} (hc : kT P.t x) : Kp P.t (vy P x).t:=by
 rw [Zf h hc]; exact (Kp.refl h).set (zCR h hc).2
theorem zJI {P : fG} (h : eA P.t) (q : Rq) : Kp P.t (yl P q).t:=by
 obtain ⟨h1,h2⟩:=zCj h (q.key : Int);unfold yl
 split
 ·
  rename_i hb;exact h1.trans (US h1.v (zFD ((uD h1.v _).1 hb)))
 exact h1
theorem zFV {P : fG} (h : eA P.t) (q : Rq) : Kp P.t (zT P q).2.t:=by
 unfold zT
 split
 ·
  exact Kp.refl h
 split
 ·
  split
  ·
   exact Kp.refl h
  split
  ·
   rename_i hc
   split
   ·
    exact Kp.refl h
   exact US (P:=P) h (UR h hc)
  exact Kp.refl h
 split
 ·
  split
  ·
   split
   ·
    exact Kp.refl h
   exact zJI h q
  exact Kp.refl h
 exact Kp.refl h
/-! ### The bytes of a plan -/
structure E9 (P : fG) : Prop where
 b : P.bytes = (fU P.needs : Int)
 m : P.needs.length ≤ 1 ∨ fU P.needs ≤ 16384
 ok : ∀ x ∈ P.needs,x.ok
theorem zGe {l : List Nd} (h : ∀ x ∈ l,x.ok) : 24 * l.length ≤ fU l:=by
 induction l with
 | nil => exact aq _
 | cons x r ih =>
  have h1:=ih fun y hy => h y (by simp [hy])
  have h2:=h x (by simp);have h3 : eP x.data.length = CJ x.data.length:=Qh h2.1;have h4:=tM x.data.length;rw [wi,aW]; omega
theorem E9.add {P : fG} (h : E9 P) {x : Nd} (hx : x.ok) (hb : ¬ (0 < P.bytes ∧ 16384 < P.bytes + (eP x.data.length : Int))) : E9 (vy P x):=by
 have hp:=zGe h.ok;have hB:=h.b;have e : fU (P.needs ++ [x]) = fU P.needs + eP x.data.length:=uo _ _;refine ⟨?_,?_,fun y hy => ?_⟩
 ·
  show P.bytes + (eP x.data.length : Int) = (fU (P.needs ++ [x]) : Int)
  rw [e]; omega
 ·
  show (P.needs ++ [x]).length ≤ 1 ∨ fU (P.needs ++ [x]) ≤ 16384
  rw [e,ax]
  by_cases h0 : P.needs.length = 0
  ·
   left; rw [h0]; simp
  right; omega
 rcases List.mem_append.1 (show y ∈ P.needs ++ [x] from hy) with hy | hy
 ·
  exact h.ok y hy
 obtain rfl:=List.mem_singleton.1 hy; exact hx
theorem E9.dY {P : fG} (h : E9 P) (key : Int) : E9 (yN P key):=by
 obtain ⟨_,h2,h3,_⟩:=xC P key;exact ⟨by rw [h2,h3]; exact h.b,by rw [h2]; exact h.m,by rw [h2]; exact h.ok⟩
theorem kO {P : fG} (h : eA P.t) (key : Int) : wT (yN P key).t key = wT P.t key:=by
 obtain ⟨h1,h2⟩:=zCj h key;rw [dA,uD h1.v,uD h,h2]
theorem zIV {P : fG} (hv : eA P.t) (h : E9 P) (q : Rq) : E9 (zT P q).2:=by
 unfold zT
 split
 ·
  exact h
 split
 ·
  split
  ·
   exact ⟨h.b,h.m,h.ok⟩
  split
  ·
   rename_i hc
   split
   ·
    exact h
   rename_i hb;have:=E9.add h (UR hv hc).1 hb;exact ⟨this.b,this.m,this.ok⟩
  exact ⟨h.b,h.m,h.ok⟩
 split
 ·
  split
  ·
   split
   ·
    exact h
   rename_i hb;have hk:=h.dY q.key;obtain ⟨_,_,h3,_⟩:=xC P q.key;unfold yl
   split
   ·
    rename_i ht;rw [kO hv] at ht
    have:=E9.add hk (x:=qA q) ⟨aq _,fun _ => rfl⟩ (by
     rw [h3,show eP (qA q).data.length = 24 from (by show eP 0 = 24; decide)]
     exact fun e => hb ⟨ht,e.1,e.2⟩)
    exact ⟨this.b,this.m,this.ok⟩
   exact ⟨hk.b,hk.m,hk.ok⟩
  exact ⟨h.b,h.m,h.ok⟩
 exact ⟨h.b,h.m,h.ok⟩
/-! ### The Zg -/
def yC (l : List Rq) (i : Nat) : Rq:=l.getD i PK
def xT (l : List Int) (i : Nat) : Int:=l.getD i 0
structure Ev (S : eL) (l : List Rq) (P : fG) : Prop where
 kp : Kp S P.t
 b : E9 P
 n : P.res.length ≤ l.length
 m : P.res.length ≤ 16
 r0 : P.eN = false
 r : ∀ i,i < P.res.length → (xT P.res i = 9 → wh S = false) ∧ (xT P.res i = 8 → 4096 < (yC l i).data.length)
theorem zKf {l : List Int} {i : Nat} (h : i < l.length) (e : Int) : xT (l ++ [e]) i = xT l i:=by
 unfold xT; rw [aw,aw,dP h]
theorem zKL (l : List Int) (e : Int) : xT (l ++ [e]) l.length = e:=by
 unfold xT; rw [aw,dw (ai _)]; simp
theorem Ev.more {S : eL} {l : List Rq} {P Q : fG} (h : Ev S l P) (hk : Kp S Q.t) (hb : E9 Q) (hr : Q.res = P.res) (h0 : Q.eN = false) (hn : P.res.length < l.length) (iz : ¬ P.res.length = 16) (e : Int)
  (h9 : e = 9 → wh S = false) (h8 : e = 8 → 4096 < (yC l P.res.length).data.length) : Ev S l (more Q e):=by
 have hl : (Go.Proofs.YtcgfilmmokmdjaaGreat.more Q e).res.length = P.res.length + 1:=by rw [Za,hr]
 have hm:=h.m;refine ⟨hk,⟨hb.b,hb.m,hb.ok⟩,by omega,by omega,h0,fun i hi => ?_⟩
 show (xT (Q.res ++ [e]) i = 9 → _) ∧ _
 rw [hr];rw [hl] at hi
 by_cases hil : i < P.res.length
 ·
  have e2:=zKf hil e;refine ⟨fun he => (h.r i hil).1 (by rw [← e2]; exact he),fun he => (h.r i hil).2 ?_⟩;have he : xT (Q.res ++ [e]) i = 8:=he;rw [hr,e2] at he; exact he
 obtain rfl : i = P.res.length:=by omega
 have e2:=zKL P.res e;refine ⟨fun he => h9 (by rw [← e2]; exact he),fun he => h8 ?_⟩;have he : xT (Q.res ++ [e]) P.res.length = 8:=he;rw [hr,e2] at he; exact he
structure SG (S : eL) (l : List Rq) (P : fG) : Prop where
 kp : Kp S P.t
 b : E9 P
 n : P.res.length ≤ l.length
 m : P.res.length ≤ 16
 r : ∀ i,i < P.res.length → (xT P.res i = 9 → wh S = false) ∧ (xT P.res i = 8 → 4096 < (yC l i).data.length)
 t : 0 < l.length → P.res.length = 0 → P.eN = true ∧ wh S = true ∧ (yC l 0).kind = 1 ∧ wl S ((yC l 0).data.length : Int) = false
 rr : P.eN = true → P.res.length = 0
theorem Ev.stop {S : eL} {l : List Rq} {P : fG} (h : Ev S l P) (hp : P.res.length = 0 → l.length = 0) : SG S l P:=
 ⟨h.kp,h.b,h.n,h.m,h.r,fun h1 h2 => by have:=hp h2; omega,fun e => by rw [h.r0] at e; cases e⟩
theorem E9.zero {P : fG} (h : E9 P) (hn : P.needs.length = 0) : P.bytes = 0:=by
 have:=h.b;rw [List.length_eq_zero_iff.1 hn] at this;exact this
theorem zH7 {S : eL} (hS : eA S) {l : List Rq} {P : fG} (h : Ev S l P) (hn : P.res.length < l.length) (hd : P.needs.length ≤ P.res.length) (hs : P.res.length = 0 → P.t = S) :
  ((zT P (yC l P.res.length)).1 = true → Ev S l (zT P (yC l P.res.length)).2) ∧ ((zT P (yC l P.res.length)).1 = false → SG S l (zT P (yC l P.res.length)).2):=by
 generalize hq : yC l P.res.length = q;have hk:=h.kp.trans (zFV h.kp.v q);have hby:=zIV h.kp.v h.b q;have hzero : P.res.length = 0 → P.bytes = 0:=fun e => h.b.zero (by omega)
 by_cases iz : P.res.length = 16
 ·
  rw [tP iz];exact ⟨fun e => (by cases e),fun _ => h.stop (by omega)⟩
 by_cases h1 : q.kind = 1
 ·
  by_cases h9 : zn P.t q = 9 ∧ wh P.t = true
  ·
   rw [qi iz h1 h9.1 h9.2] at hk hby ⊢;refine ⟨fun e => (by cases e),fun _ => ⟨hk,hby,h.n,h.m,h.r,fun _ e0 => ?_,fun e => by simpa using e⟩⟩;have e0 : P.res.length = 0:=e0;have es:=hs e0;refine ⟨by simpa using e0,?_,?_,?_⟩
   ·
    rw [← es]; exact h9.2
   ·
    rw [e0] at hq; rw [hq]; exact h1
   rw [e0] at hq; rw [hq,← es];have h2:=h9.1;unfold zn at h2
   split at h2
   ·
    cases h2
   split at h2
   ·
    cases h2
   rename_i hf; simpa using hf
  by_cases h0 : zn P.t q = 0
  ·
   by_cases hb : 0 < P.bytes ∧ 16384 < P.bytes + (eP q.data.length : Int)
   ·
    rw [tE iz h1 h0 hb];exact ⟨fun e => (by cases e),fun _ => h.stop fun e => (by have:=hzero e; omega)⟩
   rw [vn iz h1 h0 hb] at hk hby ⊢;exact ⟨fun _ => h.more (Q:=vy P (uJ q)) hk ⟨hby.b,hby.m,hby.ok⟩ rfl h.r0 hn iz 0 (fun e => (by cases e)) (fun e => (by cases e)),fun e => (by cases e)⟩
  rw [wy iz h1 h9 h0] at hk hby ⊢;refine ⟨fun _ => h.more (Q:=P) hk ⟨hby.b,hby.m,hby.ok⟩ rfl h.r0 hn iz _ (fun e => ?_) (fun e => ?_),fun e => (by cases e)⟩
  ·
   rw [← Kp.can hS h.kp]
   cases hc : wh P.t with
   | false => rfl
   | true => exact absurd ⟨e,hc⟩ h9
  rw [hq];unfold zn at e
  split at e
  ·
   assumption
  split at e <;> cases e
 by_cases h2 : q.kind = 2
 ·
  rcases uW (P:=P) (q:=q) with h3 | h3
  ·
   by_cases hb : wT P.t q.key = true ∧ 0 < P.bytes ∧ 16384 < P.bytes + 24
   ·
    rw [tR iz h2 h3 hb];exact ⟨fun e => (by cases e),fun _ => h.stop fun e => (by have:=hzero e; omega)⟩
   rw [ww iz h2 h3 hb] at hk hby ⊢;refine ⟨fun _ => h.more (Q:=yl P q) hk ⟨hby.b,hby.m,hby.ok⟩ (vm P q) ?_ hn iz 0 (fun e => (by cases e)) (fun e => (by cases e)),fun e => (by cases e)⟩;have hr:=(xC P q.key).2.2.2;unfold yl
   split
   ·
    show (yN P q.key).eN = false
    rw [hr]; exact h.r0
   rw [hr]; exact h.r0
  rw [vC iz h2 h3] at hk hby ⊢;exact ⟨fun _ => h.more (Q:=P) hk ⟨hby.b,hby.m,hby.ok⟩ rfl h.r0 hn iz 6 (fun e => (by cases e)) (fun e => (by cases e)),fun e => (by cases e)⟩
 rw [vL iz h1 h2] at hk hby ⊢;exact ⟨fun _ => h.more (Q:=P) hk ⟨hby.b,hby.m,hby.ok⟩ rfl h.r0 hn iz 1 (fun e => (by cases e)) (fun e => (by cases e)),fun e => (by cases e)⟩
theorem zER {P : fG} {q : Rq} (h : P.needs.length ≤ P.res.length) : (zT P q).1 = true → (zT P q).2.needs.length ≤ (zT P q).2.res.length:=by
 have hm : ∀ (Q : fG) (e : Int),Q.needs.length ≤ Q.res.length + 1 → (more Q e).needs.length ≤ (more Q e).res.length:=fun Q e hq => by rw [Za]; exact hq
 have hd : (yl P q).needs.length ≤ (yl P q).res.length + 1:=by
  obtain ⟨r1,r2,_,_⟩:=xC P q.key;rw [vm];unfold yl
  split
  ·
   show ((yN P q.key).needs ++ [_]).length ≤ _
   rw [r2,ax]; simp; exact h
  rw [r2]; omega
 unfold zT
 split
 ·
  intro e; cases e
 split
 ·
  split
  ·
   intro e; cases e
  split
  ·
   split
   ·
    intro e; cases e
   intro _;refine hm _ _ ?_
   show (P.needs ++ [_]).length ≤ P.res.length + 1
   rw [ax]; simp; exact h
  intro _; exact hm _ _ (by omega)
 split
 ·
  split
  ·
   split
   ·
    intro e; cases e
   intro _; exact hm _ _ hd
  intro _; exact hm _ _ (by omega)
 intro _; exact hm _ _ (by omega)
theorem zEi {S : eL} (hS : eA S) {l : List Rq} : ∀ (k : Nat) (P : fG),l.length = P.res.length + k → Ev S l P → P.needs.length ≤ P.res.length → (P.res.length = 0 → P.t = S) → SG S l (tq (l.drop P.res.length) P)
 | 0,P,hk,h,_,_ => by
  rw [List.drop_eq_nil_of_le (by omega)];exact h.stop (by omega)
 | k + 1,P,hk,h,hd,hs => by
  have hlt : P.res.length < l.length:=by omega
  have e : l.drop P.res.length = yC l P.res.length :: l.drop (P.res.length + 1):=by
   rw [dC hlt];unfold yC;rw [aw,aB hlt]; rfl
  obtain ⟨h1,h2⟩:=zH7 hS h hlt hd hs;have h3:=(qr P (yC l P.res.length) h.m).2.2;have h4:=zER (q:=yC l P.res.length) hd;rw [e]
  show SG S l (if (zT P (yC l P.res.length)).1 = true then tq (l.drop (P.res.length + 1)) (zT P (yC l P.res.length)).2 else (zT P (yC l P.res.length)).2)
  by_cases hp : (zT P (yC l P.res.length)).1 = true
  ·
   rw [ag hp];have hl:=h3 hp;have:=zEi hS k (zT P (yC l P.res.length)).2 (by omega) (h1 hp) (h4 hp) (fun e => by omega);rw [hl] at this;exact this
  rw [ah hp];exact h2 (by simpa using hp)
theorem zEd {S : eL} (hS : eA S) (l : List Rq) : (yA S l).2 = 0 ∧ SG S l (yA S l).1:=by
 unfold yA;rw [ag ((zZ S).2 hS)];refine ⟨rfl,?_⟩;have:=zEi hS (l:=l) l.length (xB S) (by simp [xB]) ⟨Kp.refl hS,⟨rfl,.inl (aq _),fun x hx => by cases hx⟩,aq _,aq _,rfl,fun i hi => by cases hi⟩ (aq _) (fun _ => rfl);exact this
end Go.Proofs.YtcgfilmmokmdjaaGreat
