import Derived.Test.YtcgfilmmokmdjaaGreatQAZ
import Derived.Test.YtcgfilmmokmdjaaGreatSkb
import Derived.Test.YtcgfilmmokmdjaaGreatQAL
set_option linter.all false
set_option maxRecDepth 100000
set_option maxHeartbeats 32000000
namespace Go.Proofs.YtcgfilmmokmdjaaGreat
open Go.RowKit
theorem gm.rd {W:World} {B:Nat} {v:Value} {es:List (Nd×Value)} (h:gm W B v es):nC W v es:=⟨zk h.row,fun p hp=>(h.dat p hp).rd⟩
theorem zG2 {K:Nat} {g:Gn} {m:Int} (h:∀ i,i<8→(g.m.st i).length≤K) (i:Nat) (hi:i<8):((xx g m).2.m.st i).length≤K:=by
 unfold xx
 split
 ·
  split
  ·
   exact h i hi
  exact aq _
 exact aq _
theorem zLk {b:Nat} {v1 v2 V:World} (hs:v1.heap.size=b) (h:Below b v1 v2) (h2:Below v2.heap.size v2 V):Below b v1 V:=h.trans (h2.mono (by rw[← hs];exact h.size))
def AcB (W:World) (b:Nat) (kind:Int) (l:Value) (g:Int) (k:Value):Prop:=dZ W b #[.int .i64 kind,l,.int .i64 g,k] 141
theorem zGh (v:Value) (ac:List oM) (w:World) (h:EM w v ac):Calls Tryz.prog 20 #[v] w (SlR w (xR ac)):=by
 obtain ⟨va,vc,rfl,rP,hv2⟩:=h.shape;have HA:=zh h;have AW:=zh (fun k (hk:k≤ac.length)=>tI ac k hk);have JL:=zh (fun k (hk:k<ac.length)=>kZ ac k hk)
 have DK:=zh (show ∀ k,(k=8∨(k=ac.length∧k≤8))→xR ac=wO Dj (ac.take k) from fun k hk=>by
  unfold xR
  rcases hk with rfl|⟨rfl,hk⟩
  ·
   rfl
  rw[aS hk,aS (ag _)])
 have hcap:ac.length≤9223372036854775807:=ak rP hv2;have EY:=zh (fun W=>zGo 1 9000 (by decide) W);clear h rP hv2;generalize hn:ac.length=n at *;clear hn
 go_enter Tryz.func20,Tryz.ntmps20
 go_upto_region 1 with fail;change Code.wp _ _ _ _ (w.alloc (.cells (zK 0 0 false none 0 0) 31));have HZ:=zh (dZ.new w (zK 0 0 false none 0 0) 31);have HB:=zh (zM w 0 0 false none 0 0 31);generalize w.alloc (.cells (zK 0 0 false none 0 0) 31)=w0 at *;go_wp2_with fail;refine (EY.out w0).mono ?_;rintro e w1 ⟨b,rfl,lI,hg,hb⟩;have HR:=zh (PN hg);replace HZ:=zh (HZ.out.below hb);replace HB:=zh (zA HB.out hb);clear hg hb lI EY;have hbS:=HZ.out.lt;go_upto_region 2 with fail;change Code.wp _ _ _ _ (w1.alloc (.cells (zK 1 9000 false (some ⟨b,0,none⟩) 1 1) 31));have fH:=zM w1 1 9000 false (some ⟨b,0,none⟩) 1 1 31;have HS:=zh (dZ.new w1 (zK 1 9000 false (some ⟨b,0,none⟩) 1 1) 31);replace HZ:=zh (HZ.out.below fH);replace HB:=zh (zA HB.out fH);replace HR:=zh (HR.out.below fH);clear fH;generalize w1.alloc (.cells (zK 1 9000 false (some ⟨b,0,none⟩) 1 1) 31)=w2 at *
 generalize w1.heap.size=bS at *;go_wp2_with fail
 go_loopw [5] (fun iv V=>∃ (k:Nat) (a:Option Addr) (m c:Nat) (L:List GP),iv=.int .i64 (k:Int)∧k≤n∧k≤8∧Hid (dZ V bS (zK 1 9000 false a m c) 31)∧Hid (fD V (.slice a m c) L)∧Hid (ep L=(wO Dj (ac.take k)).dY)∧Hid (dZ V w.heap.size (zK 0 0 false none 0 0) 31)∧Hid (Below w.heap.size w V)) (fun iv _=>n-(intOf iv).toNat)
 case atStart=>exact ⟨0,_,_,_,De,rfl,aq _,aq _,HS,HR,zh rfl,HZ,HB⟩
 clear HS HR HZ HB;obtain ⟨k,a,m,c,L,rfl,hk,jR,HS,HR,HE,HZ,HB⟩:=hrel
 by_cases hlt:k<n
 ·
  have i1:(k:Int)<(n:Int):=by omega
  by_cases al3:k<8
  ·
   have i2:(k:Int)<8:=by omega
   obtain ⟨bq,oq,rfl,c0,c1,c2,c3,hN,hWf,hU⟩:=(HA.out.below HB.out).at hlt;have HI:=AW.out k hk;have hst:=JL.out k hlt;unfold Vx at hst;generalize kB ac k=x at *;obtain ⟨kind,lv,nl,gen,kv,keys⟩:=x;dsimp only at *;obtain ⟨la,lc,rfl,sV,hl2⟩:=hN.shape;obtain ⟨ka,kc,rfl,oD,hk2⟩:=hU.fK;have Bb:=zh (fun W (hb:Below wr.heap.size wr W)=>zEu (.slice la nl.length lc) nl 6 W (hN.below hb) (by decide));have HU:=zh hU;have Ul:=Vw 6 (nl.map (·.1));have hsd:=zEb 6 (nl.map (·.1));clear hN hWf hU sV hl2;generalize nl.map (·.1)=ND at *;generalize nl.length=nn at *;obtain ⟨hIv,IY,pd,IZ,hIn,hIz⟩:=HI;generalize wO Dj (ac.take k)=sk at *;have fS:=zh (AW.out (k+1) (by omega));generalize OV:wO Dj (ac.take (k+1))=Lz at *;have Ky:=zh OV;clear OV;obtain ⟨sid,OW,sro,sg⟩:=sk;dsimp only at IY pd IZ hIn hIz HE;subst IY pd IZ
   obtain rfl:sg=ep L:=HE.out.symm;have jG:=zh hst;clear hst HE;have hlen:=hIv.len;have VE:L.length=m:=by
    obtain ⟨_,_,e,_⟩:=HR.out.shape;injection e with _ e _;exact e.symm
   dsimp only at hlen;rw[zn,VE] at hlen;obtain ⟨j,rfl⟩:∃ j,m=j+1:=⟨m-1,by omega⟩
   have hj7:j≤7:=by omega
   have CZ:=zh (show ∀ p∈L,∀ i,i<8→(p.1.m.st i).length≤48 from fun p hp i hi=>ak (hIn p.1 (cZ hp) i hi) (by omega));have OX:=zh VE;clear hIv hIn hIz hlen VE;go_upto_region 6 with fail;clear c0 c1 c2 c3;change Code.wp _ _ _ _ (wr.alloc (.cells #[.int .i64 kind,.slice la nn lc,.int .i64 gen,.slice ka keys.length kc] 141));have fH:=(aj wr.heap.size wr).alloc (ag _) (.cells #[.int .i64 kind,.slice la nn lc,.int .i64 gen,.slice ka keys.length kc] 141);have F7:=zh (show AcB (wr.alloc (.cells #[.int .i64 kind,.slice la nn lc,.int .i64 gen,.slice ka keys.length kc] 141)) wr.heap.size kind (.slice la nn lc) gen (.slice ka keys.length kc) from dZ.new _ _ _);replace HS:=zh (HS.out.below fH);replace HR:=zh (HR.out.below fH);replace HZ:=zh (HZ.out.below fH);replace HB:=zh (zA HB.out fH);replace HU:=zh (iE.below HU.out fH)
   replace Bb:=zh (fun W (hb:Below _ _ W)=>Bb.out W (zA fH hb));clear fH;generalize wr.alloc (.cells #[.int .i64 kind,.slice la nn lc,.int .i64 gen,.slice ka keys.length kc] 141)=v0 at *;generalize wr.heap.size=bA at *;have hlp:0<j+1:=by omega
   obtain ⟨t,kk,e1,e2,e3,e4,e5,e6,e7⟩:=zKf gen (j+1) hlp;simp only[di,Int.natCast_one] at e1 e2 e3 e4 e5;have q2:=zB (show v0.cell? ⟨bA,2,none⟩=some (.int .i64 gen) from dZ.cell F7.out rfl);have k3:=zB (dZ.lF HS.out).c3;refine zC (by kernel_rfl) (by kernel_rfl) ?_
   repeat (go_big_quiet_step (fail))
   refine aA ?_;intro _ hw';obtain ⟨q,hw'⟩:=hw';subst hw';replace HS:=zh (HS.out.below q.h);replace HR:=zh (HR.out.below q.h);replace HZ:=zh (HZ.out.below q.h);replace HB:=zh (zA HB.out q.h);replace HU:=zh (iE.below HU.out q.h);replace F7:=zh (show AcB q.w' bA kind (.slice la nn lc) gen (.slice ka keys.length kc) from dZ.below F7.out q.h);replace Bb:=zh (fun W (hb:Below _ _ W)=>Bb.out W (zA q.h hb));clear q2 k3;generalize q.w'=v1 at *;clear q e1 e2 e3 e4 e5;have hmem:=yX (l:=L) (i:=kk) (by have:=OX.out;omega);have jS:=zh (HR.out.m _ hmem);have CO:=zh (CZ.out _ hmem);obtain ⟨bg,og,rfl,_⟩:=HR.out.at e6;have HG:=zh (HR.out.Mz e6);have I1:=zh (show eV (ep L) (gen%((ep L).length:Int)).toNat=(pat L kk).1 from by rw[zn,OX.out];simp only[di,Int.natCast_one];rw[show gen%((j:Int)+1)=(kk:Int) from by simpa using e7,dP,yv])
   clear hmem e7;generalize pat L kk=p at *;obtain ⟨⟨num,rev,md,sz,⟨fs,LV,GA⟩⟩,s⟩:=p;dsimp only at jS CO I1;have k3:=(dZ.lF HS.out).c3;have i3:(kk:Int)<(j:Int)+1:=by omega
   have i4:(kk:Int)<((j+1:Nat):Int):=by omega
   obtain ⟨g0,g1,g2,g3,g4,g5,g6,g7,g8,g9,g10,g11,g12,g13⟩:=HG.out.q;dsimp only at g0 g1 g2 g3 g4 g5 g6 g7 g8 g9 g10 g11 g12 g13;go_upto_region 7 with fail
   go_cut [8,9] (fun vb ve wx=>vb=.pointer (some ⟨v1.heap.size,0,none⟩)∧ve=.int .i64 1∧wx=v1.alloc (.cells (zX num rev md sz s LV GA) 113))
   case first =>
    go_wp2_with fail;go_meet
    case rel=>exact ⟨rfl,rfl,rfl⟩
   case rest =>
   clear k3;clear g0 g1 g2 g3 g4 g5 g6 g7 g8 g9 g10 g11 g12 g13;obtain ⟨rfl,rfl,rfl⟩:=hcut
   have eM:=zh (zZ v1 num rev md sz s LV GA 113);have XG:=zh (dZ.new v1 (zX num rev md sz s LV GA) 113);have Ea:=zh (jS.out.below eM.out);generalize v1.alloc (.cells (zX num rev md sz s LV GA) 113)=v2 at *;generalize QT:v1.heap.size=bG at *;have lX:=zh (fun V (h:Below bG v1 V)=>show Below v1.heap.size v1 V from QT▸h);have Bu:=zh (fun V (h:Below v2.heap.size v2 V)=>show Below bG v1 V from zLk QT eM.out h);have hSG:bS<bG:=by rw[← QT];exact HS.out.lt
   clear QT;have jb:=zh (show ∀ p∈L,∀ j,j<8→(p.1.m.st j).length≤10000 from fun p hp i hi=>ak (CZ.out p hp i hi) (by decide));go_step;go_step
   go_cut [9] (fun ve wx=>∃ (er an ar am az aL aG:Int) (sG:Sl) (af:Nat→List It) (a':Option Addr) (m' c':Nat) (L':List GP),ve=.int .i64 er∧Hid (dZ wx bG (zX an ar am az sG aL aG) 113)∧Hid (fG wx sG af)∧Hid (∀ i,i<8→(af i).length≤10000)∧Hid (dZ wx bS (zK 1 9000 false a' m' c') 31)∧Hid (fD wx (.slice a' m' c') L')∧Hid (∀ p∈L',∀ j,j<8→(p.1.m.st j).length≤10000)∧Hid (Lz.dY=(vt ⟨1,9000,false,ep L'⟩ (er,⟨an,ar,am,az,⟨af,aL,aG⟩⟩)).dY)∧Hid (dZ wx w.heap.size (zK 0 0 false none 0 0) 31)∧Hid (Below w.heap.size w wx))
   case first =>
    have q0:v2.cell? ⟨bA,0,none⟩=some (.int .i64 kind):=dZ.cell (dZ.below F7.out (lX.out _ eM.out)) rfl;obtain ⟨kd,Ek,OY⟩:∃ kd,bits .and .i64 kind 7=kd∧0≤kd∧kd<8:=⟨_,rfl,by rw[Y3];omega⟩
    rw[← Y3 kind,Ek] at jG;have oQ:=zh OY;clear OY;go_upto_if 55 with fail;clear Ek q0
    go_cut [55] (fun v wx=>v=.bool (decide (kd<4))∧wx=v2)
    case first =>
     rcases (show kd=0∨kd=1∨kd=2∨kd=3∨(4≤kd∧kd<8) from by have:=oQ.out;omega) with rfl|rfl|rfl|rfl|⟨h4,h8⟩
     ·
      go_wp2_with fail;go_meet
      case rel=>exact ⟨rfl,rfl⟩
     ·
      go_wp2_with fail;go_meet
      case rel=>exact ⟨rfl,rfl⟩
     ·
      go_wp2_with fail;go_meet
      case rel=>exact ⟨rfl,rfl⟩
     ·
      go_wp2_with fail;go_meet
      case rel=>exact ⟨rfl,rfl⟩
     have e0:(kd==0)=false:=beq_eq_false_iff_ne.2 (by omega);have e1:(kd==1)=false:=beq_eq_false_iff_ne.2 (by omega);have e2:(kd==2)=false:=beq_eq_false_iff_ne.2 (by omega);have e3:(kd==3)=false:=beq_eq_false_iff_ne.2 (by omega);have e4:decide (kd<4)=false:=aD (by omega);go_wp2_with fail;go_meet
     case rel=>exact ⟨by rw[e4],rfl⟩
    obtain ⟨rfl,hwc⟩:=hcut;generalize wc=w5 at *;replace hwc:=hwc.symm;subst hwc
    by_cases h4:kd<4
    ·
     have hk4:decide (kd<4)=true:=aC h4;rw[hk4]
     have EB:=zh (jG.out.trans (show ut ⟨1,9000,false,ep L⟩ kd ND gen keys=vt ⟨1,9000,false,ep L⟩ (xE (ze ⟨1,9000,false,ep L⟩) (D_ 6 ND)) from by
      unfold ut;rw[ai (by omega),ai (by omega),ai (by omega)]))
     clear hk4 h4 oQ jG;go_upto_region 13 with fail;have VF:=yX (l:=L) (i:=j) (by have:=OX.out;omega);have sQ:=zh (HR.out.m _ VF);have Ej:=zh (CZ.out _ VF);have j_:=zh (HR.out.Mz (show j<j+1 by omega));have lM:=zh (show Lz=vt ⟨1,9000,false,ep L⟩ (xE (pat L j).1 (D_ 6 ND)) from by rw[← vF (i:=1) (l:=9000) (r:=false) OX.out];exact EB.out);clear VF EB I1 jS CO HG Ea HU;generalize pat L j=p at *;obtain ⟨⟨n2,r2,m2,z2,⟨f2,L2,G2⟩⟩,s2⟩:=p;dsimp only at sQ Ej lM;generalize D_ 6 ND=SN at *
     have mG:=zh (show ∀ lv es W,Below v2.heap.size v2 W→nC W lv es→es.map (·.1)=SN→Calls Tryz.prog 43 #[zd n2 r2 m2 z2 s2 L2 G2,lv] W fun e w'=>(∃ s',e=.returned (.tuple #[zd (xE ⟨n2,r2,m2,z2,⟨f2,L2,G2⟩⟩ SN).2.num (xE ⟨n2,r2,m2,z2,⟨f2,L2,G2⟩⟩ SN).2.rev (xE ⟨n2,r2,m2,z2,⟨f2,L2,G2⟩⟩ SN).2.mode (xE ⟨n2,r2,m2,z2,⟨f2,L2,G2⟩⟩ SN).2.size s' (xE ⟨n2,r2,m2,z2,⟨f2,L2,G2⟩⟩ SN).2.m.live (xE ⟨n2,r2,m2,z2,⟨f2,L2,G2⟩⟩ SN).2.m.d_,.int .i64 (xE ⟨n2,r2,m2,z2,⟨f2,L2,G2⟩⟩ SN).1])∧fG w' s' (xE ⟨n2,r2,m2,z2,⟨f2,L2,G2⟩⟩ SN).2.m.st)∧Below W.heap.size W w' from fun lv es W hb h2 h3=>by
      have hb1:Below v1.heap.size v1 W:=lX.out _ (Bu.out _ hb)
      have hle:es.length≤6:=by have:=aO List.length h3;rw[aH] at this;omega
      have h9:=YX ⟨n2,r2,m2,z2,⟨f2,L2,G2⟩⟩ s2 lv es 48 W (sQ.out.below hb1) Ej.out h2 (by omega) (fun p hp=>by have:=hsd p.1 (h3▸cZ hp);omega)
      rw[h3] at h9
      exact h9.mono fun e w' hq=>⟨hq.1.imp fun s' hs'=>⟨hs'.1,hs'.2.rd (sQ.out.below hb1) hq.2⟩,hq.2⟩)
     have Eb:=zh (show ∀ i,i<8→((xE ⟨n2,r2,m2,z2,⟨f2,L2,G2⟩⟩ SN).2.m.st i).length≤10000 from fun i hi=>ak (zIF (K:=48) ⟨n2,r2,m2,z2,⟨f2,L2,G2⟩⟩ SN Ej.out i hi) (by omega));clear sQ Ej hsd;generalize xE ⟨n2,r2,m2,z2,⟨f2,L2,G2⟩⟩ SN=TG at *;obtain ⟨er,⟨an,ar,am,az,⟨af,aL,aG⟩⟩⟩:=TG;dsimp only at mG Eb lM;have j3:IntKind.i64.wrap (j:Int)=(j:Int):=aF _ (by omega);have j5:(j:Int)<((j+1:Nat):Int):=by omega
     refine ye [eR (.pointer (some ⟨bS,3,none⟩)),eR (.slice (some ⟨bg,og,none⟩) (j+1) c),eR (.pointer (some ⟨bS,3,none⟩)),eR (.slice (some ⟨bg,og,none⟩) (j+1) c),eR (.int .i64 ((j:Int)+1)),eR (.int .i64 (j:Int)),eR (.pointer (some ⟨bg,og+j*14,none⟩)),eR (zd n2 r2 m2 z2 s2 L2 G2),eR (.pointer (some ⟨bA,1,none⟩)),eR (.slice la nn lc),zME SN,Zo er an ar am az af aL aG,Zo er an ar am az af aL aG,zML an ar am az af aL aG,eR (.int .i64 er)] [] 122 14 (by kernel_rfl) (by kernel_rfl) rfl rfl (by decide) (by rfl) (by kernel_rfl) (fun f=>by simp[fF,zT,Act.put];exact rfl) ?_ ?_ ?_
     ·
      refine ⟨?_,?_,?_,?_,?_,?_,?_,?_,?_,?_,?_,?_,?_,?_,?_,trivial⟩
      ·
       intro f w1 hb hd;clear hd;dsimp only;go_wp2_with fail;exact pS rfl (by simp)
      ·
       intro f w1 hb hd;have d0:f 0=(.pointer (some ⟨bS,3,none⟩)):=hd 0 (by kernel_rfl);clear hd;dsimp only;rw[d0];have hb1:=lX.out _ (Bu.out _ hb);have q3:=(dZ.lF (HS.out.below hb1)).c3;go_wp2_with fail;exact pS rfl (by simp)
      ·
       intro f w1 hb hd;clear hd;dsimp only;go_wp2_with fail;exact pS rfl (by simp)
      ·
       intro f w1 hb hd;have d2:f 2=(.pointer (some ⟨bS,3,none⟩)):=hd 2 (by kernel_rfl);clear hd;dsimp only;rw[d2];have hb1:=lX.out _ (Bu.out _ hb);have q3:=(dZ.lF (HS.out.below hb1)).c3;go_wp2_with fail;exact pS rfl (by simp)
      ·
       intro f w1 hb hd;have d3:f 3=(.slice (some ⟨bg,og,none⟩) (j+1) c):=hd 3 (by kernel_rfl);clear hd;dsimp only;rw[d3];go_wp2_with fail;exact pS rfl (by simp)
      ·
       intro f w1 hb hd;have d4:f 4=(.int .i64 ((j:Int)+1)):=hd 4 (by kernel_rfl);clear hd;dsimp only;rw[d4];go_wp2_with fail;exact pS rfl (by simp)
      ·
       intro f w1 hb hd;have d1:f 1=(.slice (some ⟨bg,og,none⟩) (j+1) c):=hd 1 (by kernel_rfl);have d5:f 5=(.int .i64 (j:Int)):=hd 5 (by kernel_rfl);clear hd;dsimp only;rw[d1];rw[d5];go_wp2_with fail;exact pS rfl (by simp)
      ·
       intro f w1 hb hd;have d6:f 6=(.pointer (some ⟨bg,og+j*14,none⟩)):=hd 6 (by kernel_rfl);clear hd;dsimp only;rw[d6];have hb1:=lX.out _ (Bu.out _ hb);have zo:=j_.out.below hb1;obtain ⟨q0,q1,q2,q3,q4,q5,q6,q7,q8,q9,Dq,Dr,Ds,Dt⟩:=zo.q;clear zo;dsimp only at q0 q1 q2 q3 q4 q5 q6 q7 q8 q9 Dq Dr Ds Dt;go_wp2_with fail;exact pS rfl (by simp)
      ·
       intro f w1 hb hd;clear hd;dsimp only;go_wp2_with fail;exact pS rfl (by simp)
      ·
       intro f w1 hb hd;have d8:f 8=(.pointer (some ⟨bA,1,none⟩)):=hd 8 (by kernel_rfl);clear hd;dsimp only;rw[d8];have hb1:=lX.out _ (Bu.out _ hb);have q1:w1.cell? ⟨bA,1,none⟩=some (.slice la nn lc):=dZ.cell (dZ.below F7.out hb1) rfl;go_wp2_with fail;exact pS rfl (by simp)
      ·
       intro f w1 hb hd;have d9:f 9=(.slice la nn lc):=hd 9 (by kernel_rfl);clear hd;dsimp only;rw[d9];go_wp2_with fail;refine (Bb.out w1 (Bu.out _ hb)).mono ?_;rintro e w9 ⟨qv,es,rfl,BU,hes,gI⟩;obtain ⟨qa,qc,rfl,_⟩:=BU.rd.shape;go_wp2_with fail;exact ⟨rfl,gI,fun t ht=>by injection ht with ht;subst ht;exact ⟨⟨qa,es.length,qc,es,rfl,BU.rd,hes⟩,fun h=>by simp at h⟩⟩
      ·
       intro f w1 hb hd;have d7:f 7=(zd n2 r2 m2 z2 s2 L2 G2):=hd 7 (by kernel_rfl);obtain ⟨K2,n10,c10,sZ,d10,mW,m10⟩:=show ∃ a n c es,f 10=.slice a n c∧nC w1 (.slice a n c) es∧es.map (·.1)=SN from hd 10 (by kernel_rfl);clear hd;dsimp only;rw[d7];rw[d10];go_wp2_with fail;refine (mG.out _ sZ w1 hb mW m10).mono ?_;rintro e w9 ⟨⟨s9,rfl,BU⟩,gI⟩;go_wp2_with fail;exact ⟨rfl,gI,fun t ht=>by injection ht with ht;subst ht;exact ⟨⟨s9,rfl,BU⟩,fun h=>by simp at h⟩⟩
      ·
       intro f w1 hb hd;obtain ⟨s11,d11,mC⟩:=show ∃ s,f 11=.tuple #[zd an ar am az s aL aG,.int .i64 er]∧fG w1 s af from hd 11 (by kernel_rfl);clear hd;dsimp only;rw[d11];go_wp2_with fail;exact ⟨rfl,aj _ _,fun t ht=>by injection ht with ht;subst ht;exact ⟨⟨s11,rfl,mC⟩,fun h=>by simp at h⟩⟩
      ·
       intro f w1 hb hd;obtain ⟨Vo,d12,nB⟩:=show ∃ s,f 12=.tuple #[zd an ar am az s aL aG,.int .i64 er]∧fG w1 s af from hd 12 (by kernel_rfl);clear hd;dsimp only;rw[d12];go_wp2_with fail;exact ⟨rfl,aj _ _,fun t ht=>by injection ht with ht;subst ht;exact ⟨⟨Vo,rfl,nB⟩,fun h=>by simp at h⟩⟩
      intro f w1 hb hd;obtain ⟨Vo,d12,nB⟩:=show ∃ s,f 12=.tuple #[zd an ar am az s aL aG,.int .i64 er]∧fG w1 s af from hd 12 (by kernel_rfl);clear hd;dsimp only;rw[d12];go_wp2_with fail;exact pS rfl (by simp)
     ·
      intro f w5 hb hd jw;clear jw;obtain ⟨sb,d5,r5⟩:=show ∃ s,f 13=zd an ar am az s aL aG∧fG w5 s af from hd 13 (show 13<15 by decide);have d6:f 14=.int .i64 er:=hd 14 (show 14<15 by decide)
      try dsimp only
      rw[d5,d6];clear hd d5 d6;have H8:=zh (dZ.below XG.out hb);have r5:=zh r5;generalize f 0=rI,f 1=rJ,f 2=pY,f 3=pZ,f 4=p_,f 5=q_,f 6=rK,f 7=B9,f 8=Lf,f 9=CQ,f 10=o6,f 11=JZ,f 12=UX;clear f;have lC:=zh (lX.out _ (zD (B:=bG) (b:=bG) (ag _) (zQ an ar am az sb aL aG) (Bu.out _ hb)));have Kz:=zh (dZ.pW H8.out an ar am az sb aL aG);have jx:=zh (fG.gen r5.out H8.out (zQ an ar am az sb aL aG));have xf:=(dZ.gen H8.out).f;obtain ⟨x0,x1,x2,x3,x4,x5,x6,x7,x8,x9,gq,gu,gj,gl⟩:=(dZ.gen H8.out).q;clear hb;change wpList _ _ _ (_::_::[]) _ _;go_wp2_with fail;go_meet
      case rel=>exact ⟨er,an,ar,am,az,aL,aG,sb,af,_,_,_,L,rfl,Kz,jx,Eb,HS.out.below lC.out|> zh,zh (HR.out.below lC.out),jb,zh (by rw[lM.out]),zh (HZ.out.below lC.out),zh (zA HB.out lC.out)⟩
     intro f w5 hb hd jw;clear jw;obtain ⟨sb,d5,r5⟩:=show ∃ s,f 13=zd an ar am az s aL aG∧fG w5 s af from hd 13 (show 13<15 by decide) (show 13≠14 by decide);obtain ⟨s4,d4,r4⟩:=show ∃ s,f 12=.tuple #[zd an ar am az s aL aG,.int .i64 er]∧fG w5 s af from hd 12 (show 12<15 by decide) (show 12≠14 by decide);clear r4
     try dsimp only
     rw[d4,d5];clear hd d4 d5;have H8:=zh (dZ.below XG.out hb);have r5:=zh r5;generalize f 0=rI,f 1=rJ,f 2=pY,f 3=pZ,f 4=p_,f 5=q_,f 6=rK,f 7=B9,f 8=Lf,f 9=CQ,f 10=o6,f 11=JZ,f 14=J1;clear f;have lC:=zh (lX.out _ (zD (B:=bG) (b:=bG) (ag _) (zQ an ar am az sb aL aG) (Bu.out _ hb)));have Kz:=zh (dZ.pW H8.out an ar am az sb aL aG);have jx:=zh (fG.gen r5.out H8.out (zQ an ar am az sb aL aG));have xf:=(dZ.gen H8.out).f;obtain ⟨x0,x1,x2,x3,x4,x5,x6,x7,x8,x9,gq,gu,gj,gl⟩:=(dZ.gen H8.out).q;clear hb;change wpList _ _ _ (_::_::_::[]) _ _;go_wp2_with fail;go_meet
     case rel=>exact ⟨er,an,ar,am,az,aL,aG,sb,af,_,_,_,L,rfl,Kz,jx,Eb,HS.out.below lC.out|> zh,zh (HR.out.below lC.out),jb,zh (by rw[lM.out]),zh (HZ.out.below lC.out),zh (zA HB.out lC.out)⟩
    have hk4:decide (kd<4)=false:=aD h4;rw[hk4];clear hk4;rcases (show (kd=4∨kd=5)∨kd=6∨kd=7 from by have:=oQ.out;omega) with h45|rfl|rfl
    ·
     clear h4 oQ;go_upto_if 75 with fail
     go_cut [75] (fun v wx=>v=.bool true∧wx=v2)
     case first =>
      rcases h45 with rfl|rfl
      ·
       go_wp2_with fail;go_meet
       case rel=>exact ⟨rfl,rfl⟩
      go_wp2_with fail;go_meet
      case rel=>exact ⟨rfl,rfl⟩
     obtain ⟨rfl,hwc⟩:=hcut;generalize wc=w5 at *;replace hwc:=hwc.symm;subst hwc
     as_aux_lemma =>
     have Nw:=zh (show ∀ i,i<8→(fs i).length≤10000 from fun i hi=>ak (CO.out i hi) (by decide));have fQ:=zh (HS.out.below (lX.out _ eM.out));have Ab:=zh (zJ1 1 9000 false (some ⟨bg,og,none⟩) (j+1) c L v2 (HR.out.below (lX.out _ eM.out)) jb.out);have pP:=zh (fun h=>Y6 (s:=⟨1,9000,false,ep L⟩) h);have Ar:=zh (jG.out.trans (show ut ⟨1,9000,false,ep L⟩ kd ND gen keys=if (vV ⟨1,9000,false,ep L⟩).2=0 then (vV ⟨1,9000,false,ep L⟩).1 else ⟨1,9000,false,ep L⟩ from by unfold ut;rw[ah h45]));clear Bb HU F7 HG jG I1 jS CO;generalize vV ⟨1,9000,false,ep L⟩=CS at *;obtain ⟨⟨Fv,rA,Fw,cg⟩,fe⟩:=CS;obtain ⟨k0,k1,k2,k3⟩:=(dZ.lF fQ.out).q;go_wp2_with fail;refine Ab.out.mono ?_;rintro e w9 ⟨⟨xa,xn,xc,xL,rfl,OZ,KA⟩,hb⟩;dsimp only at KA pP Ar ⊢;clear k0 k1 k2 k3 fQ;have gI:=lX.out _ (Bu.out _ hb);replace HS:=zh (HS.out.below gI)
     replace HR:=zh (HR.out.below gI);replace HZ:=zh (HZ.out.below gI);replace HB:=zh (zA HB.out gI);replace XG:=zh (dZ.below XG.out hb);replace Ea:=zh (Ea.out.below hb);have nj:=zh OZ;have gX:=zh KA;clear OZ KA hb gI Ab;go_upto_region 17 with fail;change Code.wp _ _ _ _ (w9.alloc (.cells (zK Fv rA Fw xa xn xc) 31));have fH:=zM w9 Fv rA Fw xa xn xc 31;have HX:=zh (dZ.new w9 (zK Fv rA Fw xa xn xc) 31);replace nj:=zh (nj.out.below fH);replace XG:=zh (dZ.below XG.out fH);replace Ea:=zh (Ea.out.below fH);replace HS:=zh (HS.out.below fH);replace HR:=zh (HR.out.below fH);replace HZ:=zh (HZ.out.below fH);replace HB:=zh (zA HB.out fH);clear fH;generalize w9.alloc (.cells (zK Fv rA Fw xa xn xc) 31)=w10 at *;generalize w9.heap.size=bX at *
     by_cases hf0:fe=0
     ·
      subst hf0;obtain ⟨rfl,rfl,rfl⟩:Fv=1∧rA=9000∧Fw=false:=by
       have h9:=pP.out rfl;injection h9 with h1 h2 h3 h4;exact ⟨h1,h2,h3⟩
      obtain ⟨z0,z1,z2,z3⟩:=(dZ.lF HX.out).q;obtain ⟨y0,y1,y2,y3⟩:=(dZ.lF HS.out).q;have yf:=(dZ.lF HS.out).f;have KB:=zh (dZ.u_ HS.out 1 9000 false xa xn xc);have iq:=zh (fD.lF nj.out HS.out (zR 1 9000 false xa xn xc));have DL:=zh (dZ.eE (c:=bS) (by omega) (zR 1 9000 false xa xn xc) HZ.out);have jU:=zh (dZ.eE (c:=bS) (by omega) (zR 1 9000 false xa xn xc) XG.out);have G4:=zh (fG.lF Ea.out HS.out (zR 1 9000 false xa xn xc));have fV:=zh (zD (B:=w.heap.size) (b:=bS) (by omega) (zR 1 9000 false xa xn xc) HB.out);have lM:=zh (show Lz.dY=ep xL from by rw[Ar.out,ah rfl];exact gX.out.symm);have Py:=zh (show ∀ p∈xL,∀ j,j<8→(p.1.m.st j).length≤10000 from fun p hp i hi=>ak (fS.out.len _ (by rw[lM.out];exact cZ hp) i hi) (by omega));go_wp2_with fail;go_meet
      case rel=>exact ⟨1,num,rev,md,sz,LV,GA,s,fs,xa,xn,xc,xL,rfl,jU,G4,Nw,KB,iq,Py,zh (by rw[lM.out];rfl),DL,fV⟩
     have hz:(fe==0)=false:=beq_eq_false_iff_ne.2 hf0;have lM:=zh (show Lz.dY=ep L from by rw[Ar.out,ai hf0]);go_wp2_with fail;go_meet
     case rel=>exact ⟨1,num,rev,md,sz,LV,GA,s,fs,_,_,_,L,rfl,XG,Ea,Nw,HS,HR,jb,zh (by rw[lM.out];rfl),HZ,HB⟩
    ·
     clear h4 oQ
     have lM:=zh (show Lz=vt ⟨1,9000,false,ep L⟩ (xA ⟨num,rev,md,sz,⟨fs,LV,GA⟩⟩ (keys.take 8)) from by
      rw[jG.out];unfold ut;rw[ai (by decide),ah rfl];dsimp only;rw[I1.out])
     clear jG I1 Bb HG jS;have q3:v2.cell? ⟨bA,3,none⟩=some (.slice ka keys.length kc):=dZ.cell (dZ.below F7.out (lX.out _ eM.out)) rfl;replace HU:=zh (iE.below HU.out (lX.out _ eM.out));go_upto_if 92 with fail
     go_cut [12] (fun kv wx=>(∃ m',kv=.slice ka m' kc∧Hid (lT v2 (.slice ka m' kc) (keys.take 8)))∧wx=v2)
     case first =>
      by_cases jR:8<keys.length
      ·
       have hd:decide ((8:Int)<(keys.length:Int))=true:=by simp;omega
       obtain ⟨bk,ok,rfl,_⟩:=lT.at HU.out (show 0<keys.length by omega);have Et:=yl (P:=Tryz.prog) TR (a:=some ⟨bk,ok,none⟩) (n:=keys.length) (cap:=kc) (fun x hx=>⟨bk,ok,by injection hx with hx;exact hx.symm⟩) 8 (by omega);rw[show ((8:Nat):Int)=8 from rfl] at Et;have HT:=zh (show lT v2 (.slice (some ⟨bk,ok,none⟩) 8 kc) (keys.take 8) from iE.take HU.out 8 (by omega));go_wp2_with fail;go_meet
       case rel=>exact ⟨⟨_,rfl,HT⟩,rfl⟩
      have hd:decide ((8:Int)<(keys.length:Int))=false:=by simp;omega
      have HT:=zh (show lT v2 (.slice ka keys.length kc) (keys.take 8) from by rw[aS (by omega)];exact HU.out);go_wp2_with fail;go_meet
      case rel=>exact ⟨⟨_,rfl,HT⟩,rfl⟩
     obtain ⟨⟨m',rfl,HT⟩,hwc⟩:=hcut;generalize wc=w5 at *;replace hwc:=hwc.symm;subst hwc;clear q3 F7 HU;have Af:=zh (Zr ⟨num,rev,md,sz,⟨fs,LV,GA⟩⟩ s (.slice ka m' kc) (keys.take 8) v2 Ea.out (fun i hi=>ak (CO.out i hi) (by decide)) HT.out (by rw[ay];omega));have Eb:=zh (show ∀ i,i<8→((xA ⟨num,rev,md,sz,⟨fs,LV,GA⟩⟩ (keys.take 8)).2.m.st i).length≤10000 from fun i hi=>ak (zGw (K:=48) ⟨num,rev,md,sz,⟨fs,LV,GA⟩⟩ _ CO.out i hi) (by decide));dsimp only at Af;generalize xA ⟨num,rev,md,sz,⟨fs,LV,GA⟩⟩ (keys.take 8)=TG at *;obtain ⟨er,⟨an,ar,am,az,⟨af,aL,aG⟩⟩⟩:=TG;dsimp only at Eb lM;have O0:=XG;have VG:=Ea;have VH:=zh (aj v2.heap.size v2);obtain ⟨y0,y1,y2,y3,y4,y5,y6,y7,y8,y9,Gs,Gt,Gu,Gv⟩:=(dZ.gen O0.out).q;go_wp2_with fail;refine Af.out.mono ?_;rintro e w6 ⟨⟨sb,rfl,ho⟩,hb⟩;dsimp only at ho ⊢
     clear y0 y1 y2 y3 y4 y5 y6 y7 y8 y9 Gs Gt Gu Gv;have RG:=zh (ho.rd VG.out hb);have H9:=zh (dZ.below O0.out hb);have iZ:=zh (zA VH.out hb);clear ho hb Af CO HT;have lC:=zh (lX.out _ (zD (B:=bG) (b:=bG) (ag _) (zQ an ar am az sb aL aG) (Bu.out _ iZ.out)));have Kz:=zh (dZ.pW H9.out an ar am az sb aL aG);have jx:=zh (fG.gen RG.out H9.out (zQ an ar am az sb aL aG));have xf:=(dZ.gen H9.out).f;obtain ⟨x0,x1,x2,x3,x4,x5,x6,x7,x8,x9,gq,gu,gj,gl⟩:=(dZ.gen H9.out).q;go_wp2_with fail;go_meet
     case rel=>exact ⟨er,an,ar,am,az,aL,aG,sb,af,_,_,_,L,rfl,Kz,jx,Eb,HS.out.below lC.out|> zh,zh (HR.out.below lC.out),jb,zh (by rw[lM.out]),zh (HZ.out.below lC.out),zh (zA HB.out lC.out)⟩
    clear h4 oQ
    have lM:=zh (show Lz=vt ⟨1,9000,false,ep L⟩ (xx ⟨num,rev,md,sz,⟨fs,LV,GA⟩⟩ 2) from by
     rw[jG.out];unfold ut;rw[ai (by decide),ai (by decide),ah rfl];dsimp only;rw[I1.out])
    clear jG I1 Bb HG jS HU F7;have Af:=zh (zHV ⟨num,rev,md,sz,⟨fs,LV,GA⟩⟩ s v2 Ea.out (fun i hi=>ak (CO.out i hi) (by decide)));have Eb:=zh (show ∀ i,i<8→((xx ⟨num,rev,md,sz,⟨fs,LV,GA⟩⟩ 2).2.m.st i).length≤10000 from fun i hi=>ak (zG2 (K:=48) CO.out i hi) (by decide));dsimp only at Af;generalize xx ⟨num,rev,md,sz,⟨fs,LV,GA⟩⟩ 2=TG at *;obtain ⟨er,⟨an,ar,am,az,⟨af,aL,aG⟩⟩⟩:=TG;dsimp only at Eb lM;have O0:=XG;have VG:=Ea;have VH:=zh (aj v2.heap.size v2);obtain ⟨y0,y1,y2,y3,y4,y5,y6,y7,y8,y9,Gs,Gt,Gu,Gv⟩:=(dZ.gen O0.out).q;go_wp2_with fail;refine Af.out.mono ?_;rintro e w6 ⟨⟨sb,rfl,ho⟩,hb⟩;dsimp only at ho ⊢;clear y0 y1 y2 y3 y4 y5 y6 y7 y8 y9 Gs Gt Gu Gv;have RG:=zh (ho.rd VG.out hb);have H9:=zh (dZ.below O0.out hb);have iZ:=zh (zA VH.out hb);clear ho hb Af CO
    have lC:=zh (lX.out _ (zD (B:=bG) (b:=bG) (ag _) (zQ an ar am az sb aL aG) (Bu.out _ iZ.out)));have Kz:=zh (dZ.pW H9.out an ar am az sb aL aG);have jx:=zh (fG.gen RG.out H9.out (zQ an ar am az sb aL aG));have xf:=(dZ.gen H9.out).f;obtain ⟨x0,x1,x2,x3,x4,x5,x6,x7,x8,x9,gq,gu,gj,gl⟩:=(dZ.gen H9.out).q;go_wp2_with fail;go_meet
    case rel=>exact ⟨er,an,ar,am,az,aL,aG,sb,af,_,_,_,L,rfl,Kz,jx,Eb,HS.out.below lC.out|> zh,zh (HR.out.below lC.out),jb,zh (by rw[lM.out]),zh (HZ.out.below lC.out),zh (zA HB.out lC.out)⟩
   as_aux_lemma =>
   clear HS HR HZ HB XG Ea jb CO jS HG jG I1 Bb HU F7 lX Bu CZ eM OX fS;obtain ⟨er,an,ar,am,az,aL,aG,sb,af,a',m',c',L',rfl,XG,RG,Eb,HS,HR,jb,lM,HZ,HB⟩:=hcut;generalize wc=w8 at *;obtain ⟨g0,g1,g2,g3,g4,g5,g6,g7,g8,g9,g10,g11,g12,g13⟩:=(dZ.gen XG.out).q;obtain ⟨k0,k1,k2,k3⟩:=(dZ.lF HS.out).q;have Ab:=zh (zJU 1 9000 false a' m' c' L' w8 HR.out jb.out (⟨an,ar,am,az,⟨af,aL,aG⟩⟩,sb) RG.out Eb.out);have pP:=zh (fun h=>P3 (s:=⟨1,9000,false,ep L'⟩) (g:=⟨an,ar,am,az,⟨af,aL,aG⟩⟩) h);have Ar:=zh (lM.out.trans (show (vt ⟨1,9000,false,ep L'⟩ (er,⟨an,ar,am,az,⟨af,aL,aG⟩⟩)).dY=(if er=0∧(yV ⟨1,9000,false,ep L'⟩ ⟨an,ar,am,az,⟨af,aL,aG⟩⟩).2=0 then (yV ⟨1,9000,false,ep L'⟩ ⟨an,ar,am,az,⟨af,aL,aG⟩⟩).1 else ⟨1,9000,false,ep L'⟩).dY from rfl));clear lM;dsimp only at Ab
   generalize yV ⟨1,9000,false,ep L'⟩ ⟨an,ar,am,az,⟨af,aL,aG⟩⟩=CS at *;obtain ⟨⟨Fv,rA,Fw,cg⟩,fe⟩:=CS;go_wp2_with fail;refine Ab.out.mono ?_;rintro e w9 ⟨⟨xa,xn,xc,xL,rfl,OZ,KA⟩,hb⟩;dsimp only at KA pP Ar ⊢;clear k0 k1 k2 k3;clear g0 g1 g2 g3 g4 g5 g6 g7 g8 g9 g10 g11 g12 g13;replace HS:=zh (HS.out.below hb);replace HR:=zh (HR.out.below hb);replace HZ:=zh (HZ.out.below hb);replace HB:=zh (zA HB.out hb);have nj:=zh OZ;have gX:=zh KA;clear OZ KA hb Ab XG RG Eb;go_upto_region 27 with fail;change Code.wp _ _ _ _ (w9.alloc (.cells (zK Fv rA Fw xa xn xc) 31));have fH:=zM w9 Fv rA Fw xa xn xc 31;have HX:=zh (dZ.new w9 (zK Fv rA Fw xa xn xc) 31);replace nj:=zh (nj.out.below fH);replace HS:=zh (HS.out.below fH);replace HR:=zh (HR.out.below fH);replace HZ:=zh (HZ.out.below fH);replace HB:=zh (zA HB.out fH);clear fH
   generalize w9.alloc (.cells (zK Fv rA Fw xa xn xc) 31)=w10 at *;generalize w9.heap.size=bX at *
   by_cases VI:er=0
   ·
    subst VI
    by_cases hf0:fe=0
    ·
     subst hf0;obtain ⟨rfl,rfl,rfl⟩:Fv=1∧rA=9000∧Fw=false:=by
      have h9:=pP.out rfl;injection h9 with h1 h2 h3 h4;exact ⟨h1,h2,h3⟩
     obtain ⟨z0,z1,z2,z3⟩:=(dZ.lF HX.out).q;obtain ⟨y0,y1,y2,y3⟩:=(dZ.lF HS.out).q;have yf:=(dZ.lF HS.out).f;have KB:=zh (dZ.u_ HS.out 1 9000 false xa xn xc);have iq:=zh (fD.lF nj.out HS.out (zR 1 9000 false xa xn xc));have DL:=zh (dZ.eE (c:=bS) (by omega) (zR 1 9000 false xa xn xc) HZ.out);have fV:=zh (zD (B:=w.heap.size) (b:=bS) (by omega) (zR 1 9000 false xa xn xc) HB.out);have jU:=zh (show ep xL=(wO Dj (ac.take (k+1))).dY from by rw[Ky.out,Ar.out,ah ⟨rfl,rfl⟩];exact gX.out);go_wp2_with fail;exact ⟨⟨k+1,xa,xn,xc,xL,by go_num,by omega,by omega,KB,iq,jU,DL,fV⟩,by simp[intOf];omega⟩
    have hz:(fe==0)=false:=beq_eq_false_iff_ne.2 hf0;have jU:=zh (show ep L'=(wO Dj (ac.take (k+1))).dY from by rw[Ky.out,Ar.out,ai (fun h=>hf0 h.2)]);go_wp2_with fail;exact ⟨⟨k+1,_,_,_,L',by go_num,by omega,by omega,HS,HR,jU,HZ,HB⟩,by simp[intOf];omega⟩
   have hz:(er==0)=false:=beq_eq_false_iff_ne.2 VI;have jU:=zh (show ep L'=(wO Dj (ac.take (k+1))).dY from by rw[Ky.out,Ar.out,ai (fun h=>VI h.1)]);go_wp2_with fail;exact ⟨⟨k+1,_,_,_,L',by go_num,by omega,by omega,HS,HR,jU,HZ,HB⟩,by simp[intOf];omega⟩
  have i2:¬ (k:Int)<8:=by omega
  have hE:=zh (DK.out k (.inl (by omega)));have HI:=AW.out k hk;rw[← hE.out] at HE HI;generalize xR ac=MS at *;obtain ⟨sid,OW,sro,sg⟩:=MS;obtain ⟨_,IY,pd,IZ,_,_⟩:=HI;dsimp only at IY pd IZ HE;subst IY pd IZ;have Dg:=zh (dZ.lF HZ.out);obtain ⟨k0,k1,k2,k3⟩:=(dZ.lF HS.out).q;obtain ⟨z0,z1,z2,z3⟩:=Dg.out.q;have zf:=Dg.out.f;go_wp2_with fail;change bodyPost _ _ _ _ _ (pts wr w.heap.size (zR 1 9000 false a m c));have Cz:=zh (fD.lF HR.out HZ.out (zR 1 9000 false a m c));have hby:=Dg.out.all 1 9000 false a m c;have eD:=zh (zD (B:=w.heap.size) (b:=w.heap.size) (by omega) (zR 1 9000 false a m c) HB.out);generalize pts wr w.heap.size (zR 1 9000 false a m c)=V at *;exact au (v:=zO 1 9000 false a m c) (by simp[results,Tryz.results20,go_sem,hby.c0,hby.c1,hby.c2,hby.c3]) rfl (⟨⟨a,m,c,L,rfl,Cz.out,HE.out⟩,eD.out⟩)
 have i1:¬ (k:Int)<(n:Int):=by omega
 have hE:=zh (DK.out k (.inr ⟨by omega,jR⟩));have HI:=AW.out k hk;rw[← hE.out] at HE HI;generalize xR ac=MS at *;obtain ⟨sid,OW,sro,sg⟩:=MS;obtain ⟨_,IY,pd,IZ,_,_⟩:=HI;dsimp only at IY pd IZ HE;subst IY pd IZ;have Dg:=zh (dZ.lF HZ.out);obtain ⟨k0,k1,k2,k3⟩:=(dZ.lF HS.out).q;obtain ⟨z0,z1,z2,z3⟩:=Dg.out.q;have zf:=Dg.out.f;go_wp2_with fail;change bodyPost _ _ _ _ _ (pts wr w.heap.size (zR 1 9000 false a m c));have Cz:=zh (fD.lF HR.out HZ.out (zR 1 9000 false a m c));have hby:=Dg.out.all 1 9000 false a m c;have eD:=zh (zD (B:=w.heap.size) (b:=w.heap.size) (by omega) (zR 1 9000 false a m c) HB.out);generalize pts wr w.heap.size (zR 1 9000 false a m c)=V at *;exact au (v:=zO 1 9000 false a m c) (by simp[results,Tryz.results20,go_sem,hby.c0,hby.c1,hby.c2,hby.c3]) rfl (⟨⟨a,m,c,L,rfl,Cz.out,HE.out⟩,eD.out⟩)
end Go.Proofs.YtcgfilmmokmdjaaGreat
