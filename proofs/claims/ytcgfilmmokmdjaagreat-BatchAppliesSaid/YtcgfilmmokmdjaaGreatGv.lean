import Derived.Test.YtcgfilmmokmdjaaGreatGf
set_option linter.all false
set_option maxRecDepth 100000
set_option maxHeartbeats 32000000
namespace Go.Proofs.YtcgfilmmokmdjaaGreat
open Go.Proofs.Tryz
open Go.RowKit
def uQ (g:Gn) (s:Sl) (w:World) (h:fN w s g.m.st) (hs:∀ i,i<8->(g.m.st i).length<=10000) :
  Calls prog 49 #[ze g.num g.rev g.mode g.size s g.m.live g.m.ew] w fun e w'=>e=.returned (.bool (we g))/\Below w.heap.size w w':=by
 have HV:=zh (fun W h=>uM s g.m W h (fun i hi=>ak (hs i hi) (by decide)));have HI:=zh (fun W h=>zCN s g.m W h hs);have lh:=zh (fun h=>zFZ (g:=g) h);have l5:=zh (yM g);have Hr:=zh h;have eO:=zh (eU.new w g.num g.rev g.mode g.size s g.m.live g.m.ew 38);have eP:=zh (zT w g.num g.rev g.mode g.size s g.m.live g.m.ew 38);generalize hres:we g=res at *
 by_cases hA:1<=g.num/\g.num<=8/\0<=g.rev/\g.rev<=4294967295/\1<=g.mode/\g.mode<=3
 ·obtain ⟨VM,VN,VO,VP,VQ,VR⟩:=hA
  by_cases hB:16<=g.size/\g.size<=1048576/\g.size%8=0
  ·have rQ:(zN g.m).length<=1000000:=ak (wn hs) (by decide);have hm:xQ g.m=true->(∀ x∈zN g.m,pV x)/\g.m.live=(zz (vp g.m):Int)/\zz (vp g.m)<=330160000/\0<=g.m.ew/\g.m.ew<=1099511627776:=fun hv=>by
    have hV:=(zi g.m).1 hv;refine ⟨qy hV,hV.lv,?_,hV.g0,hV.g1⟩;have h1:=qY (vp g.m);have h2:=qF hs;have:(vp g.m).length*4127<=80000*4127:=aX _ h2;omega
   have hend:xQ g.m=true->res=(uO (zN g.m) g.size&&(g.size==16+g.m.live+g.m.ew)):=fun hv=>by
    rw[dt,<- hres,yM,aO,cM];exact ⟨fun h=>⟨h.ends,h.sum⟩,fun h=>⟨⟨VM,VN⟩,⟨VO,VP⟩,⟨VQ,VR⟩,hB,hv,h.1,h.2⟩⟩
   have hno:xQ g.m=false->res=false:=fun hv=>lh.o fun h=>by rw[h.m] at hv;cases hv
   have HM:=zh hm;have HE:=zh hend;have HN:=zh hno;clear hm hend hno lh l5 hres h hs;have HFt:=zh (fun v W' N (h:fR W' N v (zN g.m)) (h2:N<=W'.heap.size) hok=>zLP v (zN g.m) g.size W' N h2 h hok rQ hB.1);have sV:=hB.1;have hd2:=hB.2.1;have Fg:=hB.2.2;clear hB rQ;generalize xQ g.m=vb at *;generalize zN g.m=I at *;generalize zz (vp g.m)=SM at *;generalize hen:uO I g.size=eb at *;clear hen;obtain ⟨a,b,c,d,f,L,G⟩:=g;dsimp only at *;have VT:d.tmod 8=0:=by rw[dV (by omega)];exact Fg
   go_enter func49,ntmps49
   go_upto_region 1 with fail;obtain ⟨W,hW⟩:∃ W,w.alloc (.cells (zU a b c d s L G) 38)=W:=⟨_,rfl⟩
   change Code.wp _ _ _ _ (w.alloc (.cells (zU a b c d s L G) 38));rw[hW] at eO eP |-;have pH:=eO.o.lt;obtain ⟨n0,n1,n2,n3,c0,c1,c2,c3,c4,c5,c6,c7,c8,c9⟩:=eO.o.q;clear hW;go_wp2_with fail;refine (HV.o _ (Hr.o.bb eP.o)).mono ?_;rintro e w1 ⟨rfl,hb1⟩;have eV:=zh (zA eP.o hb1);have fG:=zh (eO.o.bb hb1);have fL:=zh (Hr.o.bb eV.o);clear hb1 HV eO eP n0 n1 n2 n3 c0 c1 c2 c3 c4 c5 c6 c7 c8 c9
   cases vb
   ·have HF:=zh (HN.o rfl);go_wp2_with fail;go_ret;exact ⟨zJ HF.o.symm,eV.o⟩
   obtain ⟨hok,rfl,hL,Jk,hG2⟩:=HM.o rfl;have HF:=zh (HE.o rfl);have HFu:=zh (fun v W' N h h2=>HFt.o v W' N h h2 hok);clear HFt HE HN HM hok;have O_:=fG.o.lt;generalize hb0:w.heap.size=b0 at *;have E0:=zh hb0;clear hb0
   have CW:Hid (∀ WV,Below w1.heap.size w1 WV->WV.cell? ⟨b0,3,none⟩=some (.int .i64 d)/\WV.cell? ⟨b0,4,none⟩=some (.slice (s.a 0) (s.n 0) (s.c 0))/\WV.cell? ⟨b0,5,none⟩=some (.slice (s.a 1) (s.n 1) (s.c 1))/\WV.cell? ⟨b0,6,none⟩=some (.slice (s.a 2) (s.n 2) (s.c 2))/\WV.cell? ⟨b0,7,none⟩=some (.slice (s.a 3) (s.n 3) (s.c 3))/\WV.cell? ⟨b0,8,none⟩=some (.slice (s.a 4) (s.n 4) (s.c 4))/\WV.cell? ⟨b0,9,none⟩=some (.slice (s.a 5) (s.n 5) (s.c 5))/\WV.cell? ⟨b0,10,none⟩=some (.slice (s.a 6) (s.n 6) (s.c 6))/\WV.cell? ⟨b0,11,none⟩=some (.slice (s.a 7) (s.n 7) (s.c 7))/\WV.cell? ⟨b0,12,none⟩=some (.int .i64 (SM:Int))/\WV.cell? ⟨b0,13,none⟩=some (.int .i64 G)):=zh (fun WV hb=>have h:=fG.o.bb hb;⟨h.n3,h.c0,h.c1,h.c2,h.c3,h.c4,h.c5,h.c6,h.c7,h.cl,h.cg⟩)
   cases eb
   ·go_wp2_with fail;refine wp_region_held_drew (S:=fun w'=>w'.cell? ⟨b0,3,none⟩=some (.int .i64 d)/\w'.cell? ⟨b0,4,none⟩=some (.slice (s.a 0) (s.n 0) (s.c 0))/\w'.cell? ⟨b0,5,none⟩=some (.slice (s.a 1) (s.n 1) (s.c 1))/\w'.cell? ⟨b0,6,none⟩=some (.slice (s.a 2) (s.n 2) (s.c 2))/\w'.cell? ⟨b0,7,none⟩=some (.slice (s.a 3) (s.n 3) (s.c 3))/\w'.cell? ⟨b0,8,none⟩=some (.slice (s.a 4) (s.n 4) (s.c 4))/\w'.cell? ⟨b0,9,none⟩=some (.slice (s.a 5) (s.n 5) (s.c 5))/\w'.cell? ⟨b0,10,none⟩=some (.slice (s.a 6) (s.n 6) (s.c 6))/\w'.cell? ⟨b0,11,none⟩=some (.slice (s.a 7) (s.n 7) (s.c 7))/\w'.cell? ⟨b0,12,none⟩=some (.int .i64 (SM:Int))/\w'.cell? ⟨b0,13,none⟩=some (.int .i64 G)) (by kernel_rfl) (CW.o _ (aj _ _).drew) ?_;intro hS0
    refine bJ (i:=0) (v:=?_) rfl (by kernel_rfl) (by kernel_rfl) (by kernel_rfl) (fun _ _ _ h=>h) (Or.inl ⟨by rfl,?_⟩) (by assumption) ?_
    rotate_left
    ·intro w hSw
     try dsimp only at hSw
     go_simp
     with_reducible rfl
    try simp only[aV,bn,Act.put,aJ,aK,aI]
    refine bJ (i:=1) (v:=?_) rfl (by kernel_rfl) (by kernel_rfl) (by kernel_rfl) (fun _ _ _ h=>h) (Or.inl ⟨by rfl,?_⟩) (by assumption) ?_
    rotate_left
    ·intro w hSw
     try dsimp only at hSw
     go_simp
     with_reducible rfl
    try simp only[aV,bw,bn,Act.put,aJ,aK,aI]
    refine bJ (i:=3) (v:=?_) rfl (by kernel_rfl) (by kernel_rfl) (by kernel_rfl) (fun _ _ _ h=>h) (Or.inl ⟨by rfl,?_⟩) (by assumption) ?_
    rotate_left
    ·intro w hSw
     try dsimp only at hSw
     go_simp
     with_reducible rfl
    try simp only[aV,bw,bn,Act.put,aJ,aK,aI]
    refine bJ (i:=4) (v:=?_) rfl (by kernel_rfl) (by kernel_rfl) (by kernel_rfl) (fun _ _ _ h=>h) (Or.inl ⟨by rfl,?_⟩) (by assumption) ?_
    rotate_left
    ·intro w hSw
     try dsimp only at hSw
     go_simp
     with_reducible rfl
    try simp only[aV,bw,bn,Act.put,aJ,aK,aI]
    refine wpAnyH_ready (rs:=[2]) (by kernel_rfl) (by simp) ?_;refine AllReadyH.cons rfl (fun K hK=>?_) AllReadyH.nil;simp only[aV,bw,bn]
    go_simp
    go_at_call 89
    refine (HI.o _ (fL.o.bb (aj _ _).drew)).mono ?_;rintro e wa ⟨va,rfl,mQ,eG⟩;dsimp only;refine hK.out _ _ (CW.o _ (zA (aj _ _).drew eG)) (fun hHeld=>?_);clear hK
    try simp only[aV,bw,bn,Act.put,aJ,aK,aI]
    refine wpAnyH_ready (rs:=[5]) (by kernel_rfl) (by simp) ?_;refine AllReadyH.cons rfl (fun K hK=>?_) AllReadyH.nil;simp only[aV,bw,bn]
    go_simp
    go_at_call 88
    refine (HFu.o _ _ w1.heap.size mQ eG.size).mono ?_;rintro e wb ⟨rfl,mC⟩;dsimp only;refine hK.out _ _ (CW.o _ ((zA (aj _ _).drew eG).trans mC)) (fun hHeld=>?_);clear hK
    try simp only[aV,bw,bn,Act.put,aJ,aK,aI]
    refine bJ (i:=6) (v:=?_) rfl (by kernel_rfl) (by kernel_rfl) (by kernel_rfl) (fun _ _ _ h=>h) (Or.inl ⟨by rfl,?_⟩) (by assumption) ?_
    rotate_left
    ·intro w hSw
     try dsimp only at hSw
     go_simp
     with_reducible rfl
    try simp only[aV,bw,bn,Act.put,aJ,aK,aI]
    refine bJ (i:=7) (v:=undef) rfl (by kernel_rfl) (by kernel_rfl) (by kernel_rfl) (fun _ _ _ h=>h) (Or.inr ⟨by rfl,rfl⟩) (by assumption) ?_
    try simp only[aV,bw,bn,Act.put,aJ,aK,aI]
    refine bJ (i:=8) (v:=undef) rfl (by kernel_rfl) (by kernel_rfl) (by kernel_rfl) (fun _ _ _ h=>h) (Or.inr ⟨by rfl,rfl⟩) (by assumption) ?_
    try simp only[aV,bw,bn,Act.put,aJ,aK,aI]
    refine bJ (i:=9) (v:=undef) rfl (by kernel_rfl) (by kernel_rfl) (by kernel_rfl) (fun _ _ _ h=>h) (Or.inr ⟨by rfl,rfl⟩) (by assumption) ?_
    try simp only[aV,bw,bn,Act.put,aJ,aK,aI]
    refine bJ (i:=10) (v:=undef) rfl (by kernel_rfl) (by kernel_rfl) (by kernel_rfl) (fun _ _ _ h=>h) (Or.inr ⟨by rfl,rfl⟩) (by assumption) ?_
    try simp only[aV,bw,bn,Act.put,aJ,aK,aI]
    refine bJ (i:=11) (v:=undef) rfl (by kernel_rfl) (by kernel_rfl) (by kernel_rfl) (fun _ _ _ h=>h) (Or.inr ⟨by rfl,rfl⟩) (by assumption) ?_
    try simp only[aV,bw,bn,Act.put,aJ,aK,aI]
    refine bJ (i:=12) (v:=undef) rfl (by kernel_rfl) (by kernel_rfl) (by kernel_rfl) (fun _ _ _ h=>h) (Or.inr ⟨by rfl,rfl⟩) (by assumption) ?_
    try simp only[aV,bw,bn,Act.put,aJ,aK,aI]
    refine bJ (i:=13) (v:=undef) rfl (by kernel_rfl) (by kernel_rfl) (by kernel_rfl) (fun _ _ _ h=>h) (Or.inr ⟨by rfl,rfl⟩) (by assumption) ?_
    try simp only[aV,bw,bn,Act.put,aJ,aK,aI]
    refine bJ (i:=14) (v:=undef) rfl (by kernel_rfl) (by kernel_rfl) (by kernel_rfl) (fun _ _ _ h=>h) (Or.inr ⟨by rfl,rfl⟩) (by assumption) ?_
    try simp only[aV,bw,bn,Act.put,aJ,aK,aI]
    refine bJ (i:=15) (v:=undef) rfl (by kernel_rfl) (by kernel_rfl) (by kernel_rfl) (fun _ _ _ h=>h) (Or.inr ⟨by rfl,rfl⟩) (by assumption) ?_
    try simp only[aV,bw,bn,Act.put,aJ,aK,aI]
    refine bJ (i:=16) (v:=undef) rfl (by kernel_rfl) (by kernel_rfl) (by kernel_rfl) (fun _ _ _ h=>h) (Or.inr ⟨by rfl,rfl⟩) (by assumption) ?_
    try simp only[aV,bw,bn,Act.put,aJ,aK,aI]
    refine bJ (i:=17) (v:=undef) rfl (by kernel_rfl) (by kernel_rfl) (by kernel_rfl) (fun _ _ _ h=>h) (Or.inr ⟨by rfl,rfl⟩) (by assumption) ?_
    try simp only[aV,bw,bn,Act.put,aJ,aK,aI]
    refine bJ (i:=18) (v:=?_) rfl (by kernel_rfl) (by kernel_rfl) (by kernel_rfl) (fun _ _ _ h=>h) (Or.inl ⟨by rfl,?_⟩) (by assumption) ?_
    rotate_left
    ·intro w hSw
     try dsimp only at hSw
     go_simp
     with_reducible rfl
    try simp only[aV,bw,bn,Act.put,aJ,aK,aI]
    refine bJ (i:=19) (v:=?_) rfl (by kernel_rfl) (by kernel_rfl) (by kernel_rfl) (fun _ _ _ h=>h) (Or.inl ⟨by rfl,?_⟩) (by assumption) ?_
    rotate_left
    ·intro w hSw
     try dsimp only at hSw
     go_simp
     with_reducible rfl
    try simp only[aV,bw,bn,Act.put,aJ,aK,aI]
    refine wpAnyH_done (by kernel_rfl) ?_ _;have HZ:=zh (k_ eV.o (bT O_) ((zA (aj _ _).drew eG).trans mC));clear eG mC mQ;go_wp2_with fail;go_ret;exact ⟨zJ HF.o.symm,by rw[E0.o];exact HZ.o⟩
   go_wp2_with fail
   go_region_held3 (fun w'=>w'.cell? ⟨b0,3,none⟩=some (.int .i64 d)/\w'.cell? ⟨b0,4,none⟩=some (.slice (s.a 0) (s.n 0) (s.c 0))/\w'.cell? ⟨b0,5,none⟩=some (.slice (s.a 1) (s.n 1) (s.c 1))/\w'.cell? ⟨b0,6,none⟩=some (.slice (s.a 2) (s.n 2) (s.c 2))/\w'.cell? ⟨b0,7,none⟩=some (.slice (s.a 3) (s.n 3) (s.c 3))/\w'.cell? ⟨b0,8,none⟩=some (.slice (s.a 4) (s.n 4) (s.c 4))/\w'.cell? ⟨b0,9,none⟩=some (.slice (s.a 5) (s.n 5) (s.c 5))/\w'.cell? ⟨b0,10,none⟩=some (.slice (s.a 6) (s.n 6) (s.c 6))/\w'.cell? ⟨b0,11,none⟩=some (.slice (s.a 7) (s.n 7) (s.c 7))/\w'.cell? ⟨b0,12,none⟩=some (.int .i64 (SM:Int))/\w'.cell? ⟨b0,13,none⟩=some (.int .i64 G))
   (first|with_reducible exact CW.o _ ((zA (aj _ _).drew eG).trans mC)|with_reducible exact CW.o _ (zA (aj _ _).drew eG)|exact CW.o _ (aj _ _).drew)
   (first|(go_at_call 89;(with_reducible refine (HI.o _ (fL.o.bb (aj _ _).drew)).mono ?_);rintro e wa ⟨va,rfl,mQ,eG⟩)|(go_at_call 88;refine (HFu.o _ _ w1.heap.size mQ eG.size).mono ?_;rintro e wb ⟨rfl,mC⟩))
   rename_i hHeld;clear hHeld;have HZ:=zh (k_ eV.o (bT O_) ((zA (aj _ _).drew eG).trans mC));clear eG mC mQ;go_wp2_with fail;go_ret;exact ⟨zJ (by rw[HF.o,bU,aF (16+(SM:Int)) (by omega),aF _ (by omega)]),by rw[E0.o];exact HZ.o⟩
  have hf:res=false:=lh.o fun hv=>hB ⟨hv.size.1,hv.size.2.1,hv.size.2.2⟩
  have HF:=zh hf;have HB:=zh hB;clear hB hf lh l5 hres h hs HI;generalize xQ g.m=vb at *;obtain ⟨a,b,c,d,f,L,G⟩:=g;dsimp only at *
  go_enter func49,ntmps49
  go_upto_region 1 with fail;obtain ⟨W,hW⟩:∃ W,w.alloc (.cells (zU a b c d s L G) 38)=W:=⟨_,rfl⟩
  change Code.wp _ _ _ _ (w.alloc (.cells (zU a b c d s L G) 38));rw[hW] at eO eP |-;have pH:=eO.o.lt;have n0:=eO.o.n0;have n1:=eO.o.n1;have n2:=eO.o.n2;have n3:=eO.o.n3;have hb:=HB.o;clear hW;have hc:d<16∨(16<=d/\1048576<d)∨(16<=d/\d<=1048576/\d%8≠0):=by omega
  clear hb;rcases hc with hc|⟨h1,hc⟩|⟨h1,h2,hc⟩
  ·go_wp2_with fail;go_ret;exact ⟨zJ HF.o.symm,eP.o⟩
  ·go_wp2_with fail;go_ret;exact ⟨zJ HF.o.symm,eP.o⟩
  have VT:d.tmod 8=d%8:=dV (by omega);have lu:(d%8 != 0)=true:=by simp[hc]
  go_wp2_with fail;go_ret;exact ⟨zJ HF.o.symm,eP.o⟩
 have hf:res=false:=lh.o fun hv=>hA ⟨hv.num.1,hv.num.2,hv.rev.1,hv.rev.2,hv.mode.1,hv.mode.2⟩
 have HF:=zh hf;have HA:=zh hA;clear hA hf lh l5 hres h hs HV HI;obtain ⟨a,b,c,d,f,L,G⟩:=g;dsimp only at *
 go_enter func49,ntmps49
 go_upto_region 1 with fail;obtain ⟨W,hW⟩:∃ W,w.alloc (.cells (zU a b c d s L G) 38)=W:=⟨_,rfl⟩
 change Code.wp _ _ _ _ (w.alloc (.cells (zU a b c d s L G) 38));rw[hW] at eO eP |-;have pH:=eO.o.lt;have n0:=eO.o.n0;have n1:=eO.o.n1;have n2:=eO.o.n2;have ha:=HA.o;clear hW;have hc:a<1∨(1<=a/\8<a)∨(1<=a/\a<=8/\b<0)∨(1<=a/\a<=8/\0<=b/\4294967295<b)∨(1<=a/\a<=8/\0<=b/\b<=4294967295/\c<1)∨(1<=a/\a<=8/\0<=b/\b<=4294967295/\1<=c/\3<c):=by omega
 clear ha;rcases hc with hc|⟨h1,hc⟩|⟨h1,h2,hc⟩|⟨h1,h2,h3,hc⟩|⟨h1,h2,h3,h4,hc⟩|⟨h1,h2,h3,h4,h5,hc⟩ <;>
 (go_wp2_with fail;go_ret;exact ⟨zJ HF.o.symm,eP.o⟩)
end Go.Proofs.YtcgfilmmokmdjaaGreat
