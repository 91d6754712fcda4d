import Derived.Test.YtcgfilmmokmdjaaGreatGf
import Derived.Test.YtcgfilmmokmdjaaGreatQAG
import Derived.Test.YtcgfilmmokmdjaaGreatQAE
import Derived.StillTailTactics
set_option linter.all false
set_option maxRecDepth 100000
set_option maxHeartbeats 32000000
namespace Go.Proofs.YtcgfilmmokmdjaaGreat
open Go.RowKit
theorem vu (g:Gn) (s:Sl) (w:World) (h:fG w s g.m.st) (hs:∀ i,i<8→(g.m.st i).length≤10000) :
  Calls Tryz.prog 49 #[zd g.num g.rev g.mode g.size s g.m.live g.m.d_] w fun e w'=>e=.returned (.bool (wN g))∧Below w.heap.size w w':=by
 have HV:=zh (fun W h=>vn s g.m W h (fun i hi=>ak (hs i hi) (by decide)));have HI:=zh (fun W h=>XV s g.m W h hs);have jq:=zh (fun h=>Yi (g:=g) h);have lj:=zh (yJ g);have Hr:=zh h;have eB:=zh (eO.new w g.num g.rev g.mode g.size s g.m.live g.m.d_ 38);have eH:=zh (zZ w g.num g.rev g.mode g.size s g.m.live g.m.d_ 38);generalize hres:wN g=res at *
 by_cases hA:1≤g.num∧g.num≤8∧0≤g.rev∧g.rev≤4294967295∧1≤g.mode∧g.mode≤3
 ·
  obtain ⟨SS,SU,SV,SX,SY,SZ⟩:=hA
  by_cases hB:16≤g.size∧g.size≤1048576∧g.size%8=0
  ·
   have pd:(zJ g.m).length≤1000000:=ak (wS hs) (by decide);have hm:xC g.m=true→(∀ x∈zJ g.m,oB x)∧g.m.live=(zv (vN g.m):Int)∧zv (vN g.m)≤330160000∧0≤g.m.d_∧g.m.d_≤1099511627776:=fun hv=>by
    have hV:=(zV g.m).1 hv;refine ⟨qH hV,hV.lv,?_,hV.g0,hV.g1⟩;have h1:=tp (vN g.m);have h2:=tP hs;have:(vN g.m).length*4127≤80000*4127:=aW _ h2;omega
   have hend:xC g.m=true→res=(vr (zJ g.m) g.size&&(g.size==16+g.m.live+g.m.d_)):=fun hv=>by
    rw[cT,← hres,yJ,aN,cE];exact ⟨fun h=>⟨h.ends,h.sum⟩,fun h=>⟨⟨SS,SU⟩,⟨SV,SX⟩,⟨SY,SZ⟩,hB,hv,h.1,h.2⟩⟩
   have hno:xC g.m=false→res=false:=fun hv=>jq.out fun h=>by rw[h.m] at hv;cases hv
   have HM:=zh hm;have HE:=zh hend;have HN:=zh hno;clear hm hend hno jq lj hres h hs;have Yo:=zh (fun v W' N (h:fC W' N v (zJ g.m)) (h2:N≤W'.heap.size) hok=>zJp v (zJ g.m) g.size W' N h2 h hok pd hB.1);have rC:=hB.1;have hd2:=hB.2.1;have DT:=hB.2.2;clear hB pd;generalize xC g.m=vb at *;generalize zJ g.m=I at *;generalize zv (vN g.m)=SM at *;generalize hen:vr I g.size=eb at *;clear hen;obtain ⟨a,b,c,d,f,L,G⟩:=g;dsimp only at *;have S0:d.tmod 8=0:=by rw[Int.tmod_eq_emod_of_nonneg (by omega)];exact DT
   go_enter Tryz.func49,Tryz.ntmps49
   go_upto_region 1 with fail;obtain ⟨W,hW⟩:∃ W,w.alloc (.cells (zX a b c d s L G) 38)=W:=⟨_,rfl⟩
   change Code.wp _ _ _ _ (w.alloc (.cells (zX a b c d s L G) 38));rw[hW] at eB eH ⊢;have nW:=eB.out.lt;obtain ⟨n0,n1,n2,n3,c0,c1,c2,c3,c4,c5,c6,c7,c8,c9⟩:=eB.out.q;clear hW;go_wp2_with fail;refine (HV.out _ (Hr.out.below eH.out)).mono ?_;rintro e w1 ⟨rfl,hb1⟩;have eP:=zh (zA eH.out hb1);have fh:=zh (eB.out.below hb1);have fq:=zh (Hr.out.below eP.out);clear hb1 HV eB eH n0 n1 n2 n3 c0 c1 c2 c3 c4 c5 c6 c7 c8 c9
   cases vb
   ·
    have HF:=zh (HN.out rfl);go_wp2_with fail;go_ret;exact ⟨zI HF.out.symm,eP.out⟩
   obtain ⟨hok,rfl,hL,Gm,hG2⟩:=HM.out rfl;have HF:=zh (HE.out rfl);have Yp:=zh (fun v W' N h h2=>Yo.out v W' N h h2 hok);clear Yo HE HN HM hok;have MD:=fh.out.lt;generalize hb0:w.heap.size=b0 at *;have E0:=zh hb0;clear hb0
   have Bf:=zh (show ∀ WV,Below w1.heap.size w1 WV→WV.cell? ⟨b0,3,none⟩=some (.int .i64 d)∧WV.cell? ⟨b0,4,none⟩=some (.slice (s.a 0) (s.n 0) (s.c 0))∧WV.cell? ⟨b0,5,none⟩=some (.slice (s.a 1) (s.n 1) (s.c 1))∧WV.cell? ⟨b0,6,none⟩=some (.slice (s.a 2) (s.n 2) (s.c 2))∧WV.cell? ⟨b0,7,none⟩=some (.slice (s.a 3) (s.n 3) (s.c 3))∧WV.cell? ⟨b0,8,none⟩=some (.slice (s.a 4) (s.n 4) (s.c 4))∧WV.cell? ⟨b0,9,none⟩=some (.slice (s.a 5) (s.n 5) (s.c 5))∧WV.cell? ⟨b0,10,none⟩=some (.slice (s.a 6) (s.n 6) (s.c 6))∧WV.cell? ⟨b0,11,none⟩=some (.slice (s.a 7) (s.n 7) (s.c 7))∧WV.cell? ⟨b0,12,none⟩=some (.int .i64 (SM:Int))∧WV.cell? ⟨b0,13,none⟩=some (.int .i64 G) from fun WV hb=>have h:=fh.out.below hb;⟨h.n3,h.c0,h.c1,h.c2,h.c3,h.c4,h.c5,h.c6,h.c7,h.cl,h.cg⟩)
   cases eb
   ·
    go_wp2_with fail;refine wp_region_held_drew (S:=fun w'=>w'.cell? ⟨b0,3,none⟩=some (.int .i64 d)∧w'.cell? ⟨b0,4,none⟩=some (.slice (s.a 0) (s.n 0) (s.c 0))∧w'.cell? ⟨b0,5,none⟩=some (.slice (s.a 1) (s.n 1) (s.c 1))∧w'.cell? ⟨b0,6,none⟩=some (.slice (s.a 2) (s.n 2) (s.c 2))∧w'.cell? ⟨b0,7,none⟩=some (.slice (s.a 3) (s.n 3) (s.c 3))∧w'.cell? ⟨b0,8,none⟩=some (.slice (s.a 4) (s.n 4) (s.c 4))∧w'.cell? ⟨b0,9,none⟩=some (.slice (s.a 5) (s.n 5) (s.c 5))∧w'.cell? ⟨b0,10,none⟩=some (.slice (s.a 6) (s.n 6) (s.c 6))∧w'.cell? ⟨b0,11,none⟩=some (.slice (s.a 7) (s.n 7) (s.c 7))∧w'.cell? ⟨b0,12,none⟩=some (.int .i64 (SM:Int))∧w'.cell? ⟨b0,13,none⟩=some (.int .i64 G)) (by kernel_rfl) (Bf.out _ (aj _ _).drew) ?_;intro hS0
    refine bN (i:=0) (v:=?_) rfl (by kernel_rfl) (by kernel_rfl) (by kernel_rfl) (fun _ _ _ h=>h) (Or.inl ⟨by rfl,?_⟩) (by assumption) ?_
    rotate_left
    ·
     intro w hSw
     try dsimp only at hSw
     go_simp
     with_reducible rfl
    try simp only[aU,bp,Act.put,aK,aM,aJ]
    refine bN (i:=1) (v:=?_) rfl (by kernel_rfl) (by kernel_rfl) (by kernel_rfl) (fun _ _ _ h=>h) (Or.inl ⟨by rfl,?_⟩) (by assumption) ?_
    rotate_left
    ·
     intro w hSw
     try dsimp only at hSw
     go_simp
     with_reducible rfl
    try simp only[aU,bu,bp,Act.put,aK,aM,aJ]
    refine bN (i:=3) (v:=?_) rfl (by kernel_rfl) (by kernel_rfl) (by kernel_rfl) (fun _ _ _ h=>h) (Or.inl ⟨by rfl,?_⟩) (by assumption) ?_
    rotate_left
    ·
     intro w hSw
     try dsimp only at hSw
     go_simp
     with_reducible rfl
    try simp only[aU,bu,bp,Act.put,aK,aM,aJ]
    refine bN (i:=4) (v:=?_) rfl (by kernel_rfl) (by kernel_rfl) (by kernel_rfl) (fun _ _ _ h=>h) (Or.inl ⟨by rfl,?_⟩) (by assumption) ?_
    rotate_left
    ·
     intro w hSw
     try dsimp only at hSw
     go_simp
     with_reducible rfl
    try simp only[aU,bu,bp,Act.put,aK,aM,aJ]
    refine wpAnyH_ready (rs:=[2]) (by kernel_rfl) (by simp) ?_;refine AllReadyH.cons rfl (fun K hK=>?_) AllReadyH.nil;simp only[aU,bu,bp]
    go_simp
    go_at_call 89
    refine (HI.out _ (fq.out.below (aj _ _).drew)).mono ?_;rintro e wa ⟨va,rfl,lY,ew⟩;dsimp only;refine hK.out _ _ (Bf.out _ (zA (aj _ _).drew ew)) (fun hHeld=>?_);clear hK
    try simp only[aU,bu,bp,Act.put,aK,aM,aJ]
    refine wpAnyH_ready (rs:=[5]) (by kernel_rfl) (by simp) ?_;refine AllReadyH.cons rfl (fun K hK=>?_) AllReadyH.nil;simp only[aU,bu,bp]
    go_simp
    go_at_call 88
    refine (Yp.out _ _ w1.heap.size lY ew.size).mono ?_;rintro e wb ⟨rfl,lI⟩;dsimp only;refine hK.out _ _ (Bf.out _ ((zA (aj _ _).drew ew).trans lI)) (fun hHeld=>?_);clear hK
    try simp only[aU,bu,bp,Act.put,aK,aM,aJ]
    refine bN (i:=6) (v:=?_) rfl (by kernel_rfl) (by kernel_rfl) (by kernel_rfl) (fun _ _ _ h=>h) (Or.inl ⟨by rfl,?_⟩) (by assumption) ?_
    rotate_left
    ·
     intro w hSw
     try dsimp only at hSw
     go_simp
     with_reducible rfl
    try simp only[aU,bu,bp,Act.put,aK,aM,aJ]
    refine bN (i:=7) (v:=undef) rfl (by kernel_rfl) (by kernel_rfl) (by kernel_rfl) (fun _ _ _ h=>h) (Or.inr ⟨by rfl,rfl⟩) (by assumption) ?_
    try simp only[aU,bu,bp,Act.put,aK,aM,aJ]
    refine bN (i:=8) (v:=undef) rfl (by kernel_rfl) (by kernel_rfl) (by kernel_rfl) (fun _ _ _ h=>h) (Or.inr ⟨by rfl,rfl⟩) (by assumption) ?_
    try simp only[aU,bu,bp,Act.put,aK,aM,aJ]
    refine bN (i:=9) (v:=undef) rfl (by kernel_rfl) (by kernel_rfl) (by kernel_rfl) (fun _ _ _ h=>h) (Or.inr ⟨by rfl,rfl⟩) (by assumption) ?_
    try simp only[aU,bu,bp,Act.put,aK,aM,aJ]
    refine bN (i:=10) (v:=undef) rfl (by kernel_rfl) (by kernel_rfl) (by kernel_rfl) (fun _ _ _ h=>h) (Or.inr ⟨by rfl,rfl⟩) (by assumption) ?_
    try simp only[aU,bu,bp,Act.put,aK,aM,aJ]
    refine bN (i:=11) (v:=undef) rfl (by kernel_rfl) (by kernel_rfl) (by kernel_rfl) (fun _ _ _ h=>h) (Or.inr ⟨by rfl,rfl⟩) (by assumption) ?_
    try simp only[aU,bu,bp,Act.put,aK,aM,aJ]
    refine bN (i:=12) (v:=undef) rfl (by kernel_rfl) (by kernel_rfl) (by kernel_rfl) (fun _ _ _ h=>h) (Or.inr ⟨by rfl,rfl⟩) (by assumption) ?_
    try simp only[aU,bu,bp,Act.put,aK,aM,aJ]
    refine bN (i:=13) (v:=undef) rfl (by kernel_rfl) (by kernel_rfl) (by kernel_rfl) (fun _ _ _ h=>h) (Or.inr ⟨by rfl,rfl⟩) (by assumption) ?_
    try simp only[aU,bu,bp,Act.put,aK,aM,aJ]
    refine bN (i:=14) (v:=undef) rfl (by kernel_rfl) (by kernel_rfl) (by kernel_rfl) (fun _ _ _ h=>h) (Or.inr ⟨by rfl,rfl⟩) (by assumption) ?_
    try simp only[aU,bu,bp,Act.put,aK,aM,aJ]
    refine bN (i:=15) (v:=undef) rfl (by kernel_rfl) (by kernel_rfl) (by kernel_rfl) (fun _ _ _ h=>h) (Or.inr ⟨by rfl,rfl⟩) (by assumption) ?_
    try simp only[aU,bu,bp,Act.put,aK,aM,aJ]
    refine bN (i:=16) (v:=undef) rfl (by kernel_rfl) (by kernel_rfl) (by kernel_rfl) (fun _ _ _ h=>h) (Or.inr ⟨by rfl,rfl⟩) (by assumption) ?_
    try simp only[aU,bu,bp,Act.put,aK,aM,aJ]
    refine bN (i:=17) (v:=undef) rfl (by kernel_rfl) (by kernel_rfl) (by kernel_rfl) (fun _ _ _ h=>h) (Or.inr ⟨by rfl,rfl⟩) (by assumption) ?_
    try simp only[aU,bu,bp,Act.put,aK,aM,aJ]
    refine bN (i:=18) (v:=?_) rfl (by kernel_rfl) (by kernel_rfl) (by kernel_rfl) (fun _ _ _ h=>h) (Or.inl ⟨by rfl,?_⟩) (by assumption) ?_
    rotate_left
    ·
     intro w hSw
     try dsimp only at hSw
     go_simp
     with_reducible rfl
    try simp only[aU,bu,bp,Act.put,aK,aM,aJ]
    refine bN (i:=19) (v:=?_) rfl (by kernel_rfl) (by kernel_rfl) (by kernel_rfl) (fun _ _ _ h=>h) (Or.inl ⟨by rfl,?_⟩) (by assumption) ?_
    rotate_left
    ·
     intro w hSw
     try dsimp only at hSw
     go_simp
     with_reducible rfl
    try simp only[aU,bu,bp,Act.put,aK,aM,aJ]
    refine wpAnyH_done (by kernel_rfl) ?_ _;have HZ:=zh (jo eP.out (bU MD) ((zA (aj _ _).drew ew).trans lI));clear ew lI lY;go_wp2_with fail;go_ret;exact ⟨zI HF.out.symm,by rw[E0.out];exact HZ.out⟩
   go_wp2_with fail
   go_region_held3 (fun w'=>w'.cell? ⟨b0,3,none⟩=some (.int .i64 d)∧w'.cell? ⟨b0,4,none⟩=some (.slice (s.a 0) (s.n 0) (s.c 0))∧w'.cell? ⟨b0,5,none⟩=some (.slice (s.a 1) (s.n 1) (s.c 1))∧w'.cell? ⟨b0,6,none⟩=some (.slice (s.a 2) (s.n 2) (s.c 2))∧w'.cell? ⟨b0,7,none⟩=some (.slice (s.a 3) (s.n 3) (s.c 3))∧w'.cell? ⟨b0,8,none⟩=some (.slice (s.a 4) (s.n 4) (s.c 4))∧w'.cell? ⟨b0,9,none⟩=some (.slice (s.a 5) (s.n 5) (s.c 5))∧w'.cell? ⟨b0,10,none⟩=some (.slice (s.a 6) (s.n 6) (s.c 6))∧w'.cell? ⟨b0,11,none⟩=some (.slice (s.a 7) (s.n 7) (s.c 7))∧w'.cell? ⟨b0,12,none⟩=some (.int .i64 (SM:Int))∧w'.cell? ⟨b0,13,none⟩=some (.int .i64 G))
   (first|with_reducible exact Bf.out _ ((zA (aj _ _).drew ew).trans lI)|with_reducible exact Bf.out _ (zA (aj _ _).drew ew)|exact Bf.out _ (aj _ _).drew)
   (first|(go_at_call 89;(with_reducible refine (HI.out _ (fq.out.below (aj _ _).drew)).mono ?_);rintro e wa ⟨va,rfl,lY,ew⟩)|(go_at_call 88;refine (Yp.out _ _ w1.heap.size lY ew.size).mono ?_;rintro e wb ⟨rfl,lI⟩))
   rename_i hHeld;clear hHeld;have HZ:=zh (jo eP.out (bU MD) ((zA (aj _ _).drew ew).trans lI));clear ew lI lY;go_wp2_with fail;go_ret;exact ⟨zI (by rw[HF.out,bV,aF (16+(SM:Int)) (by omega),aF _ (by omega)]),by rw[E0.out];exact HZ.out⟩
  have hf:res=false:=jq.out fun hv=>hB ⟨hv.size.1,hv.size.2.1,hv.size.2.2⟩
  have HF:=zh hf;have HB:=zh hB;clear hB hf jq lj hres h hs HI;generalize xC g.m=vb at *;obtain ⟨a,b,c,d,f,L,G⟩:=g;dsimp only at *
  go_enter Tryz.func49,Tryz.ntmps49
  go_upto_region 1 with fail;obtain ⟨W,hW⟩:∃ W,w.alloc (.cells (zX a b c d s L G) 38)=W:=⟨_,rfl⟩
  change Code.wp _ _ _ _ (w.alloc (.cells (zX a b c d s L G) 38));rw[hW] at eB eH ⊢;have nW:=eB.out.lt;have n0:=eB.out.n0;have n1:=eB.out.n1;have n2:=eB.out.n2;have n3:=eB.out.n3;have hb:=HB.out;clear hW;have hc:d<16∨(16≤d∧1048576<d)∨(16≤d∧d≤1048576∧d%8≠0):=by omega
  clear hb;rcases hc with hc|⟨h1,hc⟩|⟨h1,h2,hc⟩
  ·
   go_wp2_with fail;go_ret;exact ⟨zI HF.out.symm,eH.out⟩
  ·
   go_wp2_with fail;go_ret;exact ⟨zI HF.out.symm,eH.out⟩
  have S0:d.tmod 8=d%8:=Int.tmod_eq_emod_of_nonneg (by omega);have nk:(d%8 != 0)=true:=by simp[hc]
  go_wp2_with fail;go_ret;exact ⟨zI HF.out.symm,eH.out⟩
 have hf:res=false:=jq.out fun hv=>hA ⟨hv.num.1,hv.num.2,hv.rev.1,hv.rev.2,hv.mode.1,hv.mode.2⟩
 have HF:=zh hf;have HA:=zh hA;clear hA hf jq lj hres h hs HV HI;obtain ⟨a,b,c,d,f,L,G⟩:=g;dsimp only at *
 go_enter Tryz.func49,Tryz.ntmps49
 go_upto_region 1 with fail;obtain ⟨W,hW⟩:∃ W,w.alloc (.cells (zX a b c d s L G) 38)=W:=⟨_,rfl⟩
 change Code.wp _ _ _ _ (w.alloc (.cells (zX a b c d s L G) 38));rw[hW] at eB eH ⊢;have nW:=eB.out.lt;have n0:=eB.out.n0;have n1:=eB.out.n1;have n2:=eB.out.n2;have ha:=HA.out;clear hW;have hc:a<1∨(1≤a∧8<a)∨(1≤a∧a≤8∧b<0)∨(1≤a∧a≤8∧0≤b∧4294967295<b)∨(1≤a∧a≤8∧0≤b∧b≤4294967295∧c<1)∨(1≤a∧a≤8∧0≤b∧b≤4294967295∧1≤c∧3<c):=by omega
 clear ha;rcases hc with hc|⟨h1,hc⟩|⟨h1,h2,hc⟩|⟨h1,h2,h3,hc⟩|⟨h1,h2,h3,h4,hc⟩|⟨h1,h2,h3,h4,h5,hc⟩ <;>
 (go_wp2_with fail;go_ret;exact ⟨zI HF.out.symm,eH.out⟩)
end Go.Proofs.YtcgfilmmokmdjaaGreat
