import Derived.Test.YtcgfilmmokmdjaaGreatQAE
import Derived.Test.YtcgfilmmokmdjaaGreatQAD
import Derived.Laws.Externs
import Derived.Test.YtcgfilmmokmdjaaGreatQAB
set_option linter.all false
set_option maxRecDepth 100000
set_option maxHeartbeats 32000000
namespace Go.Proofs.YtcgfilmmokmdjaaGreat
open Go.RowKit
def xF (M:Mp) (n:Int):Mp:=if xC M=true∧0≤n∧n≤1099511627776-M.d_ then ⟨M.st,M.live,M.d_+n⟩ else M
theorem tA {M:Mp} (h:fZ M) (hs:∀ i,i<8→(M.st i).length≤10000):Fx.Small M.live∧0≤M.live∧M.live≤400000000:=by
 have h1:=tP hs;have h2:=tp (vN M);have h3:=h.lv;have:(vN M).length*4127≤80000*4127:=aW _ h1;unfold Fx.Small;rw[Fx.LU];omega
theorem zt {a:Int} (h1:-9007199254740991≤a) (h2:a≤9007199254740991):Fx.Small a:=by
 unfold Fx.Small;rw[Fx.LU];omega
theorem Pt {a b c d:Int} (ha:Fx.Small a) (hb:Fx.Small b) (hc:Fx.Small c) (hd:Fx.Small d) (hac:Fx.Small (a+c)) (Jn:Fx.Small (b+d)) (t:TypeId) (W:World) :
  (binOp .add t (.complex .f64 (Fx.fb a) (Fx.fb b)) (.complex .f64 (Fx.fb c) (Fx.fb d))).run Tryz.prog W=.ok (.complex .f64 (Fx.fb (a+c)) (Fx.fb (b+d))) W:=
 run_complex_sum W .add (.inl rfl) t .f64 _ _ _ _ _ _ (by
  unfold cSumBits floatBits
  show ((FloatKind.f64.format.add _ _).bind _)=_
  rw[show FloatKind.f64.format.add (Fx.fb a) (Fx.fb c)=some (Fx.fb (a+c)) from Fx.Em a c ha hc hac,show FloatKind.f64.format.add (Fx.fb b) (Fx.fb d)=some (Fx.fb (b+d)) from Fx.Em b d hb hd Jn]
  rfl)
theorem vp (s:Sl) (M:Mp) (n:Int) (w:World) (h:fG w s M.st) (hs:∀ i,i<8→(M.st i).length≤10000) :
  Calls Tryz.prog 54 #[yF s M.live M.d_,.int .i64 n] w fun e w'=>(∃ s',e=.returned (yF s' (xF M n).live (xF M n).d_)∧eZ w' w.heap.size s' (xF M n).st)∧Below w.heap.size w w':=by
 have HV:=zh (fun s W h=>vn s M W h (fun i hi=>ak (hs i hi) (by decide)));have eB:=zh ((eQ.new w s M.live M.d_ 36).below (zb (w.alloc (.cells (yj s M.live M.d_) 36)) Sl.nil 0 0 36));have pM:=zh (eQ.new (w.alloc (.cells (yj s M.live M.d_) 36)) Sl.nil 0 0 36);have eH:=zh (zA (zb w s M.live M.d_ 36) (zb (w.alloc (.cells (yj s M.live M.d_) 36)) Sl.nil 0 0 36));rw[show (w.alloc (.cells (yj s M.live M.d_) 36)).heap.size=w.heap.size+1 by simp] at pM;have HC:=zh (fun W h=>qw s M.live M.d_ M.st W h (fun i hi=>ak (hs i hi) (by decide)));have Hr:=zh h;have Jo:=zh (fun hv:xC M=true=>(⟨tA ((zV M).1 hv) hs,((zV M).1 hv).g0,((zV M).1 hv).g1⟩:_∧_∧_));have HW:=zh (show xF M n=if xC M=true∧0≤n∧n≤1099511627776-M.d_ then ⟨M.st,M.live,M.d_+n⟩ else M from rfl);clear h hs;generalize xC M=vb at *;generalize xF M n=WM at *;obtain ⟨f,L,G⟩:=M
 dsimp only at *
 go_enter Tryz.func54,Tryz.ntmps54
 go_wp2_with fail;refine (HC.out _ (Hr.out.below eH.out)).mono ?_;rintro e w1 ⟨⟨s1,rfl,hown1⟩,hb1⟩;have fh:=zh (eB.out.below hb1);have oF:=zh (pM.out.below hb1);have eP:=zh (zA eH.out hb1);have jQ:=zh (hown1.mono (show w.heap.size+2≤_ by simp));obtain ⟨c0,c1,c2,c3,c4,c5,c6,c7,c8,c9⟩:=fh.out.q;have cF:=fh.out.f;clear hown1 hb1 HC eB pM eH;go_upto_region 2 with fail;change Code.wp _ _ _ _ (yH w1 w.heap.size s1 L G);obtain ⟨V,hV⟩:∃ V,yH w1 w.heap.size s1 L G=V:=⟨_,rfl⟩
 have Cr:=zh (show eQ V w.heap.size s1 L G from hV▸fh.out.all s1 L G);have Io:=zh (show eQ V (w.heap.size+1) Sl.nil 0 0 from hV▸oF.out.nt (by omega) s1 L G);have lX:=zh (show Below w.heap.size w V from hV▸za eP.out (ag _) s1 L G);have Es:=zh (show eZ V (w.heap.size+2) s1 f from hV▸jQ.out.lV (by omega) s1 L G);rw[hV];clear hV c0 c1 c2 c3 c4 c5 c6 c7 c8 c9 cF fh oF eP jQ;obtain ⟨c0,c1,c2,c3,c4,c5,c6,c7,c8,c9⟩:=Cr.out.q;have cF:=Cr.out.f;go_wp2_with fail;refine (HV.out s1 V Es.out.rd).mono ?_;rintro e w2 ⟨rfl,hb2⟩;have fW:=zh (Cr.out.below hb2);have ig:=zh (Io.out.below hb2);have eM:=zh (zA lX.out hb2);have gC:=zh (Es.out.keep hb2);clear hb2 c0 c1 c2 c3 c4 c5 c6 c7 c8 c9 cF Cr Io lX Es HV;obtain ⟨c0,c1,c2,c3,c4,c5,c6,c7,c8,c9⟩:=fW.out.q;have cF:=fW.out.f;obtain ⟨d0,d1,d2,d3,d4,d5,d6,d7,d8,d9⟩:=ig.out.q;have dF:=ig.out.f
 by_cases hok:vb=true∧0≤n∧n≤1099511627776-G
 ·
  rw[ah hok] at HW;obtain ⟨rfl,h1,h2⟩:=hok;obtain ⟨⟨Ip,Sk,Mb⟩,Iq,Gm⟩:=Jo.out rfl;have g1:decide (n<0)=false:=by simp;omega
  have j1:IntKind.i64.wrap (1099511627776-G)=1099511627776-G:=aF _ (by omega);have g2:decide (1099511627776-G<n)=false:=by simp;omega
  have Jp:=zh (fun u:eo w2=>uo s1 L G u.w');have KT:=zh (fun W=>RJ s1 L G L (G+n) Ip (zt (by omega) (by omega)) W);have hadd:=fun W=>Pt (a:=L) (b:=G) (c:=0) (d:=n) Ip (zt (by omega) (by omega)) (zt (by omega) (by omega)) (zt (by omega) (by omega)) (by rw[Int.add_zero];exact Ip) (zt (by omega) (by omega)) 168 W
  have hz:Fx.fb 0=0:=rfl;rw[Int.add_zero,hz] at hadd;have hfn:floatOfInt .f64 n=Fx.fb n:=rfl;obtain ⟨e0,e1,e2,e3,e4,e5,e6,e7,e8,e9⟩:=fW.out.q;have eF:=fW.out.f;go_wp2_with fail;have f0:=zB e0;have f1:=zB e1;have f2:=zB e2;have f3:=zB e3;have f4:=zB e4;have f5:=zB e5;have f6:=zB e6;have f7:=zB e7;have f8:=zB e8;have f9:=zB e9;refine tU 7 (by kernel_rfl) (by kernel_rfl) ?_;simp only[dK,List.take_zero,List.drop_succ_cons,List.drop_zero]
  repeat (go_big_quiet_step (exact zE (Jp.out _)))
  refine aA ?_;intro _ hw';obtain ⟨u,hw'⟩:=hw';subst hw';have HYu:=zh (ig.out.below u.h);have HBu:=zh (zA eM.out u.h);have HOu:=zh (gC.out.keep u.h);generalize u.w'=w3 at *;clear c0 c1 c2 c3 c4 c5 c6 c7 c8 c9 cF d0 d1 d2 d3 d4 d5 d6 d7 d8 d9 dF e0 e1 e2 e3 e4 e5 e6 e7 e8 e9 eF f0 f1 f2 f3 f4 f5 f6 f7 f8 f9 hadd;go_wp2_with fail;refine (KT.out _).mono ?_;rintro e w4 ⟨rfl,hb4⟩;have sq:=zh (HYu.out.below hb4);have gD:=zh (zA HBu.out hb4);have jM:=zh (HOu.out.keep hb4);clear hb4;obtain ⟨d0,d1,d2,d3,d4,d5,d6,d7,d8,d9⟩:=sq.out.q;have dF:=sq.out.f;go_wp2_with fail;change bodyPost _ _ _ _ _ (yH w4 (w.heap.size+1) s1 L (G+n));have hby:=sq.out.all s1 L (G+n);have nw:=zh ((jM.out.lV (show w.heap.size+1<w.heap.size+2 by omega) s1 L (G+n)).mono (show w.heap.size≤w.heap.size+2 by omega));have eD:=zh (za gD.out (Nat.le_succ _) s1 L (G+n))
  generalize yH w4 (w.heap.size+1) s1 L (G+n)=V2 at *;exact au (v:=yF s1 L (G+n)) (by simp[results,Tryz.results54,go_sem,hby.q]) rfl ⟨⟨s1,by rw[HW.out],by rw[HW.out];exact nw.out⟩,eD.out⟩
 rw[ai hok] at HW
 cases vb
 ·
  clear hok;go_wp2_with fail;change bodyPost _ _ _ _ _ (yH w2 (w.heap.size+1) s1 L G);have hby:=ig.out.all s1 L G;have nw:=zh ((gC.out.lV (show w.heap.size+1<w.heap.size+2 by omega) s1 L G).mono (show w.heap.size≤w.heap.size+2 by omega));have eD:=zh (za eM.out (Nat.le_succ _) s1 L G);generalize yH w2 (w.heap.size+1) s1 L G=V2 at *;exact au (v:=yF s1 L G) (by simp[results,Tryz.results54,go_sem,hby.q]) rfl ⟨⟨s1,by rw[HW.out],by rw[HW.out];exact nw.out⟩,eD.out⟩
 by_cases h1:n<0
 ·
  have g1:decide (n<0)=true:=by simpa using h1
  clear hok;go_wp2_with fail;change bodyPost _ _ _ _ _ (yH w2 (w.heap.size+1) s1 L G);have hby:=ig.out.all s1 L G;have nw:=zh ((gC.out.lV (show w.heap.size+1<w.heap.size+2 by omega) s1 L G).mono (show w.heap.size≤w.heap.size+2 by omega));have eD:=zh (za eM.out (Nat.le_succ _) s1 L G);generalize yH w2 (w.heap.size+1) s1 L G=V2 at *;exact au (v:=yF s1 L G) (by simp[results,Tryz.results54,go_sem,hby.q]) rfl ⟨⟨s1,by rw[HW.out],by rw[HW.out];exact nw.out⟩,eD.out⟩
 have g1:decide (n<0)=false:=by simpa using h1
 obtain ⟨_,Iq,Gm⟩:=Jo.out rfl;have j1:IntKind.i64.wrap (1099511627776-G)=1099511627776-G:=aF _ (by omega);have g2:decide (1099511627776-G<n)=true:=by
  have:¬ n≤1099511627776-G:=fun e=>hok ⟨rfl,by omega,e⟩
  simp;omega
 clear hok;go_wp2_with fail;change bodyPost _ _ _ _ _ (yH w2 (w.heap.size+1) s1 L G);have hby:=ig.out.all s1 L G;have nw:=zh ((gC.out.lV (show w.heap.size+1<w.heap.size+2 by omega) s1 L G).mono (show w.heap.size≤w.heap.size+2 by omega));have eD:=zh (za eM.out (Nat.le_succ _) s1 L G);generalize yH w2 (w.heap.size+1) s1 L G=V2 at *;exact au (v:=yF s1 L G) (by simp[results,Tryz.results54,go_sem,hby.q]) rfl ⟨⟨s1,by rw[HW.out],by rw[HW.out];exact nw.out⟩,eD.out⟩
theorem zCw {w:World} {hb g:Nat} {ca cb:Array Value} (hne:hb≠g) (ha:w.heap[hb]?=some (.cells ca 49 (0,0))) (hb':w.heap[g]?=some (.cells cb 49 (0,0))) (hn:cb.size≠0) (off:Nat) :
  ∀ la c lb d,(callFunc 179 #[.slice (some ⟨hb,0,none⟩) la c,.slice (some ⟨g,off,none⟩) lb d]).run Tryz.prog w=.ok (.value (.bool false)) w:=fun la c lb d=>by
 rw[run_callFunc_extern Tryz.func179 (by kernel_rfl) (by kernel_rfl) (by kernel_rfl) (e:=Extern.SlicesOverlaps.overlaps #[33,33] #[4]) (by kernel_rfl),
  Lib.run_overlaps_apart w 33 4 49 Tryz.underlying33 4 (wh yI).2 ⟨hb,0,none⟩ ⟨g,off,none⟩ la c lb d hne 49 49 ca.size cb.size (by simp[World.shape?,ha]) (by simp[World.shape?,hb']) hn (by simp[World.frozen?,ha]) (by simp[World.frozen?,ha])]
 rfl
theorem qh (g n cap k:Nat) (hk:k+1≤n) (hc:k+1<cap) :
  ∀ W kl,(Instr.slice 33 (.slice (some ⟨g,0,none⟩) n cap) (some (.int kl ((k:Int)+1))) none none).run Tryz.prog W=.ok (.slice (some ⟨g,(k+1)*4,none⟩) (n-(k+1)) (cap-(k+1))) W:=fun W kl=>by
 have:=tw (P:=Tryz.prog) yI g n cap (k+1) hk hc W kl;rw[di] at this;exact this
theorem Sm {w:World} {B g n cap:Nat} {xs:List Value} (h:w.ownsRow B 49 4 (.slice (some ⟨g,0,none⟩) n cap) n xs) (k:Nat) (hk:k≤n) (hc:k<cap) :
  Rd w 4 (.slice (some ⟨g,k*4,none⟩) (n-k) (cap-k)) (n-k) (xs.drop (k*4)):=by
 have hx:=h.1;have:=QZ (zk h) k n hk (ag _);have hne:cap≠k:=by omega
 unfold sliced at this;rw[ai hne] at this;simp only[dE,yM,aI] at this;rw[aS (by rw[aP,hx,Nat.sub_mul];omega)] at this;exact this
theorem Sn {w:World} {B g n cap:Nat} {xs:List Value} (h:w.ownsRow B 49 4 (.slice (some ⟨g,0,none⟩) n cap) n xs):∃ cur,w.heap[g]?=some (.cells cur 49 (0,0))∧cur.size=cap*4∧n≤cap:=by
 rcases h.2 with ⟨h',_⟩|⟨g',c2,cur,h',hb,hg,hnc,hcm,hcs,jP⟩
 ·
  cases h'
 injection h' with h' _ h'';injection h' with h';injection h' with h' _;subst h' h'';exact ⟨cur,hg,hcs,hnc⟩
theorem zK6 (v:Value) (l:List It) (i:Nat) (x:It) (hb B:Nat) (w:World) (hown:fC w B v l) (hB:B≤w.heap.size) (hi:i≤l.length) (hs:l.length≤1000000)
  (hh:w.heap[hb]?=some (.cells (iC x).toArray 49 (0,0))) (hne:∀ k,v.ownBlock=some k→k≠hb) :
  Calls Tryz.prog 142 #[v,.int .i64 (i:Int),.slice (some ⟨hb,0,none⟩) 1 1] w fun e w'=>∃ v',e=.returned v'∧fC w' B v' (l.take i++x::l.drop i)∧Below B w w':=by
 have rP:Rd w 4 (.slice (some ⟨hb,0,none⟩) 1 1) 1 (iC x):=by
  refine ⟨rfl,some ⟨hb,0,none⟩,1,rfl,ag _,by unfold maxLen;omega,fun h=>(by cases h),fun _=>⟨hb,0,rfl,fun j u hj=>?_⟩⟩;have:w.cell? ⟨hb,0+j,none⟩=(iC x).toArray[0+j]?:=by simp[World.cell?,hh]
  rw[this,aI,List.getElem?_toArray];exact hj
 obtain ⟨oa,oc,rfl,ho1,ho2,rL⟩:=zH hown;have hm:=C1 ho1 ho2;have iy:=zh (show w.ownsRow B 49 4 _ l.length (zU l) from hown);have Hv:=zh rP;have Hh:=zh hh;have hl:=zy l;have sU:zU (l.take i++x::l.drop i)=(zU l).take (i*4)++iC x++(zU l).drop (i*4):=by
  rw[zu,ua,wE,uc,bt]
 have HF:=zh sU;have BN:=zh (zq l);have BO:=zh (show ∀ u∈iC x,u.oneCell'=true by rw[← xS];exact zq [x]);have sV:(iC x).length=4:=rfl;generalize hn:l.length=n at *;have HN:=zh hn;generalize zU l=xs at *;generalize iC x=c at *;have HL:=zh hl;have C5:=zh sV;clear hown rP hh hn sU hl sV rL
 by_cases hin:i=n
 ·
  subst hin;obtain ⟨x1,y1,g1,_,_⟩:=wt (P:=Tryz.prog) yI (zk iy.out) i (ag _);clear hne
  go_enter Tryz.func142,Tryz.ntmps142
  go_wp2_with (at_builtin;go_must (refine zP rfl (.tmp 23) (.tmp 24) 33 rfl yI B rfl iy.out rfl Hv.out BO.out (by unfold maxLen;omega) (by omega) hB ?_);intro v4 w4 fl gZ hv4;clear hv4);go_ret;refine ⟨_,rfl,yO fl ?_,zL (aj _ _) iy.out hB gZ⟩;rw[HF.out,aS (by rw[HL.out];omega),bY (by rw[HL.out];omega),bZ]
 obtain ⟨g,rfl⟩:∃ g,oa=some ⟨g,0,none⟩:=by
  rcases iy.out.2 with ⟨e,h0⟩|⟨g,_,_,e,_⟩
  ·
   omega
  injection e with e;exact ⟨g,e⟩
 have Mm:g≠hb:=hne g rfl;have Mn:((i:Int)==(n:Int))=false:=beq_eq_false_iff_ne.2 (by omega);have g1:=tw (P:=Tryz.prog) yI g n oc i hi (by omega);clear hne
 by_cases hr:oc<n+1
 ·
  obtain ⟨w2,c2,ha,eG,hb2,hc2⟩:=zHJ iy.out i (n+1-i) hi (by omega) (by omega) (by omega);have ha:∀ ty,(Builtin.append_ #[33,3] ty #[.slice (some ⟨g,0,none⟩) i oc,.int .i64 ((n:Int)+1-(i:Int))]).run Tryz.prog w=.ok (.slice (some ⟨w.heap.size,0,none⟩) (n+1) c2) w2:=fun ty=>by
   have:=ha ty;rw[show ((n+1-i:Nat):Int)=(n:Int)+1-(i:Int) by omega,show i+(n+1-i)=n+1 by omega] at this;exact this
  rw[show i+(n+1-i)=n+1 by omega] at eG;obtain ⟨_,_,_,Jq⟩:=Sn eG;have Et:=yl (P:=Tryz.prog) yI (a:=some ⟨g,0,none⟩) (n:=n) (cap:=oc) (fun x hx=>⟨g,0,by injection hx with hx;exact hx.symm⟩) i (by omega);have g2:=tw (P:=Tryz.prog) yI w.heap.size (n+1) c2 i (by omega) (by omega);obtain ⟨w3,Jr,ei,eL⟩:=kM (P:=Tryz.prog) (sT:=33) yI eG (Hv.out.below hb2) i (n+1-i) (c2-i) 1 (by simp[Nat.min_def];omega) (by decide) (by decide) (by omega) (fun u hu=>BO.out u (bT hu));have hb3:Below w.heap.size w w3:=hb2.grown eL hb2.size (by intro r hr;injection hr with hr;omega);have g3:=qh w.heap.size (n+1) c2 i (by omega) (by omega)
  obtain ⟨w4,Js,fl,gZ⟩:=kM (P:=Tryz.prog) (sT:=33) yI ei.drew ((Sm iy.out i hi (by omega)).below hb3.drew) (i+1) (n-i) (c2-(i+1)) (n-i) (by simp) (by omega) (by decide) (by omega) (fun u hu=>BN.out u (cN (bT hu)));have hb4:Below w.heap.size w w4:=hb3.drew.grown gZ hb3.drew.size (by intro r hr;injection hr with hr;omega);have hgo:((oc:Int)<(n:Int)+1):=by omega
  have hw2:=zh (iy.out.1);have BP:=zh fl;have gD:=zh hb4;clear hb2 hb3 hb4 eG ei fl eL gZ Jq
  go_enter Tryz.func142,Tryz.ntmps142
  go_wp2_with (at_builtin;go_must (refine Lib.wpList_append_run _ rfl (.tmp 34) (.tmp 39) 33 3 rfl _ _ rfl rfl _ _ (ha _) ?_));have j1:IntKind.i64.wrap ((i:Int)+1)=(i:Int)+1:=aF _ (by omega);have j2:(0:Int)≤(i:Int)+1:=by omega
  have j3:(i:Int)+1≤(n:Int)+1:=by omega
  have j4:((i:Int)+1).toNat=i+1:=by omega
  have j5:(i:Int)≤(n:Int):=by omega
  go_region_held3 (fun _=>True) (trivial) (fail)
  go_wp2_with fail;go_ret;refine ⟨_,rfl,yO (BP.out.mono hB) ?_,gD.out.mono hB⟩;rw[HF.out];have hz:(zU (List.replicate (n+1-i) fE)).length=(n+1-i)*4:=by rw[zy,dA]
  have hc1:c.take (1*4)=c:=aS (by rw[C5.out];omega);have hx1:(xs.drop (i*4)).take ((n-i)*4)=xs.drop (i*4):=aS (by rw[aP,HL.out];omega);rw[hc1,hx1];exact zIB hi HL.out hz C5.out
 obtain ⟨ys,hy,hown1⟩:=XA iy.out 1 (by omega);have Et:=yl (P:=Tryz.prog) yI (a:=some ⟨g,0,none⟩) (n:=n) (cap:=oc) (fun x hx=>⟨g,0,by injection hx with hx;exact hx.symm⟩) (n+1) (by omega);simp only[di] at Et;rw[show ((1:Nat):Int)=1 from rfl] at Et;have g2:=tw (P:=Tryz.prog) yI g (n+1) oc i (by omega) (by omega);have g3:=qh g (n+1) oc i (by omega) (by omega);obtain ⟨cur,hg,hcs,_⟩:=Sn hown1;have sP:=zCw (aQ Mm) Hh.out hg (by omega) ((i+1)*4)
 obtain ⟨w3,Jr,ei,eL⟩:=kM (P:=Tryz.prog) (sT:=33) yI hown1.drew (Sm hown1.drew i (by omega) (by omega)) (i+1) (n-i) (oc-(i+1)) (n-i) (by simp[Nat.min_def];omega) (by omega) (by decide) (by omega) (fun u hu=>BN.out u (by
  rw[List.drop_append_of_le_length (by rw[HL.out];omega),cL (by rw[aP,HL.out];omega)] at hu
  exact cN hu))
 have hb3:Below B w w3:=((aj B w).drew).grown eL hB (by intro r hr;injection hr with hr;have:=(hown1.lt g rfl).1;omega);have hv3:=Rd.grown (Hv.out.drew) eL (fun y hy=>by injection hy with hy;subst hy;intro e;injection e with e;exact Mm e.symm);obtain ⟨w4,Js,fl,gZ⟩:=kM (P:=Tryz.prog) (sT:=33) yI ei hv3 i (n+1-i) (oc-i) 1 (by simp[Nat.min_def];omega) (by decide) (by decide) (by omega) (fun u hu=>BO.out u (bT hu));have hb4:Below B w w4:=hb3.grown gZ (ak hB hb3.size) (by intro r hr;injection hr with hr;have:=(hown1.lt g rfl).1;omega);have BP:=zh fl;have gD:=zh hb4;have HY:=zh hy;have hgo:¬ ((oc:Int)<(n:Int)+1):=by omega
 have j1:IntKind.i64.wrap ((i:Int)+1)=(i:Int)+1:=aF _ (by omega);have j2:(0:Int)≤(i:Int)+1:=by omega
 have j3:(i:Int)+1≤(n:Int)+1:=by omega
 have j4:((i:Int)+1).toNat=i+1:=by omega
 have j5:(i:Int)≤(n:Int):=by omega
 clear hb3 hb4 hown1 ei fl eL gZ hv3 hy hcs hg
 go_enter Tryz.func142,Tryz.ntmps142
 go_wp2_with (simp only[sP]);have j6:(i:Int)≤(n:Int)+1:=by omega
 go_region_held3 (fun _=>True) (trivial) (fail)
 go_wp2_with fail;go_ret;refine ⟨_,rfl,yO BP.out ?_,gD.out⟩;rw[HF.out];have hc1:c.take (1*4)=c:=aS (by rw[C5.out];omega);rw[hc1];exact zHU hi HL.out (by rw[HY.out])
theorem zAf {P:Program} {w:World} {ops:Array Oper} {o:Oper} {a:Act} {K:Act→World→Prop} {Q:Exit→Act→World→Prop} {E:Prop} (hgd:o.guard=none) (s x:Operand) (t tn:TypeId)
  (ho:o.op=.call {callee:=.builtin .append,args:=#[s,x],argTypes:=#[t,tn]}) (vs vx:Value) (hs:a.eval s=vs) (hx:a.eval x=vx)
  (v':Value) (w':World) (hr:(Builtin.append_ #[t,tn] o.type #[vs,vx]).run P w=.ok v' w') (h:K (a.put o.dst v') w') :
  if Region.wanted o (yielded ops a.tmps)=true then Oper.wp P o a w K Q else E:=by
 have hw:Region.wanted o (yielded ops a.tmps)=true:=by simp[Region.wanted,hgd]
 rw[ah hw];exact Lib.wp_append_run w s x t tn ho vs vx hs hx v' w' hr h
theorem zFR {w:World} {B g n cap:Nat} {xs:List Value} (h:w.ownsRow B 49 4 (.slice (some ⟨g,0,none⟩) n cap) n xs) (k:Nat) (hk:k+1≤n) :
  ∃ p c',(∀ W kl,(Instr.slice 33 (.slice (some ⟨g,0,none⟩) n cap) (some (.int kl ((k:Int)+1))) none none).run Tryz.prog W=.ok (.slice (some p) (n-(k+1)) c') W) ∧
   Rd w 4 (.slice (some p) (n-(k+1)) c') (n-(k+1)) (xs.drop ((k+1)*4)):=by
 obtain ⟨_,_,_,hnc⟩:=Sn h
 by_cases hq:k+1<cap
 ·
  exact ⟨_,_,qh g n cap k hk hq,Sm h (k+1) hk hq⟩
 obtain rfl:cap=k+1:=by omega
 obtain rfl:n=k+1:=by omega
 refine ⟨⟨g,0,none⟩,0,fun W kl=>?_,?_⟩
 ·
  obtain ⟨h1,h2⟩:=wh (P:=Tryz.prog) yI;rw[run_slice_l W 33 (some ⟨g,0,none⟩) (k+1) (k+1) h1 kl ((k:Int)+1) (by omega) (by omega),h2];have:((k:Int)+1).toNat=k+1:=by omega
  simp[Result.andThen,sliced,this]
 have hx:=h.1;rw[bY (by omega),Nat.sub_self];exact ⟨rfl,some ⟨g,0,none⟩,0,rfl,ag _,aq _,fun h=>(by cases h),fun h=>absurd h (by simp)⟩
theorem zFH (g p cap:Nat) (hc:p+1≤cap) :
  ∀ W kl kh,(Instr.slice 33 (.slice (some ⟨g,0,none⟩) p cap) (some (.int kl (p:Int))) (some (.int kh ((p:Int)+1))) none).run Tryz.prog W=.ok (.slice (some ⟨g,p*4,none⟩) 1 (cap-p)) W:=fun W kl kh=>by
 obtain ⟨h1,h2⟩:=wh (P:=Tryz.prog) yI;rw[run_slice_lh W 33 (some ⟨g,0,none⟩) p cap h1 kl kh (p:Int) ((p:Int)+1) (by omega) (by omega) (by omega),h2];have h3:((p:Int)+1).toNat=p+1:=by omega
 have h4:cap≠p:=by omega
 simp[Result.andThen,sliced,h3,h4,yM]
theorem zEX (a:Option Addr) (n cap i:Nat) (hi:i+1≤n) (hn:n≤cap) :
  ∃ u,∀ W kl kh km,(Instr.slice 33 (.slice a n cap) (some (.int kl (i:Int))) (some (.int kh ((i:Int)+1))) (some (.int km (n:Int)))).run Tryz.prog W=.ok u W:=by
 obtain ⟨h1,h2⟩:=wh (P:=Tryz.prog) yI;refine ⟨sliced a (i:Int).toNat ((i:Int)+1).toNat (n:Int).toNat 4,fun W kl kh km=>?_⟩;rw[run_slice_lhm W 33 a n cap h1 kl kh km (i:Int) ((i:Int)+1) (n:Int) (by omega) (by omega) (by omega) (by omega),h2]
 rfl
theorem zKG (v:Value) (l:List It) (i B:Nat) (w:World) (hown:fC w B v l) (hB:B≤w.heap.size) (hi:i<l.length) (hs:l.length≤1000000) :
  Calls Tryz.prog 137 #[v,.int .i64 (i:Int),.int .i64 ((i:Int)+1)] w fun e w'=>∃ v',e=.returned v'∧fC w' B v' (l.take i++l.drop (i+1))∧Below B w w':=by
 obtain ⟨oa,oc,rfl,ho1,ho2,rL⟩:=zH hown;have sU:zU (l.take i++l.drop (i+1))=(zU l).take (i*4)++(zU l).drop ((i+1)*4):=by
  rw[zu,wE,uc]
 have HF:=zh sU;have BN:=zh (zq l);have hl:=zy l;obtain ⟨p,hp⟩:∃ p,l.length=p+1:=⟨l.length-1,by omega⟩
 have hown':w.ownsRow B 49 4 _ l.length (zU l):=hown;clear hown;have hown:=hown';clear hown';have Ct:(l.take i++l.drop (i+1)).length=p:=by rw[aw,ay,aP];omega
 rw[hp] at hown ho1 hl hs hi ⊢;generalize zU l=xs at *;obtain ⟨g,rfl⟩:∃ g,oa=some ⟨g,0,none⟩:=by
  rcases hown.2 with ⟨e,h0⟩|⟨g,_,_,e,_⟩
  ·
   omega
  injection e with e;exact ⟨g,e⟩
 have Et:=yl (P:=Tryz.prog) yI (a:=some ⟨g,0,none⟩) (n:=p+1) (cap:=oc) (fun x hx=>⟨g,0,by injection hx with hx;exact hx.symm⟩) i (by omega);obtain ⟨q,qc,g1,gW⟩:=zFR hown i hi;obtain ⟨w3,hap,ei,eL⟩:=zIN (vC hown i (by omega)).drew gW.drew (fun u hu=>BN.out u (cN hu)) (by omega);have e1:i+(p+1-(i+1))=p:=by omega
 rw[e1] at hap ei;have hgB:=(hown.lt g rfl).1;have hb3:Below B w w3:=((aj B w).drew).grown eL hB (by intro r hr;injection hr with hr;omega);obtain ⟨ys,hy,fl⟩:=XA ei 1 (by omega);obtain ⟨w5,hcl,gG,iz⟩:=zHs fl p (by omega);have e2:p+1-p=1:=by omega
 rw[e2] at hcl;have hb5:Below B w w5:=hb3.grown iz (ak hB hb3.size) (by intro r hr;injection hr with hr;omega);obtain ⟨u3,g3⟩:=zEX (some ⟨g,0,none⟩) (p+1) oc i hi ho1;simp only[di] at g3;rw[show ((1:Nat):Int)=1 from rfl] at g3;have g2:=zFH g p oc (by omega);have hl3:=ei.1;have iV:=vC gG p (by omega);rw[dU (by rw[ay,aw,hl3];omega),dw,Nat.min_self,cL hl3] at iV;have HR:=zh iV;have gH:=zh hb5;have Ej:=zh Ct;have Mn:((i:Int)==(i:Int)+1)=false:=beq_eq_false_iff_ne.2 (by omega);have j1:IntKind.i64.wrap ((i:Int)+1)=(i:Int)+1:=aF _ (by omega);have hm:oc≤9223372036854775807:=by unfold maxLen at ho2;omega
 clear hown ei fl gG iV eL iz hb3 hb5 gW hl hl3 Ct sU rL hp e1 e2 hy
 go_enter Tryz.func137,Tryz.ntmps137
 go_wp2_with fail;have j2:(0:Int)≤(i:Int)+1:=by omega
 have j3:(i:Int)+1≤(p:Int)+1:=by omega
 have j4:((i:Int)+1).toNat=i+1:=by omega
 have j5:(i:Int)≤(p:Int)+1:=by omega
 have j6:(i:Int)≤(oc:Int):=by omega
 go_region_held3 (fun _=>True) (trivial) (refine zAf rfl (.tmp 22) (.tmp 25) 33 33 rfl _ _ (by simp[Act.eval]) (by simp[Act.eval]) _ _ (hap _) ?_)
 go_wp2_with fail;go_ret;exact ⟨_,rfl,yO HR.out HF.out.symm,gH.out⟩
theorem zLE (v:Value) (l:List It) (x:It) (w:World) (h:ja w v l) (hk:wW l) (hs:l.length≤100000) :
  Calls Tryz.prog 101 #[v,lN x] w fun e w'=>∃ v',e=.returned v'∧fC w' w.heap.size v' (ins (fN l) x)∧Below w.heap.size w w':=by
 have HS:=zh (fun w h=>hk v w h);have hlen:=yZ l;have HA:=zh (ww l);have HF:=zh (fun v w h=>qe v (fN l) x.key w h (by omega));have AW:=zh (fun v i hb B w h1 h2 h3=>zK6 v (fN l) i x hb B w h1 h2 h3 (by omega));have sr:=zh (fun r (h:Place (fN l) x.key r)=>zLr h (ww l));have Hr:=zh h;obtain ⟨a,cap,rfl,_,_⟩:=h.shape;generalize fN l=s at *;generalize ins s x=res at *;obtain ⟨W0,hW0⟩:∃ W0,W0=w.alloc (.cells #[.int .u64 x.key,.int .u32 x.ck,.int .i64 x.off,.int .i64 x.size] 49):=⟨_,rfl⟩
 have hb0:Below w.heap.size w W0:=by rw[hW0];exact (aj _ _).alloc (ag _) _
 have eH:=zh hb0;have d0:W0.cell? ⟨w.heap.size,0,none⟩=some (.int .u64 x.key):=by rw[hW0];simp
 have d1:W0.cell? ⟨w.heap.size,1,none⟩=some (.int .u32 x.ck):=by rw[hW0];simp
 have d2:W0.cell? ⟨w.heap.size,2,none⟩=some (.int .i64 x.off):=by rw[hW0];simp
 have d3:W0.cell? ⟨w.heap.size,3,none⟩=some (.int .i64 x.size):=by rw[hW0];simp
 have BF:=zh hW0;have hs0:w.heap.size≤W0.heap.size:=hb0.size;clear h hk hW0 hb0
 go_enter Tryz.func101,Tryz.ntmps101
 go_wp2_with fail;rw[← BF.out];refine (HS.out _ (Hr.out.below eH.out)).mono ?_;rintro e w1 ⟨v1,rfl,hown1,hb1⟩;have HO:=zh hown1;have HB:=zh hb1;have e0:=Below.keeps hb1 _ _ d0;have e1:=Below.keeps hb1 _ _ d1;have e2:=Below.keeps hb1 _ _ d2;have e3:=Below.keeps hb1 _ _ d3;clear hown1 hb1 d0 d1 d2 d3;go_wp2_with fail;refine (HF.out _ _ HO.out.rd).mono ?_;rintro e w2 ⟨⟨r,hp,rfl⟩,hb2⟩;have eM:=zh (HB.out.trans (hb2.mono HB.out.size));have gC:=zh (zG HO.out hb2);have HP:=zh hp;have d0:=Below.keeps hb2 _ _ e0;have d1:=Below.keeps hb2 _ _ e1;have d2:=Below.keeps hb2 _ _ e2;have d3:=Below.keeps hb2 _ _ e3;clear hb2 hp e0 e1 e2 e3;have rO:=zh (sr.out r HP.out);obtain ⟨oa,oc,rfl,ho1,ho2,rL⟩:=zH gC.out;have hs2:W0.heap.size≤w2.heap.size:=eM.out.size
 by_cases hy:r<s.length∧(ea s r).key=x.key
 ·
  have HR:=zh (rO.out.trans (ah hy));rw[aC hy];have hrl:=hy.1;obtain ⟨g,rfl⟩:∃ g,oa=some ⟨g,0,none⟩:=by
   rcases gC.out.2 with ⟨e,h0⟩|⟨g,_,_,e,_⟩
   ·
    omega
   injection e with e;exact ⟨g,e⟩
  have hgB:=(gC.out.lt g rfl).1;obtain ⟨_,_,e,c0,c1,c2,c3⟩:=(yh (zk gC.out)).at hrl;injection e with e;injection e with e1 e2;subst e1 e2;simp only[aI] at c0 c1 c2 c3;have f0:=gC.out.frozenAt (r*4);have f1:=gC.out.frozenAt (r*4+1);have f2:=gC.out.frozenAt (r*4+2);have f3:=gC.out.frozenAt (r*4+3);have jG:=zh (Rg gC.out r hrl x);clear hy;generalize ea s r=y at *;generalize hn:s.length=n at *;go_wp2_with fail;go_ret;refine ⟨_,rfl,?_,eH.out.trans (((((eM.out.setCell hgB _).setCell hgB _).setCell hgB _).setCell hgB _).mono hs0)⟩;rw[HR.out];exact (yO jG.out rfl).mono hs0
 have HR:=zh (rO.out.trans (ai hy));rw[aD hy];clear hy;have hne:∀ k,(Value.slice oa s.length oc).ownBlock=some k→k≠w2.heap.size:=fun k hk=>by have:=(gC.out.lt k hk).2;omega
 have HC:=zh (AW.out (.slice oa s.length oc) r w2.heap.size W0.heap.size (w2.alloc (.cells (iC x).toArray 49)) (gC.out.alloc _) (by simp;omega) HP.out.1 (dg w2 _) hne);have Eu:=zh (eM.out.alloc hs2 (.cells (iC x).toArray 49));clear hne;go_wp2_with fail;refine HC.out.mono ?_;rintro e w3 ⟨v3,rfl,ei,hb3⟩;have mg:=zh ei;have gy:=zh (Eu.out.trans hb3);clear ei hb3;go_wp2_with fail;go_ret;refine ⟨_,rfl,?_,eH.out.trans (gy.out.mono hs0)⟩;rw[HR.out];exact mg.out.mono hs0
theorem zIs (v:Value) (l:List It) (key:Int) (w:World) (h:ja w v l) (hk:wW l) (hs:l.length≤100000) :
  Calls Tryz.prog 98 #[v,.int .u64 key] w fun e w'=>∃ v',e=.returned v'∧fC w' w.heap.size v' (gP (fN l) key)∧Below w.heap.size w w':=by
 have HS:=zh (hk v w h);have hlen:=yZ l;have HF:=zh (fun v w h=>qe v (fN l) key w h (by omega));have HDe:=zh (fun v i B w h1 h2 h3=>zKG v (fN l) i B w h1 h2 h3 (by omega));have sr:=zh (fun r (h:Place (fN l) key r)=>zGy h (ww l));obtain ⟨a,cap,rfl,_,_⟩:=h.shape;generalize fN l=s at *;generalize gP s key=res at *;clear h hk
 go_enter Tryz.func98,Tryz.ntmps98
 go_wp2_with fail;refine HS.out.mono ?_;rintro e w1 ⟨v1,rfl,hown1,hb1⟩;have HO:=zh hown1;have HB:=zh hb1;clear hown1 hb1;go_wp2_with fail;refine (HF.out _ _ HO.out.rd).mono ?_;rintro e w2 ⟨⟨r,hp,rfl⟩,hb2⟩;have eM:=zh (zA HB.out hb2);have gC:=zh (zG HO.out hb2);have HP:=zh hp;clear hb2 hp;have rO:=zh (sr.out r HP.out);have hs2:w.heap.size≤w2.heap.size:=eM.out.size
 by_cases hy:r<s.length∧(ea s r).key=key
 ·
  have HR:=zh (rO.out.trans (ah hy));rw[aC hy];have hrl:=hy.1;have HC:=zh (HDe.out v1 r w.heap.size w2 gC.out hs2 hrl);clear hy;go_wp2_with fail;refine HC.out.mono ?_;rintro e w3 ⟨v3,rfl,ei,hb3⟩;have mg:=zh ei;have gy:=zh (eM.out.trans hb3);clear ei hb3;go_wp2_with fail;go_ret;refine ⟨_,rfl,?_,gy.out⟩;rw[HR.out];exact mg.out
 have HR:=zh (rO.out.trans (ai hy));rw[aD hy];clear hy;go_wp2_with fail;go_ret;refine ⟨_,rfl,?_,eM.out⟩;rw[HR.out];exact gC.out
def xT (y:It):Nat:=eN y.size.toNat
def yP (M:Mp) (key:Int):Mp:=
 match zg M key with
 |none=>M
 |some y=>if M.d_+(xT y:Int)≤1099511627776 then ⟨fun i=>if i=zl key then gP (M.st i) key else M.st i,M.live-(xT y:Int),M.d_+(xT y:Int)⟩ else M
theorem td (y:It) (hy:0≤y.size) (w:World):Calls Tryz.prog 97 #[lN y] w fun e w'=>e=.returned (.int .i64 (xT y:Int))∧Below w.heap.size w w':=
 (Xk y w).mono fun e w' ⟨⟨n,he,_,h⟩,hb⟩=>⟨by rw[he,h hy];rfl,hb⟩
theorem XZ {a b:Int} (ha:Fx.Small a) (hb:Fx.Small b):(FloatKind.f64.format.order (Fx.fb a) (Fx.fb b)==some Ordering.gt)=decide (b<a):=by
 have h:FloatKind.f64.format.order (Fx.fb a) (Fx.fb b)=some (compare a b):=Fx.En a b ha hb;rw[h]
 show (some (compareOfLessAndEq a b)==some Ordering.gt)=_
 unfold compareOfLessAndEq
 by_cases h1:a<b
 ·
  rw[ah h1,aD (by omega)];rfl
 rw[ai h1]
 by_cases h2:a=b
 ·
  rw[ah h2,aD (by omega)];rfl
 rw[ai h2,aC (by omega)];rfl
theorem xg {M:Mp} {key:Int} {y:It} (h:zg M key=some y):xC M=true∧y∈M.st (zl key)∧y.key=key∧0≤y.size:=by
 unfold zg at h
 split at h
 ·
  rename_i hv;obtain ⟨h1,h2⟩:=wg h;exact ⟨hv,h1,h2,kP (((zV M).1 hv).ok _ (wX key)) y h1⟩
 cases h
theorem Pu (y:It):xT y≤4127:=xj _
theorem X0 (s:Sl) (M:Mp) (key:Int) (w:World) (h:fG w s M.st) (hs:∀ i,i<8→(M.st i).length≤10000) :
  Calls Tryz.prog 55 #[yF s M.live M.d_,.int .u64 key] w fun e w'=>(∃ s',e=.returned (yF s' (yP M key).live (yP M key).d_)∧eZ w' w.heap.size s' (yP M key).st)∧Below w.heap.size w w':=by
 have HG:=zh (fun s W h=>XW s M key W h hs);have eB:=zh ((eQ.new w s M.live M.d_ 36).below (zb (w.alloc (.cells (yj s M.live M.d_) 36)) Sl.nil 0 0 36));have pM:=zh (eQ.new (w.alloc (.cells (yj s M.live M.d_) 36)) Sl.nil 0 0 36);have eH:=zh (zA (zb w s M.live M.d_ 36) (zb (w.alloc (.cells (yj s M.live M.d_) 36)) Sl.nil 0 0 36));rw[show (w.alloc (.cells (yj s M.live M.d_) 36)).heap.size=w.heap.size+1 by simp] at pM;have HC:=zh (fun W h=>qw s M.live M.d_ M.st W h (fun i hi=>ak (hs i hi) (by decide)));have Hr:=zh h;have jR:=wX key;have HS:=zh (fun W=>uv key W);have DU:=zh (fun y (hy:zg M key=some y)=>(⟨tA ((zV M).1 (xg hy).1) hs,((zV M).1 (xg hy).1).g0,((zV M).1 (xg hy).1).g1,(xg hy).2.2.2,yQ (uE (((zV M).1 (xg hy).1).ok _ jR))⟩:_∧_∧_∧_∧_))
 have Bd:=zh (fun v W h=>zIs v (M.st (zl key)) key W h (wP _ (ak (hs _ jR) (by decide))) (ak (hs _ jR) (by decide)));have BF:=zh (show zg M key=none→yP M key=M from fun h=>by unfold yP;rw[h]);have Ev:=zh (show ∀ y,zg M key=some y→M.d_+(xT y:Int)≤1099511627776→yP M key=⟨fun i=>if i=zl key then gP (M.st i) key else M.st i,M.live-(xT y:Int),M.d_+(xT y:Int)⟩ from fun y h h2=>by unfold yP;rw[h];exact ah h2);have BQ:=zh (show ∀ y,zg M key=some y→¬ M.d_+(xT y:Int)≤1099511627776→yP M key=M from fun y h h2=>by unfold yP;rw[h];exact ai h2);clear h hs;generalize zg M key=o at *;generalize yP M key=WM at *;generalize zl key=k at *;obtain ⟨f,L,G⟩:=M;dsimp only at *
 go_enter Tryz.func55,Tryz.ntmps55
 go_wp2_with fail;refine (HC.out _ (Hr.out.below eH.out)).mono ?_;rintro e w1 ⟨⟨s1,rfl,hown1⟩,hb1⟩;have fh:=zh (eB.out.below hb1);have oF:=zh (pM.out.below hb1);have eP:=zh (zA eH.out hb1);have jQ:=zh (hown1.mono (show w.heap.size+2≤_ by simp));obtain ⟨c0,c1,c2,c3,c4,c5,c6,c7,c8,c9⟩:=fh.out.q;have cF:=fh.out.f;clear hown1 hb1 HC eB pM eH;go_upto_region 2 with fail;change Code.wp _ _ _ _ (yH w1 w.heap.size s1 L G);obtain ⟨V,hV⟩:∃ V,yH w1 w.heap.size s1 L G=V:=⟨_,rfl⟩
 have Cr:=zh (show eQ V w.heap.size s1 L G from hV▸fh.out.all s1 L G);have Io:=zh (show eQ V (w.heap.size+1) Sl.nil 0 0 from hV▸oF.out.nt (by omega) s1 L G);have lX:=zh (show Below w.heap.size w V from hV▸za eP.out (ag _) s1 L G);have Es:=zh (show eZ V (w.heap.size+2) s1 f from hV▸jQ.out.lV (by omega) s1 L G);rw[hV];clear hV c0 c1 c2 c3 c4 c5 c6 c7 c8 c9 cF fh oF eP jQ;obtain ⟨c0,c1,c2,c3,c4,c5,c6,c7,c8,c9⟩:=Cr.out.q;have cF:=Cr.out.f;go_wp2_with fail;refine (HS.out _).mono ?_;rintro e w2 ⟨rfl,rfl⟩;go_wp2_with fail;refine (HG.out s1 V Es.out.rd).mono ?_;rintro e w2 ⟨rfl,hb2⟩;have fW:=zh ((Cr.out.below hb2).below (yB w2 (o.getD fE)));have ig:=zh ((Io.out.below hb2).below (yB w2 (o.getD fE)));have eM:=zh (zA (zA lX.out hb2) (yB w2 (o.getD fE)));have gC:=zh ((Es.out.keep hb2).keep (yB w2 (o.getD fE)));have mA:=zh (h_.new w2 (o.getD fE))
 clear hb2 c0 c1 c2 c3 c4 c5 c6 c7 c8 c9 cF Cr Io lX Es HG HS
 cases o with
 |none =>
  have HW:=zh (BF.out rfl);go_upto_region 5 with fail;obtain ⟨V3,Jt⟩:∃ V3,w2.alloc (xN fE)=V3:=⟨_,rfl⟩
  rw[show w2.alloc (xN ((none:Option It).getD fE))=V3 from Jt] at fW ig eM gC;rw[Jt];clear Jt mA;obtain ⟨c0,c1,c2,c3,c4,c5,c6,c7,c8,c9⟩:=fW.out.q;have cF:=fW.out.f;obtain ⟨d0,d1,d2,d3,d4,d5,d6,d7,d8,d9⟩:=ig.out.q;have dF:=ig.out.f;go_wp2_with fail;change bodyPost _ _ _ _ _ (yH V3 (w.heap.size+1) s1 L G);have hby:=ig.out.all s1 L G;have nw:=zh ((gC.out.lV (show w.heap.size+1<w.heap.size+2 by omega) s1 L G).mono (show w.heap.size≤w.heap.size+2 by omega));have eD:=zh (za eM.out (show w.heap.size≤w.heap.size+1 by omega) s1 L G);generalize yH V3 (w.heap.size+1) s1 L G=V9 at *;exact au (v:=yF s1 L G) (by simp[results,Tryz.results55,go_sem,hby.q]) rfl ⟨⟨_,by rw[HW.out],by rw[HW.out];exact nw.out⟩,eD.out⟩
 |some y =>
  obtain ⟨⟨Ip,Sk,Mb⟩,Iq,Gm,hy0,hsk⟩:=DU.out y rfl;have sW:=zh hy0;have pN:=zh hsk;have Ju:=zh (Ev.out y rfl);have Jv:=zh (BQ.out y rfl);clear DU BF Ev BQ hy0 hsk;go_upto_region 6 with fail;obtain ⟨V3,Jt⟩:∃ V3,w2.alloc (xN y)=V3:=⟨_,rfl⟩
  rw[show w2.alloc (xN ((some y).getD fE))=V3 from Jt] at fW ig eM gC mA;rw[show (some y).getD fE=y from rfl] at mA;rw[Jt];clear Jt;have hlen:=Pu y;have Jp:=zh (fun u:eo V3=>uo s1 L G u.w');have jb:=zh (fun u:eo V3=>td y sW.out u.w');have X2:=zh (fun u:eo V3=>Xl (xT y) (by omega) u.w');generalize xT y=n at *;have hadd:=fun W=>Pt (a:=L) (b:=G) (c:=-(n:Int)) (d:=(n:Int)) Ip (zt (by omega) (by omega)) (zt (by omega) (by omega)) (zt (by omega) (by omega)) (zt (by omega) (by omega)) (zt (by omega) (by omega)) 168 W
  have hgt:=XZ (a:=G+(n:Int)) (b:=1099511627776) (zt (by omega) (by omega)) (zt (by omega) (by omega));rw[show Fx.fb 1099511627776=4787326403894837248 from rfl] at hgt;have KT:=zh (fun s W=>RJ s L G (L+-(n:Int)) (G+(n:Int)) (zt (by omega) (by omega)) (zt (by omega) (by omega)) W);have e:L+-(n:Int)=L-(n:Int):=by omega
  rw[e] at hadd KT;clear e;obtain ⟨c0,c1,c2,c3,c4,c5,c6,c7,c8,c9⟩:=fW.out.q;have cF:=fW.out.f;obtain ⟨i0,i1,i2,i3⟩:=mA.out.t.q;have iF:=mA.out.f;have f0:=zB c0;have f1:=zB c1;have f2:=zB c2;have f3:=zB c3;have f4:=zB c4;have f5:=zB c5;have f6:=zB c6;have f7:=zB c7;have f8:=zB c8;have f9:=zB c9;have k0:=zB i0;have k1:=zB i1;have k2:=zB i2;have k3:=zB i3;clear c0 c1 c2 c3 c4 c5 c6 c7 c8 c9 cF i0 i1 i2 i3 iF;refine zC (by kernel_rfl) (by kernel_rfl) ?_
  repeat (go_big_quiet_step ((first|exact zE (Jp.out _)|exact zE (jb.out _)|exact zE (X2.out _))))
  refine aA ?_;intro _ hw';obtain ⟨u,hw'⟩:=hw';subst hw';have iw:=zh (fW.out.below u.h);have nu:=zh (ig.out.below u.h);have gy:=zh (zA eM.out u.h);have mg:=zh (gC.out.keep u.h);generalize u.w'=w3 at *;clear f0 f1 f2 f3 f4 f5 f6 f7 f8 f9 k0 k1 k2 k3 Jp jb X2 hadd fW ig eM gC mA
  by_cases hgo:G+(n:Int)≤1099511627776
  ·
   have HW:=zh (Ju.out hgo);rw[aD (show ¬ (1099511627776<G+(n:Int)) by omega)] at hgt;have Cq:s1.v k=.slice (s1.a k) (s1.n k) (s1.c k):=rfl;have ck:=iw.out.c k jR;have FH:=zh (Bd.out _ w3 (mg.out k jR).rd);rw[pN.out] at FH;rw[Cq] at ck FH;clear Cq;go_wp2_with fail;refine FH.out.mono ?_;rintro e w4 ⟨v4,rfl,fl,hb4⟩;have jc:=zh (iw.out.below hb4);have sq:=zh (nu.out.below hb4);have gD:=zh (zA gy.out hb4);have jM:=zh (mg.out.keep hb4);have X3:=zh (fl.mono (show w.heap.size+2≤w3.heap.size from nu.out.lt));obtain ⟨va,vc,hv4,_⟩:=zH fl;subst hv4;clear fl hb4 FH ck iw nu gy mg;have ck:=jc.out.c k jR;have cf:=jc.out.f k;have Cq:s1.v k=.slice (s1.a k) (s1.n k) (s1.c k):=rfl;rw[Cq] at ck;generalize (gP (f k) key).length=dn at *;go_upto_region 10 with fail
   obtain ⟨V5,DV⟩:∃ V5,w4.setCell ⟨w.heap.size,k,none⟩ (.slice va dn vc)=V5:=⟨_,rfl⟩
   have fJ:=zh (show eQ V5 w.heap.size (s1.set k va dn vc) L G from DV▸jc.out.Ge jR va dn vc);have su:=zh (show eQ V5 (w.heap.size+1) Sl.nil 0 0 from DV▸sq.out.eA (p:=⟨w.heap.size,k,none⟩) (show w.heap.size≠w.heap.size+1 by omega) _);have gH:=zh (show Below w.heap.size w V5 from DV▸gD.out.setCell (p:=⟨w.heap.size,k,none⟩) (ag _) _);have jN:=zh (show eZ V5 (w.heap.size+2) (s1.set k va dn vc) (fun i=>if i=k then gP (f k) key else f i) from DV▸eZ.set (fun i hi=>yE (jM.out i hi) (p:=⟨w.heap.size,k,none⟩) (show w.heap.size<w.heap.size+2 by omega) _) (show fC _ _ _ (gP (f k) key) from yO (yE X3.out (p:=⟨w.heap.size,k,none⟩) (show w.heap.size<w.heap.size+2 by omega) _) rfl));rw[DV];clear DV ck cf Cq jc sq gD jM X3;have hfe:(fun i=>if i=k then gP (f k) key else f i)=(fun i=>if i=k then gP (f i) key else f i):=funext fun i=>by
    by_cases e:i=k
    ·
     rw[ah e,ah e,e]
    rw[ai e,ai e]
   rw[hfe] at jN;clear hfe;generalize s1.set k va dn vc=s2 at *;obtain ⟨c0,c1,c2,c3,c4,c5,c6,c7,c8,c9⟩:=fJ.out.q;have cF:=fJ.out.f;go_wp2_with fail;refine (KT.out s2 V5).mono ?_;rintro e w6 ⟨rfl,jr⟩;have iQ:=zh (fJ.out.below jr);have sw:=zh (su.out.below jr);have iZ:=zh (zA gH.out jr);have nr:=zh (jN.out.keep jr);clear jr c0 c1 c2 c3 c4 c5 c6 c7 c8 c9 cF;generalize L-(n:Int)=L2 at *;generalize G+(n:Int)=G2 at *;obtain ⟨c0,c1,c2,c3,c4,c5,c6,c7,c8,c9⟩:=iQ.out.q;have cF:=iQ.out.f;obtain ⟨d0,d1,d2,d3,d4,d5,d6,d7,d8,d9⟩:=sw.out.q;have dF:=sw.out.f;go_wp2_with fail;change bodyPost _ _ _ _ _ (yH w6 (w.heap.size+1) s2 L2 G2);have hby:=sw.out.all s2 L2 G2;have nw:=zh ((nr.out.lV (show w.heap.size+1<w.heap.size+2 by omega) s2 L2 G2).mono (show w.heap.size≤w.heap.size+2 by omega))
   have eD:=zh (za iZ.out (show w.heap.size≤w.heap.size+1 by omega) s2 L2 G2);generalize yH w6 (w.heap.size+1) s2 L2 G2=V9 at *;exact au (v:=yF s2 L2 G2) (by simp[results,Tryz.results55,go_sem,hby.q]) rfl ⟨⟨_,by rw[HW.out],by rw[HW.out];exact nw.out⟩,eD.out⟩
  have HW:=zh (Jv.out (by omega));rw[aC (show 1099511627776<G+(n:Int) by omega)] at hgt;obtain ⟨c0,c1,c2,c3,c4,c5,c6,c7,c8,c9⟩:=iw.out.q;have cF:=iw.out.f;obtain ⟨d0,d1,d2,d3,d4,d5,d6,d7,d8,d9⟩:=nu.out.q;have dF:=nu.out.f;go_wp2_with fail;change bodyPost _ _ _ _ _ (yH w3 (w.heap.size+1) s1 L G);have hby:=nu.out.all s1 L G;have nw:=zh ((mg.out.lV (show w.heap.size+1<w.heap.size+2 by omega) s1 L G).mono (show w.heap.size≤w.heap.size+2 by omega));have eD:=zh (za gy.out (show w.heap.size≤w.heap.size+1 by omega) s1 L G);generalize yH w3 (w.heap.size+1) s1 L G=V9 at *;exact au (v:=yF s1 L G) (by simp[results,Tryz.results55,go_sem,hby.q]) rfl ⟨⟨_,by rw[HW.out],by rw[HW.out];exact nw.out⟩,eD.out⟩
end Go.Proofs.YtcgfilmmokmdjaaGreat
