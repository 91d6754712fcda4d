import Derived.Test.YtcgfilmmokmdjaaGreatQAY
import Derived.Test.YtcgfilmmokmdjaaGreatQAL
import Derived.Laws.MakeOwn
set_option linter.all false
set_option maxRecDepth 100000
set_option maxHeartbeats 32000000
namespace Go.Proofs.YtcgfilmmokmdjaaGreat
open Go.RowKit
def H7 (much:Bool) (q:Rq):Rq:=⟨q.tk,1+q.kind%2,q.key%8,q.ck%2,(if (much&&decide (q.tk%4=0))=true then List.replicate 4076 0 else [])++q.data.take 30⟩
theorem zLw (n:Int):bits .and .i64 n 1=n%2:=by
 have hm:(BitVec.ofInt 64 1).toNat=2^1-1:=by decide
 have key:(BitVec.ofInt 64 n &&& BitVec.ofInt 64 1).toNat=(n%((2^64:Nat):Int)).toNat%2^1:=by
  rw[BitVec.toNat_and,BitVec.toNat_ofInt,hm,dW]
 show IntKind.i64.wrap ((BitVec.ofInt 64 n &&& BitVec.ofInt 64 1).toNat:Nat)=n%2
 rw[key,IntKind.wrap_i64];omega
theorem zLs (n:Int):bits .and .i64 n 3=n%4:=by
 have hm:(BitVec.ofInt 64 3).toNat=2^2-1:=by decide
 have key:(BitVec.ofInt 64 n &&& BitVec.ofInt 64 3).toNat=(n%((2^64:Nat):Int)).toNat%2^2:=by
  rw[BitVec.toNat_and,BitVec.toNat_ofInt,hm,dW]
 show IntKind.i64.wrap ((BitVec.ofInt 64 n &&& BitVec.ofInt 64 3).toNat:Nat)=n%4
 rw[key,IntKind.wrap_i64];omega
theorem zJm (n:Nat):bits .and .u64 (n:Int) 7=((n%8:Nat):Int):=by
 have hm:(BitVec.ofInt 64 7).toNat=2^3-1:=by decide
 have key:(BitVec.ofInt 64 (n:Int) &&& BitVec.ofInt 64 7).toNat=((n:Int)%((2^64:Nat):Int)).toNat%2^3:=by
  rw[BitVec.toNat_and,BitVec.toNat_ofInt,hm,dW]
 show IntKind.u64.wrap ((BitVec.ofInt 64 (n:Int) &&& BitVec.ofInt 64 7).toNat:Nat)=_
 rw[key];simp[IntKind.wrap,IntKind.signed,IntKind.bits];omega
theorem zJi (n:Nat):bits .and .u32 (n:Int) 1=((n%2:Nat):Int):=by
 have hm:(BitVec.ofInt 32 1).toNat=2^1-1:=by decide
 have key:(BitVec.ofInt 32 (n:Int) &&& BitVec.ofInt 32 1).toNat=((n:Int)%((2^32:Nat):Int)).toNat%2^1:=by
  rw[BitVec.toNat_and,BitVec.toNat_ofInt,hm,dW]
 show IntKind.u32.wrap ((BitVec.ofInt 32 (n:Int) &&& BitVec.ofInt 32 1).toNat:Nat)=_
 rw[key];simp[IntKind.wrap,IntKind.signed,IntKind.bits];omega
theorem zLq:xt Tryz.prog 60 63 5 56:=by
 obtain ⟨i,hi,hz,hs,hb⟩:=cm (P:=Tryz.prog) (e:=63) (z:=.agg #[.int .i64 0,.int .i64 0,.int .u64 0,.int .u32 0,.slice none 0 0]) (size:=5) (bytes:=56) (by kernel_rfl);exact ⟨Tryz.underlying60,by decide,i,_,hi,hz,hs,hb,rfl⟩
theorem zJ5:∃ zc:Array Value,zc.size=4076∧zc.toList=(List.replicate 4076 (0:UInt8)).map tB∧∀ w:World,(Instr.makeSlice 54 (.int .i64 4076) (.int .i64 4076)).run Tryz.prog w=.ok (.slice (some ⟨w.heap.size,0,none⟩) 4076 4076) (w.alloc (.cells zc 5)):=by
 obtain ⟨i,hi,hz,hs,hb⟩:=cm (P:=Tryz.prog) (e:=5) (z:=.int .u8 0) (size:=1) (bytes:=1) (by kernel_rfl);refine ⟨madeCells (Value.int .u8 0).cells (4076*i.size),?_,?_,fun w=>?_⟩
 ·
  rw[hs];simp[madeCells]
 ·
  rw[hs,List.map_replicate];unfold madeCells;rw[Array.toList_map,Array.toList_range];refine List.eq_replicate_iff.2 ⟨by rw[aH,List.length_range],fun b hb=>?_⟩;obtain ⟨j,_,rfl⟩:=List.mem_map.1 hb
  show (#[Value.int .u8 0])[j%1]! =_
  rw[Nat.mod_one]
  rfl
 have h:=run_make (P:=Tryz.prog) w 54 5 i (.int .u8 0) Tryz.underlying54 hi hz .i64 .i64 4076 4076 (by decide) (by decide) (by rw[hb];decide) (by decide);exact h
structure iK (W:World) (B:Nat) (v:Value) (qs:List (Rq×Value)):Prop where
 row:W.ownsRow B 63 5 v qs.length (qs.flatMap rF)
 dat:∀ p∈qs,fR W B p.2 p.1.data
theorem iK.nil (W:World) (B:Nat):iK W B (.slice none 0 0) []:=⟨aT _ _ _ _,fun p hp=>by cases hp⟩
theorem iK.below {W W':World} {B:Nat} {v:Value} {qs:List (Rq×Value)} (h:iK W B v qs) (hb:Below W.heap.size W W'):iK W' B v qs:=⟨zG h.row hb,fun p hp=>g_.below (h.dat p hp) hb⟩
theorem iK.gK {W W':World} {B b:Nat} {T':TypeId} {v:Value} {qs:List (Rq×Value)} (h:iK W B v qs) (ho:gw W W' B b T') (h1:v.ownBlock≠some b) (h2:5≠T'):iK W' B v qs:=by
 obtain ⟨h3,h4⟩:=h;refine ⟨⟨h3.1,?_⟩,fun p hp=>g_.gK (h4 p hp) ho h2⟩;rcases h3.2 with h5|⟨g,cap,cur,e,hb,hg,h6⟩
 ·
  exact .inl h5
 exact .inr ⟨g,cap,cur,e,hb,by rw[ho.blk g (Array.getElem?_eq_some_iff.1 hg).1 (fun e2=>h1 (by rw[e,e2];rfl))];exact hg,h6⟩
theorem fR.Fm {W:World} {B:Nat} {a:Option Addr} {n c:Nat} {d:List UInt8} (h:fR W B (.slice a n c) d) (hk:30≤n):fR W B (.slice a 30 c) (d.take 30):=by
 have hn:d.length=n:=by obtain ⟨⟨_,_,_,e,_⟩,_⟩:=h;injection e with _ e _;exact e.symm
 have h1:rB W (.slice a 30 c) (d.take 30):=iE.take h.rd 30 (by omega);refine ⟨h1,fun g hg=>?_⟩;have Jy:(Value.slice a n c).ownBlock=some g:=by
  cases a with
  |none=>cases hg
  |some y=>simpa [Value.ownBlock] using hg
 rcases h.2 g Jy with h2|h2
 ·
  left
  have:d=[]:=List.map_eq_nil_iff.1 h2;rw[this];rfl
 exact .inr h2
theorem iK.push {W W':World} {B:Nat} {v v':Value} {qs:List (Rq×Value)} {p:Rq×Value} (h:iK W B v qs) (hd:fR W B p.2 p.1.data) (ho:W'.ownsRow B 63 5 v' (qs.length+1) (qs.flatMap rF++rF p)) (hg:W.grownBy W' v.ownBlock):iK W' B v' (qs++[p]):=by
 have hO:fA W W' B 63:=fA.row h.row hg (ag _);refine ⟨?_,fun x hx=>?_⟩
 ·
  rw[aw,b7,ct,List.flatMap_nil,bZ];exact ho
 rcases List.mem_append.1 hx with hx|hx
 ·
  exact g_.eY (h.dat x hx) hO (by decide)
 obtain rfl:=List.mem_singleton.1 hx;exact g_.eY hd hO (by decide)
theorem zCy (l:List Rq) (much:Bool) (most i:Nat) (h:i<l.length) (q:Rq) (hq:l[i]?=some q):((l.take (i+1)).map (H7 much))=(l.take i).map (H7 much)++[H7 much q]:=by
 rw[cV,hq,bD];rfl
theorem zEO (v:Value) (qs:List (Rq×Value)) (most:Nat) (much:Bool) (w:World) (h:rG w v qs) (hm:most≤1000) :
  Calls Tryz.prog 21 #[v,.int .i64 (most:Int),.bool much] w fun e w'=>∃ v' Ch,e=.returned v'∧iK w' w.heap.size v' Ch∧Ch.map (·.1)=((qs.map (·.1)).take most).map (H7 much)∧Below w.heap.size w w':=by
 obtain ⟨a,cap,rfl,h1,h2⟩:=h.shape;have HQ:=zh h;have sX:=zh (fun i (hi:i<qs.length)=>h.dat _ (Qj hi));have jG:=zh (fun i (hi:i<qs.length)=>zCy (qs.map (·.1)) much most i (by rw[aH];exact hi) (jV qs i).1 (by rw[b_];unfold jV;rw[ax,aB hi];rfl))
 have HE:=zh (show ∀ i,i≤qs.length→i≤most→¬ (i<qs.length∧i<most)→(qs.map (·.1)).take i=(qs.map (·.1)).take most from fun i h1 h2 h3=>by
  by_cases e:i=most
  ·
   rw[e]
  rw[aS (by rw[aH];omega),aS (by rw[aH];omega)])
 clear h;generalize hn:qs.length=n at *;clear hn;generalize qs.map (·.1)=N at *
 go_enter Tryz.func21,Tryz.ntmps21
 go_wp2_with fail
 go_loopw [7,8] (fun ov iv W=>∃ (i:Nat) (Ch:List (Rq×Value)),iv=.int .i64 (i:Int)∧i≤n∧i≤most∧Ch.length=i∧Hid (iK W w.heap.size ov Ch)∧Hid (Ch.map (·.1)=(N.take i).map (H7 much))∧Hid (Below w.heap.size w W)) (fun _ iv _=>n-(intOf iv).toNat)
 case atStart=>exact ⟨0,[],rfl,aq _,aq _,rfl,zh (iK.nil _ _),zh rfl,zh (aj _ _)⟩
 obtain ⟨i,Ch,rfl,hi,hi2,hl,HO,G7,HB⟩:=hrel;have hsz:w.heap.size≤wr.heap.size:=HB.out.size
 by_cases hin:i<n∧i<most
 ·
  obtain ⟨hin,him⟩:=hin;have i1:(i:Int)<(n:Int):=by omega
  have i2:decide ((i:Int)<(n:Int))=true:=aC i1;have i3:decide ((i:Int)<(most:Int))=true:=aC (by omega);obtain ⟨qb,qo,e0,_,c0,c1,c2,c3,c4⟩:=(HQ.out.below HB.out).at (j:=i) hin;subst e0;have H3:=sX.out i hin;have hst:=jG.out i hin;generalize jV qs i=X at *;obtain ⟨⟨tk,kd,ky,ck,dl⟩,dv⟩:=X;dsimp only at *;obtain ⟨da,dc,rfl,rC,hd2⟩:=H3.fK;have Hj:=zh H3;have Kv:=zh hst;have e1:=zLw kd;have e2:=zJm ky;have e3:=zJi ck;clear H3 hst;go_upto_if 41 with fail;have ew:=(aj wr.heap.size wr).alloc (ag _) (.cells #[.int .i64 tk,.int .i64 (1+kd%2),.int .u64 ((ky:Int)%8),.int .u32 ((ck:Int)%2),.slice da dl.length dc] 63);have HX:=zh (dZ.new wr #[.int .i64 tk,.int .i64 (1+kd%2),.int .u64 ((ky:Int)%8),.int .u32 ((ck:Int)%2),.slice da dl.length dc] 63)
  have hnb:∀ g,u7.ownBlock=some g→g≠wr.heap.size:=fun g hg e=>by have:=(HO.out.row.lt g hg).2;omega
  have jN:=zh (HO.out.below ew);have gH:=zh (HB.out.trans (ew.mono hsz));have Fc:=zh (show fR _ w.heap.size (.slice da dl.length dc) dl from g_.below (g_.below (g_.old Hj.out (ag _)) HB.out) ew);change Code.wp _ _ _ _ (wr.alloc (.cells #[.int .i64 tk,.int .i64 (1+kd%2),.int .u64 ((ky:Int)%8),.int .u32 ((ck:Int)%2),.slice da dl.length dc] 63));clear ew HO HB Hj c0 c1 c2 c3 c4;generalize Kg:wr.heap.size=bR at *;clear Kg;generalize wr.alloc (.cells #[.int .i64 tk,.int .i64 (1+kd%2),.int .u64 ((ky:Int)%8),.int .u32 ((ck:Int)%2),.slice da dl.length dc] 63)=w5 at *
  go_cut [9] (fun pv wx=>pv=.pointer (some ⟨bR,0,none⟩)∧∃ (Fo:Option Addr) (Fp:Nat),Hid (dZ wx bR #[.int .i64 tk,.int .i64 (1+kd%2),.int .u64 ((ky:Int)%8),.int .u32 ((ck:Int)%2),.slice Fo (dl.take 30).length Fp] 63)∧Hid (fR wx w.heap.size (.slice Fo (dl.take 30).length Fp) (dl.take 30))∧Hid (iK wx w.heap.size u7 Ch)∧Hid (Below w.heap.size w wx))
  case first =>
   have x4:=HX.out.cell (i:=4) rfl
   by_cases h30:30<dl.length
   ·
    have Ga:=fun W kh=>yl (P:=Tryz.prog) Pm (a:=da) (n:=dl.length) (cap:=dc) (iE.spot Fc.out.rd (by omega)) 30 (by omega) W kh
    rw[show ((30:Nat):Int)=30 from rfl] at Ga;have hdd:decide ((30:Int)<(dl.length:Int))=true:=by simp;omega
    have Fq:(dl.take 30).length=30:=by rw[ay];omega
    have CY:dZ (w5.setCell ⟨bR,4,none⟩ (.slice da 30 dc)) bR #[.int .i64 tk,.int .i64 (1+kd%2),.int .u64 ((ky:Int)%8),.int .u32 ((ck:Int)%2),.slice da 30 dc] 63:=by
     have h:=HX.out.set 4 (.slice da 30 dc);simp only[aK,aM,aJ] at h;exact h
    have oV:=zh CY;have oP:gw w5 (w5.setCell ⟨bR,4,none⟩ (.slice da 30 dc)) w.heap.size bR 63:=gw.pts hsz ⟨_,_,HX.out⟩ [(4,.slice da 30 dc)];have lg:=zh (jN.out.gK oP (fun e=>hnb _ e rfl) (by decide));have F6:=zh (g_.gK (show fR w5 w.heap.size (.slice da 30 dc) (dl.take 30) from Fc.out.Fm (by omega)) oP (by decide));have i_:=zh (zD (B:=w.heap.size) (b:=bR) hsz [(4,.slice da 30 dc)] gH.out);have f4:=HX.out.frozen 4;clear CY oP;go_wp2_with fail;go_meet
    case rel=>exact ⟨rfl,da,dc,by rw[Fq];exact oV,by rw[Fq];exact F6,lg,i_⟩
   have hdd:decide ((30:Int)<(dl.length:Int))=false:=by simp;omega
   have he:dl.take 30=dl:=aS (by omega);go_wp2_with fail;go_meet
   case rel=>exact ⟨rfl,da,dc,by rw[he];exact HX,by rw[he];exact Fc,jN,gH⟩
  clear HX Fc jN gH;obtain ⟨rfl,Fo,Fp,HX,HK,HO,HB⟩:=hcut;generalize wc=w6 at *;have alV:(dl.take 30).length≤30:=by rw[ay];omega
  have Bb:=zh (show H7 much ⟨tk,kd,ky,ck,dl⟩=⟨tk,1+kd%2,ky%8,ck%2,(if (much&&decide (tk%4=0))=true then List.replicate 4076 0 else [])++dl.take 30⟩ from rfl);generalize dl.take 30=D at *;obtain ⟨pre,hpre⟩:∃ pre:List UInt8,(if (much&&decide (tk%4=0))=true then List.replicate 4076 0 else [])=pre:=⟨_,rfl⟩
  rw[hpre] at Bb;have rO:=zh hpre;clear hpre;have e4:=zLs tk;have x0:=HX.out.cell (i:=0) rfl;have x4:=HX.out.cell (i:=4) rfl;obtain ⟨mb,Vz⟩:∃ mb,(much&&decide (tk%4=0))=mb:=⟨_,rfl⟩
  rw[Vz] at rO;have HMb:=zh Vz;clear Vz;go_upto_region 9 with fail
  go_cut [52] (fun bv wx=>bv=.bool mb∧w6=wx)
  case first =>
   cases much
   ·
    have VA:=HMb.out;rw[dt] at VA;subst VA;go_wp2_with fail;go_meet
    case rel=>exact ⟨rfl,rfl⟩
   have VA:(tk%4==0)=mb:=by
    rw[← HMb.out,bV]
    by_cases h:tk%4=0
    ·
     simp[h]
    simp[h]
   go_wp2_with fail;go_meet
   case rel=>exact ⟨rfl,rfl⟩
  obtain ⟨rfl,rfl⟩:=hcut;go_upto_if 52 with fail
  go_cut [9] (fun pv wx=>pv=.pointer (some ⟨bR,0,none⟩)∧∃ (AH:Option Addr) (AI:Nat) (D2:List UInt8),Hid (D2=pre++D)∧Hid (dZ wx bR #[.int .i64 tk,.int .i64 (1+kd%2),.int .u64 ((ky:Int)%8),.int .u32 ((ck:Int)%2),.slice AH D2.length AI] 63)∧Hid (fR wx w.heap.size (.slice AH D2.length AI) D2)∧Hid (iK wx w.heap.size u7 Ch)∧Hid (Below w.heap.size w wx))
  case first =>
   cases mb
   ·
    have OS:[]=pre:=rO.out;subst OS;go_wp2_with fail;go_meet
    case rel=>exact ⟨rfl,Fo,Fp,D,zh rfl,HX,HK,HO,HB⟩
   have OS:List.replicate 4076 0=pre:=rO.out;obtain ⟨zc,hz1,hz2,hmk⟩:=zJ5;rw[OS] at hz2;have hpl:pre.length=4076:=by rw[← OS,dA]
   clear OS rO;have ew:=zi ((aj w6.heap.size w6).alloc (ag _) (.cells zc 5));have Fs:(World.drew (w6.alloc (.cells zc 5))).ownsRow w6.heap.size 5 1 (.slice (some ⟨w6.heap.size,0,none⟩) 4076 4076) 4076 (pre.map tB):=⟨by rw[aH,hpl],.inr ⟨w6.heap.size,4076,zc,rfl,ag _,dg w6 _,ag _,by decide,hz1,by rw[hz2,aS (by rw[aH,hpl];decide)]⟩⟩
   have HZ:=zh Fs;have Le:=zh (HX.out.below ew);have FR:=zh (g_.below HK.out ew);have hs6:w6.heap.size≤(World.drew (w6.alloc (.cells zc 5))).heap.size:=ew.size
   have mD:=zh (fun W9 va vc (hown:World.ownsRow W9 w6.heap.size 5 1 (.slice va (4076+D.length) vc) (4076+D.length) (pre.map tB++D.map tB)) (hgr:(World.drew (w6.alloc (.cells zc 5))).grownBy W9 (Value.slice (some ⟨w6.heap.size,0,none⟩) 4076 4076).ownBlock)=>show dZ W9 bR #[.int .i64 tk,.int .i64 (1+kd%2),.int .u64 ((ky:Int)%8),.int .u32 ((ck:Int)%2),.slice Fo D.length Fp] 63∧fR W9 w.heap.size (.slice va (pre++D).length vc) (pre++D)∧iK W9 w.heap.size u7 Ch∧Below w6.heap.size w6 W9 by
    have hb:=zL ew Fs hs6 hgr
    refine ⟨HX.out.below hb,?_,HO.out.below hb,hb⟩
    have e:(pre++D).length=4076+D.length:=by rw[aw,hpl]
    unfold fR
    rw[e,bD]
    exact g_.own hown)
   clear Fs ew hz2;have xa4:=Le.out.cell (i:=4) rfl;have VB:=zh (show Rd (World.drew (w6.alloc (.cells zc 5))) 1 (.slice Fo D.length Fp) D.length (D.map tB) from FR.out.1);go_upto_region 10 with fail
   go_region_law ((refine vL (n:=4076) (m:=D.length) (by rfl) (.tmp 53) (.tmp 55) 54 (by rfl) Pm w6.heap.size (by rfl) HZ.out (by rfl) VB.out (Wi D) (by unfold maxLen;omega) (by omega) hs6 ?_;intro v9 w9 eG fp hv2;clear hv2;obtain ⟨lJ,lK,hv2,_,_,_⟩:=zH eG;subst hv2;obtain ⟨r1,r2,r3,r4⟩:=mD.out _ _ _ eG fp;have x9:=r1.cell (i:=4) rfl;have f9:=r1.frozen 4))
   all_goals
    have e:(pre++D).length=4076+D.length:=by rw[aw,hpl]
    rw[e] at r2;have oP:gw w9 (w9.setCell ⟨bR,4,none⟩ (.slice lJ (4076+D.length) lK)) w.heap.size bR 63:=gw.pts hsz ⟨_,_,r1⟩ [(4,.slice lJ (4076+D.length) lK)];have CY:dZ (w9.setCell ⟨bR,4,none⟩ (.slice lJ (4076+D.length) lK)) bR #[.int .i64 tk,.int .i64 (1+kd%2),.int .u64 ((ky:Int)%8),.int .u32 ((ck:Int)%2),.slice lJ (4076+D.length) lK] 63:=by
     have h:=r1.set 4 (.slice lJ (4076+D.length) lK);simp only[aK,aM,aJ] at h;exact h
    have oV:=zh CY;have F6:=zh (g_.gK r2 oP (by decide));have lg:=zh (r3.gK oP (fun e=>hnb _ e rfl) (by decide));have i_:=zh (zD (B:=w.heap.size) (b:=bR) hsz [(4,.slice lJ (4076+D.length) lK)] (HB.out.trans (r4.mono HB.out.size)));clear r1 r2 r3 r4 oP CY x9 f9 eG fp;go_wp2_with fail;go_meet
    case rel=>exact ⟨rfl,lJ,lK,pre++D,zh rfl,by rw[e];exact oV,by rw[e];exact F6,lg,i_⟩
  clear HX HK HO HB rO;obtain ⟨rfl,AH,AI,D2,Ie,HX,HK,HO,HB⟩:=hcut;generalize wc=w7 at *;obtain ⟨oa,oc,sP,_,_,_⟩:=zH HO.out.row;subst sP;have OT:w.heap.size≤w7.heap.size:=HB.out.size;have x0:=HX.out.cell (i:=0) rfl;have x1:=HX.out.cell (i:=1) rfl;have x2:=HX.out.cell (i:=2) rfl;have x3:=HX.out.cell (i:=3) rfl;have x4:=HX.out.cell (i:=4) rfl;have ew:=(aj w7.heap.size w7).alloc (ag _) (.cells #[.int .i64 tk,.int .i64 (1+kd%2),.int .u64 ((ky:Int)%8),.int .u32 ((ck:Int)%2),.slice AH D2.length AI] 63);have jB:=zh (HO.out.below ew);have VC:=zh (g_.below HK.out ew);have ny:=zh (HB.out.trans (ew.mono OT));have Fu:=zh jB.out.row;have OU:=ak OT ew.size;clear ew HX HK HO HB
  go_wp2_with (at_builtin;go_must (refine zP (n:=Ch.length) (m:=1) rfl (.tmp 58) (.tmp 60) 60 rfl zLq w.heap.size rfl Fu.out rfl (Rd.jD w7.heap.size w7 rfl 5 [.int .i64 tk,.int .i64 (1+kd%2),.int .u64 ((ky:Int)%8),.int .u32 ((ck:Int)%2),.slice AH D2.length AI] 63 1 rfl (by decide)) (fun u hu=>by simp only[aX,aY,aZ] at hu;rcases hu with h|h|h|h|h<;>rw[h]<;>rfl) (by unfold maxLen;omega) (by omega) OU ?_);intro v3 w9 ei eL hv3;clear hv3);have lg:=zh (jB.out.push (p:=((⟨tk,1+kd%2,ky%8,ck%2,D2⟩:Rq),(.slice AH D2.length AI:Value))) VC.out ei eL);have i_:=zh (zL ny.out Fu.out OU eL);have VD:=zh (show (Ch++[((⟨tk,1+kd%2,ky%8,ck%2,D2⟩:Rq),(.slice AH D2.length AI:Value))]).map (·.1)=(N.take (i+1)).map (H7 much) by rw[bD,G7.out,Kv.out,Bb.out,Ie.out];rfl)
  have Qv:(Ch++[((⟨tk,1+kd%2,ky%8,ck%2,D2⟩:Rq),(.slice AH D2.length AI:Value))]).length=i+1:=by rw[aw,hl];rfl
  clear ei eL;go_wp2_with fail;exact ⟨⟨i+1,_,by go_num,by omega,by omega,Qv,lg,VD,i_⟩,by simp[intOf];omega⟩
 have FD:=zh (HE.out i hi hi2 hin)
 by_cases h5:i<n
 ·
  have i2:decide ((i:Int)<(n:Int))=true:=aC (by omega);have i3:decide ((i:Int)<(most:Int))=false:=aD (by omega);go_wp2_with fail;go_ret;exact ⟨_,Ch,rfl,HO.out,by rw[G7.out,FD.out],HB.out⟩
 have i2:decide ((i:Int)<(n:Int))=false:=aD (by omega);go_wp2_with fail;go_ret;exact ⟨_,Ch,rfl,HO.out,by rw[G7.out,FD.out],HB.out⟩
theorem zJu (n:Nat):bits .and .u32 (n:Int) 3=((n%4:Nat):Int):=by
 have hm:(BitVec.ofInt 32 3).toNat=2^2-1:=by decide
 have key:(BitVec.ofInt 32 (n:Int) &&& BitVec.ofInt 32 3).toNat=((n:Int)%((2^32:Nat):Int)).toNat%2^2:=by
  rw[BitVec.toNat_and,BitVec.toNat_ofInt,hm,dW]
 show IntKind.u32.wrap ((BitVec.ofInt 32 (n:Int) &&& BitVec.ofInt 32 3).toNat:Nat)=_
 rw[key];simp[IntKind.wrap,IntKind.signed,IntKind.bits];omega
theorem gm.Kw {W W':World} {B b:Nat} {T':TypeId} {v:Value} {es:List (Nd×Value)} (h:gm W B v es) (ho:gw W W' B b T') (h1:v.ownBlock≠some b) (h2:5≠T'):gm W' B v es:=by
 obtain ⟨h3,h4⟩:=h;refine ⟨⟨h3.1,?_⟩,fun p hp=>g_.gK (h4 p hp) ho h2⟩;rcases h3.2 with h5|⟨g,cap,cur,e,hb,hg,h6⟩
 ·
  exact .inl h5
 exact .inr ⟨g,cap,cur,e,hb,by rw[ho.blk g (Array.getElem?_eq_some_iff.1 hg).1 (fun e2=>h1 (by rw[e,e2];rfl))];exact hg,h6⟩
theorem gm.nil (W:World) (B:Nat):gm W B (.slice none 0 0) []:=⟨aT _ _ _ _,fun p hp=>by cases hp⟩
theorem gm.push {W W':World} {B:Nat} {v v':Value} {es:List (Nd×Value)} {p:Nd×Value} (h:gm W B v es) (hd:fR W B p.2 p.1.data) (ho:W'.ownsRow B 56 4 v' (es.length+1) (xP es++vK p)) (hg:W.grownBy W' v.ownBlock):gm W' B v' (es++[p]):=by
 have hO:fA W W' B 56:=fA.row h.row hg (ag _);refine ⟨?_,fun x hx=>?_⟩
 ·
  have e:xP (es++[p])=xP es++vK p:=by unfold xP;rw[b7];simp
  rw[e,aw];exact ho
 rcases List.mem_append.1 hx with hx|hx
 ·
  exact g_.eY (h.dat x hx) hO (by decide)
 obtain rfl:=List.mem_singleton.1 hx;exact g_.eY hd hO (by decide)
theorem zEu (v:Value) (ns:List (Nd×Value)) (most:Nat) (w:World) (h:nC w v ns) (hm:most≤1000) :
  Calls Tryz.prog 37 #[v,.int .i64 (most:Int)] w fun e w'=>∃ v' es,e=.returned v'∧gm w' w.heap.size v' es∧es.map (·.1)=D_ most (ns.map (·.1))∧Below w.heap.size w w':=by
 obtain ⟨a,cap,rfl,h1,h2⟩:=h.shape;have HQ:=zh h;have sX:=zh (fun i (hi:i<ns.length)=>h.dat _ (uZ hi))
 have jG:=zh (show ∀ i,i<ns.length→((ns.map (·.1)).take (i+1)).map F5=((ns.map (·.1)).take i).map F5++[F5 (xQ ns i).1] from fun i hi=>by
  rw[cV,b_,aB hi,bD]
  unfold xQ
  rw[ax,aB hi];rfl)
 have HE:=zh (show ∀ i,i≤ns.length→i≤most→¬ (i<ns.length∧i<most)→((ns.map (·.1)).take i).map F5=D_ most (ns.map (·.1)) from fun i h1 h2 h3=>by
  unfold D_
  by_cases e:i=most
  ·
   rw[e]
  rw[aS (by rw[aH];omega),aS (by rw[aH];omega)])
 clear h;generalize hn:ns.length=n at *;clear hn;generalize ns.map (·.1)=N at *
 go_enter Tryz.func37,Tryz.ntmps37
 go_wp2_with fail
 go_loopw [5,6] (fun ov iv W=>∃ (i:Nat) (es:List (Nd×Value)),iv=.int .i64 (i:Int)∧i≤n∧i≤most∧es.length=i∧Hid (gm W w.heap.size ov es)∧Hid (es.map (·.1)=(N.take i).map F5)∧Hid (Below w.heap.size w W)) (fun _ iv _=>n-(intOf iv).toNat)
 case atStart=>exact ⟨0,[],rfl,aq _,aq _,rfl,zh (gm.nil _ _),zh rfl,zh (aj _ _)⟩
 obtain ⟨i,es,rfl,hi,hi2,hl,HO,G7,HB⟩:=hrel;have hsz:w.heap.size≤wr.heap.size:=HB.out.size
 by_cases hin:i<n∧i<most
 ·
  obtain ⟨hin,him⟩:=hin;have i1:(i:Int)<(n:Int):=by omega
  have i2:decide ((i:Int)<(n:Int))=true:=aC i1;have i3:decide ((i:Int)<(most:Int))=true:=aC (by omega);obtain ⟨qb,qo,e0,_,c0,c1,c2,c3⟩:=(HQ.out.below HB.out).at (j:=i) hin;subst e0;have H3:=sX.out i hin;have hst:=jG.out i hin;generalize xQ ns i=X at *;obtain ⟨⟨ky,ck,dd,dl⟩,dv⟩:=X;dsimp only at *;obtain ⟨da,dc,rfl,rC,hd2⟩:=H3.fK;have Hj:=zh H3;have Kv:=zh hst;have e2:=zJm ky;have e3:=zJu ck;clear H3 hst;go_upto_if 26 with fail;have ew:=(aj wr.heap.size wr).alloc (ag _) (.cells #[.int .u64 (ky:Int),.int .u32 (ck:Int),.bool dd,.slice da dl.length dc] 56);have HX:=zh (dZ.new wr #[.int .u64 (ky:Int),.int .u32 (ck:Int),.bool dd,.slice da dl.length dc] 56);have hnb:∀ g,u5.ownBlock=some g→g≠wr.heap.size:=fun g hg e=>by have:=(HO.out.row.lt g hg).2;omega
  have jN:=zh (HO.out.below ew);have gH:=zh (HB.out.trans (ew.mono hsz));have Fc:=zh (show fR _ w.heap.size (.slice da dl.length dc) dl from g_.below (g_.below (g_.old Hj.out (ag _)) HB.out) ew);change Code.wp _ _ _ _ (wr.alloc (.cells #[.int .u64 (ky:Int),.int .u32 (ck:Int),.bool dd,.slice da dl.length dc] 56));clear ew HO HB Hj c0 c1 c2 c3;generalize Kg:wr.heap.size=bR at *;clear Kg;generalize wr.alloc (.cells #[.int .u64 (ky:Int),.int .u32 (ck:Int),.bool dd,.slice da dl.length dc] 56)=w5 at *
  go_cut [7] (fun pv wx=>pv=.pointer (some ⟨bR,0,none⟩)∧∃ (Fo:Option Addr) (Fp:Nat),Hid (dZ wx bR #[.int .u64 (ky:Int),.int .u32 (ck:Int),.bool dd,.slice Fo (dl.take 30).length Fp] 56)∧Hid (fR wx w.heap.size (.slice Fo (dl.take 30).length Fp) (dl.take 30))∧Hid (gm wx w.heap.size u5 es)∧Hid (Below w.heap.size w wx))
  case first =>
   have x4:=HX.out.cell (i:=3) rfl
   by_cases h30:30<dl.length
   ·
    have Ga:=fun W kh=>yl (P:=Tryz.prog) Pm (a:=da) (n:=dl.length) (cap:=dc) (iE.spot Fc.out.rd (by omega)) 30 (by omega) W kh
    rw[show ((30:Nat):Int)=30 from rfl] at Ga;have hdd:decide ((30:Int)<(dl.length:Int))=true:=by simp;omega
    have Fq:(dl.take 30).length=30:=by rw[ay];omega
    have CY:dZ (w5.setCell ⟨bR,3,none⟩ (.slice da 30 dc)) bR #[.int .u64 (ky:Int),.int .u32 (ck:Int),.bool dd,.slice da 30 dc] 56:=by
     have h:=HX.out.set 3 (.slice da 30 dc);simp only[aK,aM,aJ] at h;exact h
    have oV:=zh CY;have oP:gw w5 (w5.setCell ⟨bR,3,none⟩ (.slice da 30 dc)) w.heap.size bR 56:=gw.pts hsz ⟨_,_,HX.out⟩ [(3,.slice da 30 dc)];have lg:=zh (jN.out.Kw oP (fun e=>hnb _ e rfl) (by decide));have F6:=zh (g_.gK (show fR w5 w.heap.size (.slice da 30 dc) (dl.take 30) from Fc.out.Fm (by omega)) oP (by decide));have i_:=zh (zD (B:=w.heap.size) (b:=bR) hsz [(3,.slice da 30 dc)] gH.out);have f4:=HX.out.frozen 3;clear CY oP;go_wp2_with fail;go_meet
    case rel=>exact ⟨rfl,da,dc,by rw[Fq];exact oV,by rw[Fq];exact F6,lg,i_⟩
   have hdd:decide ((30:Int)<(dl.length:Int))=false:=by simp;omega
   have he:dl.take 30=dl:=aS (by omega);go_wp2_with fail;go_meet
   case rel=>exact ⟨rfl,da,dc,by rw[he];exact HX,by rw[he];exact Fc,jN,gH⟩
  clear HX Fc jN gH;obtain ⟨rfl,Fo,Fp,HX,HK,HO,HB⟩:=hcut;generalize wc=w6 at *;have Bb:=zh (show F5 ⟨ky,ck,dd,dl⟩=⟨ky%8,ck%4,dd,if dd then [] else dl.take 30⟩ from rfl);generalize dl.take 30=D at *;have x2:=HX.out.cell (i:=2) rfl;go_upto_if 32 with fail
  go_cut [7] (fun pv wx=>pv=.pointer (some ⟨bR,0,none⟩)∧∃ (AH:Option Addr) (AI:Nat) (D2:List UInt8),Hid (D2=if dd then [] else D)∧Hid (dZ wx bR #[.int .u64 (ky:Int),.int .u32 (ck:Int),.bool dd,.slice AH D2.length AI] 56)∧Hid (fR wx w.heap.size (.slice AH D2.length AI) D2)∧Hid (gm wx w.heap.size u5 es)∧Hid (Below w.heap.size w wx))
  case first =>
   cases dd
   ·
    go_wp2_with fail;go_meet
    case rel=>exact ⟨rfl,Fo,Fp,D,zh rfl,HX,HK,HO,HB⟩
   have x3:=HX.out.cell (i:=3) rfl;have f3:=HX.out.frozen 3;have CY:dZ (w6.setCell ⟨bR,3,none⟩ (.slice none 0 0)) bR #[.int .u64 (ky:Int),.int .u32 (ck:Int),.bool true,.slice none 0 0] 56:=by
    have h:=HX.out.set 3 (.slice none 0 0);simp only[aK,aM,aJ] at h;exact h
   have oV:=zh CY;have oP:gw w6 (w6.setCell ⟨bR,3,none⟩ (.slice none 0 0)) w.heap.size bR 56:=gw.pts hsz ⟨_,_,HX.out⟩ [(3,.slice none 0 0)];have lg:=zh (HO.out.Kw oP (fun e=>hnb _ e rfl) (by decide));have F6:=zh (show fR (w6.setCell ⟨bR,3,none⟩ (.slice none 0 0)) w.heap.size (.slice none 0 0) [] from ⟨⟨rfl,none,0,rfl,ag _,aq _,fun _=>rfl,fun h=>(by cases h)⟩,fun g hg=>(by cases hg)⟩);have i_:=zh (zD (B:=w.heap.size) (b:=bR) hsz [(3,.slice none 0 0)] HB.out);clear CY oP;go_wp2_with fail;go_meet
   case rel=>exact ⟨rfl,none,0,[],zh rfl,oV,F6,lg,i_⟩
  clear HX HK HO HB;obtain ⟨rfl,AH,AI,D2,Ie,HX,HK,HO,HB⟩:=hcut;generalize wc=w7 at *;have x0:=HX.out.cell (i:=0) rfl;have x1:=HX.out.cell (i:=1) rfl;have f0:=HX.out.frozen 0;have f1:=HX.out.frozen 1;have CY:dZ (pts w7 bR [(0,.int .u64 ((ky:Int)%8)),(1,.int .u32 ((ck:Int)%4))]) bR #[.int .u64 ((ky:Int)%8),.int .u32 ((ck:Int)%4),.bool dd,.slice AH D2.length AI] 56:=by
   have h:=dZ.sets [(0,.int .u64 ((ky:Int)%8)),(1,.int .u32 ((ck:Int)%4))] HX.out;simp only[List.foldl_cons,List.foldl_nil,aK,aM,aJ] at h;exact h
  have oP:gw w7 (pts w7 bR [(0,.int .u64 ((ky:Int)%8)),(1,.int .u32 ((ck:Int)%4))]) w.heap.size bR 56:=gw.pts hsz ⟨_,_,HX.out⟩ _;have lg:=zh (HO.out.Kw oP (fun e=>hnb _ e rfl) (by decide));have F6:=zh (g_.gK HK.out oP (by decide));have i_:=zh (zD (B:=w.heap.size) (b:=bR) hsz [(0,.int .u64 ((ky:Int)%8)),(1,.int .u32 ((ck:Int)%4))] HB.out);have oV:=zh CY;clear CY oP HX HK HO HB;go_upto_region 12 with fail;change Code.wp _ _ _ _ (pts w7 bR [(0,.int .u64 ((ky:Int)%8)),(1,.int .u32 ((ck:Int)%4))]);generalize pts w7 bR [(0,.int .u64 ((ky:Int)%8)),(1,.int .u32 ((ck:Int)%4))]=w8 at *;clear x0 x1 f0 f1;have x0:=oV.out.cell (i:=0) rfl;have x1:=oV.out.cell (i:=1) rfl;have x2:=oV.out.cell (i:=2) rfl;have x3:=oV.out.cell (i:=3) rfl;obtain ⟨oa,oc,sP,_,_,_⟩:=zH lg.out.row;subst sP
  have OT:w.heap.size≤w8.heap.size:=i_.out.size;have ew:=(aj w8.heap.size w8).alloc (ag _) (.cells #[.int .u64 ((ky:Int)%8),.int .u32 ((ck:Int)%4),.bool dd,.slice AH D2.length AI] 56);have jB:=zh (lg.out.below ew);have VC:=zh (g_.below F6.out ew);have ny:=zh (i_.out.trans (ew.mono OT));have Fu:=zh jB.out.row;have OU:=ak OT ew.size;clear ew oV F6 lg i_;go_wp2_with (at_builtin;go_must (refine zP (n:=es.length) (m:=1) rfl (.tmp 42) (.tmp 44) 23 rfl Ts w.heap.size rfl Fu.out rfl (Rd.jD w8.heap.size w8 rfl 4 [.int .u64 ((ky:Int)%8),.int .u32 ((ck:Int)%4),.bool dd,.slice AH D2.length AI] 56 1 rfl (by decide)) (fun u hu=>by simp only[aX,aY,aZ] at hu;rcases hu with h|h|h|h<;>rw[h]<;>rfl) (by unfold maxLen;omega) (by omega) OU ?_);intro v3 w9 ei eL hv3;clear hv3)
  have lg:=zh (jB.out.push (p:=((⟨ky%8,ck%4,dd,D2⟩:Nd),(.slice AH D2.length AI:Value))) VC.out ei eL);have i_:=zh (zL ny.out Fu.out OU eL);have VD:=zh (show (es++[((⟨ky%8,ck%4,dd,D2⟩:Nd),(.slice AH D2.length AI:Value))]).map (·.1)=(N.take (i+1)).map F5 by rw[bD,G7.out,Kv.out,Bb.out,Ie.out];rfl);have Qv:(es++[((⟨ky%8,ck%4,dd,D2⟩:Nd),(.slice AH D2.length AI:Value))]).length=i+1:=by rw[aw,hl];rfl
  clear ei eL;go_wp2_with fail;exact ⟨⟨i+1,_,by go_num,by omega,by omega,Qv,lg,VD,i_⟩,by simp[intOf];omega⟩
 have FD:=zh (HE.out i hi hi2 hin)
 by_cases h5:i<n
 ·
  have i2:decide ((i:Int)<(n:Int))=true:=aC (by omega);have i3:decide ((i:Int)<(most:Int))=false:=aD (by omega);go_wp2_with fail;go_ret;exact ⟨_,es,rfl,HO.out,by rw[G7.out,FD.out],HB.out⟩
 have i2:decide ((i:Int)<(n:Int))=false:=aD (by omega);go_wp2_with fail;go_ret;exact ⟨_,es,rfl,HO.out,by rw[G7.out,FD.out],HB.out⟩
end Go.Proofs.YtcgfilmmokmdjaaGreat
