import Derived.Test.YtcgfilmmokmdjaaGreatQAD
import Derived.Lib.AppendZeros
set_option linter.all false
set_option maxRecDepth 100000
set_option maxHeartbeats 32000000
namespace Go.Proofs.YtcgfilmmokmdjaaGreat
open Go.RowKit
theorem zFx (w:World) (n:Nat) (h0:0<n) (hn:n≤1000000) :
  ∃ w' c,(∀ ty,(Builtin.append_ #[33,3] ty #[.slice none 0 0,.int .i64 (n:Int)]).run Tryz.prog w=.ok (.slice (some ⟨w.heap.size,0,none⟩) n c) w') ∧
   w'.ownsRow w.heap.size 49 4 (.slice (some ⟨w.heap.size,0,none⟩) 0 c) 0 []∧Below w.heap.size w w'∧n≤c∧c≤maxLen:=by
 obtain ⟨x,hx⟩:∃ x,Tryz.prog.info? 49=some x:=by
  cases hq:Tryz.prog.info? 49 with
  |none=>have:=I3;rw[hq] at this;cases this
  |some x=>exact ⟨x,rfl⟩
 have hI:=I3;rw[hx] at hI;injection hI with hI;injection hI with hz hI;injection hI with hs4 BJ;have hz:x.zero=some (lN fE):=hz;have hr:∀ ty,_:=fun ty=>Lib.run_append_nil_zeros (P:=Tryz.prog) w 33 3 ty 49 x (lN fE) .i64 .i64 Tryz.underlying33 Tryz.underlying3 hx hz n h0 (by rw[hs4];decide) (by omega) (by rw[BJ];omega)
 have hge:=grownCap_ge w n 0 49;have hcm:grownCap w n 0 49≤maxLen:=grownCap_le_maxLen w n 0 _ (by unfold maxLen;omega);refine ⟨_,_,hr,⟨rfl,.inr ⟨w.heap.size,_,_,rfl,ag _,dg w.drew _,aq _,hcm,?_,by simp⟩⟩,(Below.drew (aj _ _)).alloc (ag _) _,hge,hcm⟩;have z4:(lN fE).cells.size=4:=rfl;simp only[Array.size_append,size_zeroCells,z4,← cq];rw[show n+(grownCap w n 0 49-n)=grownCap w n 0 49 from by omega]
theorem zJr (n:Nat) (hn:n≤1000000) (w:World) :
  Calls Tryz.prog 172 #[.slice none 0 0,.int .i64 (n:Int)] w fun e w'=>∃ v',e=.returned v'∧fC w' w.heap.size v' []∧Below w.heap.size w w':=by
 have hneg:decide ((n:Int)<0)=false:=by simp
 by_cases h0:n=0
 ·
  subst h0
  go_enter Tryz.func172,Tryz.ntmps172
  go_wp2_with fail;go_ret;exact ⟨_,rfl,aT _ _ _ _,aj _ _⟩
 have hp:decide ((0:Int)<(n:Int))=true:=by simp;omega
 obtain ⟨w1,c,hrun,hown,hb,hnc,hcm⟩:=zFx w n (by omega) hn;have h1:=yl (P:=Tryz.prog) yI (a:=some ⟨w.heap.size,0,none⟩) (n:=n) (cap:=c) (fun x hx=>⟨w.heap.size,0,(Option.some.inj hx).symm⟩) 0 (aq _);have h2:∀ W kh,(Instr.slice 33 (.slice none 0 0) none (some (.int kh ((0:Nat):Int))) none).run Tryz.prog W=.ok (.slice none 0 0) W:=yl (P:=Tryz.prog) yI (a:=none) (n:=0) (cap:=0) (fun x hx=>by cases hx) 0 (ag _);rw[show ((0:Nat):Int)=0 from rfl] at h1 h2;have HO:=zh hown;have HB:=zh hb;have j1:IntKind.i64.wrap ((n:Int)-0)=(n:Int):=(aF _ (by omega)).trans (by omega);clear hown hb
 go_enter Tryz.func172,Tryz.ntmps172
 go_wp2_with (at_builtin;refine Lib.wpList_append_run _ rfl (.tmp 20) (.tmp 21) _ _ rfl _ _ rfl rfl _ _ (hrun _) ?_);go_ret;exact ⟨_,rfl,HO.out,HB.out⟩
theorem RT (f:Nat→List It) (n:Nat):(cat f (n+1)).length=(cat f n).length+(f n).length:=by
 show (cat f n++f n).length=_
 rw[aw]
theorem XB (f:Nat→List It):∀ d n,(cat f n).length≤(cat f (n+d)).length
 |0,_=>ag _
 |d+1,n=>by
  have:=XB f d n;rw[show n+(d+1)=(n+d)+1 by omega,RT];omega
theorem zFi (b:Nat) (s:Sl) (L G:Int) (f:Nat→List It) (w:World) (hx:eQ w b s L G) (h:fG w s f) (hs:(cat f 8).length≤1000000) :
  Calls Tryz.prog 133 #[.slice (some ⟨b,0,none⟩) 8 8] w fun e w'=>∃ v',e=.returned v'∧fC w' w.heap.size v' (cat f 8)∧Below w.heap.size w w':=by
 have HX:=zh hx;have HR:=zh h;have HL:=zh (fun i (hi:i<8)=>h.n hi);have HC:=zh (fun n=>RT f n)
 have HM:=zh (fun n (hn:n≤8)=>show (cat f n).length≤1000000 from by
  have:=XB f (8-n) n
  rw[show n+(8-n)=8 by omega] at this
  omega)
 have HG:=zh (fun n hn W=>zJr n hn W);have HE:=zh (fun i=>show cat f (i+1)=cat f i++f i from rfl);clear hx h hs
 go_enter Tryz.func133,Tryz.ntmps133
 go_wp2_with fail
 go_loopw [3,11] (fun lv iv W=>∃ i:Nat,iv=.int .i64 (i:Int)∧i≤8∧lv=.int .i64 ((cat f i).length:Int)∧w=W) (fun _ iv _=>8-(intOf iv).toNat)
 case atStart=>exact ⟨0,rfl,aq _,rfl,rfl⟩
 obtain ⟨i,rfl,hi,rfl,rfl⟩:=hrel
 by_cases hin:i<8
 ·
  have i1:(i:Int)<8:=by omega
  have ci:=HX.out.c i hin;have Aq:s.v i=.slice (s.a i) (s.n i) (s.c i):=rfl;rw[Aq,HL.out i hin] at ci;have hm:=HM.out (i+1) (by omega);have hc:=HC.out i;rw[hc] at hm;have FC:=zh hc;generalize (cat f i).length=p at *;generalize (f i).length=q at *;have hw:IntKind.i64.wrap ((p:Int)+(q:Int))=((p+q:Nat):Int):=(aF _ (by omega)).trans (by omega);have hneg:decide (((p+q:Nat):Int)<0)=false:=by simp;omega
  clear Aq hc;go_wp2_with fail;exact ⟨⟨i+1,by go_num,by omega,by rw[FC.out,di],trivial⟩,by simp[intOf];omega⟩
 obtain rfl:i=8:=by omega
 have XC:=zh (HG.out (cat f 8).length (HM.out 8 (ag _)) w);generalize (cat f 8).length=tot at *;go_wp2_with fail;refine XC.out.mono ?_;rintro e w1 ⟨v1,rfl,hown1,hb1⟩;have jQ:=zh hown1;have eP:=zh hb1;clear hown1 hb1 XC;go_wp2_with fail
 go_loopw [6,27] (fun ov iv W=>∃ i:Nat,iv=.int .i64 (i:Int)∧i≤8∧Hid (W.ownsRow w.heap.size 49 4 ov (cat f i).length (zU (cat f i)))∧Hid (Below w.heap.size w W)) (fun _ iv _=>8-(intOf iv).toNat)
 case atStart=>exact ⟨0,rfl,aq _,jQ,eP⟩
 obtain ⟨i,rfl,hi,HO,HB⟩:=hrel
 by_cases hin:i<8
 ·
  have i1:(i:Int)<8:=by omega
  have ci:=Below.keeps HB.out _ _ (HX.out.c i hin);have jF:=zh ((HR.out i hin).below HB.out);have Aq:s.v i=.slice (s.a i) (s.n i) (s.c i):=rfl;rw[Aq,HL.out i hin] at ci jF;have hm:=HM.out (i+1) (by omega);rw[HC.out i] at hm;have FD:=zh (HE.out i);have hone:=zq (f i);have jH:=zh hone;have hsz:=HB.out.size;have gR:=zh (show Rd wr 4 (.slice (s.a i) (f i).length (s.c i)) (f i).length (zU (f i)) from ui jF.out);clear Aq hone;go_wp2_with (at_builtin;refine zP (n:=(cat f i).length) (m:=(f i).length) rfl (.tmp 31) (.tmp 32) 33 rfl yI w.heap.size rfl HO.out rfl gR.out jH.out (by unfold maxLen;omega) (by omega) hsz ?_;intro v4 w4 fl gZ hv4;clear hv4;have jM:=zh (show fC w4 w.heap.size v4 (cat f (i+1)) from yO fl (by rw[FD.out,zu]));have gD:=zh (zL HB.out HO.out hsz gZ);clear fl gZ);exact ⟨⟨i+1,by go_num,by omega,jM,gD⟩,by simp[intOf];omega⟩
 obtain rfl:i=8:=by omega
 go_wp2_with fail;go_ret;exact ⟨_,rfl,HO.out,HB.out⟩
end Go.Proofs.YtcgfilmmokmdjaaGreat
