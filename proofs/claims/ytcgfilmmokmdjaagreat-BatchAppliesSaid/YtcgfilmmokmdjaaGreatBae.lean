import Derived.Test.YtcgfilmmokmdjaaGreatQAW
import Derived.Lib.SmallJoins
set_option linter.all false
set_option maxRecDepth 100000
set_option maxHeartbeats 32000000
namespace Go.Proofs.YtcgfilmmokmdjaaGreat
open Go.RowKit
def zMi (w:World):Hj (w.alloc (.cells #[.slice none 0 0] 203)) w.heap.size w.heap.size []:=
 ⟨.slice none 0 0,by show (w.heap.push _)[w.heap.size]?=_;exact Array.getElem?_push_size,aP _ _ _ _⟩
def k8 (p c n:Nat) (cI nI:Int) (e1:cI=c) (e2:nI=n) (l0:List UInt8) (w:World) (hw:Hj w p p l0) (hB:p<=w.heap.size) (hn:n<=8) (hc:c<18446744073709551616) (h0:l0.length<=1000000) :
  Calls Tryz.prog 115 #[.pointer (some ⟨p,0,none⟩),.int .u64 cI,.int .i64 nI] w fun e w'=>e=.returned (.tuple #[])/\Hj w' p p (l0++be c n)/\Below p w w':=by
 subst e1 e2;exact zKd p c n p l0 w (ag _) hw hB hn hc h0
def zDT (p c n:Nat) (cI nI:Int) (e1:cI=c) (e2:nI=n) (l0:List UInt8) (w:World) (hw:Hj w p p l0) (hB:p<=w.heap.size) (hn:n<=8) (hc:c<18446744073709551616) (h0:l0.length<=1000000) :
  Calls Tryz.prog 116 #[.pointer (some ⟨p,0,none⟩),.int .u64 cI,.int .i64 nI] w fun e w'=>e=.returned (.tuple #[])/\Hj w' p p (l0++le c n)/\Below p w w':=by
 subst e1 e2;exact zE4 p c n p l0 w (ag _) hw hB hn hc h0
def TV:Value->Nat
 |.slice _ n _=>n
 |_=>0
def TW (v:Nat):be v 1=[UInt8.ofNat v]:=by simp[be]
def zNr:le 0 1=[0]:=by simp[le]
def zGR (m:Nat):wR m++[0]=wR (m+1):=List.replicate_succ'.symm
def zGy (x:Nd) (dv:Value) (w:World) (hok:x.ok) (El:x.Wf) (h:ll w dv x.data) :
  Calls Tryz.prog 74 #[LU x dv] w fun e w'=>∃ v',e=.returned (.tuple #[v',.int .i64 0])/\lR w' w.heap.size v' (kH x)/\Below w.heap.size w w':=by
 obtain ⟨a,cap,rfl,h1,h2⟩:=h.fO;have HV:=zh (fun W=>us x a cap W);rw[show decide x.ok=true from aD hok] at HV;have nA:Hid (kH x=[78,165,if x.del then 1 else 0,0]++be x.ck 4++be x.key 8++be x.data.length 4++x.data++ck ([78,165,if x.del then 1 else 0,0]++be x.ck 4++be x.key 8++be x.data.length 4++x.data)++wR (nh x.data.length-(24+x.data.length))):=zh (rfl);have Q6:=xZ x.data.length;have apb:nh x.data.length<24+x.data.length+8:=by unfold nh;omega
 obtain ⟨k,c,d,l⟩:=x;obtain ⟨hl,iz⟩:=hok;obtain ⟨hk,hc⟩:=El;dsimp only at *;have j1:IntKind.u64.wrap (c:Int)=(c:Int):=IntWalk.u64_in _ (by omega);have j2:IntKind.u64.wrap (l.length:Int)=(l.length:Int):=IntWalk.u64_in _ (by omega);have d1:decide ((4096:Int)<(l.length:Int))=false:=by simp;omega
 have I3:=zh h;have eP:Hid (Below w.heap.size w (w.alloc (.cells #[.int .u64 (k:Int),.int .u32 (c:Int),.bool d,.slice a l.length cap] 56))):=zh ((aj _ _).alloc (ag _) _);clear h;generalize hn:l.length=n at *;have HL:=zh hn;clear hn
 go_enter Tryz.func74,Tryz.ntmps74
 go_wp2_with fail;refine (HV.o _).mono ?_;rintro e w1 ⟨rfl,hb1⟩;have hz1:w.heap.size+1<=w1.heap.size:=ak (by simp) hb1.size
 have HC:=zh (fun w' (h:Below w1.heap.size w1 w')=>show w'.cell? ⟨w.heap.size,0,none⟩=some (.int .u64 (k:Int))/\w'.cell? ⟨w.heap.size,1,none⟩=some (.int .u32 (c:Int))/\w'.cell? ⟨w.heap.size,2,none⟩=some (.bool d)/\w'.cell? ⟨w.heap.size,3,none⟩=some (.slice a n cap) from
  ⟨Below.keeps h _ _ (Below.keeps hb1 _ _ (by simp)),Below.keeps h _ _ (Below.keeps hb1 _ _ (by simp)),Below.keeps h _ _ (Below.keeps hb1 _ _ (by simp)),Below.keeps h _ _ (Below.keeps hb1 _ _ (by simp))⟩)
 have eV:=zh (zA eP.o hb1);clear hb1 HV eP;go_upto_region 6 with fail;change Code.wp _ _ _ _ (.alloc _ (.cells _ 203));have h_:Hid (Below w1.heap.size w1 (w1.alloc (.cells #[.slice none 0 0] 203))):=zh ((aj _ _).alloc (ag _) _);have HW:=zh (zMi w1);generalize w1.alloc (.cells #[.slice none 0 0] 203)=w2 at *;generalize hp1:w1.heap.size=p at *;have hps:p<=w1.heap.size:=by omega
 have hlo:w.heap.size<p:=by omega
 clear hp1;generalize lu:(if d then 1 else 0:Nat)=dn;have YK:dn<256:=by cases d<;>(simp at lu;omega)
 obtain ⟨y0,y1,y2,y3⟩:=HC.o _ h_.o;go_upto_if 21 with fail;clear y0 y1 y2 y3
 go_cut [6] (fun v wx=>v=.int .u64 (dn:Int)/\wx=w2)
 case first =>
  cases d
  ·subst lu;go_wp2_with fail;go_meet
   case rel=>exact ⟨rfl,rfl⟩
  subst lu;go_wp2_with fail;go_meet
  case rel=>exact ⟨rfl,rfl⟩
 obtain ⟨rfl,hwc⟩:=hcut;generalize wc=w5 at *;replace hwc:=hwc.symm;subst hwc;have Bl:=zh (fun (m:List UInt8) (h:m.length<=5000)=>(show m.length<=1000000 by omega));go_wp2_with fail;refine (k8 p 78 1 78 1 rfl rfl [] _ HW.o (ak hps h_.o.size) (by decide) (by omega) (Bl.o _ (by simp[xP,tB];try omega))).mono ?_;rintro e wz ⟨rfl,mY,nE⟩;replace HW:=zh mY;replace h_:=zh (h_.o.trans nE);clear mY nE;go_wp2_with fail;refine (k8 p 165 1 165 1 rfl rfl ([]++be 78 1) _ HW.o (ak hps h_.o.size) (by decide) (by omega) (Bl.o _ (by simp[xP,tB];try omega))).mono ?_;rintro e wz ⟨rfl,mY,nE⟩;replace HW:=zh mY;replace h_:=zh (h_.o.trans nE);clear mY nE;go_wp2_with fail;refine (k8 p dn 1 dn 1 rfl rfl ([]++be 78 1++be 165 1) _ HW.o (ak hps h_.o.size) (by decide) (by omega) (Bl.o _ (by simp[xP,tB];try omega))).mono ?_;rintro e wz ⟨rfl,mY,nE⟩
 replace HW:=zh mY;replace h_:=zh (h_.o.trans nE);clear mY nE;go_wp2_with fail;refine (k8 p 0 1 0 1 rfl rfl ([]++be 78 1++be 165 1++be dn 1) _ HW.o (ak hps h_.o.size) (by decide) (by omega) (Bl.o _ (by simp[xP,tB];try omega))).mono ?_;rintro e wz ⟨rfl,mY,nE⟩;replace HW:=zh mY;replace h_:=zh (h_.o.trans nE);clear mY nE;have hH:[]++be 78 1++be 165 1++be dn 1++be 0 1=[78,165,if d then 1 else 0,0]:=by rw[TW,TW,TW,TW,<- lu];cases d<;>rfl
 rw[hH] at HW;clear hH lu YK;generalize hH4:([78,165,if d then 1 else 0,0]:List UInt8)=H4 at *;have hl4:H4.length=4:=by rw[<- hH4];rfl
 clear hH4;obtain ⟨y0,y1,y2,y3⟩:=HC.o _ h_.o;go_wp2_with fail;refine (k8 p c 4 c 4 rfl rfl H4 _ HW.o (ak hps h_.o.size) (by decide) (by omega) (Bl.o _ (by simp[hl4];try omega))).mono ?_;rintro e wz ⟨rfl,mY,nE⟩;replace HW:=zh mY;replace h_:=zh (h_.o.trans nE);clear mY nE;clear y0 y1 y2 y3;obtain ⟨y0,y1,y2,y3⟩:=HC.o _ h_.o;go_wp2_with fail;refine (k8 p k 8 k 8 rfl rfl (H4++be c 4) _ HW.o (ak hps h_.o.size) (by decide) (by omega) (Bl.o _ (by simp[xP,hl4];try omega))).mono ?_;rintro e wz ⟨rfl,mY,nE⟩;replace HW:=zh mY;replace h_:=zh (h_.o.trans nE);clear mY nE;clear y0 y1 y2 y3;obtain ⟨y0,y1,y2,y3⟩:=HC.o _ h_.o;go_wp2_with fail;refine (k8 p n 4 n 4 rfl rfl (H4++be c 4++be k 8) _ HW.o (ak hps h_.o.size) (by decide) (by omega) (Bl.o _ (by simp[xP,hl4];try omega))).mono ?_;rintro e wz ⟨rfl,mY,nE⟩;replace HW:=zh mY
 replace h_:=zh (h_.o.trans nE);clear mY nE;clear y0 y1 y2 y3;have hl5:(H4++be c 4++be k 8++be n 4).length=20:=by simp[xP,hl4]
 generalize H4++be c 4++be k 8++be n 4=H5 at *;clear hl4;generalize wz=w6 at *;have hr6:Hid (ll w6 (.slice a n cap) l):=zh (I3.o.bb (eV.o.trans (h_.o.mono (by omega))));obtain ⟨v5,Fb,JN⟩:=HW.o.h;obtain ⟨YL,YM,rfl,_⟩:=zG JN;have c5:=cell_of_one Fb;have f5:=free_of_one Fb;have TX:=zh Fb;have jA:Hid (w6.ownsRow p 5 1 (.slice YL H5.length YM) H5.length (H5.map yy)):=zh (JN);have Q5:p<w6.heap.size:=bW _ _ c5;clear Fb JN;rw[hl5] at c5 jA TX;have jN:Hid (Rd w6 1 (.slice a n cap) n (l.map yy)):=zh (by have:=hr6.o;unfold ll il at this;rw[HL.o] at this;exact this);clear hr6;obtain ⟨_,_,_,y3⟩:=HC.o _ h_.o
 have Cw:=zh (fun W (h:(w6.drew).grownBy W (Value.slice YL 20 YM).ownBlock)=>show W.heap[p]?=some (.cells #[.slice YL 20 YM] 203 (0,0)) from by
  rw[h.block p Q5 (fun e=>vJ jA.o TX.o (by decide) e.symm)]
  exact TX.o)
 go_upto_region 17 with fail
 go_cut [4] (fun v wx=>v=.pointer (some ⟨p,0,none⟩)/\Hid (Hj wx p p (H5++l))/\Hid (Below p w1 wx))
 case first =>
  go_region_law ((refine wP (by rfl) (.tmp 50) (.tmp 52) 54 (by rfl) vv p (by rfl) jA.o.drew (by rfl) (Rd.drew jN.o) (xJ _) (by unfold maxLen;omega) (by omega) (by simp;omega) ?_;intro v2 w2 eM fu hv2;clear hv2;obtain ⟨jD,jE,hv2,_,_,_⟩:=zG eM;subst hv2;have hp2:=Cw.o _ fu;have c2:=cell_of_one hp2;have f2:=free_of_one hp2))
  all_goals
   have J6:=one_setCell (u:=.slice jD (20+n) jE) hp2;have lD:=tK eM (p:=⟨p,0,none⟩) (vJ eM hp2 (by decide)) (.slice jD (20+n) jE);have f_:=(zK (zV h_.o) jA.o.drew (by simp;omega) fu).setCell (p:=⟨p,0,none⟩) (ag _) (.slice jD (20+n) jE);clear fu hp2 c2 f2 eM;go_wp2_with fail;go_meet
   case rel=>exact ⟨rfl,zh ⟨⟨_,J6,vz lD (by rw[aU])⟩⟩,zh f_⟩
 obtain ⟨rfl,HW7,AO⟩:=hcut;generalize wc=w7 at *;clear Cw jN jA TX c5 f5 y3 HW h_;replace HW:=HW7;replace h_:=AO;clear HW7 AO;have hl6:(H5++l).length=20+n:=by rw[ax,hl5,HL.o]
 generalize H5++l=H6 at *;have YN:=ak hps h_.o.size;obtain ⟨v7,IZ,YO⟩:=HW.o.h;obtain ⟨oa7,oc7,rfl,_⟩:=zG YO;have c7:=cell_of_one IZ;have BX:=zh (zMc (.slice oa7 H6.length oc7) H6 w7 YO.rd);rw[hl6] at BX c7;have hsl:=iD.F0 H6;have NA:Hid (ck H6=le (iD.sum H6) 4):=zh ((zOF _).symm);generalize iD.sum H6=sm at *;have j9:IntKind.u64.wrap (sm:Int)=(sm:Int):=IntWalk.u64_in _ (by omega);clear IZ YO;go_wp2_with fail;refine BX.o.mono ?_;rintro e wz ⟨rfl,rfl⟩;clear BX;go_wp2_with fail;refine (zDT p sm 4 sm 4 rfl rfl H6 _ HW.o YN (by decide) (by omega) (Bl.o _ (by omega))).mono ?_;rintro e w8 ⟨rfl,mY,nE⟩;rw[<- NA.o] at mY;replace HW:=zh mY;replace h_:=zh (h_.o.trans nE);clear mY nE NA c7 j9 hsl;have hl7:(H6++ck H6).length=24+n:=by rw[ax,hl6,S8];omega
 generalize H6++ck H6=H7 at *;generalize nh n=S at *;obtain ⟨hs1,hs2,hs3⟩:=Q6;go_wp2_with fail
 go_loopw [66] (fun fv W=>∃ m:Nat,24+n<=m/\m<=S/\Hid (Hj W p p (H7++wR (m-(24+n))))/\Hid (Below p w1 W)) (fun _ W=>S-TV ((W.cell? ⟨p,0,none⟩).getD (.int .i64 0)))
 case atStart=>exact ⟨24+n,ag _,by omega,zh (by rw[Nat.sub_self];simpa [wR] using HW.o),h_⟩
 obtain ⟨m,hm1,lU,HWm,Cn⟩:=hrel;clear HW h_;obtain ⟨v9,hv9,sZ⟩:=HWm.o.h;obtain ⟨oa9,oc9,rfl,_⟩:=zG sZ;have c9:=cell_of_one hv9;have hlm:(H7++wR (m-(24+n))).length=m:=by rw[ax,hl7];simp[wR];omega
 have jl:=zh sZ;rw[hlm] at c9;clear hv9 sZ;have YP:=ak hps Cn.o.size;obtain ⟨r,hr1,hr2,hr3⟩:∃ r:Int,(m:Int)%8=r/\(m:Int).tmod 8=r/\(r=0↔m=S):=⟨_,rfl,dV (by omega),by omega⟩
 by_cases hlt:m<S
 ·have q1:(r==0)=false:=beq_eq_false_iff_ne.2 (by omega);have hlz:(H7++wR (m-(24+n))).length<=1000000:=by omega
  have hz9:H7++wR (m-(24+n))++le 0 1=H7++wR (m+1-(24+n)):=by rw[zNr,aY,zGR,show m-(24+n)+1=m+1-(24+n) by omega]
  go_wp2_with fail;refine (zDT p 0 1 0 1 rfl rfl _ _ HWm.o YP (by decide) (by decide) hlz).mono ?_;rintro e w9 ⟨rfl,mY,nE⟩;rw[hz9] at mY;have HWn:=zh mY;have fH:=zh (Cn.o.trans nE);obtain ⟨va,hva,hoa⟩:=mY.h;obtain ⟨oaa,oca,rfl,_⟩:=zG hoa;have ca:=cell_of_one hva;have hla:(H7++wR (m+1-(24+n))).length=m+1:=by rw[ax,hl7];simp[wR];omega
  rw[hla] at ca;clear mY nE hva hoa;go_wp2_with fail;exact ⟨⟨m+1,by omega,by omega,HWn,fH⟩,by rw[ca,c9];simp[TV];omega⟩
 obtain rfl:m=S:=by omega
 have q1:(r==0)=true:=by rw[hr3.2 rfl];rfl
 have YQ:Hid (wr.ownsRow p 5 1 (.slice oa9 m oc9) m ((H7++wR (m-(24+n))).map yy)):=zh (by have:=jl.o;unfold lR at this;rw[hlm] at this;exact this);have HF:=zh (Go.Joins.ownsRow_le YQ.o (show w.heap.size<=p by omega));have HG:=zh (eV.o.trans (Cn.o.mono (by omega)));go_wp2_with fail;go_ret2;exact ⟨_,rfl,vz HF.o (by rw[nA.o]),HG.o⟩
end Go.Proofs.YtcgfilmmokmdjaaGreat
