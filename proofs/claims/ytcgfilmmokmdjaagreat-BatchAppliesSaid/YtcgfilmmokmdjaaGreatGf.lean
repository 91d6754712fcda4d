import Derived.Shelf.SlSortCmp.WholeK
import Derived.Shelf.SlSortCmp.NoneTotal
import Derived.Test.YtcgfilmmokmdjaaGreatQAH
set_option linter.all false
set_option maxRecDepth 100000
set_option maxHeartbeats 32000000
namespace Go.Proofs.YtcgfilmmokmdjaaGreat
open Go.Proofs.Tryz
open Go.RowKit Go.Shelf
def zKX (v:Value) (l:List It) (w:World) (B:Nat) (hB:B<=w.heap.size) (hv:fR w B v l) (hsm:l.length<=1000000) :
  Calls prog 129 #[v,.func (.func 130) #[] #[]] w fun e w'=>e=.returned (.tuple #[])/\∃ l',l.Perm l'/\l'.Pairwise (fun a b=>a.off<=b.off)/\lg w' v l'/\Below B w w':=by
 have eg:∀ args w,(callFunc 130 args).run prog w=.ok (.enter 130 args) w:=enters_of func130 (by kernel_rfl) rfl;rcases hv.2 with ⟨rfl,h0⟩|⟨g,cap,cur,rfl,hb,hg,hn,hc,hs,ht⟩
 ·have hl:l=[]:=List.eq_nil_of_length_eq_zero h0;subst hl;refine (AnyF.slices_SortFunc_none zMv none 0 _ w).mono ?_;rintro e w' ⟨rfl,rfl⟩;exact ⟨rfl,[],List.Perm.nil,List.Pairwise.nil,jy.nil 4 jk _,aj _ _⟩
 have VI:g<w.heap.size:=(Array.getElem?_eq_some_iff.1 hg).1;have hcon:=AnyQ.slices_SortFunc zMv 4 isAgg49 sizeOf49 jk vH (fun x u hu=>by simp[jk] at hu;rcases hu with rfl|rfl|rfl|rfl<;>rfl) (fun x y=>KA x.off y.off) zOM 130 #[] g 0 cap l.toArray w eg (fun _ _ _ _ x y=>zIk x y _) (zCG hg rfl ht) VI (by rw[cD];omega);change Calls prog 129 _ _ _ at hcon;refine hcon.mono ?_;rintro e w' ⟨rfl,d',n,os,hp,hso,rfl⟩;have hz:d'.size=l.length:=by rw[hp.1,cD]
 refine ⟨rfl,d'.toList,zLn hp,zJG (by rw[hz,cD]) hso,?_,zD7 hb VI⟩;have:=zIQ (holdsK_sortWorldK_c jk 4 w g 0 l.toArray d' n os (zCG hg rfl ht) VI hp.1) (by rw[hz];exact hn) hc
 rwa [hz] at this
def zKA {l:List It} {k:Nat} (h:k<l.length):l.drop k=eA l k::l.drop (k+1):=by
 rw[dH h];unfold eA;rw[aw,aA h]
 rfl
def zLP (v:Value) (l:List It) (size:Int) (w:World) (B:Nat) (hB:B<=w.heap.size) (hv:fR w B v l) (hok:∀ x∈l,pV x) (hsm:l.length<=1000000) (hsz:16<=size) :
  Calls prog 88 #[v,.int .i64 size] w fun e w'=>e=.returned (.bool (uO l size))/\Below B w w':=by
 have HS:=zh (fun W (h:fR W B v l) (h2:B<=W.heap.size)=>zKX v l W B h2 h hsm);have HO:=zh hv;have HE:=zh (fun l' (h:l.Perm l') h2=>zKx (size:=size) hok h h2 hsz);have HK:=zh (fun l' (h:l.Perm l')=>show ∀ x∈l',pV x from fun x hx=>hok x (h.mem_iff.2 hx));generalize uO l size=res at *;clear hv hok hsm
 go_enter func88,ntmps88
 go_wp2_with fail;refine (HS.o _ HO.o hB).mono ?_;rintro e w1 ⟨rfl,l',hp,hs,iH,hb⟩;have HB:=zh hb;have O9:=zh (HE.o l' hp hs);have HK':=HK.o l' hp;have IG:=ak hB hb.size;clear HS HO HE HK hb hp hs;obtain ⟨a,cap,rfl,h1,h2⟩:=iH.shape;have hm:=C7 h1 h2;have Hr:=zh iH;generalize hn:l'.length=n at *;have Hn:=zh hn;have HKo:=zh HK';clear iH h1 h2 hn HK';go_wp2_with fail
 go_loopw [5,12] (fun e i wr=>∃ (k:Nat) (s:Int),k<=n/\e=.int .i64 s/\i=.int .i64 (k:Int)/\0<=s/\s<=1048576+5000/\chain 16 l'=chain s (l'.drop k)/\Below B w wr/\w1.heap.size<=wr.heap.size/\Below w1.heap.size w1 wr) (fun _ i _=>n-(intOf i).toNat)
 case atStart=>exact ⟨0,16,aq _,rfl,rfl,by omega,by omega,rfl,HB.o,ag _,aj _ _⟩
 obtain ⟨k,s,hk,rfl,rfl,hs0,hs1,hch,hb,Aj,hb1⟩:=hrel;have Hc:=zh hch;have Hb:=zh hb;have nS:=zh hb1;clear hch hb hb1
 by_cases hlt:k<n
 ·obtain ⟨b,off,rfl,c0,c1,c2,c3⟩:=(Hr.o.bb nS.o).at hlt;have hx:=HKo.o (eA l' k) (by rw[<- Hn.o] at hlt;exact qk hlt);have hsl:eY (eA l' k).size.toNat<=4127:=wI _
  have HD:=zh (show chain s (l'.drop k)=if (eA l' k).off<s then none else chain ((eA l' k).off+(eY (eA l' k).size.toNat:Int)) (l'.drop (k+1)) by
   rw[zKA (by rw[Hn.o];exact hlt)];rfl)
  have HZ:=zh (fun W=>Ox (eA l' k).size.toNat W);have hz0:((eA l' k).size.toNat:Int)=(eA l' k).size:=Int.toNat_of_nonneg hx.2.2.2.1;have HX:=zh (iL.new wr (eA l' k));have eO:=zh (yH wr (eA l' k));generalize eY (eA l' k).size.toNat=z at *;rw[hz0] at HZ;clear hz0;have hx1:=hx.1;have hx2:=hx.2.1;clear hx;generalize eA l' k=x at *;go_upto_region 6 with fail;change Code.wp _ _ _ _ (wr.alloc (xX x));obtain ⟨W,hW⟩:∃ W,wr.alloc (xX x)=W:=⟨_,rfl⟩
  rw[hW] at HX eO |-;have pH:=HX.o.lt;have mA:=zh (k_ Hb.o (ak IG Aj) eO.o);have VJ:=zh (k_ nS.o Aj eO.o);have EA:=ak Aj eO.o.size;have HZ':=zh (fun W=>(HZ.o W).mono (R':=fun e w'=>e=.returned (.int .i64 (z:Int))/\Below W.heap.size W w') fun _ _ ⟨he,hw⟩=>⟨he,hw▸aj _ _⟩);clear HZ;have d2:=HX.o.t.c2;have d3:=HX.o.t.c3;clear c0 c1 c2 c3 hW
  by_cases hlo:x.off<s
  ·go_wp2_with fail;go_ret;have hf:res=false:=by
    rw[<- O9.o];unfold SC;rw[Hc.o,HD.o,ah hlo]
   exact ⟨zJ hf.symm,mA.o⟩
  have hge:s<=x.off:=by omega
  go_wp2_with fail;have e2:=zB d2;have e3:=zB d3;refine zD (by kernel_rfl) (by kernel_rfl) ?_
  repeat (go_big_quiet_step ((exact zH (HZ'.o _))))
  refine ay ?_;intro _ hw';obtain ⟨q,hw'⟩:=hw';subst hw';have HbQ:=zh (k_ mA.o (ak IG EA) q.h);have VK:=zh (k_ VJ.o EA q.h);have VL:=ak EA q.h.size;generalize q.w'=W2 at *;clear e2 e3 d2 d3;go_wp2_with fail;exact ⟨⟨k+1,x.off+(z:Int),by omega,by go_num,by go_num,by omega,by omega,by rw[Hc.o,HD.o,ai (by omega)],HbQ.o,VL,VK.o⟩,by simp[intOf];omega⟩
 obtain rfl:k=n:=by omega
 have hd:l'.drop k=[]:=cu (by rw[Hn.o];exact ag _);have hf:res=decide (s<=size):=by
  rw[<- O9.o];unfold SC;rw[Hc.o,hd];rfl
 have HF:=zh hf;clear hf;go_wp2_with fail;go_ret;exact ⟨zJ HF.o.symm,Hb.o⟩
end Go.Proofs.YtcgfilmmokmdjaaGreat
