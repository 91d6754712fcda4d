import Derived.Shelf.SlSortCmp.WholeK
import Derived.Shelf.SlSortCmp.NoneTotal
import Derived.Test.YtcgfilmmokmdjaaGreatQAG
import Derived.Test.YtcgfilmmokmdjaaGreatQAC
set_option linter.all false
set_option maxRecDepth 100000
set_option maxHeartbeats 32000000
namespace Go.Proofs.YtcgfilmmokmdjaaGreat
open Go.RowKit Go.Shelf
theorem zI2 (v:Value) (l:List It) (w:World) (B:Nat) (hB:B≤w.heap.size) (hv:fC w B v l) (hsm:l.length≤1000000) :
  Calls Tryz.prog 129 #[v,.func (.func 130) #[] #[]] w fun e w'=>e=.returned (.tuple #[])∧∃ l',l.Perm l'∧l'.Pairwise (fun a b=>a.off≤b.off)∧ja w' v l'∧Below B w w':=by
 have eg:∀ args w,(callFunc 130 args).run Tryz.prog w=.ok (.enter 130 args) w:=enters_of Tryz.func130 (by kernel_rfl) rfl;rcases hv.2 with ⟨rfl,h0⟩|⟨g,cap,cur,rfl,hb,hg,hn,hc,hs,ht⟩
 ·
  have hl:l=[]:=List.eq_nil_of_length_eq_zero h0;subst hl;refine (AnyF.slices_SortFunc_none Yk none 0 _ w).mono ?_;rintro e w' ⟨rfl,rfl⟩;exact ⟨rfl,[],List.Perm.nil,List.Pairwise.nil,iN.nil 4 iC _,aj _ _⟩
 have SK:g<w.heap.size:=(Array.getElem?_eq_some_iff.1 hg).1;have hcon:=AnyQ.slices_SortFunc Yk 4 Tryz.isAgg49 Tryz.sizeOf49 iC wm (fun x u hu=>by simp[iC] at hu;rcases hu with rfl|rfl|rfl|rfl<;>rfl) (fun x y=>Iz x.off y.off) zMo 130 #[] g 0 cap l.toArray w eg (fun _ _ _ _ x y=>zHH x y _) (Ym hg rfl ht) SK (by rw[cu];omega);change Calls Tryz.prog 129 _ _ _ at hcon;refine hcon.mono ?_;rintro e w' ⟨rfl,d',n,os,hp,hso,rfl⟩;have hz:d'.size=l.length:=by rw[hp.1,cu]
 refine ⟨rfl,d'.toList,zKF hp,zHl (by rw[hz,cu]) hso,?_,zCt hb SK⟩;have:=zG0 (holdsK_sortWorldK_c iC 4 w g 0 l.toArray d' n os (Ym hg rfl ht) SK hp.1) (by rw[hz];exact hn) hc
 rwa [hz] at this
theorem zIh {l:List It} {k:Nat} (h:k<l.length):l.drop k=ea l k::l.drop (k+1):=by
 rw[dO h];unfold ea;rw[ax,aB h]
 rfl
theorem zJp (v:Value) (l:List It) (size:Int) (w:World) (B:Nat) (hB:B≤w.heap.size) (hv:fC w B v l) (hok:∀ x∈l,oB x) (hsm:l.length≤1000000) (hsz:16≤size) :
  Calls Tryz.prog 88 #[v,.int .i64 size] w fun e w'=>e=.returned (.bool (vr l size))∧Below B w w':=by
 have HS:=zh (fun W (h:fC W B v l) (h2:B≤W.heap.size)=>zI2 v l W B h2 h hsm);have HO:=zh hv;have HE:=zh (fun l' (h:l.Perm l') h2=>zJP (size:=size) hok h h2 hsz);have HK:=zh (fun l' (h:l.Perm l')=>show ∀ x∈l',oB x from fun x hx=>hok x (h.mem_iff.2 hx));generalize vr l size=res at *;clear hv hok hsm
 go_enter Tryz.func88,Tryz.ntmps88
 go_wp2_with fail;refine (HS.out _ HO.out hB).mono ?_;rintro e w1 ⟨rfl,l',hp,hs,gW,hb⟩;have HB:=zh hb;have MC:=zh (HE.out l' hp hs);have Yn:=HK.out l' hp;have FL:=ak hB hb.size;clear HS HO HE HK hb hp hs;obtain ⟨a,cap,rfl,h1,h2⟩:=gW.shape;have hm:=C1 h1 h2;have Hr:=zh gW;generalize hn:l'.length=n at *;have Hn:=zh hn;have HKo:=zh Yn;clear gW h1 h2 hn Yn;go_wp2_with fail
 go_loopw [5,12] (fun e i wr=>∃ (k:Nat) (s:Int),k≤n∧e=.int .i64 s∧i=.int .i64 (k:Int)∧0≤s∧s≤1048576+5000∧chain 16 l'=chain s (l'.drop k)∧Below B w wr∧w1.heap.size≤wr.heap.size∧Below w1.heap.size w1 wr) (fun _ i _=>n-(intOf i).toNat)
 case atStart=>exact ⟨0,16,aq _,rfl,rfl,by omega,by omega,rfl,HB.out,ag _,aj _ _⟩
 obtain ⟨k,s,hk,rfl,rfl,hs0,hs1,hch,hb,rQ,hb1⟩:=hrel;have Hc:=zh hch;have Hb:=zh hb;have mQ:=zh hb1;clear hch hb hb1
 by_cases hlt:k<n
 ·
  obtain ⟨b,off,rfl,c0,c1,c2,c3⟩:=(Hr.out.below mQ.out).at hlt;have hx:=HKo.out (ea l' k) (by rw[← Hn.out] at hlt;exact t8 hlt);have hsl:eN (ea l' k).size.toNat≤4127:=xj _
  have HD:=zh (show chain s (l'.drop k)=if (ea l' k).off<s then none else chain ((ea l' k).off+(eN (ea l' k).size.toNat:Int)) (l'.drop (k+1)) by
   rw[zIh (by rw[Hn.out];exact hlt)];rfl)
  have HZ:=zh (fun W=>LS (ea l' k).size.toNat W);have hz0:((ea l' k).size.toNat:Int)=(ea l' k).size:=Int.toNat_of_nonneg hx.2.2.2.1;have HX:=zh (h_.new wr (ea l' k));have eB:=zh (yB wr (ea l' k));generalize eN (ea l' k).size.toNat=z at *;rw[hz0] at HZ;clear hz0;have hx1:=hx.1;have hx2:=hx.2.1;clear hx;generalize ea l' k=x at *;go_upto_region 6 with fail;change Code.wp _ _ _ _ (wr.alloc (xN x));obtain ⟨W,hW⟩:∃ W,wr.alloc (xN x)=W:=⟨_,rfl⟩
  rw[hW] at HX eB ⊢;have nW:=HX.out.lt;have lH:=zh (jo Hb.out (ak FL rQ) eB.out);have SL:=zh (jo mQ.out rQ eB.out);have C_:=ak rQ eB.out.size;have HZ':=zh (fun W=>(HZ.out W).mono (R':=fun e w'=>e=.returned (.int .i64 (z:Int))∧Below W.heap.size W w') fun _ _ ⟨he,hw⟩=>⟨he,hw▸aj _ _⟩);clear HZ;have d2:=HX.out.t.c2;have d3:=HX.out.t.c3;clear c0 c1 c2 c3 hW
  by_cases hlo:x.off<s
  ·
   go_wp2_with fail;go_ret;have hf:res=false:=by
    rw[← MC.out];unfold PH;rw[Hc.out,HD.out,ah hlo]
   exact ⟨zI hf.symm,lH.out⟩
  have hge:s≤x.off:=by omega
  go_wp2_with fail;have e2:=zB d2;have e3:=zB d3;refine zC (by kernel_rfl) (by kernel_rfl) ?_
  repeat (go_big_quiet_step ((exact zE (HZ'.out _))))
  refine aA ?_;intro _ hw';obtain ⟨q,hw'⟩:=hw';subst hw';have HbQ:=zh (jo lH.out (ak FL C_) q.h);have SQ:=zh (jo SL.out C_ q.h);have SR:=ak C_ q.h.size;generalize q.w'=W2 at *;clear e2 e3 d2 d3;go_wp2_with fail;exact ⟨⟨k+1,x.off+(z:Int),by omega,by go_num,by go_num,by omega,by omega,by rw[Hc.out,HD.out,ai (by omega)],HbQ.out,SR,SQ.out⟩,by simp[intOf];omega⟩
 obtain rfl:k=n:=by omega
 have hd:l'.drop k=[]:=bY (by rw[Hn.out];exact ag _);have hf:res=decide (s≤size):=by
  rw[← MC.out];unfold PH;rw[Hc.out,hd];rfl
 have HF:=zh hf;clear hf;go_wp2_with fail;go_ret;exact ⟨zI HF.out.symm,Hb.out⟩
end Go.Proofs.YtcgfilmmokmdjaaGreat
