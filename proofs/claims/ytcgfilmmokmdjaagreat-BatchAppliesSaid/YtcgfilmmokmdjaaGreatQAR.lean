import Derived.Test.YtcgfilmmokmdjaaGreatBe
import Derived.Test.YtcgfilmmokmdjaaGreatProg
set_option linter.all false
set_option maxRecDepth 100000
set_option maxHeartbeats 32000000
namespace Go.Proofs.YtcgfilmmokmdjaaGreat
open Go.Proofs.Tryz
variable {l:List Kl} {i:Nat}
def zMg (h:i<l.length):l[i]?=some (yY l i):=by
 unfold yY;rw[aw,aA h];rfl
def uK (h:i<l.length):yY l i∈l:=by
 unfold yY;rw[aw,aA h];exact bM h
def wM (h:i<l.length):l[i]=yY l i:=by
 unfold yY;rw[aw,aA h];rfl
def zEM (ha:l.Pairwise fun a b=>a.1<b.1) {i j:Nat} (hij:i<j) (hj:j<l.length):(yY l i).1<(yY l j).1:=by
 have:=List.pairwise_iff_getElem.1 ha i j (by omega) hj hij;rw[wM,wM] at this;exact this
def zEJ (l:List Kl) (num:Int):ia l num<=l.length:=by
 unfold ia
 cases h:l.findIdx? fun k=>decide (num<=k.1) with
 |none=>exact ag _
 |some i=>have:=(List.findIdx?_eq_some_iff_getElem.1 h).1;exact bT this
def zLi (l:List Kl) (num:Int) {j:Nat} (h:j<ia l num):(yY l j).1<num:=by
 unfold ia at h
 cases e:l.findIdx? fun k=>decide (num<=k.1) with
 |none =>
  rw[e] at h;have h:j<l.length:=h;have:=List.findIdx?_eq_none_iff.1 e _ (uK h)
  simpa using this
 |some i =>
  rw[e] at h;have h:j<i:=h;obtain ⟨h1,h2,h3⟩:=List.findIdx?_eq_some_iff_getElem.1 e;have:=h3 j h;rw[wM (show j<l.length by omega)] at this
  simpa using this
def zJl (l:List Kl) (num:Int) (h:ia l num<l.length):num<=(yY l (ia l num)).1:=by
 have h0:=h;unfold ia at h0
 cases e:l.findIdx? fun k=>decide (num<=k.1) with
 |none=>rw[e] at h0;exact absurd h0 (Nat.lt_irrefl _)
 |some i =>
  obtain ⟨h1,h2,_⟩:=List.findIdx?_eq_some_iff_getElem.1 e;have e2:ia l num=i:=by unfold ia;rw[e];rfl
  rw[e2,<- wM h1]
  simpa using h2
structure pR (M:Nat) (l:List Kl):Prop where
 KU:l.Pairwise fun a b=>a.1<b.1
 num:∀ x∈l,1<=x.1/\x.1<=8
 len:∀ x∈l,x.2.length<=M
variable {M:Nat}
def pR.mono {M':Nat} (h:pR M l) (hm:M<=M'):pR M' l:=⟨h.KU,h.num,fun x hx=>ak (h.len x hx) hm⟩
def pR.le8 (h:pR M l):l.length<=8:=by
 have key:∀ j,j<l.length->(j:Int)+1<=(yY l j).1:=by
  intro j
  induction j with
  |zero=>intro hj;have:=(h.num _ (uK hj)).1;omega
  |succ j ih =>
   intro hj;have h1:=ih (by omega);have h2:=zEM h.KU (show j<j+1 by omega) hj;omega
 by_cases e:0<l.length
 ·have h1:=key (l.length-1) (by omega);have h2:=(h.num _ (uK (show l.length-1<l.length by omega))).2;omega
 omega
def pR.nil (M:Nat):pR M []:=⟨List.Pairwise.nil,(fun x hx=>by cases hx),(fun x hx=>by cases hx)⟩
variable {num key:Int}
def zE6 (h:ia l num<l.length/\(yY l (ia l num)).1=num):Ed l num key=l.set (ia l num) (num,(yY l (ia l num)).2++[key]):=by unfold Ed;rw[ah h]
def zAw (h:¬ (ia l num<l.length/\(yY l (ia l num)).1=num)):Ed l num key=l.take (ia l num)++(num,[key])::l.drop (ia l num):=by unfold Ed;rw[ai h]
def pR.ins (h:pR M l) {num:Int} (hn:1<=num/\num<=8) (key:Int):pR (M+1) (Ed l num key):=by
 by_cases hh:ia l num<l.length/\(yY l (ia l num)).1=num
 ·rw[zE6 hh];refine ⟨?_,fun x hx=>?_,fun x hx=>?_⟩
  ·rw[List.pairwise_iff_getElem];intro i j hi hj hij;rw[a_] at hi hj;have:=List.pairwise_iff_getElem.1 h.KU i j hi hj hij;rw[List.getElem_set,List.getElem_set];have e:l[ia l num]=yY l (ia l num):=wM hh.1
   split
   ·rename_i e1
    split
    ·omega
    subst e1
    show num<l[j].1
    rw[e,hh.2] at this;exact this
   split
   ·rename_i e1 e2;subst e2
    show l[i].1<num
    rw[e,hh.2] at this;exact this
   exact this
  ·rcases List.mem_or_eq_of_mem_set hx with hx|rfl
   ·exact h.num x hx
   exact hn
  rcases List.mem_or_eq_of_mem_set hx with hx|rfl
  ·exact Nat.le_succ_of_le (h.len x hx)
  have:=h.len _ (uK hh.1)
  show ((yY l (ia l num)).2++[key]).length<=_
  rw[ax];exact Nat.succ_le_succ this
 rw[zAw hh];have hle:=zEJ l num;have hlo:=fun j (hj:j<ia l num)=>zLi l num hj
 have hup:∀ x∈l.drop (ia l num),num<x.1:=fun x hx=>by
  obtain ⟨j,hj,rfl⟩:=cO hx;rw[aT] at hj;rw[List.getElem_drop,wM (show ia l num+j<l.length by omega)];have h1:=zJl l num (by omega);have h2:(yY l (ia l num)).1≠num:=fun e=>hh ⟨by omega,e⟩
  by_cases e:j=0
  ·subst e;rw[bE];omega
  have:=zEM h.KU (show ia l num<ia l num+j by omega) (by omega);omega
 have lu:∀ x∈l.take (ia l num),x.1<num:=fun x hx=>by
  obtain ⟨j,hj,rfl⟩:=cO hx;rw[aB] at hj;rw[List.getElem_take,wM (show j<l.length by omega)];exact hlo j (by omega)
 refine ⟨?_,fun x hx=>?_,fun x hx=>?_⟩
 ·rw[List.pairwise_append,dM];refine ⟨h.KU.sublist (List.take_sublist _ _),⟨fun y hy=>hup y hy,h.KU.sublist (List.drop_sublist _ _)⟩,fun x hx y hy=>?_⟩;have h1:=lu x hx;rcases List.mem_cons.1 hy with rfl|hy
  ·exact h1
  have:=hup y hy;omega
 ·rcases List.mem_append.1 hx with hx|hx
  ·exact h.num x (cE hx)
  rcases List.mem_cons.1 hx with rfl|hx
  ·exact hn
  exact h.num x (dA hx)
 rcases List.mem_append.1 hx with hx|hx
 ·exact Nat.le_succ_of_le (h.len x (cE hx))
 rcases List.mem_cons.1 hx with rfl|hx
 ·show [key].length<=_;simp
 exact Nat.le_succ_of_le (h.len x (dA hx))
def xx (l:List KP):(gV l).length=l.length:=aH ..
def Qj {l:List KP} (i:Nat):yY (gV l) i=((iG l i).1,(iG l i).2.2):=by
 unfold yY gV iG;rw[aw,aw,b_]
 cases l[i]?<;>rfl
def uf {l:List KP} (h:i<l.length):iG l i∈l:=by
 unfold iG;rw[aw,aA h];exact bM h
variable {s:fk}
def tW {n:Int} (h:n∈zd s key):1<=n/\n<=8:=by
 unfold zd at h
 split at h
 ·rename_i hv;have hV:=(zX s).1 hv;obtain ⟨i,hi,e⟩:=cO h;obtain ⟨r,h1,h2,_,_⟩:=W8 s.ep key _ i hi;rw[aA hi,e] at h2;injection h2 with h2;have:=(hV.vg (show r<s.ep.length by omega)).num;rw[h2];exact this
 cases h
def kU (s:fk) (key:Int):(zd s key).length<=8:=by
 unfold zd
 split
 ·rename_i hv;have hV:=(zX s).1 hv;have h1:=Xo s.ep key (s.ep.length-1);have h2:=hV.len;omega
 exact aq _
variable {K:Nat}
def fF.set {l:List Gn} (h:fF K l) {g:Gn} (hg:∀ i,i<8->(g.m.st i).length<=K):fF K (t7 l g):=fun x hx i hi=>by
 rcases WO hx with hx|rfl
 ·exact h x hx i hi
 exact hg i hi
def Xz {g:Gn} (h:fF K s.ep) (hg:∀ i,i<8->(g.m.st i).length<=K):fF K (yS s g).1.ep:=by
 by_cases hc:(yS s g).2=0
 ·rw[S3 hc];exact h.set hg
 have e:(yS s g).1=yq:=by
  unfold yS at hc |-
  split
  ·rename_i h1;rw[ah h1] at hc
   split
   ·rename_i h2;rw[ah h2] at hc
    split
    ·rename_i h3;rw[ah h3] at hc;exact absurd rfl hc
    rfl
   rfl
  rfl
 rw[e];exact fun x hx=>by cases hx
def kq {keys:List Int} (h:fF K s.ep):fF K (yK s num keys).1.ep:=by
 unfold yK
 split
 ·rename_i h1
  split
  ·refine Xz h fun i hi=>?_
   have hk:=h _ (qV h1);have h0:((gX).m.st i).length<=K:=aq _;unfold yh
   split
   ·split
    ·exact h0
    exact wm keys _ hk i hi
   exact h0
  exact fun x hx=>by cases hx
 exact fun x hx=>by cases hx
open Go.RowKit
def zKt (y:GP) (bg:Nat) (num:Int) (kv:Value) (w:World) (hg:eu w bg #[.int .i64 num,kv] 89) :
  Calls prog 112 #[ze y.1.num y.1.rev y.1.mode y.1.size y.2 y.1.m.live y.1.m.ew,.pointer (some ⟨bg,0,none⟩)] w fun e w'=>e=.returned (.bool (y.1.num==num))/\Below w.heap.size w w':=by
 obtain ⟨⟨yn,yr,ym,yz,⟨yf,yL,yG⟩⟩,ys⟩:=y;dsimp only;have fq:=zT w yn yr ym yz ys yL yG 38;have HY:=zh (eU.new w yn yr ym yz ys yL yG 38);have HG:=zh (hg.bb fq);have HB:=zh fq;clear hg fq
 go_enter func112,ntmps112
 go_upto_region 1 with fail;change Code.wp _ _ _ _ (w.alloc (.cells (zU yn yr ym yz ys yL yG) 38));generalize w.alloc (.cells (zU yn yr ym yz ys yL yG) 38)=w1 at *;have q0:=HY.o.n0;have q1:=HG.o.cell (i:=0) rfl;go_wp2_with fail;go_ret;exact ⟨rfl,HB.o⟩
def zGD (a:Option Addr) (n c:Nat) (L:List GP) (bg:Nat) (num:Int) (kv:Value) (w:World) (h:fB w (.slice a n c) L) (hn:n<=1000000) (hg:eu w bg #[.int .i64 num,kv] 89) :
  Calls prog 57 #[.slice a n c,.func (.func 112) #[] #[.pointer (some ⟨bg,0,none⟩)]] w fun e w'=>(∃ z,e=.returned (.int .i64 z)/\NR L num z)/\Below w.heap.size w w':=by
 have fT:L.length=n:=by
  obtain ⟨_,_,e,_⟩:=h.shape;injection e with _ e _;exact e.symm
 have Hr:=zh h;have Hg:=zh hg;have jJ:=zh fT;clear h hg fT
 go_enter func57,ntmps57
 go_wp2_with fail
 go_loopw [8] (fun i wr=>∃ k:Nat,k<=n/\i=.int .i64 (k:Int)/\Hid (∀ j,j<k->(pat L j).1.num≠num)/\Hid (Below w.heap.size w wr)) (fun i _=>n-(intOf i).toNat)
 case atStart=>exact ⟨0,aq _,rfl,zh (fun j hj=>absurd hj (by omega)),zh (aj _ _)⟩
 obtain ⟨k,hk,rfl,nr,Hb⟩:=hrel
 by_cases hlt:k<n
 ·have hr:=Hr.o.bb Hb.o;obtain ⟨b,off,rfl,hat⟩:=hr.at hlt;have HV:=zh (fun W (hb:Below wr.heap.size wr W)=>zKt (pat L k) bg num kv W ((Hg.o.bb Hb.o).bb hb))
  have Cr:=zh (show (pat L k).1.num≠num->∀ j,j<k+1->(pat L j).1.num≠num from fun ho j hj=>by
   by_cases e:j=k
   ·subst e;exact ho
   exact nr.o j (by omega))
  have JL:Hid ((pat L k).1.num=num->NR L num (k:Int)):=zh (fun e=>.inl ⟨k,by rw[jJ.o];exact hlt,rfl,e,nr.o⟩);clear hr;generalize pat L k=p at *;obtain ⟨⟨xn,xr,xm,xz,⟨xf,xL,xG⟩⟩,xs⟩:=p;obtain ⟨g0,g1,g2,g3,g4,g5,g6,g7,g8,g9,g10,g11,g12,g13⟩:=hat;dsimp only at g0 g1 g2 g3 g4 g5 g6 g7 g8 g9 g10 g11 g12 g13 HV Cr JL;have i1:(k:Int)<(n:Int):=by omega
  go_wp2_with fail;refine (HV.o _ (aj _ _)).mono ?_;rintro e w1 ⟨rfl,hb1⟩;have nS:=zh (zA Hb.o hb1)
  by_cases hx:xn=num
  ·have HF:=zh (JL.o hx);have hx1:(xn==num)=true:=by simp[hx]
   clear hb1 hx Cr JL HV;go_wp2_with fail;go_ret;exact ⟨⟨_,rfl,HF.o⟩,nS.o⟩
  have HF:=zh (Cr.o hx);have hx1:(xn==num)=false:=by simp[hx]
  clear hb1 hx Cr JL HV;go_wp2_with fail;exact ⟨⟨k+1,by omega,by go_num,HF,nS⟩,by simp[intOf];omega⟩
 obtain rfl:k=n:=by omega
 have i1:¬ (k:Int)<(k:Int):=by omega
 have HF:Hid (NR L num (-1)):=zh (.inr ⟨rfl,by rw[jJ.o];exact nr.o⟩);go_wp2_with fail;go_ret;exact ⟨⟨_,rfl,HF.o⟩,Hb.o⟩
def ku {l:List Gn} {k:Nat} (hk:k<l.length) (h1:(fh l k).num=num) (h2:∀ j,j<k->(fh l j).num≠num):uz l num=k:=by
 have e:∀ j (hj:j<l.length),l[j]=fh l j:=fun j hj=>by unfold fh;rw[aw,aA hj];rfl
 unfold uz;rw[(List.findIdx?_eq_some_iff_getElem (p:=fun g:Gn=>decide (g.num=num)) (i:=k)).2 ⟨hk,by rw[e k hk];simpa using h1,fun j hj=>by rw[e j (by omega)];simpa using h2 j hj⟩]
 rfl
def zDg {l:List Gn} (h:∀ j,j<l.length->(fh l j).num≠num):uz l num=l.length:=by
 unfold uz
 rw[List.findIdx?_eq_none_iff.2 fun x hx=>by
  obtain ⟨j,hj,rfl⟩:=cO hx
  have:=h j hj
  unfold fh at this
  rw[aw,aA hj] at this
  simpa using this]
 rfl
def zFU (l:List Int):∀ (M:Mp) {K:Nat},(∀ i,i<8->(M.st i).length<=K)->∀ i,i<8->((l.foldl yX M).st i).length<=K:=fun M _ h=>wm l M h
def ke (g:Gn) (l:List Int) {K:Nat} (h:∀ i,i<8->(g.m.st i).length<=K):∀ i,i<8->((yh g l).2.m.st i).length<=K:=fun i hi=>by
 have h0:((gX).m.st i).length<=K:=aq _;unfold yh
 split
 ·split
  ·exact h0
  exact zFU l g.m h i hi
 exact h0
def Tp (er a b md z:Int) (f:Nat->List It) (L G:Int):lZ:=⟨fun v w=>∃ s,v=.tuple #[ze a b md z s L G,.int .i64 er]/\fN w s f,fun _ _ _ hb ⟨s,h1,h2⟩=>⟨s,h1,h2.bb hb⟩⟩
def zMr (a b md z:Int) (f:Nat->List It) (L G:Int):lZ:=⟨fun v w=>∃ s,v=ze a b md z s L G/\fN w s f,fun _ _ _ hb ⟨s,h1,h2⟩=>⟨s,h1,h2.bb hb⟩⟩
def Tq (n' r' md' z':Int) (s':Sl) (l' g':Int):(zS n' r' md' z' s' l' g').foldl (fun cs p=>cs.setIfInBounds p.1 p.2) (zU 0 0 0 0 Sl.nil 0 0)=zU n' r' md' z' s' l' g':=by
 simp only[cZ,dD,aJ,aK,aI]
def zDV (s:fk) (a:Option Addr) (n c:Nat) (L:List GP) (w:World) (h:fB w (.slice a n c) L) (hg:ey L=s.ep) (hl:fF 1000 s.ep) (hn:n<=1000000) (num:Int) (kv:Value) (keys:List Int) (hk:mM w kv keys) (hkl:keys.length<=1000) :
  Calls prog 71 #[zQ s.id s.lim s.ro a n c,.agg #[.int .i64 num,kv]] w (FB w (yK s num keys)):=by
 have fT:L.length=n:=by
  obtain ⟨_,_,e,_⟩:=h.shape;injection e with _ e _;exact e.symm
 have Hkl:=zh hkl;have P6:=zh (fun W bg (hb:Below w.heap.size w W) (hq:eu W bg #[.int .i64 num,kv] 89)=>zGD a n c L bg num kv W (h.bb hb) hn hq);have HE:Hid (yK s num keys=if uz s.ep num<s.ep.length then (if (yh (fh s.ep (uz s.ep num)) keys).1=0 then yS s (yh (fh s.ep (uz s.ep num)) keys).2 else (yq,(yh (fh s.ep (uz s.ep num)) keys).1)) else (yq,6)):=zh (rfl);have XA:s.ep.length=n:=by rw[<- hg,zk];exact fT
 have XB:∀ q,fh s.ep q=(pat L q).1:=fun q=>by rw[<- hg];exact yj
 obtain ⟨ka,kc,rfl,_,_⟩:=hk.fO;have HKu:=zh hk;clear hkl hk;generalize Qk:keys.length=kn at *;have XC:=zh Qk;clear Qk;obtain ⟨W,hW⟩:∃ W,((w.alloc (.cells (zM s.id s.lim s.ro a n c) 27)).alloc (.cells #[.int .i64 num,.slice ka kn kc] 89)).alloc (.cells (zM 0 0 false none 0 0) 27)=W:=⟨_,rfl⟩
 have hb1:=zR w s.id s.lim s.ro a n c 27;have hb2:=(aj (w.alloc (.cells (zM s.id s.lim s.ro a n c) 27)).heap.size (w.alloc (.cells (zM s.id s.lim s.ro a n c) 27))).alloc (ag _) (.cells #[.int .i64 num,.slice ka kn kc] 89);have hb3:=zR ((w.alloc (.cells (zM s.id s.lim s.ro a n c) 27)).alloc (.cells #[.int .i64 num,.slice ka kn kc] 89)) 0 0 false none 0 0 27;have HX:Hid (eu W w.heap.size (zM s.id s.lim s.ro a n c) 27):=zh (hW▸((eu.new w (zM s.id s.lim s.ro a n c) 27).bb hb2).bb hb3)
 have HK:=zh (show eu W (w.heap.size+1) #[.int .i64 num,.slice ka kn kc] 89 from hW▸(show eu _ (w.heap.size+1) #[.int .i64 num,.slice ka kn kc] 89 from by
  have h:=eu.new (w.alloc (.cells (zM s.id s.lim s.ro a n c) 27)) #[.int .i64 num,.slice ka kn kc] 89
  rwa [show (w.alloc (.cells (zM s.id s.lim s.ro a n c) 27)).heap.size=w.heap.size+1 by simp] at h).bb hb3)
 have HR:=zh (show fp W (w.heap.size+1+1) 0 0 false none 0 0 from hW▸(by
  have h:=fp.new ((w.alloc (.cells (zM s.id s.lim s.ro a n c) 27)).alloc (.cells #[.int .i64 num,.slice ka kn kc] 89)) 0 0 false none 0 0 27
  rwa [show ((w.alloc (.cells (zM s.id s.lim s.ro a n c) 27)).alloc (.cells #[.int .i64 num,.slice ka kn kc] 89)).heap.size=w.heap.size+1+1 by simp] at h))
 have HB:Hid (Below w.heap.size w W):=zh (hW▸zA (zA hb1 hb2) hb3);have HM:Hid (∀ q,q<n->fN w (pat L q).2 (pat L q).1.m.st/\∀ j,j<8->((pat L q).1.m.st j).length<=1000):=zh (fun q hq=>⟨h.m _ (yP (by omega)),fun j hj=>hl _ (by rw[<- XB];exact qV (by omega)) j hj⟩);have CZ:=zh h;have nR:=zh (fun W g sl (hb:Below w.heap.size w W) (hm:fN W sl g.m.st) (rV:∀ j,j<8->(g.m.st j).length<=10000)=>zHS s a n c L W (h.bb hb) hg hl g sl hm rV);have Tr:=zh XB;have XD:=zh XA;clear hb1 hb2 hb3 h hg hl XB XA
 go_enter func71,ntmps71
 go_upto_region 1 with fail;clear hW;have k3:=HX.o.cell (i:=3) rfl;go_wp2_with fail;refine (P6.o W (w.heap.size+1) HB.o HK.o).mono ?_;rintro e w1 ⟨⟨z,rfl,hz⟩,hb⟩;clear k3 P6;replace HX:=zh (HX.o.bb hb);replace HK:=zh (HK.o.bb hb);replace HR:=zh (HR.o.bb hb);replace HB:=zh (zA HB.o hb);clear hb;rcases hz with ⟨k,nw,rfl,hk2,hk3⟩|⟨rfl,hz⟩
 ·have hkn:k<n:=by omega
  have HG:Hid (uz s.ep num=k):=zh (ku (by rw[XD.o];exact hkn) (by rw[Tr.o];exact hk2) fun j hj=>by rw[Tr.o];exact hk3 j hj);have oB:=zh (show yK s num keys=if (yh (pat L k).1 keys).1=0 then yS s (yh (pat L k).1 keys).2 else (yq,(yh (pat L k).1 keys).1) by rw[HE.o,HG.o,ah (by rw[XD.o];exact hkn),Tr.o]);have rW:=HM.o k hkn;have u_:=zh (fun W2 (hb:Below w1.heap.size w1 W2)=>zLE (pat L k).1 (pat L k).2 (.slice ka kn kc) keys W2 (rW.1.bb (zA HB.o hb)) (fun j hj=>ak (rW.2 j hj) (by decide)) (il.bb HKu.o (zA HB.o hb)) (by rw[XC.o];exact ak Hkl.o (by decide)));have hlen:∀ j,j<8->((yh (pat L k).1 keys).2.m.st j).length<=10000:=fun j hj=>ak (ke (pat L k).1 keys rW.2 j hj) (by decide)
  have Bl:=zh hlen;obtain ⟨gb,go,e0,hat⟩:=(CZ.o.bb HB.o).at hkn;subst e0;have ES:=zh hat;clear HE HG HM rW hlen hat hk2 hk3;generalize yK s num keys=RR at *;generalize hK:yh (pat L k).1 keys=KG at *;clear hK;obtain ⟨er,⟨tn,tr,tm,tz,⟨tf,tL,tG⟩⟩⟩:=KG;generalize pat L k=p at *;obtain ⟨⟨pn,pr,pm,pz,⟨pf,pL,pG⟩⟩,ps⟩:=p;dsimp only at u_ oB Bl;have XE:(0:Int)<=(k:Int):=by omega
  have XH:(k:Int)<(n:Int):=by omega
  have i1:¬ (k:Int)<0:=by omega
  go_upto_region 4 with fail
  go_cut [7,8] (fun vb ve wx=>∃ bG s9,vb=.pointer (some ⟨bG,0,none⟩)/\ve=.int .i64 er/\w1.heap.size<=bG/\Hid (eu wx bG (zU tn tr tm tz s9 tL tG) 38)/\Hid (fN wx s9 tf)/\Hid (Below w1.heap.size w1 wx))
  case first =>
   refine yQ [eT (.pointer (some ⟨w.heap.size,3,none⟩)),eT (.slice (some ⟨gb,go,none⟩) n c),eT (.int .i64 (k:Int)),eT (.pointer (some ⟨gb,go+k*14,none⟩)),eT (ze pn pr pm pz ps pL pG),eT (.pointer (some ⟨w.heap.size+1,1,none⟩)),eT (.slice ka kn kc),Tp er tn tr tm tz tf tL tG,Tp er tn tr tm tz tf tL tG,zMr tn tr tm tz tf tL tG,eT (.int .i64 er),zMw 38 w1.heap.size] [11] 36 10 (by kernel_rfl) (by kernel_rfl) rfl rfl (by decide) (by rfl) (by kernel_rfl) (fun f=>by simp[fU,zW,Act.put];exact rfl) ?_ ?_ ?_
   ·refine ⟨?_,?_,?_,?_,?_,?_,?_,?_,?_,?_,?_,?_,trivial⟩
    ·intro f w2 hb hd;clear hd;dsimp only;go_wp2_with fail;exact pS rfl (by simp)
    ·intro f w2 hb hd;have d0:f 0=_:=hd 0 (by kernel_rfl);clear hd;dsimp only;rw[d0];have q3:=(HX.o.bb hb).cell (i:=3) rfl;go_wp2_with fail;exact pS rfl (by simp)
    ·intro f w2 hb hd;clear hd;dsimp only;go_wp2_with fail;exact pS rfl (by simp)
    ·intro f w2 hb hd;have d1:f 1=_:=hd 1 (by kernel_rfl);have d2:f 2=_:=hd 2 (by kernel_rfl);clear hd;dsimp only;rw[d1];rw[d2];have j0:=XE;have j1:=XH;go_wp2_with fail;exact pS rfl (by simp)
    ·intro f w2 hb hd;have d3:f 3=_:=hd 3 (by kernel_rfl);clear hd;dsimp only;rw[d3];have hx:=ES.o.bb hb;obtain ⟨q0,q1,q2,q3,q4,q5,q6,q7,q8,q9,w_,y_,z_,Aa⟩:=hx.q;clear hx;dsimp only at q0 q1 q2 q3 q4 q5 q6 q7 q8 q9 w_ y_ z_ Aa;go_wp2_with fail;exact pS rfl (by simp)
    ·intro f w2 hb hd;clear hd;dsimp only;go_wp2_with fail;exact pS rfl (by simp)
    ·intro f w2 hb hd;have d5:f 5=_:=hd 5 (by kernel_rfl);clear hd;dsimp only;rw[d5];have q1:=(HK.o.bb hb).cell (i:=1) rfl;go_wp2_with fail;exact pS rfl (by simp)
    ·intro f w2 hb hd;have d4:f 4=_:=hd 4 (by kernel_rfl);have d6:f 6=_:=hd 6 (by kernel_rfl);clear hd;dsimp only;rw[d4];rw[d6];go_wp2_with fail;refine (u_.o w2 hb).mono ?_;rintro e w9 ⟨⟨s9,rfl,sZ⟩,gy⟩;have jl:=zh sZ.rd;clear sZ;go_wp2_with fail;exact pRg gy ⟨s9,rfl,jl.o⟩ (by simp)
    ·intro f w2 hb hd;obtain ⟨s7,d7,r7⟩:=hd 7 (by kernel_rfl);clear hd;dsimp only;rw[d7];have jl:=zh r7;clear r7;go_wp2_with fail;exact pRg (aj _ _) ⟨s7,rfl,jl.o⟩ (by simp)
    ·intro f w2 hb hd;obtain ⟨s8,d8,r8⟩:=hd 8 (by kernel_rfl);clear hd;dsimp only;rw[d8];have jl:=zh r8;clear r8;go_wp2_with fail;exact pRg (aj _ _) ⟨s8,rfl,jl.o⟩ (by simp)
    ·intro f w2 hb hd;obtain ⟨s8,d8,r8⟩:=hd 8 (by kernel_rfl);clear hd;dsimp only;rw[d8];clear r8;go_wp2_with fail;exact pS rfl (by simp)
    intro f w2 hb hd;clear hd;dsimp only;have pJ:=hb.size;have Ar:=eu.new w2 (zU 0 0 0 0 Sl.nil 0 0) 38;go_wp2_with fail;exact ⟨rfl,(aj _ _).alloc (ag _) _,fun t ht=>by injection ht with ht;subst ht;exact ⟨⟨_,rfl,pJ,Ar⟩,fun _=>⟨ag _,by simp[blk]⟩⟩⟩
   ·intro f w8 hb hd iX;clear iX;obtain ⟨s9,d9,r9⟩:=hd 9 (by simp);obtain ⟨bG,d11,lo,bx⟩:=hd 11 (show 11<12 by decide);have d10:f 10=_:=hd 10 (show 10<12 by decide)
    try dsimp only
    rw[d9,d10,d11];clear hd d9 d10 d11;have iZ:Hid (eu (pts w8 bG (zS tn tr tm tz s9 tL tG)) bG (zU tn tr tm tz s9 tL tG) 38):=zh ((by have h:=eu.sets (zS tn tr tm tz s9 tL tG) bx;rw[Tq] at h;exact h));have iw:=zh (fN.gen r9 bx (zS tn tr tm tz s9 tL tG));have fH:=zh (zC (B:=w1.heap.size) (b:=bG) lo (zS tn tr tm tz s9 tL tG) hb);have bg:=bx.gen;obtain ⟨g0,g1,g2,g3,g4,g5,g6,g7,g8,g9,g10,g11,g12,g13⟩:=bg.q;have gf:=bg.f;clear r9 bx bg hb;change wpList _ _ _ (_::_::[]) _ _;go_wp2_with fail;go_meet
    case rel=>exact ⟨bG,s9,rfl,rfl,lo,iZ,iw,fH⟩
   intro f w8 hb hd iX;clear iX;obtain ⟨s9,d9,r9⟩:=hd 9 (by simp) (by decide);obtain ⟨bG,d11,lo,bx⟩:=hd 11 (show 11<12 by decide) (by decide);obtain ⟨s8,d8,r8⟩:=hd 8 (by simp) (by decide);clear r8
   try dsimp only
   rw[d8,d9,d11];clear hd d8 d9 d11;have iZ:Hid (eu (pts w8 bG (zS tn tr tm tz s9 tL tG)) bG (zU tn tr tm tz s9 tL tG) 38):=zh ((by have h:=eu.sets (zS tn tr tm tz s9 tL tG) bx;rw[Tq] at h;exact h));have iw:=zh (fN.gen r9 bx (zS tn tr tm tz s9 tL tG));have fH:=zh (zC (B:=w1.heap.size) (b:=bG) lo (zS tn tr tm tz s9 tL tG) hb);have bg:=bx.gen;obtain ⟨g0,g1,g2,g3,g4,g5,g6,g7,g8,g9,g10,g11,g12,g13⟩:=bg.q;have gf:=bg.f;clear r9 bx bg hb;change wpList _ _ _ (_::_::_::[]) _ _;go_wp2_with fail;go_meet
   case rel=>exact ⟨bG,s9,rfl,rfl,lo,iZ,iw,fH⟩
  obtain ⟨bG,s9,rfl,rfl,hlo,KB,Ts,fH⟩:=hcut;generalize wc=w3 at *;replace HX:=zh (HX.o.bb fH.o);replace HK:=zh (HK.o.bb fH.o);replace HR:=zh (HR.o.bb fH.o);replace HB:=zh (zA HB.o fH.o);clear fH u_ ES
  by_cases GH:er=0
  ·subst GH;have o_:=zh (show RR=yS s ⟨tn,tr,tm,tz,⟨tf,tL,tG⟩⟩ by rw[oB.o,ah rfl]);have Tt:=zh (nR.o w3 ⟨tn,tr,tm,tz,⟨tf,tL,tG⟩⟩ s9 HB.o Ts.o Bl.o);clear oB nR;rw[<- o_.o] at Tt;clear o_;obtain ⟨R,rc⟩:=RR;dsimp only at Tt;have hb3:w.heap.size+1+1<w3.heap.size:=HR.o.lt;have x0:=HX.o.cell (i:=0) rfl;have x1:=HX.o.cell (i:=1) rfl;have x2:=HX.o.cell (i:=2) rfl;have x3:=HX.o.cell (i:=3) rfl;obtain ⟨g0,g1,g2,g3,g4,g5,g6,g7,g8,g9,g10,g11,g12,g13⟩:=KB.o.gen.q;go_wp2_with fail;refine Tt.o.mono ?_;rintro e w4 ⟨⟨ra,rn,rcp,RL,rfl,hown,hgn⟩,hb⟩;dsimp only;have HO:=zh hown;have iZ:=zh hgn;clear hown hgn x0 x1 x2 x3 g0 g1 g2 g3 g4 g5 g6 g7 g8 g9 g10 g11 g12 g13;replace HR:=zh (HR.o.bb hb);replace HB:=zh (zA HB.o hb);clear hb Tt;obtain ⟨z0,z1,z2,z3⟩:=HR.o.q;have zf:=HR.o.f
   go_wp2_with fail;change bodyPost _ _ _ _ _ (pts w4 (w.heap.size+1+1) (zI R.id R.lim R.ro ra rn rcp));have hby:=HR.o.all R.id R.lim R.ro ra rn rcp;have eN:=zh (zC (B:=w.heap.size) (b:=w.heap.size+1+1) (by omega) (zI R.id R.lim R.ro ra rn rcp) HB.o);have Cq:=zh ((HO.o.pts (b:=w.heap.size+1+1) hb3 (zI R.id R.lim R.ro ra rn rcp)).lower (show w.heap.size<=w3.heap.size by omega));generalize pts w4 (w.heap.size+1+1) (zI R.id R.lim R.ro ra rn rcp)=V at *;exact au (v:=.tuple #[zQ R.id R.lim R.ro ra rn rcp,.int .i64 rc]) (by simp[results,results71,go_sem,hby.c0,hby.c1,hby.c2,hby.c3]) rfl (⟨⟨_,_,_,RL,rfl,Cq.o,iZ.o⟩,eN.o⟩)
  have o_:=zh (show RR=(yq,er) by rw[oB.o,ai GH]);have e1:(er != 0)=true:=by simpa using GH
  clear oB GH;obtain ⟨z0,z1,z2,z3⟩:=HR.o.q;have zf:=HR.o.f;go_wp2_with fail;change bodyPost _ _ _ _ _ (pts w3 (w.heap.size+1+1) (zI 0 0 false none 0 0));have hby:=HR.o.all 0 0 false none 0 0;have eN:=zh (zC (B:=w.heap.size) (b:=w.heap.size+1+1) (by omega) (zI 0 0 false none 0 0) HB.o);generalize pts w3 (w.heap.size+1+1) (zI 0 0 false none 0 0)=V at *;exact au (v:=.tuple #[zQ 0 0 false none 0 0,.int .i64 er]) (by simp[results,results71,go_sem,hby.c0,hby.c1,hby.c2,hby.c3]) rfl (by rw[o_.o];exact FB.no eN.o)
 have o_:=zh (show yK s num keys=(yq,6) by
  rw[HE.o,zDg fun j hj=>by rw[Tr.o];exact hz j (by rw[XD.o] at hj;omega),ai (by omega)])
 clear hz HE;generalize yK s num keys=RR at *;obtain ⟨z0,z1,z2,z3⟩:=HR.o.q;have zf:=HR.o.f;go_wp2_with fail;change bodyPost _ _ _ _ _ (pts w1 (w.heap.size+1+1) (zI 0 0 false none 0 0));have hby:=HR.o.all 0 0 false none 0 0;have eN:=zh (zC (B:=w.heap.size) (b:=w.heap.size+1+1) (by omega) (zI 0 0 false none 0 0) HB.o);generalize pts w1 (w.heap.size+1+1) (zI 0 0 false none 0 0)=V at *;exact au (v:=.tuple #[zQ 0 0 false none 0 0,.int .i64 6]) (by simp[results,results71,go_sem,hby.c0,hby.c1,hby.c2,hby.c3]) rfl (by rw[o_.o];exact FB.no eN.o)
abbrev od (w:World) (v:Value) (ks:List KP):Prop:=jy 2 iy w v ks
def od.at {w:World} {a:Option Addr} {n cap:Nat} {ks:List KP} (h:od w (.slice a n cap) ks) {j:Nat} (hj:j<n):∃ b off,a=some ⟨b,off,none⟩/\w.cell? ⟨b,off+j*2,none⟩=some (.int .i64 (iG ks j).1)/\w.cell? ⟨b,off+j*2+1,none⟩=some (iG ks j).2.1:=by
 obtain ⟨a',cap',e,h2,h3,_,h5⟩:=jy.shape h (by decide) (0,.slice none 0 0,[]);injection e with e1 e2 e3;subst e1 e2 e3;obtain ⟨b,off,e,hc⟩:=h5 (by omega);refine ⟨b,off,e,?_,hc j hj 1 _ rfl⟩;have:=hc j hj 0 _ rfl;rwa [bE] at this
variable {w:World} {n:Nat} {ks:List KP}
def od.len {a:Option Addr} {cap:Nat} (h:od w (.slice a n cap) ks):ks.length=n:=by
 obtain ⟨_,_,e,_⟩:=jy.shape h (by decide) (0,.slice none 0 0,[]);injection e with _ e _;exact e.symm
def zOg:Value:=.agg #[.int .i64 0,.slice none 0 0]
def zEV:(prog.info? 89).map (fun i=>(i.zero,i.size,i.bytes))=some (some zOg,2,32):=by kernel_rfl
def wJ:wQ prog 68 89 2 32:=by
 obtain ⟨i,h1,h2,h3,h4⟩:=cq zEV;exact ⟨underlying68,by decide,i,_,h1,h2,h3,h4,rfl⟩
def zAB (hi:i<=ks.length):(ks.flatMap iy).take (i*2)=(ks.take i).flatMap iy/\(ks.flatMap iy).drop (i*2)=(ks.drop i).flatMap iy:=by
 have e:ks.flatMap iy=(ks.take i).flatMap iy++(ks.drop i).flatMap iy:=by rw[<- cn,b7]
 have hl:((ks.take i).flatMap iy).length=i*2:=by rw[ye 2 iy _ (fun x _=>xV x),aB,bY hi]
 rw[e];exact ⟨dI hl,List.drop_left' hl⟩
def tQ {l:List KP} (h:i<l.length):l[i]=iG l i:=by
 unfold iG;rw[aw,aA h];rfl
def zLa {I:Nat} (e:gV ks=l) (hI:ia l num=I) (h:I<l.length/\(yY l I).1=num) :
  I<ks.length/\(iG ks I).1=num/\(gV ks).set I (num,(iG ks I).2.2++[key])=Ed l num key:=by
 subst e hI;have h1:=zE6 (key:=key) h;have h2:=Qj (l:=ks) (ia (gV ks) num);refine ⟨by rw[<- xx];exact h.1,by have:=h.2;rw[h2] at this;exact this,?_⟩;rw[h1,h2]
def zHk (ks:List KP) (k:Nat) (num:Int) (v:Value) (l:List Int):gV (ks.set k (num,v,l))=(gV ks).set k (num,l):=by
 unfold gV;rw[List.map_set]
section
variable {W W1:World} {B b:Nat} {P:fP} {ga:Option Addr} {gn gc:Nat} {L:List GP} {kv sL:Value} {ks pd:List KP} {nv:Value} {es:List (Nd×Value)} {rv:Value}
end
def zEu (W:World) (x:Int) (k:Nat) (hk:W.heap.size=k):∀ j u,[Value.int .u64 x][j]?=some u->(World.drew (W.alloc (.cells #[.int .u64 x] 24))).cell? ((⟨k,0,none⟩:Addr).add j)=some u:=by
 subst hk;intro j u hj;rw[yd,aN]
 show (W.alloc (.cells #[.int .u64 x] 24)).cell? _=some u
 rw[cell_of_row _ _ j _ _ (0,0) (heap_alloc_new W _)];rw[<- Array.getElem?_toList];exact hj
open Go.Shelf
attribute [local go_sem] Oper.semAt_some
abbrev XQ (x:lJ):Value:=.agg #[.int .i64 x.gen,.int .i64 x.mode,.int .i64 x.rev,.int .u64 x.it.key,.int .u32 x.it.ck,.int .i64 x.it.off,.int .i64 x.it.size,.int .i64 (x.at_:Int)]
structure KW (W:World) (b o:Nat) (x:lJ):Prop where
 c0:W.cell? ⟨b,o,none⟩=some (.int .i64 x.gen)
 c1:W.cell? ⟨b,o+1,none⟩=some (.int .i64 x.mode)
 c2:W.cell? ⟨b,o+2,none⟩=some (.int .i64 x.rev)
 c3:W.cell? ⟨b,o+3,none⟩=some (.int .u64 x.it.key)
 c4:W.cell? ⟨b,o+4,none⟩=some (.int .u32 x.it.ck)
 c5:W.cell? ⟨b,o+5,none⟩=some (.int .i64 x.it.off)
 c6:W.cell? ⟨b,o+6,none⟩=some (.int .i64 x.it.size)
 c7:W.cell? ⟨b,o+7,none⟩=some (.int .i64 (x.at_:Int))
variable {W:World} {b:Nat}
def KW.bb {W':World} {o:Nat} {x:lJ} (h:KW W b o x) (hb:Below W.heap.size W W'):KW W' b o x:=⟨hb.keeps' h.c0,hb.keeps' h.c1,hb.keeps' h.c2,hb.keeps' h.c3,hb.keeps' h.c4,hb.keeps' h.c5,hb.keeps' h.c6,hb.keeps' h.c7⟩
def nk (l:List lJ) (i:Nat):lJ:=l.getD i yv
def JF.at {a:Option Addr} {c:Nat} {l:List lJ} (h:JF w (.slice a n c) l):n=l.length/\(0<n->∃ b off,a=some ⟨b,off,none⟩/\∀ j,j<n->KW w b (off+j*8) (nk l j)):=by
 obtain ⟨a',cap',e,_,_,_,h5⟩:=jy.shape h (by decide) yv;injection e with e1 e2 e3;subst e1 e2 e3;refine ⟨rfl,fun hp=>?_⟩;obtain ⟨b,off,e,hc⟩:=h5 hp;refine ⟨b,off,e,fun j hj=>?_⟩;have g:=fun i u hu=>hc j hj i u hu
 exact ⟨by have:=g 0 _ rfl;simpa [cS,nk] using this,by have:=g 1 _ rfl;simpa [cS,nk] using this,by have:=g 2 _ rfl;simpa [cS,nk] using this,by have:=g 3 _ rfl;simpa [cS,nk] using this,by have:=g 4 _ rfl;simpa [cS,nk] using this,by have:=g 5 _ rfl;simpa [cS,nk] using this,by have:=g 6 _ rfl;simpa [cS,nk] using this,by have:=g 7 _ rfl;simpa [cS,nk] using this⟩
def Bp (b Bs:Nat) (W W':World):Prop:=∀ p:Addr,(p.block=b∨p.block=Bs)->∀ v,W.cell? p=some v->W'.cell? p=some v
def Bp.refl (b Bs:Nat) (W:World):Bp b Bs W W:=fun _ _ _ h=>h
variable {Bs:Nat}
def Bp.trans {A B C:World} (h:Bp b Bs A B) (k:Bp b Bs B C):Bp b Bs A C:=fun p hp v hv=>k p hp v (h p hp v hv)
def Bp.put (hb:b<w.heap.size) (hB:Bs<w.heap.size) (W:World) (l:Nat) (o o':Obj) (hl:w.heap.size<=l) (h:W.heap[l]?=some o) (h1:o.isCells=false) (h2:o.isWalk=false):Bp b Bs W (W.putObj l o'):=fun p hp v hv =>
 ((belowK_b (n₀:=p.block+1) (w:=w) (by rcases hp with e|e<;>omega) W l o o' hl h h1 h2).cell (p:=p) (dy _)).trans hv
def Bp.bb {W':World} (h:Below W.heap.size W W'):Bp b Bs W W':=fun _ _ _ hv=>h.keeps' hv
def zIs (F:Fence) (n:Nat) (hf:F.fn 211) (hro:F.round=none) (hn:1<=n) (l Bs b off len cap:Nat) (a:Option Addr) (ha:0<len->a=some ⟨b,off,none⟩) (L:List lJ) (hlen:len<=8) (J Jx:List Nat->World->Prop)
  (hY:∀ pre (x:Nat) W,J pre W->pre.length<len->YieldAt F (n-1) prog l #[.int .i64 (x:Int),XQ (nk L x)] W fun e W' =>
   (e=.returned (.bool true)/\J (pre++[x]) W'/\Bp b Bs W W')∨(e=.returned (.bool false)/\Jx (pre++[x]) W'))
  (W:World) (IG:W.cell? ⟨Bs,0,none⟩=some (.slice a len cap)) (hc:∀ j,j<len->KW W b (off+j*8) (nk L j)) (h0:J [] W) :
  CallsIn F n prog 211 #[.func (.yield l) #[] #[],.pointer (some ⟨Bs,0,none⟩)] W fun e W'=>(∃ v,e=.returned v) /\
   ((∃ ys,ys=xO len len/\J ys W')∨(∃ pre,(∃ k,k<=len/\pre=xO len k)/\Jx pre W')):=by
 refine callsIn_of_wp func211 rfl hf ?_ hro;simp only[ntmps211,cD,aW,dK,Nat.reduceAdd,Nat.reduceSub,Array.replicate_succ,Array.replicate_zero,List.push_toArray,List.append_toArray,bV,List.cons_append]
 gi_wp2
 gi_loopw [3] (fun i wr=>∃ k:Nat,k<=len/\i=.int .i64 ((len:Int)-1-(k:Int))/\J (xO len k) wr/\Bp b Bs W wr)
  (fun i _=>(intOf i+1).toNat)
 case atStart=>exact ⟨0,aq _,by simp[aF _ (show -9223372036854775808<=(len:Int)-1/\(len:Int)-1<=9223372036854775807 by omega)],h0,Bp.refl _ _ _⟩
 obtain ⟨k,hk,rfl,hJs,pO⟩:=hrel;have PO:=pO ⟨Bs,0,none⟩ (.inr rfl) _ IG
 by_cases hlt:k<len
 ·obtain ⟨j,hj⟩:∃ j,k+1+j=len:=⟨len-1-k,by omega⟩
  have hjk:len-1-k=j:=by omega
  obtain ⟨fn,tmps,assign,body,hy,hR⟩:=hY _ (len-1-k) wr hJs (by rw[vV];exact hlt);have ej:(len:Int)-1-(k:Int)=(j:Int):=by omega
  rw[ej];rw[hjk] at hy hR;have i2:(j:Int)<(len:Int):=by omega
  have ha':=ha (by omega);subst ha';have g0:=pO ⟨b,off+j*8,none⟩ (.inl rfl) _ (hc j (by omega)).c0;have g1:=pO ⟨b,off+j*8+1,none⟩ (.inl rfl) _ (hc j (by omega)).c1;have g2:=pO ⟨b,off+j*8+2,none⟩ (.inl rfl) _ (hc j (by omega)).c2;have g3:=pO ⟨b,off+j*8+3,none⟩ (.inl rfl) _ (hc j (by omega)).c3;have g4:=pO ⟨b,off+j*8+4,none⟩ (.inl rfl) _ (hc j (by omega)).c4;have g5:=pO ⟨b,off+j*8+5,none⟩ (.inl rfl) _ (hc j (by omega)).c5;have g6:=pO ⟨b,off+j*8+6,none⟩ (.inl rfl) _ (hc j (by omega)).c6;have g7:=pO ⟨b,off+j*8+7,none⟩ (.inl rfl) _ (hc j (by omega)).c7
  gi_wp2
  refine hR.mono ?_;rintro e W3 (⟨rfl,hJ3,hk3⟩|⟨rfl,hJx3⟩)
  ·gi_wp2
   go_roundw
   case rel=>exact ⟨k+1,by omega,by first|(simp;done)|(simp;omega),by rw[ud,hjk];exact hJ3,pO.trans hk3⟩
   case measure=>first|(simp[intOf];done)|(simp[intOf];omega)
  gi_wp2
  refine au (results_none rfl _ _ _) rfl ?_;exact ⟨⟨_,rfl⟩,.inr ⟨_,⟨k+1,by omega,by rw[ud,hjk]⟩,hJx3⟩⟩
 obtain rfl:k=len:=by omega
 have ej:(k:Int)-1-(k:Int)=-1:=by omega
 rw[ej]
 gi_wp2
 go_end0;exact ⟨⟨_,rfl⟩,.inl ⟨_,rfl,hJs⟩⟩
def zC4 (a:Option Addr) (n c:Nat) (w:World):Calls prog 200 #[.slice a n c] w fun e w'=>e=.returned (.func (.func 211) #[] #[.pointer (some ⟨w.heap.size,0,none⟩)])/\w'=w.alloc (.cells #[.slice a n c] 135):=by
 go_enter func200,ntmps200
 go_wp2_with fail;go_ret;exact ⟨rfl,rfl⟩
def zFT (F:Fence) (n:Nat) (hf:F.fn 211) (hro:F.round=none) (hn:1<=n) (Bs b off len cap:Nat) (a:Option Addr) (ha:0<len->a=some ⟨b,off,none⟩) (L:List lJ) (hlen:len<=8) (w:World)
  (IG:w.cell? ⟨Bs,0,none⟩=some (.slice a len cap)) (hc:∀ j,j<len->KW w b (off+j*8) (nk L j)) :
  SeqStopsK F n prog 211 #[.pointer (some ⟨Bs,0,none⟩)] (fun x:Nat=>#[.int .i64 (x:Int),XQ (nk L x)]) (Bp b Bs) (fun ys=>ys=xO len len) (fun pre=>∃ k,k<=len/\pre=xO len k) len w:=fun l J Jx W hW _ _ hY h0 =>
 zIs F n hf hro hn l Bs b off len cap a ha L hlen J Jx hY W (hW.keeps' IG) (fun j hj=>(hc j hj).bb hW) h0
attribute [local go_sem] Oper.semAt_some
def uT (F:List lJ) (n:Nat) (pre:List Nat):List Int:=pre.flatMap fun x=>if ((nk F x).at_:Int)≠(n:Int)-1 then [(nk F x).gen] else []
def zLK {F:List lJ} (pre:List Nat) {x:Nat} (h:((nk F x).at_:Int)≠(n:Int)-1):uT F n (pre++[x])=uT F n pre++[(nk F x).gen]:=by simp[uT,h]
def zIE {F:List lJ} (pre:List Nat) {x:Nat} (h:((nk F x).at_:Int)=(n:Int)-1):uT F n (pre++[x])=uT F n pre:=by simp[uT,h]
def zJj (F:List lJ) (n:Nat) (pre:List Nat):(uT F n pre).length<=pre.length:=by
 induction pre with
 |nil=>exact ag _
 |cons x pre ih =>
  have e:uT F n (x::pre)=(if ((nk F x).at_:Int)≠(n:Int)-1 then [(nk F x).gen] else [])++uT F n pre:=rfl;rw[e,ax,aW]
  split<;>simp<;>omega
def zGs (F:List lJ):(xO F.length F.length).map (nk F)=F.reverse:=by
 refine List.ext_getElem (by simp[vV]) fun j h1 h2=>?_
 simp only[aH,vV] at h1;simp[xO,nk,List.getElem_reverse,aw];rw[aA (by omega)]
 rfl
def zJx (key:Int):uT (yF s key) s.ep.length (xO (yF s key).length (yF s key).length)=zd s key:=by
 have e1:uT (yF s key) s.ep.length (xO (yF s key).length (yF s key).length)=((xO (yF s key).length (yF s key).length).map (nk (yF s key))).flatMap fun x=>if (x.at_:Int)≠(s.ep.length:Int)-1 then [x.gen] else []:=by
  unfold uT;rw[List.flatMap_map]
 rw[e1,zGs];unfold zd
 cases hv:zb s with
 |false=>rw[S_ hv];rfl
 |true =>
  rw[ah rfl];have hn:=((zX _).1 hv).len.1;have e2:yF s key=xp s.ep key s.ep.length:=by unfold yF;rw[ah hv]
  rw[e2,<- Wc s.ep key s.ep.length (s.ep.length-1) (by omega)];have hb:=zCC (l:=s.ep) (key:=key) s.ep.length;have hq:∀ M:List lJ,(∀ x∈M,x.at_<s.ep.length)->(M.flatMap fun x=>if (x.at_:Int)≠(s.ep.length:Int)-1 then [x.gen] else [])=(M.filter fun x=>decide (x.at_<s.ep.length-1)).map (·.gen):=by
   intro M
   induction M with
   |nil=>intro _;rfl
   |cons x M ih =>
    intro hM;have hx:=hM x (List.mem_cons_self ..);rw[cC,ih fun y hy=>hM y (List.mem_cons_of_mem _ hy)]
    by_cases hc:x.at_<s.ep.length-1
    ·rw[ah (by omega),List.filter_cons_of_pos (by simpa using hc)];rfl
    rw[ai (by omega),List.filter_cons_of_neg (by simpa using hc)];rfl
  exact hq _ fun x hx=>hb x (List.mem_reverse.1 hx)
def zIW (s:fk) (key:Int):(yF s key).length<=8:=by
 cases hv:zb s with
 |false=>rw[S_ hv];exact aq _
 |true =>
  have e2:yF s key=xp s.ep key s.ep.length:=by unfold yF;rw[ah hv]
  rw[e2];exact ak (zFE _ _ _) ((zX _).1 hv).len.2
def zH2 {β:Type} (B:Nat) (t:TypeId) (cs:β->Array Value):Own (fun s W=>eu W B (cs s) t):=fun s X Y row hs hg hrow=>by
 have hs':X.heap[B]?=some (.cells (cs s) t (0,0)):=hs;exact (hg.block B (Array.getElem?_eq_some_iff.1 hs').1 (fun e'=>by obtain ⟨o,ho,hc⟩:=hrow B e'.symm;rw[hs'] at ho;cases ho;cases hc)).trans hs'
def zMm {β:Type} (n₀:Nat) (e:TypeId) (size:Nat) (v:β->Value) (k:β->Nat) (f:β->List Value):Own (fun s W=>W.ownsRow n₀ e size (v s) (k s) (f s)):=by
 rintro s X Y row hr hg hrow;refine hr.kept hg ?_;rcases hr.2 with ⟨h1,_⟩|⟨g,cap,cur,h1,_,hgb,_⟩
 ·exact .inl (by rw[h1];rfl)
 refine .inr fun e'=>?_
 obtain ⟨o,ho,hc⟩:=hrow g (by rw[h1] at e';simpa [Value.ownBlock] using e'.symm);rw[hgb] at ho;cases ho;cases hc
def zCh {n' sz sz' k k':Nat} {e e':TypeId} {v v':Value} {xs xs':List Value} (h:W.ownsRow n e sz v k xs) (h':W.ownsRow n' e' sz' v' k' xs') (he:e≠e'):v.ownBlock=none∨v.ownBlock≠v'.ownBlock:=by
 rcases h.2 with ⟨h1,_⟩|⟨g,cap,cur,rfl,_,hgb,_⟩
 ·exact .inl (by rw[h1];rfl)
 refine .inr ?_;rcases h'.2 with ⟨rfl,_⟩|⟨g2,cap2,am4,rfl,_,Mj,_⟩
 ·simp[Value.ownBlock]
 intro e3;obtain rfl:g=g2:=by simpa [Value.ownBlock] using e3
 rw[hgb] at Mj;simp at Mj;exact he Mj.2
def eu.not_row {B:Nat} {cs:Array Value} {t e:TypeId} (h:eu W B cs t) (hte:t≠e) {base size k:Nat} {v:Value} {xs:List Value} (hr:W.ownsRow base e size v k xs):some B≠v.ownBlock:=by
 rcases hr.2 with ⟨rfl,_⟩|⟨g,cap,cur,rfl,_,hgb,_⟩
 ·simp[Value.ownBlock]
 intro e';obtain rfl:B=g:=by simpa [Value.ownBlock] using e'
 have:=(show W.heap[B]?=_ from h).symm.trans hgb;simp at this;exact hte this.2
def zGb (i l:Int) (r:Bool) (a:Option Addr) (n c:Nat) (L:List GP) (w:World) (h:fB w (.slice a n c) L) (hs:∀ p∈L,∀ j,j<8->(p.1.m.st j).length<=10000) (key:Int) :
  Calls prog 181 #[zQ i l r a n c,.int .u64 key] w fun e w'=>∃ v',e=.returned v'/\gY w' w.heap.size v' (zd ⟨i,l,r,ey L⟩ key)/\Below w.heap.size w w':=by
 have hSl:=fun W (hb:Below w.heap.size w W)=>zHK i l r a n c L W (h.bb hb) hs key
 have hres:=zJx (s:=⟨i,l,r,ey L⟩) key;have hF8:=zIW ⟨i,l,r,ey L⟩ key;have hnL:(ey L).length=n:=by
  rw[zk];obtain ⟨_,_,e,_⟩:=h.shape;injection e with _ e _;exact e.symm
 have hcap:n<=9223372036854775807:=by
  show n<=maxLen
  obtain ⟨_,_,e,h1,h2⟩:=h.shape;injection e with _ e _;rw[e];exact ak h1 h2
 dsimp only at hres;rw[hnL] at hres;generalize hF:yF ⟨i,l,r,ey L⟩ key=F at *;clear hF h hs hnL;rw[<- hres];clear hres;obtain ⟨i0,hi,hz0,hz1,hz2⟩:=cq (P:=prog) (e:=3) (z:=.int .i64 0) (size:=1) (bytes:=8) (by kernel_rfl);refine (callsIn_wide (n:=20)).1 (callsIn_of_wp_marks func181 rfl trivial ?_ rfl);simp only[ntmps181,cD,aW,dK,Nat.reduceAdd,Nat.reduceSub,Array.replicate_succ,Array.replicate_zero,List.push_toArray,List.append_toArray,bV,List.cons_append];have Gv:=fp.new w i l r a n c 27;have rE:=zR w i l r a n c 27;have hO:=Boxed.new (w.alloc (.cells (zM i l r a n c) 27)) 233 (.slice none 0 0);rw[cm] at hO;have hX:=Gv.bb ((aj _ _).alloc (ag _) (.cells #[.slice none 0 0] 233));have hB1:=rE.alloc (by simp) (.cells #[.slice none 0 0] 233);obtain ⟨k0,k1,k2,k3⟩:=hX.q
 gi_wp2_with (first|(refine ⟨trivial,?_⟩;gi_at_call 62;refine (callsIn_wide.2 (hSl _ hB1)).mono ?_;rintro e w1 ⟨v,rfl,hown,hb1⟩;obtain ⟨av,cv,rfl,-,-,-,-⟩:=jy.shape hown.rd (by decide) yv)|(refine ⟨trivial,?_⟩;gi_at_call 200;refine (callsIn_wide.2 (zC4 _ _ _ _)).mono ?_;rintro e w' ⟨rfl,rfl⟩;clear k0 k1 k2 k3))
 clear hSl;have hpos:=fun hp=>uB hown hp
 obtain ⟨b,off,hav,hbl,mC,hrows⟩:∃ b off,(0<F.length->av=some ⟨b,off,none⟩)/\b<w1.heap.size+1/\w.heap.size+2<=b/\∀ j,j<F.length->KW w1 b (off+j*8) (nk F j):=by
  by_cases hp:0<F.length
  ·obtain ⟨g,hg1,hg2,hg3⟩:=hpos hp;obtain ⟨_,hq⟩:=JF.at hown.rd;obtain ⟨b,off,e1,hr⟩:=hq hp;rw[hg1] at e1;obtain ⟨rfl,rfl⟩:b=g/\off=0:=by injection e1 with e1;injection e1 with e1 e2;exact ⟨e1.symm,e2.symm⟩
   exact ⟨b,0,fun _=>hg1,by omega,by simpa using hg2,hr⟩
  exact ⟨w1.heap.size,0,fun h=>absurd h hp,by omega,by have:=hb1.size;simpa using this,fun j hj=>absurd (Nat.lt_of_le_of_lt (aq _) hj) hp⟩
 have hS1:eu w1 w.heap.size (zM i l r a n c) 27:=((eu.new w _ _).bb ((aj _ _).alloc (ag _) _)).bb hb1;have XR:=hO.bb hb1;have hB2:=zA hB1 hb1;have hF1:=hown;clear hb1 hX Gv rE hB1 hO hown hpos;have hlz:w.heap.size+2<=w1.heap.size:=by have:=XR.lt;omega
 obtain ⟨W0,hW0⟩:∃ W0,w1.alloc (.cells #[.slice av F.length cv] 135)=W0:=⟨_,rfl⟩
 have bS:Boxed W0 w1.heap.size 135 (.slice av F.length cv):=by rw[<- hW0];exact Boxed.new w1 _ _
 have bO:Boxed W0 (w.heap.size+1) 233 (.slice none 0 0):=by rw[<- hW0];exact XR.alloc _
 have bX:eu W0 w.heap.size (zM i l r a n c) 27:=by rw[<- hW0];exact hS1.bb ((aj _ _).alloc (ag _) _)
 have bF:W0.ownsRow (w.heap.size+2) 138 8 (.slice av F.length cv) F.length (F.flatMap EN):=by
  rw[<- hW0];have:=hF1.alloc (.cells #[.slice av F.length cv] 135)
  simpa using this
 have Fj:Below w.heap.size w W0:=by rw[<- hW0];exact hB2.alloc hB2.size _
 have hsz:W0.heap.size=w1.heap.size+1:=by rw[<- hW0];simp
 have Ml:∀ j,j<F.length->KW W0 b (off+j*8) (nk F j):=by rw[<- hW0];exact fun j hj=>(hrows j hj).bb ((aj _ _).alloc (ag _) _)
 rw[hW0];clear hW0 hS1 XR hF1 hB2 hrows;generalize w1.heap.size=Bs at *;clear w1;refine wpIn_rangeFunc_ownH rfl (by decide) (gf:=211) (lb:=#[.pointer (some ⟨Bs,0,none⟩)]) rfl trivial (enters_of func211 (by kernel_rfl) rfl)
  (zFT Fence.wide (20-1) trivial rfl (by decide) Bs b off F.length cv av hav F hF8 W0 bS.cell Ml) Bp.trans (Bp.put (by omega) (by omega)) (aj _ _) (fun _=>rfl)
  (fun pre W=>(((∃ v,Boxed W (w.heap.size+1) 233 v/\W.ownsRow w.heap.size 3 1 v (uT F n pre).length ((uT F n pre).map qQ)/\True)/\W.ownsRow (w.heap.size+2) 138 8 (.slice av F.length cv) F.length (F.flatMap EN))/\eu W w.heap.size (zM i l r a n c) 27/\Boxed W Bs 135 (.slice av F.length cv))/\Below w.heap.size w W)
  (fun _ _ _=>False)
  (OwnFrom.and (OwnFrom.and (OwnFrom.and (Own.from (holdsRow_own w.heap.size (w.heap.size+1) 233 3 1 (fun pre=>(uT F n pre).length) (fun pre=>(uT F n pre).map qQ) (fun _ _=>True)) _) (Own.from (zMm (w.heap.size+2) 138 8 (fun _=>.slice av F.length cv) (fun _=>F.length) (fun _=>F.flatMap EN)) _)) (OwnFrom.and (Own.from (zH2 _ _ _) _) (Own.from (boxed_own _ _ _) _))) (ownFrom_below (ag _) (by omega)))
  (fun _ _ _ _ _ hs _ _=>hs)
  ⟨⟨⟨⟨_,bO,aP _ _ _ _,trivial⟩,bF⟩,bX,bS⟩,Fj⟩
  (fun x a' W=>∃ Bx,Bs<Bx/\b<Bx/\eu W Bx (EN (nk F x)).toArray 138/\a'={tmps:=#[zQ i l r a n c,.int .u64 key,.pointer (some ⟨w.heap.size,0,none⟩),undef,.slice none 0 0,.pointer (some ⟨w.heap.size+1,0,none⟩),undef,.pointer (some ⟨Bx,0,none⟩),zQ i l r a n c,.int .u64 key,.slice av F.length cv,.func (.func 211) #[] #[.pointer (some ⟨Bs,0,none⟩)],.int .i64 (x:Int),XQ (nk F x),undef,undef,undef,undef,undef,undef,undef,undef,undef,undef,undef,undef,undef,undef],defers:=[]})
  (fun x a' _ X Y row hs hg hr=>by obtain ⟨Bx,h1,h2,h3,h4⟩:=hs;exact ⟨Bx,h1,h2,(zH2 Bx _ (fun _:Unit=>_)) () X Y row h3 hg (fun r e=>(hr r e).2),h4⟩)
  ?assign ?body ?done ?stop
 case assign =>
  rintro lp pre x W K hI hK;obtain ⟨⟨⟨⟨v,hv,hrow,_⟩,NT⟩,NU,Cu⟩,hB1⟩:=hI;have hlt:=Cu.lt
  gi_wp2
  exact hK _ _ ((KeepsOthers.alloc _ _).from _) (Bp.bb ((aj _ W).alloc (ag _) _))
   ⟨⟨⟨⟨v,hv.alloc _,hrow.alloc _,trivial⟩,NT.alloc _⟩,NU.bb ((aj _ W).alloc (ag _) _),Cu.alloc _⟩,hB1.alloc hB1.size _⟩ ⟨W.heap.size,by omega,by omega,eu.new W _ _,rfl⟩
 case body =>
  rintro lp pre x a' W hl ⟨rr,hr⟩ ⟨⟨⟨⟨v,hv,hrow,_⟩,NT⟩,NU,Cu⟩,hB1⟩ ⟨Bx,hx1,hx2,bx,rfl⟩ hlt;have rV:=zJj F n pre;have c0:=bx.cell (i:=0) (u:=.int .i64 (nk F x).gen) rfl;have c7:=bx.cell (i:=7) (u:=.int .i64 ((nk F x).at_:Int)) rfl;have k3:=NU.cell (i:=3) (u:=.slice a n c) rfl;have PR:=hB1.size;have hOl:=hv.lt;have hBl:=Cu.lt;have Qm:=hav (by omega)
  by_cases hc:((nk F x).at_:Int)=(n:Int)-1
  ·have hm:=zIE pre hc;rw[hc] at c7
   gi_wp2
   exact ⟨(KeepsOthers.refl W).from _,Bp.refl _ _ _,⟨⟨⟨v,hv,by rw[hm];exact hrow,trivial⟩,NT⟩,NU,Cu⟩,hB1⟩
  have hm:=zLK pre hc;have hci:=hv.cell;generalize hq:((nk F x).at_:Int)=q at *
  gi_wp2_with (gi_at_builtin;refine wpListIn_append_own _ rfl _ _ 233 rfl w.heap.size 3 i0 _ 1 8 underlying233 hi hz0 hz1 hz2 rfl (by decide) _ _ _ rfl (hrow.alloc _) ⟨W.heap.size,0,none⟩ 1 1 [.int .i64 (nk F x).gen] rfl rfl (zHm W [.int .i64 (nk F x).gen] 3) (by intro u hu;simp at hu;subst hu;rfl) (by unfold maxLen;omega) (by omega) (by simp;omega) ?_;intro v' w4 hown' hgrow _;obtain ⟨g',cap',rfl⟩:=ownsRow_succ hown';obtain ⟨Ai,hv2,hr2,hk2,hb4⟩:=hv.appended (by decide) hrow (by omega) (by omega) hown' hgrow;have hc1:=Ai.cell;have hf1:=Ai.frozen)
  have hf4:=(NT.alloc (.cells #[.int .i64 (nk F x).gen] 3)).kept hgrow (zCh NT hrow (by decide));have hf5:=hf4.kept (grownBy_setCell' w4 (w.heap.size+1) (.slice (some ⟨g',0,none⟩) ((uT F n pre).length+1) cap')) (.inr (Ai.not_row (by decide) hf4).symm);have S9:=((Cu.alloc _).kept hgrow (Cu.not_row (by decide) hrow)).other (B':=w.heap.size+1) (by omega) (.slice (some ⟨g',0,none⟩) ((uT F n pre).length+1) cap');have bX5:=((NU.bb ((aj _ W).alloc (ag _) _)).grown hgrow (NU.not_row (by decide) hrow)).grown (grownBy_setCell' w4 (w.heap.size+1) (.slice (some ⟨g',0,none⟩) ((uT F n pre).length+1) cap')) (by simp);have hkk:∀ k,k<W.heap.size->some k≠v.ownBlock->k≠w.heap.size+1->(w4.setCell ⟨w.heap.size+1,0,none⟩ (.slice (some ⟨g',0,none⟩) ((uT F n pre).length+1) cap')).heap[k]?=W.heap[k]?:=fun k h1 h2 h3 =>
   (Below.heap_setCell _ _ _ k h3).trans ((hgrow.block k (by simp;omega) h2).trans (Below.heap_alloc _ _ _ (by omega)))
  have hKp:Bp b Bs W (w4.setCell ⟨w.heap.size+1,0,none⟩ (.slice (some ⟨g',0,none⟩) ((uT F n pre).length+1) cap')):=fun p hp u hu=>by
   have e:(w4.setCell ⟨w.heap.size+1,0,none⟩ (.slice (some ⟨g',0,none⟩) ((uT F n pre).length+1) cap')).heap[p.block]?=W.heap[p.block]?:=by
    rcases hp with e|e
    ·rw[e];refine hkk b (by omega) ?_ (by omega);rcases zCh NT hrow (by decide) with h1|h1
     ·rw[Qm] at h1;simp[Value.ownBlock] at h1
     rw[Qm] at h1;simpa [Value.ownBlock] using h1
    rw[e];exact hkk Bs (by omega) (Cu.not_row (by decide) hrow) (by omega)
   unfold World.cell? at hu |-;rw[e];exact hu
  exact ⟨hk2.from _,hKp,⟨⟨⟨_,hv2,by rw[hm,ax,aU];exact hr2,trivial⟩,hf5⟩,bX5,S9⟩,hB1.trans hb4⟩
 case done =>
  rintro D ys W hD rfl ⟨⟨⟨⟨v,hv,hrow,_⟩,_⟩,_,_⟩,hB1⟩ hK;have hc:=hv.cell
  gi_wp2
  refine ⟨by simp,.inl ⟨_,_,rfl,run_takeDeferred hK,?_⟩⟩;exact ⟨_,results_tmp rfl _ _ _,v,rfl,ownsRow_putObj hrow _ hK rfl,hB1.trans (belowK_b (w:=w) (ag _) W D _ _ (by omega) hK rfl rfl)⟩
 rintro D c' pre W _ _ h _;exact h.elim
end Go.Proofs.YtcgfilmmokmdjaaGreat
