import Derived.Test.YtcgfilmmokmdjaaGreatQAQ
import Derived.Test.YtcgfilmmokmdjaaGreatBe
import Derived.Test.YtcgfilmmokmdjaaGreatHe
import Derived.Test.YtcgfilmmokmdjaaGreatQAD
import Derived.Test.YtcgfilmmokmdjaaGreatQAF
import Derived.Test.YtcgfilmmokmdjaaGreatProg
import Derived.Lib.AppendZerosOnto
import Derived.Deep.Onto
import Derived.Lib.Overlaps
import Derived.Laws.Externs
set_option linter.all false
set_option maxRecDepth 100000
set_option maxHeartbeats 32000000
namespace Go.Proofs.YtcgfilmmokmdjaaGreat
theorem vJ {l:List Kl} {i:Nat} (h:i<l.length):yq l i∈l:=by
 unfold yq;rw[ax,aB h];exact bI h
theorem wM {l:List Kl} {i:Nat} (h:i<l.length):l[i]=yq l i:=by
 unfold yq;rw[ax,aB h];rfl
theorem Uj {l:List Kl} (ha:l.Pairwise fun a b=>a.1<b.1) {i j:Nat} (hij:i<j) (hj:j<l.length):(yq l i).1<(yq l j).1:=by
 have:=List.pairwise_iff_getElem.1 ha i j (by omega) hj hij;rw[wM,wM] at this;exact this
theorem zLW {l:List Kl} {num:Int} {i:Nat} (hi:i≤l.length) (h1:∀ k,i=k+1→(yq l k).1<num) (h2:i<l.length→¬ (yq l i).1<num) (ha:l.Pairwise fun a b=>a.1<b.1):gJ l num=i:=by
 have hlo:∀ j,j<i→(yq l j).1<num:=fun j hj=>by
  obtain ⟨k,rfl⟩:∃ k,i=k+1:=⟨i-1,by omega⟩
  have h3:=h1 k rfl
  by_cases e:j=k
  ·
   rw[e];exact h3
  have:=Uj ha (show j<k by omega) (by omega);omega
 unfold gJ
 by_cases hin:i<l.length
 ·
  rw[(List.findIdx?_eq_some_iff_getElem (p:=fun k:Kl=>decide (num≤k.1)) (i:=i)).2 ⟨hin,by rw[wM hin];have:=h2 hin;simp;omega,fun j hj=>by rw[wM (show j<l.length by omega)];have:=hlo j hj;simp;omega⟩]
  rfl
 have e:i=l.length:=by omega
 rw[List.findIdx?_eq_none_iff.2 fun x hx=>by
  obtain ⟨j,hj,rfl⟩:=cG hx
  rw[wM hj]
  have:=hlo j (by omega)
  simp;omega]
 exact e.symm
theorem Qn (l:List Kl) (num:Int):gJ l num≤l.length:=by
 unfold gJ
 cases h:l.findIdx? fun k=>decide (num≤k.1) with
 |none=>exact ag _
 |some i=>have:=(List.findIdx?_eq_some_iff_getElem.1 h).1;exact bU this
theorem Z_ (l:List Kl) (num:Int) {j:Nat} (h:j<gJ l num):(yq l j).1<num:=by
 unfold gJ at h
 cases e:l.findIdx? fun k=>decide (num≤k.1) with
 |none =>
  rw[e] at h;have h:j<l.length:=h;have:=List.findIdx?_eq_none_iff.1 e _ (vJ h)
  simpa using this
 |some i =>
  rw[e] at h;have h:j<i:=h;obtain ⟨h1,h2,h3⟩:=List.findIdx?_eq_some_iff_getElem.1 e;have:=h3 j h;rw[wM (show j<l.length by omega)] at this
  simpa using this
theorem zII (l:List Kl) (num:Int) (h:gJ l num<l.length):num≤(yq l (gJ l num)).1:=by
 have h0:=h;unfold gJ at h0
 cases e:l.findIdx? fun k=>decide (num≤k.1) with
 |none=>rw[e] at h0;exact absurd h0 (Nat.lt_irrefl _)
 |some i =>
  obtain ⟨h1,h2,_⟩:=List.findIdx?_eq_some_iff_getElem.1 e;have e2:gJ l num=i:=by unfold gJ;rw[e];rfl
  rw[e2,← wM h1]
  simpa using h2
structure ou (M:Nat) (l:List Kl):Prop where
 JV:l.Pairwise fun a b=>a.1<b.1
 num:∀ x∈l,1≤x.1∧x.1≤8
 len:∀ x∈l,x.2.length≤M
theorem ou.mono {M M':Nat} {l:List Kl} (h:ou M l) (hm:M≤M'):ou M' l:=⟨h.JV,h.num,fun x hx=>ak (h.len x hx) hm⟩
theorem ou.Uk {M:Nat} {l:List Kl} (h:ou M l):l.length≤8:=by
 have key:∀ j,j<l.length→(j:Int)+1≤(yq l j).1:=by
  intro j
  induction j with
  |zero=>intro hj;have:=(h.num _ (vJ hj)).1;omega
  |succ j ih =>
   intro hj;have h1:=ih (by omega);have h2:=Uj h.JV (show j<j+1 by omega) hj;omega
 by_cases e:0<l.length
 ·
  have h1:=key (l.length-1) (by omega);have h2:=(h.num _ (vJ (show l.length-1<l.length by omega))).2;omega
 omega
theorem ou.nil (M:Nat):ou M []:=⟨List.Pairwise.nil,(fun x hx=>by cases hx),(fun x hx=>by cases hx)⟩
theorem zDs {l:List Kl} {num key:Int} (h:gJ l num<l.length∧(yq l (gJ l num)).1=num):kL l num key=l.set (gJ l num) (num,(yq l (gJ l num)).2++[key]):=by unfold kL;rw[ah h]
theorem k9 {l:List Kl} {num key:Int} (h:¬ (gJ l num<l.length∧(yq l (gJ l num)).1=num)):kL l num key=l.take (gJ l num)++(num,[key])::l.drop (gJ l num):=by unfold kL;rw[ai h]
theorem ou.ins {M:Nat} {l:List Kl} (h:ou M l) {num:Int} (hn:1≤num∧num≤8) (key:Int):ou (M+1) (kL l num key):=by
 by_cases hh:gJ l num<l.length∧(yq l (gJ l num)).1=num
 ·
  rw[zDs hh];refine ⟨?_,fun x hx=>?_,fun x hx=>?_⟩
  ·
   rw[List.pairwise_iff_getElem];intro i j hi hj hij;rw[a_] at hi hj;have:=List.pairwise_iff_getElem.1 h.JV i j hi hj hij;rw[dJ,dJ];have e:l[gJ l num]=yq l (gJ l num):=wM hh.1
   split
   ·
    rename_i e1
    split
    ·
     omega
    subst e1
    show num<l[j].1
    rw[e,hh.2] at this;exact this
   split
   ·
    rename_i e1 e2;subst e2
    show l[i].1<num
    rw[e,hh.2] at this;exact this
   exact this
  ·
   rcases List.mem_or_eq_of_mem_set hx with hx|rfl
   ·
    exact h.num x hx
   exact hn
  rcases List.mem_or_eq_of_mem_set hx with hx|rfl
  ·
   exact Nat.le_succ_of_le (h.len x hx)
  have:=h.len _ (vJ hh.1)
  show ((yq l (gJ l num)).2++[key]).length≤_
  rw[aw];exact Nat.succ_le_succ this
 rw[k9 hh];have hle:=Qn l num;have hlo:=fun j (hj:j<gJ l num)=>Z_ l num hj
 have hup:∀ x∈l.drop (gJ l num),num<x.1:=fun x hx=>by
  obtain ⟨j,hj,rfl⟩:=cG hx;rw[aP] at hj;rw[List.getElem_drop,wM (show gJ l num+j<l.length by omega)];have h1:=zII l num (by omega);have h2:(yq l (gJ l num)).1≠num:=fun e=>hh ⟨by omega,e⟩
  by_cases e:j=0
  ·
   subst e;rw[bB];omega
  have:=Uj h.JV (show gJ l num<gJ l num+j by omega) (by omega);omega
 have nk:∀ x∈l.take (gJ l num),x.1<num:=fun x hx=>by
  obtain ⟨j,hj,rfl⟩:=cG hx;rw[ay] at hj;rw[List.getElem_take,wM (show j<l.length by omega)];exact hlo j (by omega)
 refine ⟨?_,fun x hx=>?_,fun x hx=>?_⟩
 ·
  rw[List.pairwise_append,dC];refine ⟨h.JV.sublist (List.take_sublist _ _),⟨fun y hy=>hup y hy,h.JV.sublist (List.drop_sublist _ _)⟩,fun x hx y hy=>?_⟩;have h1:=nk x hx;rcases List.mem_cons.1 hy with rfl|hy
  ·
   exact h1
  have:=hup y hy;omega
 ·
  rcases List.mem_append.1 hx with hx|hx
  ·
   exact h.num x (bT hx)
  rcases List.mem_cons.1 hx with rfl|hx
  ·
   exact hn
  exact h.num x (cN hx)
 rcases List.mem_append.1 hx with hx|hx
 ·
  exact Nat.le_succ_of_le (h.len x (bT hx))
 rcases List.mem_cons.1 hx with rfl|hx
 ·
  show [key].length≤_;simp
 exact Nat.le_succ_of_le (h.len x (cN hx))
theorem xX (l:List KP):(iM l).length=l.length:=aH ..
theorem NP {l:List KP} (i:Nat):yq (iM l) i=((gY l i).1,(gY l i).2.2):=by
 unfold yq iM gY;rw[ax,ax,b_]
 cases l[i]?<;>rfl
theorem uK {l:List KP} {i:Nat} (h:i<l.length):gY l i∈l:=by
 unfold gY;rw[ax,aB h];exact bI h
theorem uq {s:eX} {key:Int} {n:Int} (h:n∈zS s key):1≤n∧n≤8:=by
 unfold zS at h
 split at h
 ·
  rename_i hv;have hV:=(zW s).1 hv;obtain ⟨i,hi,e⟩:=cG h;obtain ⟨r,h1,h2,_,_⟩:=T8 s.dY key _ i hi;rw[aB hi,e] at h2;injection h2 with h2;have:=(hV.vg (show r<s.dY.length by omega)).num;rw[h2];exact this
 cases h
theorem qg (s:eX) (key:Int):(zS s key).length≤8:=by
 unfold zS
 split
 ·
  rename_i hv;have hV:=(zW s).1 hv;have h1:=Uc s.dY key (s.dY.length-1);have h2:=hV.len;omega
 exact aq _
theorem fu.set {K:Nat} {l:List Gn} (h:fu K l) {g:Gn} (hg:∀ i,i<8→(g.m.st i).length≤K):fu K (tH l g):=fun x hx i hi=>by
 rcases TF hx with hx|rfl
 ·
  exact h x hx i hi
 exact hg i hi
theorem kx {s:eX} {g:Gn} {K:Nat} (h:fu K s.dY) (hg:∀ i,i<8→(g.m.st i).length≤K):fu K (yV s g).1.dY:=by
 by_cases hc:(yV s g).2=0
 ·
  rw[P3 hc];exact h.set hg
 have e:(yV s g).1=xh:=by
  unfold yV at hc ⊢
  split
  ·
   rename_i h1;rw[ah h1] at hc
   split
   ·
    rename_i h2;rw[ah h2] at hc
    split
    ·
     rename_i h3;rw[ah h3] at hc;exact absurd rfl hc
    rfl
   rfl
  rfl
 rw[e];exact fun x hx=>by cases hx
theorem zBZ {s:eX} {num:Int} {keys:List Int} {K:Nat} (h:fu K s.dY):fu K (xW s num keys).1.dY:=by
 unfold xW
 split
 ·
  rename_i h1
  split
  ·
   refine kx h fun i hi=>?_
   have hk:=h _ (ti h1);have h0:((ix).m.st i).length≤K:=aq _;unfold xA
   split
   ·
    split
    ·
     exact h0
    exact wQ keys _ hk i hi
   exact h0
  exact fun x hx=>by cases hx
 exact fun x hx=>by cases hx
end Go.Proofs.YtcgfilmmokmdjaaGreat
namespace Go.Proofs.YtcgfilmmokmdjaaGreat
open Go.RowKit
theorem zJL (y:GP) (bg:Nat) (num:Int) (kv:Value) (w:World) (hg:dZ w bg #[.int .i64 num,kv] 89) :
  Calls Tryz.prog 112 #[zd y.1.num y.1.rev y.1.mode y.1.size y.2 y.1.m.live y.1.m.d_,.pointer (some ⟨bg,0,none⟩)] w fun e w'=>e=.returned (.bool (y.1.num==num))∧Below w.heap.size w w':=by
 obtain ⟨⟨yn,yr,ym,yz,⟨yf,yL,yG⟩⟩,ys⟩:=y;dsimp only;have fH:=zZ w yn yr ym yz ys yL yG 38;have HY:=zh (eO.new w yn yr ym yz ys yL yG 38);have HG:=zh (hg.below fH);have HB:=zh fH;clear hg fH
 go_enter Tryz.func112,Tryz.ntmps112
 go_upto_region 1 with fail;change Code.wp _ _ _ _ (w.alloc (.cells (zX yn yr ym yz ys yL yG) 38));generalize w.alloc (.cells (zX yn yr ym yz ys yL yG) 38)=w1 at *;have q0:=HY.out.n0;have q1:=HG.out.cell (i:=0) rfl;go_wp2_with fail;go_ret;exact ⟨rfl,HB.out⟩
theorem zEs (a:Option Addr) (n c:Nat) (L:List GP) (bg:Nat) (num:Int) (kv:Value) (w:World) (h:fD w (.slice a n c) L) (hn:n≤1000000) (hg:dZ w bg #[.int .i64 num,kv] 89) :
  Calls Tryz.prog 57 #[.slice a n c,.func (.func 112) #[] #[.pointer (some ⟨bg,0,none⟩)]] w fun e w'=>(∃ z,e=.returned (.int .i64 z)∧Ld L num z)∧Below w.heap.size w w':=by
 have fO:L.length=n:=by
  obtain ⟨_,_,e,_⟩:=h.shape;injection e with _ e _;exact e.symm
 have Hr:=zh h;have Hg:=zh hg;have jb:=zh fO;clear h hg fO
 go_enter Tryz.func57,Tryz.ntmps57
 go_wp2_with fail
 go_loopw [8] (fun i wr=>∃ k:Nat,k≤n∧i=.int .i64 (k:Int)∧Hid (∀ j,j<k→(pat L j).1.num≠num)∧Hid (Below w.heap.size w wr)) (fun i _=>n-(intOf i).toNat)
 case atStart=>exact ⟨0,aq _,rfl,zh (fun j hj=>absurd hj (by omega)),zh (aj _ _)⟩
 obtain ⟨k,hk,rfl,mf,Hb⟩:=hrel
 by_cases hlt:k<n
 ·
  have hr:=Hr.out.below Hb.out;obtain ⟨b,off,rfl,hat⟩:=hr.at hlt;have HV:=zh (fun W (hb:Below wr.heap.size wr W)=>zJL (pat L k) bg num kv W ((Hg.out.below Hb.out).below hb))
  have A2:=zh (show (pat L k).1.num≠num→∀ j,j<k+1→(pat L j).1.num≠num from fun ho j hj=>by
   by_cases e:j=k
   ·
    subst e;exact ho
   exact mf.out j (by omega))
  have G1:=zh (show (pat L k).1.num=num→Ld L num (k:Int) from fun e=>.inl ⟨k,by rw[jb.out];exact hlt,rfl,e,mf.out⟩);clear hr;generalize pat L k=p at *;obtain ⟨⟨xn,xr,xm,xz,⟨xf,xL,xG⟩⟩,xs⟩:=p;obtain ⟨g0,g1,g2,g3,g4,g5,g6,g7,g8,g9,g10,g11,g12,g13⟩:=hat;dsimp only at g0 g1 g2 g3 g4 g5 g6 g7 g8 g9 g10 g11 g12 g13 HV A2 G1;have i1:(k:Int)<(n:Int):=by omega
  go_wp2_with fail;refine (HV.out _ (aj _ _)).mono ?_;rintro e w1 ⟨rfl,hb1⟩;have mQ:=zh (zA Hb.out hb1)
  by_cases hx:xn=num
  ·
   have HF:=zh (G1.out hx);have hx1:(xn==num)=true:=by simp[hx]
   clear hb1 hx A2 G1 HV;go_wp2_with fail;go_ret;exact ⟨⟨_,rfl,HF.out⟩,mQ.out⟩
  have HF:=zh (A2.out hx);have hx1:(xn==num)=false:=by simp[hx]
  clear hb1 hx A2 G1 HV;go_wp2_with fail;exact ⟨⟨k+1,by omega,by go_num,HF,mQ⟩,by simp[intOf];omega⟩
 obtain rfl:k=n:=by omega
 have i1:¬ (k:Int)<(k:Int):=by omega
 have HF:=zh (show Ld L num (-1) from .inr ⟨rfl,by rw[jb.out];exact mf.out⟩);go_wp2_with fail;go_ret;exact ⟨⟨_,rfl,HF.out⟩,Hb.out⟩
theorem zBd {l:List Gn} {num:Int} {k:Nat} (hk:k<l.length) (h1:(eV l k).num=num) (h2:∀ j,j<k→(eV l j).num≠num):kQ l num=k:=by
 have e:∀ j (hj:j<l.length),l[j]=eV l j:=fun j hj=>by unfold eV;rw[ax,aB hj];rfl
 unfold kQ;rw[(List.findIdx?_eq_some_iff_getElem (p:=fun g:Gn=>decide (g.num=num)) (i:=k)).2 ⟨hk,by rw[e k hk];simpa using h1,fun j hj=>by rw[e j (by omega)];simpa using h2 j hj⟩]
 rfl
theorem zHi {l:List Gn} {num:Int} (h:∀ j,j<l.length→(eV l j).num≠num):kQ l num=l.length:=by
 unfold kQ
 rw[List.findIdx?_eq_none_iff.2 fun x hx=>by
  obtain ⟨j,hj,rfl⟩:=cG hx
  have:=h j hj
  unfold eV at this
  rw[ax,aB hj] at this
  simpa using this]
 rfl
theorem zEG (l:List Int):∀ (M:Mp) {K:Nat},(∀ i,i<8→(M.st i).length≤K)→∀ i,i<8→((l.foldl yP M).st i).length≤K:=fun M _ h=>wQ l M h
theorem zBL (g:Gn) (l:List Int) {K:Nat} (h:∀ i,i<8→(g.m.st i).length≤K):∀ i,i<8→((xA g l).2.m.st i).length≤K:=fun i hi=>by
 have h0:((ix).m.st i).length≤K:=aq _;unfold xA
 split
 ·
  split
  ·
   exact h0
  exact zEG l g.m h i hi
 exact h0
def zLJ (er a b md z:Int) (f:Nat→List It) (L G:Int):mE:=⟨fun v w=>∃ s,v=.tuple #[zd a b md z s L G,.int .i64 er]∧fG w s f,fun _ _ _ hb ⟨s,h1,h2⟩=>⟨s,h1,h2.below hb⟩⟩
def zL9 (a b md z:Int) (f:Nat→List It) (L G:Int):mE:=⟨fun v w=>∃ s,v=zd a b md z s L G∧fG w s f,fun _ _ _ hb ⟨s,h1,h2⟩=>⟨s,h1,h2.below hb⟩⟩
theorem zEQ (n' r' md' z':Int) (s':Sl) (l' g':Int):(zQ n' r' md' z' s' l' g').foldl (fun cs p=>cs.setIfInBounds p.1 p.2) (zX 0 0 0 0 Sl.nil 0 0)=zX n' r' md' z' s' l' g':=by
 simp only[List.foldl_cons,List.foldl_nil,aK,aM,aJ]
theorem zHQ (s:eX) (a:Option Addr) (n c:Nat) (L:List GP) (w:World) (h:fD w (.slice a n c) L) (hg:ep L=s.dY) (hl:fu 1000 s.dY) (hn:n≤1000000) (num:Int) (kv:Value) (keys:List Int) (hk:lT w kv keys) (hkl:keys.length≤1000) :
  Calls Tryz.prog 71 #[zO s.id s.lim s.ro a n c,.agg #[.int .i64 num,kv]] w (D6 w (xW s num keys)):=by
 have fO:L.length=n:=by
  obtain ⟨_,_,e,_⟩:=h.shape;injection e with _ e _;exact e.symm
 have Hkl:=zh hkl;have Ny:=zh (fun W bg (hb:Below w.heap.size w W) (hq:dZ W bg #[.int .i64 num,kv] 89)=>zEs a n c L bg num kv W (h.below hb) hn hq);have HE:=zh (show xW s num keys=if kQ s.dY num<s.dY.length then (if (xA (eV s.dY (kQ s.dY num)) keys).1=0 then yV s (xA (eV s.dY (kQ s.dY num)) keys).2 else (xh,(xA (eV s.dY (kQ s.dY num)) keys).1)) else (xh,6) from rfl);have Ul:s.dY.length=n:=by rw[← hg,zn];exact fO
 have Um:∀ q,eV s.dY q=(pat L q).1:=fun q=>by rw[← hg];exact yv
 obtain ⟨ka,kc,rfl,_,_⟩:=hk.fK;have HKu:=zh hk;clear hkl hk;generalize NQ:keys.length=kn at *;have Un:=zh NQ;clear NQ;obtain ⟨W,hW⟩:∃ W,((w.alloc (.cells (zK s.id s.lim s.ro a n c) 27)).alloc (.cells #[.int .i64 num,.slice ka kn kc] 89)).alloc (.cells (zK 0 0 false none 0 0) 27)=W:=⟨_,rfl⟩
 have hb1:=zM w s.id s.lim s.ro a n c 27;have hb2:=(aj (w.alloc (.cells (zK s.id s.lim s.ro a n c) 27)).heap.size (w.alloc (.cells (zK s.id s.lim s.ro a n c) 27))).alloc (ag _) (.cells #[.int .i64 num,.slice ka kn kc] 89);have hb3:=zM ((w.alloc (.cells (zK s.id s.lim s.ro a n c) 27)).alloc (.cells #[.int .i64 num,.slice ka kn kc] 89)) 0 0 false none 0 0 27;have HX:=zh (show dZ W w.heap.size (zK s.id s.lim s.ro a n c) 27 from hW▸((dZ.new w (zK s.id s.lim s.ro a n c) 27).below hb2).below hb3)
 have HK:=zh (show dZ W (w.heap.size+1) #[.int .i64 num,.slice ka kn kc] 89 from hW▸(show dZ _ (w.heap.size+1) #[.int .i64 num,.slice ka kn kc] 89 from by
  have h:=dZ.new (w.alloc (.cells (zK s.id s.lim s.ro a n c) 27)) #[.int .i64 num,.slice ka kn kc] 89
  rwa [show (w.alloc (.cells (zK s.id s.lim s.ro a n c) 27)).heap.size=w.heap.size+1 by simp] at h).below hb3)
 have HR:=zh (show eW W (w.heap.size+1+1) 0 0 false none 0 0 from hW▸(by
  have h:=eW.new ((w.alloc (.cells (zK s.id s.lim s.ro a n c) 27)).alloc (.cells #[.int .i64 num,.slice ka kn kc] 89)) 0 0 false none 0 0 27
  rwa [show ((w.alloc (.cells (zK s.id s.lim s.ro a n c) 27)).alloc (.cells #[.int .i64 num,.slice ka kn kc] 89)).heap.size=w.heap.size+1+1 by simp] at h))
 have HB:=zh (show Below w.heap.size w W from hW▸zA (zA hb1 hb2) hb3);have HM:=zh (show ∀ q,q<n→fG w (pat L q).2 (pat L q).1.m.st∧∀ j,j<8→((pat L q).1.m.st j).length≤1000 from fun q hq=>⟨h.m _ (yX (by omega)),fun j hj=>hl _ (by rw[← Um];exact ti (by omega)) j hj⟩);have Bi:=zh h;have Ab:=zh (fun W g sl (hb:Below w.heap.size w W) (hm:fG W sl g.m.st) (rW:∀ j,j<8→(g.m.st j).length≤10000)=>Z6 s a n c L W (h.below hb) hg hl g sl hm rW);have Qo:=zh Um;have Uo:=zh Ul;clear hb1 hb2 hb3 h hg hl Um Ul
 go_enter Tryz.func71,Tryz.ntmps71
 go_upto_region 1 with fail;clear hW;have k3:=HX.out.cell (i:=3) rfl;go_wp2_with fail;refine (Ny.out W (w.heap.size+1) HB.out HK.out).mono ?_;rintro e w1 ⟨⟨z,rfl,hz⟩,hb⟩;clear k3 Ny;replace HX:=zh (HX.out.below hb);replace HK:=zh (HK.out.below hb);replace HR:=zh (HR.out.below hb);replace HB:=zh (zA HB.out hb);clear hb;rcases hz with ⟨k,oD,rfl,hk2,hk3⟩|⟨rfl,hz⟩
 ·
  have hkn:k<n:=by omega
  have HG:=zh (show kQ s.dY num=k from zBd (by rw[Uo.out];exact hkn) (by rw[Qo.out];exact hk2) fun j hj=>by rw[Qo.out];exact hk3 j hj);have Bt:=zh (show xW s num keys=if (xA (pat L k).1 keys).1=0 then yV s (xA (pat L k).1 keys).2 else (xh,(xA (pat L k).1 keys).1) by rw[HE.out,HG.out,ah (by rw[Uo.out];exact hkn),Qo.out]);have nN:=HM.out k hkn;have Bl:=zh (fun W2 (hb:Below w1.heap.size w1 W2)=>zJe (pat L k).1 (pat L k).2 (.slice ka kn kc) keys W2 (nN.1.below (zA HB.out hb)) (fun j hj=>ak (nN.2 j hj) (by decide)) (iE.below HKu.out (zA HB.out hb)) (by rw[Un.out];exact ak Hkl.out (by decide)));have hlen:∀ j,j<8→((xA (pat L k).1 keys).2.m.st j).length≤10000:=fun j hj=>ak (zBL (pat L k).1 keys nN.2 j hj) (by decide)
  have HLe:=zh hlen;obtain ⟨gb,go,e0,hat⟩:=(Bi.out.below HB.out).at hkn;subst e0;have HGA:=zh hat;clear HE HG HM nN hlen hat hk2 hk3;generalize xW s num keys=RR at *;generalize hK:xA (pat L k).1 keys=KG at *;clear hK;obtain ⟨er,⟨tn,tr,tm,tz,⟨tf,tL,tG⟩⟩⟩:=KG;generalize pat L k=p at *;obtain ⟨⟨pn,pr,pm,pz,⟨pf,pL,pG⟩⟩,ps⟩:=p;dsimp only at Bl Bt HLe;have Up:(0:Int)≤(k:Int):=by omega
  have Uq:(k:Int)<(n:Int):=by omega
  have i1:¬ (k:Int)<0:=by omega
  go_upto_region 4 with fail
  go_cut [7,8] (fun vb ve wx=>∃ bG s9,vb=.pointer (some ⟨bG,0,none⟩)∧ve=.int .i64 er∧w1.heap.size≤bG∧Hid (dZ wx bG (zX tn tr tm tz s9 tL tG) 38)∧Hid (fG wx s9 tf)∧Hid (Below w1.heap.size w1 wx))
  case first =>
   refine ye [eR (.pointer (some ⟨w.heap.size,3,none⟩)),eR (.slice (some ⟨gb,go,none⟩) n c),eR (.int .i64 (k:Int)),eR (.pointer (some ⟨gb,go+k*14,none⟩)),eR (zd pn pr pm pz ps pL pG),eR (.pointer (some ⟨w.heap.size+1,1,none⟩)),eR (.slice ka kn kc),zLJ er tn tr tm tz tf tL tG,zLJ er tn tr tm tz tf tL tG,zL9 tn tr tm tz tf tL tG,eR (.int .i64 er),zMJ 38 w1.heap.size] [11] 36 10 (by kernel_rfl) (by kernel_rfl) rfl rfl (by decide) (by rfl) (by kernel_rfl) (fun f=>by simp[fF,zT,Act.put];exact rfl) ?_ ?_ ?_
   ·
    refine ⟨?_,?_,?_,?_,?_,?_,?_,?_,?_,?_,?_,?_,trivial⟩
    ·
     intro f w2 hb hd;clear hd;dsimp only;go_wp2_with fail;exact pS rfl (by simp)
    ·
     intro f w2 hb hd;have d0:f 0=(.pointer (some ⟨w.heap.size,3,none⟩)):=hd 0 (by kernel_rfl);clear hd;dsimp only;rw[d0];have q3:=(HX.out.below hb).cell (i:=3) rfl;go_wp2_with fail;exact pS rfl (by simp)
    ·
     intro f w2 hb hd;clear hd;dsimp only;go_wp2_with fail;exact pS rfl (by simp)
    ·
     intro f w2 hb hd;have d1:f 1=(.slice (some ⟨gb,go,none⟩) n c):=hd 1 (by kernel_rfl);have d2:f 2=(.int .i64 (k:Int)):=hd 2 (by kernel_rfl);clear hd;dsimp only;rw[d1];rw[d2];have j0:=Up;have j1:=Uq;go_wp2_with fail;exact pS rfl (by simp)
    ·
     intro f w2 hb hd;have d3:f 3=(.pointer (some ⟨gb,go+k*14,none⟩)):=hd 3 (by kernel_rfl);clear hd;dsimp only;rw[d3];have hx:=HGA.out.below hb;obtain ⟨q0,q1,q2,q3,q4,q5,q6,q7,q8,q9,Dq,Dr,Ds,Dt⟩:=hx.q;clear hx;dsimp only at q0 q1 q2 q3 q4 q5 q6 q7 q8 q9 Dq Dr Ds Dt;go_wp2_with fail;exact pS rfl (by simp)
    ·
     intro f w2 hb hd;clear hd;dsimp only;go_wp2_with fail;exact pS rfl (by simp)
    ·
     intro f w2 hb hd;have d5:f 5=(.pointer (some ⟨w.heap.size+1,1,none⟩)):=hd 5 (by kernel_rfl);clear hd;dsimp only;rw[d5];have q1:=(HK.out.below hb).cell (i:=1) rfl;go_wp2_with fail;exact pS rfl (by simp)
    ·
     intro f w2 hb hd;have d4:f 4=(zd pn pr pm pz ps pL pG):=hd 4 (by kernel_rfl);have d6:f 6=(.slice ka kn kc):=hd 6 (by kernel_rfl);clear hd;dsimp only;rw[d4];rw[d6];go_wp2_with fail;refine (Bl.out w2 hb).mono ?_;rintro e w9 ⟨⟨s9,rfl,BU⟩,gI⟩;have lg:=zh BU.rd;clear BU;go_wp2_with fail;exact ⟨rfl,gI,fun t ht=>by injection ht with ht;subst ht;exact ⟨⟨s9,rfl,lg.out⟩,fun h=>by simp at h⟩⟩
    ·
     intro f w2 hb hd;obtain ⟨s7,d7,r7⟩:=show ∃ s,f 7=.tuple #[zd tn tr tm tz s tL tG,.int .i64 er]∧fG w2 s tf from hd 7 (by kernel_rfl);clear hd;dsimp only;rw[d7];have lg:=zh r7;clear r7;go_wp2_with fail;exact ⟨rfl,aj _ _,fun t ht=>by injection ht with ht;subst ht;exact ⟨⟨s7,rfl,lg.out⟩,fun h=>by simp at h⟩⟩
    ·
     intro f w2 hb hd;obtain ⟨s8,d8,r8⟩:=show ∃ s,f 8=.tuple #[zd tn tr tm tz s tL tG,.int .i64 er]∧fG w2 s tf from hd 8 (by kernel_rfl);clear hd;dsimp only;rw[d8];have lg:=zh r8;clear r8;go_wp2_with fail;exact ⟨rfl,aj _ _,fun t ht=>by injection ht with ht;subst ht;exact ⟨⟨s8,rfl,lg.out⟩,fun h=>by simp at h⟩⟩
    ·
     intro f w2 hb hd;obtain ⟨s8,d8,r8⟩:=show ∃ s,f 8=.tuple #[zd tn tr tm tz s tL tG,.int .i64 er]∧fG w2 s tf from hd 8 (by kernel_rfl);clear hd;dsimp only;rw[d8];clear r8;go_wp2_with fail;exact pS rfl (by simp)
    intro f w2 hb hd;clear hd;dsimp only;have rR:=hb.size;have Du:=dZ.new w2 (zX 0 0 0 0 Sl.nil 0 0) 38;go_wp2_with fail;exact ⟨rfl,(aj _ _).alloc (ag _) _,fun t ht=>by injection ht with ht;subst ht;exact ⟨⟨_,rfl,rR,Du⟩,fun _=>⟨ag _,by simp[blk]⟩⟩⟩
   ·
    intro f w8 hb hd jw;clear jw;obtain ⟨s9,d9,r9⟩:=show ∃ s,f 9=zd tn tr tm tz s tL tG∧fG w8 s tf from hd 9 (show 9<12 by decide);obtain ⟨bG,d11,lo,bx⟩:=show ∃ b,f 11=.pointer (some ⟨b,0,none⟩)∧w1.heap.size≤b∧dZ w8 b (zX 0 0 0 0 Sl.nil 0 0) 38 from hd 11 (show 11<12 by decide);have d10:f 10=.int .i64 er:=hd 10 (show 10<12 by decide)
    try dsimp only
    rw[d9,d10,d11];clear hd d9 d10 d11;have jU:=zh (show dZ (pts w8 bG (zQ tn tr tm tz s9 tL tG)) bG (zX tn tr tm tz s9 tL tG) 38 from (by have h:=dZ.sets (zQ tn tr tm tz s9 tL tG) bx;rw[zEQ] at h;exact h));have iq:=zh (fG.gen r9 bx (zQ tn tr tm tz s9 tL tG));have fV:=zh (zD (B:=w1.heap.size) (b:=bG) lo (zQ tn tr tm tz s9 tL tG) hb);have bg:=bx.gen;obtain ⟨g0,g1,g2,g3,g4,g5,g6,g7,g8,g9,g10,g11,g12,g13⟩:=bg.q;have gf:=bg.f;clear r9 bx bg hb;generalize f 0=rI,f 1=rJ,f 2=pY,f 3=pZ,f 4=p_,f 5=q_,f 6=rK,f 7=B9,f 8=Lf;clear f;change wpList _ _ _ (_::_::[]) _ _;go_wp2_with fail;go_meet
    case rel=>exact ⟨bG,s9,rfl,rfl,lo,jU,iq,fV⟩
   intro f w8 hb hd jw;clear jw;obtain ⟨s9,d9,r9⟩:=show ∃ s,f 9=zd tn tr tm tz s tL tG∧fG w8 s tf from hd 9 (show 9<12 by decide) (show 9≠10 by decide);obtain ⟨bG,d11,lo,bx⟩:=show ∃ b,f 11=.pointer (some ⟨b,0,none⟩)∧w1.heap.size≤b∧dZ w8 b (zX 0 0 0 0 Sl.nil 0 0) 38 from hd 11 (show 11<12 by decide) (show 11≠10 by decide);obtain ⟨s8,d8,r8⟩:=show ∃ s,f 8=.tuple #[zd tn tr tm tz s tL tG,.int .i64 er]∧fG w8 s tf from hd 8 (show 8<12 by decide) (show 8≠10 by decide);clear r8
   try dsimp only
   rw[d8,d9,d11];clear hd d8 d9 d11;have jU:=zh (show dZ (pts w8 bG (zQ tn tr tm tz s9 tL tG)) bG (zX tn tr tm tz s9 tL tG) 38 from (by have h:=dZ.sets (zQ tn tr tm tz s9 tL tG) bx;rw[zEQ] at h;exact h));have iq:=zh (fG.gen r9 bx (zQ tn tr tm tz s9 tL tG));have fV:=zh (zD (B:=w1.heap.size) (b:=bG) lo (zQ tn tr tm tz s9 tL tG) hb);have bg:=bx.gen;obtain ⟨g0,g1,g2,g3,g4,g5,g6,g7,g8,g9,g10,g11,g12,g13⟩:=bg.q;have gf:=bg.f;clear r9 bx bg hb;generalize f 0=rI,f 1=rJ,f 2=pY,f 3=pZ,f 4=p_,f 5=q_,f 6=rK,f 7=B9,f 10=o6;clear f;change wpList _ _ _ (_::_::_::[]) _ _;go_wp2_with fail;go_meet
   case rel=>exact ⟨bG,s9,rfl,rfl,lo,jU,iq,fV⟩
  obtain ⟨bG,s9,rfl,rfl,hlo,MP,HRg,fV⟩:=hcut;generalize wc=w3 at *;replace HX:=zh (HX.out.below fV.out);replace HK:=zh (HK.out.below fV.out);replace HR:=zh (HR.out.below fV.out);replace HB:=zh (zA HB.out fV.out);clear fV Bl HGA
  by_cases Qp:er=0
  ·
   subst Qp;have Lg:=zh (show RR=yV s ⟨tn,tr,tm,tz,⟨tf,tL,tG⟩⟩ by rw[Bt.out,ah rfl]);have Qq:=zh (Ab.out w3 ⟨tn,tr,tm,tz,⟨tf,tL,tG⟩⟩ s9 HB.out HRg.out HLe.out);clear Bt Ab;rw[← Lg.out] at Qq;clear Lg;obtain ⟨R,rc⟩:=RR;dsimp only at Qq;have hb3:w.heap.size+1+1<w3.heap.size:=HR.out.lt;have x0:=HX.out.cell (i:=0) rfl;have x1:=HX.out.cell (i:=1) rfl;have x2:=HX.out.cell (i:=2) rfl;have x3:=HX.out.cell (i:=3) rfl;obtain ⟨g0,g1,g2,g3,g4,g5,g6,g7,g8,g9,g10,g11,g12,g13⟩:=MP.out.gen.q;go_wp2_with fail;refine Qq.out.mono ?_;rintro e w4 ⟨⟨ra,rn,rcp,RL,rfl,hown,hgn⟩,hb⟩;dsimp only;have HO:=zh hown;have jU:=zh hgn;clear hown hgn x0 x1 x2 x3 g0 g1 g2 g3 g4 g5 g6 g7 g8 g9 g10 g11 g12 g13;replace HR:=zh (HR.out.below hb);replace HB:=zh (zA HB.out hb);clear hb Qq;obtain ⟨z0,z1,z2,z3⟩:=HR.out.q;have zf:=HR.out.f
   go_wp2_with fail;change bodyPost _ _ _ _ _ (pts w4 (w.heap.size+1+1) (zR R.id R.lim R.ro ra rn rcp));have hby:=HR.out.all R.id R.lim R.ro ra rn rcp;have eD:=zh (zD (B:=w.heap.size) (b:=w.heap.size+1+1) (by omega) (zR R.id R.lim R.ro ra rn rcp) HB.out);have A1:=zh ((HO.out.pts (b:=w.heap.size+1+1) hb3 (zR R.id R.lim R.ro ra rn rcp)).lower (show w.heap.size≤w3.heap.size by omega));generalize pts w4 (w.heap.size+1+1) (zR R.id R.lim R.ro ra rn rcp)=V at *;exact au (v:=.tuple #[zO R.id R.lim R.ro ra rn rcp,.int .i64 rc]) (by simp[results,Tryz.results71,go_sem,hby.c0,hby.c1,hby.c2,hby.c3]) rfl (⟨⟨_,_,_,RL,rfl,A1.out,jU.out⟩,eD.out⟩)
  have Lg:=zh (show RR=(xh,er) by rw[Bt.out,ai Qp]);have e1:(er != 0)=true:=by simpa using Qp
  clear Bt Qp;obtain ⟨z0,z1,z2,z3⟩:=HR.out.q;have zf:=HR.out.f;go_wp2_with fail;change bodyPost _ _ _ _ _ (pts w3 (w.heap.size+1+1) (zR 0 0 false none 0 0));have hby:=HR.out.all 0 0 false none 0 0;have eD:=zh (zD (B:=w.heap.size) (b:=w.heap.size+1+1) (by omega) (zR 0 0 false none 0 0) HB.out);generalize pts w3 (w.heap.size+1+1) (zR 0 0 false none 0 0)=V at *;exact au (v:=.tuple #[zO 0 0 false none 0 0,.int .i64 er]) (by simp[results,Tryz.results71,go_sem,hby.c0,hby.c1,hby.c2,hby.c3]) rfl (by rw[Lg.out];exact D6.no eD.out)
 have Lg:=zh (show xW s num keys=(xh,6) by
  rw[HE.out,zHi fun j hj=>by rw[Qo.out];exact hz j (by rw[Uo.out] at hj;omega),ai (by omega)])
 clear hz HE;generalize xW s num keys=RR at *;obtain ⟨z0,z1,z2,z3⟩:=HR.out.q;have zf:=HR.out.f;go_wp2_with fail;change bodyPost _ _ _ _ _ (pts w1 (w.heap.size+1+1) (zR 0 0 false none 0 0));have hby:=HR.out.all 0 0 false none 0 0;have eD:=zh (zD (B:=w.heap.size) (b:=w.heap.size+1+1) (by omega) (zR 0 0 false none 0 0) HB.out);generalize pts w1 (w.heap.size+1+1) (zR 0 0 false none 0 0)=V at *;exact au (v:=.tuple #[zO 0 0 false none 0 0,.int .i64 6]) (by simp[results,Tryz.results71,go_sem,hby.c0,hby.c1,hby.c2,hby.c3]) rfl (by rw[Lg.out];exact D6.no eD.out)
abbrev mY (w:World) (v:Value) (ks:List KP):Prop:=iN 2 gU w v ks
theorem mY.at {w:World} {a:Option Addr} {n cap:Nat} {ks:List KP} (h:mY w (.slice a n cap) ks) {j:Nat} (hj:j<n):∃ b off,a=some ⟨b,off,none⟩∧w.cell? ⟨b,off+j*2,none⟩=some (.int .i64 (gY ks j).1)∧w.cell? ⟨b,off+j*2+1,none⟩=some (gY ks j).2.1:=by
 obtain ⟨a',cap',e,h2,h3,_,h5⟩:=iN.shape h (by decide) (0,.slice none 0 0,[]);injection e with e1 e2 e3;subst e1 e2 e3;obtain ⟨b,off,e,hc⟩:=h5 (by omega);refine ⟨b,off,e,?_,hc j hj 1 _ rfl⟩;have:=hc j hj 0 _ rfl;rwa [bB] at this
theorem mY.len {w:World} {a:Option Addr} {n cap:Nat} {ks:List KP} (h:mY w (.slice a n cap) ks):ks.length=n:=by
 obtain ⟨_,_,e,_⟩:=iN.shape h (by decide) (0,.slice none 0 0,[]);injection e with _ e _;exact e.symm
theorem ku (g num:Int) (kv:Value) (w:World) (h1:-1000≤g∧g≤1000) (h2:-1000≤num∧num≤1000):Calls Tryz.prog 183 #[.agg #[.int .i64 g,kv],.int .i64 num] w fun e w'=>e=.returned (.int .i64 (g-num))∧Below w.heap.size w w':=by
 have hb:=(aj w.heap.size w).alloc (ag _) (.cells #[.int .i64 g,kv] 89);have HY:=zh (dZ.new w #[.int .i64 g,kv] 89);have HB:=zh hb;obtain ⟨a1,a2⟩:=h1;obtain ⟨b1,b2⟩:=h2;clear hb
 go_enter Tryz.func183,Tryz.ntmps183
 go_upto_region 1 with fail;change Code.wp _ _ _ _ (w.alloc (.cells #[.int .i64 g,kv] 89));generalize w.alloc (.cells #[.int .i64 g,kv] 89)=w1 at *;have q0:=HY.out.cell (i:=0) rfl;go_wp2_with fail;go_ret;exact ⟨rfl,HB.out⟩
theorem zJz (a:Option Addr) (n cap:Nat) (ks:List KP) (num:Int) (w:World) (h:mY w (.slice a n cap) ks) (ha:(iM ks).Pairwise fun a b=>a.1<b.1) (hk:∀ x∈iM ks,1≤x.1∧x.1≤8) (gT:1≤num∧num≤8) (hs:n≤1000000) :
  Calls Tryz.prog 182 #[.slice a n cap,.int .i64 num,.func (.func 183) #[] #[]] w fun e w' =>
   e=.returned (.tuple #[.int .i64 (gJ (iM ks) num:Int),.bool (decide (gJ (iM ks) num<n)&&(yq (iM ks) (gJ (iM ks) num)).1==num)])∧Below w.heap.size w w':=by
 have Ur:(iM ks).length=n:=by rw[xX];exact h.len
 have HR:=zh h;have HL:=zh (fun i (hi:i≤n) x (y:i<n→num≤(yq (iM ks) i).1)=>zLW (l:=iM ks) (num:=num) (i:=i) (by rw[Ur];exact hi) x (by rw[Ur];exact fun h=>by have:=y h;omega) ha);have IB:=zh (show ∀ i,i<n→1≤(yq (iM ks) i).1∧(yq (iM ks) i).1≤8 from fun i hi=>hk _ (vJ (by omega)));have FR:=zh (show ∀ i,(gY ks i).1=(yq (iM ks) i).1 from fun i=>by rw[NP]);obtain ⟨m1,m2⟩:=gT;clear h ha hk Ur;generalize iM ks=KS at *
 go_enter Tryz.func182,Tryz.ntmps182
 go_wp2_with fail
 go_loopw [9,10] (fun iv jv W=>∃ i j:Nat,iv=.int .i64 (i:Int)∧jv=.int .i64 (j:Int)∧i≤j∧j≤n∧Hid (∀ k,i=k+1→(yq KS k).1<num)∧Hid (j<n→num≤(yq KS j).1)∧Hid (Below w.heap.size w W)) (fun iv jv _=>(intOf jv-intOf iv).toNat)
 case atStart=>exact ⟨0,n,rfl,rfl,aq _,ag _,zh (fun k hk=>by omega),zh (fun h=>absurd h (by omega)),zh (aj _ _)⟩
 obtain ⟨i,j,rfl,rfl,hij,hj,HLw,HHi,HB⟩:=hrel
 by_cases hlt:i<j
 ·
  obtain ⟨m,hm,hm1,lB⟩:∃ m:Nat,(i+j)/2=m∧i≤m∧m<j:=⟨(i+j)/2,rfl,by omega,by omega⟩
  have Pa:((i:Int)+(j:Int))/2=(m:Int):=by omega
  have i1:(i:Int)<(j:Int):=by omega
  obtain ⟨bb,off,rfl,c0,c1⟩:=(show mY _ _ _ from iN.below HR.out HB.out).at (show m<n by omega);rw[FR.out] at c0;obtain ⟨n1,n2⟩:=IB.out m (by omega)
  have nV:=zh (show ∀ k,m+1=k+1→(yq KS m).1<num→(yq KS k).1<num from fun k hk hx=>by
   obtain rfl:m=k:=by omega
   exact hx)
  have fh:=zh (fun (hx:num≤(yq KS m).1)=>(fun (_:m<n)=>hx));clear hm;generalize hgE:(yq KS m).1=g at *;have HgE:=zh hgE;clear hgE;generalize (gY ks m).2.1=kv at *
  by_cases hneg:g-num<0
  ·
   have hx:g<num:=by omega
   go_wp2_with fail;refine (ku g num kv _ ⟨by omega,by omega⟩ ⟨by omega,by omega⟩).mono ?_;rintro e w1 ⟨rfl,hb1⟩;have eP:=zh (zA HB.out hb1);clear hb1;go_wp2_with fail;exact ⟨⟨m+1,j,by go_num,rfl,by omega,hj,zh (fun k hk=>nV.out k hk hx),HHi,eP⟩,by simp[intOf];omega⟩
  have hx:num≤g:=by omega
  go_wp2_with fail;refine (ku g num kv _ ⟨by omega,by omega⟩ ⟨by omega,by omega⟩).mono ?_;rintro e w1 ⟨rfl,hb1⟩;have eP:=zh (zA HB.out hb1);clear hb1;go_wp2_with fail;exact ⟨⟨i,m,rfl,rfl,hm1,by omega,HLw,zh (fun _=>by rw[HgE.out];exact hx),eP⟩,by simp[intOf];omega⟩
 obtain rfl:i=j:=by omega
 have HE:=zh (HL.out i hj HLw.out HHi.out)
 by_cases hin:i<n
 ·
  have i1:(i:Int)<(n:Int):=by omega
  obtain ⟨bb,off,rfl,c0,c1⟩:=(show mY _ _ _ from iN.below HR.out HB.out).at hin;rw[FR.out] at c0;obtain ⟨n1,n2⟩:=IB.out i hin
  have HF:=zh (show (decide (gJ KS num<n)&&(yq KS (gJ KS num)).1==num)=((yq KS i).1-num==0) by
   rw[HE.out,aC hin,bV]
   by_cases e:(yq KS i).1=num
   ·
    rw[e];simp
   rw[beq_eq_false_iff_ne.2 e,beq_eq_false_iff_ne.2 (by omega)])
  generalize (yq KS i).1=g at *;generalize (gY ks i).2.1=kv at *;go_wp2_with fail;refine (ku g num kv _ ⟨by omega,by omega⟩ ⟨by omega,by omega⟩).mono ?_;rintro e w1 ⟨rfl,hb1⟩;have eP:=zh (zA HB.out hb1);clear hb1;go_wp2_with fail;go_ret2;exact ⟨by rw[HF.out,HE.out];rfl,eP.out⟩
 have i1:¬ (i:Int)<(n:Int):=by omega
 have HF:=zh (show (decide (gJ KS num<n)&&(yq KS (gJ KS num)).1==num)=false by rw[HE.out,aD hin,dt]);go_wp2_with fail;go_ret2;exact ⟨by rw[HF.out,HE.out];rfl,HB.out⟩
def fzK:List Value:=[.int .i64 0,.slice none 0 0]
def oz:Value:=.agg #[.int .i64 0,.slice none 0 0]
def tJ (k:Nat):List Value:=(List.replicate k fzK).flatMap id
theorem kW (k:Nat):(tJ k).length=k*2:=by
 unfold tJ;rw[yR 2 id _ (fun x hx=>by rw[(List.mem_replicate.1 hx).2];rfl),dA]
theorem kE:∀ m:Nat,(Builtin.zeroCells oz.cells m).toList=tJ m
 |0=>by simp[Builtin.zeroCells,tJ]
 |m+1=>by
  have e0:tJ (m+1)=tJ m++fzK:=by unfold tJ;rw[List.replicate_succ',b7];simp
  rw[e0,← kE m]
  show (Array.map _ (Array.range ((m+1)*2))).toList=(Array.map _ (Array.range (m*2))).toList++_
  have e:(m+1)*2=m*2+1+1:=by omega
  rw[e];simp only[Array.toList_map,Array.toList_range,List.range_succ,bD,List.map_cons,List.map_nil,bt]
  congr 1
  show _=[Value.int .i64 0,.slice none 0 0]
  have s4:oz.cells.size=2:=rfl;rw[s4];rw[show m*2%2=0 by omega,show (m*2+1)%2=1 by omega]
  rfl
theorem zL1 {n cap:Nat} (h1:n≤cap) (h2:cap≤maxLen):(n:Int)≤9223372036854775807:=by unfold maxLen at h2;omega
theorem Us:(Tryz.prog.info? 89).map (fun i=>(i.zero,i.size,i.bytes))=some (some oz,2,32):=by kernel_rfl
theorem wH:xt Tryz.prog 68 89 2 32:=by
 obtain ⟨i,h1,h2,h3,h4⟩:=cm Us;exact ⟨Tryz.underlying68,by decide,i,_,h1,h2,h3,h4,rfl⟩
theorem zCG {a b c:World} {row:Option Nat} (h:a.grownBy b row) (k:b.grownBy c row):a.grownBy c row:=
 ⟨k.os.trans h.os,k.tape.trans h.tape,k.output.trans h.output,ak h.size k.size,fun i hi hr=>(k.block i (cM hi h.size) hr).trans (h.block i hi hr)⟩
theorem zAY {w w':World} (h:Below w.heap.size w w') (row:Option Nat):w.grownBy w' row:=⟨h.os,h.tape,h.output,h.size,fun k hk _=>h.block k hk⟩
theorem zDV (w:World) (row:Option Nat):w.grownBy w.drew row:=zAY (zi (aj _ _)) row
theorem t7 {P:Program} {dT sT elem:TypeId} {sz bytes:Nat} (hE:xt P dT elem sz bytes) {w:World} {base:Nat} {e:TypeId} {n cap g:Nat} {xs:List Value} (h:w.ownsRow base e sz (.slice (some ⟨g,0,none⟩) n cap) n xs)
  {sa:Option Addr} {m sc:Nat} {news:List Value} (hs:Rd w sz (.slice sa m sc) m news) (o dl dc k:Nat) (hk:k=Nat.min m dl) (h0:0<k) (hsz:0<sz) (ho:o+k≤n) (h1:∀ u∈news.take (k*sz),u.oneCell'=true) :
  ∃ w',(∀ ty,(Builtin.copy_ #[dT,sT] ty #[.slice (some ⟨g,o*sz,none⟩) dl dc,.slice sa m sc]).run P w=.ok (.int .i64 (k:Int)) w') ∧
   w'.ownsRow base e sz (.slice (some ⟨g,0,none⟩) n cap) n (xs.take (o*sz)++news.take (k*sz)++xs.drop (o*sz+k*sz))∧w.grownBy w' (some g):=by
 obtain ⟨hl,a',cap',e1,_,_,_,hc⟩:=hs;injection e1 with e1 e2 e3;subst e1 e3;have F8:k≤m:=by rw[hk];exact Nat.min_le_left _ _
 have hlk:(news.take (k*sz)).length=k*sz:=by rw[ay,hl];exact bW (aW _ F8)
 have hp:0<news.length:=by rw[hl];exact Nat.mul_pos (by omega) hsz
 obtain ⟨b,off,e4,hcell⟩:=hc hp;subst e4;obtain ⟨w',hrun,hown,hgr⟩:=tl (P:=P) h (o*sz) (news.take (k*sz)) (by rw[hlk,← cq];exact aW _ ho) h1;rw[hlk] at hown;refine ⟨w',fun ty=>?_,hown,hgr⟩
 have hf:=run_firstCells_some (P:=P) (w:=w) sz k ⟨b,off,none⟩ m sc (news.take (k*sz)) hlk (fun j v hj=>by
  rw[yM]
  refine hcell j v ?_
  rw[cH] at hj
  split at hj
  ·
   exact hj
  cases hj)
 obtain ⟨ht,hZ⟩:=wh hE;simp[Builtin.copy_,run_underlying ht,Builtin.lenOf,hZ,← hk,hf,hrun,goInt]
theorem zHT {w:World} {base:Nat} {e:TypeId} {sz n cap g:Nat} {xs:List Value} (h:w.ownsRow base e sz (.slice (some ⟨g,0,none⟩) n cap) n xs) (k:Nat) (hk:n+k≤cap) :
  ∃ ys,ys.length=k*sz∧w.ownsRow base e sz (.slice (some ⟨g,0,none⟩) (n+k) cap) (n+k) (xs++ys):=by
 have hx:=h.1;rcases h.2 with ⟨h',_⟩|⟨g',cap',cur,h',hb,hg,hnc,hcm,hcs,jP⟩
 ·
  cases h'
 injection h' with h' _ h'';injection h' with h';injection h' with h' _;subst h' h'';have hN:(n+k)*sz≤cur.toList.length:=by rw[dM,hcs];exact aW _ hk
 rw[cq] at hN;refine ⟨(cur.toList.drop (n*sz)).take (k*sz),by rw[ay,aP];omega,?_,.inr ⟨g,cap,cur,rfl,hb,hg,hk,hcm,hcs,?_⟩⟩
 ·
  rw[aw,hx,ay,aP,cq];omega
 rw[cq,List.take_add,jP]
theorem ux {P:Program} {t e:TypeId} {sz bytes:Nat} (hE:xt P t e sz bytes) (g n cap k:Nat) (hk:k≤n) (hc:k<cap) :
  ∀ W kl,(Instr.slice t (.slice (some ⟨g,0,none⟩) n cap) (some (.int kl (k:Int))) none none).run P W=.ok (.slice (some ⟨g,k*sz,none⟩) (n-k) (cap-k)) W:=by
 obtain ⟨h1,h2⟩:=wh hE;intro W kl;rw[run_slice_l W t (some ⟨g,0,none⟩) n cap h1 kl (k:Int) (by omega) (by omega),h2];have:cap≠k:=by omega
 simp[Result.andThen,sliced,this,yM]
theorem zFl {w:World} {B:Nat} {a:Option Addr} {n cap:Nat} {xs:List Value} (h:w.ownsRow B 89 2 (.slice a n cap) n xs) (i k:Nat) (hi:i≤n) (h0:0<n) (hk:cap<i+k) (hs:i+k≤1000001) :
  ∃ w' c',(∀ ty,(Builtin.append_ #[68,3] ty #[.slice a i cap,.int .i64 (k:Int)]).run Tryz.prog w=.ok (.slice (some ⟨w.heap.size,0,none⟩) (i+k) c') w') ∧
   w'.ownsRow w.heap.size 89 2 (.slice (some ⟨w.heap.size,0,none⟩) (i+k) c') (i+k) (xs.take (i*2)++tJ k)∧Below w.heap.size w w'∧c'≤maxLen:=by
 obtain ⟨x,hx⟩:∃ x,Tryz.prog.info? 89=some x:=by
  cases hq:Tryz.prog.info? 89 with
  |none=>have:=Us;rw[hq] at this;cases this
  |some x=>exact ⟨x,rfl⟩
 have hI:=Us;rw[hx] at hI;injection hI with hI;injection hI with hz hI;injection hI with hs4 BJ;have hz:x.zero=some oz:=hz;have hcap:0<cap:=by
  rcases h.2 with ⟨e,_⟩|⟨g,c,_,e,_,_,hnc,_⟩
  ·
   injection e with _ e2 _;omega
  injection e with _ _ e3;omega
 obtain ⟨hl0,a',cap',e1,_,_,_,hc⟩:=zk h;injection e1 with e1 e2 e3;subst e1 e3;have hl:(xs.take (i*2)).length=i*2:=by rw[ay,hl0];exact bW (aW _ hi)
 have hold:(Builtin.firstCells x.size i (.slice a i cap)).run Tryz.prog w.drew=.ok (xs.take (i*2)).toArray w.drew:=by
  obtain ⟨b,off,e4,hcell⟩:=hc (by rw[hl0];omega);subst e4;rw[hs4];refine run_firstCells_some (P:=Tryz.prog) (w:=w.drew) 2 i ⟨b,off,none⟩ i cap _ hl (fun j v hj=>?_);rw[yM];refine hcell j v ?_;rw[cH] at hj
  split at hj
  ·
   exact hj
  cases hj
 have hnb:Builtin.nextslicecap (i+k) cap*x.bytes≤281474976710656:=growslice_fits hk (by rw[BJ];omega);have hr:∀ ty,_:=fun ty=>Lib.run_append_grow_zeros (P:=Tryz.prog) w 68 3 ty 89 x oz .i64 .i64 Tryz.underlying68 Tryz.underlying3 hx hz a i cap (xs.take (i*2)) hold k (by omega) (by rw[hs4];decide) hk (by omega) (by rw[BJ];omega) hnb
 refine ⟨_,_,hr,?_,(Below.drew (aj _ _)).alloc (ag _) _,grownCap_le_maxLen w (i+k) cap _ (by unfold maxLen;omega)⟩;have hge:=grownCap_ge w (i+k) cap 89;have hcm:grownCap w (i+k) cap 89≤maxLen:=grownCap_le_maxLen w (i+k) cap _ (by unfold maxLen;omega);have hzl:(tJ k).length=k*2:=by rw[kW]
 have hlen:(xs.take (i*2)++tJ k).length=(i+k)*2:=by rw[aw,hl,hzl,cq]
 refine ⟨hlen,.inr ⟨w.heap.size,_,_,rfl,ag _,dg w.drew _,hge,hcm,?_,?_⟩⟩
 ·
  have z4:oz.cells.size=2:=rfl;simp only[Array.size_append,cu,size_zeroCells,z4,hl,← cq];rw[show i+k+(grownCap w (i+k) cap 89-(i+k))=grownCap w (i+k) cap 89 from by omega]
 simp only[Array.toList_append];rw[kE,← hlen];exact List.take_left
theorem zG4 {xs z c:List Value} {n i:Nat} (hi:i≤n) (hx:xs.length=n*2) (hz:z.length=(n+1-i)*2) (hc:c.length=2) :
  ((xs.take (i*2)++z).take (i*2)++c++(xs.take (i*2)++z).drop (i*2+2)).take ((i+1)*2)++xs.drop (i*2)++((xs.take (i*2)++z).take (i*2)++c++(xs.take (i*2)++z).drop (i*2+2)).drop ((i+1)*2+(n-i)*2)=xs.take (i*2)++c++xs.drop (i*2):=by
 have hl:(xs.take (i*2)).length=i*2:=by rw[ay,hx];omega
 have e1:(xs.take (i*2)++z).take (i*2)=xs.take (i*2):=cL hl;have e2:(xs.take (i*2)++z).drop (i*2+2)=z.drop 2:=by rw[← cn,List.drop_left' hl]
 have l2:(xs.take (i*2)++c).length=(i+1)*2:=by rw[aw,hl,hc];omega
 have e3:(xs.take (i*2)++c++z.drop 2).drop ((i+1)*2+(n-i)*2)=[]:=bY (by rw[aw,l2,aP,hz];omega);rw[e1,e2,cL l2,e3,bZ]
theorem zFe {xs ys c:List Value} {n i:Nat} (hi:i≤n) (hx:xs.length=n*2) (hy:ys.length=2) :
  ((xs++ys).take ((i+1)*2)++((xs++ys).drop (i*2)).take ((n-i)*2)++(xs++ys).drop ((i+1)*2+(n-i)*2)).take (i*2)++c++((xs++ys).take ((i+1)*2)++((xs++ys).drop (i*2)).take ((n-i)*2)++(xs++ys).drop ((i+1)*2+(n-i)*2)).drop (i*2+2)=xs.take (i*2)++c++xs.drop (i*2):=by
 have ld:(xs.drop (i*2)).length=(n-i)*2:=by rw[aP,hx];omega
 have e1:((xs++ys).drop (i*2)).take ((n-i)*2)=xs.drop (i*2):=by
  rw[List.drop_append_of_le_length (by omega),cL ld]
 have e2:(xs++ys).drop ((i+1)*2+(n-i)*2)=[]:=bY (by rw[aw,hx,hy];omega);have l3:((xs++ys).take ((i+1)*2)).length=(i+1)*2:=by rw[ay,aw,hx,hy];omega
 rw[e1,e2,bZ];have e3:((xs++ys).take ((i+1)*2)++xs.drop (i*2)).take (i*2)=xs.take (i*2):=by
  rw[dU (by omega),dw,bW (by omega),dU (by omega)]
 have e4:((xs++ys).take ((i+1)*2)++xs.drop (i*2)).drop (i*2+2)=xs.drop (i*2):=List.drop_left' (by rw[l3];omega);rw[e3,e4]
theorem zBu {w:World} {hb g:Nat} {ca cb:Array Value} (hne:hb≠g) (ha:w.heap[hb]?=some (.cells ca 89 (0,0))) (hb':w.heap[g]?=some (.cells cb 89 (0,0))) (hn:cb.size≠0) (off:Nat) :
  ∀ la c lb d,(callFunc 201 #[.slice (some ⟨hb,0,none⟩) la c,.slice (some ⟨g,off,none⟩) lb d]).run Tryz.prog w=.ok (.value (.bool false)) w:=fun la c lb d=>by
 rw[run_callFunc_extern Tryz.func201 (by kernel_rfl) (by kernel_rfl) (by kernel_rfl) (e:=Extern.SlicesOverlaps.overlaps #[68,68] #[4]) (by kernel_rfl),
  Lib.run_overlaps_apart w 68 4 89 Tryz.underlying68 2 (wh wH).2 ⟨hb,0,none⟩ ⟨g,off,none⟩ la c lb d hne 89 89 ca.size cb.size (by simp[World.shape?,ha]) (by simp[World.shape?,hb']) hn (by simp[World.frozen?,ha]) (by simp[World.frozen?,ha])]
 rfl
theorem zAQ (g n cap k:Nat) (hk:k+1≤n) (hc:k+1<cap) :
  ∀ W kl,(Instr.slice 68 (.slice (some ⟨g,0,none⟩) n cap) (some (.int kl ((k:Int)+1))) none none).run Tryz.prog W=.ok (.slice (some ⟨g,(k+1)*2,none⟩) (n-(k+1)) (cap-(k+1))) W:=fun W kl=>by
 have:=ux (P:=Tryz.prog) wH g n cap (k+1) hk hc W kl;rw[di] at this;exact this
theorem zCR {w:World} {B g n cap:Nat} {xs:List Value} (h:w.ownsRow B 89 2 (.slice (some ⟨g,0,none⟩) n cap) n xs) (k:Nat) (hk:k≤n) (hc:k<cap) :
  Rd w 2 (.slice (some ⟨g,k*2,none⟩) (n-k) (cap-k)) (n-k) (xs.drop (k*2)):=by
 have hx:=h.1;have:=QZ (zk h) k n hk (ag _);have hne:cap≠k:=by omega
 unfold sliced at this;rw[ai hne] at this;simp only[dE,yM,aI] at this;rw[aS (by rw[aP,hx,Nat.sub_mul];omega)] at this;exact this
theorem zDv {w:World} {B g n cap:Nat} {xs:List Value} (h:w.ownsRow B 89 2 (.slice (some ⟨g,0,none⟩) n cap) n xs):∃ cur,w.heap[g]?=some (.cells cur 89 (0,0))∧cur.size=cap*2∧n≤cap:=by
 rcases h.2 with ⟨h',_⟩|⟨g',c2,cur,h',hb,hg,hnc,hcm,hcs,jP⟩
 ·
  cases h'
 injection h' with h' _ h'';injection h' with h';injection h' with h' _;subst h' h'';exact ⟨cur,hg,hcs,hnc⟩
theorem zHN (v:Value) (xs c:List Value) (n i hb B:Nat) (w:World) (hown:w.ownsRow B 89 2 v n xs) (hB:B≤w.heap.size) (hi:i≤n) (hs:n≤1000000) (hone:∀ u∈xs,u.oneCell'=true) (NR:∀ u∈c,u.oneCell'=true) (sV:c.length=2)
  (hh:w.heap[hb]?=some (.cells c.toArray 89 (0,0))) (hne:∀ k,v.ownBlock=some k→k≠hb) :
  Calls Tryz.prog 184 #[v,.int .i64 (i:Int),.slice (some ⟨hb,0,none⟩) 1 1] w fun e w'=>∃ v',e=.returned v'∧w'.ownsRow B 89 2 v' (n+1) (xs.take (i*2)++c++xs.drop (i*2))∧w.grownBy w' v.ownBlock:=by
 have rP:Rd w 2 (.slice (some ⟨hb,0,none⟩) 1 1) 1 c:=by
  refine ⟨sV,some ⟨hb,0,none⟩,1,rfl,ag _,by unfold maxLen;omega,fun h=>(by cases h),fun _=>⟨hb,0,rfl,fun j u hj=>?_⟩⟩;have:w.cell? ⟨hb,0+j,none⟩=c.toArray[0+j]?:=by simp[World.cell?,hh]
  rw[this,aI,List.getElem?_toArray];exact hj
 have hl:=hown.1;obtain ⟨oa,oc,rfl,ho1,ho2,rL⟩:=zH hown;have hm:=zL1 ho1 ho2;have iy:=zh hown;have Hv:=zh rP;have Hh:=zh hh;have BN:=zh hone;have BO:=zh NR;have HL:=zh hl;have C5:=zh sV;clear hown rP hh hl sV rL hone NR
 by_cases hin:i=n
 ·
  subst hin;obtain ⟨x1,y1,g1,_,_⟩:=wt (P:=Tryz.prog) wH (zk iy.out) i (ag _);clear hne
  go_enter Tryz.func184,Tryz.ntmps184
  go_wp2_with (at_builtin;go_must (refine zP rfl (.tmp 23) (.tmp 24) 68 rfl wH B rfl iy.out rfl Hv.out BO.out (by unfold maxLen;omega) (by omega) hB ?_);intro v4 w4 fl gZ hv4;clear hv4);go_ret;refine ⟨_,rfl,?_,gZ⟩;rw[aS (by rw[HL.out];omega),bY (by rw[HL.out];omega),bZ];exact fl
 obtain ⟨g,rfl⟩:∃ g,oa=some ⟨g,0,none⟩:=by
  rcases iy.out.2 with ⟨e,h0⟩|⟨g,_,_,e,_⟩
  ·
   omega
  injection e with e;exact ⟨g,e⟩
 have Mm:g≠hb:=hne g rfl;have Mn:((i:Int)==(n:Int))=false:=beq_eq_false_iff_ne.2 (by omega);have g1:=ux (P:=Tryz.prog) wH g n oc i hi (by omega);clear hne
 by_cases hr:oc<n+1
 ·
  obtain ⟨w2,c2,ha,eG,hb2,hc2⟩:=zFl iy.out i (n+1-i) hi (by omega) (by omega) (by omega);have ha:∀ ty,(Builtin.append_ #[68,3] ty #[.slice (some ⟨g,0,none⟩) i oc,.int .i64 ((n:Int)+1-(i:Int))]).run Tryz.prog w=.ok (.slice (some ⟨w.heap.size,0,none⟩) (n+1) c2) w2:=fun ty=>by
   have:=ha ty;rw[show ((n+1-i:Nat):Int)=(n:Int)+1-(i:Int) by omega,show i+(n+1-i)=n+1 by omega] at this;exact this
  rw[show i+(n+1-i)=n+1 by omega] at eG;obtain ⟨_,_,_,Jq⟩:=zDv eG;have Et:=yl (P:=Tryz.prog) wH (a:=some ⟨g,0,none⟩) (n:=n) (cap:=oc) (fun x hx=>⟨g,0,by injection hx with hx;exact hx.symm⟩) i (by omega);have g2:=ux (P:=Tryz.prog) wH w.heap.size (n+1) c2 i (by omega) (by omega);obtain ⟨w3,Jr,ei,eL⟩:=t7 (P:=Tryz.prog) (sT:=68) wH eG (Hv.out.below hb2) i (n+1-i) (c2-i) 1 (by simp[Nat.min_def];omega) (by decide) (by decide) (by omega) (fun u hu=>BO.out u (bT hu));have hb3:Below w.heap.size w w3:=hb2.grown eL hb2.size (by intro r hr;injection hr with hr;omega);have g3:=zAQ w.heap.size (n+1) c2 i (by omega) (by omega)
  obtain ⟨w4,Js,fl,gZ⟩:=t7 (P:=Tryz.prog) (sT:=68) wH ei.drew ((zCR iy.out i hi (by omega)).below hb3.drew) (i+1) (n-i) (c2-(i+1)) (n-i) (by simp) (by omega) (by decide) (by omega) (fun u hu=>BN.out u (cN (bT hu)));have hb4:Below w.heap.size w w4:=hb3.drew.grown gZ hb3.drew.size (by intro r hr;injection hr with hr;omega);have hgo:((oc:Int)<(n:Int)+1):=by omega
  have hw2:=zh (iy.out.1);have BP:=zh fl;have gD:=zh hb4;clear hb2 hb3 hb4 eG ei fl eL gZ Jq
  go_enter Tryz.func184,Tryz.ntmps184
  go_wp2_with (at_builtin;go_must (refine Lib.wpList_append_run _ rfl (.tmp 34) (.tmp 39) 68 3 rfl _ _ rfl rfl _ _ (ha _) ?_));have j1:IntKind.i64.wrap ((i:Int)+1)=(i:Int)+1:=aF _ (by omega);have j2:(0:Int)≤(i:Int)+1:=by omega
  have j3:(i:Int)+1≤(n:Int)+1:=by omega
  have j4:((i:Int)+1).toNat=i+1:=by omega
  have j5:(i:Int)≤(n:Int):=by omega
  go_region_held3 (fun _=>True) (trivial) (fail)
  go_wp2_with fail;go_ret;refine ⟨_,rfl,?_,zAY gD.out _⟩;have hRm:=World.ownsRow.mono BP.out hB;refine (aO (World.ownsRow _ _ _ _ _ _) ?_).mp hRm;have hz:(tJ (n+1-i)).length=(n+1-i)*2:=kW _;have hc1:c.take (1*2)=c:=aS (by rw[C5.out];omega);have hx1:(xs.drop (i*2)).take ((n-i)*2)=xs.drop (i*2):=aS (by rw[aP,HL.out];omega);rw[hc1,hx1];exact zG4 hi HL.out hz C5.out
 obtain ⟨ys,hy,hown1⟩:=zHT iy.out 1 (by omega);have Et:=yl (P:=Tryz.prog) wH (a:=some ⟨g,0,none⟩) (n:=n) (cap:=oc) (fun x hx=>⟨g,0,by injection hx with hx;exact hx.symm⟩) (n+1) (by omega);simp only[di] at Et;rw[show ((1:Nat):Int)=1 from rfl] at Et;have g2:=ux (P:=Tryz.prog) wH g (n+1) oc i (by omega) (by omega);have g3:=zAQ g (n+1) oc i (by omega) (by omega);obtain ⟨cur,hg,hcs,_⟩:=zDv hown1;have sP:=zBu (aQ Mm) Hh.out hg (by omega) ((i+1)*2)
 obtain ⟨w3,Jr,ei,eL⟩:=t7 (P:=Tryz.prog) (sT:=68) wH hown1.drew (zCR hown1.drew i (by omega) (by omega)) (i+1) (n-i) (oc-(i+1)) (n-i) (by simp[Nat.min_def];omega) (by omega) (by decide) (by omega) (fun u hu=>BN.out u (by
  rw[List.drop_append_of_le_length (by rw[HL.out];omega),cL (by rw[aP,HL.out];omega)] at hu
  exact cN hu))
 have hv3:=Rd.grown (Hv.out.drew) eL (fun y hy=>by injection hy with hy;subst hy;intro e;injection e with e;exact Mm e.symm);obtain ⟨w4,Js,fl,gZ⟩:=t7 (P:=Tryz.prog) (sT:=68) wH ei hv3 i (n+1-i) (oc-i) 1 (by simp[Nat.min_def];omega) (by decide) (by decide) (by omega) (fun u hu=>BO.out u (bT hu));have hb4:w.grownBy w4 (some g):=zCG (zCG (zDV _ _) eL) gZ;have BP:=zh fl;have gD:=zh hb4;have HY:=zh hy;have hgo:¬ ((oc:Int)<(n:Int)+1):=by omega
 have j1:IntKind.i64.wrap ((i:Int)+1)=(i:Int)+1:=aF _ (by omega);have j2:(0:Int)≤(i:Int)+1:=by omega
 have j3:(i:Int)+1≤(n:Int)+1:=by omega
 have j4:((i:Int)+1).toNat=i+1:=by omega
 have j5:(i:Int)≤(n:Int):=by omega
 clear hb4 hown1 ei fl eL gZ hv3 hy hcs hg
 go_enter Tryz.func184,Tryz.ntmps184
 go_wp2_with (simp only[sP]);have j6:(i:Int)≤(n:Int)+1:=by omega
 go_region_held3 (fun _=>True) (trivial) (fail)
 go_wp2_with fail;go_ret;refine ⟨_,rfl,?_,gD.out⟩;refine (aO (World.ownsRow _ _ _ _ _ _) ?_).mp BP.out;have hc1:c.take (1*2)=c:=aS (by rw[C5.out];omega);rw[hc1];exact zFe hi HL.out (by rw[HY.out])
end Go.Proofs.YtcgfilmmokmdjaaGreat
