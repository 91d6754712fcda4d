import Derived.Test.YtcgfilmmokmdjaaGreatHd
import Derived.Deep.MidRow
set_option linter.all false
set_option maxRecDepth 100000
set_option maxHeartbeats 32000000
namespace Go.Proofs.YtcgfilmmokmdjaaGreat
open Go.Proofs.Tryz
variable {M:Mp}
def wC (_:gJ M) {y:It}:y∈zN M↔zl M y.key=some y:=by
  have ha:=xC M;rw[<- uI,yb ha];refine ⟨fun hy=>zJg ha hy,fun hf=>List.mem_of_find?_eq_some hf⟩
def zDM {R:It->It->Prop} (hs:∀ a b,R a b->R b a):∀ {l:List It},l.Pairwise R->∀ x∈l,∀ y∈l,x≠y->R x y
  |[],_,x,hx,_,_,_=>by cases hx
  |a::l,h,x,hx,y,hy,hne=>by
    rw[dM] at h;rcases List.mem_cons.1 hx with e1|hx
    · rcases List.mem_cons.1 hy with e2|hy
      · exact absurd (e1.trans e2.symm) hne
      rw[e1];exact h.1 y hy
    rcases List.mem_cons.1 hy with e2|hy
    · rw[e2];exact hs _ _ (h.1 x hx)
    exact zDM hs h.2 x hx y hy hne
def kA {l:List It} (h:mK l) (size:Int):Jo l size↔(∀ x∈l,∀ y∈l,x.key≠y.key->IF x y)/\∀ x∈l,uR x<=size:=by
  unfold Jo;have hp:=kM h;refine ⟨fun ⟨h1,h2⟩=>⟨fun x hx y hy hne=>?_,h2⟩,fun ⟨h1,h2⟩=>⟨?_,h2⟩⟩
  · exact zDM (fun _ _ h=>zDA h) h1 x hx y hy (fun e=>hne (by rw[e]))
  refine List.Pairwise.imp_of_mem ?_ hp;intro a b ha hb hlt;exact h1 a ha b hb (by omega)
def zOE (n:Nat):nh n%8=0:=by unfold nh;omega
def zOL (n:Nat):eY n%8=0:=by
  unfold eY
  split
  · exact zOE n
  rfl
variable {g:Gn}
def lI.small (h:lI g):0<=g.m.live/\0<=g.m.ew/\g.m.live<=1048576/\g.m.ew<=1048576:=by
  have h1:=(zi _).1 h.m;have h2:=h1.live0;have h3:=h1.g0;have h4:=h.sum;have h5:=h.size;omega
def zDl {M':Mp} (hm:gJ M) (PE:gJ M') {z z':Int} (h:uO (zN M) z=true) (hz:z<=z') (hg:∀ k y,zl M' k=some y->zl M k=some y):uO (zN M') z'=true:=by
  have h1:=(kA (xC M) z).1 (aZ h);refine aD ((kA (xC M') z').2 ⟨fun x hx y hy hne=>?_,fun x hx=>?_⟩)
  · exact h1.1 x ((wC hm).2 (hg _ _ ((wC PE).1 hx))) y ((wC hm).2 (hg _ _ ((wC PE).1 hy))) hne
  have:=h1.2 x ((wC hm).2 (hg _ _ ((wC PE).1 hx)));omega
def zKm (hm:gJ M) {x:It} (hx:okB x=true) (hgb:M.ew+(jh (zl M x.key):Int)<=1099511627776) (h:uO (zN M) x.off=true):uO (zN (wv M x)) (uR x)=true:=by
  have h1:=(kA (xC M) x.off).1 (aZ h);have PE:=hm.ins hx hgb;have hlt:=qh (aZ hx);have hmem:∀ y,y∈zN (wv M x)->y=x∨y∈zN M:=fun y hy=>by
    have:=(wC PE).1 hy;rw[zFg hm hx hgb] at this
    by_cases e:x.key=y.key
    · rw[ah e] at this
      injection this with e2;exact .inl e2.symm
    rw[ai e] at this;exact .inr ((wC hm).2 this)
  refine aD ((kA (xC _) _).2 ⟨fun y hy z hz hne=>?_,fun y hy=>?_⟩)
  · rcases hmem y hy with rfl|E_
    · rcases hmem z hz with rfl|WJ
      · exact absurd rfl hne
      exact .inr (h1.2 z WJ)
    rcases hmem z hz with rfl|WJ
    · exact .inl (h1.2 y E_)
    exact h1.1 y E_ z WJ hne
  rcases hmem y hy with rfl|E_
  · exact cL _
  have:=h1.2 y E_;omega
def zKn (hg:lI g) {x:Nd} (hx:x.ok):okB (DZ g x)=true:=by
  have h1:=hg.size;have h2:x.data.length<=4096:=hx.1;refine aD ⟨?_,?_,?_,?_,?_⟩
  · exact h1.1
  · exact h1.2.1
  · exact h1.2.2
  · show (0:Int)<=(x.data.length:Int);omega
  show (x.data.length:Int)<=4096;omega
def zGG (hg:lI g) {x:Nd} (hx:x.ok) (hz:g.size+(eY x.data.length:Int)<=1048576):lI (yp g x):=by
  have hm:=(zi _).1 hg.m;have hs:=hg.small;have h8:=zOL x.data.length;have hsz:=hg.size;have OX:=hg.sum;have hxl:=wI x.data.length;refine ⟨hg.num,hg.rev,hg.mode,⟨?_,hz,?_⟩,?_,?_,?_⟩
  · show 16<=g.size+(eY x.data.length:Int);omega
  · show (g.size+(eY x.data.length:Int))%8=0;omega
  all_goals
    unfold yp;dsimp only
    split
    next hd =>
      have h1:g.m.ew+(jh (zl g.m x.key):Int)<=1099511627776:=by have:=Sy (zl g.m x.key);omega
      have sV:=hm.del h1;have hds:=SA hm h1;have iz:=sV.live0;have h2:(yX g.m x.key).ew+(eY x.data.length:Int)<=1099511627776:=by omega
      have hw:=sV.Gg (n:=(eY x.data.length:Int)) (by omega) h2
      first
        |exact (zi _).2 hw
        | (refine zDl hm hw hg.ends (by omega) ?_
           intro k y hy
           rw[wK hw,uu,<- wK sV,Sz hm h1] at hy
           split at hy
           · cases hy
           exact hy)
        | (rw[zDI sV (by omega) h2]
           dsimp only
           omega)
    next hd =>
      have hok:=zKn hg hx;have h1:g.m.ew+(jh (zl g.m (DZ g x).key):Int)<=1099511627776:=by have:=Sy (zl g.m (DZ g x).key);omega
      have hi:=hm.ins hok h1;have WL:=zKg hm hok h1;have he:xl (DZ g x)=eY x.data.length:=by unfold xl DZ;dsimp only;rw[dR]
      first
        |exact (zi _).2 hi
        | (have h3:=zKm hm hok h1 hg.ends
           have h4:uR (DZ g x)=g.size+(eY x.data.length:Int):=by unfold uR DZ;dsimp only;rw[dR]
           rwa [h4] at h3)
        | (rw[he] at WL
           omega)
def zMG (h:lI g) (hm:g.mode=1) {l:List Nd} (hok:∀ x∈l,x.ok) (hz:g.size+(jt l:Int)<=1048576):yZ g l=(0,zm g l):=by
  unfold yZ;rw[ah ⟨(yM g).2 h,(qD l).2 hok⟩,ah hm,ah hz]
/-! ### The laws' rT and gB -/
open Go.RowKit
/-! ### Same -/
variable {i:Nat}
def zKZ {N:Mp} (hi:i<8) (h:M.st i≠N.st i):LG M N=false:=by
 unfold LG;have:(List.range 8).all (fun i=>decide (M.st i=N.st i))=false:=by
  rw[List.all_eq_false];exact ⟨i,List.mem_range.2 hi,by simpa using h⟩
 rw[this];rfl
def zF8 {N:Mp} (h:∀ i,i<8->M.st i=N.st i):LG M N=((M.live==N.live)&&(M.ew==N.ew)):=by
 unfold LG;have:(List.range 8).all (fun i=>decide (M.st i=N.st i))=true:=List.all_eq_true.2 fun i hi=>aD (h i (List.mem_range.1 hi))
 rw[this,bU]
def zIR (s t:Sl) (M N:Mp) (w:World) (h:fN w s M.st) (h2:fN w t N.st) :
  Calls prog 113 #[yD s M.live M.ew,yD t N.live N.ew] w fun e w'=>e=.returned (.bool (LG M N))/\Below w.heap.size w w':=by
 obtain ⟨W0,hW0⟩:∃ W0,(w.alloc (.cells (yl s M.live M.ew) 111)).alloc (.cells (yl t N.live N.ew) 111)=W0:=⟨_,rfl⟩
 have HX:Hid (eZ W0 w.heap.size s M.live M.ew):=zh (hW0▸((eZ.new w s M.live M.ew 111).bb (zY _ t N.live N.ew 111)));have HY:Hid (eZ W0 (w.heap.size+1) t N.live N.ew):=zh (hW0▸(by have:=eZ.new (w.alloc (.cells (yl s M.live M.ew) 111)) t N.live N.ew 111;simpa using this));have HB:Hid (Below w.heap.size w W0):=zh (hW0▸zA (zY w s M.live M.ew 111) (zY _ t N.live N.ew 111));have Af:=zh hW0;clear hW0;have HSa:=zh (fun i (hi:i<8) W (hb:Below w.heap.size w W)=>zLR (s.v i) (t.v i) (M.st i) (N.st i) W ((h i hi).bb hb) ((h2 i hi).bb hb));have lh:=zh (fun i (hi:i<8) (h:M.st i≠N.st i)=>zKZ hi h);have l5:=zh (fun h=>zF8 (M:=M) (N:=N) h);clear h h2;generalize LG M N=r at *;obtain ⟨f,L,G⟩:=M;obtain ⟨g,L2,G2⟩:=N;dsimp only at *
 go_enter func113,ntmps113
 go_upto_region 1 with fail;have hW0:=Af.o;rw[show (w.alloc (.cells (yl s L G) 111)).alloc (.cells (yl t L2 G2) 111)=W0 from hW0];clear hW0 Af;go_wp2_with fail
 go_loopw [5] (fun iv W=>∃ i:Nat,iv=.int .i64 (i:Int)/\i<=8/\Hid (∀ j,j<i->f j=g j)/\Hid (Below W0.heap.size W0 W)) (fun iv _=>8-(intOf iv).toNat)
 case atStart=>exact ⟨0,rfl,aq _,zh (fun j hj=>by omega),zh (aj _ _)⟩
 obtain ⟨i,rfl,hi,nr,jI⟩:=hrel
 by_cases hin:i<8
 ·have i1:(i:Int)<8:=by omega
  have ci:=(HX.o.bb jI.o).c i hin;have di:=(HY.o.bb jI.o).c i hin;rw[show s.v i=.slice (s.a i) (s.n i) (s.c i) from rfl] at ci;rw[show t.v i=.slice (t.a i) (t.n i) (t.c i) from rfl] at di;have rC:=zh (fun u:eD wr=>show Calls prog 158 #[.slice (s.a i) (s.n i) (s.c i),.slice (t.a i) (t.n i) (t.c i)] u.w' fun e w'=>e=.returned (.bool (decide (f i=g i)))/\Below u.w'.heap.size u.w' w' from HSa.o i hin u.w' (zA HB.o (zA jI.o u.h)));have fi:=zB ci;have gi:=zB di;have Jd:=zh (lh.o i hin);clear ci di
  have HEq:=zh (show decide (f i=g i)=true->∀ j,j<i+1->f j=g j from fun h j hj=>by
   by_cases e:j=i
   ·rw[e];exact aZ h
   exact nr.o j (by omega))
  have KE:Hid (decide (f i=g i)=false->r=false):=zh (fun h=>Jd.o (cN h));generalize decide (f i=g i)=b at *;go_wp2_with fail;refine zD (by kernel_rfl) (by kernel_rfl) ?_
  repeat (go_big_quiet_step (exact zH (rC.o _)))
  refine ay ?_;intro _ hw';obtain ⟨u,hw'⟩:=hw';subst hw';have Sj:=zh (zA jI.o u.h);have eN:=zh (zA HB.o Sj.o);generalize u.w'=V at *
  cases b
  ·have HF:=zh (KE.o rfl);go_wp2_with fail;go_ret;exact ⟨zJ HF.o.symm,eN.o⟩
  have oB:=zh (HEq.o rfl);go_wp2_with fail;exact ⟨⟨i+1,by go_num,by omega,oB,Sj⟩,by simp[intOf];omega⟩
 obtain rfl:i=8:=by omega
 have HF:=zh (l5.o nr.o);have HXe:=zh (HX.o.bb jI.o);have HYe:=zh (HY.o.bb jI.o);have eN:=zh (zA HB.o jI.o);have c8:=HXe.o.cl;have c9:=HXe.o.cg;have d8:=HYe.o.cl;have d9:=HYe.o.cg;have RM:Hid (r=((L==L2)&&(G==G2))):=zh (HF.o);generalize hl:(L==L2)=b1 at *
 cases b1
 ·go_wp2_with fail;go_ret;exact ⟨zJ RM.o.symm,eN.o⟩
 go_wp2_with fail;go_ret;exact ⟨zJ RM.o.symm,eN.o⟩
def zFG (n:Int):bits .and .i64 n 7=n%8:=by
 have hm:(BitVec.ofInt 64 7).toNat=2^3-1:=by decide
 have key:(BitVec.ofInt 64 n &&& BitVec.ofInt 64 7).toNat=(n%((2^64:Nat):Int)).toNat%2^3:=by
  rw[BitVec.toNat_and,BitVec.toNat_ofInt,hm,dX]
 show IntKind.i64.wrap ((BitVec.ofInt 64 n &&& BitVec.ofInt 64 7).toNat:Nat)=n%8
 rw[key,IntKind.wrap_i64];omega
def Rd.jR (k:Nat) (w:World) (hk:w.heap.size=k) (sz:Nat) (cs:List Value) (e:TypeId) (n:Nat) (hn:cs.length=n*sz) (hm:n<=maxLen):Rd (w.alloc (.cells cs.toArray e)) sz (.slice (some ⟨k,0,none⟩) n n) n cs:=by
 subst hk;exact Rd.new w sz cs e n hn hm
def zGU (M:Mp):LG M M=true:=by
 rw[zF8 (fun _ _=>rfl)];simp
def zJa (g:Gn) (s t:Sl) (w:World) (h:fN w s g.m.st) (h2:fN w t g.m.st) :
  Calls prog 72 #[ze g.num g.rev g.mode g.size s g.m.live g.m.ew,ze g.num g.rev g.mode g.size t g.m.live g.m.ew] w fun e w'=>e=.returned (.bool true)/\Below w.heap.size w w':=by
 have HS:=zh (fun W (hb:Below w.heap.size w W)=>zIR s t g.m g.m W (h.bb hb) (h2.bb hb));rw[zGU] at HS;obtain ⟨n,r,md,z,⟨f,L,G⟩⟩:=g;dsimp only at *;clear h h2;obtain ⟨W0,hW0⟩:∃ W0,w.alloc (.cells (zU n r md z s L G) 113)=W0:=⟨_,rfl⟩
 have lY:Hid (eU W0 w.heap.size n r md z s L G):=zh (hW0▸eU.new w n r md z s L G 113);have eP:Hid (Below w.heap.size w W0):=zh (hW0▸zT w n r md z s L G 113);have HY:=zh (eU.new W0 n r md z t L G 113);have HX:=zh (lY.o.bb (zT W0 n r md z t L G 113));have HB:=zh (zA eP.o (zT W0 n r md z t L G 113));have hz0:W0.heap.size=w.heap.size+1:=by rw[<- hW0];simp
 go_enter func72,ntmps72
 go_upto_region 1 with fail;change Code.wp _ _ _ _ (W0.alloc (.cells (zU n r md z t L G) 113));clear hW0 lY eP;obtain ⟨W,hW⟩:∃ W,W0.alloc (.cells (zU n r md z t L G) 113)=W:=⟨_,rfl⟩
 rw[hW] at HX HB HY |-;clear hW;rw[hz0] at HY;clear hz0;obtain ⟨x0,x1,x2,x3,x4,x5,x6,x7,x8,x9,gP,gQ,gK,gM⟩:=HX.o.q;obtain ⟨y0,y1,y2,y3,y4,y5,y6,y7,y8,y9,Fo,Fp,Fq,Fs⟩:=HY.o.q;go_wp2_with fail;refine (HS.o _ HB.o).mono ?_;rintro e w1 ⟨rfl,hb1⟩;have eV:=zh (zA HB.o hb1);clear hb1;go_wp2_with fail;go_ret;exact ⟨rfl,eV.o⟩
def zCY (n:Int) (hn:1<=n/\n<=8) (w:World):Calls prog 78 #[.int .i64 n] w fun e w'=>e=.returned (.tuple #[ze n 0 1 16 Sl.nil 0 0,.int .i64 0])/\Below w.heap.size w w':=by
 have HR:=zh (eU.new w 0 0 0 0 Sl.nil 0 0 113);have HB:=zh (zT w 0 0 0 0 Sl.nil 0 0 113);have e1:decide (n<1)=false:=aC (by omega);have e2:decide (8<n)=false:=aC (by omega);clear hn
 go_enter func78,ntmps78
 go_upto_region 1 with fail;obtain ⟨W,hW⟩:∃ W,w.alloc (.cells (zU 0 0 0 0 Sl.nil 0 0) 113)=W:=⟨_,rfl⟩
 change Code.wp _ _ _ _ (w.alloc (.cells (zU 0 0 0 0 Sl.nil 0 0) 113));rw[hW] at HR HB |-;clear hW;obtain ⟨r0,r1,r2,r3,r4,r5,r6,r7,r8,r9,nL,mD,mR,pK⟩:=HR.o.q;have rf:=HR.o.f;go_wp2_with fail;change bodyPost _ _ _ _ _ (pts W w.heap.size (zS n 0 1 16 Sl.nil 0 0));have hby:=HR.o.all n 0 1 16 Sl.nil 0 0;have eN:=zh (zC (B:=w.heap.size) (b:=w.heap.size) (by omega) (zS n 0 1 16 Sl.nil 0 0) HB.o);generalize pts W w.heap.size (zS n 0 1 16 Sl.nil 0 0)=V at *;exact au (v:=.tuple #[ze n 0 1 16 Sl.nil 0 0,.int .i64 0]) (by simp[results,results78,go_sem,hby.q]) rfl ⟨rfl,eN.o⟩
def WN (x:Nd):Nd:=⟨x.key%8,x.ck,x.del,if x.del then [] else x.data.take 30⟩
def NI (l:List Nd):List Nd:=(l.take 6).map WN
def zLI (x:Nd):(WN x).data.length<=30:=by
 unfold WN;dsimp only
 split
 ·simp
 rw[aB];omega
def zFA (l:List Nd):(NI l).length<=6:=by unfold NI;rw[aH,aB];omega
def zIN (l:List Nd):∀ x∈NI l,x.data.length<=30:=fun x hx=>by
 obtain ⟨y,_,rfl⟩:=List.mem_map.1 hx;exact zLI y
structure rj where
 kind:Int
 lv:Value
 l:List (Nd×Value)
 gen:Int
 kv:Value
 keys:List Int
def PG:rj:=⟨0,.slice none 0 0,[],0,.slice none 0 0,[]⟩
instance:Inhabited rj:=⟨PG⟩
def S2 (x:rj):List Value:=[.int .i64 x.kind,x.lv,.int .i64 x.gen,x.kv]
def zMU (x:rj):(S2 x).length=4:=rfl
def D9 (l:List rj) (i:Nat):rj:=l.getD i PG
def zK8 {l:List rj} (h:i<l.length):D9 l i∈l:=by
 unfold D9;rw[aw,aA h];exact bM h
noncomputable def uP (s:fk) (r:Int×Gn):fk:=if r.1=0/\(yS s r.2).2=0 then (yS s r.2).1 else s
noncomputable def PH (s:fk) (kd:Int) (ns:List Nd) (gen:Int) (keys:List Int):fk:=
 if kd=2 then (if (xb s).2=0 then (xb s).1 else s)
 else if kd=3 then uP s (yh (fh s.ep (gen%(s.ep.length:Int)).toNat) (keys.take 8))
 else uP s (yZ (zZ s) (NI ns))
noncomputable def zNj (s:fk) (x:rj):fk:=PH s (bits .and .i64 x.kind 3) (x.l.map (·.1)) x.gen x.keys
def EK:fk:=⟨1,9000,false,[fresh 1]⟩
noncomputable def zM9 (s:fk) (l:List rj):fk:=l.foldl zNj s
noncomputable def zON (l:List rj):fk:=zM9 EK (l.take 8)
def qV {l:List Gn} (h:i<l.length):fh l i∈l:=by
 unfold fh;rw[aw,aA h];exact bM h
def fF (k:Nat) (l:List Gn):Prop:=∀ g∈l,∀ i,i<8->(g.m.st i).length<=k
def zN0 (k:Int) (l:List Gn):Prop:=∀ g∈l,g.size<=k
variable {k:Nat}
def fF.mono {k':Nat} {l:List Gn} (h:fF k l) (hk:k<=k'):fF k' l:=fun g hg i hi=>ak (h g hg i hi) hk
def WO {l:List Gn} {x:Gn} (h:x∈t7 l g):x∈l∨x=g:=by
 obtain ⟨y,hy,e⟩:=List.mem_map.1 h
 by_cases c:y.num=g.num
 ·rw[ah c] at e;exact .inr e.symm
 rw[ai c] at e;exact .inl (e▸hy)
def zKs (l:List Gn) (g:Gn):(t7 l g).length=l.length:=aH ..
variable {s:fk}
def S3 (h:(yS s g).2=0):(yS s g).1=⟨s.id,s.lim,s.ro,t7 s.ep g⟩:=by
 unfold yS at h |-
 by_cases hv:zb s=true
 ·rw[ah hv] at h |-
  by_cases hn:(s.ep.any fun x=>decide (x.num=g.num))=true
  ·rw[ah hn] at h |-
   by_cases hw:zb ⟨s.id,s.lim,s.ro,t7 s.ep g⟩=true
   ·rw[ah hw]
   rw[ai hw] at h;cases h
  rw[ai hn] at h;cases h
 rw[ai hv] at h;cases h
def zH3 (h:(xb s).2=0):(xb s).1=⟨s.id,s.lim,s.ro,s.ep.take (s.ep.length-1)++[{zZ s with mode:=2},fresh ((zZ s).num+1)]⟩:=by
 unfold xb at h |-
 by_cases hv:zb s=true
 ·rw[ah hv] at h |-
  by_cases hn:(zZ s).num<8
  ·rw[ah hn]
  rw[ai hn] at h;cases h
 rw[ai hv] at h;cases h
def vr (h:fg s):zZ s∈s.ep:=qV (by have:=h.len;omega)
def zMj (l:List Nd):jt (NI l)<=400:=by
 have key:∀ k:List Nd,(∀ x∈k,x.data.length<=30)->jt k<=k.length*56:=by
  intro k
  induction k with
  |nil=>intro _;exact aq _
  |cons x r ih =>
   intro h;have h1:=ih fun y hy=>h y (by simp[hy])
   have h2:=h x (by simp);have h3:eY x.data.length<=56:=by rw[Ns (by omega)];unfold nh;omega
   rw[vj,aW];omega
 have h1:=key _ (zIN l);have h2:=zFA l;omega
def S4 {l:List Nd} (h:(yZ g l).1=0):(yZ g l).2=zm g l:=by
 unfold yZ at h |-
 split
 ·rename_i h1;rw[ah h1] at h
  split
  ·rename_i h2;rw[ah h2] at h
   split
   ·rfl
   rename_i h3;rw[ai h3] at h;cases h
  rename_i h2;rw[ai h2] at h;cases h
 rename_i h1;rw[ai h1] at h;cases h
def zDh {l:List Int} (h:(yh g l).1=0):(yh g l).2={g with m:=l.foldl yX g.m}:=by
 unfold yh at h |-
 split
 ·rename_i h1;rw[ah h1] at h
  split
  ·rename_i h2;rw[ah h2] at h;cases h
  rfl
 rename_i h1;rw[ai h1] at h;cases h
structure jS (n:Nat) (s:fk):Prop where
 v:fg s
 id:s.id=1
 lim:s.lim=9000
 ro:s.ro=false
 len:fF (6*n) s.ep
 KF:zN0 (16+400*(n:Int)) s.ep
def zHG:jS 0 EK:=by
 refine ⟨(zX _).1 (SG 1 9000 false (by decide)),rfl,rfl,rfl,fun g hg i _=>?_,fun g hg=>?_⟩
 ·obtain rfl:=List.mem_singleton.1 hg;exact aq _
 obtain rfl:=List.mem_singleton.1 hg
 show (16:Int)<=_
 omega
variable {n:Nat}
def jS.up (h:jS n s):jS (n+1) s:=⟨h.v,h.id,h.lim,h.ro,h.len.mono (by omega),fun g hg=>by have:=h.KF g hg;omega⟩
def jS.Ma (h:jS n s) {g:Gn} (hc:(yS s g).2=0) (hl:∀ i,i<8->(g.m.st i).length<=6*(n+1)) (hz:g.size<=16+400*((n+1:Nat):Int)):jS (n+1) (yS s g).1:=by
 have hv:=zFR hc;rw[S3 hc] at hv |-;refine ⟨hv,h.id,h.lim,h.ro,fun x hx i hi=>?_,fun x hx=>?_⟩
 ·rcases WO hx with hx|rfl
  ·exact ak (h.len x hx i hi) (by omega)
  exact hl i hi
 rcases WO hx with hx|rfl
 ·have:=h.KF x hx;omega
 exact hz
def zDd (h:jS n s) (kd:Int) (ns:List Nd) (gen:Int) (keys:List Int):jS (n+1) (PH s kd ns gen keys):=by
 unfold PH
 split
 ·split
  ·rename_i hr;have hv:=zFv hr;rw[zH3 hr] at hv |-;refine ⟨hv,h.id,h.lim,h.ro,fun x hx i hi=>?_,fun x hx=>?_⟩
   ·rcases List.mem_append.1 hx with hx|hx
    ·exact ak (h.len x (cE hx) i hi) (by omega)
    simp only[bp,bt,bu] at hx;rcases hx with rfl|rfl
    ·exact ak (h.len _ (vr h.v) i hi) (by omega)
    exact aq _
   rcases List.mem_append.1 hx with hx|hx
   ·have:=h.KF x (cE hx);omega
   simp only[bp,bt,bu] at hx;rcases hx with rfl|rfl
   ·have:=h.KF _ (vr h.v);dsimp only;omega
   show (16:Int)<=_;omega
  exact h.up
 split
 ·unfold uP
  split
  ·rename_i hr;obtain ⟨h1,h2⟩:=hr
   have hg:fh s.ep (gen%(s.ep.length:Int)).toNat∈s.ep:=qV (by
    have h1:=h.v.len
    have h2:=Int.emod_lt_of_pos gen (show (0:Int)<(s.ep.length:Int) by omega)
    have h3:=Int.emod_nonneg gen (show (s.ep.length:Int)≠0 by omega)
    omega)
   refine h.Ma h2 ?_ ?_
   ·rw[zDh h1];intro i hi;exact ak (wm _ _ (h.len _ hg) i hi) (by omega)
   rw[zDh h1];have:=h.KF _ hg;dsimp only;omega
  exact h.up
 unfold uP
 split
 ·rename_i hr;obtain ⟨h1,h2⟩:=hr;have hg:=vr h.v;refine h.Ma h2 ?_ ?_
  ·rw[S4 h1];intro i hi;have:=ws (NI ns) _ (h.len _ hg) i hi;have:=zFA ns;omega
  rw[S4 h1,vm];have:=h.KF _ hg;have:=zMj ns;omega
 exact h.up
def PI (o:Nat):List Value->List (Nat×Value)
 |[]=>[]
 |v::r=>(o,v)::PI (o+1) r
def Mb (xs:List Value) (o:Nat):List Value->List Value
 |[]=>xs
 |v::r=>Mb (xs.set o v) (o+1) r
def zEr:∀ (vs m a b:List Value),m.length=vs.length->Mb (a++(m++b)) a.length vs=a++(vs++b)
 |[],m,a,b,h=>by
  obtain rfl:=List.length_eq_zero_iff.1 h
  rfl
 |v::r,[],a,b,h=>by cases h
 |v::r,x::m,a,b,h=>by
  show Mb ((a++(x::m++b)).set a.length v) (a.length+1) r=_
  have e:(a++(x::m++b)).set a.length v=(a++[v])++(m++b):=by simp
  have:=zEr r m (a++[v]) b (by simpa using h);rw[e];rw[ax] at this
  simpa using this
def zA5 {α:Type} (sz:Nat) (f:α->List Value) (hf:∀ x,(f x).length=sz) (es:List α) (k:Nat) (hk:k<es.length) (y:α):Mb (es.flatMap f) (k*sz) (f y)=(es.set k y).flatMap f:=by
 have e0:es=es.take k++es[k]::es.drop (k+1):=by
  rw[<- dH hk,b7]
 have e1:es.flatMap f=(es.take k).flatMap f++(f es[k]++(es.drop (k+1)).flatMap f):=by
  have h1:es.flatMap f=(es.take k++es[k]::es.drop (k+1)).flatMap f:=by rw[<- e0]
  rw[h1,cn,cC]
 have e2:((es.take k).flatMap f).length=k*sz:=by
  rw[ye sz f _ (fun x _=>hf x),aB,bY (by omega)]
 rw[e1,<- e2,zEr _ _ _ _ (by rw[hf,hf]),List.set_eq_take_append_cons_drop,ah hk];simp
def zFj {B g n cap sz:Nat} {T:TypeId}:∀ (vs:List Value) (o:Nat) (xs:List Value) (W:World),W.ownsRow B T sz (.slice (some ⟨g,0,none⟩) n cap) n xs ->
  (pts W g (PI o vs)).ownsRow B T sz (.slice (some ⟨g,0,none⟩) n cap) n (Mb xs o vs)/\W.grownBy (pts W g (PI o vs)) (some g)
 |[],_,_,W,h=>⟨h,rfl,rfl,rfl,ag _,fun _ _ _=>rfl⟩
 |v::r,o,xs,W,h=>by
  have h1:=h.stored o v;have h2:=zFj r (o+1) _ _ h1.1;exact ⟨h2.1,zw h1.2 h2.2⟩
abbrev t_ (o:Nat) (n r md z:Int) (s:Sl) (l g:Int):List (Nat×Value):=[(o,.int .i64 n),(o+1,.int .i64 r),(o+2,.int .i64 md),(o+3,.int .i64 z),(o+4,.slice (s.a 0) (s.n 0) (s.c 0)),(o+5,.slice (s.a 1) (s.n 1) (s.c 1)),(o+6,.slice (s.a 2) (s.n 2) (s.c 2)),(o+7,.slice (s.a 3) (s.n 3) (s.c 3)),(o+8,.slice (s.a 4) (s.n 4) (s.c 4)),(o+9,.slice (s.a 5) (s.n 5) (s.c 5)),(o+10,.slice (s.a 6) (s.n 6) (s.c 6)),(o+11,.slice (s.a 7) (s.n 7) (s.c 7)),(o+12,.int .i64 l),(o+13,.int .i64 g)]
def zL5 (o:Nat) (x:GP):PI o (iM x)=t_ o x.1.num x.1.rev x.1.mode x.1.size x.2 x.1.m.live x.1.m.ew:=rfl
variable {W:World} {B cap:Nat} {T:TypeId} {L:List GP}
def qi {g:Nat} (h:W.ownsRow B T 14 (.slice (some ⟨g,0,none⟩) n cap) n (L.flatMap iM)) (k:Nat) (hk:k<L.length) (y:GP) :
  (pts W g (t_ (k*14) y.1.num y.1.rev y.1.mode y.1.size y.2 y.1.m.live y.1.m.ew)).ownsRow B T 14 (.slice (some ⟨g,0,none⟩) n cap) n ((L.set k y).flatMap iM) /\
  W.grownBy (pts W g (t_ (k*14) y.1.num y.1.rev y.1.mode y.1.size y.2 y.1.m.live y.1.m.ew)) (some g):=by
 have h1:=zFj (iM y) (k*14) _ W h;rw[zA5 14 iM tJ L k hk y,zL5] at h1;exact h1
variable {w:World} {a:Option Addr}
def uB {e:TypeId} {sz:Nat} {xs:List Value} (h:w.ownsRow B e sz (.slice a n cap) n xs) (hn:0<n):∃ g,a=some ⟨g,0,none⟩/\B<=g/\g<w.heap.size:=by
 rcases h.2 with ⟨e,h0⟩|⟨g,_,cur,e,hb,hg,_⟩
 ·omega
 injection e with e _ _;exact ⟨g,e,hb,(Array.getElem?_eq_some_iff.1 hg).1⟩
def xu {e:TypeId} {sz g:Nat} {xs:List Value} (h:w.ownsRow B e sz (.slice (some ⟨g,0,none⟩) n cap) n xs) (i:Nat):w.frozen? ⟨g,i,none⟩=false:=by
 rcases h.2 with ⟨e,_⟩|⟨g',c2,cur,h',hb,hg,_⟩
 ·cases e
 injection h' with h' _ _;injection h' with h';injection h' with h';subst h';unfold World.frozen?;rw[hg];simp
def PJ {g:Nat} (h:w.ownsRow B T 14 (.slice (some ⟨g,0,none⟩) n cap) n (L.flatMap iM)) (hn:n=L.length) {k:Nat} (hk:k<n):q_ w g (k*14) (pat L k):=by
 subst hn;have hS:jy 14 iM w _ L:=Ul (fun x _=>tJ x) (by decide) h;obtain ⟨_,_,e,_,_,_,hc⟩:=hS.shape (by decide) LH;injection e with e1 e2 e3;obtain ⟨b,off,e4,hc⟩:=hc (by omega);rw[<- e1] at e4;injection e4 with e4;injection e4 with e5 e6;subst e5 e6;have c:=hc k hk;simp only[aN] at c;refine ⟨?_,c 1 _ rfl,c 2 _ rfl,c 3 _ rfl,c 4 _ rfl,c 5 _ rfl,c 6 _ rfl,c 7 _ rfl,c 8 _ rfl,c 9 _ rfl,c 10 _ rfl,c 11 _ rfl,c 12 _ rfl,c 13 _ rfl⟩;have:=c 0 _ rfl;rwa [bE] at this
variable {b:Nat} {l:Int}
def eU.l7 {W':World} {g:Nat} {n r md z:Int} {s:Sl} {q:Int} (h:eU W b n r md z s l q) (hg:W.grownBy W' (some g)) (hne:b≠g):eU W' b n r md z s l q:=by
 have k:∀ i u,W.cell? ⟨b,i,none⟩=some u->W'.cell? ⟨b,i,none⟩=some u:=fun i u hu=>hg.cell hu (fun e=>hne (by injection e))
 refine ⟨k _ _ h.n0,k _ _ h.n1,k _ _ h.n2,k _ _ h.n3,fun j hj=>k _ _ (h.c j hj),k _ _ h.cl,k _ _ h.cg,fun i=>?_⟩;have e:=hg.block b h.lt (fun e=>hne (by injection e));rw[<- h.f i];unfold World.frozen?;rw[e]
variable {r:Bool} {c:Nat}
def fp.l7 {W':World} {g:Nat} {i:Int} (h:fp W b i l r a n c) (hg:W.grownBy W' (some g)) (hne:b≠g):fp W' b i l r a n c:=by
 have k:∀ i u,W.cell? ⟨b,i,none⟩=some u->W'.cell? ⟨b,i,none⟩=some u:=fun i u hu=>hg.cell hu (fun e=>hne (by injection e))
 refine ⟨k _ _ h.c0,k _ _ h.c1,k _ _ h.c2,k _ _ h.c3,fun i=>?_⟩;have e:=hg.block b h.lt (fun e=>hne (by injection e));rw[<- h.f i];unfold World.frozen?;rw[e]
def iY (w0:World) (p:fk×Int) (e:Ending) (w':World):Prop:=(∃ a n c L,e=.returned (.tuple #[zQ p.1.id p.1.lim p.1.ro a n c,.int .i64 p.2])/\fB w' (.slice a n c) L/\ey L=p.1.ep)/\Below w0.heap.size w0 w'
def fB.nil (w:World):fB w (.slice none 0 0) []:=⟨jy.nil 14 iM w,fun p hp=>by cases hp⟩
def iY.no {w0:World} {c:Int} (h:Below w0.heap.size w0 w):iY w0 (yq,c) (.returned (.tuple #[zQ 0 0 false Option.none 0 0,.int .i64 c])) w:=⟨⟨Option.none,0,0,[],rfl,fB.nil _,rfl⟩,h⟩
def yx (h:fF k (ey L)) (hk:k<=10000):∀ p∈L,∀ j,j<8->(p.1.m.st j).length<=10000:=fun p hp j hj=>ak (h p.1 (cB hp) j hj) hk
def zJd (L:List GP) (k:Nat):ey (L.take k)=(ey L).take k:=List.map_take ..
def zCx (L M:List GP):ey (L++M)=ey L++ey M:=aU ..
def zHe (hk:k<L.length) (y:GP) (j:Nat):pat (L.set k y) j=if j=k then y else pat L j:=by
 unfold pat;rw[aw,dJ]
 by_cases e:k=j
 ·subst e;simp[hk]
 rw[ai e,ai (fun e'=>e e'.symm),aw]
def uk {v:Value} (h:w.ownsRow B T 14 v n (L.flatMap iM)) (hn:n=L.length) (hm:∀ p∈L,fN w p.2 p.1.m.st):fB w v L:=by
 subst hn;exact ⟨Ul (fun x _=>tJ x) (by decide) h,hm⟩
def vu (L:List GP) (y:GP):List GP:=L.map fun x=>if x.1.num=y.1.num then y else x
def zF5 (L:List GP) (y:GP):ey (vu L y)=t7 (ey L) y.1:=by
 unfold vu t7 ey;rw[List.map_map,List.map_map];refine List.map_congr_left fun x _=>?_
 simp only[Function.comp_apply]
 split<;>rfl
def qT {y p:GP} (h:p∈vu L y):p∈L∨p=y:=by
 obtain ⟨x,hx,e⟩:=List.mem_map.1 h
 by_cases c:x.1.num=y.1.num
 ·rw[ah c] at e;exact .inr e.symm
 rw[ai c] at e;exact .inl (e▸hx)
def ux (L:List GP) (y:GP):(vu L y).length=L.length:=aH ..
def vF (L:List GP) (y:GP) (k:Nat):List GP:=vu (L.take k) y++L.drop k
def zDB (L:List GP) (y:GP):vF L y 0=L:=rfl
def zFW (L:List GP) (y:GP) (k:Nat) (hk:k=L.length):vF L y k=vu L y:=by
 subst hk;unfold vF;rw[aS (ag _),cu (ag _),cz]
def zCi (L:List GP) (y:GP) (k:Nat):(vF L y k).length=L.length:=by
 unfold vF;rw[ax,ux,aB,aT];omega
def zEH (hk:k<L.length) (y:GP):pat (vF L y k) k=pat L k:=by
 unfold pat vF;rw[aw,List.getElem?_append_right (by rw[ux,aB];omega),ux,aB,cR,aw]
 congr 2;omega
def zAy (hk:k<L.length) (y:GP):vF L y (k+1)=(vF L y k).set k (if (pat L k).1.num=y.1.num then y else pat L k):=by
 have e0:L.drop k=pat L k::L.drop (k+1):=by
  rw[dH hk];unfold pat;rw[aw,aA hk];rfl
 have e1:L.take (k+1)=L.take k++[pat L k]:=by
  rw[cQ,aA hk];unfold pat;rw[aw,aA hk];rfl
 unfold vF;have hl:(vu (L.take k) y).length=k:=by rw[ux,aB];omega
 rw[e0,e1,List.set_append_right _ _ (by omega),hl,Nat.sub_self];unfold vu;rw[aU,aY]
 rfl
def zDc (hk:k<L.length) (y:GP) (h:(pat L k).1.num≠y.1.num):vF L y (k+1)=vF L y k:=by
 rw[zAy hk,ai h];apply List.ext_getElem?;intro i;rw[dJ]
 by_cases e:k=i
 ·subst e;have hk2:k<(vF L y k).length:=by rw[zCi];exact hk
  have h1:=zEH hk y;have h2:pat (vF L y k) k=(vF L y k)[k]:=by
   unfold pat;rw[aw,aA hk2];rfl
  simp only[hk2,if_true,aA hk2];rw[<- h2,h1]
 rw[ai e]
def tI (L:List GP) (num:Int) (k:Nat):Bool:=(L.take k).any fun x=>decide (x.1.num=num)
def zDG (hk:k<L.length) (num:Int):tI L num (k+1)=(tI L num k||decide ((pat L k).1.num=num)):=by
 unfold tI pat;rw[cQ,aA hk,List.any_append,aw,aA hk];simp
def zCv (L:List GP) (num:Int) (k:Nat) (hk:k=L.length):tI L num k=(ey L).any fun x=>decide (x.num=num):=by
 subst hk;unfold tI ey;rw[aS (ag _),List.any_map]
 rfl
def NJ:wQ prog 29 113 14 240:=by
 obtain ⟨i,hi,hz,hs,hb⟩:=cq (P:=prog) (e:=113) (z:=ze 0 0 0 0 Sl.nil 0 0) (size:=14) (bytes:=240) (by kernel_rfl);exact ⟨underlying29,by decide,i,_,hi,hz,hs,hb,rfl⟩
def NK (x:GP):∀ u∈iM x,u.oneCell'=true:=by
 intro u hu;simp only[iM,bp,bt,bu] at hu;rcases hu with h|h|h|h|h|h|h|h|h|h|h|h|h|h<;>rw[h]<;>rfl
def S5 (L:List GP):∀ u∈L.flatMap iM,u.oneCell'=true:=fun u hu=>by
 obtain ⟨x,_,h⟩:=List.mem_flatMap.1 hu;exact NK x u h
def tN (w:World) (i l:Int) (r:Bool) (a:Option Addr) (n c:Nat) (t:TypeId):∃ W,(w.alloc (.cells (zM i l r a n c) t)).alloc (.cells (zM 0 0 false none 0 0) t)=W/\fp W w.heap.size i l r a n c/\fp W (w.heap.size+1) 0 0 false none 0 0/\Below w.heap.size w W:=by
 refine ⟨_,rfl,(fp.new w i l r a n c t).bb (zR _ 0 0 false none 0 0 t),?_,zA (zR w i l r a n c t) (zR _ 0 0 false none 0 0 t)⟩;have:=fp.new (w.alloc (.cells (zM i l r a n c) t)) 0 0 false none 0 0 t
 rwa [cm] at this
def fp.eL {d:Nat} {i:Int} (h:fp W b i l r a n c) (hp:b≠d) (vs:List (Nat×Value)):fp (pts W d vs) b i l r a n c:=
 ⟨(yB (p:=⟨b,0,none⟩) hp vs W).trans h.c0,(yB (p:=⟨b,1,none⟩) hp vs W).trans h.c1,(yB (p:=⟨b,2,none⟩) hp vs W).trans h.c2,(yB (p:=⟨b,3,none⟩) hp vs W).trans h.c3,fun i=>(wA _ vs W).trans (h.f i)⟩
def fp.Ds {i:Int} (h:fp W b i l r a n c) (a':Option Addr) (n' c':Nat):fp (W.setCell ⟨b,3,none⟩ (.slice a' n' c')) b i l r a' n' c':=by
 have a3:=h.c3;have ne:∀ i,i≠3->∀ u,W.cell? ⟨b,i,none⟩=some u->(W.setCell ⟨b,3,none⟩ (.slice a' n' c')).cell? ⟨b,i,none⟩=some u:=fun i hi u hu=>(cA (h:=fun e=>hi (by injection e with _ e _;exact e.symm)) ..).trans hu
 exact ⟨ne 0 (by decide) _ h.c0,ne 1 (by decide) _ h.c1,ne 2 (by decide) _ h.c2,by simp[go_sem,a3],fun i=>by rw[<- h.f i];simp⟩
def zLw (i l:Int) (r:Bool) (a:Option Addr) (n c:Nat) (L:List GP) (w:World) (h:fB w (.slice a n c) L) (hs:∀ p∈L,∀ j,j<8->(p.1.m.st j).length<=10000) (hv:zb ⟨i,l,r,ey L⟩=false) :
  Calls prog 45 #[zQ i l r a n c] w (iY w (xb ⟨i,l,r,ey L⟩)):=by
 have fV:=zh (fun W (hb:Below w.heap.size w W)=>zt i l r a n c L W (h.bb hb) hs);have HC:=zh (show xb ⟨i,l,r,ey L⟩=(yq,1) by unfold xb;rw[hv];rfl);rw[hv] at fV;clear h hs hv
 go_enter func45,ntmps45
 go_upto_region 1 with fail;change Code.wp _ _ _ _ ((w.alloc (.cells (zM i l r a n c) 31)).alloc (.cells (zM 0 0 false none 0 0) 31));obtain ⟨W,hW,fJ,hbr,fS⟩:=tN w i l r a n c 31;rw[hW];have HX:=zh fJ;have HR:=zh hbr;have HB:=zh fS;clear hW fJ hbr fS;obtain ⟨k0,k1,k2,k3⟩:=HX.o.q;go_wp2_with fail;refine (fV.o _ HB.o).mono ?_;rintro e w1 ⟨rfl,hb⟩;replace HX:=zh (HX.o.bb hb);replace HR:=zh (HR.o.bb hb);replace HB:=zh (zA HB.o hb);clear hb;clear k0 k1 k2 k3;obtain ⟨z0,z1,z2,z3⟩:=HR.o.q;have zf:=HR.o.f;go_wp2_with fail;change bodyPost _ _ _ _ _ (pts w1 (w.heap.size+1) (zI 0 0 false none 0 0));have hby:=HR.o.all 0 0 false none 0 0;have eN:=zh (zC (B:=w.heap.size) (b:=(w.heap.size+1)) (by omega) (zI 0 0 false none 0 0) HB.o);generalize pts w1 (w.heap.size+1) (zI 0 0 false none 0 0)=V at *
 exact au (v:=.tuple #[zQ 0 0 false none 0 0,.int .i64 1]) (by simp[results,results45,go_sem,hby.c0,hby.c1,hby.c2,hby.c3]) rfl (by rw[HC.o];exact iY.no eN.o)
def zIc (i l:Int) (r:Bool) (a:Option Addr) (n c:Nat) (L:List GP) (w:World) (h:fB w (.slice a n c) L) (hs:∀ p∈L,∀ j,j<8->(p.1.m.st j).length<=10000) (hv:zb ⟨i,l,r,ey L⟩=true) (oA:¬ (zZ ⟨i,l,r,ey L⟩).num<8) :
  Calls prog 45 #[zQ i l r a n c] w (iY w (xb ⟨i,l,r,ey L⟩)):=by
 have fV:=zh (fun W (hb:Below w.heap.size w W)=>zt i l r a n c L W (h.bb hb) hs);have BM:=zh (fun W (hb:Below w.heap.size w W)=>qG i l r a n c L W (h.bb hb) hs);have HC:=zh (show xb ⟨i,l,r,ey L⟩=(yq,9) by unfold xb;rw[ah hv,ai oA]);rw[hv] at fV;rw[show wu ⟨i,l,r,ey L⟩=false by unfold wu;rw[hv];simpa using oA] at BM;clear h hs hv oA
 go_enter func45,ntmps45
 go_upto_region 1 with fail;change Code.wp _ _ _ _ ((w.alloc (.cells (zM i l r a n c) 31)).alloc (.cells (zM 0 0 false none 0 0) 31));obtain ⟨W,hW,fJ,hbr,fS⟩:=tN w i l r a n c 31;rw[hW];have HX:=zh fJ;have HR:=zh hbr;have HB:=zh fS;clear hW fJ hbr fS;obtain ⟨k0,k1,k2,k3⟩:=HX.o.q;go_wp2_with fail;refine (fV.o _ HB.o).mono ?_;rintro e w1 ⟨rfl,hb⟩;replace HX:=zh (HX.o.bb hb);replace HR:=zh (HR.o.bb hb);replace HB:=zh (zA HB.o hb);clear hb;clear k0 k1 k2 k3;obtain ⟨k0,k1,k2,k3⟩:=HX.o.q;go_wp2_with fail;refine (BM.o _ HB.o).mono ?_;rintro e w2 ⟨rfl,hb⟩;replace HX:=zh (HX.o.bb hb);replace HR:=zh (HR.o.bb hb);replace HB:=zh (zA HB.o hb);clear hb;clear k0 k1 k2 k3;obtain ⟨z0,z1,z2,z3⟩:=HR.o.q;have zf:=HR.o.f;go_wp2_with fail;change bodyPost _ _ _ _ _ (pts w2 (w.heap.size+1) (zI 0 0 false none 0 0))
 have hby:=HR.o.all 0 0 false none 0 0;have eN:=zh (zC (B:=w.heap.size) (b:=(w.heap.size+1)) (by omega) (zI 0 0 false none 0 0) HB.o);generalize pts w2 (w.heap.size+1) (zI 0 0 false none 0 0)=V at *;exact au (v:=.tuple #[zQ 0 0 false none 0 0,.int .i64 9]) (by simp[results,results45,go_sem,hby.c0,hby.c1,hby.c2,hby.c3]) rfl (by rw[HC.o];exact iY.no eN.o)
def zLc (i l:Int) (r:Bool) (a:Option Addr) (n c:Nat) (L:List GP) (w:World) (h:fB w (.slice a n c) L) (hs:∀ p∈L,∀ j,j<8->(p.1.m.st j).length<=10000) (hv:zb ⟨i,l,r,ey L⟩=true) (oA:(zZ ⟨i,l,r,ey L⟩).num<8) :
  Calls prog 45 #[zQ i l r a n c] w (iY w (xb ⟨i,l,r,ey L⟩)):=by
 have fV:=zh (fun W (hb:Below w.heap.size w W)=>zt i l r a n c L W (h.bb hb) hs);have BM:=zh (fun W (hb:Below w.heap.size w W)=>qG i l r a n c L W (h.bb hb) hs);have hV:=(zX _).1 hv;obtain ⟨Jz,Mc,_⟩:=hV.EI;have fT:L.length=n:=by
  obtain ⟨_,_,e,_⟩:=h.shape;injection e with _ e _;exact e.symm
 have hl:(ey L).length=n:=by rw[zk,fT]
 have hn:1<=n/\n<=8:=by have:=hV.len;simp only[hl] at this;exact this
 obtain ⟨j,rfl⟩:∃ j,n=j+1:=⟨n-1,by omega⟩
 have hC:xb ⟨i,l,r,ey L⟩=(⟨i,l,r,(ey L).take j++[{zZ ⟨i,l,r,ey L⟩ with mode:=2},fresh ((zZ ⟨i,l,r,ey L⟩).num+1)]⟩,0):=by
  unfold xb;rw[ah hv,ah oA]
  show ((⟨i,l,r,(ey L).take ((ey L).length-1)++_⟩:fk),(0:Int))=_
  rw[hl];rfl
 rw[hv] at fV;rw[show wu ⟨i,l,r,ey L⟩=true by unfold wu;rw[hv];simpa using oA] at BM;have hmem:=yP (l:=L) (i:=j) (by omega);have gN:=Jz.num;have lz:=zh (h.m _ hmem);have KH:=zh (fun W (hb:Below w.heap.size w W)=>zFo (pat L j).1 (pat L j).2 W ((h.m _ hmem).bb hb) (hs _ hmem));rw[wZ fT] at hC Jz Mc oA gN;rw[show wE (pat L j).1 1=(0,{(pat L j).1 with mode:=1+1}) from by unfold wE;rw[ah ((yM _).2 Jz),ah Mc]] at KH;have KI:=zh (fun p (hp:p∈L.take j)=>h.m p (cE hp))
 have Ah:=zh (show Rd w 14 (.slice a j c) j ((L.take j).flatMap iM) from by
  have h0:=jy.take h.r j (by omega)
  have hlt:(L.take j).length=j:=by rw[aB];omega
  have h1:=h0.2
  rwa [hlt] at h1)
 have HC:=zh hC;have Cj:Hid ((ey (L.take j))=(ey L).take j):=zh (zJd L j);have Hlt:=zh (show (L.take j).length=j by rw[aB];omega);have hcap:j<=c:=by
  obtain ⟨_,_,e,h1,_⟩:=h.shape;injection e with _ _ e;rw[e];omega
 have jC:=zh h;clear hV fT hl hv hs hmem hC Jz h;obtain ⟨b,off,rfl,hg⟩:=jC.o.at (show j<j+1 by omega);have HG:=zh hg;clear hg jC;generalize pat L j=p at *;generalize ey L=GL at *;generalize L.take j=LT at *;obtain ⟨⟨num,rev,md,sz,⟨f,LV,GA⟩⟩,s⟩:=p;dsimp only at *;subst Mc;have Gc:=xH (P:=prog) NJ (a:=some ⟨b,off,none⟩) (n:=j+1) (cap:=c) (fun x hx=>⟨b,off,by injection hx with hx;exact hx.symm⟩) j hcap
 go_enter func45,ntmps45
 go_upto_region 1 with fail;change Code.wp _ _ _ _ ((w.alloc (.cells (zM i l r (some ⟨b,off,none⟩) (j+1) c) 31)).alloc (.cells (zM 0 0 false none 0 0) 31));obtain ⟨W,hW,fJ,hbr,fS⟩:=tN w i l r (some ⟨b,off,none⟩) (j+1) c 31;rw[hW];have HX:=zh fJ;have HR:=zh hbr;have HB:=zh fS;clear hW fJ hbr fS;have hB0:w.heap.size+2<=W.heap.size:=by have:=HR.o.lt;omega
 obtain ⟨k0,k1,k2,k3⟩:=HX.o.q;go_wp2_with fail;refine (fV.o _ HB.o).mono ?_;rintro e w1 ⟨rfl,hb⟩;replace HX:=zh (HX.o.bb hb);replace HR:=zh (HR.o.bb hb);replace HB:=zh (zA HB.o hb);have hB1:=ak hB0 hb.size;clear hb fV;clear k0 k1 k2 k3;obtain ⟨k0,k1,k2,k3⟩:=HX.o.q;go_wp2_with fail;refine (BM.o _ HB.o).mono ?_;rintro e w2 ⟨rfl,hb⟩;replace HX:=zh (HX.o.bb hb);replace HR:=zh (HR.o.bb hb);replace HB:=zh (zA HB.o hb);have hB2:=ak hB1 hb.size;clear hb BM;clear k0 k1 k2 k3;have j3:IntKind.i64.wrap (j:Int)=(j:Int):=aF _ (by omega);have i2:(j:Int)<((j+1:Nat):Int):=by omega
 replace HG:=zh (HG.o.bb HB.o);have k3:=HX.o.c3;obtain ⟨g0,g1,g2,g3,g4,g5,g6,g7,g8,g9,g10,g11,g12,g13⟩:=HG.o.q
 try dsimp only at g0 g1 g2 g3 g4 g5 g6 g7 g8 g9 g10 g11 g12 g13
 go_wp2_with fail;refine (KH.o _ HB.o).mono ?_;rintro e w3 ⟨⟨t,rfl,hro⟩,hb⟩;dsimp only at hro |-;clear g0 g1 g2 g3 g4 g5 g6 g7 g8 g9 g10 g11 g12 g13;clear k3;have Fj:=ak hB2 hb.size;replace HX:=zh (HX.o.bb hb);replace HR:=zh (HR.o.bb hb);replace HB:=zh (zA HB.o hb);have JA:=zh hro;clear hro hb KH HG;go_upto_region 7 with fail;change Code.wp _ _ _ _ (w3.alloc (.cells (zU num rev 2 sz t LV GA) 113));have fq:=zT w3 num rev 2 sz t LV GA 113;have XO:=zh (eU.new w3 num rev 2 sz t LV GA 113);replace HX:=zh (HX.o.bb fq);replace HR:=zh (HR.o.bb fq);replace HB:=zh (zA HB.o fq);replace JA:=zh (JA.o.keep fq);have AB:=ak Fj fq.size;clear fq;generalize w3.alloc (.cells (zU num rev 2 sz t LV GA) 113)=w4 at *;generalize w3.heap.size=b4 at *;have q0:=XO.o.n0;go_wp2_with fail;refine (zCY (num+1) (by omega) w4).mono ?_;rintro e w5 ⟨rfl,hb⟩
 clear q0;have Fz:=ak AB hb.size;replace HX:=zh (HX.o.bb hb);replace HR:=zh (HR.o.bb hb);replace HB:=zh (zA HB.o hb);replace JA:=zh (JA.o.keep hb);replace XO:=zh (XO.o.bb hb);clear hb;go_upto_region 8 with fail;change Code.wp _ _ _ _ (w5.alloc (.cells (zU (num+1) 0 1 16 Sl.nil 0 0) 113));have fq:=zT w5 (num+1) 0 1 16 Sl.nil 0 0 113;have XF:=zh (eU.new w5 (num+1) 0 1 16 Sl.nil 0 0 113);replace HX:=zh (HX.o.bb fq);replace HR:=zh (HR.o.bb fq);replace HB:=zh (zA HB.o fq);replace JA:=zh (JA.o.keep fq);replace XO:=zh (XO.o.bb fq);have Gs:=ak Fz fq.size;clear fq;generalize w5.alloc (.cells (zU (num+1) 0 1 16 Sl.nil 0 0) 113)=w6 at *;generalize w5.heap.size=b6 at *;have WW:=zh (Ah.o.bb HB.o);have jO:=zh (S5 LT)
 have PK:Hid (∀ u∈(iM (⟨num,rev,2,sz,⟨f,LV,GA⟩⟩,t)++iM (fresh (num+1),Sl.nil)),u.oneCell'=true):=zh (fun u hu=>by rcases List.mem_append.1 hu with h|h<;>exact NK _ u h);refine wi 12 (fun L f' W=>sI 113 j (LT.flatMap iM) (iM (⟨num,rev,2,sz,⟨f,LV,GA⟩⟩,t)++iM (fresh (num+1),Sl.nil)) [(1,.pointer (some ⟨w.heap.size,3,none⟩)),(2,.slice (some ⟨b,off,none⟩) (j+1) c),(3,.int .i64 ((j:Int)+1)),(4,.int .i64 (j:Int)),(5,.slice (some ⟨b,off,none⟩) j c),(7,ze num rev 2 sz t LV GA),(8,ze (num+1) 0 1 16 Sl.nil 0 0),(11,.pointer (some ⟨w.heap.size,3,none⟩))] w6.heap.size w6 L f' W) 50 (by kernel_rfl) (by kernel_rfl) (by rfl) (by kernel_rfl) (fun f=>by simp[fU,zW,Act.put];exact rfl) (fun f=>sI.start rfl f) ?_ ?_
 ·refine ⟨?_,?_,?_,?_,?_,?_,?_,?_,?_,?_,?_,?_,trivial⟩
  ·intro L f' w7 h0 hd hI;have gl:=zh hI;clear hI hd;dsimp only;go_wp2_with fail;exact pIv (gl.o.zero h0 (by simp))
  ·intro L f' w7 h0 hd hI;have gl:=zh hI;clear hI hd;dsimp only;go_wp2_with fail;exact pIv (gl.o.pure (v:=.pointer (some ⟨w.heap.size,3,none⟩)) (by decide) (by decide) (by decide) (by decide) (by simp))
  ·intro L f' w7 h0 hd hI;have gl:=zh hI;have d1:f' 1=.pointer (some ⟨w.heap.size,3,none⟩):=hI.ji (1,.pointer (some ⟨w.heap.size,3,none⟩)) (by simp) (hd 1 (by kernel_rfl));have z3:=(HX.o.bb hI.hb).c3;clear hI hd;dsimp only;rw[d1];go_wp2_with fail;exact pIv (gl.o.pure (v:=.slice (some ⟨b,off,none⟩) (j+1) c) (by decide) (by decide) (by decide) (by decide) (by simp))
  ·intro L f' w7 h0 hd hI;have gl:=zh hI;clear hI hd;dsimp only;go_wp2_with fail;exact pIv (gl.o.pure (v:=.int .i64 ((j:Int)+1)) (by decide) (by decide) (by decide) (by decide) (by simp))
  ·intro L f' w7 h0 hd hI;have gl:=zh hI;have d3:f' 3=.int .i64 ((j:Int)+1):=hI.ji (3,.int .i64 ((j:Int)+1)) (by simp) (hd 3 (by kernel_rfl));clear hI hd;dsimp only;rw[d3];go_wp2_with fail;exact pIv (gl.o.pure (v:=.int .i64 (j:Int)) (by decide) (by decide) (by decide) (by decide) (by simp))
  ·intro L f' w7 h0 hd hI;have gl:=zh hI;have d2:f' 2=.slice (some ⟨b,off,none⟩) (j+1) c:=hI.ji (2,.slice (some ⟨b,off,none⟩) (j+1) c) (by simp) (hd 2 (by kernel_rfl));have d4:f' 4=.int .i64 (j:Int):=hI.ji (4,.int .i64 (j:Int)) (by simp) (hd 4 (by kernel_rfl));clear hI hd;dsimp only;rw[d2];rw[d4];go_wp2_with fail;exact pIv (gl.o.pure (v:=.slice (some ⟨b,off,none⟩) j c) (by decide) (by decide) (by decide) (by decide) (by simp))
  ·intro L f' w7 h0 hd hI;have gl:=zh hI;have d5:f' 5=.slice (some ⟨b,off,none⟩) j c:=hI.ji (5,.slice (some ⟨b,off,none⟩) j c) (by simp) (hd 5 (by kernel_rfl));obtain ⟨bz,e0,hown,hk⟩:=hI.Ww (hd 0 (by kernel_rfl)) h0 (by simp);have iH:=WW.o.bb hI.hb;have hsz:=hI.sz;have HK:=zh hk;clear hI hd hk;dsimp only;rw[d5,e0];refine zP rfl (.tmp 37) (.tmp 42) 29 rfl NJ w6.heap.size rfl hown rfl iH jO.o (by unfold maxLen;omega) (by omega) hsz ?_;intro v' w8 hown' Bg _;rw[aN,bV] at hown';have HQ:=zh (HK.o _ _ hown' Bg);exact pIv (HQ.o)
  ·intro L f' w7 h0 hd hI;have gl:=zh hI;have zo:=XO.o.bb hI.hb;obtain ⟨g0,g1,g2,g3,g4,g5,g6,g7,g8,g9,g10,g11,g12,g13⟩:=zo.q;clear zo;clear hI hd;dsimp only;go_wp2_with fail;exact pIv (gl.o.pure (v:=ze num rev 2 sz t LV GA) (by decide) (by decide) (by decide) (by decide) (by simp))
  ·intro L f' w7 h0 hd hI;have gl:=zh hI;have zo:=XF.o.bb hI.hb;obtain ⟨g0,g1,g2,g3,g4,g5,g6,g7,g8,g9,g10,g11,g12,g13⟩:=zo.q;clear zo;clear hI hd;dsimp only;go_wp2_with fail;exact pIv (gl.o.pure (v:=ze (num+1) 0 1 16 Sl.nil 0 0) (by decide) (by decide) (by decide) (by decide) (by simp))
  ·intro L f' w7 h0 hd hI;have gl:=zh hI;have d7:f' 7=ze num rev 2 sz t LV GA:=hI.ji (7,ze num rev 2 sz t LV GA) (by simp) (hd 7 (by kernel_rfl));have d8:f' 8=ze (num+1) 0 1 16 Sl.nil 0 0:=hI.ji (8,ze (num+1) 0 1 16 Sl.nil 0 0) (by simp) (hd 8 (by kernel_rfl));clear hI hd;dsimp only;rw[d7,d8];go_wp2_with fail;exact pIv (gl.o.two h0 rfl (by simp))
  ·intro L f' w7 h0 hd hI;have gl:=zh hI;obtain ⟨ra,rc,kz,e6,hown,e9,iH,hk⟩:=hI.Wx (hd 6 (by kernel_rfl)) (hd 9 (by kernel_rfl)) h0 (by simp);have hsz:=hI.sz;have HK:=zh hk;clear hI hd hk;dsimp only;rw[e6,e9];refine zP rfl (.tmp 43) (.tmp 46) 29 rfl NJ w6.heap.size rfl hown rfl iH PK.o (by unfold maxLen;omega) (by omega) hsz ?_;intro v' w8 hown' Bg _;have HQ:=zh (HK.o _ _ hown' Bg);exact pIv (HQ.o)
  intro L f' w7 h0 hd hI;have gl:=zh hI;clear hI hd;dsimp only;go_wp2_with fail;exact pIv (gl.o.pure (v:=.pointer (some ⟨w.heap.size,3,none⟩)) (by decide) (by decide) (by decide) (by decide) (by simp))
 intro L f' w7 hA hI;obtain ⟨ra,rc,Bc,hown⟩:=hI.Px (hA 10 (by decide));have d11:f' 11=.pointer (some ⟨w.heap.size,3,none⟩):=hI.ji (11,.pointer (some ⟨w.heap.size,3,none⟩)) (by simp) (hA 11 (by decide));have S6:=zh hI.hb;have hsz:=hI.sz;have rU:=zh hown;clear hI hA hown
 try dsimp only
 rw[Bc,d11];replace HX:=zh (HX.o.bb S6.o);replace HR:=zh (HR.o.bb S6.o);replace HB:=zh (zA HB.o S6.o);replace JA:=zh (JA.o.keep S6.o);have z3:=HX.o.c3;have zf:=HX.o.f;go_upto_region 9 with fail;clear z3 zf;have sD:Hid (fp (pts w7 w.heap.size [(3,.slice ra (j+2) rc)]) w.heap.size i l r ra (j+2) rc):=zh (HX.o.Ds ra (j+2) rc);have KJ:=zh (HR.o.eL (d:=w.heap.size) (by omega) [(3,.slice ra (j+2) rc)]);have nV:=zh (zC (B:=w.heap.size) (b:=w.heap.size) (ag _) [(3,.slice ra (j+2) rc)] HB.o);have jP:=zh (xY (b:=w.heap.size) (by omega) rU.o [(3,.slice ra (j+2) rc)]);have HM8:Hid (∀ p∈LT,fN (pts w7 w.heap.size [(3,.slice ra (j+2) rc)]) p.2 p.1.m.st):=zh (fun p hp=>(KI.o p hp).bb nV.o);have HT8:=zh (JA.o.pts (b:=w.heap.size) (by omega) [(3,.slice ra (j+2) rc)])
 change Code.wp _ _ _ _ (pts w7 w.heap.size [(3,.slice ra (j+2) rc)]);generalize pts w7 w.heap.size [(3,.slice ra (j+2) rc)]=w8 at *;obtain ⟨k0,k1,k2,k3⟩:=sD.o.q;obtain ⟨z0,z1,z2,z3⟩:=KJ.o.q;have zf:=KJ.o.f;go_wp2_with fail;change bodyPost _ _ _ _ _ (pts w8 (w.heap.size+1) (zI i l r ra (j+2) rc))
 have LN:=zh (show fB (pts w8 (w.heap.size+1) (zI i l r ra (j+2) rc)) (.slice ra (j+2) rc) (LT++[(⟨num,rev,2,sz,⟨f,LV,GA⟩⟩,t),(fresh (num+1),Sl.nil)]) from uk (B:=w6.heap.size) (T:=113) (by
  rw[cn,show [((⟨num,rev,2,sz,⟨f,LV,GA⟩⟩:Gn),t),(fresh (num+1),Sl.nil)].flatMap iM=(iM (⟨num,rev,2,sz,⟨f,LV,GA⟩⟩,t)++iM (fresh (num+1),Sl.nil)) from rfl]
  exact xY (b:=w.heap.size+1) (by omega) jP.o _) (by rw[ax,Hlt.o];rfl) (fun p hp=>by
  rcases List.mem_append.1 hp with hp|hp
  ·exact (KI.o p hp).bb (zC (B:=w.heap.size) (b:=w.heap.size+1) (by omega) (zI i l r ra (j+2) rc) nV.o)
  simp only[bp,bt,bu] at hp
  rcases hp with rfl|rfl
  ·exact (HT8.o.pts (b:=w.heap.size+1) (by omega) (zI i l r ra (j+2) rc)).rd lz.o (zC (B:=w.heap.size) (b:=w.heap.size+1) (by omega) (zI i l r ra (j+2) rc) nV.o)
  exact Pb _))
 have hby:=KJ.o.all i l r ra (j+2) rc;have eN:=zh (zC (B:=w.heap.size) (b:=(w.heap.size+1)) (by omega) (zI i l r ra (j+2) rc) nV.o);generalize pts w8 (w.heap.size+1) (zI i l r ra (j+2) rc)=V at *;exact au (v:=.tuple #[zQ i l r ra (j+2) rc,.int .i64 0]) (by simp[results,results45,go_sem,hby.c0,hby.c1,hby.c2,hby.c3]) rfl (by rw[HC.o];exact ⟨⟨ra,j+2,rc,LT++[(⟨num,rev,2,sz,⟨f,LV,GA⟩⟩,t),(fresh (num+1),Sl.nil)],rfl,LN.o,by rw[zCx,Cj.o];rfl⟩,eN.o⟩)
def zFw (i l:Int) (r:Bool) (a:Option Addr) (n c:Nat) (L:List GP) (w:World) (h:fB w (.slice a n c) L) (hs:∀ p∈L,∀ j,j<8->(p.1.m.st j).length<=10000):Calls prog 45 #[zQ i l r a n c] w (iY w (xb ⟨i,l,r,ey L⟩)):=by
 cases hv:zb ⟨i,l,r,ey L⟩
 ·exact zLw i l r a n c L w h hs hv
 by_cases oA:(zZ ⟨i,l,r,ey L⟩).num<8
 ·exact zLc i l r a n c L w h hs hv oA
 exact zIc i l r a n c L w h hs hv oA
def uE (w:World) (i l:Int) (r:Bool) (a:Option Addr) (n c:Nat) (y:GP) (t u:TypeId):∃ W,((w.alloc (.cells (zM i l r a n c) t)).alloc (.cells (zU y.1.num y.1.rev y.1.mode y.1.size y.2 y.1.m.live y.1.m.ew) u)).alloc (.cells (zM 0 0 false none 0 0) t)=W/\fp W w.heap.size i l r a n c/\eU W (w.heap.size+1) y.1.num y.1.rev y.1.mode y.1.size y.2 y.1.m.live y.1.m.ew/\fp W (w.heap.size+2) 0 0 false none 0 0/\Below w.heap.size w W:=by
 have h1:=fp.new w i l r a n c t;have b1:=zR w i l r a n c t;generalize hw1:w.alloc (.cells (zM i l r a n c) t)=w1 at *;have e1:w1.heap.size=w.heap.size+1:=by rw[<- hw1,cm]
 have h2:=eU.new w1 y.1.num y.1.rev y.1.mode y.1.size y.2 y.1.m.live y.1.m.ew u;have b2:=zT w1 y.1.num y.1.rev y.1.mode y.1.size y.2 y.1.m.live y.1.m.ew u;generalize hw2:w1.alloc (.cells (zU y.1.num y.1.rev y.1.mode y.1.size y.2 y.1.m.live y.1.m.ew) u)=w2 at *;have e2:w2.heap.size=w.heap.size+2:=by rw[<- hw2,cm,e1]
 have h3:=fp.new w2 0 0 false none 0 0 t;have b3:=zR w2 0 0 false none 0 0 t;rw[e1] at h2;rw[e2] at h3;exact ⟨_,rfl,(h1.bb b2).bb b3,h2.bb b3,h3,zA (zA b1 b2) b3⟩
def th (b:Nat):∀ (vs:List Value) (o:Nat) (W:World),W.setCells b o vs=pts W b (PI o vs)
 |[],_,_=>rfl
 |v::r,o,W=>th b r (o+1) _
def q_.there {W:World} {g o:Nat} {p:GP} (h:q_ W g o p) (hf:∀ i,W.frozen? ⟨g,i,none⟩=false):W.there g o 14:=fun j hj=>by
 refine ⟨?_,hf _⟩;rcases (show j=0∨j=1∨j=2∨j=3∨j=4∨j=5∨j=6∨j=7∨j=8∨j=9∨j=10∨j=11∨j=12∨j=13 by omega) with e|e|e|e|e|e|e|e|e|e|e|e|e|e<;>subst e
 ·rw[bE,h.n0];rfl
 ·rw[h.n1];rfl
 ·rw[h.n2];rfl
 ·rw[h.n3];rfl
 ·rw[h.c0];rfl
 ·rw[h.c1];rfl
 ·rw[h.c2];rfl
 ·rw[h.c3];rfl
 ·rw[h.c4];rfl
 ·rw[h.c5];rfl
 ·rw[h.c6];rfl
 ·rw[h.c7];rfl
 ·rw[h.cl];rfl
 rw[h.cg];rfl
def zHz:(prog.info? 113).map (·.size)=some 14:=by kernel_rfl
def WX:(prog.info? 38).map (·.size)=some 14:=by kernel_rfl
def qP (num rev md sz:Int) (s:Sl) (LV GA:Int):(zU num rev md sz s LV GA).all (·.oneCell')=true:=all_oneCell_toArray (NK (⟨num,rev,md,sz,⟨fun _=>[],LV,GA⟩⟩,s))
def qJ (W:World) (g o:Nat) (num rev md sz:Int) (s:Sl) (LV GA:Int):W.setCells g o (zU num rev md sz s LV GA).toList=pts W g (t_ o num rev md sz s LV GA):=th g _ o W
end Go.Proofs.YtcgfilmmokmdjaaGreat
