import Derived.Test.YtcgfilmmokmdjaaGreatHd
import Derived.Test.YtcgfilmmokmdjaaGreatQAG
import Derived.Laws.Bits128
import Derived.Test.YtcgfilmmokmdjaaGreatQAK
import Derived.Test.YtcgfilmmokmdjaaGreatQAH
set_option linter.all false
set_option maxRecDepth 100000
set_option maxHeartbeats 32000000
namespace Go.Proofs.YtcgfilmmokmdjaaGreat
theorem xb {M:Mp} (_:fZ M) {y:It}:y∈zJ M↔zg M y.key=some y:=by
  have ha:=yb M;rw[← vk,yQ ha];refine ⟨fun hy=>zID ha hy,fun hf=>List.mem_of_find?_eq_some hf⟩
theorem YZ {R:It→It→Prop} (hs:∀ a b,R a b→R b a):∀ {l:List It},l.Pairwise R→∀ x∈l,∀ y∈l,x≠y→R x y
  |[],_,x,hx,_,_,_=>by cases hx
  |a::l,h,x,hx,y,hy,hne=>by
    rw[dC] at h;rcases List.mem_cons.1 hx with e1|hx
    · rcases List.mem_cons.1 hy with e2|hy
      · exact absurd (e1.trans e2.symm) hne
      rw[e1];exact h.1 y hy
    rcases List.mem_cons.1 hy with e2|hy
    · rw[e2];exact hs _ _ (h.1 x hx)
    exact YZ hs h.2 x hx y hy hne
theorem qI {l:List It} (h:lR l) (size:Int):kH l size↔(∀ x∈l,∀ y∈l,x.key≠y.key→FI x y)∧∀ x∈l,vv x≤size:=by
  unfold kH;have hp:=qX h;refine ⟨fun ⟨h1,h2⟩=>⟨fun x hx y hy hne=>?_,h2⟩,fun ⟨h1,h2⟩=>⟨?_,h2⟩⟩
  · exact YZ (fun _ _ h=>Yg h) h1 x hx y hy (fun e=>hne (by rw[e]))
  refine List.Pairwise.imp_of_mem ?_ hp;intro a b ha hb hlt;exact h1 a ha b hb (by omega)
theorem zMi (n:Nat):rN n%8=0:=by unfold rN;omega
theorem zMn (n:Nat):eN n%8=0:=by
  unfold eN
  split
  · exact zMi n
  rfl
theorem lh.small {g:Gn} (h:lh g):0≤g.m.live∧0≤g.m.d_∧g.m.live≤1048576∧g.m.d_≤1048576:=by
  have h1:=(zV _).1 h.m;have h2:=h1.live0;have h3:=h1.g0;have h4:=h.sum;have h5:=h.size;omega
theorem Y0 {M M':Mp} (hm:fZ M) (Na:fZ M') {z z':Int} (h:vr (zJ M) z=true) (hz:z≤z') (hg:∀ k y,zg M' k=some y→zg M k=some y):vr (zJ M') z'=true:=by
  have h1:=(qI (yb M) z).1 (bn h);refine aC ((qI (yb M') z').2 ⟨fun x hx y hy hne=>?_,fun x hx=>?_⟩)
  · exact h1.1 x ((xb hm).2 (hg _ _ ((xb Na).1 hx))) y ((xb hm).2 (hg _ _ ((xb Na).1 hy))) hne
  have:=h1.2 x ((xb hm).2 (hg _ _ ((xb Na).1 hx)));omega
theorem zJC {M:Mp} (hm:fZ M) {x:It} (hx:okB x=true) (hgb:M.d_+(iG (zg M x.key):Int)≤1099511627776) (h:vr (zJ M) x.off=true):vr (zJ (wV M x)) (vv x)=true:=by
  have h1:=(qI (yb M) x.off).1 (bn h);have Na:=hm.ins hx hgb;have hlt:=tx (bn hx);have hmem:∀ y,y∈zJ (wV M x)→y=x∨y∈zJ M:=fun y hy=>by
    have:=(xb Na).1 hy;rw[Yb hm hx hgb] at this
    by_cases e:x.key=y.key
    · rw[ah e] at this
      injection this with e2;exact .inl e2.symm
    rw[ai e] at this;exact .inr ((xb hm).2 this)
  refine aC ((qI (yb _) _).2 ⟨fun y hy z hz hne=>?_,fun y hy=>?_⟩)
  · rcases hmem y hy with rfl|DO
    · rcases hmem z hz with rfl|TC
      · exact absurd rfl hne
      exact .inr (h1.2 z TC)
    rcases hmem z hz with rfl|TC
    · exact .inl (h1.2 y DO)
    exact h1.1 y DO z TC hne
  rcases hmem y hy with rfl|DO
  · exact cD _
  have:=h1.2 y DO;omega
theorem Y1 {g:Gn} (hg:lh g) {x:Nd} (hx:x.ok):okB (Cx g x)=true:=by
  have h1:=hg.size;have h2:x.data.length≤4096:=hx.1;refine aC ⟨?_,?_,?_,?_,?_⟩
  · exact h1.1
  · exact h1.2.1
  · exact h1.2.2
  · show (0:Int)≤(x.data.length:Int);omega
  show (x.data.length:Int)≤4096;omega
theorem zEz {g:Gn} (hg:lh g) {x:Nd} (hx:x.ok) (hz:g.size+(eN x.data.length:Int)≤1048576):lh (yS g x):=by
  have hm:=(zV _).1 hg.m;have hs:=hg.small;have h8:=zMn x.data.length;have hsz:=hg.size;have Mu:=hg.sum;have hxl:=xj x.data.length;refine ⟨hg.num,hg.rev,hg.mode,⟨?_,hz,?_⟩,?_,?_,?_⟩
  · show 16≤g.size+(eN x.data.length:Int);omega
  · show (g.size+(eN x.data.length:Int))%8=0;omega
  all_goals
    unfold yS;dsimp only
    split
    next hd =>
      have h1:g.m.d_+(iG (zg g.m x.key):Int)≤1099511627776:=by have:=PE (zg g.m x.key);omega
      have rC:=hm.del h1;have hds:=kA hm h1;have il:=rC.live0;have h2:(yP g.m x.key).d_+(eN x.data.length:Int)≤1099511627776:=by omega
      have hw:=rC.Ex (n:=(eN x.data.length:Int)) (by omega) h2
      first
        |exact (zV _).2 hw
        | (refine Y0 hm hw hg.ends (by omega) ?_
           intro k y hy
           rw[xp hw,uU,← xp rC,kR hm h1] at hy
           split at hy
           · cases hy
           exact hy)
        | (rw[X_ rC (by omega) h2]
           dsimp only
           omega)
    next hd =>
      have hok:=Y1 hg hx;have h1:g.m.d_+(iG (zg g.m (Cx g x).key):Int)≤1099511627776:=by have:=PE (zg g.m (Cx g x).key);omega
      have hi:=hm.ins hok h1;have TD:=zI7 hm hok h1;have he:xT (Cx g x)=eN x.data.length:=by unfold xT Cx;dsimp only;rw[dP]
      first
        |exact (zV _).2 hi
        | (have h3:=zJC hm hok h1 hg.ends
           have h4:vv (Cx g x)=g.size+(eN x.data.length:Int):=by unfold vv Cx;dsimp only;rw[dP]
           rwa [h4] at h3)
        | (rw[he] at TD
           omega)
theorem zKi {g:Gn} (h:lh g) (hm:g.mode=1) {l:List Nd} (hok:∀ x∈l,x.ok) (hz:g.size+(iR l:Int)≤1048576):xE g l=(0,zj g l):=by
  unfold xE;rw[ah ⟨(yJ g).2 h,(tK l).2 hok⟩,ah hm,ah hz]
/-! ### The laws' pg and fL -/
end Go.Proofs.YtcgfilmmokmdjaaGreat
namespace Go.Proofs.YtcgfilmmokmdjaaGreat
open Go.RowKit
/-! ### Same -/
theorem Y3 (n:Int):bits .and .i64 n 7=n%8:=by
 have hm:(BitVec.ofInt 64 7).toNat=2^3-1:=by decide
 have key:(BitVec.ofInt 64 n &&& BitVec.ofInt 64 7).toNat=(n%((2^64:Nat):Int)).toNat%2^3:=by
  rw[BitVec.toNat_and,BitVec.toNat_ofInt,hm,dW]
 show IntKind.i64.wrap ((BitVec.ofInt 64 n &&& BitVec.ofInt 64 7).toNat:Nat)=n%8
 rw[key,IntKind.wrap_i64];omega
theorem Rd.jD (k:Nat) (w:World) (hk:w.heap.size=k) (sz:Nat) (cs:List Value) (e:TypeId) (n:Nat) (hn:cs.length=n*sz) (hm:n≤maxLen):Rd (w.alloc (.cells cs.toArray e)) sz (.slice (some ⟨k,0,none⟩) n n) n cs:=by
 subst hk;exact Rd.new w sz cs e n hn hm
def K4 (f:Nat→List It):Bool:=(List.range 8).all fun i=>decide ((f i).length≤8)
theorem zGl {f:Nat→List It} {i:Nat} (hi:i<8) (h:¬ (f i).length≤8):K4 f=false:=by
 unfold K4;rw[List.all_eq_false];exact ⟨i,List.mem_range.2 hi,by simpa using h⟩
theorem zFB {f:Nat→List It} (h:∀ i,i<8→(f i).length≤8):K4 f=true:=List.all_eq_true.2 fun i hi=>aC (h i (List.mem_range.1 hi))
theorem zFD {f:Nat→List It} (h:K4 f=true):∀ i,i<8→(f i).length≤8:=fun i hi=>bn (List.all_eq_true.1 h i (List.mem_range.2 hi))
theorem Y4 (n:Int) (hn:1≤n∧n≤8) (w:World):Calls Tryz.prog 78 #[.int .i64 n] w fun e w'=>e=.returned (.tuple #[zd n 0 1 16 Sl.nil 0 0,.int .i64 0])∧Below w.heap.size w w':=by
 have HR:=zh (eO.new w 0 0 0 0 Sl.nil 0 0 113);have HB:=zh (zZ w 0 0 0 0 Sl.nil 0 0 113);have e1:decide (n<1)=false:=aD (by omega);have e2:decide (8<n)=false:=aD (by omega);clear hn
 go_enter Tryz.func78,Tryz.ntmps78
 go_upto_region 1 with fail;obtain ⟨W,hW⟩:∃ W,w.alloc (.cells (zX 0 0 0 0 Sl.nil 0 0) 113)=W:=⟨_,rfl⟩
 change Code.wp _ _ _ _ (w.alloc (.cells (zX 0 0 0 0 Sl.nil 0 0) 113));rw[hW] at HR HB ⊢;clear hW;obtain ⟨r0,r1,r2,r3,r4,r5,r6,r7,r8,r9,mW,mC,nB,oJ⟩:=HR.out.q;have rf:=HR.out.f;go_wp2_with fail;change bodyPost _ _ _ _ _ (pts W w.heap.size (zQ n 0 1 16 Sl.nil 0 0));have hby:=HR.out.all n 0 1 16 Sl.nil 0 0;have eD:=zh (zD (B:=w.heap.size) (b:=w.heap.size) (by omega) (zQ n 0 1 16 Sl.nil 0 0) HB.out);generalize pts W w.heap.size (zQ n 0 1 16 Sl.nil 0 0)=V at *;exact au (v:=.tuple #[zd n 0 1 16 Sl.nil 0 0,.int .i64 0]) (by simp[results,Tryz.results78,go_sem,hby.q]) rfl ⟨rfl,eD.out⟩
def TE (x:Nd):Nd:=⟨x.key%8,x.ck,x.del,if x.del then [] else x.data.take 30⟩
def K5 (l:List Nd):List Nd:=(l.take 6).map TE
theorem zJh (x:Nd):(TE x).data.length≤30:=by
 unfold TE;dsimp only
 split
 ·
  simp
 rw[ay];omega
theorem Y5 (l:List Nd):(K5 l).length≤6:=by unfold K5;rw[aH,ay];omega
theorem zGx (l:List Nd):∀ x∈K5 l,x.data.length≤30:=fun x hx=>by
 obtain ⟨y,_,rfl⟩:=List.mem_map.1 hx;exact zJh y
structure oM where
 kind:Int
 lv:Value
 l:List (Nd×Value)
 gen:Int
 kv:Value
 keys:List Int
def Nb:oM:=⟨0,.slice none 0 0,[],0,.slice none 0 0,[]⟩
instance:Inhabited oM:=⟨Nb⟩
def PY (x:oM):List Value:=[.int .i64 x.kind,x.lv,.int .i64 x.gen,x.kv]
theorem zKw (x:oM):(PY x).length=4:=rfl
def kB (l:List oM) (i:Nat):oM:=l.getD i Nb
theorem zJY {l:List oM} {i:Nat} (h:i<l.length):kB l i∈l:=by
 unfold kB;rw[ax,aB h];exact bI h
noncomputable def vt (s:eX) (r:Int×Gn):eX:=if r.1=0∧(yV s r.2).2=0 then (yV s r.2).1 else s
noncomputable def Nc (s:eX) (kd:Int) (ns:List Nd) (gen:Int) (keys:List Int):eX:=
 if kd=2 then (if (vV s).2=0 then (vV s).1 else s)
 else if kd=3 then vt s (xA (eV s.dY (gen%(s.dY.length:Int)).toNat) (keys.take 8))
 else vt s (xE (ze s) (K5 ns))
noncomputable def zMD (s:eX) (x:oM):eX:=Nc s (bits .and .i64 x.kind 3) (x.l.map (·.1)) x.gen x.keys
def Dj:eX:=⟨1,9000,false,[fresh 1]⟩
noncomputable def zLb (s:eX) (l:List oM):eX:=l.foldl zMD s
noncomputable def zMp (l:List oM):eX:=zLb Dj (l.take 8)
theorem ti {l:List Gn} {i:Nat} (h:i<l.length):eV l i∈l:=by
 unfold eV;rw[ax,aB h];exact bI h
def fu (k:Nat) (l:List Gn):Prop:=∀ g∈l,∀ i,i<8→(g.m.st i).length≤k
def zMT (k:Int) (l:List Gn):Prop:=∀ g∈l,g.size≤k
theorem fu.mono {k k':Nat} {l:List Gn} (h:fu k l) (hk:k≤k'):fu k' l:=fun g hg i hi=>ak (h g hg i hi) hk
theorem TF {l:List Gn} {g x:Gn} (h:x∈tH l g):x∈l∨x=g:=by
 obtain ⟨y,hy,e⟩:=List.mem_map.1 h
 by_cases c:y.num=g.num
 ·
  rw[ah c] at e;exact .inr e.symm
 rw[ai c] at e;exact .inl (e▸hy)
theorem zJJ (l:List Gn) (g:Gn):(tH l g).length=l.length:=aH ..
theorem P3 {s:eX} {g:Gn} (h:(yV s g).2=0):(yV s g).1=⟨s.id,s.lim,s.ro,tH s.dY g⟩:=by
 unfold yV at h ⊢
 by_cases hv:zY s=true
 ·
  rw[ah hv] at h ⊢
  by_cases hn:(s.dY.any fun x=>decide (x.num=g.num))=true
  ·
   rw[ah hn] at h ⊢
   by_cases hw:zY ⟨s.id,s.lim,s.ro,tH s.dY g⟩=true
   ·
    rw[ah hw]
   rw[ai hw] at h;cases h
  rw[ai hn] at h;cases h
 rw[ai hv] at h;cases h
theorem Y6 {s:eX} (h:(vV s).2=0):(vV s).1=⟨s.id,s.lim,s.ro,s.dY.take (s.dY.length-1)++[{ze s with mode:=2},fresh ((ze s).num+1)]⟩:=by
 unfold vV at h ⊢
 by_cases hv:zY s=true
 ·
  rw[ah hv] at h ⊢
  by_cases hn:(ze s).num<8
  ·
   rw[ah hn]
  rw[ai hn] at h;cases h
 rw[ai hv] at h;cases h
theorem tg {s:eX} (h:eT s):ze s∈s.dY:=ti (by have:=h.len;omega)
theorem zLA (l:List Nd):iR (K5 l)≤400:=by
 have key:∀ k:List Nd,(∀ x∈k,x.data.length≤30)→iR k≤k.length*56:=by
  intro k
  induction k with
  |nil=>intro _;exact aq _
  |cons x r ih =>
   intro h;have h1:=ih fun y hy=>h y (by simp[hy])
   have h2:=h x (by simp);have h3:eN x.data.length≤56:=by rw[LR (by omega)];unfold rN;omega
   rw[vG,aV];omega
 have h1:=key _ (zGx l);have h2:=Y5 l;omega
theorem kG {g:Gn} {l:List Nd} (h:(xE g l).1=0):(xE g l).2=zj g l:=by
 unfold xE at h ⊢
 split
 ·
  rename_i h1;rw[ah h1] at h
  split
  ·
   rename_i h2;rw[ah h2] at h
   split
   ·
    rfl
   rename_i h3;rw[ai h3] at h;cases h
  rename_i h2;rw[ai h2] at h;cases h
 rename_i h1;rw[ai h1] at h;cases h
theorem Y7 {g:Gn} {l:List Int} (h:(xA g l).1=0):(xA g l).2={g with m:=l.foldl yP g.m}:=by
 unfold xA at h ⊢
 split
 ·
  rename_i h1;rw[ah h1] at h
  split
  ·
   rename_i h2;rw[ah h2] at h;cases h
  rfl
 rename_i h1;rw[ai h1] at h;cases h
structure jg (n:Nat) (s:eX):Prop where
 v:eT s
 id:s.id=1
 lim:s.lim=9000
 ro:s.ro=false
 len:fu (6*n) s.dY
 IC:zMT (16+400*(n:Int)) s.dY
theorem zFv:jg 0 Dj:=by
 refine ⟨(zW _).1 (PL 1 9000 false (by decide)),rfl,rfl,rfl,fun g hg i _=>?_,fun g hg=>?_⟩
 ·
  obtain rfl:=List.mem_singleton.1 hg;exact aq _
 obtain rfl:=List.mem_singleton.1 hg
 show (16:Int)≤_
 omega
theorem jg.up {n:Nat} {s:eX} (h:jg n s):jg (n+1) s:=⟨h.v,h.id,h.lim,h.ro,h.len.mono (by omega),fun g hg=>by have:=h.IC g hg;omega⟩
theorem jg.JO {n:Nat} {s:eX} (h:jg n s) {g:Gn} (hc:(yV s g).2=0) (hl:∀ i,i<8→(g.m.st i).length≤6*(n+1)) (hz:g.size≤16+400*((n+1:Nat):Int)):jg (n+1) (yV s g).1:=by
 have hv:=zJK hc;rw[P3 hc] at hv ⊢;refine ⟨hv,h.id,h.lim,h.ro,fun x hx i hi=>?_,fun x hx=>?_⟩
 ·
  rcases TF hx with hx|rfl
  ·
   exact ak (h.len x hx i hi) (by omega)
  exact hl i hi
 rcases TF hx with hx|rfl
 ·
  have:=h.IC x hx;omega
 exact hz
theorem Y8 {n:Nat} {s:eX} (h:jg n s) (kd:Int) (ns:List Nd) (gen:Int) (keys:List Int):jg (n+1) (Nc s kd ns gen keys):=by
 unfold Nc
 split
 ·
  split
  ·
   rename_i hr;have hv:=zJ0 hr;rw[Y6 hr] at hv ⊢;refine ⟨hv,h.id,h.lim,h.ro,fun x hx i hi=>?_,fun x hx=>?_⟩
   ·
    rcases List.mem_append.1 hx with hx|hx
    ·
     exact ak (h.len x (bT hx) i hi) (by omega)
    simp only[aX,aY,aZ] at hx;rcases hx with rfl|rfl
    ·
     exact ak (h.len _ (tg h.v) i hi) (by omega)
    exact aq _
   rcases List.mem_append.1 hx with hx|hx
   ·
    have:=h.IC x (bT hx);omega
   simp only[aX,aY,aZ] at hx;rcases hx with rfl|rfl
   ·
    have:=h.IC _ (tg h.v);dsimp only;omega
   show (16:Int)≤_;omega
  exact h.up
 split
 ·
  unfold vt
  split
  ·
   rename_i hr;obtain ⟨h1,h2⟩:=hr
   have hg:eV s.dY (gen%(s.dY.length:Int)).toNat∈s.dY:=ti (by
    have h1:=h.v.len
    have h2:=Int.emod_lt_of_pos gen (show (0:Int)<(s.dY.length:Int) by omega)
    have h3:=Int.emod_nonneg gen (show (s.dY.length:Int)≠0 by omega)
    omega)
   refine h.JO h2 ?_ ?_
   ·
    rw[Y7 h1];intro i hi;exact ak (wQ _ _ (h.len _ hg) i hi) (by omega)
   rw[Y7 h1];have:=h.IC _ hg;dsimp only;omega
  exact h.up
 unfold vt
 split
 ·
  rename_i hr;obtain ⟨h1,h2⟩:=hr;have hg:=tg h.v;refine h.JO h2 ?_ ?_
  ·
   rw[kG h1];intro i hi;have:=wT (K5 ns) _ (h.len _ hg) i hi;have:=Y5 ns;omega
  rw[kG h1,vI];have:=h.IC _ hg;have:=zLA ns;omega
 exact h.up
def Nf (o:Nat):List Value→List (Nat×Value)
 |[]=>[]
 |v::r=>(o,v)::Nf (o+1) r
def JQ (xs:List Value) (o:Nat):List Value→List Value
 |[]=>xs
 |v::r=>JQ (xs.set o v) (o+1) r
theorem Y9:∀ (vs m a b:List Value),m.length=vs.length→JQ (a++(m++b)) a.length vs=a++(vs++b)
 |[],m,a,b,h=>by
  obtain rfl:=List.length_eq_zero_iff.1 h
  rfl
 |v::r,[],a,b,h=>by cases h
 |v::r,x::m,a,b,h=>by
  show JQ ((a++(x::m++b)).set a.length v) (a.length+1) r=_
  have e:(a++(x::m++b)).set a.length v=(a++[v])++(m++b):=by simp
  have:=Y9 r m (a++[v]) b (by simpa using h);rw[e];rw[aw] at this
  simpa using this
theorem TH {α:Type} (sz:Nat) (f:α→List Value) (hf:∀ x,(f x).length=sz) (es:List α) (k:Nat) (hk:k<es.length) (y:α):JQ (es.flatMap f) (k*sz) (f y)=(es.set k y).flatMap f:=by
 have e0:es=es.take k++es[k]::es.drop (k+1):=by
  rw[← dO hk,b9]
 have e1:es.flatMap f=(es.take k).flatMap f++(f es[k]++(es.drop (k+1)).flatMap f):=by
  have h1:es.flatMap f=(es.take k++es[k]::es.drop (k+1)).flatMap f:=by rw[← e0]
  rw[h1,b7,ct]
 have e2:((es.take k).flatMap f).length=k*sz:=by
  rw[yR sz f _ (fun x _=>hf x),ay,bW (by omega)]
 rw[e1,← e2,Y9 _ _ _ _ (by rw[hf,hf]),List.set_eq_take_append_cons_drop,ah hk];simp
theorem Y_ {B g n cap sz:Nat} {T:TypeId}:∀ (vs:List Value) (o:Nat) (xs:List Value) (W:World),W.ownsRow B T sz (.slice (some ⟨g,0,none⟩) n cap) n xs →
  (pts W g (Nf o vs)).ownsRow B T sz (.slice (some ⟨g,0,none⟩) n cap) n (JQ xs o vs)∧W.grownBy (pts W g (Nf o vs)) (some g)
 |[],_,_,W,h=>⟨h,rfl,rfl,rfl,ag _,fun _ _ _=>rfl⟩
 |v::r,o,xs,W,h=>by
  have h1:=h.stored o v;have h2:=Y_ r (o+1) _ _ h1.1;exact ⟨h2.1,zr h1.2 h2.2⟩
abbrev Bk (o:Nat) (n r md z:Int) (s:Sl) (l g:Int):List (Nat×Value):=[(o,.int .i64 n),(o+1,.int .i64 r),(o+2,.int .i64 md),(o+3,.int .i64 z),(o+4,.slice (s.a 0) (s.n 0) (s.c 0)),(o+5,.slice (s.a 1) (s.n 1) (s.c 1)),(o+6,.slice (s.a 2) (s.n 2) (s.c 2)),(o+7,.slice (s.a 3) (s.n 3) (s.c 3)),(o+8,.slice (s.a 4) (s.n 4) (s.c 4)),(o+9,.slice (s.a 5) (s.n 5) (s.c 5)),(o+10,.slice (s.a 6) (s.n 6) (s.c 6)),(o+11,.slice (s.a 7) (s.n 7) (s.c 7)),(o+12,.int .i64 l),(o+13,.int .i64 g)]
theorem zKV (o:Nat) (x:GP):Nf o (iL x)=Bk o x.1.num x.1.rev x.1.mode x.1.size x.2 x.1.m.live x.1.m.d_:=rfl
theorem t6 {W:World} {B g n cap:Nat} {T:TypeId} {L:List GP} (h:W.ownsRow B T 14 (.slice (some ⟨g,0,none⟩) n cap) n (L.flatMap iL)) (k:Nat) (hk:k<L.length) (y:GP) :
  (pts W g (Bk (k*14) y.1.num y.1.rev y.1.mode y.1.size y.2 y.1.m.live y.1.m.d_)).ownsRow B T 14 (.slice (some ⟨g,0,none⟩) n cap) n ((L.set k y).flatMap iL) ∧
  W.grownBy (pts W g (Bk (k*14) y.1.num y.1.rev y.1.mode y.1.size y.2 y.1.m.live y.1.m.d_)) (some g):=by
 have h1:=Y_ (iL y) (k*14) _ W h;rw[TH 14 iL uA L k hk y,zKV] at h1;exact h1
theorem uV {w:World} {B:Nat} {e:TypeId} {sz n cap:Nat} {a:Option Addr} {xs:List Value} (h:w.ownsRow B e sz (.slice a n cap) n xs) (hn:0<n):∃ g,a=some ⟨g,0,none⟩∧B≤g∧g<w.heap.size:=by
 rcases h.2 with ⟨e,h0⟩|⟨g,_,cur,e,hb,hg,_⟩
 ·
  omega
 injection e with e _ _;exact ⟨g,e,hb,(Array.getElem?_eq_some_iff.1 hg).1⟩
theorem xw {w:World} {B:Nat} {e:TypeId} {sz n cap g:Nat} {xs:List Value} (h:w.ownsRow B e sz (.slice (some ⟨g,0,none⟩) n cap) n xs) (i:Nat):w.frozen? ⟨g,i,none⟩=false:=by
 rcases h.2 with ⟨e,_⟩|⟨g',c2,cur,h',hb,hg,_⟩
 ·
  cases e
 injection h' with h' _ _;injection h' with h';injection h' with h';subst h';unfold World.frozen?;rw[hg];simp
theorem P4 {w:World} {B n cap g:Nat} {T:TypeId} {L:List GP} (h:w.ownsRow B T 14 (.slice (some ⟨g,0,none⟩) n cap) n (L.flatMap iL)) (hn:n=L.length) {k:Nat} (hk:k<n):oI w g (k*14) (pat L k):=by
 subst hn;have hS:iN 14 iL w _ L:=Q0 (fun x _=>uA x) (by decide) h;obtain ⟨_,_,e,_,_,_,hc⟩:=hS.shape (by decide) Iy;injection e with e1 e2 e3;obtain ⟨b,off,e4,hc⟩:=hc (by omega);rw[← e1] at e4;injection e4 with e4;injection e4 with e5 e6;subst e5 e6;have c:=hc k hk;simp only[aI] at c;refine ⟨?_,c 1 _ rfl,c 2 _ rfl,c 3 _ rfl,c 4 _ rfl,c 5 _ rfl,c 6 _ rfl,c 7 _ rfl,c 8 _ rfl,c 9 _ rfl,c 10 _ rfl,c 11 _ rfl,c 12 _ rfl,c 13 _ rfl⟩;have:=c 0 _ rfl;rwa [bB] at this
theorem eO.mX {W W':World} {b g:Nat} {n r md z:Int} {s:Sl} {l q:Int} (h:eO W b n r md z s l q) (hg:W.grownBy W' (some g)) (hne:b≠g):eO W' b n r md z s l q:=by
 have k:∀ i u,W.cell? ⟨b,i,none⟩=some u→W'.cell? ⟨b,i,none⟩=some u:=fun i u hu=>hg.cell hu (fun e=>hne (by injection e))
 refine ⟨k _ _ h.n0,k _ _ h.n1,k _ _ h.n2,k _ _ h.n3,fun j hj=>k _ _ (h.c j hj),k _ _ h.cl,k _ _ h.cg,fun i=>?_⟩;have e:=hg.block b h.lt (fun e=>hne (by injection e));rw[← h.f i];unfold World.frozen?;rw[e]
theorem eW.mX {W W':World} {b g:Nat} {i l:Int} {r:Bool} {a:Option Addr} {n c:Nat} (h:eW W b i l r a n c) (hg:W.grownBy W' (some g)) (hne:b≠g):eW W' b i l r a n c:=by
 have k:∀ i u,W.cell? ⟨b,i,none⟩=some u→W'.cell? ⟨b,i,none⟩=some u:=fun i u hu=>hg.cell hu (fun e=>hne (by injection e))
 refine ⟨k _ _ h.c0,k _ _ h.c1,k _ _ h.c2,k _ _ h.c3,fun i=>?_⟩;have e:=hg.block b h.lt (fun e=>hne (by injection e));rw[← h.f i];unfold World.frozen?;rw[e]
def nD (w0:World) (p:eX×Int) (e:Ending) (w':World):Prop:=(∃ a n c L,e=.returned (.tuple #[zO p.1.id p.1.lim p.1.ro a n c,.int .i64 p.2])∧fD w' (.slice a n c) L∧ep L=p.1.dY)∧Below w0.heap.size w0 w'
theorem fD.nil (w:World):fD w (.slice none 0 0) []:=⟨iN.nil 14 iL w,fun p hp=>by cases hp⟩
theorem nD.no {w0 w:World} {c:Int} (h:Below w0.heap.size w0 w):nD w0 (xh,c) (.returned (.tuple #[zO 0 0 false Option.none 0 0,.int .i64 c])) w:=⟨⟨Option.none,0,0,[],rfl,fD.nil _,rfl⟩,h⟩
theorem xu {L:List GP} {k:Nat} (h:fu k (ep L)) (hk:k≤10000):∀ p∈L,∀ j,j<8→(p.1.m.st j).length≤10000:=fun p hp j hj=>ak (h p.1 (cZ hp) j hj) hk
theorem zH9 (L:List GP) (k:Nat):ep (L.take k)=(ep L).take k:=List.map_take ..
theorem zFs (L M:List GP):ep (L++M)=ep L++ep M:=bD ..
theorem Za {L:List GP} {k:Nat} (hk:k<L.length) (y:GP) (j:Nat):pat (L.set k y) j=if j=k then y else pat L j:=by
 unfold pat;rw[ax,dB]
 by_cases e:k=j
 ·
  subst e;simp[hk]
 rw[ai e,ai (fun e'=>e e'.symm),ax]
theorem qQ {w:World} {B n:Nat} {v:Value} {T:TypeId} {L:List GP} (h:w.ownsRow B T 14 v n (L.flatMap iL)) (hn:n=L.length) (hm:∀ p∈L,fG w p.2 p.1.m.st):fD w v L:=by
 subst hn;exact ⟨Q0 (fun x _=>uA x) (by decide) h,hm⟩
def vQ (L:List GP) (y:GP):List GP:=L.map fun x=>if x.1.num=y.1.num then y else x
theorem Zb (L:List GP) (y:GP):ep (vQ L y)=tH (ep L) y.1:=by
 unfold vQ tH ep;rw[List.map_map,List.map_map];refine List.map_congr_left fun x _=>?_
 simp only[Function.comp_apply]
 split<;>rfl
theorem tZ {L:List GP} {y p:GP} (h:p∈vQ L y):p∈L∨p=y:=by
 obtain ⟨x,hx,e⟩:=List.mem_map.1 h
 by_cases c:x.1.num=y.1.num
 ·
  rw[ah c] at e;exact .inr e.symm
 rw[ai c] at e;exact .inl (e▸hx)
theorem uY (L:List GP) (y:GP):(vQ L y).length=L.length:=aH ..
def wk (L:List GP) (y:GP) (k:Nat):List GP:=vQ (L.take k) y++L.drop k
theorem Zc (L:List GP) (y:GP):wk L y 0=L:=rfl
theorem Zd (L:List GP) (y:GP) (k:Nat) (hk:k=L.length):wk L y k=vQ L y:=by
 subst hk;unfold wk;rw[aS (ag _),bY (ag _),bZ]
theorem TI (L:List GP) (y:GP) (k:Nat):(wk L y k).length=L.length:=by
 unfold wk;rw[aw,uY,ay,aP];omega
theorem TJ {L:List GP} {k:Nat} (hk:k<L.length) (y:GP):pat (wk L y k) k=pat L k:=by
 unfold pat wk;rw[ax,dS (by rw[uY,ay];omega),uY,ay,cQ,ax]
 congr 2;omega
theorem TK {L:List GP} {k:Nat} (hk:k<L.length) (y:GP):wk L y (k+1)=(wk L y k).set k (if (pat L k).1.num=y.1.num then y else pat L k):=by
 have e0:L.drop k=pat L k::L.drop (k+1):=by
  rw[dO hk];unfold pat;rw[ax,aB hk];rfl
 have e1:L.take (k+1)=L.take k++[pat L k]:=by
  rw[cV,aB hk];unfold pat;rw[ax,aB hk];rfl
 unfold wk;have hl:(vQ (L.take k) y).length=k:=by rw[uY,ay];omega
 rw[e0,e1,List.set_append_right _ _ (by omega),hl,Nat.sub_self];unfold vQ;rw[bD,bt]
 rfl
theorem Ze {L:List GP} {k:Nat} (hk:k<L.length) (y:GP) (h:(pat L k).1.num≠y.1.num):wk L y (k+1)=wk L y k:=by
 rw[TK hk,ai h];apply List.ext_getElem?;intro i;rw[dB]
 by_cases e:k=i
 ·
  subst e;have hk2:k<(wk L y k).length:=by rw[TI];exact hk
  have h1:=TJ hk y;have h2:pat (wk L y k) k=(wk L y k)[k]:=by
   unfold pat;rw[ax,aB hk2];rfl
  simp only[hk2,if_true,aB hk2];rw[← h2,h1]
 rw[ai e]
def ug (L:List GP) (num:Int) (k:Nat):Bool:=(L.take k).any fun x=>decide (x.1.num=num)
theorem Zf {L:List GP} {k:Nat} (hk:k<L.length) (num:Int):ug L num (k+1)=(ug L num k||decide ((pat L k).1.num=num)):=by
 unfold ug pat;rw[cV,aB hk,List.any_append,ax,aB hk];simp
theorem TL (L:List GP) (num:Int) (k:Nat) (hk:k=L.length):ug L num k=(ep L).any fun x=>decide (x.num=num):=by
 subst hk;unfold ug ep;rw[aS (ag _),List.any_map]
 rfl
theorem Ng:xt Tryz.prog 29 113 14 240:=by
 obtain ⟨i,hi,hz,hs,hb⟩:=cm (P:=Tryz.prog) (e:=113) (z:=zd 0 0 0 0 Sl.nil 0 0) (size:=14) (bytes:=240) (by kernel_rfl);exact ⟨Tryz.underlying29,by decide,i,_,hi,hz,hs,hb,rfl⟩
theorem P5 (x:GP):∀ u∈iL x,u.oneCell'=true:=by
 intro u hu;simp only[iL,aX,aY,aZ] at hu;rcases hu with h|h|h|h|h|h|h|h|h|h|h|h|h|h<;>rw[h]<;>rfl
theorem P6 (L:List GP):∀ u∈L.flatMap iL,u.oneCell'=true:=fun u hu=>by
 obtain ⟨x,_,h⟩:=List.mem_flatMap.1 hu;exact P5 x u h
theorem P8 (w:World) (i l:Int) (r:Bool) (a:Option Addr) (n c:Nat) (t:TypeId):∃ W,(w.alloc (.cells (zK i l r a n c) t)).alloc (.cells (zK 0 0 false none 0 0) t)=W∧eW W w.heap.size i l r a n c∧eW W (w.heap.size+1) 0 0 false none 0 0∧Below w.heap.size w W:=by
 refine ⟨_,rfl,(eW.new w i l r a n c t).below (zM _ 0 0 false none 0 0 t),?_,zA (zM w i l r a n c t) (zM _ 0 0 false none 0 0 t)⟩;have:=eW.new (w.alloc (.cells (zK i l r a n c) t)) 0 0 false none 0 0 t
 rwa [cO] at this
theorem eW.eE {W:World} {b d:Nat} {i l:Int} {r:Bool} {a:Option Addr} {n c:Nat} (h:eW W b i l r a n c) (hp:b≠d) (vs:List (Nat×Value)):eW (pts W d vs) b i l r a n c:=
 ⟨(yC (p:=⟨b,0,none⟩) hp vs W).trans h.c0,(yC (p:=⟨b,1,none⟩) hp vs W).trans h.c1,(yC (p:=⟨b,2,none⟩) hp vs W).trans h.c2,(yC (p:=⟨b,3,none⟩) hp vs W).trans h.c3,fun i=>(xY _ vs W).trans (h.f i)⟩
theorem eW.EH {W:World} {b:Nat} {i l:Int} {r:Bool} {a:Option Addr} {n c:Nat} (h:eW W b i l r a n c) (a':Option Addr) (n' c':Nat):eW (W.setCell ⟨b,3,none⟩ (.slice a' n' c')) b i l r a' n' c':=by
 have a3:=h.c3;have ne:∀ i,i≠3→∀ u,W.cell? ⟨b,i,none⟩=some u→(W.setCell ⟨b,3,none⟩ (.slice a' n' c')).cell? ⟨b,i,none⟩=some u:=fun i hi u hu=>(cz (h:=fun e=>hi (by injection e with _ e _;exact e.symm)) ..).trans hu
 exact ⟨ne 0 (by decide) _ h.c0,ne 1 (by decide) _ h.c1,ne 2 (by decide) _ h.c2,by simp[go_sem,a3],fun i=>by rw[← h.f i];simp⟩
theorem zKO (i l:Int) (r:Bool) (a:Option Addr) (n c:Nat) (L:List GP) (w:World) (h:fD w (.slice a n c) L) (hs:∀ p∈L,∀ j,j<8→(p.1.m.st j).length≤10000) (hv:zY ⟨i,l,r,ep L⟩=false) :
  Calls Tryz.prog 45 #[zO i l r a n c] w (nD w (vV ⟨i,l,r,ep L⟩)):=by
 have fQ:=zh (fun W (hb:Below w.heap.size w W)=>zz i l r a n c L W (h.below hb) hs);have HC:=zh (show vV ⟨i,l,r,ep L⟩=(xh,1) by unfold vV;rw[hv];rfl);rw[hv] at fQ;clear h hs hv
 go_enter Tryz.func45,Tryz.ntmps45
 go_upto_region 1 with fail;change Code.wp _ _ _ _ ((w.alloc (.cells (zK i l r a n c) 31)).alloc (.cells (zK 0 0 false none 0 0) 31));obtain ⟨W,hW,fM,hbr,fU⟩:=P8 w i l r a n c 31;rw[hW];have HX:=zh fM;have HR:=zh hbr;have HB:=zh fU;clear hW fM hbr fU;obtain ⟨k0,k1,k2,k3⟩:=HX.out.q;go_wp2_with fail;refine (fQ.out _ HB.out).mono ?_;rintro e w1 ⟨rfl,hb⟩;replace HX:=zh (HX.out.below hb);replace HR:=zh (HR.out.below hb);replace HB:=zh (zA HB.out hb);clear hb;clear k0 k1 k2 k3;obtain ⟨z0,z1,z2,z3⟩:=HR.out.q;have zf:=HR.out.f;go_wp2_with fail;change bodyPost _ _ _ _ _ (pts w1 (w.heap.size+1) (zR 0 0 false none 0 0));have hby:=HR.out.all 0 0 false none 0 0;have eD:=zh (zD (B:=w.heap.size) (b:=(w.heap.size+1)) (by omega) (zR 0 0 false none 0 0) HB.out);generalize pts w1 (w.heap.size+1) (zR 0 0 false none 0 0)=V at *
 exact au (v:=.tuple #[zO 0 0 false none 0 0,.int .i64 1]) (by simp[results,Tryz.results45,go_sem,hby.c0,hby.c1,hby.c2,hby.c3]) rfl (by rw[HC.out];exact nD.no eD.out)
theorem zHB (i l:Int) (r:Bool) (a:Option Addr) (n c:Nat) (L:List GP) (w:World) (h:fD w (.slice a n c) L) (hs:∀ p∈L,∀ j,j<8→(p.1.m.st j).length≤10000) (hv:zY ⟨i,l,r,ep L⟩=true) (AX:¬ (ze ⟨i,l,r,ep L⟩).num<8) :
  Calls Tryz.prog 45 #[zO i l r a n c] w (nD w (vV ⟨i,l,r,ep L⟩)):=by
 have fQ:=zh (fun W (hb:Below w.heap.size w W)=>zz i l r a n c L W (h.below hb) hs);have EI:=zh (fun W (hb:Below w.heap.size w W)=>tQ i l r a n c L W (h.below hb) hs);have HC:=zh (show vV ⟨i,l,r,ep L⟩=(xh,9) by unfold vV;rw[ah hv,ai AX]);rw[hv] at fQ;rw[show vO ⟨i,l,r,ep L⟩=false by unfold vO;rw[hv];simpa using AX] at EI;clear h hs hv AX
 go_enter Tryz.func45,Tryz.ntmps45
 go_upto_region 1 with fail;change Code.wp _ _ _ _ ((w.alloc (.cells (zK i l r a n c) 31)).alloc (.cells (zK 0 0 false none 0 0) 31));obtain ⟨W,hW,fM,hbr,fU⟩:=P8 w i l r a n c 31;rw[hW];have HX:=zh fM;have HR:=zh hbr;have HB:=zh fU;clear hW fM hbr fU;obtain ⟨k0,k1,k2,k3⟩:=HX.out.q;go_wp2_with fail;refine (fQ.out _ HB.out).mono ?_;rintro e w1 ⟨rfl,hb⟩;replace HX:=zh (HX.out.below hb);replace HR:=zh (HR.out.below hb);replace HB:=zh (zA HB.out hb);clear hb;clear k0 k1 k2 k3;obtain ⟨k0,k1,k2,k3⟩:=HX.out.q;go_wp2_with fail;refine (EI.out _ HB.out).mono ?_;rintro e w2 ⟨rfl,hb⟩;replace HX:=zh (HX.out.below hb);replace HR:=zh (HR.out.below hb);replace HB:=zh (zA HB.out hb);clear hb;clear k0 k1 k2 k3;obtain ⟨z0,z1,z2,z3⟩:=HR.out.q;have zf:=HR.out.f;go_wp2_with fail;change bodyPost _ _ _ _ _ (pts w2 (w.heap.size+1) (zR 0 0 false none 0 0))
 have hby:=HR.out.all 0 0 false none 0 0;have eD:=zh (zD (B:=w.heap.size) (b:=(w.heap.size+1)) (by omega) (zR 0 0 false none 0 0) HB.out);generalize pts w2 (w.heap.size+1) (zR 0 0 false none 0 0)=V at *;exact au (v:=.tuple #[zO 0 0 false none 0 0,.int .i64 9]) (by simp[results,Tryz.results45,go_sem,hby.c0,hby.c1,hby.c2,hby.c3]) rfl (by rw[HC.out];exact nD.no eD.out)
theorem zJ4 (i l:Int) (r:Bool) (a:Option Addr) (n c:Nat) (L:List GP) (w:World) (h:fD w (.slice a n c) L) (hs:∀ p∈L,∀ j,j<8→(p.1.m.st j).length≤10000) (hv:zY ⟨i,l,r,ep L⟩=true) (AX:(ze ⟨i,l,r,ep L⟩).num<8) :
  Calls Tryz.prog 45 #[zO i l r a n c] w (nD w (vV ⟨i,l,r,ep L⟩)):=by
 have fQ:=zh (fun W (hb:Below w.heap.size w W)=>zz i l r a n c L W (h.below hb) hs);have EI:=zh (fun W (hb:Below w.heap.size w W)=>tQ i l r a n c L W (h.below hb) hs);have hV:=(zW _).1 hv;obtain ⟨P9,TM,_⟩:=hV.EE;have fO:L.length=n:=by
  obtain ⟨_,_,e,_⟩:=h.shape;injection e with _ e _;exact e.symm
 have hl:(ep L).length=n:=by rw[zn,fO]
 have hn:1≤n∧n≤8:=by have:=hV.len;simp only[hl] at this;exact this
 obtain ⟨j,rfl⟩:∃ j,n=j+1:=⟨n-1,by omega⟩
 have hC:vV ⟨i,l,r,ep L⟩=(⟨i,l,r,(ep L).take j++[{ze ⟨i,l,r,ep L⟩ with mode:=2},fresh ((ze ⟨i,l,r,ep L⟩).num+1)]⟩,0):=by
  unfold vV;rw[ah hv,ah AX]
  show ((⟨i,l,r,(ep L).take ((ep L).length-1)++_⟩:eX),(0:Int))=_
  rw[hl];rfl
 rw[hv] at fQ;rw[show vO ⟨i,l,r,ep L⟩=true by unfold vO;rw[hv];simpa using AX] at EI;have hmem:=yX (l:=L) (i:=j) (by omega);have gT:=P9.num;have jS:=zh (h.m _ hmem);have TN:=zh (fun W (hb:Below w.heap.size w W)=>zEY (pat L j).1 (pat L j).2 W ((h.m _ hmem).below hb) (hs _ hmem));rw[vF fO] at hC P9 TM AX gT;rw[show xx (pat L j).1 1=(0,{(pat L j).1 with mode:=1+1}) from by unfold xx;rw[ah ((yJ _).2 P9),ah TM]] at TN;have IE:=zh (fun p (hp:p∈L.take j)=>h.m p (bT hp))
 have rO:=zh (show Rd w 14 (.slice a j c) j ((L.take j).flatMap iL) from by
  have h0:=iN.take h.r j (by omega)
  have hlt:(L.take j).length=j:=by rw[ay];omega
  have h1:=h0.2
  rwa [hlt] at h1)
 have HC:=zh hC;have AU:=zh (show (ep (L.take j))=(ep L).take j from zH9 L j);have Hlt:=zh (show (L.take j).length=j by rw[ay];omega);have hcap:j≤c:=by
  obtain ⟨_,_,e,h1,_⟩:=h.shape;injection e with _ _ e;rw[e];omega
 have jf:=zh h;clear hV fO hl hv hs hmem hC P9 h;obtain ⟨b,off,rfl,hg⟩:=jf.out.at (show j<j+1 by omega);have HG:=zh hg;clear hg jf;generalize pat L j=p at *;generalize ep L=GL at *;generalize L.take j=LT at *;obtain ⟨⟨num,rev,md,sz,⟨f,LV,GA⟩⟩,s⟩:=p;dsimp only at *;subst TM;have Et:=yl (P:=Tryz.prog) Ng (a:=some ⟨b,off,none⟩) (n:=j+1) (cap:=c) (fun x hx=>⟨b,off,by injection hx with hx;exact hx.symm⟩) j hcap
 go_enter Tryz.func45,Tryz.ntmps45
 go_upto_region 1 with fail;change Code.wp _ _ _ _ ((w.alloc (.cells (zK i l r (some ⟨b,off,none⟩) (j+1) c) 31)).alloc (.cells (zK 0 0 false none 0 0) 31));obtain ⟨W,hW,fM,hbr,fU⟩:=P8 w i l r (some ⟨b,off,none⟩) (j+1) c 31;rw[hW];have HX:=zh fM;have HR:=zh hbr;have HB:=zh fU;clear hW fM hbr fU;have hB0:w.heap.size+2≤W.heap.size:=by have:=HR.out.lt;omega
 obtain ⟨k0,k1,k2,k3⟩:=HX.out.q;go_wp2_with fail;refine (fQ.out _ HB.out).mono ?_;rintro e w1 ⟨rfl,hb⟩;replace HX:=zh (HX.out.below hb);replace HR:=zh (HR.out.below hb);replace HB:=zh (zA HB.out hb);have hB1:=ak hB0 hb.size;clear hb fQ;clear k0 k1 k2 k3;obtain ⟨k0,k1,k2,k3⟩:=HX.out.q;go_wp2_with fail;refine (EI.out _ HB.out).mono ?_;rintro e w2 ⟨rfl,hb⟩;replace HX:=zh (HX.out.below hb);replace HR:=zh (HR.out.below hb);replace HB:=zh (zA HB.out hb);have hB2:=ak hB1 hb.size;clear hb EI;clear k0 k1 k2 k3;have j3:IntKind.i64.wrap (j:Int)=(j:Int):=aF _ (by omega);have i2:(j:Int)<((j+1:Nat):Int):=by omega
 replace HG:=zh (HG.out.below HB.out);have k3:=HX.out.c3;obtain ⟨g0,g1,g2,g3,g4,g5,g6,g7,g8,g9,g10,g11,g12,g13⟩:=HG.out.q
 try dsimp only at g0 g1 g2 g3 g4 g5 g6 g7 g8 g9 g10 g11 g12 g13
 go_wp2_with fail;refine (TN.out _ HB.out).mono ?_;rintro e w3 ⟨⟨t,rfl,hro⟩,hb⟩;dsimp only at hro ⊢;clear g0 g1 g2 g3 g4 g5 g6 g7 g8 g9 g10 g11 g12 g13;clear k3;have FK:=ak hB2 hb.size;replace HX:=zh (HX.out.below hb);replace HR:=zh (HR.out.below hb);replace HB:=zh (zA HB.out hb);have GI:=zh hro;clear hro hb TN HG;go_upto_region 7 with fail;change Code.wp _ _ _ _ (w3.alloc (.cells (zX num rev 2 sz t LV GA) 113));have fH:=zZ w3 num rev 2 sz t LV GA 113;have XO:=zh (eO.new w3 num rev 2 sz t LV GA 113);replace HX:=zh (HX.out.below fH);replace HR:=zh (HR.out.below fH);replace HB:=zh (zA HB.out fH);replace GI:=zh (GI.out.keep fH);have Am:=ak FK fH.size;clear fH;generalize w3.alloc (.cells (zX num rev 2 sz t LV GA) 113)=w4 at *;generalize w3.heap.size=b4 at *;have q0:=XO.out.n0;go_wp2_with fail;refine (Y4 (num+1) (by omega) w4).mono ?_;rintro e w5 ⟨rfl,hb⟩
 clear q0;have FQ:=ak Am hb.size;replace HX:=zh (HX.out.below hb);replace HR:=zh (HR.out.below hb);replace HB:=zh (zA HB.out hb);replace GI:=zh (GI.out.keep hb);replace XO:=zh (XO.out.below hb);clear hb;go_upto_region 8 with fail;change Code.wp _ _ _ _ (w5.alloc (.cells (zX (num+1) 0 1 16 Sl.nil 0 0) 113));have fH:=zZ w5 (num+1) 0 1 16 Sl.nil 0 0 113;have XF:=zh (eO.new w5 (num+1) 0 1 16 Sl.nil 0 0 113);replace HX:=zh (HX.out.below fH);replace HR:=zh (HR.out.below fH);replace HB:=zh (zA HB.out fH);replace GI:=zh (GI.out.keep fH);replace XO:=zh (XO.out.below fH);have IF:=ak FQ fH.size;clear fH;generalize w5.alloc (.cells (zX (num+1) 0 1 16 Sl.nil 0 0) 113)=w6 at *;generalize w5.heap.size=b6 at *;have TP:=zh (rO.out.below HB.out);have jH:=zh (P6 LT)
 have Nh:=zh (show ∀ u∈(iL (⟨num,rev,2,sz,⟨f,LV,GA⟩⟩,t)++iL (fresh (num+1),Sl.nil)),u.oneCell'=true from fun u hu=>by rcases List.mem_append.1 hu with h|h<;>exact P5 _ u h);refine vA 12 (fun L f' W=>pU 113 j (LT.flatMap iL) (iL (⟨num,rev,2,sz,⟨f,LV,GA⟩⟩,t)++iL (fresh (num+1),Sl.nil)) [(1,.pointer (some ⟨w.heap.size,3,none⟩)),(2,.slice (some ⟨b,off,none⟩) (j+1) c),(3,.int .i64 ((j:Int)+1)),(4,.int .i64 (j:Int)),(5,.slice (some ⟨b,off,none⟩) j c),(7,zd num rev 2 sz t LV GA),(8,zd (num+1) 0 1 16 Sl.nil 0 0),(11,.pointer (some ⟨w.heap.size,3,none⟩))] w6.heap.size w6 L f' W) 50 (by kernel_rfl) (by kernel_rfl) (by rfl) (by kernel_rfl) (fun f=>by simp[fF,zT,Act.put];exact rfl) (fun f=>pU.start rfl f) ?_ ?_
 ·
  refine ⟨?_,?_,?_,?_,?_,?_,?_,?_,?_,?_,?_,?_,trivial⟩
  ·
   intro L f' w7 h0 hd hI;have fS:=zh hI;clear hI hd;dsimp only;go_wp2_with fail;exact ⟨rfl,(fun h=>by cases h),fun t ht=>by injection ht with ht;subst ht;exact fS.out.zero h0 (by simp)⟩
  ·
   intro L f' w7 h0 hd hI;have fS:=zh hI;clear hI hd;dsimp only;go_wp2_with fail;exact ⟨rfl,(fun h=>by cases h),fun t ht=>by injection ht with ht;subst ht;exact fS.out.pure (v:=.pointer (some ⟨w.heap.size,3,none⟩)) (by decide) (by decide) (by decide) (by decide) (by simp)⟩
  ·
   intro L f' w7 h0 hd hI;have fS:=zh hI;have d1:f' 1=.pointer (some ⟨w.heap.size,3,none⟩):=hI.jm (1,.pointer (some ⟨w.heap.size,3,none⟩)) (by simp) (hd 1 (by kernel_rfl));have z3:=(HX.out.below hI.hb).c3;clear hI hd;dsimp only;rw[d1];go_wp2_with fail;exact ⟨rfl,(fun h=>by cases h),fun t ht=>by injection ht with ht;subst ht;exact fS.out.pure (v:=.slice (some ⟨b,off,none⟩) (j+1) c) (by decide) (by decide) (by decide) (by decide) (by simp)⟩
  ·
   intro L f' w7 h0 hd hI;have fS:=zh hI;clear hI hd;dsimp only;go_wp2_with fail;exact ⟨rfl,(fun h=>by cases h),fun t ht=>by injection ht with ht;subst ht;exact fS.out.pure (v:=.int .i64 ((j:Int)+1)) (by decide) (by decide) (by decide) (by decide) (by simp)⟩
  ·
   intro L f' w7 h0 hd hI;have fS:=zh hI;have d3:f' 3=.int .i64 ((j:Int)+1):=hI.jm (3,.int .i64 ((j:Int)+1)) (by simp) (hd 3 (by kernel_rfl));clear hI hd;dsimp only;rw[d3];go_wp2_with fail;exact ⟨rfl,(fun h=>by cases h),fun t ht=>by injection ht with ht;subst ht;exact fS.out.pure (v:=.int .i64 (j:Int)) (by decide) (by decide) (by decide) (by decide) (by simp)⟩
  ·
   intro L f' w7 h0 hd hI;have fS:=zh hI;have d2:f' 2=.slice (some ⟨b,off,none⟩) (j+1) c:=hI.jm (2,.slice (some ⟨b,off,none⟩) (j+1) c) (by simp) (hd 2 (by kernel_rfl));have d4:f' 4=.int .i64 (j:Int):=hI.jm (4,.int .i64 (j:Int)) (by simp) (hd 4 (by kernel_rfl));clear hI hd;dsimp only;rw[d2];rw[d4];go_wp2_with fail;exact ⟨rfl,(fun h=>by cases h),fun t ht=>by injection ht with ht;subst ht;exact fS.out.pure (v:=.slice (some ⟨b,off,none⟩) j c) (by decide) (by decide) (by decide) (by decide) (by simp)⟩
  ·
   intro L f' w7 h0 hd hI;have fS:=zh hI;have d5:f' 5=.slice (some ⟨b,off,none⟩) j c:=hI.jm (5,.slice (some ⟨b,off,none⟩) j c) (by simp) (hd 5 (by kernel_rfl));obtain ⟨bz,e0,hown,hk⟩:=hI.Tp (hd 0 (by kernel_rfl)) h0 (by simp);have gW:=TP.out.below hI.hb;have hsz:=hI.sz;have HK:=zh hk;clear hI hd hk;dsimp only;rw[d5,e0];refine zP rfl (.tmp 37) (.tmp 42) 29 rfl Ng w6.heap.size rfl hown rfl gW jH.out (by unfold maxLen;omega) (by omega) hsz ?_;intro v' w8 hown' Dk _;rw[aI,bQ] at hown';have HQ:=zh (HK.out _ _ hown' Dk);exact ⟨rfl,(fun h=>by cases h),fun t ht=>by injection ht with ht;subst ht;exact HQ.out⟩
  ·
   intro L f' w7 h0 hd hI;have fS:=zh hI;have zo:=XO.out.below hI.hb;obtain ⟨g0,g1,g2,g3,g4,g5,g6,g7,g8,g9,g10,g11,g12,g13⟩:=zo.q;clear zo;clear hI hd;dsimp only;go_wp2_with fail;exact ⟨rfl,(fun h=>by cases h),fun t ht=>by injection ht with ht;subst ht;exact fS.out.pure (v:=zd num rev 2 sz t LV GA) (by decide) (by decide) (by decide) (by decide) (by simp)⟩
  ·
   intro L f' w7 h0 hd hI;have fS:=zh hI;have zo:=XF.out.below hI.hb;obtain ⟨g0,g1,g2,g3,g4,g5,g6,g7,g8,g9,g10,g11,g12,g13⟩:=zo.q;clear zo;clear hI hd;dsimp only;go_wp2_with fail;exact ⟨rfl,(fun h=>by cases h),fun t ht=>by injection ht with ht;subst ht;exact fS.out.pure (v:=zd (num+1) 0 1 16 Sl.nil 0 0) (by decide) (by decide) (by decide) (by decide) (by simp)⟩
  ·
   intro L f' w7 h0 hd hI;have fS:=zh hI;have d7:f' 7=zd num rev 2 sz t LV GA:=hI.jm (7,zd num rev 2 sz t LV GA) (by simp) (hd 7 (by kernel_rfl));have d8:f' 8=zd (num+1) 0 1 16 Sl.nil 0 0:=hI.jm (8,zd (num+1) 0 1 16 Sl.nil 0 0) (by simp) (hd 8 (by kernel_rfl));clear hI hd;dsimp only;rw[d7,d8];go_wp2_with fail;exact ⟨rfl,(fun h=>by cases h),fun t ht=>by injection ht with ht;subst ht;exact fS.out.two h0 rfl (by simp)⟩
  ·
   intro L f' w7 h0 hd hI;have fS:=zh hI;obtain ⟨ra,rc,kz,e6,hown,e9,gW,hk⟩:=hI.Tq (hd 6 (by kernel_rfl)) (hd 9 (by kernel_rfl)) h0 (by simp);have hsz:=hI.sz;have HK:=zh hk;clear hI hd hk;dsimp only;rw[e6,e9];refine zP rfl (.tmp 43) (.tmp 46) 29 rfl Ng w6.heap.size rfl hown rfl gW Nh.out (by unfold maxLen;omega) (by omega) hsz ?_;intro v' w8 hown' Dk _;have HQ:=zh (HK.out _ _ hown' Dk);exact ⟨rfl,(fun h=>by cases h),fun t ht=>by injection ht with ht;subst ht;exact HQ.out⟩
  intro L f' w7 h0 hd hI;have fS:=zh hI;clear hI hd;dsimp only;go_wp2_with fail;exact ⟨rfl,(fun h=>by cases h),fun t ht=>by injection ht with ht;subst ht;exact fS.out.pure (v:=.pointer (some ⟨w.heap.size,3,none⟩)) (by decide) (by decide) (by decide) (by decide) (by simp)⟩
 intro L f' w7 hA hI;obtain ⟨ra,rc,sZ,hown⟩:=hI.K2 (hA 10 (by decide));have d11:f' 11=.pointer (some ⟨w.heap.size,3,none⟩):=hI.jm (11,.pointer (some ⟨w.heap.size,3,none⟩)) (by simp) (hA 11 (by decide));have P_:=zh hI.hb;have hsz:=hI.sz;have CG:=zh hown;clear hI hA hown
 try dsimp only
 rw[sZ,d11];replace HX:=zh (HX.out.below P_.out);replace HR:=zh (HR.out.below P_.out);replace HB:=zh (zA HB.out P_.out);replace GI:=zh (GI.out.keep P_.out);have z3:=HX.out.c3;have zf:=HX.out.f;go_upto_region 9 with fail;clear z3 zf;have sx:=zh (show eW (pts w7 w.heap.size [(3,.slice ra (j+2) rc)]) w.heap.size i l r ra (j+2) rc from HX.out.EH ra (j+2) rc);have K6:=zh (HR.out.eE (d:=w.heap.size) (by omega) [(3,.slice ra (j+2) rc)]);have ny:=zh (zD (B:=w.heap.size) (b:=w.heap.size) (ag _) [(3,.slice ra (j+2) rc)] HB.out);have jB:=zh (wI (b:=w.heap.size) (by omega) CG.out [(3,.slice ra (j+2) rc)]);have HM8:=zh (show ∀ p∈LT,fG (pts w7 w.heap.size [(3,.slice ra (j+2) rc)]) p.2 p.1.m.st from fun p hp=>(IE.out p hp).below ny.out);have HT8:=zh (GI.out.pts (b:=w.heap.size) (by omega) [(3,.slice ra (j+2) rc)])
 change Code.wp _ _ _ _ (pts w7 w.heap.size [(3,.slice ra (j+2) rc)]);generalize pts w7 w.heap.size [(3,.slice ra (j+2) rc)]=w8 at *;obtain ⟨k0,k1,k2,k3⟩:=sx.out.q;obtain ⟨z0,z1,z2,z3⟩:=K6.out.q;have zf:=K6.out.f;go_wp2_with fail;change bodyPost _ _ _ _ _ (pts w8 (w.heap.size+1) (zR i l r ra (j+2) rc))
 have MF:=zh (show fD (pts w8 (w.heap.size+1) (zR i l r ra (j+2) rc)) (.slice ra (j+2) rc) (LT++[(⟨num,rev,2,sz,⟨f,LV,GA⟩⟩,t),(fresh (num+1),Sl.nil)]) from qQ (B:=w6.heap.size) (T:=113) (by
  rw[b7,show [((⟨num,rev,2,sz,⟨f,LV,GA⟩⟩:Gn),t),(fresh (num+1),Sl.nil)].flatMap iL=(iL (⟨num,rev,2,sz,⟨f,LV,GA⟩⟩,t)++iL (fresh (num+1),Sl.nil)) from rfl]
  exact wI (b:=w.heap.size+1) (by omega) jB.out _) (by rw[aw,Hlt.out];rfl) (fun p hp=>by
  rcases List.mem_append.1 hp with hp|hp
  ·
   exact (IE.out p hp).below (zD (B:=w.heap.size) (b:=w.heap.size+1) (by omega) (zR i l r ra (j+2) rc) ny.out)
  simp only[aX,aY,aZ] at hp
  rcases hp with rfl|rfl
  ·
   exact (HT8.out.pts (b:=w.heap.size+1) (by omega) (zR i l r ra (j+2) rc)).rd jS.out (zD (B:=w.heap.size) (b:=w.heap.size+1) (by omega) (zR i l r ra (j+2) rc) ny.out)
  exact PK _))
 have hby:=K6.out.all i l r ra (j+2) rc;have eD:=zh (zD (B:=w.heap.size) (b:=(w.heap.size+1)) (by omega) (zR i l r ra (j+2) rc) ny.out);generalize pts w8 (w.heap.size+1) (zR i l r ra (j+2) rc)=V at *;exact au (v:=.tuple #[zO i l r ra (j+2) rc,.int .i64 0]) (by simp[results,Tryz.results45,go_sem,hby.c0,hby.c1,hby.c2,hby.c3]) rfl (by rw[HC.out];exact ⟨⟨ra,j+2,rc,LT++[(⟨num,rev,2,sz,⟨f,LV,GA⟩⟩,t),(fresh (num+1),Sl.nil)],rfl,MF.out,by rw[zFs,AU.out];rfl⟩,eD.out⟩)
theorem zJ1 (i l:Int) (r:Bool) (a:Option Addr) (n c:Nat) (L:List GP) (w:World) (h:fD w (.slice a n c) L) (hs:∀ p∈L,∀ j,j<8→(p.1.m.st j).length≤10000):Calls Tryz.prog 45 #[zO i l r a n c] w (nD w (vV ⟨i,l,r,ep L⟩)):=by
 cases hv:zY ⟨i,l,r,ep L⟩
 ·
  exact zKO i l r a n c L w h hs hv
 by_cases AX:(ze ⟨i,l,r,ep L⟩).num<8
 ·
  exact zJ4 i l r a n c L w h hs hv AX
 exact zHB i l r a n c L w h hs hv AX
end Go.Proofs.YtcgfilmmokmdjaaGreat
