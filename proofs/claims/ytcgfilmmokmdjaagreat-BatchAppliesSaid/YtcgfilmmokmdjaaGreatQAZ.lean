import Derived.Laws.MakeOwn
import Derived.Test.YtcgfilmmokmdjaaGreatBnx
set_option linter.all false
set_option maxRecDepth 100000
set_option maxHeartbeats 32000000
namespace Go.Proofs.YtcgfilmmokmdjaaGreat
open Go.Proofs.Tryz
open Go.RowKit
def I7 (x:Nd):Nd:=⟨x.key%8,x.ck%4,x.del,if x.del then [] else x.data.take 30⟩
def B4 (n:Nat) (l:List Nd):List Nd:=(l.take n).map I7
def zHc (x:Nd):(I7 x).data.length<=30:=by
 unfold I7;dsimp only
 split
 ·simp
 rw[aB];omega
def Zb (n:Nat) (l:List Nd):(B4 n l).length<=n:=by unfold B4;rw[aH,aB];omega
def zFq (n:Nat) (l:List Nd):∀ x∈B4 n l,x.data.length<=30:=fun x hx=>by
 obtain ⟨y,_,rfl⟩:=List.mem_map.1 hx;exact zHc y
def zNQ (l:List Nd):jt (B4 6 l)<=400:=by
 have key:∀ k:List Nd,(∀ x∈k,x.data.length<=30)->jt k<=k.length*56:=by
  intro k
  induction k with
  |nil=>intro _;exact aq _
  |cons x r ih =>
   intro h;have h1:=ih fun y hy=>h y (by simp[hy])
   have h2:=h x (by simp);have h3:eY x.data.length<=56:=by rw[Ns (by omega)];unfold nh;omega
   rw[vj,aW];omega
 have h1:=key _ (zFq 6 l);have h2:=Zb 6 l;omega
noncomputable def tY (s:fk) (kd:Int) (ns:List Nd) (gen:Int) (keys:List Int):fk:=
 if kd=4∨kd=5 then (if (xb s).2=0 then (xb s).1 else s)
 else if kd=6 then uP s (yh (fh s.ep (gen%(s.ep.length:Int)).toNat) (keys.take 8))
 else if kd=7 then uP s (wE (fh s.ep (gen%(s.ep.length:Int)).toNat) 2)
 else uP s (yZ (zZ s) (B4 6 ns))
noncomputable def Zc (s:fk) (x:rj):fk:=tY s (x.kind%8) (x.l.map (·.1)) x.gen x.keys
noncomputable def wk (s:fk) (l:List rj):fk:=l.foldl Zc s
noncomputable def K2 (l:List rj):fk:=wk EK (l.take 8)
def zAf (l:List rj) (i:Nat) (h:i<l.length):wk EK (l.take (i+1))=Zc (wk EK (l.take i)) (D9 l i):=by
 unfold wk D9;rw[cQ,aw,aA h,dQ]
 rfl
def zC8 {g:Gn} {m:Int} (h:(wE g m).1=0):(wE g m).2={g with mode:=m+1}:=by
 unfold wE at h |-
 split
 ·rename_i h1;rw[ah h1] at h
  split
  ·rfl
  rename_i h2;rw[ai h2] at h;cases h
 rename_i h1;rw[ai h1] at h;cases h
def zGM {n:Nat} {s:fk} (h:jS n s) (kd:Int) (ns:List Nd) (gen:Int) (keys:List Int):jS (n+1) (tY s kd ns gen keys):=by
 have hg:fh s.ep (gen%(s.ep.length:Int)).toNat∈s.ep:=qV (by
  have h1:=h.v.len
  have h2:=Int.emod_lt_of_pos gen (show (0:Int)<(s.ep.length:Int) by omega)
  have h3:=Int.emod_nonneg gen (show (s.ep.length:Int)≠0 by omega)
  omega)
 unfold tY
 split
 ·have:=zDd h 2 ns gen keys;unfold PH at this;exact this
 split
 ·have:=zDd h 3 ns gen keys;unfold PH at this;exact this
 split
 ·unfold uP
  split
  ·rename_i hr;obtain ⟨h1,h2⟩:=hr;refine h.Ma h2 ?_ ?_
   ·rw[zC8 h1];intro i hi;exact ak (h.len _ hg i hi) (by omega)
   rw[zC8 h1];have:=h.KF _ hg;dsimp only;omega
  exact h.up
 unfold uP
 split
 ·rename_i hr;obtain ⟨h1,h2⟩:=hr;have ht:=vr h.v;refine h.Ma h2 ?_ ?_
  ·rw[S4 h1];intro i hi;have:=ws (B4 6 ns) _ (h.len _ ht) i hi;have:=Zb 6 ns;omega
  rw[S4 h1,vm];have:=h.KF _ ht;have:=zNQ ns;omega
 exact h.up
def t8 (l:List rj):∀ i,i<=l.length->jS i (wk EK (l.take i))
 |0,_=>zHG
 |i+1,h=>by
  rw[zAf l i (by omega)];exact zGM (t8 l i (by omega)) _ _ _ _
def zH9 (l:List rj):jS 8 (K2 l):=by
 have h1:∀ i j,i<=j->∀ s,jS i s->jS j s:=by
  intro i j hij;obtain ⟨d,rfl⟩:∃ d,j=i+d:=⟨j-i,by omega⟩
  clear hij
  induction d with
  |zero=>exact fun s h=>h
  |succ d ih=>exact fun s h=>(ih s h).up
 have h2:=t8 (l.take 8) (l.take 8).length (ag _);rw[aS (ag _)] at h2;exact h1 _ 8 (by rw[aB];omega) _ h2
def I8 (much:Bool) (q:Rq):Rq:=⟨q.tk,1+q.kind%2,q.key%8,q.ck%2,(if (much&&decide (q.tk%4=0))=true then List.replicate 4076 0 else [])++q.data.take 30⟩
def zNR (n:Int):bits .and .i64 n 1=n%2:=by
 have hm:(BitVec.ofInt 64 1).toNat=2^1-1:=by decide
 have key:(BitVec.ofInt 64 n &&& BitVec.ofInt 64 1).toNat=(n%((2^64:Nat):Int)).toNat%2^1:=by
  rw[BitVec.toNat_and,BitVec.toNat_ofInt,hm,dX]
 show IntKind.i64.wrap ((BitVec.ofInt 64 n &&& BitVec.ofInt 64 1).toNat:Nat)=n%2
 rw[key,IntKind.wrap_i64];omega
def zNN (n:Int):bits .and .i64 n 3=n%4:=by
 have hm:(BitVec.ofInt 64 3).toNat=2^2-1:=by decide
 have key:(BitVec.ofInt 64 n &&& BitVec.ofInt 64 3).toNat=(n%((2^64:Nat):Int)).toNat%2^2:=by
  rw[BitVec.toNat_and,BitVec.toNat_ofInt,hm,dX]
 show IntKind.i64.wrap ((BitVec.ofInt 64 n &&& BitVec.ofInt 64 3).toNat:Nat)=n%4
 rw[key,IntKind.wrap_i64];omega
def zLM (n:Nat):bits .and .u64 (n:Int) 7=((n%8:Nat):Int):=by
 have hm:(BitVec.ofInt 64 7).toNat=2^3-1:=by decide
 have key:(BitVec.ofInt 64 (n:Int) &&& BitVec.ofInt 64 7).toNat=((n:Int)%((2^64:Nat):Int)).toNat%2^3:=by
  rw[BitVec.toNat_and,BitVec.toNat_ofInt,hm,dX]
 show IntKind.u64.wrap ((BitVec.ofInt 64 (n:Int) &&& BitVec.ofInt 64 7).toNat:Nat)=_
 rw[key];simp[IntKind.wrap,IntKind.signed,IntKind.bits];omega
def zLJ (n:Nat):bits .and .u32 (n:Int) 1=((n%2:Nat):Int):=by
 have hm:(BitVec.ofInt 32 1).toNat=2^1-1:=by decide
 have key:(BitVec.ofInt 32 (n:Int) &&& BitVec.ofInt 32 1).toNat=((n:Int)%((2^32:Nat):Int)).toNat%2^1:=by
  rw[BitVec.toNat_and,BitVec.toNat_ofInt,hm,dX]
 show IntKind.u32.wrap ((BitVec.ofInt 32 (n:Int) &&& BitVec.ofInt 32 1).toNat:Nat)=_
 rw[key];simp[IntKind.wrap,IntKind.signed,IntKind.bits];omega
def zNL:wQ prog 60 63 5 56:=by
 obtain ⟨i,hi,hz,hs,hb⟩:=cq (P:=prog) (e:=63) (z:=.agg #[.int .i64 0,.int .i64 0,.int .u64 0,.int .u32 0,.slice none 0 0]) (size:=5) (bytes:=56) (by kernel_rfl);exact ⟨underlying60,by decide,i,_,hi,hz,hs,hb,rfl⟩
def zLd:∃ zc:Array Value,zc.size=4076/\zc.toList=(List.replicate 4076 (0:UInt8)).map yy/\∀ w:World,(Instr.makeSlice 54 (.int .i64 4076) (.int .i64 4076)).run prog w=.ok (.slice (some ⟨w.heap.size,0,none⟩) 4076 4076) (w.alloc (.cells zc 5)):=by
 obtain ⟨i,hi,hz,hs,hb⟩:=cq (P:=prog) (e:=5) (z:=.int .u8 0) (size:=1) (bytes:=1) (by kernel_rfl);refine ⟨madeCells (Value.int .u8 0).cells (4076*i.size),?_,?_,fun w=>?_⟩
 ·rw[hs];simp[madeCells]
 ·rw[hs,List.map_replicate];unfold madeCells;rw[Array.toList_map,Array.toList_range];refine List.eq_replicate_iff.2 ⟨by rw[aH,List.length_range],fun b hb=>?_⟩;obtain ⟨j,_,rfl⟩:=List.mem_map.1 hb
  show (#[Value.int .u8 0])[j%1]! =_
  rw[Nat.mod_one]
  rfl
 have h:=run_make (P:=prog) w 54 5 i (.int .u8 0) underlying54 hi hz .i64 .i64 4076 4076 (by decide) (by decide) (by rw[hb];decide) (by decide);exact h
structure jd (W:World) (B:Nat) (v:Value) (qs:List (Rq×Value)):Prop where
 row:W.ownsRow B 63 5 v qs.length (qs.flatMap EO)
 dat:∀ p∈qs,gD W B p.2 p.1.data
def jd.nil (W:World) (B:Nat):jd W B (.slice none 0 0) []:=⟨aP _ _ _ _,fun p hp=>by cases hp⟩
def jd.bb {W W':World} {B:Nat} {v:Value} {qs:List (Rq×Value)} (h:jd W B v qs) (hb:Below W.heap.size W W'):jd W' B v qs:=⟨zE h.row hb,fun p hp=>iI.bb (h.dat p hp) hb⟩
def jd.ik {W W':World} {B b:Nat} {T':TypeId} {v:Value} {qs:List (Rq×Value)} (h:jd W B v qs) (ho:gO W W' B b T') (h1:v.ownBlock≠some b) (h2:5≠T'):jd W' B v qs:=by
 obtain ⟨h3,h4⟩:=h;refine ⟨⟨h3.1,?_⟩,fun p hp=>iI.ik (h4 p hp) ho h2⟩;rcases h3.2 with h5|⟨g,cap,cur,e,hb,hg,h6⟩
 ·exact .inl h5
 exact .inr ⟨g,cap,cur,e,hb,by rw[ho.blk g (Array.getElem?_eq_some_iff.1 hg).1 (fun e2=>h1 (by rw[e,e2];rfl))];exact hg,h6⟩
variable {W:World} {B:Nat}
def gD.Hu {a:Option Addr} {n c:Nat} {d:List UInt8} (h:gD W B (.slice a n c) d) (hk:30<=n):gD W B (.slice a 30 c) (d.take 30):=by
 have hn:d.length=n:=by obtain ⟨⟨_,_,_,e,_⟩,_⟩:=h;injection e with _ e _;exact e.symm
 have h1:ll W (.slice a 30 c) (d.take 30):=il.take h.rd 30 (by omega);refine ⟨h1,fun g hg=>?_⟩;have LD:(Value.slice a n c).ownBlock=some g:=by
  cases a with
  |none=>cases hg
  |some y=>simpa [Value.ownBlock] using hg
 rcases h.2 g LD with h2|h2
 ·left
  have:d=[]:=List.map_eq_nil_iff.1 h2;rw[this];rfl
 exact .inr h2
def jd.rd {W:World} {B:Nat} {v:Value} {qs:List (Rq×Value)} (h:jd W B v qs):AW W v qs:=⟨⟨fun x _=>Qd x,zr h.row⟩,fun p hp=>(h.dat p hp).rd⟩
variable {W':World} {v:Value}
def jd.push {v':Value} {qs:List (Rq×Value)} {p:Rq×Value} (h:jd W B v qs) (hd:gD W B p.2 p.1.data) (ho:W'.ownsRow B 63 5 v' (qs.length+1) (qs.flatMap EO++EO p)) (hg:W.grownBy W' v.ownBlock):jd W' B v' (qs++[p]):=by
 have hO:fM W W' B 63:=fM.row h.row hg (ag _);refine ⟨?_,fun x hx=>?_⟩
 ·rw[ax,cn,cC,List.flatMap_nil,cz];exact ho
 rcases List.mem_append.1 hx with hx|hx
 ·exact iI.fC (h.dat x hx) hO (by decide)
 obtain rfl:=List.mem_singleton.1 hx;exact iI.fC hd hO (by decide)
def zEC (l:List Rq) (much:Bool) (most i:Nat) (h:i<l.length) (q:Rq) (hq:l[i]?=some q):((l.take (i+1)).map (I8 much))=(l.take i).map (I8 much)++[I8 much q]:=by
 rw[cQ,hq,aU];rfl
def zFc (v:Value) (qs:List (Rq×Value)) (most:Nat) (much:Bool) (w:World) (h:AW w v qs) (hm:most<=1000) :
  Calls prog 21 #[v,.int .i64 (most:Int),.bool much] w fun e w'=>∃ v' DM,e=.returned v'/\jd w' w.heap.size v' DM/\DM.map (·.1)=((qs.map (·.1)).take most).map (I8 much)/\Below w.heap.size w w':=by
 obtain ⟨a,cap,rfl,h1,h2⟩:=h.shape;have HQ:=zh h;have Bb:=zh (fun i (hi:i<qs.length)=>h.dat _ (Tg hi));have jY:=zh (fun i (hi:i<qs.length)=>zEC (qs.map (·.1)) much most i (by rw[aH];exact hi) (Ab qs i).1 (by rw[b_];unfold Ab;rw[aw,aA hi];rfl))
 have HE:=zh (show ∀ i,i<=qs.length->i<=most->¬ (i<qs.length/\i<most)->(qs.map (·.1)).take i=(qs.map (·.1)).take most from fun i h1 h2 h3=>by
  by_cases e:i=most
  ·rw[e]
  rw[aS (by rw[aH];omega),aS (by rw[aH];omega)])
 clear h;generalize hn:qs.length=n at *;clear hn;generalize qs.map (·.1)=N at *
 go_enter func21,ntmps21
 go_wp2_with fail
 go_loopw [7,8] (fun ov iv W=>∃ (i:Nat) (DM:List (Rq×Value)),iv=.int .i64 (i:Int)/\i<=n/\i<=most/\DM.length=i/\Hid (jd W w.heap.size ov DM)/\Hid (DM.map (·.1)=(N.take i).map (I8 much))/\Hid (Below w.heap.size w W)) (fun _ iv _=>n-(intOf iv).toNat)
 case atStart=>exact ⟨0,[],rfl,aq _,aq _,rfl,zh (jd.nil _ _),zh rfl,zh (aj _ _)⟩
 obtain ⟨i,DM,rfl,hi,hi2,hl,HO,JR,HB⟩:=hrel;have hsz:w.heap.size<=wr.heap.size:=HB.o.size
 by_cases hin:i<n/\i<most
 ·obtain ⟨hin,him⟩:=hin;have i1:(i:Int)<(n:Int):=by omega
  have i2:decide ((i:Int)<(n:Int))=true:=aD i1;have i3:decide ((i:Int)<(most:Int))=true:=aD (by omega);obtain ⟨qb,qo,e0,_,c0,c1,c2,c3,c4⟩:=(HQ.o.bb HB.o).at (j:=i) hin;subst e0;have J5:=Bb.o i hin;have hst:=jY.o i hin;generalize Ab qs i=X at *;obtain ⟨⟨tk,kd,ky,ck,dl⟩,dv⟩:=X;dsimp only at *;obtain ⟨da,dc,rfl,sV,hd2⟩:=J5.fO;have JW:=zh J5;have MY:=zh hst;have e1:=zNR kd;have e2:=zLM ky;have e3:=zLJ ck;clear J5 hst;go_upto_if 41 with fail;have eG:=(aj wr.heap.size wr).alloc (ag _) (.cells #[.int .i64 tk,.int .i64 (1+kd%2),.int .u64 ((ky:Int)%8),.int .u32 ((ck:Int)%2),.slice da dl.length dc] 63);have HX:=zh (eu.new wr #[.int .i64 tk,.int .i64 (1+kd%2),.int .u64 ((ky:Int)%8),.int .u32 ((ck:Int)%2),.slice da dl.length dc] 63)
  have hnb:∀ g,u7.ownBlock=some g->g≠wr.heap.size:=fun g hg e=>by have:=(HO.o.row.lt g hg).2;omega
  have jA:=zh (HO.o.bb eG);have gW:=zh (HB.o.trans (eG.mono hsz));have G4:Hid (gD _ w.heap.size (.slice da dl.length dc) dl):=zh (iI.bb (iI.bb (iI.old JW.o (ag _)) HB.o) eG);change Code.wp _ _ _ _ (.alloc _ (.cells _ 63));clear eG HO HB JW c0 c1 c2 c3 c4;generalize MD:wr.heap.size=bR at *;clear MD;generalize wr.alloc (.cells #[.int .i64 tk,.int .i64 (1+kd%2),.int .u64 ((ky:Int)%8),.int .u32 ((ck:Int)%2),.slice da dl.length dc] 63)=w5 at *
  go_cut [9] (fun pv wx=>pv=.pointer (some ⟨bR,0,none⟩)/\∃ (Hx:Option Addr) (H8:Nat),Hid (eu wx bR #[.int .i64 tk,.int .i64 (1+kd%2),.int .u64 ((ky:Int)%8),.int .u32 ((ck:Int)%2),.slice Hx (dl.take 30).length H8] 63)/\Hid (gD wx w.heap.size (.slice Hx (dl.take 30).length H8) (dl.take 30))/\Hid (jd wx w.heap.size u7 DM)/\Hid (Below w.heap.size w wx))
  case first =>
   have x4:=HX.o.cell (i:=4) rfl
   by_cases h30:30<dl.length
   ·have Et:=fun W kh=>xH (P:=prog) vv (a:=da) (n:=dl.length) (cap:=dc) (il.spot G4.o.rd (by omega)) 30 (by omega) W kh
    rw[show ((30:Nat):Int)=30 from rfl] at Et;have hdd:decide ((30:Int)<(dl.length:Int))=true:=by simp;omega
    have H9:(dl.take 30).length=30:=by rw[aB];omega
    have Eo:eu (w5.setCell ⟨bR,4,none⟩ (.slice da 30 dc)) bR #[.int .i64 tk,.int .i64 (1+kd%2),.int .u64 ((ky:Int)%8),.int .u32 ((ck:Int)%2),.slice da 30 dc] 63:=by
     have h:=HX.o.set 4 (.slice da 30 dc);simp only[aJ,aK,aI] at h;exact h
    have rF:=zh Eo;have ry:gO w5 (w5.setCell ⟨bR,4,none⟩ (.slice da 30 dc)) w.heap.size bR 63:=gO.pts hsz ⟨_,_,HX.o⟩ [(4,.slice da 30 dc)];have jl:=zh (jA.o.ik ry (fun e=>hnb _ e rfl) (by decide));have CH:=zh (iI.ik (show gD w5 w.heap.size (.slice da 30 dc) (dl.take 30) from G4.o.Hu (by omega)) ry (by decide));have jL:=zh (zC (B:=w.heap.size) (b:=bR) hsz [(4,.slice da 30 dc)] gW.o);have f4:=HX.o.frozen 4;clear Eo ry;go_wp2_with fail;go_meet
    case rel=>exact ⟨rfl,da,dc,by rw[H9];exact rF,by rw[H9];exact CH,jl,jL⟩
   have hdd:decide ((30:Int)<(dl.length:Int))=false:=by simp;omega
   have he:dl.take 30=dl:=aS (by omega);go_wp2_with fail;go_meet
   case rel=>exact ⟨rfl,da,dc,by rw[he];exact HX,by rw[he];exact G4,jA,gW⟩
  clear HX G4 jA gW;obtain ⟨rfl,Hx,H8,HX,HK,HO,HB⟩:=hcut;generalize wc=w6 at *;have aqf:(dl.take 30).length<=30:=by rw[aB];omega
  have BX:Hid (I8 much ⟨tk,kd,ky,ck,dl⟩=⟨tk,1+kd%2,ky%8,ck%2,(if (much&&decide (tk%4=0))=true then List.replicate 4076 0 else [])++dl.take 30⟩):=zh (rfl);generalize dl.take 30=D at *;obtain ⟨pre,hpre⟩:∃ pre:List UInt8,(if (much&&decide (tk%4=0))=true then List.replicate 4076 0 else [])=pre:=⟨_,rfl⟩
  rw[hpre] at BX;have Ah:=zh hpre;clear hpre;have e4:=zNN tk;have x0:=HX.o.cell (i:=0) rfl;have x4:=HX.o.cell (i:=4) rfl;obtain ⟨mb,Zd⟩:∃ mb,(much&&decide (tk%4=0))=mb:=⟨_,rfl⟩
  rw[Zd] at Ah;have HMb:=zh Zd;clear Zd;go_upto_region 9 with fail
  go_cut [52] (fun bv wx=>bv=.bool mb/\w6=wx)
  case first =>
   cases much
   ·have Ze:=HMb.o;rw[dC] at Ze;subst Ze;go_wp2_with fail;go_meet
    case rel=>exact ⟨rfl,rfl⟩
   have Ze:(tk%4==0)=mb:=by
    rw[<- HMb.o,bU]
    by_cases h:tk%4=0
    ·simp[h]
    simp[h]
   go_wp2_with fail;go_meet
   case rel=>exact ⟨rfl,rfl⟩
  obtain ⟨rfl,rfl⟩:=hcut;go_upto_if 52 with fail
  go_cut [9] (fun pv wx=>pv=.pointer (some ⟨bR,0,none⟩)/\∃ (B5:Option Addr) (B8:Nat) (D2:List UInt8),Hid (D2=pre++D)/\Hid (eu wx bR #[.int .i64 tk,.int .i64 (1+kd%2),.int .u64 ((ky:Int)%8),.int .u32 ((ck:Int)%2),.slice B5 D2.length B8] 63)/\Hid (gD wx w.heap.size (.slice B5 D2.length B8) D2)/\Hid (jd wx w.heap.size u7 DM)/\Hid (Below w.heap.size w wx))
  case first =>
   cases mb
   ·have Rn:[]=pre:=Ah.o;subst Rn;go_wp2_with fail;go_meet
    case rel=>exact ⟨rfl,Hx,H8,D,zh rfl,HX,HK,HO,HB⟩
   have Rn:List.replicate 4076 0=pre:=Ah.o;obtain ⟨zc,hz1,hz2,hmk⟩:=zLd;rw[Rn] at hz2;have hpl:pre.length=4076:=by rw[<- Rn,dw]
   clear Rn Ah;have eG:=zV ((aj w6.heap.size w6).alloc (ag _) (.cells zc 5));have H_:(World.drew (w6.alloc (.cells zc 5))).ownsRow w6.heap.size 5 1 (.slice (some ⟨w6.heap.size,0,none⟩) 4076 4076) 4076 (pre.map yy):=⟨by rw[aH,hpl],.inr ⟨w6.heap.size,4076,zc,rfl,ag _,heap_alloc_new w6 _,ag _,by decide,hz1,by rw[hz2,aS (by rw[aH,hpl];decide)]⟩⟩
   have HZ:=zh H_;have NS:=zh (HX.o.bb eG);have IL:=zh (iI.bb HK.o eG);have hs6:w6.heap.size<=(World.drew (w6.alloc (.cells zc 5))).heap.size:=eG.size
   have nz:=zh (fun W9 va vc (hown:World.ownsRow W9 w6.heap.size 5 1 (.slice va (4076+D.length) vc) (4076+D.length) (pre.map yy++D.map yy)) (hgr:(World.drew (w6.alloc (.cells zc 5))).grownBy W9 (Value.slice (some ⟨w6.heap.size,0,none⟩) 4076 4076).ownBlock)=>show eu W9 bR #[.int .i64 tk,.int .i64 (1+kd%2),.int .u64 ((ky:Int)%8),.int .u32 ((ck:Int)%2),.slice Hx D.length H8] 63/\gD W9 w.heap.size (.slice va (pre++D).length vc) (pre++D)/\jd W9 w.heap.size u7 DM/\Below w6.heap.size w6 W9 by
    have hb:=zK eG H_ hs6 hgr
    refine ⟨HX.o.bb hb,?_,HO.o.bb hb,hb⟩
    have e:(pre++D).length=4076+D.length:=by rw[ax,hpl]
    unfold gD
    rw[e,aU]
    exact iI.own hown)
   clear H_ eG hz2;have xa4:=NS.o.cell (i:=4) rfl;have Zf:Hid (Rd (World.drew (w6.alloc (.cells zc 5))) 1 (.slice Hx D.length H8) D.length (D.map yy)):=zh (IL.o.1);go_upto_region 10 with fail
   go_region_law ((refine wP (n:=4076) (m:=D.length) (by rfl) (.tmp 53) (.tmp 55) 54 (by rfl) vv w6.heap.size (by rfl) HZ.o (by rfl) Zf.o (xJ D) (by unfold maxLen;omega) (by omega) hs6 ?_;intro v9 w9 eM fu hv2;clear hv2;obtain ⟨jD,jE,hv2,_,_,_⟩:=zG eM;subst hv2;obtain ⟨r1,r2,r3,r4⟩:=nz.o _ _ _ eM fu;have x9:=r1.cell (i:=4) rfl;have f9:=r1.frozen 4))
   all_goals
    have e:(pre++D).length=4076+D.length:=by rw[ax,hpl]
    rw[e] at r2;have ry:gO w9 (w9.setCell ⟨bR,4,none⟩ (.slice jD (4076+D.length) jE)) w.heap.size bR 63:=gO.pts hsz ⟨_,_,r1⟩ [(4,.slice jD (4076+D.length) jE)];have Eo:eu (w9.setCell ⟨bR,4,none⟩ (.slice jD (4076+D.length) jE)) bR #[.int .i64 tk,.int .i64 (1+kd%2),.int .u64 ((ky:Int)%8),.int .u32 ((ck:Int)%2),.slice jD (4076+D.length) jE] 63:=by
     have h:=r1.set 4 (.slice jD (4076+D.length) jE);simp only[aJ,aK,aI] at h;exact h
    have rF:=zh Eo;have CH:=zh (iI.ik r2 ry (by decide));have jl:=zh (r3.ik ry (fun e=>hnb _ e rfl) (by decide));have jL:=zh (zC (B:=w.heap.size) (b:=bR) hsz [(4,.slice jD (4076+D.length) jE)] (HB.o.trans (r4.mono HB.o.size)));clear r1 r2 r3 r4 ry Eo x9 f9 eM fu;go_wp2_with fail;go_meet
    case rel=>exact ⟨rfl,jD,jE,pre++D,zh rfl,by rw[e];exact rF,by rw[e];exact CH,jl,jL⟩
  clear HX HK HO HB Ah;obtain ⟨rfl,B5,B8,D2,Iv,HX,HK,HO,HB⟩:=hcut;generalize wc=w7 at *;obtain ⟨oa,oc,Ci,_,_,_⟩:=zG HO.o.row;subst Ci;have Ro:w.heap.size<=w7.heap.size:=HB.o.size;have x0:=HX.o.cell (i:=0) rfl;have x1:=HX.o.cell (i:=1) rfl;have x2:=HX.o.cell (i:=2) rfl;have x3:=HX.o.cell (i:=3) rfl;have x4:=HX.o.cell (i:=4) rfl;have eG:=(aj w7.heap.size w7).alloc (ag _) (.cells #[.int .i64 tk,.int .i64 (1+kd%2),.int .u64 ((ky:Int)%8),.int .u32 ((ck:Int)%2),.slice B5 D2.length B8] 63);have jP:=zh (HO.o.bb eG);have Zg:=zh (iI.bb HK.o eG);have nV:=zh (HB.o.trans (eG.mono Ro));have Ia:=zh jP.o.row;have Rp:=ak Ro eG.size;clear eG HX HK HO HB
  go_wp2_with (at_builtin;go_must (refine zP (n:=DM.length) (m:=1) rfl (.tmp 58) (.tmp 60) 60 rfl zNL w.heap.size rfl Ia.o rfl (Rd.jR w7.heap.size w7 rfl 5 [.int .i64 tk,.int .i64 (1+kd%2),.int .u64 ((ky:Int)%8),.int .u32 ((ck:Int)%2),.slice B5 D2.length B8] 63 1 rfl (by decide)) (fun u hu=>by simp only[bp,bt,bu] at hu;rcases hu with h|h|h|h|h<;>rw[h]<;>rfl) (by unfold maxLen;omega) (by omega) Rp ?_);intro v3 w9 eB eW hv3;clear hv3);have jl:=zh (jP.o.push (p:=((⟨tk,1+kd%2,ky%8,ck%2,D2⟩:Rq),(.slice B5 D2.length B8:Value))) Zg.o eB eW);have jL:=zh (zK nV.o Ia.o Rp eW);have Zh:=zh (show (DM++[((⟨tk,1+kd%2,ky%8,ck%2,D2⟩:Rq),(.slice B5 D2.length B8:Value))]).map (·.1)=(N.take (i+1)).map (I8 much) by rw[aU,JR.o,MY.o,BX.o,Iv.o];rfl)
  have TA:(DM++[((⟨tk,1+kd%2,ky%8,ck%2,D2⟩:Rq),(.slice B5 D2.length B8:Value))]).length=i+1:=by rw[ax,hl];rfl
  clear eB eW;go_wp2_with fail;exact ⟨⟨i+1,_,by go_num,by omega,by omega,TA,jl,Zh,jL⟩,by simp[intOf];omega⟩
 have IC:=zh (HE.o i hi hi2 hin)
 by_cases h5:i<n
 ·have i2:decide ((i:Int)<(n:Int))=true:=aD (by omega);have i3:decide ((i:Int)<(most:Int))=false:=aC (by omega);go_wp2_with fail;go_ret;exact ⟨_,DM,rfl,HO.o,by rw[JR.o,IC.o],HB.o⟩
 have i2:decide ((i:Int)<(n:Int))=false:=aC (by omega);go_wp2_with fail;go_ret;exact ⟨_,DM,rfl,HO.o,by rw[JR.o,IC.o],HB.o⟩
/-! ### Plain -/
def FL (x:Nd):Prop:=x.Wf/\x.data.length<=5000
def zJB {P:fP} {q:Rq} (hq:q.Wf/\q.data.length<=5000) (h:∀ x∈P.needs,FL x):∀ x∈(zq P q).2.needs,FL x:=by
 have hadd:∀ (Q:fP) (y:Nd),Q.needs=P.needs->FL y->∀ x∈(xR Q y).needs,FL x:=fun Q y hQ hy x hx=>by
  rcases List.mem_append.1 (show x∈Q.needs++[y] from hx) with hx|hx
  ·exact h x (hQ▸hx)
  obtain rfl:=List.mem_singleton.1 hx;exact hy
 have hd:∀ x∈(wY P q).needs,FL x:=by
  have h2:=(wN P q.key).2.1;unfold wY
  split
  ·exact hadd _ _ h2 ⟨hq.1,aq _⟩
  rw[h2];exact h
 unfold zq
 split
 ·exact h
 split
 ·split
  ·exact h
  split
  ·split
   ·exact h
   exact hadd P _ rfl hq
  exact h
 split
 ·split
  ·split
   ·exact h
   exact hd
  exact h
 exact h
def zFB:∀ (l:List Rq) (P:fP),(∀ q∈l,q.Wf/\q.data.length<=5000)->(∀ x∈P.needs,FL x)->∀ x∈(tx l P).needs,FL x
 |[],_,_,h=>h
 |q::r,P,hl,h=>by
  have h2:=zJB (hl q (by simp)) h
  cases e:(zq P q).1
  ·rw[uy e];exact h2
  rw[vL e];exact zFB r _ (fun y hy=>hl y (by simp[hy])) h2
def zKG (S:fk) {K:List Rq} (hK:∀ q∈K,q.Wf/\q.data.length<=5000):∀ x∈(yE S K).1.needs,FL x:=by
 unfold yE
 split
 ·exact zFB K _ hK fun x hx=>by cases hx
 exact fun x hx=>by cases hx
def zMI (much:Bool) (q:Rq):(I8 much q).Wf/\(I8 much q).data.length<=5000:=by
 refine ⟨⟨by show q.key%8<_;omega,by show q.ck%2<_;omega⟩,?_⟩;unfold I8;dsimp only;rw[ax,aB]
 split
 ·rw[dw];omega
 rw[dK];omega
def zHv (n:Nat) (l:List Nd):(B4 n l).length<=n/\∀ x∈B4 n l,FL x:=by
 refine ⟨by unfold B4;rw[aH,aB];omega,fun x hx=>?_⟩;unfold B4 at hx;obtain ⟨y,_,rfl⟩:=List.mem_map.1 hx;exact ⟨⟨by show y.key%8<_;omega,by show y.ck%4<_;omega⟩,ak (zHc y) (by decide)⟩
def zI0 (ac:List rj) {L:List GP} (h:ey L=(K2 ac).ep):fF 48 (ey L)/\L.length<=8:=by
 have hI:=zH9 ac;refine ⟨fun g hg j hj=>hI.len g (h▸hg) j hj,?_⟩;have h1:=hI.v.len;have h2:=aM List.length h;rw[zk] at h2;omega
def zGC (s:fk) (K:List Rq) (hl:fF 600 s.ep):(yE s K).1.eE.length<=8/\(∀ x∈(yE s K).1.eE,x.2.length<=1000)/\(yE s K).1.needs.length<=16:=by
 unfold yE
 split
 ·obtain ⟨h1,h2⟩:=YF (K:=600) (G:=s.ep.length) K (wH s) ⟨hl,pR.nil _,ag _,⟨cL _,cL _⟩,ag _⟩ (aq _);exact ⟨h2.k.le8,fun x hx=>ak (h2.k.len x hx) (by omega),ak h2.e h1⟩
 exact ⟨aq _,(fun x hx=>by cases hx),aq _⟩
def zGq (s:fk) (eH:Bool) (ks:List Kl) (l:List Nd):(vP s eH ks l).1.ep.length<=8:=by
 unfold vP
 split
 ·split
  ·exact zKY s
  split
  ·split
   ·exact zK0 _ _
   exact aq _
  exact aq _
 exact aq _
/-! ### af1 in memory -/
def CL (w:World) (kv nv rv:Value) (ks:List KP) (es:List (Nd×Value)):Prop:=(∃ P,jF w P kv ks nv es rv)/\ks.length<=8/\(∀ p∈ks,p.2.2.length<=1000)/\es.length<=16/\∀ p∈es,FL p.1
def CL.bb {w w':World} {kv nv rv:Value} {ks:List KP} {es:List (Nd×Value)} (h:CL w kv nv rv ks es) (hb:Below w.heap.size w w'):CL w' kv nv rv ks es:=⟨h.1.elim fun P h=>⟨P,h.bb hb⟩,h.2⟩
def Kb (w:World) (b k:Nat):Prop:=∃ (eH:Bool) (tk:Int) (kv nv rv:Value) (ks:List KP) (es:List (Nd×Value)),w.cell? ⟨b,k*5,none⟩=some (.bool eH)/\w.cell? ⟨b,k*5+1,none⟩=some (.int .i64 tk)/\w.cell? ⟨b,k*5+2,none⟩=some kv/\w.cell? ⟨b,k*5+3,none⟩=some nv/\w.cell? ⟨b,k*5+4,none⟩=some rv/\CL w kv nv rv ks es
def Kb.bb {w w':World} {b k:Nat} (h:Kb w b k) (hb:Below w.heap.size w w'):Kb w' b k:=by
 obtain ⟨eH,tk,kv,nv,rv,ks,es,h0,h1,h2,h3,h4,h5⟩:=h;exact ⟨eH,tk,kv,nv,rv,ks,es,hb.keeps' h0,hb.keeps' h1,hb.keeps' h2,hb.keeps' h3,hb.keeps' h4,h5.bb hb⟩
variable {w:World} {kv nv rv:Value} {ks:List KP} {es:List (Nd×Value)}
def jF.lN {P:fP} (h:jF w P kv ks nv es rv):∃ ka kc na nc ra rn rc,kv=.slice ka ks.length kc/\nv=.slice na es.length nc/\rv=.slice ra rn rc:=by
 obtain ⟨ka,kc,e1,_⟩:=h.k.shape;obtain ⟨na,nc,e2,_⟩:=h.n.shape;obtain ⟨_,ra,rc,e3,_⟩:=h.r;exact ⟨ka,kc,na,nc,ra,_,rc,e1,e2,e3⟩
structure zOH (w:World) (B:Nat) (kv nv rv:Value) (ks:List KP) (es:List (Nd×Value)) (res:List Int):Prop where
 k:w.ownsRow B 103 2 kv ks.length (ks.flatMap iy)
 u:∀ p∈ks,w.ownsRow B 24 1 p.2.1 p.2.2.length (p.2.2.map Fc)
 n:w.ownsRow B 56 4 nv es.length (xI es)
 d:∀ p∈es,ll w p.2 p.1.data
 r:w.ownsRow B 39 1 rv res.length (res.map qQ)
def mF (w:World) (kv nv rv:Value) (ks:List KP) (es:List (Nd×Value)):Prop:=(∃ B res,zOH w B kv nv rv ks es res)/\ks.length<=8/\(∀ p∈ks,p.2.2.length<=1000)/\es.length<=16/\∀ p∈es,FL p.1
def mF.bb {w w':World} {kv nv rv:Value} {ks:List KP} {es:List (Nd×Value)} (h:mF w kv nv rv ks es) (hb:Below w.heap.size w w'):mF w' kv nv rv ks es:=⟨h.1.elim fun B h=>h.elim fun r h=>⟨B,r,zE h.k hb,fun p hp=>zE (h.u p hp) hb,zE h.n hb,fun p hp=>il.bb (h.d p hp) hb,zE h.r hb⟩,h.2⟩
def Zi (o:Bool) (t:Int) (a1 a2 a3:Option Addr) (n1 n2 n3 c1 c2 c3:Nat) (xs:List Value) (hp:0<xs.length) (hx:∃ k z,xs[0]?=some (.int k z)/\k≠.i64):PU #[.bool o,.int .i64 t,.slice a1 n1 c1,.slice a2 n2 c2,.slice a3 n3 c3] xs:=fun off=>by
 obtain ⟨k,z,e,hk⟩:=hx;refine ⟨0,.int k z,e,fun h=>?_⟩
 match off with
 |0=>cases h
 |1=>exact hk (by injection h with h;injection h with h _;exact h.symm)
 |2=>cases h
 |3=>cases h
 |4=>cases h
 |j+5=>rw[dW (by show 5<=j+5+0;omega)] at h;cases h
def zFu {l:List UInt8} (hp:0<(l.map yy).length):∃ k z,(l.map yy)[0]?=some (.int k z)/\k≠.i64:=by
 match l,hp with
 |x::q,_=>exact ⟨.u8,_,rfl,by decide⟩
def zLe {l:List It} (hp:0<(zg l).length):∃ k z,(zg l)[0]?=some (.int k z)/\k≠.i64:=by
 match l,hp with
 |x::q,_=>exact ⟨.u64,_,rfl,by decide⟩
section
variable {w:World} {b:Nat} {o:Bool} {t:Int} {a1 a2 a3:Option Addr} {n1 n2 n3 c1 c2 c3:Nat}
def mF.box {kv nv rv:Value} {ks:List KP} {es:List (Nd×Value)} (h:mF w kv nv rv ks es) (hb:eu w b #[.bool o,.int .i64 t,.slice a1 n1 c1,.slice a2 n2 c2,.slice a3 n3 c3] 78) (vs:List (Nat×Value)):mF (pts w b vs) kv nv rv ks es:=by
 obtain ⟨⟨B,r,h⟩,h2⟩:=h;have ho:=gO.pts (B:=0) (aq b) ⟨_,_,hb⟩ vs;exact ⟨⟨B,r,yT h.k ho (by decide),fun p hp=>yT (h.u p hp) ho (by decide),yT h.n ho (by decide),fun p hp=>uG (h.d p hp) hb (fun hp=>Zi _ _ _ _ _ _ _ _ _ _ _ _ hp (zFu hp)) vs,yT h.r ho (by decide)⟩,h2⟩
def fB.plan {v:Value} {L:List GP} (h:fB w v L) (hb:eu w b #[.bool o,.int .i64 t,.slice a1 n1 c1,.slice a2 n2 c2,.slice a3 n3 c3] 78) (vs:List (Nat×Value)):fB (pts w b vs) v L:=
 ⟨⟨h.r.1,uG h.r.2 hb (fun hp off=>by
  match L,hp with
  |p::q,_ =>
   match off with
   |0=>exact ⟨0,.int .i64 p.1.num,rfl,fun h=>by cases h⟩
   |1=>exact ⟨1,.int .i64 p.1.rev,rfl,fun h=>by cases h⟩
   |2=>exact ⟨0,.int .i64 p.1.num,rfl,fun h=>by cases h⟩
   |3=>exact ⟨0,.int .i64 p.1.num,rfl,fun h=>by cases h⟩
   |4=>exact ⟨0,.int .i64 p.1.num,rfl,fun h=>by cases h⟩
   |k+5=>exact ⟨0,.int .i64 p.1.num,rfl,fun h=>by
     rw[dW (by show 5<=k+5+0;omega)] at h;cases h⟩) vs⟩,fun p hp j hj=>xF (n:=(p.1.m.st j).length) (uG (un (h.m p hp j hj)) hb (fun hp=>Zi _ _ _ _ _ _ _ _ _ _ _ _ hp (zLe hp)) vs)⟩
end
def mF.rd (h:mF w kv nv rv ks es):CL w kv nv rv ks es:=
 ⟨h.1.elim fun B h=>h.elim fun r h=>⟨{wH yq with eE:=gV ks,needs:=es.map (·.1),res:=r},⟨⟨fun x _=>xV x,zr h.k⟩,fun p hp=>vR (h.u p hp)⟩,rfl,⟨zr h.n,h.d⟩,rfl,zr h.r⟩,h.2⟩
def CL.lN {w:World} {kv nv rv:Value} {ks:List KP} {es:List (Nd×Value)} (h:CL w kv nv rv ks es):∃ ka kc na nc ra rn rc,kv=.slice ka ks.length kc/\nv=.slice na es.length nc/\rv=.slice ra rn rc:=by
 obtain ⟨⟨P,h⟩,_⟩:=h;exact h.lN
def zIq (h:mJ w v es):∀ u∈xI es,u.oneCell'=true:=fun u hu=>by
 obtain ⟨p,hp,hu⟩:=List.mem_flatMap.1 hu;obtain ⟨a,c,e,_⟩:=ll.fO (h.dat p hp);unfold vI at hu;simp only[bp,bt,bu] at hu;rcases hu with h|h|h|h<;>rw[h]
 ·rfl
 ·rfl
 ·rfl
 rw[e];rfl
def zJV {s:fk} {K:List Rq} (hl:fF 600 s.ep) (hK:∀ q∈K,q.Wf/\q.data.length<=5000) (h:nG w B (yE s K).1 kv ks nv es rv):mF w kv nv rv ks es:=by
 obtain ⟨h1,h2,h3⟩:=zGC s K hl;have hn:=zKG s hK;refine ⟨⟨B,_,h.k.row,h.k.keys,h.n.row,fun p hp=>(h.n.dat p hp).1,h.r⟩,?_,fun p hp=>?_,?_,fun p hp=>?_⟩
 ·have e:=aM List.length h.kk;rw[xx] at e;omega
 ·exact h2 (p.1,p.2.2) (h.kk▸cB (f:=fun k:KP=>(k.1,k.2.2)) hp)
 ·have e:=aM List.length h.nn;rw[aH] at e;omega
 exact hn p.1 (h.nn▸cB hp)
/-! ### What the operations of drawn regions leave -/
def rqG:lZ:=⟨fun v w=>∃ (a:Option Addr) (c:Nat) (qs:List (Rq×Value)),v=.slice a qs.length c/\AW w (.slice a qs.length c) qs/\qs.length<=12/\∀ p∈qs,p.1.Wf/\p.1.data.length<=5000,fun _ _ _ hb ⟨a,c,qs,h1,h2,h3⟩=>⟨a,c,qs,h1,h2.bb hb,h3⟩⟩
def plG:lZ:=⟨fun v w=>∃ eH tk kv nv rv ks es,v=tF eH tk kv nv rv/\mF w kv nv rv ks es,fun _ _ _ hb ⟨a,b,c,d,e,f,g,h1,h2⟩=>⟨a,b,c,d,e,f,g,h1,h2.bb hb⟩⟩
def plE:lZ:=⟨fun v w=>∃ eH tk kv nv rv ks es z,v=.tuple #[tF eH tk kv nv rv,.int .i64 z]/\mF w kv nv rv ks es,fun _ _ _ hb ⟨a,b,c,d,e,f,g,z,h1,h2⟩=>⟨a,b,c,d,e,f,g,z,h1,h2.bb hb⟩⟩
def zOK:lZ:=⟨fun v _=>∃ z,v=.int .i64 z,fun _ _ _ _ h=>h⟩
def zOD (P:fP) (eH:Bool) (take:Int) (kn:Nat) (ks:List KP) (nv:Value) (es:List (Nd×Value)) (rv:Value):lZ:=⟨fun v w=>∃ a c,v=.agg #[.bool eH,.int .i64 take,.slice a kn c,nv,rv]/\jF w P (.slice a kn c) ks nv es rv,fun _ _ _ hb ⟨a,c,h1,h2⟩=>⟨a,c,h1,h2.bb hb⟩⟩
def zOB (p:fk):lZ:=⟨fun v w=>∃ a n c L,v=zQ p.id p.lim p.ro a n c/\fB w (.slice a n c) L/\ey L=p.ep,fun _ _ _ hb ⟨a,n,c,L,h1,h2,h3⟩=>⟨a,n,c,L,h1,h2.bb hb,h3⟩⟩
def zNq (p:fk) (z:Int):lZ:=⟨fun v w=>∃ a n c L,v=.tuple #[zQ p.id p.lim p.ro a n c,.int .i64 z]/\fB w (.slice a n c) L/\ey L=p.ep,fun _ _ _ hb ⟨a,n,c,L,h1,h2,h3⟩=>⟨a,n,c,L,h1,h2.bb hb,h3⟩⟩
def zN9 (p:fk) (n:Nat):lZ:=⟨fun v w=>∃ a c L,v=zQ p.id p.lim p.ro a n c/\fB w (.slice a n c) L/\ey L=p.ep,fun _ _ _ hb ⟨a,c,L,h1,h2,h3⟩=>⟨a,c,L,h1,h2.bb hb,h3⟩⟩
def zNZ (t:TypeId) (B:Nat) (cs:Array Value):lZ:=⟨fun v w=>∃ b,v=.pointer (some ⟨b,0,none⟩)/\B<=b/\eu w b cs t,fun _ _ _ hb ⟨b,h1,h2,h3⟩=>⟨b,h1,h2,h3.bb hb⟩⟩
def SmQ (W0:World) (es:List (Nd×Value)) (v:Value) (W:World):Prop:=∃ r_,gH W W0.heap.size v r_/\r_.map (·.1)=B4 3 (es.map (·.1))/\Below W0.heap.size W0 W
def ApQ (W0:World) (es:List (Nd×Value)) (v:Value) (W:World):Prop:=∃ oa oc r_,v=.slice oa (r_.length+es.length) oc/\W.ownsRow W0.heap.size 56 4 (.slice oa (r_.length+es.length) oc) (r_.length+es.length) (xI r_++xI es)/\(∀ p∈r_,ll W p.2 p.1.data)/\r_.map (·.1)=B4 3 (es.map (·.1))/\Below W0.heap.size W0 W
/-! ### The drawn region `raw.rS = append(Zj.Small(raw.rS, 3), raw.rS...)`: the call (2), the append (5) -/
structure BD (ps:List (Nat×Value)) (W0:World) (Sm Ap:Value->World->Prop) (L:Nat->Bool) (f:Nat->Value) (W:World):Prop where
 ji:∀ q∈ps,L q.1=true->f q.1=q.2
 s0:L 2=false->W=W0
 s1:L 2=true->L 5=false->Sm (f 2) W
 s2:L 5=true->Ap (f 5) W
 d5:L 5=true->L 2=true/\L 4=true
 d2:L 2=true->L 1=true
section
variable {ps:List (Nat×Value)} {W0:World} {Sm Ap:Value->World->Prop} {L:Nat->Bool} {f:Nat->Value} {W:World}
def BD.start (f:Nat->Value):BD ps W0 Sm Ap (fun _=>false) f W0:=⟨(fun _ _ h=>by cases h),(fun _=>rfl),(fun h=>by cases h),(fun h=>by cases h),(fun h=>by cases h),(fun h=>by cases h)⟩
def BD.Zk (h:BD ps W0 Sm Ap L f W) (h0:L 2=false∨L 4=false):L 5=false:=by
 cases e:L 5 with
 |false=>rfl
 |true=>have:=h.d5 e;rcases h0 with h0|h0<;>simp[h0] at this
def BD.no2 (h:BD ps W0 Sm Ap L f W) (h0:L 1=false):L 2=false:=by
 cases e:L 2 with
 |false=>rfl
 |true=>have:=h.d2 e;simp[h0] at this
def BD.early (h:BD ps W0 Sm Ap L f W) (h5:L 5=false) (hs:∀ v W,Sm v W->Below W0.heap.size W0 W):Below W0.heap.size W0 W:=by
 cases e:L 2 with
 |false=>rw[h.s0 e];exact aj _ _
 |true=>exact hs _ _ (h.s1 e h5)
def BD.pure (h:BD ps W0 Sm Ap L f W) {i:Nat} {v:Value} (h2:2≠i) (h5:5≠i) (hp:∀ q∈ps,q.1=i->v=q.2):BD ps W0 Sm Ap (nY L i) (xM f i v) W:=by
 have on:∀ j,L j=true->nY L i j=true:=fun j hj=>by
  by_cases e:j=i
  ·subst e;exact vN L j
  rw[zO e];exact hj
 refine ⟨fun q hq hL=>?_,?_,?_,?_,?_,?_⟩
 ·by_cases e:q.1=i
  ·rw[e,vM];exact hp q hq e
  rw[yt e];rw[zO e] at hL;exact h.ji q hq hL
 ·rw[zO h2];exact h.s0
 ·rw[zO h2,zO h5,yt h2];exact h.s1
 ·rw[zO h5,yt h5];exact h.s2
 ·rw[zO h5];exact fun e=>⟨on 2 (h.d5 e).1,on 4 (h.d5 e).2⟩
 rw[zO h2];exact fun e=>on 1 (h.d2 e)
def BD.two (h:BD ps W0 Sm Ap L f W) (h2:L 2=false) (h1:L 1=true) (hp:∀ q∈ps,q.1≠2):W=W0/\∀ v W',Sm v W'->BD ps W0 Sm Ap (nY L 2) (xM f 2 v) W':=by
 have n5:=h.Zk (.inl h2);refine ⟨h.s0 h2,fun v W' hv=>⟨fun q hq hL=>?_,(fun e=>by rw[vN] at e;cases e),(fun _ _=>by rw[vM];exact hv),?_,?_,?_⟩⟩
 ·rw[yt (hp q hq)];rw[zO (hp q hq)] at hL;exact h.ji q hq hL
 ·rw[zO (by decide),n5];intro e;cases e
 ·rw[zO (by decide),n5];intro e;cases e
 intro _;rw[zO (by decide)];exact h1
def BD.five (h:BD ps W0 Sm Ap L f W) (h5:L 5=false) (h2:L 2=true) (h4:L 4=true) (hp:∀ q∈ps,q.1≠5):Sm (f 2) W/\∀ v W',Ap v W'->BD ps W0 Sm Ap (nY L 5) (xM f 5 v) W':=by
 refine ⟨h.s1 h2 h5,fun v W' hv=>⟨fun q hq hL=>?_,?_,?_,(fun _=>by rw[vM];exact hv),?_,?_⟩⟩
 ·rw[yt (hp q hq)];rw[zO (hp q hq)] at hL;exact h.ji q hq hL
 ·rw[zO (by decide),h2];intro e;cases e
 ·rw[vN];intro _ e;cases e
 ·intro _;rw[zO (by decide),zO (by decide)];exact ⟨h2,h4⟩
 rw[zO (by decide),zO (by decide)];exact h.d2
end
def zLV (n:Nat):bits .and .u32 (n:Int) 3=((n%4:Nat):Int):=by
 have hm:(BitVec.ofInt 32 3).toNat=2^2-1:=by decide
 have key:(BitVec.ofInt 32 (n:Int) &&& BitVec.ofInt 32 3).toNat=((n:Int)%((2^32:Nat):Int)).toNat%2^2:=by
  rw[BitVec.toNat_and,BitVec.toNat_ofInt,hm,dX]
 show IntKind.u32.wrap ((BitVec.ofInt 32 (n:Int) &&& BitVec.ofInt 32 3).toNat:Nat)=_
 rw[key];simp[IntKind.wrap,IntKind.signed,IntKind.bits];omega
def gH.MZ {b:Nat} {T':TypeId} (h:gH W B v es) (ho:gO W W' B b T') (h1:v.ownBlock≠some b) (h2:5≠T'):gH W' B v es:=by
 obtain ⟨h3,h4⟩:=h;refine ⟨⟨h3.1,?_⟩,fun p hp=>iI.ik (h4 p hp) ho h2⟩;rcases h3.2 with h5|⟨g,cap,cur,e,hb,hg,h6⟩
 ·exact .inl h5
 exact .inr ⟨g,cap,cur,e,hb,by rw[ho.blk g (Array.getElem?_eq_some_iff.1 hg).1 (fun e2=>h1 (by rw[e,e2];rfl))];exact hg,h6⟩
def gH.nil (W:World) (B:Nat):gH W B (.slice none 0 0) []:=⟨aP _ _ _ _,fun p hp=>by cases hp⟩
def gH.push {v':Value} {p:Nd×Value} (h:gH W B v es) (hd:gD W B p.2 p.1.data) (ho:W'.ownsRow B 56 4 v' (es.length+1) (xI es++vI p)) (hg:W.grownBy W' v.ownBlock):gH W' B v' (es++[p]):=by
 have hO:fM W W' B 56:=fM.row h.row hg (ag _);refine ⟨?_,fun x hx=>?_⟩
 ·have e:xI (es++[p])=xI es++vI p:=by unfold xI;rw[cn];simp
  rw[e,ax];exact ho
 rcases List.mem_append.1 hx with hx|hx
 ·exact iI.fC (h.dat x hx) hO (by decide)
 obtain rfl:=List.mem_singleton.1 hx;exact iI.fC hd hO (by decide)
def zBv (v:Value) (ns:List (Nd×Value)) (most:Nat) (w:World) (h:mJ w v ns) (hm:most<=1000) :
  Calls prog 37 #[v,.int .i64 (most:Int)] w fun e w'=>∃ v' es,e=.returned v'/\gH w' w.heap.size v' es/\es.map (·.1)=B4 most (ns.map (·.1))/\Below w.heap.size w w':=by
 obtain ⟨a,cap,rfl,h1,h2⟩:=h.shape;have HQ:=zh h;have Bb:=zh (fun i (hi:i<ns.length)=>h.dat _ (vh hi))
 have jY:=zh (show ∀ i,i<ns.length->((ns.map (·.1)).take (i+1)).map I7=((ns.map (·.1)).take i).map I7++[I7 (yw ns i).1] from fun i hi=>by
  rw[cQ,b_,aA hi,aU]
  unfold yw
  rw[aw,aA hi];rfl)
 have HE:=zh (show ∀ i,i<=ns.length->i<=most->¬ (i<ns.length/\i<most)->((ns.map (·.1)).take i).map I7=B4 most (ns.map (·.1)) from fun i h1 h2 h3=>by
  unfold B4
  by_cases e:i=most
  ·rw[e]
  rw[aS (by rw[aH];omega),aS (by rw[aH];omega)])
 clear h;generalize hn:ns.length=n at *;clear hn;generalize ns.map (·.1)=N at *
 go_enter func37,ntmps37
 go_wp2_with fail
 go_loopw [5,6] (fun ov iv W=>∃ (i:Nat) (es:List (Nd×Value)),iv=.int .i64 (i:Int)/\i<=n/\i<=most/\es.length=i/\Hid (gH W w.heap.size ov es)/\Hid (es.map (·.1)=(N.take i).map I7)/\Hid (Below w.heap.size w W)) (fun _ iv _=>n-(intOf iv).toNat)
 case atStart=>exact ⟨0,[],rfl,aq _,aq _,rfl,zh (gH.nil _ _),zh rfl,zh (aj _ _)⟩
 obtain ⟨i,es,rfl,hi,hi2,hl,HO,JR,HB⟩:=hrel;have hsz:w.heap.size<=wr.heap.size:=HB.o.size
 by_cases hin:i<n/\i<most
 ·obtain ⟨hin,him⟩:=hin;have i1:(i:Int)<(n:Int):=by omega
  have i2:decide ((i:Int)<(n:Int))=true:=aD i1;have i3:decide ((i:Int)<(most:Int))=true:=aD (by omega);obtain ⟨qb,qo,e0,_,c0,c1,c2,c3⟩:=(HQ.o.bb HB.o).at (j:=i) hin;subst e0;have J5:=Bb.o i hin;have hst:=jY.o i hin;generalize yw ns i=X at *;obtain ⟨⟨ky,ck,dd,dl⟩,dv⟩:=X;dsimp only at *;obtain ⟨da,dc,rfl,sV,hd2⟩:=J5.fO;have JW:=zh J5;have MY:=zh hst;have e2:=zLM ky;have e3:=zLV ck;clear J5 hst;go_upto_if 26 with fail;have eG:=(aj wr.heap.size wr).alloc (ag _) (.cells #[.int .u64 (ky:Int),.int .u32 (ck:Int),.bool dd,.slice da dl.length dc] 56);have HX:=zh (eu.new wr #[.int .u64 (ky:Int),.int .u32 (ck:Int),.bool dd,.slice da dl.length dc] 56);have hnb:∀ g,u5.ownBlock=some g->g≠wr.heap.size:=fun g hg e=>by have:=(HO.o.row.lt g hg).2;omega
  have jA:=zh (HO.o.bb eG);have gW:=zh (HB.o.trans (eG.mono hsz));have G4:Hid (gD _ w.heap.size (.slice da dl.length dc) dl):=zh (iI.bb (iI.bb (iI.old JW.o (ag _)) HB.o) eG);change Code.wp _ _ _ _ (.alloc _ (.cells _ 56));clear eG HO HB JW c0 c1 c2 c3;generalize MD:wr.heap.size=bR at *;clear MD;generalize wr.alloc (.cells #[.int .u64 (ky:Int),.int .u32 (ck:Int),.bool dd,.slice da dl.length dc] 56)=w5 at *
  go_cut [7] (fun pv wx=>pv=.pointer (some ⟨bR,0,none⟩)/\∃ (Hx:Option Addr) (H8:Nat),Hid (eu wx bR #[.int .u64 (ky:Int),.int .u32 (ck:Int),.bool dd,.slice Hx (dl.take 30).length H8] 56)/\Hid (gD wx w.heap.size (.slice Hx (dl.take 30).length H8) (dl.take 30))/\Hid (gH wx w.heap.size u5 es)/\Hid (Below w.heap.size w wx))
  case first =>
   have x4:=HX.o.cell (i:=3) rfl
   by_cases h30:30<dl.length
   ·have Et:=fun W kh=>xH (P:=prog) vv (a:=da) (n:=dl.length) (cap:=dc) (il.spot G4.o.rd (by omega)) 30 (by omega) W kh
    rw[show ((30:Nat):Int)=30 from rfl] at Et;have hdd:decide ((30:Int)<(dl.length:Int))=true:=by simp;omega
    have H9:(dl.take 30).length=30:=by rw[aB];omega
    have Eo:eu (w5.setCell ⟨bR,3,none⟩ (.slice da 30 dc)) bR #[.int .u64 (ky:Int),.int .u32 (ck:Int),.bool dd,.slice da 30 dc] 56:=by
     have h:=HX.o.set 3 (.slice da 30 dc);simp only[aJ,aK,aI] at h;exact h
    have rF:=zh Eo;have ry:gO w5 (w5.setCell ⟨bR,3,none⟩ (.slice da 30 dc)) w.heap.size bR 56:=gO.pts hsz ⟨_,_,HX.o⟩ [(3,.slice da 30 dc)];have jl:=zh (jA.o.MZ ry (fun e=>hnb _ e rfl) (by decide));have CH:=zh (iI.ik (show gD w5 w.heap.size (.slice da 30 dc) (dl.take 30) from G4.o.Hu (by omega)) ry (by decide));have jL:=zh (zC (B:=w.heap.size) (b:=bR) hsz [(3,.slice da 30 dc)] gW.o);have f4:=HX.o.frozen 3;clear Eo ry;go_wp2_with fail;go_meet
    case rel=>exact ⟨rfl,da,dc,by rw[H9];exact rF,by rw[H9];exact CH,jl,jL⟩
   have hdd:decide ((30:Int)<(dl.length:Int))=false:=by simp;omega
   have he:dl.take 30=dl:=aS (by omega);go_wp2_with fail;go_meet
   case rel=>exact ⟨rfl,da,dc,by rw[he];exact HX,by rw[he];exact G4,jA,gW⟩
  clear HX G4 jA gW;obtain ⟨rfl,Hx,H8,HX,HK,HO,HB⟩:=hcut;generalize wc=w6 at *;have BX:Hid (I7 ⟨ky,ck,dd,dl⟩=⟨ky%8,ck%4,dd,if dd then [] else dl.take 30⟩):=zh (rfl);generalize dl.take 30=D at *;have x2:=HX.o.cell (i:=2) rfl;go_upto_if 32 with fail
  go_cut [7] (fun pv wx=>pv=.pointer (some ⟨bR,0,none⟩)/\∃ (B5:Option Addr) (B8:Nat) (D2:List UInt8),Hid (D2=if dd then [] else D)/\Hid (eu wx bR #[.int .u64 (ky:Int),.int .u32 (ck:Int),.bool dd,.slice B5 D2.length B8] 56)/\Hid (gD wx w.heap.size (.slice B5 D2.length B8) D2)/\Hid (gH wx w.heap.size u5 es)/\Hid (Below w.heap.size w wx))
  case first =>
   cases dd
   ·go_wp2_with fail;go_meet
    case rel=>exact ⟨rfl,Hx,H8,D,zh rfl,HX,HK,HO,HB⟩
   have x3:=HX.o.cell (i:=3) rfl;have f3:=HX.o.frozen 3;have Eo:eu (w6.setCell ⟨bR,3,none⟩ (.slice none 0 0)) bR #[.int .u64 (ky:Int),.int .u32 (ck:Int),.bool true,.slice none 0 0] 56:=by
    have h:=HX.o.set 3 (.slice none 0 0);simp only[aJ,aK,aI] at h;exact h
   have rF:=zh Eo;have ry:gO w6 (w6.setCell ⟨bR,3,none⟩ (.slice none 0 0)) w.heap.size bR 56:=gO.pts hsz ⟨_,_,HX.o⟩ [(3,.slice none 0 0)];have jl:=zh (HO.o.MZ ry (fun e=>hnb _ e rfl) (by decide));have CH:Hid (gD (w6.setCell ⟨bR,3,none⟩ (.slice none 0 0)) w.heap.size (.slice none 0 0) []):=zh (⟨⟨rfl,none,0,rfl,ag _,aq _,fun _=>rfl,fun h=>(by cases h)⟩,fun g hg=>(by cases hg)⟩);have jL:=zh (zC (B:=w.heap.size) (b:=bR) hsz [(3,.slice none 0 0)] HB.o);clear Eo ry;go_wp2_with fail;go_meet
   case rel=>exact ⟨rfl,none,0,[],zh rfl,rF,CH,jl,jL⟩
  clear HX HK HO HB;obtain ⟨rfl,B5,B8,D2,Iv,HX,HK,HO,HB⟩:=hcut;generalize wc=w7 at *;have x0:=HX.o.cell (i:=0) rfl;have x1:=HX.o.cell (i:=1) rfl;have f0:=HX.o.frozen 0;have f1:=HX.o.frozen 1;have Eo:eu (pts w7 bR [(0,.int .u64 ((ky:Int)%8)),(1,.int .u32 ((ck:Int)%4))]) bR #[.int .u64 ((ky:Int)%8),.int .u32 ((ck:Int)%4),.bool dd,.slice B5 D2.length B8] 56:=by
   have h:=eu.sets [(0,.int .u64 ((ky:Int)%8)),(1,.int .u32 ((ck:Int)%4))] HX.o;simp only[cZ,dD,aJ,aK,aI] at h;exact h
  have ry:gO w7 (pts w7 bR [(0,.int .u64 ((ky:Int)%8)),(1,.int .u32 ((ck:Int)%4))]) w.heap.size bR 56:=gO.pts hsz ⟨_,_,HX.o⟩ _;have jl:=zh (HO.o.MZ ry (fun e=>hnb _ e rfl) (by decide));have CH:=zh (iI.ik HK.o ry (by decide));have jL:=zh (zC (B:=w.heap.size) (b:=bR) hsz [(0,.int .u64 ((ky:Int)%8)),(1,.int .u32 ((ck:Int)%4))] HB.o);have rF:=zh Eo;clear Eo ry HX HK HO HB;go_upto_region 12 with fail;change Code.wp _ _ _ _ (pts w7 bR [(0,.int .u64 ((ky:Int)%8)),(1,.int .u32 ((ck:Int)%4))]);generalize pts w7 bR [(0,.int .u64 ((ky:Int)%8)),(1,.int .u32 ((ck:Int)%4))]=w8 at *;clear x0 x1 f0 f1;have x0:=rF.o.cell (i:=0) rfl;have x1:=rF.o.cell (i:=1) rfl;have x2:=rF.o.cell (i:=2) rfl;have x3:=rF.o.cell (i:=3) rfl;obtain ⟨oa,oc,Ci,_,_,_⟩:=zG jl.o.row;subst Ci
  have Ro:w.heap.size<=w8.heap.size:=jL.o.size;have eG:=(aj w8.heap.size w8).alloc (ag _) (.cells #[.int .u64 ((ky:Int)%8),.int .u32 ((ck:Int)%4),.bool dd,.slice B5 D2.length B8] 56);have jP:=zh (jl.o.bb eG);have Zg:=zh (iI.bb CH.o eG);have nV:=zh (jL.o.trans (eG.mono Ro));have Ia:=zh jP.o.row;have Rp:=ak Ro eG.size;clear eG rF CH jl jL;go_wp2_with (at_builtin;go_must (refine zP (n:=es.length) (m:=1) rfl (.tmp 42) (.tmp 44) 23 rfl SY w.heap.size rfl Ia.o rfl (Rd.jR w8.heap.size w8 rfl 4 [.int .u64 ((ky:Int)%8),.int .u32 ((ck:Int)%4),.bool dd,.slice B5 D2.length B8] 56 1 rfl (by decide)) (fun u hu=>by simp only[bp,bt,bu] at hu;rcases hu with h|h|h|h<;>rw[h]<;>rfl) (by unfold maxLen;omega) (by omega) Rp ?_);intro v3 w9 eB eW hv3;clear hv3)
  have jl:=zh (jP.o.push (p:=((⟨ky%8,ck%4,dd,D2⟩:Nd),(.slice B5 D2.length B8:Value))) Zg.o eB eW);have jL:=zh (zK nV.o Ia.o Rp eW);have Zh:=zh (show (es++[((⟨ky%8,ck%4,dd,D2⟩:Nd),(.slice B5 D2.length B8:Value))]).map (·.1)=(N.take (i+1)).map I7 by rw[aU,JR.o,MY.o,BX.o,Iv.o];rfl);have TA:(es++[((⟨ky%8,ck%4,dd,D2⟩:Nd),(.slice B5 D2.length B8:Value))]).length=i+1:=by rw[ax,hl];rfl
  clear eB eW;go_wp2_with fail;exact ⟨⟨i+1,_,by go_num,by omega,by omega,TA,jl,Zh,jL⟩,by simp[intOf];omega⟩
 have IC:=zh (HE.o i hi hi2 hin)
 by_cases h5:i<n
 ·have i2:decide ((i:Int)<(n:Int))=true:=aD (by omega);have i3:decide ((i:Int)<(most:Int))=false:=aC (by omega);go_wp2_with fail;go_ret;exact ⟨_,es,rfl,HO.o,by rw[JR.o,IC.o],HB.o⟩
 have i2:decide ((i:Int)<(n:Int))=false:=aC (by omega);go_wp2_with fail;go_ret;exact ⟨_,es,rfl,HO.o,by rw[JR.o,IC.o],HB.o⟩
def gH.rd {W:World} {B:Nat} {v:Value} {es:List (Nd×Value)} (h:gH W B v es):mJ W v es:=⟨zr h.row,fun p hp=>(h.dat p hp).rd⟩
def zIT {K:Nat} {g:Gn} {m:Int} (h:∀ i,i<8->(g.m.st i).length<=K) (i:Nat) (hi:i<8):((wE g m).2.m.st i).length<=K:=by
 unfold wE
 split
 ·split
  ·exact h i hi
  exact aq _
 exact aq _
def zNF {b:Nat} {v1 v2 V:World} (hs:v1.heap.size=b) (h:Below b v1 v2) (h2:Below v2.heap.size v2 V):Below b v1 V:=h.trans (h2.mono (by rw[<- hs];exact h.size))
def AcB (W:World) (b:Nat) (kind:Int) (l:Value) (g:Int) (k:Value):Prop:=eu W b #[.int .i64 kind,l,.int .i64 g,k] 141
end Go.Proofs.YtcgfilmmokmdjaaGreat
