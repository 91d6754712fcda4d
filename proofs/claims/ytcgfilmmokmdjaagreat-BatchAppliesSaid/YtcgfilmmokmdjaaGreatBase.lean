import Derived.WalkKit
import Derived.WalkSpells
import Derived.WalkLawsBesides
import Derived.Lib.Hide
import Derived.Laws.AppendOwnNone
import Derived.Laws.CopyRow
import Derived.Laws.Tables
import Derived.Laws.OwnMore
import Derived.OpenShut
import Derived.BigQuiet
import Derived.Deep.QuietTactic
import Derived.Deep.RegionHeld3
set_option linter.all false
namespace Go.Proofs.YtcgfilmmokmdjaaGreat
def _root_.Go.RowKit.Hid.o {p:Prop} (h:Go.RowKit.Hid p):p:=h.out
def ag:type_of% @Nat.le_refl:=@Nat.le_refl
def ah.{u}:type_of% @if_pos.{u}:=@if_pos
def ai.{u}:type_of% @if_neg.{u}:=@if_neg
def aj:type_of% @Go.RowKit.Below.refl:=@Go.RowKit.Below.refl
def ak:type_of% @Nat.le_trans:=@Nat.le_trans
def aq:type_of% @Nat.zero_le:=@Nat.zero_le
def au:type_of% @Go.bodyPost_ret:=@Go.bodyPost_ret
def aw.{u}:type_of% @List.getD_eq_getElem?_getD.{u}:=@List.getD_eq_getElem?_getD
def ax.{u}:type_of% @List.length_append.{u}:=@List.length_append
def ay:type_of% @Go.wpQuiet_nil:=@Go.wpQuiet_nil
def aA.{u}:type_of% @List.getElem?_eq_getElem.{u}:=@List.getElem?_eq_getElem
def aB.{u}:type_of% @List.length_take.{u}:=@List.length_take
def aC:type_of% @decide_eq_false:=@decide_eq_false
def aD:type_of% @decide_eq_true:=@decide_eq_true
def aF:type_of% @Go.IntWalk.i64_in:=@Go.IntWalk.i64_in
def aH.{u,v}:type_of% @List.length_map.{u,v}:=@List.length_map
def aI.{u}:type_of% @List.set_cons_succ.{u}:=@List.set_cons_succ
def aJ.{u}:type_of% @List.setIfInBounds_toArray.{u}:=@List.setIfInBounds_toArray
def aK.{u}:type_of% @List.set_cons_zero.{u}:=@List.set_cons_zero
def aM.{u,v}:type_of% @congrArg.{u,v}:=@congrArg
def aN:type_of% @Nat.zero_add:=@Nat.zero_add
def aO:type_of% @Bool.and_eq_true:=@Bool.and_eq_true
def aP:type_of% @Go.World.ownsRow_nil:=@Go.World.ownsRow_nil
def aQ.{u}:type_of% @Ne.symm.{u}:=@Ne.symm
def aR:type_of% @decide_eq_true_eq:=@decide_eq_true_eq
def aS.{u}:type_of% @List.take_of_length_le.{u}:=@List.take_of_length_le
def aT.{u}:type_of% @List.length_drop.{u}:=@List.length_drop
def aU.{u,v}:type_of% @List.map_append.{u,v}:=@List.map_append
def aV.{u}:type_of% @List.getElem_toArray.{u}:=@List.getElem_toArray
def aW.{u}:type_of% @List.length_cons.{u}:=@List.length_cons
def aX:type_of% @Nat.mul_le_mul_right:=@Nat.mul_le_mul_right
def aY.{u}:type_of% @List.append_assoc.{u}:=@List.append_assoc
def aZ:type_of% @of_decide_eq_true:=@of_decide_eq_true
def a_.{u}:type_of% @List.length_set.{u}:=@List.length_set
def bn.{u}:type_of% @List.getElem_cons_zero.{u}:=@List.getElem_cons_zero
def bp.{u}:type_of% @List.mem_cons.{u}:=@List.mem_cons
def bt.{u}:type_of% @List.not_mem_nil.{u}:=@List.not_mem_nil
def bu:type_of% @or_false:=@or_false
def bw.{u}:type_of% @List.getElem_cons_succ.{u}:=@List.getElem_cons_succ
def bB.{u}:type_of% @Array.getD_eq_getD_getElem?.{u}:=@Array.getD_eq_getD_getElem?
def bC.{u}:type_of% @Option.getD_some.{u}:=@Option.getD_some
def bD:type_of% @Nat.lt_or_ge:=@Nat.lt_or_ge
def bE:type_of% @Nat.add_zero:=@Nat.add_zero
def bH:type_of% @Go.getD_set_ne:=@Go.getD_set_ne
def bI.{u}:type_of% @Array.getElem?_eq_getElem.{u}:=@Array.getElem?_eq_getElem
def bJ:type_of% @Go.wpAnyH_take:=@Go.wpAnyH_take
def bM.{u}:type_of% @List.getElem_mem.{u}:=@List.getElem_mem
def bQ.{u}:type_of% @List.take_length.{u}:=@List.take_length
def bT:type_of% @Nat.le_of_lt:=@Nat.le_of_lt
def bU:type_of% @Bool.true_and:=@Bool.true_and
def bV.{u}:type_of% @List.nil_append.{u}:=@List.nil_append
def bW:type_of% @Go.World.block_lt_of_cell?:=@Go.World.block_lt_of_cell?
def bY:type_of% @Nat.min_eq_left:=@Nat.min_eq_left
def b7.{u}:type_of% @List.take_append_drop.{u}:=@List.take_append_drop
def b_.{u,v}:type_of% @List.getElem?_map.{u,v}:=@List.getElem?_map
def cm:type_of% @Go.World.size_alloc:=@Go.World.size_alloc
def cn.{u,v}:type_of% @List.flatMap_append.{u,v}:=@List.flatMap_append
def cq:type_of% @Go.info_parts:=@Go.info_parts
def ct.{u}:type_of% @List.drop_drop.{u}:=@List.drop_drop
def cu.{u}:type_of% @List.drop_of_length_le.{u}:=@List.drop_of_length_le
def cz.{u}:type_of% @List.append_nil.{u}:=@List.append_nil
def cA:type_of% @Go.World.cell?_setCell_other:=@Go.World.cell?_setCell_other
def cB.{u,v}:type_of% @List.mem_map_of_mem.{u,v}:=@List.mem_map_of_mem
def cC.{u,v}:type_of% @List.flatMap_cons.{u,v}:=@List.flatMap_cons
def cD.{u}:type_of% @List.size_toArray.{u}:=@List.size_toArray
def cE.{u}:type_of% @List.mem_of_mem_take.{u}:=@List.mem_of_mem_take
def cG.{u}:type_of% @List.filter_cons.{u}:=@List.filter_cons
def cH:type_of% @Nat.lt_of_lt_of_le:=@Nat.lt_of_lt_of_le
def cL:type_of% @Int.le_refl:=@Int.le_refl
def cM.{u}:type_of% @beq_iff_eq.{u}:=@beq_iff_eq
def cN:type_of% @of_decide_eq_false:=@of_decide_eq_false
def cO.{u}:type_of% @List.getElem_of_mem.{u}:=@List.getElem_of_mem
def cQ.{u}:type_of% @List.take_add_one.{u}:=@List.take_add_one
def cR.{u}:type_of% @List.getElem?_drop.{u}:=@List.getElem?_drop
def cS:type_of% @Nat.add_assoc:=@Nat.add_assoc
def cT:type_of% @Go.World.ownsRow_made:=@Go.World.ownsRow_made
def cU.{u}:type_of% @List.filter_append.{u}:=@List.filter_append
def cV:type_of% @Nat.succ_mul:=@Nat.succ_mul
def cZ.{u,v}:type_of% @List.foldl_cons.{u,v}:=@List.foldl_cons
def dg:type_of% @Go.DataW.trod_int:=@Go.DataW.trod_int
def dh.{u}:type_of% @List.getElem?_take.{u}:=@List.getElem?_take
def dt:type_of% @Bool.eq_iff_iff:=@Bool.eq_iff_iff
def dw.{u}:type_of% @List.length_replicate.{u}:=@List.length_replicate
def dy:type_of% @Nat.lt_succ_self:=@Nat.lt_succ_self
def dA.{u}:type_of% @List.mem_of_mem_drop.{u}:=@List.mem_of_mem_drop
def dB.{u,v}:type_of% @List.getElem_map.{u,v}:=@List.getElem_map
def dC:type_of% @Bool.false_and:=@Bool.false_and
def dD.{u,v}:type_of% @List.foldl_nil.{u,v}:=@List.foldl_nil
def dE.{u}:type_of% @List.all_eq_true.{u}:=@List.all_eq_true
def dH.{u}:type_of% @List.drop_eq_getElem_cons.{u}:=@List.drop_eq_getElem_cons
def dI.{u}:type_of% @List.take_left'.{u}:=@List.take_left'
def dJ.{u}:type_of% @List.getElem?_set.{u}:=@List.getElem?_set
def dK.{u}:type_of% @List.length_nil.{u}:=@List.length_nil
def dM.{u}:type_of% @List.pairwise_cons.{u}:=@List.pairwise_cons
def dN.{u,v}:type_of% @Option.map_some.{u,v}:=@Option.map_some
def dO:type_of% @Int.natCast_add:=@Int.natCast_add
def dP.{u}:type_of% @List.take_succ_cons.{u}:=@List.take_succ_cons
def dQ.{u,v}:type_of% @List.foldl_append.{u,v}:=@List.foldl_append
def dR:type_of% @Int.toNat_natCast:=@Int.toNat_natCast
def dS:type_of% @List.getElem_range:=@List.getElem_range
def dU:type_of% @Int.eq_ofNat_of_zero_le:=@Int.eq_ofNat_of_zero_le
def dV:type_of% @Int.tmod_eq_emod_of_nonneg:=@Int.tmod_eq_emod_of_nonneg
def dW.{u}:type_of% @Array.getElem?_eq_none.{u}:=@Array.getElem?_eq_none
def dX:type_of% @Nat.and_two_pow_sub_one_eq_mod:=@Nat.and_two_pow_sub_one_eq_mod
def zh {p:Prop} (h:p):RowKit.Hid p:=Lib.hid h
open Go.RowKit
def Rd (w:World) (sz:Nat) (v:Value) (n:Nat) (cs:List Value):Prop:=
 cs.length=n*sz/\∃ a cap,v=.slice a n cap/\n<=cap/\cap<=maxLen/\(a=none->cap=0) /\
  (0<cs.length->∃ b off,a=some ⟨b,off,none⟩/\∀ j u,cs[j]?=some u->w.cell? ⟨b,off+j,none⟩=some u)
def Rd.nil (w:World) (sz:Nat):Rd w sz (.slice none 0 0) 0 []:=⟨by simp,none,0,rfl,ag _,aq _,fun _=>rfl,fun h=>absurd h (by simp)⟩
variable {w w':World} {sz n:Nat} {v:Value} {cs:List Value}
def Rd.mono (h:Rd w sz v n cs) (hk:∀ p u,w.cell? p=some u->w'.cell? p=some u):Rd w' sz v n cs:=by
 obtain ⟨h1,a,cap,h2,h3,h4,h5,h6⟩:=h;refine ⟨h1,a,cap,h2,h3,h4,h5,fun hp=>?_⟩;obtain ⟨b,off,e,hc⟩:=h6 hp;exact ⟨b,off,e,fun j u hj=>hk _ _ (hc j u hj)⟩
def Below.keeps (h:Below w.heap.size w w') (p:Addr) (u:Value) (hp:w.cell? p=some u):w'.cell? p=some u:=
 (h.cell (bW w p hp)).trans hp
def Rd.bb (h:Rd w sz v n cs) (hb:Below w.heap.size w w'):Rd w' sz v n cs:=h.mono (Below.keeps hb)
def Rd.drew {w:World} {sz:Nat} {v:Value} {n:Nat} {cs:List Value} (h:Rd w sz v n cs):Rd w.drew sz v n cs:=h.mono fun _ _ h=>h
def Rd.alloc {w:World} {sz:Nat} {v:Value} {n:Nat} {cs:List Value} (h:Rd w sz v n cs) (o:Obj):Rd (w.alloc o) sz v n cs:=
 h.bb ((aj _ _).alloc (ag _) o)
variable {w0:World}
def zA (h:Below w0.heap.size w0 w) (h':Below w.heap.size w w'):Below w0.heap.size w0 w':=h.trans (h'.mono h.size)
variable {B:Nat}
def k_ (h:Below B w0 w) (hB:B<=w.heap.size) (h':Below w.heap.size w w'):Below B w0 w':=h.trans (h'.mono hB)
variable {base:Nat} {e:TypeId} {xs:List Value}
def zr (h:w.ownsRow base e sz v n xs):Rd w sz v n xs:=by
 refine ⟨h.1,?_⟩;rcases h.2 with ⟨rfl,rfl⟩|⟨g,cap,cur,rfl,hb,hg,hn,hc,hs,ht⟩
 ·exact ⟨none,0,rfl,ag _,aq _,fun _=>rfl,fun hp=>by have:=h.1;omega⟩
 refine ⟨some ⟨g,0,none⟩,cap,rfl,hn,hc,fun h=>by simp at h,fun _=>⟨g,0,rfl,fun j u hj=>?_⟩⟩;rw[aN,cell_of_row w g j cur e (0,0) hg];rw[<- ht,dh] at hj
 split at hj
 ·simpa using hj
 simp at hj
def wQ (P:Program) (t e:TypeId) (sz bytes:Nat):Prop:=
 P.underlying t=some (.slice e)/\0<sz/\∃ i z,P.info? e=some i/\i.zero=some z/\i.size=sz/\i.bytes=bytes/\z.cells.size=sz
def yd (b off j:Nat):(⟨b,off,none⟩:Addr).add j=⟨b,off+j,none⟩:=by unfold Addr.add;split<;>simp_all
variable {P:Program} {t:TypeId} {bytes:Nat}
def zMT (hE:wQ P t e sz bytes) (base:Nat) (ty:TypeId)
  {v:Value} {n:Nat} {xs:List Value} (hown:w.ownsRow base e sz v n xs) {sv:Value} {m:Nat} {news:List Value} (hsrc:Rd w sz sv m news)
  (h1:∀ u∈news,u.oneCell'=true) (h63:n+m<=maxLen) (hbytes:(n+m)*bytes<=140737488355328) (hbase:base<=w.heap.size) :
  ∃ v' w',(Builtin.append_ #[t,t] ty #[v,sv]).run P w=.ok v' w'/\w'.ownsRow base e sz v' (n+m) (xs++news)/\w.grownBy w' v.ownBlock /\
   (v'=.slice none 0 0↔v=.slice none 0 0/\m=0):=by
 obtain ⟨ht,hsz,i,z,hi,hz,hs,hby,hzs⟩:=hE;obtain ⟨hl,a,cap,rfl,hcap,hmax,hnone,hcells⟩:=hsrc
 cases a with
 |none =>
  have hc0:=hnone rfl;have hm0:m=0:=by omega
  subst hc0 hm0;have hn0:news=[]:=List.length_eq_zero_iff.1 (by omega);subst hn0;refine ⟨v,w,run_append_owned_none w base t ty e i sz ht hi v n xs hown,by simpa using hown,⟨rfl,rfl,rfl,ag _,fun _ _ _=>rfl⟩,by simp⟩
 |some p =>
  refine run_append_own w base t ty e i z sz bytes ht hi hz hs hby hzs hsz v n xs hown p m cap news hl ?_ h1 h63 hbytes hbase;intro j u hj;have hp:0<news.length:=by
   have:=(List.getElem?_eq_some_iff.1 hj).1;omega
  obtain ⟨b,off,e1,hc⟩:=hcells hp;obtain rfl:=Option.some.inj e1;rw[yd];exact hc j u hj
def ZH {o:Oper} {a:Act} {K:Act->World->Prop} {Q:Exit->Act->World->Prop} (s x:Operand) (t:TypeId)
  (ho:o.op=.call {callee:=.builtin .append,args:=#[s,x],argTypes:=#[t,t]})
  {e:TypeId} {sz bytes:Nat} (hE:wQ P t e sz bytes) (base:Nat)
  {v:Value} {n:Nat} {xs:List Value} (hs:a.eval s=v) (hown:w.ownsRow base e sz v n xs) {sv:Value} {m:Nat} {news:List Value} (hx:a.eval x=sv) (hsrc:Rd w sz sv m news)
  (h1:∀ u∈news,u.oneCell'=true) (h63:n+m<=maxLen) (hbytes:(n+m)*bytes<=140737488355328) (hbase:base<=w.heap.size)
  (h:∀ v' w',w'.ownsRow base e sz v' (n+m) (xs++news)->w.grownBy w' v.ownBlock->(v'=.slice none 0 0↔v=.slice none 0 0/\m=0)->K (a.put o.dst v') w'):o.wp P a w K Q:=by
 obtain ⟨v',w',hrun,r1,r2,r3⟩:=zMT (P:=P) hE base o.type hown hsrc h1 h63 hbytes hbase;unfold Oper.wp;simp[execOp,ho,resolve,invoke,builtin,hs,hx,hrun,Result.andThen];exact h v' w' r1 r2 r3
def zP {ops:Array Oper} {rest:List Oper} {o:Oper} {a:Act} {Q:Exit->Act->World->Prop} (hgd:o.guard=none) (s x:Operand) (t:TypeId)
  (ho:o.op=.call {callee:=.builtin .append,args:=#[s,x],argTypes:=#[t,t]})
  {e:TypeId} {sz bytes:Nat} (hE:wQ P t e sz bytes) (base:Nat)
  {v:Value} {n:Nat} {xs:List Value} (hs:a.eval s=v) (hown:w.ownsRow base e sz v n xs) {sv:Value} {m:Nat} {news:List Value} (hx:a.eval x=sv) (hsrc:Rd w sz sv m news)
  (h1:∀ u∈news,u.oneCell'=true) (h63:n+m<=maxLen) (hbytes:(n+m)*bytes<=140737488355328) (hbase:base<=w.heap.size)
  (h:∀ v' w',w'.ownsRow base e sz v' (n+m) (xs++news)->w.grownBy w' v.ownBlock->(v'=.slice none 0 0↔v=.slice none 0 0/\m=0)->wpList P ops Q rest (a.put o.dst v') w'):wpList P ops Q (o::rest) a w:=
 wpList_plain hgd fun _ hK=>ZH s x t ho hE base hs hown hx hsrc h1 h63 hbytes hbase fun v' w' h2 h3 h4=>hK _ _ (h v' w' h2 h3 h4)
def wP {ops:Array Oper} {o:Oper} {a:Act} {K:Act->World->Prop} {Q:Exit->Act->World->Prop} {E:Prop} (hgd:o.guard=none) (s x:Operand) (t:TypeId)
  (ho:o.op=.call {callee:=.builtin .append,args:=#[s,x],argTypes:=#[t,t]})
  {e:TypeId} {sz bytes:Nat} (hE:wQ P t e sz bytes) (base:Nat)
  {v:Value} {n:Nat} {xs:List Value} (hs:a.eval s=v) (hown:w.ownsRow base e sz v n xs) {sv:Value} {m:Nat} {news:List Value} (hx:a.eval x=sv) (hsrc:Rd w sz sv m news)
  (h1:∀ u∈news,u.oneCell'=true) (h63:n+m<=maxLen) (hbytes:(n+m)*bytes<=140737488355328) (hbase:base<=w.heap.size)
  (h:∀ v' w',w'.ownsRow base e sz v' (n+m) (xs++news)->w.grownBy w' v.ownBlock->(v'=.slice none 0 0↔v=.slice none 0 0/\m=0)->K (a.put o.dst v') w') :
  if Region.wanted o (yielded ops a.tmps)=true then Oper.wp P o a w K Q else E:=by
 have hw:Region.wanted o (yielded ops a.tmps)=true:=by simp[Region.wanted,hgd]
 rw[ah hw];exact ZH s x t ho hE base hs hown hx hsrc h1 h63 hbytes hbase h
def Rd.new (w:World) (sz:Nat) (cs:List Value) (e:TypeId) (n:Nat) (hn:cs.length=n*sz) (hm:n<=maxLen):Rd (w.alloc (.cells cs.toArray e)) sz (.slice (some ⟨w.heap.size,0,none⟩) n n) n cs:=by
 refine ⟨hn,_,n,rfl,ag _,hm,fun h=>by simp at h,fun _=>⟨w.heap.size,0,rfl,fun j u hj=>?_⟩⟩;rw[aN,cell_of_row _ _ j cs.toArray e (0,0) (heap_alloc_new w _)]
 simpa using hj
def zK (h:Below B w0 w) (hown:w.ownsRow B e sz v n xs) (hB:B<=w.heap.size) (hg:w.grownBy w' v.ownBlock):Below B w0 w':=
 h.grown hg hB fun k hk=>(hown.lt k hk).1
def below_drewN {a:World} (h:Below B a w) (n:Nat):Below B a (w.drewN n):=h.trans ⟨rfl,rfl,rfl,ag _,fun _ _=>rfl⟩
def zV {a:World} (h:Below B a w):Below B a w.drew:=h.trans ⟨rfl,rfl,rfl,ag _,fun _ _=>rfl⟩
structure eD (w:World) where
 w':World
 h:Below w.heap.size w w'
instance (w:World):Inhabited (eD w):=⟨⟨w,aj _ _⟩⟩
def zD {id:Nat} {Q:Exit->Act->World->Prop} {a:Act} {l:List Oper} (hm:P.follows .mixedOrders=true) (hB:Region.lexB .any l.toArray=true)
  (h:wpQuiet P l.toArray (fun w'=>∃ p:eD w,w'=p.w') (fun a'=>∀ w',(∃ p:eD w,w'=p.w')->Q .normal a' w') l a):(Code.region id l.toArray true).wp P Q a w:=
 wp_region_quiet (C:=fun w'=>∃ p:eD w,w'=p.w') hm hB ⟨⟨w.drew,⟨rfl,rfl,rfl,ag _,fun _ _=>rfl⟩⟩,rfl⟩ (by simpa using h)
def zB {p:Addr} {u:Value} (h:w.cell? p=some u) (q:eD w):q.w'.cell? p=some u:=Below.keeps q.h _ _ h
def zH {f:FuncId} {args:Array Value} {q:eD w}
  (h:Calls P f args q.w' fun e w'=>e=.returned v/\Below q.w'.heap.size q.w' w'):Calls P f args q.w' fun e w''=>e=.returned v/\∃ p:eD w,w''=p.w':=
 h.mono fun _ w'' ⟨he,hb⟩=>⟨he,⟨w'',zA q.h hb⟩,rfl⟩
/-! ### ZI of a slice -/
def vE (hE:wQ P t e sz bytes):P.underlying t=some (.slice (P.elem t))/\∀ W,(sizeOf (P.elem t)).run P W=.ok sz W:=by
 obtain ⟨ht,_,i,z,hi,hz,hs,_⟩:=hE;have he:P.elem t=e:=by simp[Program.elem,ht]
 rw[he];refine ⟨ht,fun W=>?_⟩;simp[sizeOf,typeInfo,hi,hs]
variable {cap:Nat} {a:Option Addr}
def Uk {m:Nat} (h:Rd w sz (.slice a n cap) m cs) (l hi:Nat) (h1:l<=hi) (h2:hi<=n) :
  Rd w sz (sliced a l hi cap sz) (hi-l) ((cs.drop (l*sz)).take ((hi-l)*sz)):=by
 obtain ⟨h0,a',cap',e,h3,h4,h5,h6⟩:=h;injection e with e1 e2 e3;subst e1 e2 e3;have hlen:((cs.drop (l*sz)).take ((hi-l)*sz)).length=(hi-l)*sz:=by
  rw[aB,aT,h0,<- Nat.sub_mul];exact bY (aX _ (by omega))
 refine ⟨hlen,_,_,rfl,by omega,by omega,fun hn=>?_,fun hp=>?_⟩
 ·by_cases e:cap=l
  ·omega
  rw[ai e] at hn
  cases a with
  |none=>have:=h5 rfl;omega
  |some x=>simp at hn
 have hpc:0<cs.length:=by
  have:0<(cs.drop (l*sz)).length:=by
   rw[aB] at hp;omega
  rw[aT] at this;omega
 obtain ⟨b,off,e,hc⟩:=h6 hpc;subst e;have hlt:l<cap:=by
  by_cases e:hi=l
  ·subst e;simp at hp
  omega
 refine ⟨b,off+l*sz,?_,fun j u hj=>?_⟩
 ·rw[ai (by omega)];simp[yd]
 rw[dh] at hj
 split at hj
 ·rw[cR] at hj;have:=hc _ _ hj
  rwa [<- cS] at this
 cases hj
def zEE {k d:Nat}:∀ x,(if cap=k then a else a.map (·.add d))=some x->∃ y,a=some y/\y.block=x.block:=by
 intro x hx
 split at hx
 ·exact ⟨x,hx,rfl⟩
 cases a with
 |none=>cases hx
 |some y =>
  simp at hx;subst hx;exact ⟨y,rfl,by unfold Addr.add;split<;>rfl⟩
def Rd.grown {m:Nat} {row:Option Nat} (h:Rd w sz (.slice a n cap) m cs) (hg:w.grownBy w' row) (hne:∀ x,a=some x->some x.block≠row):Rd w' sz (.slice a n cap) m cs:=by
 obtain ⟨h0,a',cap',e,h3,h4,h5,h6⟩:=h;refine ⟨h0,a',cap',e,h3,h4,h5,fun hp=>?_⟩;obtain ⟨b,off,e2,hc⟩:=h6 hp;injection e with e1;exact ⟨b,off,e2,fun j u hj=>hg.cell (hc j u hj) (hne ⟨b,off,none⟩ (e1.trans e2))⟩
def vO (hE:wQ P t e sz bytes) {w:World} {n cap m:Nat} {a:Option Addr} {cs:List Value} (h:Rd w sz (.slice a n cap) m cs) (k:Nat) (hk:k<=n) :
  ∃ a' c',(∀ W kl,(Instr.slice t (.slice a n cap) (some (.int kl (k:Int))) none none).run P W=.ok (.slice a' (n-k) c') W)/\Rd w sz (.slice a' (n-k) c') (n-k) (cs.drop (k*sz))/\∀ x,a'=some x->∃ y,a=some y/\y.block=x.block:=by
 obtain ⟨h1,h2⟩:=vE hE;refine ⟨if cap=k then a else a.map (·.add (k*sz)),cap-k,fun W kl=>?_,?_,zEE⟩
 ·rw[run_slice_l W t a n cap h1 kl (k:Int) (by omega) (by omega),h2];simp[Result.andThen,sliced]
 have hl:=Uk h k n hk (ag _);have e:(cs.drop (k*sz)).take ((n-k)*sz)=cs.drop (k*sz):=by
  refine aS ?_;have h0:=h.1;obtain ⟨_,_,e,_⟩:=h.2;injection e with _ e2 _;rw[aT,h0,<- e2,<- Nat.sub_mul];exact ag _
 rw[e] at hl;exact hl
def xH (hE:wQ P t e sz bytes) {a:Option Addr} {n cap:Nat} (ha:∀ x,a=some x->∃ b off,x=⟨b,off,none⟩) (k:Nat) (hk:k<=cap) :
  ∀ W kh,(Instr.slice t (.slice a n cap) none (some (.int kh (k:Int))) none).run P W=.ok (.slice a k cap) W:=by
 obtain ⟨h1,h2⟩:=vE hE;intro W kh;rw[run_slice_h W t a n cap h1 kh (k:Int) (by omega) (by omega),h2]
 cases a with
 |none=>simp[Result.andThen,sliced]
 |some x =>
  obtain ⟨b,off,rfl⟩:=ha _ rfl;simp[Result.andThen,sliced,yd]
def vY (h:w.ownsRow base e sz (.slice a n cap) n xs) (k:Nat) (hk:k<=n):w.ownsRow base e sz (.slice a k cap) k (xs.take (k*sz)):=by
 have hl:(xs.take (k*sz)).length=k*sz:=by
  rw[aB,h.1];exact bY (aX _ hk)
 refine ⟨hl,?_⟩;rcases h.2 with ⟨e1,e2⟩|⟨g,cap',cur,e1,h2,h3,h4,h5,h6,h7⟩
 ·injection e1 with e3 e4 e5;subst e3 e4 e5;exact .inl ⟨by rw[Nat.le_zero.1 hk],Nat.le_zero.1 hk⟩
 injection e1 with e3 e4 e5;subst e3 e5;refine .inr ⟨g,cap,cur,rfl,h2,h3,by omega,h5,h6,?_⟩;rw[<- h7,List.take_take,bY (aX _ hk)]
def zG (h:w.ownsRow base e sz v n xs):∃ a cap,v=.slice a n cap/\n<=cap/\cap<=maxLen/\∀ x,a=some x->∃ b off,x=⟨b,off,none⟩:=by
 rcases h.2 with ⟨e1,e2⟩|⟨g,cap',cur,e1,h2,h3,h4,h5,h6,h7⟩
 ·subst e1 e2;exact ⟨none,0,rfl,ag _,by decide,fun x h=>by cases h⟩
 exact ⟨_,_,e1,h4,h5,fun x h=>by cases h;exact ⟨_,_,rfl⟩⟩
/-! ### FP of one cell -/
def il {α:Type} (f:α->Value) (w:World) (v:Value) (l:List α):Prop:=Rd w 1 v l.length (l.map f)
section
variable {α:Type} {f:α->Value} {w w':World} {v:Value} {l:List α}
def il.bb (h:il f w v l) (hb:Below w.heap.size w w'):il f w' v l:=Rd.bb h hb
def il.alloc (h:il f w v l) (o:Obj):il f (w.alloc o) v l:=Rd.alloc h o
def il.shape (h:il f w v l) (d:α):∃ a cap,v=.slice a l.length cap/\l.length<=cap/\cap<=maxLen/\(a=none->cap=0) /\
  (0<l.length->∃ b off,a=some ⟨b,off,none⟩/\∀ j,j<l.length->w.cell? ⟨b,off+j,none⟩=some (f (l.getD j d))):=by
 obtain ⟨_,a,cap,h2,h3,h4,h5,h6⟩:=h;refine ⟨a,cap,h2,h3,h4,h5,fun hp=>?_⟩;obtain ⟨b,off,e,hc⟩:=h6 (by rw[aH];exact hp);refine ⟨b,off,e,fun j hj=>hc j _ ?_⟩;simp[aA hj]
def il.take {a:Option Addr} {n cap:Nat} (h:il f w (.slice a n cap) l) (k:Nat) (hk:k<=n):il f w (.slice a k cap) (l.take k):=by
 obtain ⟨h0,a',cap',e,h1,h2,h3,h4⟩:=h;injection e with e1 e2 e3;subst e1 e2 e3;have hl:(l.take k).length=k:=by rw[aB];omega
 unfold il;rw[hl];refine ⟨by rw[aH,hl,Nat.mul_one],_,_,rfl,by omega,h2,h3,fun hp=>?_⟩;obtain ⟨b,off,e,hc⟩:=h4 (by rw[aH,hl] at hp;rw[aH];omega);refine ⟨b,off,e,fun j u hj=>hc j u ?_⟩;rw[List.map_take,dh] at hj
 split at hj
 ·exact hj
 simp at hj
def vR {base:Nat} {e:TypeId} {n:Nat} (h:w.ownsRow base e 1 v n (l.map f)):il f w v l:=by
 have hl:l.length=n:=by have:=h.1;simpa using this
 unfold il;rw[hl];exact zr h
end
def il.spot {α:Type} {f:α->Value} {l:List α} (h:il f w (.slice a n cap) l) (hn:0<n):∀ x,a=some x->∃ b off,x=⟨b,off,none⟩:=by
 obtain ⟨h0,a',cap',e,_,_,_,h5⟩:=h;injection e with e1 e2 e3;intro x hx;obtain ⟨b,off,e4,_⟩:=h5 (by rw[aH];omega);exact ⟨b,off,Option.some.inj (hx.symm.trans (e1.trans e4))⟩
def ZJ {α:Type} (sz:Nat) (f:α->List Value):∀ (l:List α),(∀ x,(f x).length=sz)->∀ k,(l.take k).flatMap f=(l.flatMap f).take (k*sz)
 |[],_,k=>by simp
 |x::r,h,0=>by simp
 |x::r,h,k+1=>by
  rw[dP,cC,cC,ZJ sz f r h k,List.take_append,h x,cV,Nat.add_sub_cancel];rw[aS (l:=f x) (by rw[h x];omega)]
def ZK {α:Type} (sz:Nat) (f:α->List Value):∀ (l:List α),(∀ x,(f x).length=sz)->∀ k,(l.drop k).flatMap f=(l.flatMap f).drop (k*sz)
 |[],_,k=>by simp
 |x::r,h,0=>by simp
 |x::r,h,k+1=>by
  rw[List.drop_succ_cons,cC,ZK sz f r h k,List.drop_append,h x,cV,Nat.add_sub_cancel];rw[List.drop_eq_nil_of_le (as:=f x) (by rw[h x];omega),bV]
def grown_of (h:Below w.heap.size w w'):w.grownBy w' none:=⟨h.os,h.tape,h.output,h.size,fun k hk _=>h.block k hk⟩
def zE (h:w.ownsRow base e sz v n xs) (hb:Below w.heap.size w w'):w'.ownsRow base e sz v n xs:=
 h.kept (grown_of hb) (by cases v.ownBlock<;>simp)
def qX {g:Nat} (h:w.ownsRow base e sz (.slice (some ⟨g,0,none⟩) n cap) n xs) (o:Nat) (vs:List Value) (ho:o+vs.length<=n*sz) (h1:∀ v∈vs,v.oneCell'=true) :
  ∃ w',(storeCells ⟨g,o,none⟩ vs 0).run P w=.ok () w'/\w'.ownsRow base e sz (.slice (some ⟨g,0,none⟩) n cap) n (xs.take o++vs++xs.drop (o+vs.length))/\w.grownBy w' (some g):=by
 have hx:=h.1;rcases h.2 with ⟨h',_⟩|⟨g',cap',cur,h',hb,hg,hnc,hcm,hcs,lQ⟩
 ·cases h'
 injection h' with h' _ h'';injection h' with h';injection h' with h' _;subst h' h'';have hN:n*sz<=cur.size:=by rw[hcs];exact aX _ hnc
 have hrun:=run_storeCells_at (P:=P) g o e vs 0 cur w hg (by omega) h1;rw[bE] at hrun;refine ⟨_,hrun,⟨?_,.inr ⟨g,cap,_,rfl,hb,setRow_heap w g cur _ e (0,0) hg,hnc,hcm,?_,?_⟩⟩,⟨rfl,rfl,rfl,by simp,fun k _ hk=>setRow_other w g k _ (fun e=>hk (by rw[e]))⟩⟩
 ·simp only[ax,aB,aT,hx];omega
 ·simp only[cD,ax,aB,aT,Array.length_toList];omega
 have e1:xs.take o=cur.toList.take o:=by rw[<- lQ,List.take_take,bY (by omega)]
 have e2:xs.drop (o+vs.length)=(cur.toList.drop (o+vs.length)).take (n*sz-(o+vs.length)):=by rw[<- lQ,List.drop_take]
 rw[e1,e2];have l1:(cur.toList.take o++vs).length=o+vs.length:=by rw[ax,aB,Array.length_toList];omega
 rw[List.take_append,aS (l:=cur.toList.take o++vs) (by rw[l1];exact ho),l1]
/-! ### FP of several cells -/
def jy {α:Type} (sz:Nat) (f:α->List Value) (w:World) (v:Value) (l:List α):Prop:=(∀ x∈l,(f x).length=sz)/\Rd w sz v l.length (l.flatMap f)
def ye {α:Type} (sz:Nat) (f:α->List Value):∀ (l:List α),(∀ x∈l,(f x).length=sz)->(l.flatMap f).length=l.length*sz
 |[],_=>by simp
 |x::r,h=>by
  rw[cC,ax,h x (by simp),ye sz f r (fun y hy=>h y (by simp[hy])),aW,cV,Nat.add_comm]
def uh {α:Type} (sz:Nat) (f:α->List Value) (d:α):∀ (l:List α),(∀ x∈l,(f x).length=sz)->∀ j i,j<l.length->i<sz->(l.flatMap f)[j*sz+i]?=(f (l.getD j d))[i]?
 |[],_,_,_,h,_=>absurd h (by simp)
 |x::r,h,0,i,_,hi=>by
  rw[cC,Nat.zero_mul,aN,List.getElem?_append_left (by rw[h x (by simp)];exact hi)];rfl
 |x::r,h,j+1,i,hj,hi=>by
  rw[cC,List.getElem?_append_right (by rw[h x (by simp),cV];omega),h x (by simp)];have e:(j+1)*sz+i-sz=j*sz+i:=by rw[cV];omega
  rw[e,uh sz f d r (fun y hy=>h y (by simp[hy])) j i (by simpa using hj) hi];rfl
section
variable {α:Type} {sz:Nat} {f:α->List Value} {w w':World} {v:Value} {l:List α}
def jy.bb (h:jy sz f w v l) (hb:Below w.heap.size w w'):jy sz f w' v l:=⟨h.1,Rd.bb h.2 hb⟩
def jy.nil (sz:Nat) (f:α->List Value) (w:World):jy sz f w (.slice none 0 0) []:=⟨fun _ h=>(by cases h),Rd.nil w sz⟩
def jy.shape (h:jy sz f w v l) (hsz:0<sz) (d:α):∃ a cap,v=.slice a l.length cap/\l.length<=cap/\cap<=maxLen/\(a=none->cap=0) /\
  (0<l.length->∃ b off,a=some ⟨b,off,none⟩/\∀ j,j<l.length->∀ i u,(f (l.getD j d))[i]?=some u->w.cell? ⟨b,off+(j*sz+i),none⟩=some u):=by
 obtain ⟨hf,_,a,cap,h2,h3,h4,h5,h6⟩:=h;refine ⟨a,cap,h2,h3,h4,h5,fun hp=>?_⟩;have hlen:=ye sz f l hf;obtain ⟨b,off,e,hc⟩:=h6 (by rw[hlen];exact Nat.mul_pos hp hsz);refine ⟨b,off,e,fun j hj i u hu=>hc (j*sz+i) u ?_⟩;have hm:l.getD j d∈l:=by
  rw[aw,aA hj];exact bM hj
 have hi:i<sz:=by
  have:=(List.getElem?_eq_some_iff.1 hu).1
  rwa [hf _ hm] at this
 rw[uh sz f d l hf j i hj hi];exact hu
def jy.take {a:Option Addr} {n cap:Nat} (h:jy sz f w (.slice a n cap) l) (k:Nat) (hk:k<=n):jy sz f w (.slice a k cap) (l.take k):=by
 obtain ⟨hf,h0,a',cap',e,h1,h2,h3,h4⟩:=h;injection e with e1 e2 e3;subst e1 e2 e3;have hl:(l.take k).length=k:=by rw[aB];omega
 have hf':∀ x∈l.take k,(f x).length=sz:=fun x hx=>hf x (cE hx)
 refine ⟨hf',?_⟩;rw[hl];have hlen:=ye sz f _ hf';rw[hl] at hlen;have FQ:l.flatMap f=(l.take k).flatMap f++(l.drop k).flatMap f:=by rw[<- cn,b7]
 refine ⟨hlen,_,_,rfl,by omega,h2,h3,fun hp=>?_⟩;obtain ⟨b,off,e,hc⟩:=h4 (by rw[FQ,ax];omega);refine ⟨b,off,e,fun j u hj=>hc j u ?_⟩;rw[FQ,List.getElem?_append_left (List.getElem?_eq_some_iff.1 hj).1];exact hj
def Ul {base:Nat} {e:TypeId} {n:Nat} (hf:∀ x∈l,(f x).length=sz) (hsz:0<sz) (h:w.ownsRow base e sz v n (l.flatMap f)):jy sz f w v l:=by
 have hl:l.length=n:=by
  have:=h.1;rw[ye sz f l hf] at this;exact Nat.eq_of_mul_eq_mul_right hsz this
 refine ⟨hf,?_⟩;rw[hl];exact zr h
end
/-! ### Bytes and integers -/
abbrev yy (c:UInt8):Value:=.int .u8 (c.toNat:Int)
abbrev ll (w:World) (v:Value) (l:List UInt8):Prop:=il yy w v l
def zMX {α:Type} (f:α->Value) (h:∀ x,(f x).oneCell'=true) (l:List α):∀ u∈l.map f,u.oneCell'=true:=by
 intro u hu;obtain ⟨c,_,rfl⟩:=List.mem_map.1 hu;exact h c
def xJ (l:List UInt8):∀ u∈l.map yy,u.oneCell'=true:=zMX _ (fun _=>rfl) l
def zCy {l:List UInt8} (src dst e:TypeId) (hs:P.underlying src=some (.slice e)) (he:P.underlying e=some (.int .u8)) (hd:P.underlying dst=some .string)
  (h:ll w v l):(convert src dst v).run P w=.ok (.string ⟨l.toArray⟩) w:=by
 obtain ⟨a,cap,rfl,h3,h4,h5,h6⟩:=h.shape 0
 cases a with
 |none =>
  have h0:l=[]:=List.length_eq_zero_iff.1 (by have:=h5 rfl;omega);subst h0;exact run_convert_bytes_nil w src e hs he _ _ dst hd
 |some p =>
  refine run_convert_bytes_back w src dst e p cap l hs he hd ?_;intro j hj;obtain ⟨b,off,e1,hc⟩:=h6 (by omega);obtain rfl:=Option.some.inj e1;rw[yd,hc j hj];simp[aA hj]
def Um (k:IntKind) (w:World) (a:Option Addr) (len cap:Nat) (zs:List Int):Prop:=
 (a=none/\len=0/\cap=0/\zs=[]) ∨
 ∃ x,a=some x/\len<=cap/\cap<=maxLen/\zs.length=cap/\(∀ i,i<zs.length->w.cell? (x.add i)=some (.int k (zs.getD i 0)))/\∀ n∈zs,(Lit.int k n).wf=true
variable {k:IntKind} {len:Nat} {zs:List Int}
def Un (h:Um k w a len cap zs) :
  (zs.take len).length=len/\Rd w 1 (.slice a len cap) len ((zs.take len).map (Value.int k)):=by
 rcases h with ⟨rfl,rfl,rfl,rfl⟩|⟨x,rfl,h1,h2,h3,h4,_⟩
 ·exact ⟨rfl,Rd.nil w 1⟩
 have hl:(zs.take len).length=len:=by rw[aB];omega
 refine ⟨hl,by rw[aH,hl,Nat.mul_one],some x,cap,rfl,h1,h2,fun h=>by simp at h,fun hp=>?_⟩;have hp':0<zs.length:=by simp at hp;omega
 obtain ⟨b,off,rfl,hc⟩:=ints_at h4 hp';refine ⟨b,off,rfl,fun j u hj=>?_⟩;rw[b_] at hj;obtain ⟨z,hz,rfl⟩:=Option.map_eq_some_iff.1 hj;rw[dh] at hz
 split at hz
 ·have hj2:j<zs.length:=(List.getElem?_eq_some_iff.1 hz).1;rw[hc j hj2,aw,hz];rfl
 simp at hz
def zKv (h:Um k w a len cap zs):∀ n∈zs,(Lit.int k n).wf=true:=by
 rcases h with ⟨_,_,_,rfl⟩|⟨_,_,_,_,_,_,h6⟩
 ·intro n hn;cases hn
 exact h6
def zFQ (h:Um .u8 w a len cap zs):∃ l:List UInt8,l.length=len/\ll w (.slice a len cap) l:=by
 obtain ⟨h1,h2⟩:=Un h;have hw:=zKv h;refine ⟨(zs.take len).map fun z=>UInt8.ofNat z.toNat,by simpa using h1,?_⟩;unfold ll il;rw[aH,h1];have e:(((zs.take len).map fun z=>UInt8.ofNat z.toNat).map yy)=(zs.take len).map (Value.int .u8):=by
  rw[List.map_map];refine List.map_congr_left fun z hz=>?_
  have hb:=Go.bounds_u8 (hw z (cE hz));simp only[Function.comp,yy]
  congr 1
  rw[UInt8.toNat_ofNat'];omega
 rw[e];exact h2
def kK {a:Int} (h:(Lit.int .u64 a).wf=true):0<=a/\a<=18446744073709551615:=by
 simp[Lit.wf,IntKind.min,IntKind.max,IntKind.signed,IntKind.bits] at h;omega
def kO {a:Int} (h:(Lit.int .u32 a).wf=true):0<=a/\a<=4294967295:=by
 simp[Lit.wf,IntKind.min,IntKind.max,IntKind.signed,IntKind.bits] at h;omega
def xe {a b:Int} (h:a=b):Ending.returned (.int k a)=.returned (.int k b):=by rw[h]
def ZL {n:Int} {a b:Bool} (h:a=b):Ending.returned (.tuple #[.int k n,.bool a])=.returned (.tuple #[.int k n,.bool b]):=by rw[h]
def zJ {a b:Bool} (h:a=b):Ending.returned (.bool a)=.returned (.bool b):=by rw[h]
end Go.Proofs.YtcgfilmmokmdjaaGreat
