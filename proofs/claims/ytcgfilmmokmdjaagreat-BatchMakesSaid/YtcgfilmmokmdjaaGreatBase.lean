import Derived.WalkKit
import Derived.WalkSpells
import Derived.WalkLawsBesides
import Derived.Lib.Hide
import Derived.Laws.AppendOwnNone
import Derived.Laws.CopyRow
import Derived.Laws.Tables
import Derived.Laws.OwnMore
import Derived.OpenShut
import Derived.BigQuiet
import Derived.Deep.QuietTactic
import Derived.Deep.RegionHeld3
set_option linter.all false
namespace Go.Proofs.YtcgfilmmokmdjaaGreat
theorem ag:type_of% @Nat.le_refl:=@Nat.le_refl
theorem ah.{u}:type_of% @if_pos.{u}:=@if_pos
theorem ai.{u}:type_of% @if_neg.{u}:=@if_neg
theorem aj:type_of% @Go.RowKit.Below.refl:=@Go.RowKit.Below.refl
theorem ak:type_of% @Nat.le_trans:=@Nat.le_trans
theorem aq:type_of% @Nat.zero_le:=@Nat.zero_le
theorem au:type_of% @Go.bodyPost_ret:=@Go.bodyPost_ret
theorem aw.{u}:type_of% @List.length_append.{u}:=@List.length_append
theorem ax.{u}:type_of% @List.getD_eq_getElem?_getD.{u}:=@List.getD_eq_getElem?_getD
theorem ay.{u}:type_of% @List.length_take.{u}:=@List.length_take
theorem aA:type_of% @Go.wpQuiet_nil:=@Go.wpQuiet_nil
theorem aB.{u}:type_of% @List.getElem?_eq_getElem.{u}:=@List.getElem?_eq_getElem
theorem aC:type_of% @decide_eq_true:=@decide_eq_true
theorem aD:type_of% @decide_eq_false:=@decide_eq_false
theorem aF:type_of% @Go.IntWalk.i64_in:=@Go.IntWalk.i64_in
theorem aH.{u,v}:type_of% @List.length_map.{u,v}:=@List.length_map
theorem aI:type_of% @Nat.zero_add:=@Nat.zero_add
theorem aJ.{u}:type_of% @List.set_cons_succ.{u}:=@List.set_cons_succ
theorem aK.{u}:type_of% @List.setIfInBounds_toArray.{u}:=@List.setIfInBounds_toArray
theorem aM.{u}:type_of% @List.set_cons_zero.{u}:=@List.set_cons_zero
theorem aN:type_of% @Bool.and_eq_true:=@Bool.and_eq_true
theorem aO.{u,v}:type_of% @congrArg.{u,v}:=@congrArg
theorem aP.{u}:type_of% @List.length_drop.{u}:=@List.length_drop
theorem aQ.{u}:type_of% @Ne.symm.{u}:=@Ne.symm
theorem aR:type_of% @decide_eq_true_eq:=@decide_eq_true_eq
theorem aS.{u}:type_of% @List.take_of_length_le.{u}:=@List.take_of_length_le
theorem aT:type_of% @Go.World.ownsRow_nil:=@Go.World.ownsRow_nil
theorem aU.{u}:type_of% @List.getElem_toArray.{u}:=@List.getElem_toArray
theorem aV.{u}:type_of% @List.length_cons.{u}:=@List.length_cons
theorem aW:type_of% @Nat.mul_le_mul_right:=@Nat.mul_le_mul_right
theorem aX.{u}:type_of% @List.mem_cons.{u}:=@List.mem_cons
theorem aY.{u}:type_of% @List.not_mem_nil.{u}:=@List.not_mem_nil
theorem aZ:type_of% @or_false:=@or_false
theorem a_.{u}:type_of% @List.length_set.{u}:=@List.length_set
theorem bn:type_of% @of_decide_eq_true:=@of_decide_eq_true
theorem bp.{u}:type_of% @List.getElem_cons_zero.{u}:=@List.getElem_cons_zero
theorem bt.{u}:type_of% @List.append_assoc.{u}:=@List.append_assoc
theorem bu.{u}:type_of% @List.getElem_cons_succ.{u}:=@List.getElem_cons_succ
theorem bw.{u}:type_of% @Array.getD_eq_getD_getElem?.{u}:=@Array.getD_eq_getD_getElem?
theorem bB:type_of% @Nat.add_zero:=@Nat.add_zero
theorem bC.{u}:type_of% @Option.getD_some.{u}:=@Option.getD_some
theorem bD.{u,v}:type_of% @List.map_append.{u,v}:=@List.map_append
theorem bE:type_of% @Nat.lt_or_ge:=@Nat.lt_or_ge
theorem bH:type_of% @Go.DataW.trod_int:=@Go.DataW.trod_int
theorem bI.{u}:type_of% @List.getElem_mem.{u}:=@List.getElem_mem
theorem bJ:type_of% @Go.getD_set_ne:=@Go.getD_set_ne
theorem bM.{u}:type_of% @Array.getElem?_eq_getElem.{u}:=@Array.getElem?_eq_getElem
theorem bN:type_of% @Go.wpAnyH_take:=@Go.wpAnyH_take
theorem bQ.{u}:type_of% @List.nil_append.{u}:=@List.nil_append
theorem bT.{u}:type_of% @List.mem_of_mem_take.{u}:=@List.mem_of_mem_take
theorem bU:type_of% @Nat.le_of_lt:=@Nat.le_of_lt
theorem bV:type_of% @Bool.true_and:=@Bool.true_and
theorem bW:type_of% @Nat.min_eq_left:=@Nat.min_eq_left
theorem bY.{u}:type_of% @List.drop_of_length_le.{u}:=@List.drop_of_length_le
theorem bZ.{u}:type_of% @List.append_nil.{u}:=@List.append_nil
theorem b7.{u,v}:type_of% @List.flatMap_append.{u,v}:=@List.flatMap_append
theorem b9.{u}:type_of% @List.take_append_drop.{u}:=@List.take_append_drop
theorem b_.{u,v}:type_of% @List.getElem?_map.{u,v}:=@List.getElem?_map
theorem cm:type_of% @Go.info_parts:=@Go.info_parts
theorem cn.{u}:type_of% @List.drop_drop.{u}:=@List.drop_drop
theorem cq:type_of% @Nat.add_mul:=@Nat.add_mul
theorem ct.{u,v}:type_of% @List.flatMap_cons.{u,v}:=@List.flatMap_cons
theorem cu.{u}:type_of% @List.size_toArray.{u}:=@List.size_toArray
theorem cz:type_of% @Go.World.cell?_setCell_other:=@Go.World.cell?_setCell_other
theorem cA:type_of% @Go.World.block_lt_of_cell?:=@Go.World.block_lt_of_cell?
theorem cB.{u}:type_of% @List.take_length.{u}:=@List.take_length
theorem cC.{u}:type_of% @List.filter_cons.{u}:=@List.filter_cons
theorem cD:type_of% @Int.le_refl:=@Int.le_refl
theorem cE.{u}:type_of% @beq_iff_eq.{u}:=@beq_iff_eq
theorem cG.{u}:type_of% @List.getElem_of_mem.{u}:=@List.getElem_of_mem
theorem cH.{u}:type_of% @List.getElem?_take.{u}:=@List.getElem?_take
theorem cI:type_of% @Go.World.ownsRow_made:=@Go.World.ownsRow_made
theorem cL.{u}:type_of% @List.take_left'.{u}:=@List.take_left'
theorem cM:type_of% @Nat.lt_of_lt_of_le:=@Nat.lt_of_lt_of_le
theorem cN.{u}:type_of% @List.mem_of_mem_drop.{u}:=@List.mem_of_mem_drop
theorem cO:type_of% @Go.World.size_alloc:=@Go.World.size_alloc
theorem cQ.{u}:type_of% @List.getElem?_drop.{u}:=@List.getElem?_drop
theorem cR:type_of% @Nat.add_assoc:=@Nat.add_assoc
theorem cS:type_of% @of_decide_eq_false:=@of_decide_eq_false
theorem cT:type_of% @Bool.eq_iff_iff:=@Bool.eq_iff_iff
theorem cU.{u}:type_of% @List.filter_append.{u}:=@List.filter_append
theorem cV.{u}:type_of% @List.take_add_one.{u}:=@List.take_add_one
theorem cZ.{u,v}:type_of% @List.mem_map_of_mem.{u,v}:=@List.mem_map_of_mem
theorem dg:type_of% @Go.heap_alloc_new:=@Go.heap_alloc_new
theorem dh:type_of% @Nat.succ_mul:=@Nat.succ_mul
theorem di:type_of% @Int.natCast_add:=@Int.natCast_add
theorem dt:type_of% @Bool.false_and:=@Bool.false_and
theorem dw.{u}:type_of% @List.take_take.{u}:=@List.take_take
theorem dy.{u}:type_of% @List.all_eq_true.{u}:=@List.all_eq_true
theorem dA.{u}:type_of% @List.length_replicate.{u}:=@List.length_replicate
theorem dB.{u}:type_of% @List.getElem?_set.{u}:=@List.getElem?_set
theorem dC.{u}:type_of% @List.pairwise_cons.{u}:=@List.pairwise_cons
theorem dD:type_of% @Nat.lt_succ_self:=@Nat.lt_succ_self
theorem dE.{u,v}:type_of% @Option.map_some.{u,v}:=@Option.map_some
theorem dH.{u,v}:type_of% @List.getElem_map.{u,v}:=@List.getElem_map
theorem dI.{u}:type_of% @List.length_nil.{u}:=@List.length_nil
theorem dJ.{u}:type_of% @List.getElem_set.{u}:=@List.getElem_set
theorem dK.{u}:type_of% @List.take_succ_cons.{u}:=@List.take_succ_cons
theorem dM.{u}:type_of% @Array.length_toList.{u}:=@Array.length_toList
theorem dN.{u,v}:type_of% @List.foldl_append.{u,v}:=@List.foldl_append
theorem dO.{u}:type_of% @List.drop_eq_getElem_cons.{u}:=@List.drop_eq_getElem_cons
theorem dP:type_of% @Int.toNat_natCast:=@Int.toNat_natCast
theorem dQ:type_of% @List.getElem_range:=@List.getElem_range
theorem dR:type_of% @Go.DataW.trod_struct:=@Go.DataW.trod_struct
theorem dS.{u}:type_of% @List.getElem?_append_right.{u}:=@List.getElem?_append_right
theorem dU.{u}:type_of% @List.take_append_of_le_length.{u}:=@List.take_append_of_le_length
theorem dV:type_of% @Int.eq_ofNat_of_zero_le:=@Int.eq_ofNat_of_zero_le
theorem dW:type_of% @Nat.and_two_pow_sub_one_eq_mod:=@Nat.and_two_pow_sub_one_eq_mod
theorem dX.{u}:type_of% @List.getElem?_eq_none.{u}:=@List.getElem?_eq_none
theorem zh {p:Prop} (h:p):RowKit.Hid p:=Lib.hid h
open Go.RowKit
def Rd (w:World) (sz:Nat) (v:Value) (n:Nat) (cs:List Value):Prop:=
 cs.length=n*sz∧∃ a cap,v=.slice a n cap∧n≤cap∧cap≤maxLen∧(a=none→cap=0) ∧
  (0<cs.length→∃ b off,a=some ⟨b,off,none⟩∧∀ j u,cs[j]?=some u→w.cell? ⟨b,off+j,none⟩=some u)
theorem Rd.nil (w:World) (sz:Nat):Rd w sz (.slice none 0 0) 0 []:=⟨by simp,none,0,rfl,ag _,aq _,fun _=>rfl,fun h=>absurd h (by simp)⟩
theorem Rd.mono {w w':World} {sz:Nat} {v:Value} {n:Nat} {cs:List Value} (h:Rd w sz v n cs) (hk:∀ p u,w.cell? p=some u→w'.cell? p=some u):Rd w' sz v n cs:=by
 obtain ⟨h1,a,cap,h2,h3,h4,h5,h6⟩:=h;refine ⟨h1,a,cap,h2,h3,h4,h5,fun hp=>?_⟩;obtain ⟨b,off,e,hc⟩:=h6 hp;exact ⟨b,off,e,fun j u hj=>hk _ _ (hc j u hj)⟩
theorem Below.keeps {w w':World} (h:Below w.heap.size w w') (p:Addr) (u:Value) (hp:w.cell? p=some u):w'.cell? p=some u:=
 (h.cell (cA w p hp)).trans hp
theorem Rd.below {w w':World} {sz:Nat} {v:Value} {n:Nat} {cs:List Value} (h:Rd w sz v n cs) (hb:Below w.heap.size w w'):Rd w' sz v n cs:=h.mono (Below.keeps hb)
theorem Rd.drew {w:World} {sz:Nat} {v:Value} {n:Nat} {cs:List Value} (h:Rd w sz v n cs):Rd w.drew sz v n cs:=h.mono fun _ _ h=>h
theorem Rd.alloc {w:World} {sz:Nat} {v:Value} {n:Nat} {cs:List Value} (h:Rd w sz v n cs) (o:Obj):Rd (w.alloc o) sz v n cs:=
 h.below ((aj _ _).alloc (ag _) o)
theorem zA {w0 w w':World} (h:Below w0.heap.size w0 w) (h':Below w.heap.size w w'):Below w0.heap.size w0 w':=h.trans (h'.mono h.size)
theorem jo {B:Nat} {w0 w w':World} (h:Below B w0 w) (hB:B≤w.heap.size) (h':Below w.heap.size w w'):Below B w0 w':=h.trans (h'.mono hB)
theorem zk {w:World} {base:Nat} {e:TypeId} {sz:Nat} {v:Value} {n:Nat} {xs:List Value} (h:w.ownsRow base e sz v n xs):Rd w sz v n xs:=by
 refine ⟨h.1,?_⟩;rcases h.2 with ⟨rfl,rfl⟩|⟨g,cap,cur,rfl,hb,hg,hn,hc,hs,ht⟩
 ·
  exact ⟨none,0,rfl,ag _,aq _,fun _=>rfl,fun hp=>by have:=h.1;omega⟩
 refine ⟨some ⟨g,0,none⟩,cap,rfl,hn,hc,fun h=>by simp at h,fun _=>⟨g,0,rfl,fun j u hj=>?_⟩⟩;rw[aI,cell_of_row w g j cur e (0,0) hg];rw[← ht,cH] at hj
 split at hj
 ·
  simpa using hj
 simp at hj
def xt (P:Program) (t e:TypeId) (sz bytes:Nat):Prop:=
 P.underlying t=some (.slice e)∧0<sz∧∃ i z,P.info? e=some i∧i.zero=some z∧i.size=sz∧i.bytes=bytes∧z.cells.size=sz
theorem yM (b off j:Nat):(⟨b,off,none⟩:Addr).add j=⟨b,off+j,none⟩:=by unfold Addr.add;split<;>simp_all
theorem zKv {P:Program} {w:World} {t e:TypeId} {sz bytes:Nat} (hE:xt P t e sz bytes) (base:Nat) (ty:TypeId)
  {v:Value} {n:Nat} {xs:List Value} (hown:w.ownsRow base e sz v n xs) {sv:Value} {m:Nat} {news:List Value} (hsrc:Rd w sz sv m news)
  (h1:∀ u∈news,u.oneCell'=true) (h63:n+m≤maxLen) (hbytes:(n+m)*bytes≤140737488355328) (hbase:base≤w.heap.size) :
  ∃ v' w',(Builtin.append_ #[t,t] ty #[v,sv]).run P w=.ok v' w'∧w'.ownsRow base e sz v' (n+m) (xs++news)∧w.grownBy w' v.ownBlock ∧
   (v'=.slice none 0 0↔v=.slice none 0 0∧m=0):=by
 obtain ⟨ht,hsz,i,z,hi,hz,hs,hby,hzs⟩:=hE;obtain ⟨hl,a,cap,rfl,hcap,hmax,hnone,hcells⟩:=hsrc
 cases a with
 |none =>
  have hc0:=hnone rfl;have hm0:m=0:=by omega
  subst hc0 hm0;have hn0:news=[]:=List.length_eq_zero_iff.1 (by omega);subst hn0;refine ⟨v,w,run_append_owned_none w base t ty e i sz ht hi v n xs hown,by simpa using hown,⟨rfl,rfl,rfl,ag _,fun _ _ _=>rfl⟩,by simp⟩
 |some p =>
  refine run_append_own w base t ty e i z sz bytes ht hi hz hs hby hzs hsz v n xs hown p m cap news hl ?_ h1 h63 hbytes hbase;intro j u hj;have hp:0<news.length:=by
   have:=(List.getElem?_eq_some_iff.1 hj).1;omega
  obtain ⟨b,off,e1,hc⟩:=hcells hp;obtain rfl:=Option.some.inj e1;rw[yM];exact hc j u hj
theorem Wb {P:Program} {w:World} {o:Oper} {a:Act} {K:Act→World→Prop} {Q:Exit→Act→World→Prop} (s x:Operand) (t:TypeId)
  (ho:o.op=.call {callee:=.builtin .append,args:=#[s,x],argTypes:=#[t,t]})
  {e:TypeId} {sz bytes:Nat} (hE:xt P t e sz bytes) (base:Nat)
  {v:Value} {n:Nat} {xs:List Value} (hs:a.eval s=v) (hown:w.ownsRow base e sz v n xs) {sv:Value} {m:Nat} {news:List Value} (hx:a.eval x=sv) (hsrc:Rd w sz sv m news)
  (h1:∀ u∈news,u.oneCell'=true) (h63:n+m≤maxLen) (hbytes:(n+m)*bytes≤140737488355328) (hbase:base≤w.heap.size)
  (h:∀ v' w',w'.ownsRow base e sz v' (n+m) (xs++news)→w.grownBy w' v.ownBlock→(v'=.slice none 0 0↔v=.slice none 0 0∧m=0)→K (a.put o.dst v') w'):o.wp P a w K Q:=by
 obtain ⟨v',w',hrun,r1,r2,r3⟩:=zKv (P:=P) hE base o.type hown hsrc h1 h63 hbytes hbase;unfold Oper.wp;simp[execOp,ho,resolve,invoke,builtin,hs,hx,hrun,Result.andThen];exact h v' w' r1 r2 r3
theorem zP {P:Program} {w:World} {ops:Array Oper} {rest:List Oper} {o:Oper} {a:Act} {Q:Exit→Act→World→Prop} (hgd:o.guard=none) (s x:Operand) (t:TypeId)
  (ho:o.op=.call {callee:=.builtin .append,args:=#[s,x],argTypes:=#[t,t]})
  {e:TypeId} {sz bytes:Nat} (hE:xt P t e sz bytes) (base:Nat)
  {v:Value} {n:Nat} {xs:List Value} (hs:a.eval s=v) (hown:w.ownsRow base e sz v n xs) {sv:Value} {m:Nat} {news:List Value} (hx:a.eval x=sv) (hsrc:Rd w sz sv m news)
  (h1:∀ u∈news,u.oneCell'=true) (h63:n+m≤maxLen) (hbytes:(n+m)*bytes≤140737488355328) (hbase:base≤w.heap.size)
  (h:∀ v' w',w'.ownsRow base e sz v' (n+m) (xs++news)→w.grownBy w' v.ownBlock→(v'=.slice none 0 0↔v=.slice none 0 0∧m=0)→wpList P ops Q rest (a.put o.dst v') w'):wpList P ops Q (o::rest) a w:=
 wpList_plain hgd fun _ hK=>Wb s x t ho hE base hs hown hx hsrc h1 h63 hbytes hbase fun v' w' h2 h3 h4=>hK _ _ (h v' w' h2 h3 h4)
theorem vL {P:Program} {w:World} {ops:Array Oper} {o:Oper} {a:Act} {K:Act→World→Prop} {Q:Exit→Act→World→Prop} {E:Prop} (hgd:o.guard=none) (s x:Operand) (t:TypeId)
  (ho:o.op=.call {callee:=.builtin .append,args:=#[s,x],argTypes:=#[t,t]})
  {e:TypeId} {sz bytes:Nat} (hE:xt P t e sz bytes) (base:Nat)
  {v:Value} {n:Nat} {xs:List Value} (hs:a.eval s=v) (hown:w.ownsRow base e sz v n xs) {sv:Value} {m:Nat} {news:List Value} (hx:a.eval x=sv) (hsrc:Rd w sz sv m news)
  (h1:∀ u∈news,u.oneCell'=true) (h63:n+m≤maxLen) (hbytes:(n+m)*bytes≤140737488355328) (hbase:base≤w.heap.size)
  (h:∀ v' w',w'.ownsRow base e sz v' (n+m) (xs++news)→w.grownBy w' v.ownBlock→(v'=.slice none 0 0↔v=.slice none 0 0∧m=0)→K (a.put o.dst v') w') :
  if Region.wanted o (yielded ops a.tmps)=true then Oper.wp P o a w K Q else E:=by
 have hw:Region.wanted o (yielded ops a.tmps)=true:=by simp[Region.wanted,hgd]
 rw[ah hw];exact Wb s x t ho hE base hs hown hx hsrc h1 h63 hbytes hbase h
theorem Rd.new (w:World) (sz:Nat) (cs:List Value) (e:TypeId) (n:Nat) (hn:cs.length=n*sz) (hm:n≤maxLen):Rd (w.alloc (.cells cs.toArray e)) sz (.slice (some ⟨w.heap.size,0,none⟩) n n) n cs:=by
 refine ⟨hn,_,n,rfl,ag _,hm,fun h=>by simp at h,fun _=>⟨w.heap.size,0,rfl,fun j u hj=>?_⟩⟩;rw[aI,cell_of_row _ _ j cs.toArray e (0,0) (dg w _)]
 simpa using hj
theorem zL {B:Nat} {w0 w w':World} {e:TypeId} {sz:Nat} {v:Value} {n:Nat} {xs:List Value} (h:Below B w0 w) (hown:w.ownsRow B e sz v n xs) (hB:B≤w.heap.size) (hg:w.grownBy w' v.ownBlock):Below B w0 w':=
 h.grown hg hB fun k hk=>(hown.lt k hk).1
theorem below_drewN {B:Nat} {a w:World} (h:Below B a w) (n:Nat):Below B a (w.drewN n):=h.trans ⟨rfl,rfl,rfl,ag _,fun _ _=>rfl⟩
theorem zi {B:Nat} {a w:World} (h:Below B a w):Below B a w.drew:=h.trans ⟨rfl,rfl,rfl,ag _,fun _ _=>rfl⟩
structure eo (w:World) where
 w':World
 h:Below w.heap.size w w'
instance (w:World):Inhabited (eo w):=⟨⟨w,aj _ _⟩⟩
theorem zC {P:Program} {id:Nat} {Q:Exit→Act→World→Prop} {a:Act} {w:World} {l:List Oper} (hm:P.follows .mixedOrders=true) (hB:Region.lexB .any l.toArray=true)
  (h:wpQuiet P l.toArray (fun w'=>∃ p:eo w,w'=p.w') (fun a'=>∀ w',(∃ p:eo w,w'=p.w')→Q .normal a' w') l a):(Code.region id l.toArray true).wp P Q a w:=
 wp_region_quiet (C:=fun w'=>∃ p:eo w,w'=p.w') hm hB ⟨⟨w.drew,⟨rfl,rfl,rfl,ag _,fun _ _=>rfl⟩⟩,rfl⟩ (by simpa using h)
theorem zB {w:World} {p:Addr} {u:Value} (h:w.cell? p=some u) (q:eo w):q.w'.cell? p=some u:=Below.keeps q.h _ _ h
theorem zE {P:Program} {f:FuncId} {args:Array Value} {w:World} {q:eo w} {v:Value}
  (h:Calls P f args q.w' fun e w'=>e=.returned v∧Below q.w'.heap.size q.w' w'):Calls P f args q.w' fun e w''=>e=.returned v∧∃ p:eo w,w''=p.w':=
 h.mono fun _ w'' ⟨he,hb⟩=>⟨he,⟨w'',zA q.h hb⟩,rfl⟩
/-! ### Wc of a slice -/
theorem wh {P:Program} {t e:TypeId} {sz bytes:Nat} (hE:xt P t e sz bytes):P.underlying t=some (.slice (P.elem t))∧∀ W,(sizeOf (P.elem t)).run P W=.ok sz W:=by
 obtain ⟨ht,_,i,z,hi,hz,hs,_⟩:=hE;have he:P.elem t=e:=by simp[Program.elem,ht]
 rw[he];refine ⟨ht,fun W=>?_⟩;simp[sizeOf,typeInfo,hi,hs]
theorem QZ {w:World} {sz n cap m:Nat} {a:Option Addr} {cs:List Value} (h:Rd w sz (.slice a n cap) m cs) (l hi:Nat) (h1:l≤hi) (h2:hi≤n) :
  Rd w sz (sliced a l hi cap sz) (hi-l) ((cs.drop (l*sz)).take ((hi-l)*sz)):=by
 obtain ⟨h0,a',cap',e,h3,h4,h5,h6⟩:=h;injection e with e1 e2 e3;subst e1 e2 e3;have hlen:((cs.drop (l*sz)).take ((hi-l)*sz)).length=(hi-l)*sz:=by
  rw[ay,aP,h0,← Nat.sub_mul];exact bW (aW _ (by omega))
 refine ⟨hlen,_,_,rfl,by omega,by omega,fun hn=>?_,fun hp=>?_⟩
 ·
  by_cases e:cap=l
  ·
   omega
  rw[ai e] at hn
  cases a with
  |none=>have:=h5 rfl;omega
  |some x=>simp at hn
 have hpc:0<cs.length:=by
  have:0<(cs.drop (l*sz)).length:=by
   rw[ay] at hp;omega
  rw[aP] at this;omega
 obtain ⟨b,off,e,hc⟩:=h6 hpc;subst e;have hlt:l<cap:=by
  by_cases e:hi=l
  ·
   subst e;simp at hp
  omega
 refine ⟨b,off+l*sz,?_,fun j u hj=>?_⟩
 ·
  rw[ai (by omega)];simp[yM]
 rw[cH] at hj
 split at hj
 ·
  rw[cQ] at hj;have:=hc _ _ hj
  rwa [← cR] at this
 cases hj
theorem zC1 {a:Option Addr} {cap k d:Nat}:∀ x,(if cap=k then a else a.map (·.add d))=some x→∃ y,a=some y∧y.block=x.block:=by
 intro x hx
 split at hx
 ·
  exact ⟨x,hx,rfl⟩
 cases a with
 |none=>cases hx
 |some y =>
  simp at hx;subst hx;exact ⟨y,rfl,by unfold Addr.add;split<;>rfl⟩
theorem Rd.grown {w w':World} {sz:Nat} {a:Option Addr} {n cap m:Nat} {cs:List Value} {row:Option Nat} (h:Rd w sz (.slice a n cap) m cs) (hg:w.grownBy w' row) (hne:∀ x,a=some x→some x.block≠row):Rd w' sz (.slice a n cap) m cs:=by
 obtain ⟨h0,a',cap',e,h3,h4,h5,h6⟩:=h;refine ⟨h0,a',cap',e,h3,h4,h5,fun hp=>?_⟩;obtain ⟨b,off,e2,hc⟩:=h6 hp;injection e with e1;exact ⟨b,off,e2,fun j u hj=>hg.cell (hc j u hj) (hne ⟨b,off,none⟩ (e1.trans e2))⟩
theorem wt {P:Program} {t e:TypeId} {sz bytes:Nat} (hE:xt P t e sz bytes) {w:World} {n cap m:Nat} {a:Option Addr} {cs:List Value} (h:Rd w sz (.slice a n cap) m cs) (k:Nat) (hk:k≤n) :
  ∃ a' c',(∀ W kl,(Instr.slice t (.slice a n cap) (some (.int kl (k:Int))) none none).run P W=.ok (.slice a' (n-k) c') W)∧Rd w sz (.slice a' (n-k) c') (n-k) (cs.drop (k*sz))∧∀ x,a'=some x→∃ y,a=some y∧y.block=x.block:=by
 obtain ⟨h1,h2⟩:=wh hE;refine ⟨if cap=k then a else a.map (·.add (k*sz)),cap-k,fun W kl=>?_,?_,zC1⟩
 ·
  rw[run_slice_l W t a n cap h1 kl (k:Int) (by omega) (by omega),h2];simp[Result.andThen,sliced]
 have hl:=QZ h k n hk (ag _);have e:(cs.drop (k*sz)).take ((n-k)*sz)=cs.drop (k*sz):=by
  refine aS ?_;have h0:=h.1;obtain ⟨_,_,e,_⟩:=h.2;injection e with _ e2 _;rw[aP,h0,← e2,← Nat.sub_mul];exact ag _
 rw[e] at hl;exact hl
theorem yl {P:Program} {t e:TypeId} {sz bytes:Nat} (hE:xt P t e sz bytes) {a:Option Addr} {n cap:Nat} (ha:∀ x,a=some x→∃ b off,x=⟨b,off,none⟩) (k:Nat) (hk:k≤cap) :
  ∀ W kh,(Instr.slice t (.slice a n cap) none (some (.int kh (k:Int))) none).run P W=.ok (.slice a k cap) W:=by
 obtain ⟨h1,h2⟩:=wh hE;intro W kh;rw[run_slice_h W t a n cap h1 kh (k:Int) (by omega) (by omega),h2]
 cases a with
 |none=>simp[Result.andThen,sliced]
 |some x =>
  obtain ⟨b,off,rfl⟩:=ha _ rfl;simp[Result.andThen,sliced,yM]
theorem vC {w:World} {base:Nat} {e:TypeId} {sz n cap:Nat} {a:Option Addr} {xs:List Value} (h:w.ownsRow base e sz (.slice a n cap) n xs) (k:Nat) (hk:k≤n):w.ownsRow base e sz (.slice a k cap) k (xs.take (k*sz)):=by
 have hl:(xs.take (k*sz)).length=k*sz:=by
  rw[ay,h.1];exact bW (aW _ hk)
 refine ⟨hl,?_⟩;rcases h.2 with ⟨e1,e2⟩|⟨g,cap',cur,e1,h2,h3,h4,h5,h6,h7⟩
 ·
  injection e1 with e3 e4 e5;subst e3 e4 e5;exact .inl ⟨by rw[Nat.le_zero.1 hk],Nat.le_zero.1 hk⟩
 injection e1 with e3 e4 e5;subst e3 e5;refine .inr ⟨g,cap,cur,rfl,h2,h3,by omega,h5,h6,?_⟩;rw[← h7,dw,bW (aW _ hk)]
theorem zH {w:World} {base:Nat} {e:TypeId} {sz n:Nat} {v:Value} {xs:List Value} (h:w.ownsRow base e sz v n xs):∃ a cap,v=.slice a n cap∧n≤cap∧cap≤maxLen∧∀ x,a=some x→∃ b off,x=⟨b,off,none⟩:=by
 rcases h.2 with ⟨e1,e2⟩|⟨g,cap',cur,e1,h2,h3,h4,h5,h6,h7⟩
 ·
  subst e1 e2;exact ⟨none,0,rfl,ag _,by decide,fun x h=>by cases h⟩
 exact ⟨_,_,e1,h4,h5,fun x h=>by cases h;exact ⟨_,_,rfl⟩⟩
/-! ### Ec of one cell -/
def iE {α:Type} (f:α→Value) (w:World) (v:Value) (l:List α):Prop:=Rd w 1 v l.length (l.map f)
section
variable {α:Type} {f:α→Value} {w w':World} {v:Value} {l:List α}
theorem iE.below (h:iE f w v l) (hb:Below w.heap.size w w'):iE f w' v l:=Rd.below h hb
theorem iE.alloc (h:iE f w v l) (o:Obj):iE f (w.alloc o) v l:=Rd.alloc h o
theorem iE.shape (h:iE f w v l) (d:α):∃ a cap,v=.slice a l.length cap∧l.length≤cap∧cap≤maxLen∧(a=none→cap=0) ∧
  (0<l.length→∃ b off,a=some ⟨b,off,none⟩∧∀ j,j<l.length→w.cell? ⟨b,off+j,none⟩=some (f (l.getD j d))):=by
 obtain ⟨_,a,cap,h2,h3,h4,h5,h6⟩:=h;refine ⟨a,cap,h2,h3,h4,h5,fun hp=>?_⟩;obtain ⟨b,off,e,hc⟩:=h6 (by rw[aH];exact hp);refine ⟨b,off,e,fun j hj=>hc j _ ?_⟩;simp[aB hj]
theorem iE.take {a:Option Addr} {n cap:Nat} (h:iE f w (.slice a n cap) l) (k:Nat) (hk:k≤n):iE f w (.slice a k cap) (l.take k):=by
 obtain ⟨h0,a',cap',e,h1,h2,h3,h4⟩:=h;injection e with e1 e2 e3;subst e1 e2 e3;have hl:(l.take k).length=k:=by rw[ay];omega
 unfold iE;rw[hl];refine ⟨by rw[aH,hl,Nat.mul_one],_,_,rfl,by omega,h2,h3,fun hp=>?_⟩;obtain ⟨b,off,e,hc⟩:=h4 (by rw[aH,hl] at hp;rw[aH];omega);refine ⟨b,off,e,fun j u hj=>hc j u ?_⟩;rw[List.map_take,cH] at hj
 split at hj
 ·
  exact hj
 simp at hj
theorem tu {base:Nat} {e:TypeId} {n:Nat} (h:w.ownsRow base e 1 v n (l.map f)):iE f w v l:=by
 have hl:l.length=n:=by have:=h.1;simpa using this
 unfold iE;rw[hl];exact zk h
end
theorem iE.spot {α:Type} {f:α→Value} {w:World} {a:Option Addr} {n cap:Nat} {l:List α} (h:iE f w (.slice a n cap) l) (hn:0<n):∀ x,a=some x→∃ b off,x=⟨b,off,none⟩:=by
 obtain ⟨h0,a',cap',e,_,_,_,h5⟩:=h;injection e with e1 e2 e3;intro x hx;obtain ⟨b,off,e4,_⟩:=h5 (by rw[aH];omega);exact ⟨b,off,Option.some.inj (hx.symm.trans (e1.trans e4))⟩
theorem Wd {α:Type} (sz:Nat) (f:α→List Value):∀ (l:List α),(∀ x,(f x).length=sz)→∀ k,(l.take k).flatMap f=(l.flatMap f).take (k*sz)
 |[],_,k=>by simp
 |x::r,h,0=>by simp
 |x::r,h,k+1=>by
  rw[dK,ct,ct,Wd sz f r h k,List.take_append,h x,dh,Nat.add_sub_cancel];rw[aS (l:=f x) (by rw[h x];omega)]
theorem Wh {α:Type} (sz:Nat) (f:α→List Value):∀ (l:List α),(∀ x,(f x).length=sz)→∀ k,(l.drop k).flatMap f=(l.flatMap f).drop (k*sz)
 |[],_,k=>by simp
 |x::r,h,0=>by simp
 |x::r,h,k+1=>by
  rw[List.drop_succ_cons,ct,Wh sz f r h k,List.drop_append,h x,dh,Nat.add_sub_cancel];rw[List.drop_eq_nil_of_le (as:=f x) (by rw[h x];omega),bQ]
theorem grown_of {w w':World} (h:Below w.heap.size w w'):w.grownBy w' none:=⟨h.os,h.tape,h.output,h.size,fun k hk _=>h.block k hk⟩
theorem zG {w w':World} {base:Nat} {e:TypeId} {sz n:Nat} {v:Value} {xs:List Value} (h:w.ownsRow base e sz v n xs) (hb:Below w.heap.size w w'):w'.ownsRow base e sz v n xs:=
 h.kept (grown_of hb) (by cases v.ownBlock<;>simp)
theorem tl {P:Program} {w:World} {base:Nat} {e:TypeId} {sz n cap g:Nat} {xs:List Value} (h:w.ownsRow base e sz (.slice (some ⟨g,0,none⟩) n cap) n xs) (o:Nat) (vs:List Value) (ho:o+vs.length≤n*sz) (h1:∀ v∈vs,v.oneCell'=true) :
  ∃ w',(storeCells ⟨g,o,none⟩ vs 0).run P w=.ok () w'∧w'.ownsRow base e sz (.slice (some ⟨g,0,none⟩) n cap) n (xs.take o++vs++xs.drop (o+vs.length))∧w.grownBy w' (some g):=by
 have hx:=h.1;rcases h.2 with ⟨h',_⟩|⟨g',cap',cur,h',hb,hg,hnc,hcm,hcs,jP⟩
 ·
  cases h'
 injection h' with h' _ h'';injection h' with h';injection h' with h' _;subst h' h'';have hN:n*sz≤cur.size:=by rw[hcs];exact aW _ hnc
 have hrun:=run_storeCells_at (P:=P) g o e vs 0 cur w hg (by omega) h1;rw[bB] at hrun;refine ⟨_,hrun,⟨?_,.inr ⟨g,cap,_,rfl,hb,setRow_heap w g cur _ e (0,0) hg,hnc,hcm,?_,?_⟩⟩,⟨rfl,rfl,rfl,by simp,fun k _ hk=>setRow_other w g k _ (fun e=>hk (by rw[e]))⟩⟩
 ·
  simp only[aw,ay,aP,hx];omega
 ·
  simp only[cu,aw,ay,aP,dM];omega
 have e1:xs.take o=cur.toList.take o:=by rw[← jP,dw,bW (by omega)]
 have e2:xs.drop (o+vs.length)=(cur.toList.drop (o+vs.length)).take (n*sz-(o+vs.length)):=by rw[← jP,List.drop_take]
 rw[e1,e2];have l1:(cur.toList.take o++vs).length=o+vs.length:=by rw[aw,ay,dM];omega
 rw[List.take_append,aS (l:=cur.toList.take o++vs) (by rw[l1];exact ho),l1]
/-! ### Ec of several cells -/
def iN {α:Type} (sz:Nat) (f:α→List Value) (w:World) (v:Value) (l:List α):Prop:=(∀ x∈l,(f x).length=sz)∧Rd w sz v l.length (l.flatMap f)
theorem yR {α:Type} (sz:Nat) (f:α→List Value):∀ (l:List α),(∀ x∈l,(f x).length=sz)→(l.flatMap f).length=l.length*sz
 |[],_=>by simp
 |x::r,h=>by
  rw[ct,aw,h x (by simp),yR sz f r (fun y hy=>h y (by simp[hy])),aV,dh,Nat.add_comm]
theorem vW {α:Type} (sz:Nat) (f:α→List Value) (d:α):∀ (l:List α),(∀ x∈l,(f x).length=sz)→∀ j i,j<l.length→i<sz→(l.flatMap f)[j*sz+i]?=(f (l.getD j d))[i]?
 |[],_,_,_,h,_=>absurd h (by simp)
 |x::r,h,0,i,_,hi=>by
  rw[ct,Nat.zero_mul,aI,List.getElem?_append_left (by rw[h x (by simp)];exact hi)];rfl
 |x::r,h,j+1,i,hj,hi=>by
  rw[ct,dS (by rw[h x (by simp),dh];omega),h x (by simp)];have e:(j+1)*sz+i-sz=j*sz+i:=by rw[dh];omega
  rw[e,vW sz f d r (fun y hy=>h y (by simp[hy])) j i (by simpa using hj) hi];rfl
section
variable {α:Type} {sz:Nat} {f:α→List Value} {w w':World} {v:Value} {l:List α}
theorem iN.below (h:iN sz f w v l) (hb:Below w.heap.size w w'):iN sz f w' v l:=⟨h.1,Rd.below h.2 hb⟩
theorem iN.nil (sz:Nat) (f:α→List Value) (w:World):iN sz f w (.slice none 0 0) []:=⟨fun _ h=>(by cases h),Rd.nil w sz⟩
theorem iN.shape (h:iN sz f w v l) (hsz:0<sz) (d:α):∃ a cap,v=.slice a l.length cap∧l.length≤cap∧cap≤maxLen∧(a=none→cap=0) ∧
  (0<l.length→∃ b off,a=some ⟨b,off,none⟩∧∀ j,j<l.length→∀ i u,(f (l.getD j d))[i]?=some u→w.cell? ⟨b,off+(j*sz+i),none⟩=some u):=by
 obtain ⟨hf,_,a,cap,h2,h3,h4,h5,h6⟩:=h;refine ⟨a,cap,h2,h3,h4,h5,fun hp=>?_⟩;have hlen:=yR sz f l hf;obtain ⟨b,off,e,hc⟩:=h6 (by rw[hlen];exact Nat.mul_pos hp hsz);refine ⟨b,off,e,fun j hj i u hu=>hc (j*sz+i) u ?_⟩;have hm:l.getD j d∈l:=by
  rw[ax,aB hj];exact bI hj
 have hi:i<sz:=by
  have:=(List.getElem?_eq_some_iff.1 hu).1
  rwa [hf _ hm] at this
 rw[vW sz f d l hf j i hj hi];exact hu
theorem iN.take {a:Option Addr} {n cap:Nat} (h:iN sz f w (.slice a n cap) l) (k:Nat) (hk:k≤n):iN sz f w (.slice a k cap) (l.take k):=by
 obtain ⟨hf,h0,a',cap',e,h1,h2,h3,h4⟩:=h;injection e with e1 e2 e3;subst e1 e2 e3;have hl:(l.take k).length=k:=by rw[ay];omega
 have hf':∀ x∈l.take k,(f x).length=sz:=fun x hx=>hf x (bT hx)
 refine ⟨hf',?_⟩;rw[hl];have hlen:=yR sz f _ hf';rw[hl] at hlen;have Ed:l.flatMap f=(l.take k).flatMap f++(l.drop k).flatMap f:=by rw[← b7,b9]
 refine ⟨hlen,_,_,rfl,by omega,h2,h3,fun hp=>?_⟩;obtain ⟨b,off,e,hc⟩:=h4 (by rw[Ed,aw];omega);refine ⟨b,off,e,fun j u hj=>hc j u ?_⟩;rw[Ed,List.getElem?_append_left (List.getElem?_eq_some_iff.1 hj).1];exact hj
theorem Q0 {base:Nat} {e:TypeId} {n:Nat} (hf:∀ x∈l,(f x).length=sz) (hsz:0<sz) (h:w.ownsRow base e sz v n (l.flatMap f)):iN sz f w v l:=by
 have hl:l.length=n:=by
  have:=h.1;rw[yR sz f l hf] at this;exact Nat.eq_of_mul_eq_mul_right hsz this
 refine ⟨hf,?_⟩;rw[hl];exact zk h
end
/-! ### Bytes and integers -/
abbrev tB (c:UInt8):Value:=.int .u8 (c.toNat:Int)
abbrev rB (w:World) (v:Value) (l:List UInt8):Prop:=iE tB w v l
theorem zKz {α:Type} (f:α→Value) (h:∀ x,(f x).oneCell'=true) (l:List α):∀ u∈l.map f,u.oneCell'=true:=by
 intro u hu;obtain ⟨c,_,rfl⟩:=List.mem_map.1 hu;exact h c
theorem Wi (l:List UInt8):∀ u∈l.map tB,u.oneCell'=true:=zKz _ (fun _=>rfl) l
theorem qV {P:Program} {w:World} {v:Value} {l:List UInt8} (src dst e:TypeId) (hs:P.underlying src=some (.slice e)) (he:P.underlying e=some (.int .u8)) (hd:P.underlying dst=some .string)
  (h:rB w v l):(convert src dst v).run P w=.ok (.string ⟨l.toArray⟩) w:=by
 obtain ⟨a,cap,rfl,h3,h4,h5,h6⟩:=h.shape 0
 cases a with
 |none =>
  have h0:l=[]:=List.length_eq_zero_iff.1 (by have:=h5 rfl;omega);subst h0;exact run_convert_bytes_nil w src e hs he _ _ dst hd
 |some p =>
  refine run_convert_bytes_back w src dst e p cap l hs he hd ?_;intro j hj;obtain ⟨b,off,e1,hc⟩:=h6 (by omega);obtain rfl:=Option.some.inj e1;rw[yM,hc j hj];simp[aB hj]
def Q5 (k:IntKind) (w:World) (a:Option Addr) (len cap:Nat) (zs:List Int):Prop:=
 (a=none∧len=0∧cap=0∧zs=[]) ∨
 ∃ x,a=some x∧len≤cap∧cap≤maxLen∧zs.length=cap∧(∀ i,i<zs.length→w.cell? (x.add i)=some (.int k (zs.getD i 0)))∧∀ n∈zs,(Lit.int k n).wf=true
theorem Wj {k:IntKind} {w:World} {a:Option Addr} {len cap:Nat} {zs:List Int} (h:Q5 k w a len cap zs) :
  (zs.take len).length=len∧Rd w 1 (.slice a len cap) len ((zs.take len).map (Value.int k)):=by
 rcases h with ⟨rfl,rfl,rfl,rfl⟩|⟨x,rfl,h1,h2,h3,h4,_⟩
 ·
  exact ⟨rfl,Rd.nil w 1⟩
 have hl:(zs.take len).length=len:=by rw[ay];omega
 refine ⟨hl,by rw[aH,hl,Nat.mul_one],some x,cap,rfl,h1,h2,fun h=>by simp at h,fun hp=>?_⟩;have hp':0<zs.length:=by simp at hp;omega
 obtain ⟨b,off,rfl,hc⟩:=ints_at h4 hp';refine ⟨b,off,rfl,fun j u hj=>?_⟩;rw[b_] at hj;obtain ⟨z,hz,rfl⟩:=Option.map_eq_some_iff.1 hj;rw[cH] at hz
 split at hz
 ·
  have hj2:j<zs.length:=(List.getElem?_eq_some_iff.1 hz).1;rw[hc j hj2,ax,hz];rfl
 simp at hz
theorem zJN {k:IntKind} {w:World} {a:Option Addr} {len cap:Nat} {zs:List Int} (h:Q5 k w a len cap zs):∀ n∈zs,(Lit.int k n).wf=true:=by
 rcases h with ⟨_,_,_,rfl⟩|⟨_,_,_,_,_,_,h6⟩
 ·
  intro n hn;cases hn
 exact h6
theorem zED {w:World} {a:Option Addr} {len cap:Nat} {zs:List Int} (h:Q5 .u8 w a len cap zs):∃ l:List UInt8,l.length=len∧rB w (.slice a len cap) l:=by
 obtain ⟨h1,h2⟩:=Wj h;have hw:=zJN h;refine ⟨(zs.take len).map fun z=>UInt8.ofNat z.toNat,by simpa using h1,?_⟩;unfold rB iE;rw[aH,h1];have e:(((zs.take len).map fun z=>UInt8.ofNat z.toNat).map tB)=(zs.take len).map (Value.int .u8):=by
  rw[List.map_map];refine List.map_congr_left fun z hz=>?_
  have hb:=Go.bounds_u8 (hw z (bT hz));simp only[Function.comp,tB]
  congr 1
  rw[UInt8.toNat_ofNat'];omega
 rw[e];exact h2
theorem yy {a:Int} (h:(Lit.int .i64 a).wf=true):-9223372036854775808≤a∧a≤9223372036854775807:=by
 simp[Lit.wf,IntKind.min,IntKind.max,IntKind.signed,IntKind.bits] at h;omega
theorem uN {a:Int} (h:(Lit.int .u64 a).wf=true):0≤a∧a≤18446744073709551615:=by
 simp[Lit.wf,IntKind.min,IntKind.max,IntKind.signed,IntKind.bits] at h;omega
theorem uS {a:Int} (h:(Lit.int .u32 a).wf=true):0≤a∧a≤4294967295:=by
 simp[Lit.wf,IntKind.min,IntKind.max,IntKind.signed,IntKind.bits] at h;omega
theorem wY {k:IntKind} {a b:Int} (h:a=b):Ending.returned (.int k a)=.returned (.int k b):=by rw[h]
theorem Wk {k:IntKind} {n:Int} {a b:Bool} (h:a=b):Ending.returned (.tuple #[.int k n,.bool a])=.returned (.tuple #[.int k n,.bool b]):=by rw[h]
theorem zI {a b:Bool} (h:a=b):Ending.returned (.bool a)=.returned (.bool b):=by rw[h]
end Go.Proofs.YtcgfilmmokmdjaaGreat
