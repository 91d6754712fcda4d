import Derived.Test.YtcgfilmmokmdjaaGreatQAM
import Derived.Test.YtcgfilmmokmdjaaGreatHe
import Derived.Test.YtcgfilmmokmdjaaGreatQAN
set_option linter.all false
namespace Go.Proofs.YtcgfilmmokmdjaaGreat
open Go.RowKit
theorem zJU (i l:Int) (r:Bool) (a:Option Addr) (n c:Nat) (L:List GP) (w:World) (h:fD w (.slice a n c) L) (hs:∀ p∈L,∀ j,j<8→(p.1.m.st j).length≤10000) (y:GP) (hy:fG w y.2 y.1.m.st) (pj:∀ j,j<8→(y.1.m.st j).length≤10000):Calls Tryz.prog 44 #[zO i l r a n c,zd y.1.num y.1.rev y.1.mode y.1.size y.2 y.1.m.live y.1.m.d_] w (nD w (yV ⟨i,l,r,ep L⟩ y.1)):=by
 cases hv:zY ⟨i,l,r,ep L⟩
 ·
  exact zKx i l r a n c L w h hs y hy pj hv
 exact zIm i l r a n c L w h hs y hy pj hv
structure EM (w:World) (v:Value) (ac:List oM):Prop where
 r:iN 4 PY w v ac
 n:∀ x∈ac,nC w x.lv x.l∧(∀ p∈x.l,p.1.Wf)∧lT w x.kv x.keys
theorem EM.below {w w':World} {v:Value} {ac:List oM} (h:EM w v ac) (hb:Below w.heap.size w w'):EM w' v ac:=⟨iN.below h.r hb,fun x hx=>⟨(h.n x hx).1.below hb,(h.n x hx).2.1,iE.below (h.n x hx).2.2 hb⟩⟩
theorem EM.shape {w:World} {v:Value} {ac:List oM} (h:EM w v ac):∃ a cap,v=.slice a ac.length cap∧ac.length≤cap∧cap≤maxLen:=by
 obtain ⟨a,cap,h1,h2,h3,_⟩:=iN.shape h.r (by decide) Nb;exact ⟨a,cap,h1,h2,h3⟩
theorem EM.at {w:World} {a:Option Addr} {n cap:Nat} {ac:List oM} (h:EM w (.slice a n cap) ac) {j:Nat} (hj:j<n):∃ b off,a=some ⟨b,off,none⟩∧w.cell? ⟨b,off+j*4,none⟩=some (.int .i64 (kB ac j).kind)∧w.cell? ⟨b,off+j*4+1,none⟩=some (kB ac j).lv∧w.cell? ⟨b,off+j*4+2,none⟩=some (.int .i64 (kB ac j).gen)∧w.cell? ⟨b,off+j*4+3,none⟩=some (kB ac j).kv∧nC w (kB ac j).lv (kB ac j).l∧(∀ p∈(kB ac j).l,p.1.Wf)∧lT w (kB ac j).kv (kB ac j).keys:=by
 obtain ⟨a',cap',e,h2,h3,_,h5⟩:=iN.shape h.r (by decide) Nb;injection e with e1 e2 e3;subst e1 e2 e3;obtain ⟨b,off,e,hc⟩:=h5 (by omega);refine ⟨b,off,e,?_,hc j hj 1 _ rfl,hc j hj 2 _ rfl,hc j hj 3 _ rfl,h.n _ (zJY hj)⟩;have:=hc j hj 0 _ rfl;rwa [bB] at this
def SlR (w0:World) (p:eX) (e:Ending) (w':World):Prop:=(∃ a n c L,e=.returned (zO p.id p.lim p.ro a n c)∧fD w' (.slice a n c) L∧ep L=p.dY)∧Below w0.heap.size w0 w'
theorem zKf (g:Int) (m:Nat) (hm:0<m):∃ (t:Int) (k:Nat),g.tmod (m:Int)=t∧-(m:Int)<t∧t<(m:Int)∧(t+(m:Int)).tmod (m:Int)=(k:Int)∧(t+(m:Int))%(m:Int)=(k:Int)∧k<m∧g%(m:Int)=(k:Int):=by
 have h0:=Int.emod_nonneg g (show (m:Int)≠0 by omega);have h1:=Int.emod_lt_of_pos g (show (0:Int)<(m:Int) by omega);have h2:=Int.lt_tmod_of_pos g (show (0:Int)<(m:Int) by omega);have h3:=Int.tmod_lt_of_pos g (show (0:Int)<(m:Int) by omega);have h4:(g.tmod (m:Int)+(m:Int))%(m:Int)=g%(m:Int):=by
  rw[Int.add_emod_right,Int.tmod_def,Int.sub_mul_emod_self_left]
 refine ⟨g.tmod (m:Int),(g%(m:Int)).toNat,rfl,by omega,h3,?_,by omega,by omega,by omega⟩;rw[Int.tmod_eq_emod_of_nonneg (by omega),h4];omega
theorem zIF {K:Nat} (g:Gn) (l:List Nd) (h:∀ i,i<8→(g.m.st i).length≤K):∀ i,i<8→((xE g l).2.m.st i).length≤K+l.length:=fun i hi=>by
 unfold xE
 split
 ·
  split
  ·
   split
   ·
    exact wT l g h i hi
   exact aq _
  exact aq _
 exact aq _
theorem zGw {K:Nat} (g:Gn) (l:List Int) (h:∀ i,i<8→(g.m.st i).length≤K):∀ i,i<8→((xA g l).2.m.st i).length≤K:=fun i hi=>by
 unfold xA
 split
 ·
  split
  ·
   exact aq _
  exact wQ l g.m h i hi
 exact aq _
end Go.Proofs.YtcgfilmmokmdjaaGreat
