import Derived.Test.YtcgfilmmokmdjaaGreatHe
import Derived.Test.YtcgfilmmokmdjaaGreatSln
set_option linter.all false
namespace Go.Proofs.YtcgfilmmokmdjaaGreat
open Go.RowKit
structure Gy (w:World) (v:Value) (ac:List rj):Prop where
 r:jy 4 S2 w v ac
 n:∀ x∈ac,mJ w x.lv x.l/\(∀ p∈x.l,p.1.Wf)/\mM w x.kv x.keys
def Gy.bb {w w':World} {v:Value} {ac:List rj} (h:Gy w v ac) (hb:Below w.heap.size w w'):Gy w' v ac:=⟨jy.bb h.r hb,fun x hx=>⟨(h.n x hx).1.bb hb,(h.n x hx).2.1,il.bb (h.n x hx).2.2 hb⟩⟩
def Gy.shape {w:World} {v:Value} {ac:List rj} (h:Gy w v ac):∃ a cap,v=.slice a ac.length cap/\ac.length<=cap/\cap<=maxLen:=by
 obtain ⟨a,cap,h1,h2,h3,_⟩:=jy.shape h.r (by decide) PG;exact ⟨a,cap,h1,h2,h3⟩
def Gy.at {w:World} {a:Option Addr} {n cap:Nat} {ac:List rj} (h:Gy w (.slice a n cap) ac) {j:Nat} (hj:j<n):∃ b off,a=some ⟨b,off,none⟩/\w.cell? ⟨b,off+j*4,none⟩=some (.int .i64 (D9 ac j).kind)/\w.cell? ⟨b,off+j*4+1,none⟩=some (D9 ac j).lv/\w.cell? ⟨b,off+j*4+2,none⟩=some (.int .i64 (D9 ac j).gen)/\w.cell? ⟨b,off+j*4+3,none⟩=some (D9 ac j).kv/\mJ w (D9 ac j).lv (D9 ac j).l/\(∀ p∈(D9 ac j).l,p.1.Wf)/\mM w (D9 ac j).kv (D9 ac j).keys:=by
 obtain ⟨a',cap',e,h2,h3,_,h5⟩:=jy.shape h.r (by decide) PG;injection e with e1 e2 e3;subst e1 e2 e3;obtain ⟨b,off,e,hc⟩:=h5 (by omega);refine ⟨b,off,e,?_,hc j hj 1 _ rfl,hc j hj 2 _ rfl,hc j hj 3 _ rfl,h.n _ (zK8 hj)⟩;have:=hc j hj 0 _ rfl;rwa [bE] at this
def SlR (w0:World) (p:fk) (e:Ending) (w':World):Prop:=(∃ a n c L,e=.returned (zQ p.id p.lim p.ro a n c)/\fB w' (.slice a n c) L/\ey L=p.ep)/\Below w0.heap.size w0 w'
def zMD (g:Int) (m:Nat) (hm:0<m):∃ (t:Int) (k:Nat),g.tmod (m:Int)=t/\-(m:Int)<t/\t<(m:Int)/\(t+(m:Int)).tmod (m:Int)=(k:Int)/\(t+(m:Int))%(m:Int)=(k:Int)/\k<m/\g%(m:Int)=(k:Int):=by
 have h0:=Int.emod_nonneg g (show (m:Int)≠0 by omega);have h1:=Int.emod_lt_of_pos g (show (0:Int)<(m:Int) by omega);have h2:=Int.lt_tmod_of_pos g (show (0:Int)<(m:Int) by omega);have h3:=Int.tmod_lt_of_pos g (show (0:Int)<(m:Int) by omega);have h4:(g.tmod (m:Int)+(m:Int))%(m:Int)=g%(m:Int):=by
  rw[Int.add_emod_right,Int.tmod_def,Int.sub_mul_emod_self_left]
 refine ⟨g.tmod (m:Int),(g%(m:Int)).toNat,rfl,by omega,h3,?_,by omega,by omega,by omega⟩;rw[dV (by omega),h4];omega
def zJi {K:Nat} (g:Gn) (l:List Nd) (h:∀ i,i<8->(g.m.st i).length<=K):∀ i,i<8->((yZ g l).2.m.st i).length<=K+l.length:=fun i hi=>by
 unfold yZ
 split
 ·split
  ·split
   ·exact ws l g h i hi
   exact aq _
  exact aq _
 exact aq _
def zIM {K:Nat} (g:Gn) (l:List Int) (h:∀ i,i<8->(g.m.st i).length<=K):∀ i,i<8->((yh g l).2.m.st i).length<=K:=fun i hi=>by
 unfold yh
 split
 ·split
  ·exact aq _
  exact wm l g.m h i hi
 exact aq _
end Go.Proofs.YtcgfilmmokmdjaaGreat
