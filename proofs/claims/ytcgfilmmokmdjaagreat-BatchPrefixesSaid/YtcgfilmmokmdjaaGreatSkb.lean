/- A part of the walk. -/
import Derived.Test.YtcgfilmmokmdjaaGreatQAP
import Derived.Test.YtcgfilmmokmdjaaGreatHe
import Derived.Test.YtcgfilmmokmdjaaGreatSln
set_option linter.all false
namespace Go.Proofs.YtcgfilmmokmdjaaGreat
open Go.RowKit
theorem zJ6 (i l : Int) (r : Bool) (a : Option Addr) (n c : Nat) (L : List GP) (w : World) (h : fH w (.slice a n c) L) (hs : ∀ p ∈ L,∀ j,j < 8 → (p.1.m.st j).length ≤ 10000) (y : GP) (hy : fq w y.2 y.1.m.st) (Cr : ∀ j,j < 8 → (y.1.m.st j).length ≤ 10000) : Calls Tryz.prog 44 #[ze i l r a n c,zV y.1.num y.1.rev y.1.mode y.1.size y.2 y.1.m.live y.1.m.dZ] w (jl w (yM ⟨i,l,r,ea L⟩ y.1)):=by
 cases hv : zd ⟨i,l,r,ea L⟩
 ·
  exact zLW i l r a n c L w h hs y hy Cr hv
 exact zJH i l r a n c L w h hs y hy Cr hv
structure JN (w : World) (v : Value) (ac : List Bp) : Prop where
 r : ix 4 Uc w v ac
 n : ∀ x ∈ ac,mr w x.lv x.l ∧ (∀ p ∈ x.l,p.1.Wf) ∧ lJ w x.kv x.keys
theorem JN.below {w w' : World} {v : Value} {ac : List Bp} (h : JN w v ac) (hb : Below w.heap.size w w') : JN w' v ac:=⟨ix.below h.r hb,fun x hx => ⟨(h.n x hx).1.below hb,(h.n x hx).2.1,iw.below (h.n x hx).2.2 hb⟩⟩
theorem JN.shape {w : World} {v : Value} {ac : List Bp} (h : JN w v ac) : ∃ a cap,v = .slice a ac.length cap ∧ ac.length ≤ cap ∧ cap ≤ maxLen:=by
 obtain ⟨a,cap,h1,h2,h3,_⟩:=ix.shape h.r (by decide) Rw;exact ⟨a,cap,h1,h2,h3⟩
theorem JN.at {w : World} {a : Option Addr} {n cap : Nat} {ac : List Bp} (h : JN w (.slice a n cap) ac) {j : Nat} (hj : j < n) : ∃ b off,a = some ⟨b,off,none⟩ ∧ w.cell? ⟨b,off + j * 4,none⟩ = some (.int .i64 (kY ac j).kind) ∧ w.cell? ⟨b,off + j * 4 + 1,none⟩ = some (kY ac j).lv ∧ w.cell? ⟨b,off + j * 4 + 2,none⟩ = some (.int .i64 (kY ac j).gen) ∧ w.cell? ⟨b,off + j * 4 + 3,none⟩ = some (kY ac j).kv ∧ mr w (kY ac j).lv (kY ac j).l ∧ (∀ p ∈ (kY ac j).l,p.1.Wf) ∧ lJ w (kY ac j).kv (kY ac j).keys:=by
 obtain ⟨a',cap',e,h2,h3,_,h5⟩:=ix.shape h.r (by decide) Rw;injection e with e1 e2 e3;subst e1 e2 e3;obtain ⟨b,off,e,hc⟩:=h5 (by omega);refine ⟨b,off,e,?_,hc j hj 1 _ rfl,hc j hj 2 _ rfl,hc j hj 3 _ rfl,h.n _ (zJ8 hj)⟩;have:=hc j hj 0 _ rfl; rwa [bu] at this
def SlR (w0 : World) (p : eL) (e : Ending) (w' : World) : Prop:=(∃ a n c L,e = .returned (ze p.id p.lim p.ro a n c) ∧ fH w' (.slice a n c) L ∧ ea L = p.dW) ∧ Below w0.heap.size w0 w'
theorem zLB (g : Int) (m : Nat) (hm : 0 < m) : ∃ (t : Int) (k : Nat),g.tmod (m : Int) = t ∧ -(m : Int) < t ∧ t < (m : Int) ∧ (t + (m : Int)).tmod (m : Int) = (k : Int) ∧ (t + (m : Int)) % (m : Int) = (k : Int) ∧ k < m ∧ g % (m : Int) = (k : Int):=by
 have h0:=Int.emod_nonneg g (show (m : Int) ≠ 0 by omega);have h1:=Int.emod_lt_of_pos g (show (0 : Int) < (m : Int) by omega);have h2:=Int.lt_tmod_of_pos g (show (0 : Int) < (m : Int) by omega);have h3:=Int.tmod_lt_of_pos g (show (0 : Int) < (m : Int) by omega);have h4 : (g.tmod (m : Int) + (m : Int)) % (m : Int) = g % (m : Int):=by
  rw [Int.add_emod_right,Int.tmod_def,Int.sub_mul_emod_self_left]
 refine ⟨g.tmod (m : Int),(g % (m : Int)).toNat,rfl,by omega,h3,?_,by omega,by omega,by omega⟩;rw [Int.tmod_eq_emod_of_nonneg (by omega),h4];omega
theorem zIh {K : Nat} (g : Gn) (l : List Nd) (h : ∀ i,i < 8 → (g.m.st i).length ≤ K) : ∀ i,i < 8 → ((xQ g l).2.m.st i).length ≤ K + l.length:=fun i hi => by
 unfold xQ
 split
 ·
  split
  ·
   split
   ·
    exact xg l g h i hi
   exact aq _
  exact aq _
 exact aq _
theorem zHa {K : Nat} (g : Gn) (l : List Int) (h : ∀ i,i < 8 → (g.m.st i).length ≤ K) : ∀ i,i < 8 → ((yY g l).2.m.st i).length ≤ K:=fun i hi => by
 unfold yY
 split
 ·
  split
  ·
   exact aq _
  exact wQ l g.m h i hi
 exact aq _
end Go.Proofs.YtcgfilmmokmdjaaGreat
