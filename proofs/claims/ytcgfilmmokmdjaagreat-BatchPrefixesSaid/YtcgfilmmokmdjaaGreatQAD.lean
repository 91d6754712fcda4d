/- A part of the walk. -/
import Derived.Test.YtcgfilmmokmdjaaGreatQAC
import Derived.Test.YtcgfilmmokmdjaaGreatQAA
import Derived.Lib.OwnKind
import Derived.Laws.ComplexArith
set_option linter.all false
set_option maxRecDepth 100000
set_option maxHeartbeats 32000000
namespace Go.Proofs.YtcgfilmmokmdjaaGreat
def zg (key : Int) : Nat:=(key * 11400714819323198485 % 18446744073709551616 / 2305843009213693952).toNat
theorem we (key : Int) : zg key < 8:=by unfold zg; omega
structure Mp where
 st : Nat → List It
 live : Int
 dZ : Int
def cat (f : Nat → List It) : Nat → List It
 | 0 => []
 | n + 1 => cat f n ++ f n
def vS (M : Mp) : List It:=cat M.st 8
def DO (M : Mp) (i : Nat) : Bool:=xx (M.st i) && (M.st i).all fun x => zg x.key == i
def xA (M : Mp) : Bool:=(List.range 8).all (DO M) && (M.live == (zu (vS M) : Int)) && decide (0 ≤ M.dZ) && decide (M.dZ ≤ 1099511627776)
structure fN (M : Mp) : Prop where
 ok : ∀ i,i < 8 → xx (M.st i) = true
 sp : ∀ i,i < 8 → ∀ x ∈ M.st i,zg x.key = i
 lv : M.live = (zu (vS M) : Int)
 g0 : 0 ≤ M.dZ
 g1 : M.dZ ≤ 1099511627776
theorem zO (M : Mp) : xA M = true ↔ fN M:=by
 unfold xA DO;rw [aO,aO,aO,dJ,aS,aS,ct]
 constructor
 ·
  rintro ⟨⟨⟨h1,h2⟩,h3⟩,h4⟩;have h:=fun i (hi : i < 8) => Bool.and_eq_true_iff.1 (h1 i (List.mem_range.2 hi))
  exact ⟨fun i hi => (h i hi).1,fun i hi x hx => beq_iff_eq.1 (List.all_eq_true.1 (h i hi).2 x hx),h2,h3,h4⟩
 rintro ⟨h1,h2,h3,h4,h5⟩;exact ⟨⟨⟨fun i hi => Bool.and_eq_true_iff.2 ⟨h1 i (List.mem_range.1 hi),List.all_eq_true.2 fun x hx => beq_iff_eq.2 (h2 i (List.mem_range.1 hi) x hx)⟩,h3⟩,h4⟩,h5⟩
theorem kE {l : List It} (h : jX l) : l.Pairwise fun a b => a.key < b.key:=tU ((xh _).2 h)
theorem uV {l : List It} (h : xx l = true) : jX l:=(un.1 h).1
theorem zIf {l : List It} (h : jX l) {y : It} (hy : y ∈ l) : fJ l y.key = some y:=by
 have hp:=kE h;clear h
 induction l with
 | nil => cases hy
 | cons x l ih =>
  rw [cR] at hp;rw [zm];rcases List.mem_cons.1 hy with rfl | hy
  ·
   rw [ag rfl]
  rw [ah (by have:=hp.1 y hy; omega)]; exact ih hy hp.2
theorem zDr {l : List It} {k : Int} (h : fJ l k = none) : ∀ x ∈ l,x.key ≠ k:=fun x hx => by
 unfold fJ at h;rw [List.find?_eq_none] at h
 simpa using h x hx
theorem zGy (s : List It) (k : Int) : ∀ n (v : List It),v.length = n → fJ (v.foldl ins s) k = match fJ (fE v) k with | some x => some x | none => fJ s k
 | 0,v,h => by rw [List.length_eq_zero_iff.1 h]; rfl
 | n + 1,v,h => by
  obtain ⟨u,y,rfl⟩ : ∃ u y,v = u ++ [y]:=by
   have hv : v ≠ []:=fun e => by rw [e] at h; cases h
   exact ⟨v.dropLast,v.getLast hv,(List.dropLast_concat_getLast hv).symm⟩
  have ih:=zGy s k n u (by rw [ax] at h; simpa using h);rw [dy,zKV]
  show fJ (ins (u.foldl ins s) y) k = _
  rw [qE,qE,ih]
  by_cases e : y.key = k
  ·
   rw [ag e,ag e]
  rw [ah e,ah e]
theorem zKk (u v : List It) (k : Int) : fJ (fE (u ++ v)) k = match fJ (fE v) k with | some x => some x | none => fJ (fE u) k:=by
 rw [kM]; exact zGy (fE u) k _ v rfl
theorem VY (f : Nat → List It) (k : Int) : ∀ n,(∀ i,i < n → jX (f i) ∧ ∀ x ∈ f i,zg x.key = i) → fJ (fE (cat f n)) k = if zg k < n then fJ (f (zg k)) k else none
 | 0,_ => by rw [ah (by omega)]; rfl
 | n + 1,h => by
  have ih:=VY f k n (fun i hi => h i (by omega));obtain ⟨ha,hs⟩:=h n (by omega)
  show fJ (fE (cat f n ++ f n)) k = _
  rw [zKk,yQ ha,ih]
  by_cases e : zg k = n
  ·
   rw [ah (show ¬ zg k < n by omega),ag (show zg k < n + 1 by omega),e]
   cases fJ (f n) k <;> rfl
  have hn : fJ (f n) k = none:=vM fun x hx e2 => e (by rw [← e2]; exact hs x hx)
  rw [hn]
  by_cases hl : zg k < n
  ·
   rw [ag hl,ag (by omega)]
  rw [ah hl,ah (by omega)]
theorem fN.fJ {M : Mp} (h : fN M) (k : Int) : fJ (fE (vS M)) k = fJ (M.st (zg k)) k:=by
 have:=VY M.st k 8 (fun i hi => ⟨uV (h.ok i hi),h.sp i hi⟩);rw [ag (we k)] at this;exact this
theorem zB7 (p : It → Bool) (b : Bool) (k : Int) (hp : ∀ x : It,x.key = k → p x = b) : ∀ l : List It,fJ (l.filter p) k = if b then fJ l k else none
 | [] => by cases b <;> rfl
 | x :: l => by
  have ih:=zB7 p b k hp l
  by_cases e : x.key = k
  ·
   rw [cn,hp x e]
   cases b
   ·
    simpa using ih
   simp only [if_true]; rw [zm,zm,ag e,ag e]
  rw [cn]
  split
  ·
   rw [zm,ah e,ih,zm,ah e]
  rw [ih,zm,ah e]
def Cb (i : Nat) (l : List It) : List It:=l.filter fun x => zg x.key == i
theorem tI (i : Nat) (l : List It) (k : Int) : fJ (Cb i l) k = if zg k = i then fJ l k else none:=by
 have:=zB7 (fun x => zg x.key == i) (decide (zg k = i)) k (fun x e => by rw [e]; by_cases h : zg k = i <;> simp [h]) l;unfold Cb;rw [this]
 by_cases h : zg k = i <;> simp [h]
theorem VZ (i : Nat) {l : List It} (h : jX l) : (Cb i l).Pairwise fun a b => a.key < b.key:=(kE h).filter _
theorem fN.Cb {M : Mp} (h : fN M) {i : Nat} (hi : i < 8) : Cb i (fE (vS M)) = M.st i:=by
 refine qY _ _ (VZ i (vF _)) (kE (uV (h.ok i hi))) fun k => ?_
 rw [tI,h.fJ]
 by_cases e : zg k = i
 ·
  rw [ag e,e]
 rw [ah e];exact (vM fun x hx e2 => e (by rw [← e2]; exact h.sp i hi x hx)).symm
theorem zLE {l : List It} (h : jX l) (x : It) (i : Nat) : Cb i (ins l x) = if zg x.key = i then ins (Cb i l) x else Cb i l:=by
 have hp:=VZ i h;refine qY _ _ ((tU (qu _ _ ((xh _).2 h))).filter _) ?_ fun k => ?_
 ·
  split
  ·
   exact tU (qu _ _ (VJ hp))
  exact hp
 rw [tI,qE]
 by_cases e : zg x.key = i
 ·
  rw [ag e,qE,tI]
  by_cases e2 : x.key = k
  ·
   rw [ag e2,ag (show zg k = i by rw [← e2]; exact e),ag e2]
  rw [ah e2,ah e2]
 rw [ah e,tI]
 by_cases e2 : x.key = k
 ·
  rw [ah (by rw [← e2]; exact e),ah (by rw [← e2]; exact e)]
 rw [ah e2]
theorem zK9 {l : List It} (h : jX l) (key : Int) (i : Nat) : Cb i (gB l key) = if zg key = i then gB (Cb i l) key else Cb i l:=by
 have hp:=VZ i h;refine qY _ _ ((kE (VK h key)).filter _) ?_ fun k => ?_
 ·
  split
  ·
   exact hp.filter _
  exact hp
 rw [tI,VT]
 by_cases e : zg key = i
 ·
  rw [ag e,VT,tI]
  by_cases e2 : k = key
  ·
   rw [ag e2,ag (show zg k = i by rw [e2]; exact e),ag e2]
  rw [ah e2,ah e2]
 rw [ah e,tI]
 by_cases e2 : k = key
 ·
  rw [ah (by rw [e2]; exact e),ah (by rw [e2]; exact e)]
 rw [ah e2]
/-! ### Bytes -/
def gW : Option It → Nat
 | some y => eP y.size.toNat
 | none => 0
theorem V4 (x : It) : ∀ s : List It,jX s → zu (ins s x) + gW (fJ s x.key) = zu s + eP x.size.toNat:=fun s h => by
 have hp:=kE h;clear h
 induction s with
 | nil => simp [ins,zu,gW,fJ]
 | cons y s ih =>
  rw [cR] at hp;have ih:=ih hp.2;rw [zm];simp only [ins]
  split
  ·
   rename_i hlt;rw [ah (by omega)]
   show eP y.size.toNat + zu (ins s x) + _ = eP y.size.toNat + zu s + _
   omega
  split
  ·
   rename_i hle he
   show eP x.size.toNat + zu s + eP y.size.toNat = eP y.size.toNat + zu s + _
   omega
  rename_i hle he;have : fJ s x.key = none:=vM fun z hz e => by have:=hp.1 z hz; omega
  rw [this]
  show eP x.size.toNat + (eP y.size.toNat + zu s) + 0 = eP y.size.toNat + zu s + _
  omega
theorem zEZ (key : Int) : ∀ s : List It,jX s → zu (gB s key) + gW (fJ s key) = zu s:=fun s h => by
 have hp:=kE h;clear h
 induction s with
 | nil => rfl
 | cons y s ih =>
  rw [cR] at hp;have ih:=ih hp.2;rw [zm]
  by_cases e : y.key = key
  ·
   have hn : gB s key = s:=by
    unfold gB;rw [List.filter_eq_self];intro z hz;have:=hp.1 z hz;have : z.key ≠ key:=by omega
    simpa using this
   have : gB (y :: s) key = s:=by rw [← hn]; unfold gB; rw [cn,ah (by simpa using e),List.filter_filter]; simp
   rw [ag e,this]
   show zu s + eP y.size.toNat = eP y.size.toNat + zu s
   omega
  have : gB (y :: s) key = y :: gB s key:=by unfold gB; rw [cn,ag (by simpa using e)]
  rw [ah e,this]
  show eP y.size.toNat + zu (gB s key) + _ = eP y.size.toNat + zu s
  omega
theorem zFO : ∀ (v s : List It),jX s → (v.Pairwise fun a b => a.key < b.key) → (∀ x ∈ v,fJ s x.key = none) → zu (v.foldl ins s) = zu s + zu v
 | [],s,_,_,_ => by simp [zu]
 | x :: v,s,hs,hv,hn => by
  rw [cR] at hv;have h1:=V4 x s hs;rw [hn x (by simp)] at h1
  show zu (v.foldl ins (ins s x)) = _
  rw [zFO v (ins s x) ((xh _).1 (qu _ _ ((xh _).2 hs))) hv.2 (fun y hy => by
   rw [qE,ah (by have:=hv.1 y hy; omega)]; exact hn y (by simp [hy]))]
  show _ = zu s + (eP x.size.toNat + zu v)
  simp only [gW] at h1;omega
theorem zEv (f : Nat → List It) : ∀ n,(∀ i,i < n → jX (f i) ∧ ∀ x ∈ f i,zg x.key = i) → zu (fE (cat f n)) = zu (cat f n)
 | 0,_ => rfl
 | n + 1,h => by
  have ih:=zEv f n (fun i hi => h i (by omega));obtain ⟨ha,hs⟩:=h n (by omega)
  show zu (fE (cat f n ++ f n)) = zu (cat f n ++ f n)
  rw [kM,zFO _ _ (vF _) (kE ha) (fun x hx => by
   rw [VY f x.key n (fun i hi => h i (by omega)),ah (by rw [hs x hx]; omega)]),xM,ih]
theorem fN.sum {M : Mp} (h : fN M) : zu (fE (vS M)) = zu (vS M):=zEv M.st 8 fun i hi => ⟨uV (h.ok i hi),h.sp i hi⟩
end Go.Proofs.YtcgfilmmokmdjaaGreat
namespace Go.Proofs.YtcgfilmmokmdjaaGreat
open Go.RowKit
structure jL (w : World) (b : Nat) (x : It) : Prop where
 c0 : w.cell? ⟨b,0,none⟩ = some (.int .u64 x.key)
 c1 : w.cell? ⟨b,1,none⟩ = some (.int .u32 x.ck)
 c2 : w.cell? ⟨b,2,none⟩ = some (.int .i64 x.off)
 c3 : w.cell? ⟨b,3,none⟩ = some (.int .i64 x.size)
theorem jL.q {w : World} {b : Nat} {x : It} (h : jL w b x) : w.cell? ⟨b,0,none⟩ = some (.int .u64 x.key) ∧ w.cell? ⟨b,1,none⟩ = some (.int .u32 x.ck) ∧ w.cell? ⟨b,2,none⟩ = some (.int .i64 x.off) ∧ w.cell? ⟨b,3,none⟩ = some (.int .i64 x.size):=⟨h.c0,h.c1,h.c2,h.c3⟩
theorem jL.below {w w' : World} {b : Nat} {x : It} (h : jL w b x) (hb : Below w.heap.size w w') : jL w' b x:=
 ⟨Below.keeps hb _ _ h.c0,Below.keeps hb _ _ h.c1,Below.keeps hb _ _ h.c2,Below.keeps hb _ _ h.c3⟩
abbrev xO (x : It) : Obj:=.cells #[.int .u64 x.key,.int .u32 x.ck,.int .i64 x.off,.int .i64 x.size] 49
theorem jL.new (w : World) (x : It) : jL (w.alloc (xO x)) w.heap.size x:=⟨by simp,by simp,by simp,by simp⟩
theorem zz (w : World) (x : It) : Below w.heap.size w (w.alloc (xO x)):=(aj _ _).alloc (ai _) _
theorem jL.set {w : World} {b : Nat} {x : It} (h : jL w b x) (y : It) : jL ((((w.setCell ⟨b,0,none⟩ (.int .u64 y.key)).setCell ⟨b,1,none⟩ (.int .u32 y.ck)).setCell ⟨b,2,none⟩ (.int .i64 y.off)).setCell ⟨b,3,none⟩ (.int .i64 y.size)) b y:=by
 obtain ⟨h0,h1,h2,h3⟩:=h;exact ⟨by simp [go_sem,h0],by simp [go_sem,h1],by simp [go_sem,h2],by simp [go_sem,h3]⟩
structure Sl where
 a : Nat → Option Addr
 n : Nat → Nat
 c : Nat → Nat
def Sl.v (s : Sl) (i : Nat) : Value:=.slice (s.a i) (s.n i) (s.c i)
def Sl.set (s : Sl) (k : Nat) (a : Option Addr) (n c : Nat) : Sl:=⟨fun i => if i = k then a else s.a i,fun i => if i = k then n else s.n i,fun i => if i = k then c else s.c i⟩
def Sl.nil : Sl:=⟨fun _ => none,fun _ => 0,fun _ => 0⟩
theorem Sl.Cc (s : Sl) (k : Nat) (a : Option Addr) (n c i : Nat) : (s.set k a n c).v i = if i = k then .slice a n c else s.v i:=by
 unfold Sl.set Sl.v
 by_cases h : i = k
 ·
  simp [h]
 simp [h]
abbrev yj (s : Sl) (l g : Int) : Array Value:=#[.slice (s.a 0) (s.n 0) (s.c 0),.slice (s.a 1) (s.n 1) (s.c 1),.slice (s.a 2) (s.n 2) (s.c 2),.slice (s.a 3) (s.n 3) (s.c 3),.slice (s.a 4) (s.n 4) (s.c 4),.slice (s.a 5) (s.n 5) (s.c 5),.slice (s.a 6) (s.n 6) (s.c 6),.slice (s.a 7) (s.n 7) (s.c 7),.int .i64 l,.int .i64 g]
abbrev yK (s : Sl) (l g : Int) : Value:=.agg (yj s l g)
abbrev zM2 (s : Sl) : Array Value:=#[.slice (s.a 0) (s.n 0) (s.c 0),.slice (s.a 1) (s.n 1) (s.c 1),.slice (s.a 2) (s.n 2) (s.c 2),.slice (s.a 3) (s.n 3) (s.c 3),.slice (s.a 4) (s.n 4) (s.c 4),.slice (s.a 5) (s.n 5) (s.c 5),.slice (s.a 6) (s.n 6) (s.c 6),.slice (s.a 7) (s.n 7) (s.c 7)]
def fq (w : World) (s : Sl) (f : Nat → List It) : Prop:=∀ i,i < 8 → i_ w (s.v i) (f i)
theorem fq.below {w w' : World} {s : Sl} {f : Nat → List It} (h : fq w s f) (hb : Below w.heap.size w w') : fq w' s f:=fun i hi => (h i hi).below hb
theorem fq.n {w : World} {s : Sl} {f : Nat → List It} (h : fq w s f) {i : Nat} (hi : i < 8) : s.n i = (f i).length:=by
 obtain ⟨a,c,e,_,_⟩:=(h i hi).shape;injection e
structure eM (W : World) (b : Nat) (s : Sl) (l g : Int) : Prop where
 c : ∀ j,j < 8 → W.cell? ⟨b,j,none⟩ = some (s.v j)
 cl : W.cell? ⟨b,8,none⟩ = some (.int .i64 l)
 cg : W.cell? ⟨b,9,none⟩ = some (.int .i64 g)
 f : ∀ i,W.frozen? ⟨b,i,none⟩ = false
theorem eM.q {W : World} {b : Nat} {s : Sl} {l g : Int} (h : eM W b s l g) : W.cell? ⟨b,0,none⟩ = some (.slice (s.a 0) (s.n 0) (s.c 0)) ∧ W.cell? ⟨b,1,none⟩ = some (.slice (s.a 1) (s.n 1) (s.c 1)) ∧ W.cell? ⟨b,2,none⟩ = some (.slice (s.a 2) (s.n 2) (s.c 2)) ∧ W.cell? ⟨b,3,none⟩ = some (.slice (s.a 3) (s.n 3) (s.c 3)) ∧ W.cell? ⟨b,4,none⟩ = some (.slice (s.a 4) (s.n 4) (s.c 4)) ∧ W.cell? ⟨b,5,none⟩ = some (.slice (s.a 5) (s.n 5) (s.c 5)) ∧ W.cell? ⟨b,6,none⟩ = some (.slice (s.a 6) (s.n 6) (s.c 6)) ∧ W.cell? ⟨b,7,none⟩ = some (.slice (s.a 7) (s.n 7) (s.c 7)) ∧ W.cell? ⟨b,8,none⟩ = some (.int .i64 l) ∧ W.cell? ⟨b,9,none⟩ = some (.int .i64 g):=⟨h.c 0 (by decide),h.c 1 (by decide),h.c 2 (by decide),h.c 3 (by decide),h.c 4 (by decide),h.c 5 (by decide),h.c 6 (by decide),h.c 7 (by decide),h.cl,h.cg⟩
theorem Nc {j : Nat} (h : j < 8) : j = 0 ∨ j = 1 ∨ j = 2 ∨ j = 3 ∨ j = 4 ∨ j = 5 ∨ j = 6 ∨ j = 7:=by omega
theorem eM.new (W : World) (s : Sl) (l g : Int) (t : TypeId) : eM (W.alloc (.cells (yj s l g) t)) W.heap.size s l g:=
 ⟨fun j hj => by rcases Nc hj with h | h | h | h | h | h | h | h <;> subst h <;> simp [Sl.v],by simp,by simp,fun i => by simp⟩
theorem eM.keep {W W' : World} {b B : Nat} {s : Sl} {l g : Int} (h : eM W b s l g) (hb : b < B) (hB : Below B W W') : eM W' b s l g:=
 ⟨fun j hj => (hB.cell (p:=⟨b,j,none⟩) hb).trans (h.c j hj),(hB.cell (p:=⟨b,8,none⟩) hb).trans h.cl,(hB.cell (p:=⟨b,9,none⟩) hb).trans h.cg,fun i => (hB.frozen (p:=⟨b,i,none⟩) hb).trans (h.f i)⟩
theorem eM.lt {W : World} {b : Nat} {s : Sl} {l g : Int} (h : eM W b s l g) : b < W.heap.size:=cZ W _ h.cl
theorem eM.below {W W' : World} {b : Nat} {s : Sl} {l g : Int} (h : eM W b s l g) (hB : Below W.heap.size W W') : eM W' b s l g:=h.keep h.lt hB
theorem eM.K2 {W : World} {b : Nat} {s : Sl} {l g : Int} (h : eM W b s l g) {k : Nat} (hk : k < 8) (a : Option Addr) (n c : Nat) : eM (W.setCell ⟨b,k,none⟩ (.slice a n c)) b (s.set k a n c) l g:=by
 have hkc:=h.c k hk;refine ⟨fun j hj => ?_,?_,?_,fun i => by simp [h.f]⟩
 ·
  rw [Sl.Cc]
  by_cases e : j = k
  ·
   subst e; rw [ag rfl]; simp [go_sem,hkc]
  rw [ah e];have:=h.c j hj;simp [go_sem,this]
 ·
  have:=h.cl;simp [go_sem,this]
 have:=h.cg;simp [go_sem,this]
theorem Qy (n : Nat) (w : World) : Calls Tryz.prog 53 #[.int .i64 (n : Int)] w fun e w' => e = .returned (.int .i64 ((eP n : Nat) : Int)) ∧ w = w':=by
 by_cases hn : n ≤ 4096
 ·
  have HS:=zh (show ((eP n : Nat) : Int) = (20 + (n : Int) + 4 + 8 - 1) / 8 * 8 by unfold eP CJ; rw [ag hn]; omega);have hd : decide ((4096 : Int) < (n : Int)) = false:=by simp; omega
  have hd2 : decide ((n : Int) < 0) = false:=by simp
  go_enter Tryz.func53,Tryz.ntmps53
  go_wp2_with fail;go_ret;exact ⟨wg (by rw [HS.out]),rfl⟩
 have HS:=zh (show eP n = 0 by unfold eP; rw [ah hn]);have hd : decide ((4096 : Int) < (n : Int)) = true:=by simp; omega
 have hd2 : decide ((n : Int) < 0) = false:=by simp
 go_enter Tryz.func53,Tryz.ntmps53
 go_wp2_with fail;go_ret;exact ⟨wg (by rw [HS.out]; rfl),rfl⟩
theorem Qz (n : Nat) (w : World) : Calls Tryz.prog 28 #[.int .i64 (n : Int)] w fun e w' => e = .returned (.int .i64 ((eP n : Nat) : Int)) ∧ w = w':=by
 by_cases hn : n ≤ 4096
 ·
  have HS:=zh (show ((eP n : Nat) : Int) = (20 + (n : Int) + 4 + 8 - 1) / 8 * 8 by unfold eP CJ; rw [ag hn]; omega);have hd : decide ((4096 : Int) < (n : Int)) = false:=by simp; omega
  have hd2 : decide ((n : Int) < 0) = false:=by simp
  go_enter Tryz.func28,Tryz.ntmps28
  go_wp2_with fail;go_ret;exact ⟨wg (by rw [HS.out]; omega),rfl⟩
 have HS:=zh (show eP n = 0 by unfold eP; rw [ah hn]);have hd : decide ((4096 : Int) < (n : Int)) = true:=by simp; omega
 have hd2 : decide ((n : Int) < 0) = false:=by simp
 go_enter Tryz.func28,Tryz.ntmps28
 go_wp2_with fail;go_ret;exact ⟨wg (by rw [HS.out]; rfl),rfl⟩
end Go.Proofs.YtcgfilmmokmdjaaGreat
namespace Go.Proofs.YtcgfilmmokmdjaaGreat.Fx
open Ieee
def fb (n : Int) : Nat:=FloatKind.f64.nearest n
def Small (n : Int) : Prop:=n.natAbs < 2 ^ 53
theorem p52 : (2 : Nat) ^ 52 = 4503599627370496:=rfl
theorem QA : (2 : Nat) ^ 53 = 9007199254740992:=rfl
theorem QB : double.infRung = 9218868437227405312:=rfl
theorem Wa : double.binade = 4503599627370496:=rfl
theorem Nf : double.signWeight = 9223372036854775808:=rfl
theorem Eb (a k : Nat) (h : 0 < a) : (a * 2 ^ k).log2 = a.log2 + k:=by
 have ha : a ≠ 0:=by omega
 have hp : 0 < 2 ^ k:=Nat.two_pow_pos k;have hm : a * 2 ^ k ≠ 0:=Nat.mul_ne_zero ha (by omega);refine Nat.le_antisymm ?_ ?_
 ·
  refine Nat.lt_succ_iff.1 ((Nat.log2_lt hm).2 ?_);rw [show (a.log2 + k).succ = (a.log2 + 1) + k by omega,Nat.pow_add];exact Nat.mul_lt_mul_of_pos_right ((Nat.log2_lt ha).1 (dD _)) hp
 refine (Nat.le_log2 hm).2 ?_;rw [Nat.pow_add];exact aV _ ((Nat.le_log2 ha).1 (ai _))
theorem Dg {a : Nat} (h : 0 < a) (hs : a < 2 ^ 53) : a.log2 ≤ 52:=Nat.lt_succ_iff.1 ((Nat.log2_lt (by omega)).2 hs)
theorem full {a : Nat} (h : 0 < a) (hs : a < 2 ^ 53) : 2 ^ 52 ≤ a * 2 ^ (52 - a.log2) ∧ a * 2 ^ (52 - a.log2) < 2 ^ 53:=by
 have hl:=Dg h hs;have h1:=(Nat.le_log2 (n:=a) (by omega)).1 (ai _);have h2:=(Nat.log2_lt (n:=a) (by omega)).1 (dD _);have hp : 0 < 2 ^ (52 - a.log2):=Nat.two_pow_pos _;refine ⟨?_,?_⟩
 ·
  have:=aV (2 ^ (52 - a.log2)) h1
  rwa [← Nat.pow_add,show a.log2 + (52 - a.log2) = 52 by omega] at this
 have:=Nat.mul_lt_mul_of_pos_right h2 hp
 rwa [← Nat.pow_add,show a.log2.succ + (52 - a.log2) = 53 by omega] at this
theorem lu (way : Toward) (neg : Bool) (b k : Nat) (h : k ≤ (b * 2 ^ k).log2 + 2 ∨ b = 0) : way.cut neg (b * 2 ^ k) k = b:=by
 unfold Toward.cut;rcases h with h | h
 ·
  rw [bJ h,Nat.shiftLeft_eq,Nat.one_mul];have hp : 0 < 2 ^ k:=Nat.two_pow_pos k;simp only [Nat.mul_div_cancel _ hp,Nat.mul_mod_left]
  cases way <;> cases neg <;> simp <;> omega
 subst h;rw [Nat.zero_mul];have hp : 0 < 1 <<< min k (Nat.log2 0 + 2):=by rw [Nat.shiftLeft_eq,Nat.one_mul]; exact Nat.two_pow_pos _
 simp only [Nat.zero_div,Nat.zero_mod]
 cases way <;> cases neg <;> simp <;> omega
def EI (a : Nat) : Nat:=(a.log2 + 1022) * 2 ^ 52 + a * 2 ^ (52 - a.log2)
theorem jZ (neg : Bool) (a k : Nat) (h : 0 < a) (hs : a < 2 ^ 53) : double.nearest neg (a * 2 ^ k) (-(k : Int)) = double.word neg (EI a):=by
 have hl:=Dg h hs;have hf:=full h hs;have hm : a * 2 ^ k ≠ 0:=Nat.mul_ne_zero (by omega) (by have:=Nat.two_pow_pos k; omega);unfold Format.nearest;rw [ah hm];have hlp : double.leastPlace = -1074:=by decide
 have hb : double.binade = 2 ^ 52:=rfl;have QC:=Eb a k h;have hfr : double.fractionBits = 52:=rfl;have QD : max (-(k : Int) + ((a * 2 ^ k).log2 : Int) - (double.fractionBits : Int)) double.leastPlace = (a.log2 : Int) - 52:=by
  rw [QC,hlp,hfr]; omega
 have QE : Toward.even.cut neg ((a * 2 ^ k) <<< (-(k : Int) - ((a.log2 : Int) - 52)).toNat) ((a.log2 : Int) - 52 - -(k : Int)).toNat = a * 2 ^ (52 - a.log2):=by
  rw [Nat.shiftLeft_eq]
  by_cases hc : k + a.log2 ≤ 52
  ·
   have e1 : (-(k : Int) - ((a.log2 : Int) - 52)).toNat = 52 - a.log2 - k:=by omega
   have e2 : ((a.log2 : Int) - 52 - -(k : Int)).toNat = 0:=by omega
   rw [e1,e2,Nat.mul_assoc,← Nat.pow_add,show k + (52 - a.log2 - k) = 52 - a.log2 by omega];have:=lu .even neg (a * 2 ^ (52 - a.log2)) 0 (.inl (by omega))
   rwa [Nat.pow_zero,Nat.mul_one] at this
  have e1 : (-(k : Int) - ((a.log2 : Int) - 52)).toNat = 0:=by omega
  have e2 : ((a.log2 : Int) - 52 - -(k : Int)).toNat = k - (52 - a.log2):=by omega
  rw [e1,e2,Nat.pow_zero,Nat.mul_one];have e3 : a * 2 ^ k = a * 2 ^ (52 - a.log2) * 2 ^ (k - (52 - a.log2)):=by
   rw [Nat.mul_assoc,← Nat.pow_add,show 52 - a.log2 + (k - (52 - a.log2)) = k by omega]
  rw [e3];refine lu .even neg _ _ (.inl ?_);rw [← e3,QC]; omega
 simp only [QD,QE];have hr : ((a.log2 : Int) - 52 - double.leastPlace).toNat * double.binade + a * 2 ^ (52 - a.log2) = EI a:=by
  rw [hlp,hb,show ((a.log2 : Int) - 52 - -1074).toNat = a.log2 + 1022 by omega]; rfl
 rw [hr,bJ];rw [QB];unfold EI;rw [p52,QA] at *;omega
theorem QF (n : Int) : fb n = double.nearest (decide (n < 0)) n.natAbs 0:=rfl
theorem wr (n : Int) (hs : Small n) (k : Nat) : double.nearest (decide (n < 0)) (n.natAbs * 2 ^ k) (-(k : Int)) = fb n:=by
 rw [QF]
 by_cases h0 : n = 0
 ·
  subst h0;unfold Format.nearest;simp
 have h:=jZ (decide (n < 0)) n.natAbs k (by omega) hs;have h':=jZ (decide (n < 0)) n.natAbs 0 (by omega) hs;rw [Nat.pow_zero,Nat.mul_one] at h';rw [h];exact h'.symm
theorem Hj (neg : Bool) (r : Nat) (h1 : 4503599627370496 ≤ r) (h2 : r < 9218868437227405312) : double.read (double.word neg r) = .number neg (4503599627370496 + r % 4503599627370496) (-1074 + ((r / 4503599627370496 - 1 : Nat) : Int)):=by
 have hlp : double.leastPlace = -1074:=by decide
 have e1 : double.word neg r % 9223372036854775808 = r:=by
  unfold Format.word;rw [Nf]
  cases neg
  ·
   simp only [Bool.false_eq_true,if_false]; omega
  simp only [if_true]; omega
 have e2 : (double.word neg r / 9223372036854775808 % 2 == 1) = neg:=by
  unfold Format.word;rw [Nf]
  cases neg
  ·
   simp only [Bool.false_eq_true,if_false]; rw [beq_eq_false_iff_ne]; omega
  simp only [if_true]; rw [ct]; omega
 unfold Format.read;simp only [Nf,Wa,QB,e1,e2,hlp];rw [ah (by omega),ag h2]
theorem rd (n : Int) (hs : Small n) : ∃ k : Nat,double.read (fb n) = .number (decide (n < 0)) (n.natAbs * 2 ^ k) (-(k : Int)):=by
 by_cases h0 : n = 0
 ·
  subst h0;have e : double.read (fb 0) = .number false 0 (-1074):=rfl;obtain ⟨K,hK⟩ : ∃ K : Nat,K = 1074:=⟨_,rfl⟩
  refine ⟨K,?_⟩;rw [e,Int.natAbs_zero,Nat.zero_mul,hK]
  rfl
 have ha : 0 < n.natAbs:=by omega
 have hl:=Dg ha hs;have hf:=full ha hs;have h:=jZ (decide (n < 0)) n.natAbs 0 ha hs;rw [Nat.pow_zero,Nat.mul_one] at h;have e : fb n = double.word (decide (n < 0)) (EI n.natAbs):=h;have hr : EI n.natAbs = (n.natAbs.log2 + 1022) * 4503599627370496 + n.natAbs * 2 ^ (52 - n.natAbs.log2):=rfl;rw [p52,QA] at hf;have hg : ∃ k,k = 52 - n.natAbs.log2:=⟨_,rfl⟩
 obtain ⟨k,hk⟩:=hg;refine ⟨k,?_⟩;rw [← hk] at hf hr;have hg : ∃ q,q = n.natAbs * 2 ^ k:=⟨_,rfl⟩
 obtain ⟨q,hq⟩:=hg;rw [← hq] at hf hr ⊢;clear hq h;have e1 : 4503599627370496 + EI n.natAbs % 4503599627370496 = q:=by rw [hr]; omega
 have e2 : -1074 + ((EI n.natAbs / 4503599627370496 - 1 : Nat) : Int) = -(k : Int):=by rw [hr]; omega
 rw [e,Hj _ _ (by rw [hr]; omega) (by rw [hr]; omega),e1,e2]
theorem l5 (n : Int) (k up : Nat) : signed (decide (n < 0)) (n.natAbs * 2 ^ k) up = n * (2 ^ (k + up) : Nat):=by
 unfold signed;rw [Nat.shiftLeft_eq,Nat.mul_assoc,← Nat.pow_add]
 by_cases h : n < 0
 ·
  rw [ag (by simpa using h),Int.natCast_mul];rw [show ((n.natAbs : Nat) : Int) = -n by omega,Int.neg_mul,Int.neg_neg]
 rw [ah (by simpa using h),Int.natCast_mul];rw [show ((n.natAbs : Nat) : Int) = n by omega]
theorem Jn (a b : Int) (ha : Small a) (hb : Small b) (hab : Small (a + b)) : double.add (fb a) (fb b) = some (fb (a + b)):=by
 obtain ⟨k,hk⟩:=rd a ha;obtain ⟨j,hj⟩:=rd b hb;unfold Format.add;rw [hk,hj]
 show Option.map double.write (some _) = _
 rw [dE]
 congr 1
 have Ng : min (-(k : Int)) (-(j : Int)) = -((max k j : Nat) : Int):=by omega
 have e1 : (-(k : Int) - -((max k j : Nat) : Int)).toNat = max k j - k:=by omega
 have e2 : (-(j : Int) - -((max k j : Nat) : Int)).toNat = max k j - j:=by omega
 simp only [Ng,e1,e2,l5];rw [show k + (max k j - k) = max k j by omega,show j + (max k j - j) = max k j by omega,← Int.add_mul];generalize max k j = M;have hp : 0 < 2 ^ M:=Nat.two_pow_pos M;have hp' : (0 : Int) < ((2 ^ M : Nat) : Int):=by omega
 have hn : ((a + b) * ((2 ^ M : Nat) : Int)).natAbs = (a + b).natAbs * 2 ^ M:=by rw [Int.natAbs_mul,Int.natAbs_natCast]
 rw [hn];have hsg : (if (a + b) * ((2 ^ M : Nat) : Int) = 0 then decide (a < 0) && decide (b < 0) else decide ((a + b) * ((2 ^ M : Nat) : Int) < 0)) = decide (a + b < 0):=by
  by_cases h0 : a + b = 0
  ·
   rw [ag (by rw [h0,Int.zero_mul]),h0]
   by_cases h1 : a < 0
   ·
    simp [h1]; omega
   simp [h1]
  rw [ah (Int.mul_ne_zero h0 (by omega))];refine decide_eq_decide.2 ⟨fun h => ?_,fun h => Int.mul_neg_of_neg_of_pos h hp'⟩
  by_cases h1 : a + b < 0
  ·
   exact h1
  have:=Int.mul_nonneg (show 0 ≤ a + b by omega) (Int.le_of_lt hp'); omega
 rw [hsg];exact wr (a + b) hab M
theorem Jo (a b : Int) (ha : Small a) (hb : Small b) : double.order (fb a) (fb b) = some (compare a b):=by
 obtain ⟨k,hk⟩:=rd a ha;obtain ⟨j,hj⟩:=rd b hb;unfold Format.order;rw [hk,hj];have Ng : min (-(k : Int)) (-(j : Int)) = -((max k j : Nat) : Int):=by omega
 have e1 : (-(k : Int) - -((max k j : Nat) : Int)).toNat = max k j - k:=by omega
 have e2 : (-(j : Int) - -((max k j : Nat) : Int)).toNat = max k j - j:=by omega
 show some (compare _ _) = _
 simp only [Ng,e1,e2,l5];rw [show k + (max k j - k) = max k j by omega,show j + (max k j - j) = max k j by omega];generalize max k j = M;have hp : 0 < 2 ^ M:=Nat.two_pow_pos M;have hp' : (0 : Int) < ((2 ^ M : Nat) : Int):=by omega
 congr 1
 show compareOfLessAndEq _ _ = compareOfLessAndEq _ _
 unfold compareOfLessAndEq;have h1 : a * ((2 ^ M : Nat) : Int) < b * ((2 ^ M : Nat) : Int) ↔ a < b:=⟨fun h => Int.lt_of_mul_lt_mul_right h (Int.le_of_lt hp'),fun h => Int.mul_lt_mul_of_pos_right h hp'⟩
 have h2 : a * ((2 ^ M : Nat) : Int) = b * ((2 ^ M : Nat) : Int) ↔ a = b:=⟨fun h => Int.eq_of_mul_eq_mul_right (by omega) h,fun h => by rw [h]⟩
 simp only [h1,h2]
theorem Jp (a : Int) (ha : Small a) : (double.read (fb a)).toInt .zero = some a:=by
 obtain ⟨k,hk⟩:=rd a ha;rw [hk];unfold Datum.toInt Datum.integral;have e1 : (-(k : Int)).toNat = 0:=by omega
 have e2 : (- -(k : Int)).toNat = k:=by omega
 simp only [e1,e2,Nat.shiftLeft_zero];have hc : Toward.zero.cut (decide (a < 0)) (a.natAbs * 2 ^ k) k = a.natAbs:=by
  by_cases h0 : a.natAbs = 0
  ·
   rw [h0]; exact lu _ _ 0 k (.inr rfl)
  exact lu _ _ _ k (.inl (by rw [Eb _ _ (by omega)]; omega))
 rw [hc];have:=l5 a 0 0;rw [Nat.pow_zero,Nat.mul_one] at this;rw [this]; simp
end Go.Proofs.YtcgfilmmokmdjaaGreat.Fx
namespace Go.Proofs.YtcgfilmmokmdjaaGreat
open Go.RowKit
theorem tQ (key : Int) (w : World) : Calls Tryz.prog 94 #[.int .u64 key] w fun e w' => e = .returned (.int .i64 (zg key : Int)) ∧ w = w':=by
 have h1 : IntKind.u64.wrap (key * 11400714819323198485) = key * 11400714819323198485 % 18446744073709551616:=by simp [IntKind.wrap,IntKind.signed,IntKind.bits]
 have h2 : (zg key : Int) = key * 11400714819323198485 % 18446744073709551616 / 2305843009213693952:=by unfold zg; omega
 go_enter Tryz.func94,Tryz.ntmps94
 go_wp2_with fail;go_ret;exact ⟨wg h2.symm,rfl⟩
theorem zKu (w : World) : Calls Tryz.prog 103 #[] w fun e w' => e = .returned (yK Sl.nil 0 0) ∧ Below w.heap.size w w':=by
 go_enter Tryz.func103,Tryz.ntmps103
 go_wp2_with fail;exact au (v:=yK Sl.nil 0 0) (by simp [results,Tryz.results103,go_sem,Sl.nil]) rfl ⟨rfl,(aj _ _).alloc (ai _) _⟩
theorem zMH (z : Int) (w : World) : Calls Tryz.prog 53 #[.int .i64 z] w fun e w' => (∃ n : Nat,e = .returned (.int .i64 (n : Int)) ∧ n ≤ 4127 ∧ (0 ≤ z → n = eP z.toNat)) ∧ w = w':=by
 by_cases hz : 0 ≤ z
 ·
  obtain ⟨n,rfl⟩:=dS hz;refine (Qy n w).mono ?_; rintro e w' ⟨rfl,rfl⟩;exact ⟨⟨eP n,rfl,xt n,fun _ => by rw [cS]⟩,rfl⟩
 have hd : decide (z < 0) = true:=by simp; omega
 have HS:=zh hz;clear hz
 go_enter Tryz.func53,Tryz.ntmps53
 go_wp2_with fail;go_ret;exact ⟨⟨0,rfl,by omega,fun h => by have:=HS.out; omega⟩,rfl⟩
theorem zBf (x : It) (w : World) : Calls Tryz.prog 97 #[jS x] w fun e w' => (∃ n : Nat,e = .returned (.int .i64 (n : Int)) ∧ n ≤ 4127 ∧ (0 ≤ x.size → n = eP x.size.toNat)) ∧ Below w.heap.size w w':=by
 have HZ:=zh (fun W => zMH x.size W);obtain ⟨x0,x1,x2,x3⟩:=x;dsimp only at HZ
 go_enter Tryz.func97,Tryz.ntmps97
 go_wp2_with fail;refine (HZ.out _).mono ?_; rintro e w2 ⟨⟨n,rfl,h1,h2⟩,rfl⟩;have H1:=zh h1;have H2:=zh h2;clear h1 h2;go_wp2_with fail;go_ret;exact ⟨⟨n,rfl,H1.out,H2.out⟩,(aj _ _).alloc (ai _) _⟩
theorem tJ (s : Sl) (l g : Int) (w : World) : Calls Tryz.prog 93 #[yK s l g] w fun e w' => e = .returned (.complex .f64 (Fx.fb l) (Fx.fb g)) ∧ Below w.heap.size w w':=by
 go_enter Tryz.func93,Tryz.ntmps93
 go_wp2_with fail;go_ret;exact ⟨rfl,(aj _ _).alloc (ai _) _⟩
theorem zBV (n : Nat) (hn : n ≤ 10000) (w : World) : Calls Tryz.prog 96 #[.int .i64 (n : Int)] w fun e w' => e = .returned (.complex .f64 (Fx.fb (-(n : Int))) (Fx.fb n)) ∧ Below w.heap.size w w':=by
 go_enter Tryz.func96,Tryz.ntmps96
 go_wp2_with fail;go_ret;exact ⟨rfl,aj _ _⟩
theorem zHF (a : Int) (ha : Fx.Small a) : floatToIntVal .f64 (Fx.fb a) .i64 = some a:=by
 have h : a.natAbs < 2 ^ 53:=ha;rw [Fx.QA] at h;unfold floatToIntVal;have : (FloatKind.f64.decode (Fx.fb a)).toInt .zero = some a:=Fx.Jp a ha;rw [this];simp only [IntKind.min,IntKind.max,IntKind.signed,IntKind.bits];rw [ag];simp; omega
theorem Wb (s : Sl) (l0 g0 l g : Int) (hl : Fx.Small l) (hg : Fx.Small g) (w : World) : Calls Tryz.prog 92 #[yK s l0 g0,.complex .f64 (Fx.fb l) (Fx.fb g)] w fun e w' => e = .returned (yK s l g) ∧ Below w.heap.size w w':=by
 have h1:=fun W => run_convert_float_int (P:=Tryz.prog) W 170 2 .f64 .i64 (Fx.fb l) l (by kernel_rfl) Tryz.underlying2 (zHF l hl)
 have h2:=fun W => run_convert_float_int (P:=Tryz.prog) W 170 2 .f64 .i64 (Fx.fb g) g (by kernel_rfl) Tryz.underlying2 (zHF g hg)
 generalize Fx.fb l = bl at *;generalize Fx.fb g = bg at *
 go_enter Tryz.func92,Tryz.ntmps92
 go_wp2_with fail;exact au (v:=yK s l g) (by simp [results,Tryz.results92,go_sem]) rfl ⟨rfl,((aj _ _).alloc (ai _) _).alloc (by simp) _⟩
theorem zAq (key : Int) (w : World) : Calls Tryz.prog 162 #[.int .u64 key] w fun e w' => e = .returned (.int .i64 (zg key : Int)) ∧ w = w':=by
 have h1 : IntKind.u64.wrap (key * 11400714819323198485) = key * 11400714819323198485 % 18446744073709551616:=by simp [IntKind.wrap,IntKind.signed,IntKind.bits]
 have h2 : (zg key : Int) = key * 11400714819323198485 % 18446744073709551616 / 2305843009213693952:=by unfold zg; omega
 go_enter Tryz.func162,Tryz.ntmps162
 go_wp2_with fail;go_ret;exact ⟨wg h2.symm,rfl⟩
theorem Wd (z : Int) (hz : 0 ≤ z) (w : World) : Calls Tryz.prog 28 #[.int .i64 z] w fun e w' => e = .returned (.int .i64 (eP z.toNat : Int)) ∧ w = w':=by
 obtain ⟨n,rfl⟩:=dS hz;rw [cS];exact Qz n w
theorem zDL {T : List It} {n : Nat} (h : n < T.length) : zu (T.take (n + 1)) = zu (T.take n) + eP (d_ T n).size.toNat:=by
 rw [xH h,xM]; rfl
theorem zAr (v : Value) (l : List It) (w : World) (h : i_ w v l) (hp : ∀ x ∈ l,0 ≤ x.size) (hs : l.length ≤ 1000000) :
  Calls Tryz.prog 163 #[v] w fun e w' => e = .returned (.int .i64 (zu l : Int)) ∧ Below w.heap.size w w':=by
 obtain ⟨a,cap,rfl,_,_⟩:=h.shape;have Hr:=zh h;have HP:=zh (fun j (h : j < l.length) => hp _ (qV h));have HS:=zh (fun j (h : j < l.length) => zDL h);have HE:=zh (show zu (l.take l.length) = zu l by rw [cm])
 have HB:=zh (fun j => show zu (l.take j) ≤ 4127000000 from by
  have:=qP (l.take j)
  rw [ay] at this
  have : min j l.length * 4127 ≤ 1000000 * 4127:=aV _ (by omega)
  omega)
 generalize hn : l.length = n at *;clear h hp hn
 go_enter Tryz.func163,Tryz.ntmps163
 go_wp2_with fail
 go_loopw [3,4] (fun sv iv W => ∃ i p : Nat,iv = .int .i64 (i : Int) ∧ sv = .int .i64 (p : Int) ∧ i ≤ n ∧ Hid (p = zu (l.take i)) ∧ Hid (Below w.heap.size w W)) (fun _ iv _ => n - (intOf iv).toNat)
 case atStart => exact ⟨0,0,by rfl,rfl,aq _,zh rfl,zh (aj _ _)⟩
 obtain ⟨i,p,rfl,rfl,hi,Hm,Hb⟩:=hrel
 by_cases hin : i < n
 ·
  obtain ⟨pb,Nh,rfl,c0,c1,c2,c3⟩:=(Hr.out.below Hb.out).at hin;have hS:=HS.out i hin;have hB:=HB.out (i + 1);have hZ:=HP.out i hin;generalize d_ l i = x at *;obtain ⟨x0,x1,x2,x3⟩:=x;dsimp only at *;have HZ:=zh (fun W => Wd x3 hZ W);generalize eP x3.toNat = z at *;rw [hS,← Hm.out] at hB;have HN:=zh (show p + z = zu (l.take (i + 1)) by rw [hS,Hm.out]);have hpz : IntKind.i64.wrap ((p : Int) + (z : Int)) = ((p + z : Nat) : Int):=(aF _ (by omega)).trans (by omega);have i1 : (i : Int) < (n : Int):=by omega
  clear hS hZ;go_wp2_with fail;refine (HZ.out _).mono ?_; rintro e w2 ⟨rfl,rfl⟩;go_wp2_with fail;exact ⟨⟨i + 1,p + z,by go_num,rfl,by omega,HN,Hb⟩,by simp [intOf]; omega⟩
 obtain rfl : i = n:=by omega
 have HF:=zh (Hm.out.trans HE.out);go_wp2_with fail;go_ret;exact ⟨wg (by rw [HF.out]),Hb.out⟩
theorem zE1 (s : Sl) {i : Nat} (hi : i < 8) (W : World) : (Instr.index 34 (.agg (zM2 s)) (.int .i64 (i : Int))).run Tryz.prog W = .ok (s.v i) W:=by
 rcases Nc hi with h | h | h | h | h | h | h | h <;> subst h <;> rfl
theorem zGp {M : Mp} {i : Nat} (hi : i < 8) (h : DO M i = false) : xA M = false:=by
 unfold xA;have : (List.range 8).all (DO M) = false:=by
  rw [List.all_eq_false];exact ⟨i,List.mem_range.2 hi,by rw [h]; simp⟩
 rw [this]; rfl
theorem zFS {M : Mp} (h : ∀ i,i < 8 → DO M i = true) : xA M = ((M.live == (zu (vS M) : Int)) && decide (0 ≤ M.dZ) && decide (M.dZ ≤ 1099511627776)):=by
 unfold xA;have : (List.range 8).all (DO M) = true:=List.all_eq_true.2 fun i hi => h i (List.mem_range.1 hi)
 rw [this,cT]
theorem zG5 {M : Mp} {i : Nat} (h : xx (M.st i) = false) : DO M i = false:=by unfold DO; rw [h]; rfl
theorem zG8 {M : Mp} {i j : Nat} (hj : j < (M.st i).length) (h : zg (d_ (M.st i) j).key ≠ i) : DO M i = false:=by
 unfold DO;rw [qS hj (by simpa using h),Bool.and_false]
theorem zGf {M : Mp} {i : Nat} (h : xx (M.st i) = true) (h2 : ∀ j,j < (M.st i).length → zg (d_ (M.st i) j).key = i) : DO M i = true:=by
 unfold DO;rw [h,kj fun j hj => by simpa using h2 j hj]; rfl
theorem kI {M : Mp} {B : Nat} (h : ∀ i,i < 8 → (M.st i).length ≤ B) : ∀ n,n ≤ 8 → (cat M.st n).length ≤ n * B
 | 0,_ => by simp [cat]
 | n + 1,hn => by
  have ih:=kI h n (by omega)
  show (cat M.st n ++ M.st n).length ≤ _
  rw [ax,cO];have:=h n (by omega);omega
theorem kx {l : List It} (h : xx l = true) : ∀ x ∈ l,0 ≤ x.size:=fun x hx => ((un.1 h).2 x hx).2.2.2.1
theorem vz (s : Sl) (M : Mp) (w : World) (h : fq w s M.st) (hs : ∀ i,i < 8 → (M.st i).length ≤ 100000) :
  Calls Tryz.prog 87 #[yK s M.live M.dZ] w fun e w' => e = .returned (.bool (xA M)) ∧ Below w.heap.size w w':=by
 have Hr:=zh h;have HV:=zh (fun i (hi : i < 8) W (hb : Below w.heap.size w W) => zGg (s.v i) (M.st i) W ((h i hi).below hb));have HI:=zh (fun i (hi : i < 8) => zE1 s hi);have HL:=zh (fun i (hi : i < 8) => h.n hi);have iW:=zh hs;have iB:=zh (fun i (hi : i < 8) (h : DO M i = false) => zGp hi h);have Bg:=zh (fun h => zFS (M:=M) h)
 have Ni:=zh (fun n (hn : n ≤ 8) => show zu (cat M.st n) ≤ 3301600000 from by
  have h1:=kI hs n hn
  have h2:=qP (cat M.st n)
  have : (cat M.st n).length * 4127 ≤ (8 * 100000) * 4127:=aV _ (ak h1 (aV _ hn))
  omega)
 have HA:=zh (show vS M = cat M.st 8 from rfl);clear h hs;obtain ⟨f,L,G⟩:=M;dsimp only at *
 go_enter Tryz.func87,Tryz.ntmps87
 go_wp2_with fail;obtain ⟨W0,hW0,eQ,HL0,VI⟩ : ∃ W0,w.alloc (.cells (yj s L G) 36) = W0 ∧ Hid (Below w.heap.size w W0) ∧ Hid (W0.cell? ⟨w.heap.size,8,none⟩ = some (.int .i64 L)) ∧ Hid (W0.cell? ⟨w.heap.size,9,none⟩ = some (.int .i64 G)):=⟨_,rfl,zh ((aj _ _).alloc (ai _) _),zh (by simp),zh (by simp)⟩
 try rw [hW0]
 clear hW0
 go_loopw [3,10] (fun lv iv W => ∃ i p : Nat,iv = .int .i64 (i : Int) ∧ lv = .int .i64 (p : Int) ∧ i ≤ 8 ∧ Hid (∀ j,j < i → DO ⟨f,L,G⟩ j = true) ∧ Hid (p = zu (cat f i)) ∧ Hid (Below W0.heap.size W0 W)) (fun _ iv _ => 8 - (intOf iv).toNat)
 case atStart => exact ⟨0,0,rfl,rfl,aq _,zh (fun j hj => by omega),zh rfl,zh (aj _ _)⟩
 obtain ⟨i,p,rfl,rfl,hi,mj,Hp,HB⟩:=hrel
 by_cases hin : i < 8
 ·
  have i1 : (i : Int) < 8:=by omega
  have hI:=HI.out i hin;have hL:=HL.out i hin;have jw:=zh (zA eQ.out HB.out);have ri:=zh (HV.out i hin wr jw.out);have ja:=zh ((Hr.out i hin).below jw.out);have DR : s.v i = .slice (s.a i) (s.n i) (s.c i):=rfl;rw [DR] at ri ja hI;have Ce:=iW.out i hin;have hT:=Ni.out (i + 1) (by omega);have hcs : cat f (i + 1) = cat f i ++ f i:=rfl;rw [hcs,xM,← Hp.out] at hT;have Wh:=zh (show zu (cat f (i + 1)) = p + zu (f i) by rw [hcs,xM,Hp.out]);rw [hL] at ri ja hI;generalize s.a i = sa at *;generalize s.c i = sc at *;have Nj:=zh (iB.out i hin);have HY:=zh (fun h1 h2 => zGf (M:=⟨f,L,G⟩) (i:=i) h1 h2);have Hl:=zh (fun h => Nj.out (zG5 (M:=⟨f,L,G⟩) (i:=i) h));have Dh:=zh (fun j h1 h2 => Nj.out (zG8 (M:=⟨f,L,G⟩) (i:=i) (j:=j) h1 h2));have jM:=zh (fun j (h : j < (f i).length) => zDL h)
  have HSe:=zh (show zu ((f i).take (f i).length) = zu (f i) by rw [cm])
  have Wi:=zh (fun j => show zu ((f i).take j) ≤ zu (f i) from by
   have : zu ((f i).take j ++ (f i).drop j) = zu (f i):=by rw [bN]
   rw [xM] at this; omega)
  have Wj:=zh (fun h => kx (l:=f i) h);dsimp only at HY Hl Dh;generalize f i = l at *;clear hL DR hcs Nj
  by_cases hv : xx l = true
  ·
   rw [hv] at ri;have Wk:=zh (fun j (h : j < l.length) => Wj.out hv _ (qV h));generalize hn : l.length = n at *;clear hn;go_wp2_with fail;refine ri.out.mono ?_; rintro e w2 ⟨rfl,hb2⟩;have eV:=zh (zA HB.out hb2);have gj:=zh (ja.out.below hb2);clear hb2 ri jw HB ja;go_wp2_with fail
   go_loopw [3,19] (fun lv jv W => ∃ j q : Nat,jv = .int .i64 (j : Int) ∧ lv = .int .i64 ((p + q : Nat) : Int) ∧ j ≤ n ∧ Hid (∀ r,r < j → zg (d_ l r).key = i) ∧ Hid (q = zu (l.take j)) ∧ Hid (Below w2.heap.size w2 W)) (fun _ jv _ => n - (intOf jv).toNat)
   case atStart => exact ⟨0,0,rfl,rfl,aq _,zh (fun j hj => by omega),zh rfl,zh (aj _ _)⟩
   obtain ⟨j,q,rfl,rfl,hj,QG,Hq,Bh⟩:=hrel
   by_cases hjn : j < n
   ·
    obtain ⟨pb,Nh,rfl,c0,c1,c2,c3⟩:=(gj.out.below Bh.out).at hjn;have i2 : (j : Int) < (n : Int):=by omega
    have Wl:=jM.out j hjn;have hS2:=Wi.out (j + 1);have hpos:=Wk.out j hjn;have EJ:=zh (Dh.out j hjn)
    have HK:=zh (fun (hk : zg (d_ l j).key = i) r (hr : r < j + 1) => show zg (d_ l r).key = i from by
     by_cases e : r = j
     ·
      rw [e]; exact hk
     exact QG.out r (by omega))
    rw [Wl,← Hq.out] at hS2;generalize d_ l j = x at *;have iL:=zh (fun W => zBf x W);have eG:=zh (show Below wr.heap.size wr (wr.alloc (xO x)) from zz wr x);have HS:=zh (fun W => tQ x.key W);generalize hk : zg x.key = k at *;have jI : k < 8:=by rw [← hk]; exact we _
    obtain ⟨x0,x1,x2,x3⟩:=x;dsimp only at *;clear hk
    by_cases hki : k = i
    ·
     have g1 : ((k : Int) != (i : Int)) = false:=by rw [bne_eq_false_iff_eq]; omega
     have Jj:=zh (HK.out hki);clear hki EJ HK;go_wp2_with fail;refine (HS.out _).mono ?_; rintro e w3 ⟨rfl,rfl⟩;go_wp2_with fail;refine (iL.out _).mono ?_; rintro e w4 ⟨⟨z,rfl,hz,hz2⟩,hb4⟩;have hz3:=hz2 hpos;have fZ:=zh (zA Bh.out (zA eG.out hb4));have HQ:=zh (show q + z = zu (l.take (j + 1)) by rw [Wl,Hq.out,hz3]);rw [← hz3] at hS2;have hw : IntKind.i64.wrap (((p + q : Nat) : Int) + (z : Int)) = ((p + (q + z) : Nat) : Int):=(aF _ (by omega)).trans (by omega);rw [cH] at hw;clear hb4 hz2 hz3 Wl;go_wp2_with fail;exact ⟨⟨j + 1,q + z,by go_num,by simp,by omega,Jj,HQ,fZ⟩,by simp [intOf]; omega⟩
    have g1 : ((k : Int) != (i : Int)) = true:=bne_iff_ne.2 (by omega);have HF:=zh (EJ.out hki);have ey:=zh (zA eQ.out (zA eV.out (zA Bh.out eG.out)));clear hki EJ HK;go_wp2_with fail;refine (HS.out _).mono ?_; rintro e w3 ⟨rfl,rfl⟩;go_wp2_with fail;go_ret;exact ⟨zH HF.out.symm,ey.out⟩
   obtain rfl : j = n:=by omega
   have Jq:=zh (show ∀ r,r < i + 1 → DO ⟨f,L,G⟩ r = true from fun r hr => by
    by_cases e : r = i
    ·
     rw [e]; exact HY.out hv QG.out
    exact mj.out r (by omega))
   have DS:=zh (show p + q = zu (cat f (i + 1)) by rw [Wh.out,Hq.out,HSe.out]);have ey:=zh (zA eV.out Bh.out);go_wp2_with fail;exact ⟨⟨i + 1,p + q,by go_num,by simp,by omega,Jq,DS,ey⟩,by simp [intOf]; omega⟩
  have hv' : xx l = false:=by simpa using hv
  have HF:=zh (Hl.out hv');rw [hv'] at ri;generalize l.length = n at *;go_wp2_with fail;refine ri.out.mono ?_; rintro e w2 ⟨rfl,hb2⟩;have eV:=zh (zA jw.out hb2);clear hb2;go_wp2_with fail;go_ret;exact ⟨zH HF.out.symm,eV.out⟩
 obtain rfl : i = 8:=by omega
 have hall:=Bg.out mj.out;rw [HA.out] at hall;rw [← Hp.out] at hall;have HF:=zh hall;have e8:=Below.keeps HB.out _ _ HL0.out;have e9:=Below.keeps HB.out _ _ VI.out;have ey:=zh (zA eQ.out HB.out);clear hall
 by_cases g1 : L = (p : Int)
 ·
  have q1 : (L == (p : Int)) = true:=beq_iff_eq.2 g1;rw [q1] at HF
  by_cases g2 : 0 ≤ G
  ·
   have q2 : decide (0 ≤ G) = true:=by simpa using g2
   rw [q2] at HF;clear g1;go_wp2_with fail;go_ret;exact ⟨zH (by rw [HF.out]; simp),ey.out⟩
  have q2 : decide (0 ≤ G) = false:=by simpa using g2
  rw [q2] at HF;clear g1;go_wp2_with fail;go_ret;exact ⟨zH (by rw [HF.out]; simp),ey.out⟩
 have q1 : (L == (p : Int)) = false:=beq_eq_false_iff_ne.2 g1;rw [q1] at HF;go_wp2_with fail;go_ret;exact ⟨zH (by rw [HF.out]; simp),ey.out⟩
theorem za (w : World) (s : Sl) (l g : Int) (t : TypeId) : Below w.heap.size w (w.alloc (.cells (yj s l g) t)):=(aj _ _).alloc (ai _) _
theorem uP (s : Sl) (M : Mp) (w : World) (h : fq w s M.st) (hs : ∀ i,i < 8 → (M.st i).length ≤ 100000) :
  Calls Tryz.prog 121 #[yK s M.live M.dZ] w fun e w' => e = .returned (.bool (xA M)) ∧ Below w.heap.size w w':=by
 have Hr:=zh h;have HV:=zh (fun i (hi : i < 8) W (hb : Below w.heap.size w W) => zI0 (s.v i) (M.st i) W ((h i hi).below hb));have HL:=zh (fun i (hi : i < 8) => h.n hi);have iW:=zh hs;have iB:=zh (fun i (hi : i < 8) (h : DO M i = false) => zGp hi h);have Bg:=zh (fun h => zFS (M:=M) h)
 have Ni:=zh (fun n (hn : n ≤ 8) => show zu (cat M.st n) ≤ 3301600000 from by
  have h1:=kI hs n hn
  have h2:=qP (cat M.st n)
  have : (cat M.st n).length * 4127 ≤ (8 * 100000) * 4127:=aV _ (ak h1 (aV _ hn))
  omega)
 have HA:=zh (show vS M = cat M.st 8 from rfl);clear h hs;obtain ⟨f,L,G⟩:=M;dsimp only at *;have eG:=zh (eM.new w s L G 111);have eQ:=zh (za w s L G 111)
 go_enter Tryz.func121,Tryz.ntmps121
 go_wp2_with fail;obtain ⟨W0,hW0⟩ : ∃ W0,w.alloc (.cells (yj s L G) 111) = W0:=⟨_,rfl⟩
 rw [hW0] at eG eQ
 try rw [hW0]
 clear hW0
 go_loopw [3,4] (fun lv iv W => ∃ i p : Nat,iv = .int .i64 (i : Int) ∧ lv = .int .i64 (p : Int) ∧ i ≤ 8 ∧ Hid (∀ j,j < i → DO ⟨f,L,G⟩ j = true) ∧ Hid (p = zu (cat f i)) ∧ Hid (Below W0.heap.size W0 W)) (fun _ iv _ => 8 - (intOf iv).toNat)
 case atStart => exact ⟨0,0,rfl,rfl,aq _,zh (fun j hj => by omega),zh rfl,zh (aj _ _)⟩
 obtain ⟨i,p,rfl,rfl,hi,mj,Hp,HB⟩:=hrel;have jw:=zh (show Below w.heap.size w wr from zA eQ.out HB.out)
 by_cases hin : i < 8
 ·
  have i1 : (i : Int) < 8:=by omega
  have hL:=HL.out i hin;have ri:=zh (HV.out i hin wr jw.out);have ja:=zh ((Hr.out i hin).below jw.out);have DR : s.v i = .slice (s.a i) (s.n i) (s.c i):=rfl;have ci:=eG.out.c i hin;rw [DR] at ri ja ci;have hT:=Ni.out (i + 1) (by omega);have hcs : cat f (i + 1) = cat f i ++ f i:=rfl;rw [hcs,xM,← Hp.out] at hT;have Wh:=zh (show zu (cat f (i + 1)) = p + zu (f i) by rw [hcs,xM,Hp.out]);rw [hL] at ri ja ci;generalize s.a i = sa at *;generalize s.c i = sc at *;have Nj:=zh (iB.out i hin);have HY:=zh (fun h1 h2 => zGf (M:=⟨f,L,G⟩) (i:=i) h1 h2);have Hl:=zh (fun h => Nj.out (zG5 (M:=⟨f,L,G⟩) (i:=i) h));have Dh:=zh (fun j h1 h2 => Nj.out (zG8 (M:=⟨f,L,G⟩) (i:=i) (j:=j) h1 h2));have Wj:=zh (fun h => kx (l:=f i) h);have Ce:=iW.out i hin;dsimp only at HY Hl Dh;have Ko:=zh ci;generalize f i = l at *;clear hL DR hcs Nj ci
  by_cases hv : xx l = true
  ·
   rw [hv] at ri;have CN:=zh (fun a n c W (h : i_ W (.slice a n c) l) => zAr (.slice a n c) l W h (Wj.out hv) (by omega));generalize hn : l.length = n at *;clear hn;have c1:=Below.keeps HB.out _ _ Ko.out;go_wp2_with fail;refine ri.out.mono ?_; rintro e w2 ⟨rfl,hb2⟩;have eV:=zh (zA HB.out hb2);have gj:=zh (ja.out.below hb2);clear hb2 ri HB ja c1;go_wp2_with fail
   go_loopw [5] (fun jv W => ∃ j : Nat,jv = .int .i64 (j : Int) ∧ j ≤ n ∧ Hid (∀ r,r < j → zg (d_ l r).key = i) ∧ Hid (Below w2.heap.size w2 W)) (fun jv _ => n - (intOf jv).toNat)
   case atStart => exact ⟨0,rfl,aq _,zh (fun j hj => by omega),zh (aj _ _)⟩
   obtain ⟨j,rfl,hj,QG,Bh⟩:=hrel;have c1:=Below.keeps (zA eV.out Bh.out) _ _ Ko.out
   by_cases hjn : j < n
   ·
    obtain ⟨pb,Nh,rfl,e0,e1,e2,e3⟩:=(gj.out.below Bh.out).at hjn;have i2 : (j : Int) < (n : Int):=by omega
    have EJ:=zh (Dh.out j hjn)
    have HK:=zh (fun (hk : zg (d_ l j).key = i) r (hr : r < j + 1) => show zg (d_ l r).key = i from by
     by_cases e : r = j
     ·
      rw [e]; exact hk
     exact QG.out r (by omega))
    generalize d_ l j = x at *;have HS:=zh (fun W => zAq x.key W);generalize hk : zg x.key = k at *;have jI : k < 8:=by rw [← hk]; exact we _
    obtain ⟨x0,x1,x2,x3⟩:=x;dsimp only at *;clear hk
    by_cases hki : k = i
    ·
     have g1 : ((k : Int) != (i : Int)) = false:=by rw [bne_eq_false_iff_eq]; omega
     have Jj:=zh (HK.out hki);clear hki EJ HK;go_wp2_with fail;refine (HS.out _).mono ?_; rintro e w3 ⟨rfl,rfl⟩;go_wp2_with fail;exact ⟨⟨j + 1,by go_num,by omega,Jj,Bh⟩,by simp [intOf]; omega⟩
    have g1 : ((k : Int) != (i : Int)) = true:=bne_iff_ne.2 (by omega);have HF:=zh (EJ.out hki);have ey:=zh (show Below w.heap.size w wr from zA eQ.out (zA eV.out Bh.out));clear hki EJ HK;go_wp2_with fail;refine (HS.out _).mono ?_; rintro e w3 ⟨rfl,rfl⟩;go_wp2_with fail;go_ret;exact ⟨zH HF.out.symm,ey.out⟩
   obtain rfl : j = n:=by omega
   have Jq:=zh (show ∀ r,r < i + 1 → DO ⟨f,L,G⟩ r = true from fun r hr => by
    by_cases e : r = i
    ·
     rw [e]; exact HY.out hv QG.out
    exact mj.out r (by omega))
   have Cf:=zh (CN.out _ _ _ wr (gj.out.below Bh.out));generalize zu l = q at *;have hw : IntKind.i64.wrap ((p : Int) + (q : Int)) = ((p + q : Nat) : Int):=(aF _ (by omega)).trans (by omega);go_wp2_with fail;refine Cf.out.mono ?_; rintro e w3 ⟨rfl,hb3⟩;have ey:=zh (zA (zA eV.out Bh.out) hb3);clear hb3;go_wp2_with fail;exact ⟨⟨i + 1,p + q,by go_num,rfl,by omega,Jq,zh Wh.out.symm,ey⟩,by simp [intOf]; omega⟩
  have hv' : xx l = false:=by simpa using hv
  have HF:=zh (Hl.out hv');rw [hv'] at ri;generalize l.length = n at *;have c1:=Below.keeps HB.out _ _ Ko.out;go_wp2_with fail;refine ri.out.mono ?_; rintro e w2 ⟨rfl,hb2⟩;have eV:=zh (zA jw.out hb2);clear hb2;go_wp2_with fail;go_ret;exact ⟨zH HF.out.symm,eV.out⟩
 obtain rfl : i = 8:=by omega
 have hall:=Bg.out mj.out;rw [HA.out] at hall;rw [← Hp.out] at hall;have HF:=zh hall;have e8:=Below.keeps HB.out _ _ eG.out.cl;have e9:=Below.keeps HB.out _ _ eG.out.cg;have ey:=jw;clear hall
 by_cases g1 : L = (p : Int)
 ·
  have q1 : (L == (p : Int)) = true:=beq_iff_eq.2 g1;rw [q1] at HF
  by_cases g2 : 0 ≤ G
  ·
   have q2 : decide (0 ≤ G) = true:=by simpa using g2
   rw [q2] at HF;clear g1;go_wp2_with fail;go_ret;exact ⟨zH (by rw [HF.out]; simp),ey.out⟩
  have q2 : decide (0 ≤ G) = false:=by simpa using g2
  rw [q2] at HF;clear g1;go_wp2_with fail;go_ret;exact ⟨zH (by rw [HF.out]; simp),ey.out⟩
 have q1 : (L == (p : Int)) = false:=beq_eq_false_iff_ne.2 g1;rw [q1] at HF;go_wp2_with fail;go_ret;exact ⟨zH (by rw [HF.out]; simp),ey.out⟩
end Go.Proofs.YtcgfilmmokmdjaaGreat
