/- A part of the walk. -/
import Derived.Test.YtcgfilmmokmdjaaGreatQAA
import Derived.Test.YtcgfilmmokmdjaaGreatBae
import Derived.Test.YtcgfilmmokmdjaaGreatQAI
import Derived.Test.YtcgfilmmokmdjaaGreatHd
import Derived.Test.YtcgfilmmokmdjaaGreatQAH
import Derived.Laws.Bits128
import Derived.Test.YtcgfilmmokmdjaaGreatGv
import Derived.Test.YtcgfilmmokmdjaaGreatQAD
import Derived.StillTailTactics
set_option linter.all false
set_option maxRecDepth 100000
set_option maxHeartbeats 32000000
namespace Go.Proofs.YtcgfilmmokmdjaaGreat
structure Rec where
 off : Int
 nd : Nd
 deriving DecidableEq
structure Rc where
 slot : Nat
 gen : Nat
 rev : Nat
 deriving DecidableEq
def Xg (s : Rc) : Prop := s.slot < 4 ∧ 1 ≤ s.gen ∧ s.gen ≤ 8 ∧ s.rev ≤ 4294967295
instance (s : Rc) : Decidable (Xg s) := by unfold Xg; exact inferInstance
def zMO : List UInt8 := [78, 86, 79, 76]
def Rf (s : Rc) : List UInt8 := zMO ++ be s.slot 2 ++ be s.gen 2 ++ be s.rev 4
def Xh (k : List Nd) : List UInt8 := k.flatMap Uv
def whole : List Nd → Nat → Nat
 | [], _ => 0
 | x :: k, m => if m < oQ x.data.length then 0 else whole k (m - oQ x.data.length) + 1
end Go.Proofs.YtcgfilmmokmdjaaGreat
namespace Go.Proofs.YtcgfilmmokmdjaaGreat
open Go.RowKit
def zMK (x : Nd) : Int := if 4096 < x.data.length then 8 else 1
def NQ : List Nd → Int × List UInt8
 | [] => (0, [])
 | x :: r => if x.ok then (if (NQ r).1 = 0 then (0, Uv x ++ (NQ r).2) else ((NQ r).1, [])) else (zMK x, [])
abbrev NR (ey : Bool) (tk : Int) (kv nv rv : Value) : Value := .agg #[.bool ey, .int .i64 tk, kv, nv, rv]
abbrev xD (ey : Bool) (tk : Int) (kv nv rv : Value) : Array Value := #[.bool ey, .int .i64 tk, kv, nv, rv]
end Go.Proofs.YtcgfilmmokmdjaaGreat
namespace Go.Proofs.YtcgfilmmokmdjaaGreat
def xP : eL := ⟨0, 0, false, []⟩
def zS (s : eL) : Gn := eN s.dU (s.dU.length - 1)
noncomputable def uG (s : eL) : Int × Gn := if zg s = true then (0, zS s) else (1, fW)
noncomputable def xe (s : eL) : Bool := zg s && decide ((zS s).num < 8)
noncomputable def wW (s : eL) (n : Int) : Bool := zg s && (decide (0 ≤ n) && decide (n ≤ 4096)) && decide ((zS s).size + (eM n.toNat : Nat) ≤ s.lim)
def kF (l : List Gn) (key : Int) : Nat → List Int
 | 0 => []
 | n + 1 => kF l key n ++ (match ze (eN l n).m key with | some _ => [(eN l n).num] | none => [])
noncomputable def zk (s : eL) (key : Int) : List Int := if zg s = true then kF s.dU key (s.dU.length - 1) else []
theorem Rg (l : List Gn) (key : Int) : ∀ n m, m ≤ n → ((xu l key n).reverse.filter fun x => decide (x.at_ < m)).map (·.gen) = kF l key m
 | 0, m, h => by
  obtain rfl : m = 0 := by omega
  rfl
 | n + 1, m, h => by
  unfold xu;rw [List.reverse_append, cQ, bV]
  by_cases hm : m ≤ n
  ·
   rw [Rg l key n m hm]
   cases hg : ze (eN l n).m key with
   | none => simp
   | some x => simp [show ¬ n < m by omega]
  obtain rfl : m = n + 1 := by omega
  have hr := Rg l key n n (ai _);have hall : ∀ k, ∀ x ∈ xu l key k, x.at_ < k := by
   intro k
   induction k with
   | zero => intro x hx; cases hx
   | succ k ih =>
    intro x hx;unfold xu at hx;rcases List.mem_append.1 hx with hx | hx
    ·
     cases hg : ze (eN l k).m key with
     | none => rw [hg] at hx; cases hx
     | some y => rw [hg] at hx; obtain rfl := List.mem_singleton.1 hx; exact dA k
    exact Nat.lt_succ_of_lt (ih x hx)
  have e1 : ((xu l key n).reverse.filter fun x => decide (x.at_ < n + 1)) = (xu l key n).reverse.filter fun x => decide (x.at_ < n) := by
   refine List.filter_congr fun x hx => ?_
   have := hall n x (List.mem_reverse.1 hx);simp [this, Nat.lt_succ_of_lt this]
  rw [e1, hr]
  show _ = kF l key n ++ _
  cases hg : ze (eN l n).m key with
  | none => simp
  | some x => simp
noncomputable def zMT (i l : Int) : eL × Int := if zg ⟨i, l, false, [fresh 1]⟩ = true then (⟨i, l, false, [fresh 1]⟩, 0) else (xP, 1)
noncomputable def xO (s : eL) : eL × Int :=
 if zg s = true then (if (zS s).num < 8 then (⟨s.id, s.lim, s.ro, s.dU.take (s.dU.length - 1) ++ [{ zS s with mode := 2 }, fresh ((zS s).num + 1)]⟩, 0) else (xP, 9)) else (xP, 1)
def uV (l : List Gn) (g : Gn) : List Gn := l.map fun x => if x.num = g.num then g else x
noncomputable def yb (s : eL) (g : Gn) : eL × Int :=
 if zg s = true then (if (s.dU.any fun x => decide (x.num = g.num)) = true then (if zg ⟨s.id, s.lim, s.ro, uV s.dU g⟩ = true then (⟨s.id, s.lim, s.ro, uV s.dU g⟩, 0) else (xP, 1)) else (xP, 6)) else (xP, 1)
theorem Rh {l : List Gn} {k i : Nat} (h : i < k) (hk : k ≤ l.length) (r : List Gn) : eN (l.take k ++ r) i = eN l i := by
 unfold eN;rw [ax, ax, dP (by rw [ay]; omega), List.getElem?_take_of_lt h]
theorem NS {l : List Gn} {k : Nat} (hk : k ≤ l.length) (r : List Gn) (q : Nat) : eN (l.take k ++ r) (k + q) = eN r q := by
 unfold eN;rw [ax, ax, dD (by rw [ay]; omega), ay]
 congr 2
 omega
theorem Xi (n : Int) : zI (fresh n).m = [] := by
 unfold zI;rw [ag (k9 n)]
 rfl
theorem eo.num {s : eL} (h : eo s) : ∀ i, i < s.dU.length → (i : Int) + 1 ≤ (eN s.dU i).num
 | 0, hi => by have := (h.vg hi).num; omega
 | i + 1, hi => by
  have h1 := eo.num h i (by omega);have h2 := (h.g (i + 1) hi).2.1 (by omega);rw [show i + 1 - 1 = i by omega] at h2;omega
theorem eo.sR {s : eL} (h : eo s) : ja (zS s) ∧ (zS s).mode = 1 ∧ (zS s).size ≤ 2 * s.lim := by
 have hl := h.len;have hi : s.dU.length - 1 < s.dU.length := by omega
 obtain ⟨h1, h2, h3, h4⟩ := h.g _ hi;exact ⟨(yD _).1 h1, h3.2 (by omega), h4⟩
theorem zJv {s : eL} (h : (xO s).2 = 0) : eo (xO s).1 := by
 unfold xO at h ⊢
 by_cases hv : zg s = true
 ·
  rw [ag hv] at h ⊢
  by_cases hn : (zS s).num < 8
  ·
   rw [ag hn] at h ⊢;have hV := (zR s).1 hv;obtain ⟨ht, hm, hs⟩ := hV.sR;have hl := hV.len;have jt := hV.num (s.dU.length - 1) (by omega);have jt : ((s.dU.length - 1 : Nat) : Int) + 1 ≤ (zS s).num := jt;have hk : s.dU.length - 1 ≤ s.dU.length := by omega
   have hlen : (s.dU.take (s.dU.length - 1) ++ [{ zS s with mode := 2 }, fresh ((zS s).num + 1)]).length = s.dU.length + 1 := by
    simp only [aA, ay, aX, dI]; omega
   have hf := (k6 ((zS s).num + 1)).2 (by omega);refine ⟨hV.id, hV.lim, by dsimp only; rw [hlen]; omega, fun i hi => ?_, ?_⟩
   ·
    dsimp only at hi ⊢;rw [hlen] at hi;unfold Bg;dsimp only;rw [hlen]
    by_cases h1 : i < s.dU.length - 1
    ·
     have ho := hV.g i (by omega);rw [Rh h1 hk, Rh (show i - 1 < s.dU.length - 1 by omega) hk];refine ⟨ho.1, ho.2.1, ⟨fun e => ?_, fun e => by omega⟩, ho.2.2.2⟩;have := ho.2.2.1.1 e;omega
    by_cases h2 : i = s.dU.length - 1
    ·
     have e0 : eN (s.dU.take (s.dU.length - 1) ++ [{ zS s with mode := 2 }, fresh ((zS s).num + 1)]) i = { zS s with mode := 2 } := by
      have := NS hk [{ zS s with mode := 2 }, fresh ((zS s).num + 1)] 0;rw [bn] at this;rw [h2, this]; rfl
     rw [e0];refine ⟨(yD _).2 ⟨ht.num, ht.rev, by dsimp only; omega, ht.size, ht.m, ht.ends, ht.sum⟩, fun h0 => ?_, ⟨fun e => by dsimp only at e; omega, fun e => by omega⟩, hs⟩;rw [Rh (show i - 1 < s.dU.length - 1 by omega) hk];have := (hV.g i (by omega)).2.1 h0;rw [h2] at this ⊢;exact this
    have h3 : i = s.dU.length - 1 + 1 := by omega
    have e0 : eN (s.dU.take (s.dU.length - 1) ++ [{ zS s with mode := 2 }, fresh ((zS s).num + 1)]) i = fresh ((zS s).num + 1) := by
     rw [h3, NS hk _ 1]; rfl
    have e1 : eN (s.dU.take (s.dU.length - 1) ++ [{ zS s with mode := 2 }, fresh ((zS s).num + 1)]) (i - 1) = { zS s with mode := 2 } := by
     have := NS hk [{ zS s with mode := 2 }, fresh ((zS s).num + 1)] 0;rw [bn] at this;rw [show i - 1 = s.dU.length - 1 by omega, this]; rfl
    rw [e0, e1];refine ⟨(yD _).2 hf, fun _ => by show (zS s).num < (zS s).num + 1; omega, ⟨fun _ => by omega, fun _ => rfl⟩, ?_⟩
    show (16 : Int) ≤ 2 * s.lim
    have := hV.lim;omega
   dsimp only;rw [hlen];have e0 : eN (s.dU.take (s.dU.length - 1) ++ [{ zS s with mode := 2 }, fresh ((zS s).num + 1)]) (s.dU.length + 1 - 1) = fresh ((zS s).num + 1) := by
    rw [show s.dU.length + 1 - 1 = s.dU.length - 1 + 1 by omega, NS hk _ 1]; rfl
   rw [e0, Xi]
   show (16 : Int) + ((0 * 24 : Nat) : Int) ≤ 2 * s.lim
   have := hV.lim;omega
  rw [ah hn] at h; cases h
 rw [ah hv] at h; cases h
theorem zJF {s : eL} {g : Gn} (h : (yb s g).2 = 0) : eo (yb s g).1 := by
 unfold yb at h ⊢
 by_cases hv : zg s = true
 ·
  rw [ag hv] at h ⊢
  by_cases hn : (s.dU.any fun x => decide (x.num = g.num)) = true
  ·
   rw [ag hn] at h ⊢
   by_cases hw : zg ⟨s.id, s.lim, s.ro, uV s.dU g⟩ = true
   ·
    rw [ag hw]; exact (zR _).1 hw
   rw [ah hw] at h; cases h
  rw [ah hn] at h; cases h
 rw [ah hv] at h; cases h
theorem xW {M : Mp} (_ : fO M) {y : It} : y ∈ zI M ↔ ze M y.key = some y := by
  have ha := yV M;rw [← vO, yK ha];refine ⟨fun hy => zH7 ha hy, fun hf => List.mem_of_find?_eq_some hf⟩
theorem Xj {R : It → It → Prop} (hs : ∀ a b, R a b → R b a) : ∀ {l : List It}, l.Pairwise R → ∀ x ∈ l, ∀ y ∈ l, x ≠ y → R x y
  | [], _, x, hx, _, _, _ => by cases hx
  | a :: l, h, x, hx, y, hy, hne => by
    rw [dz] at h;rcases List.mem_cons.1 hx with e1 | hx
    · rcases List.mem_cons.1 hy with e2 | hy
      · exact absurd (e1.trans e2.symm) hne
      rw [e1]; exact h.1 y hy
    rcases List.mem_cons.1 hy with e2 | hy
    · rw [e2]; exact hs _ _ (h.1 x hx)
    exact Xj hs h.2 x hx y hy hne
theorem qG {l : List It} (h : jZ l) (size : Int) : kK l size ↔ (∀ x ∈ l, ∀ y ∈ l, x.key ≠ y.key → D7 x y) ∧ ∀ x ∈ l, vY x ≤ size := by
  unfold kK;have hp := qU h;refine ⟨fun ⟨h1, h2⟩ => ⟨fun x hx y hy hne => ?_, h2⟩, fun ⟨h1, h2⟩ => ⟨?_, h2⟩⟩
  · exact Xj (fun _ _ h => Wm h) h1 x hx y hy (fun e => hne (by rw [e]))
  refine List.Pairwise.imp_of_mem ?_ hp;intro a b ha hb hlt;exact h1 a ha b hb (by omega)
theorem zMM (n : Nat) : oQ n % 8 = 0 := by unfold oQ; omega
theorem zMQ (n : Nat) : eM n % 8 = 0 := by
  unfold eM
  split
  · exact zMM n
  rfl
theorem ja.small {g : Gn} (h : ja g) : 0 ≤ g.m.live ∧ 0 ≤ g.m.dW ∧ g.m.live ≤ 1048576 ∧ g.m.dW ≤ 1048576 := by
  have h1 := (zV _).1 h.m;have h2 := h1.live0;have h3 := h1.g0;have h4 := h.sum;have h5 := h.size;omega
theorem Xk {M M' : Mp} (hm : fO M) (Li : fO M') {z z' : Int} (h : vU (zI M) z = true) (hz : z ≤ z') (hg : ∀ k y, ze M' k = some y → ze M k = some y) : vU (zI M') z' = true := by
  have h1 := (qG (yV M) z).1 (aY h);refine aF ((qG (yV M') z').2 ⟨fun x hx y hy hne => ?_, fun x hx => ?_⟩)
  · exact h1.1 x ((xW hm).2 (hg _ _ ((xW Li).1 hx))) y ((xW hm).2 (hg _ _ ((xW Li).1 hy))) hne
  have := h1.2 x ((xW hm).2 (hg _ _ ((xW Li).1 hx)));omega
theorem zI8 {M : Mp} (hm : fO M) {x : It} (hx : okB x = true) (hgb : M.dW + (gW (ze M x.key) : Int) ≤ 1099511627776) (h : vU (zI M) x.off = true) : vU (zI (wQ M x)) (vY x) = true := by
  have h1 := (qG (yV M) x.off).1 (aY h);have Li := hm.ins hx hgb;have hlt := tx (aY hx);have hmem : ∀ y, y ∈ zI (wQ M x) → y = x ∨ y ∈ zI M := fun y hy => by
    have := (xW Li).1 hy;rw [Wh hm hx hgb] at this
    by_cases e : x.key = y.key
    · rw [ag e] at this
      injection this with e2;exact .inl e2.symm
    rw [ah e] at this;exact .inr ((xW hm).2 this)
  refine aF ((qG (yV _) _).2 ⟨fun y hy z hz hne => ?_, fun y hy => ?_⟩)
  · rcases hmem y hy with rfl | Cm
    · rcases hmem z hz with rfl | Ri
      · exact absurd rfl hne
      exact .inr (h1.2 z Ri)
    rcases hmem z hz with rfl | Ri
    · exact .inl (h1.2 y Cm)
    exact h1.1 y Cm z Ri hne
  rcases hmem y hy with rfl | Cm
  · exact cT _
  have := h1.2 y Cm;omega
theorem Xl {g : Gn} (hg : ja g) {x : Nd} (hx : x.ok) : okB (Bh g x) = true := by
  have h1 := hg.size;have h2 : x.data.length ≤ 4096 := hx.1;refine aF ⟨?_, ?_, ?_, ?_, ?_⟩
  · exact h1.1
  · exact h1.2.1
  · exact h1.2.2
  · show (0 : Int) ≤ (x.data.length : Int); omega
  show (x.data.length : Int) ≤ 4096; omega
theorem zE5 {g : Gn} (hg : ja g) {x : Nd} (hx : x.ok) (hz : g.size + (eM x.data.length : Int) ≤ 1048576) : ja (yT g x) := by
  have hm := (zV _).1 hg.m;have hs := hg.small;have h8 := zMQ x.data.length;have hsz := hg.size;have KL := hg.sum;have hxl := xx x.data.length;refine ⟨hg.num, hg.rev, hg.mode, ⟨?_, hz, ?_⟩, ?_, ?_, ?_⟩
  · show 16 ≤ g.size + (eM x.data.length : Int); omega
  · show (g.size + (eM x.data.length : Int)) % 8 = 0; omega
  all_goals
    unfold yT;dsimp only
    split
    next hd =>
      have h1 : g.m.dW + (gW (ze g.m x.key) : Int) ≤ 1099511627776 := by have := NF (ze g.m x.key); omega
      have oI := hm.del h1;have hds := qy hm h1;have iz := oI.live0;have h2 : (yJ g.m x.key).dW + (eM x.data.length : Int) ≤ 1099511627776 := by omega
      have hw := oI.C_ (n := (eM x.data.length : Int)) (by omega) h2
      first
        | exact (zV _).2 hw
        | (refine Xk hm hw hg.ends (by omega) ?_
           intro k y hy
           rw [xZ hw, uI, ← xZ oI, kR hm h1] at hy
           split at hy
           · cases hy
           exact hy)
        | (rw [Wc oI (by omega) h2]
           dsimp only
           omega)
    next hd =>
      have hok := Xl hg hx;have h1 : g.m.dW + (gW (ze g.m (Bh g x).key) : Int) ≤ 1099511627776 := by have := NF (ze g.m (Bh g x).key); omega
      have hi := hm.ins hok h1;have Rj := zI2 hm hok h1;have he : xN (Bh g x) = eM x.data.length := by unfold xN Bh; dsimp only; rw [Int.toNat_natCast]
      first
        | exact (zV _).2 hi
        | (have h3 := zI8 hm hok h1 hg.ends
           have h4 : vY (Bh g x) = g.size + (eM x.data.length : Int) := by unfold vY Bh; dsimp only; rw [Int.toNat_natCast]
           rwa [h4] at h3)
        | (rw [he] at Rj
           omega)
theorem Xm {g : Gn} (h : ja g) (hm : g.mode = 1) {l : List Nd} (hok : ∀ x ∈ l, x.ok) (hz : g.size + (ic l : Int) ≤ 1048576) : yt g l = (0, zb g l) := by
  unfold yt;rw [ag ⟨(yD g).2 h, (tJ l).2 hok⟩, ag hm, ag hz]
/-! ### The laws' nQ and fE -/
end Go.Proofs.YtcgfilmmokmdjaaGreat
namespace Go.Proofs.YtcgfilmmokmdjaaGreat
open Go.RowKit
/-! ### Same -/
theorem zIy {M N : Mp} {i : Nat} (hi : i < 8) (h : M.st i ≠ N.st i) : GY M N = false := by
 unfold GY;have : (List.range 8).all (fun i => decide (M.st i = N.st i)) = false := by
  rw [List.all_eq_false];exact ⟨i, List.mem_range.2 hi, by simpa using h⟩
 rw [this]; rfl
theorem Xn {M N : Mp} (h : ∀ i, i < 8 → M.st i = N.st i) : GY M N = ((M.live == N.live) && (M.dW == N.dW)) := by
 unfold GY;have : (List.range 8).all (fun i => decide (M.st i = N.st i)) = true := List.all_eq_true.2 fun i hi => aF (h i (List.mem_range.1 hi))
 rw [this, cG]
theorem zG4 (s t : Sl) (M N : Mp) (w : World) (h : fw w s M.st) (h2 : fw w t N.st) :
  Calls Tryz.prog 113 #[yA s M.live M.dW, yA t N.live N.dW] w fun e w' => e = .returned (.bool (GY M N)) ∧ Below w.heap.size w w' := by
 obtain ⟨W0, hW0⟩ : ∃ W0, (w.alloc (.cells (yN s M.live M.dW) 111)).alloc (.cells (yN t N.live N.dW) 111) = W0 := ⟨_, rfl⟩
 have HX := zh (show eB W0 w.heap.size s M.live M.dW from hW0 ▸ ((eB.new w s M.live M.dW 111).below (zP _ t N.live N.dW 111)));have HY := zh (show eB W0 (w.heap.size + 1) t N.live N.dW from hW0 ▸ (by have := eB.new (w.alloc (.cells (yN s M.live M.dW) 111)) t N.live N.dW 111; simpa using this));have HB := zh (show Below w.heap.size w W0 from hW0 ▸ zA (zP w s M.live M.dW 111) (zP _ t N.live N.dW 111));have oU := zh hW0;clear hW0;have HSa := zh (fun i (hi : i < 8) W (hb : Below w.heap.size w W) => zJo (s.v i) (t.v i) (M.st i) (N.st i) W ((h i hi).below hb) ((h2 i hi).below hb));have iR := zh (fun i (hi : i < 8) (h : M.st i ≠ N.st i) => zIy hi h);have jo := zh (fun h => Xn (M := M) (N := N) h);clear h h2;generalize GY M N = r at *;obtain ⟨f, L, G⟩ := M;obtain ⟨g, L2, G2⟩ := N;dsimp only at *
 go_enter Tryz.func113, Tryz.ntmps113
 go_upto_region 1 with fail;have hW0 := oU.out;rw [show (w.alloc (.cells (yN s L G) 111)).alloc (.cells (yN t L2 G2) 111) = W0 from hW0];clear hW0 oU;go_wp2_with fail
 go_loopw [5] (fun iv W => ∃ i : Nat, iv = .int .i64 (i : Int) ∧ i ≤ 8 ∧ Hid (∀ j, j < i → f j = g j) ∧ Hid (Below W0.heap.size W0 W)) (fun iv _ => 8 - (intOf iv).toNat)
 case atStart => exact ⟨0, rfl, au _, zh (fun j hj => by omega), zh (aj _ _)⟩
 obtain ⟨i, rfl, hi, lI, iD⟩ := hrel
 by_cases hin : i < 8
 ·
  have i1 : (i : Int) < 8 := by omega
  have ci := (HX.out.below iD.out).c i hin;have di := (HY.out.below iD.out).c i hin;rw [show s.v i = .slice (s.a i) (s.n i) (s.c i) from rfl] at ci;rw [show t.v i = .slice (t.a i) (t.n i) (t.c i) from rfl] at di;have nB := zh (fun u : dY wr => show Calls Tryz.prog 158 #[.slice (s.a i) (s.n i) (s.c i), .slice (t.a i) (t.n i) (t.c i)] u.w' fun e w' => e = .returned (.bool (decide (f i = g i))) ∧ Below u.w'.heap.size u.w' w' from HSa.out i hin u.w' (zA HB.out (zA iD.out u.h)));have fi := zB ci;have gi := zB di;have Ex := zh (iR.out i hin);clear ci di
  have HEq := zh (show decide (f i = g i) = true → ∀ j, j < i + 1 → f j = g j from fun h j hj => by
   by_cases e : j = i
   ·
    rw [e]; exact aY h
   exact lI.out j (by omega))
  have HNe := zh (show decide (f i = g i) = false → r = false from fun h => Ex.out (cD h));generalize decide (f i = g i) = b at *;go_wp2_with fail;refine zC (by kernel_rfl) (by kernel_rfl) ?_
  repeat (go_big_quiet_step (exact zG (nB.out _)))
  refine aC ?_;intro _ hw';obtain ⟨u, hw'⟩ := hw';subst hw';have Nv := zh (zA iD.out u.h);have ek := zh (zA HB.out Nv.out);generalize u.w' = V at *
  cases b
  ·
   have HF := zh (HNe.out rfl);go_wp2_with fail;go_ret;exact ⟨zE HF.out.symm, ek.out⟩
  have r_ := zh (HEq.out rfl);go_wp2_with fail;exact ⟨⟨i + 1, by go_num, by omega, r_, Nv⟩, by simp [intOf]; omega⟩
 obtain rfl : i = 8 := by omega
 have HF := zh (jo.out lI.out);have Xo := zh (HX.out.below iD.out);have Xp := zh (HY.out.below iD.out);have ek := zh (zA HB.out iD.out);have c8 := Xo.out.cl;have c9 := Xo.out.cg;have d8 := Xp.out.cl;have d9 := Xp.out.cg;have M9 := zh (show r = ((L == L2) && (G == G2)) from HF.out);generalize hl : (L == L2) = b1 at *
 cases b1
 ·
  go_wp2_with fail;go_ret;exact ⟨zE M9.out.symm, ek.out⟩
 go_wp2_with fail;go_ret;exact ⟨zE M9.out.symm, ek.out⟩
theorem Xr (n : Int) : bits .and .i64 n 7 = n % 8 := by
 have hm : (BitVec.ofInt 64 7).toNat = 2 ^ 3 - 1 := by decide
 have key : (BitVec.ofInt 64 n &&& BitVec.ofInt 64 7).toNat = (n % ((2 ^ 64 : Nat) : Int)).toNat % 2 ^ 3 := by
  rw [BitVec.toNat_and, BitVec.toNat_ofInt, hm, dR]
 show IntKind.i64.wrap ((BitVec.ofInt 64 n &&& BitVec.ofInt 64 7).toNat : Nat) = n % 8
 rw [key, IntKind.wrap_i64];omega
theorem Rd.nu (k : Nat) (w : World) (hk : w.heap.size = k) (sz : Nat) (cs : List Value) (e : TypeId) (n : Nat) (hn : cs.length = n * sz) (hm : n ≤ maxLen) : Rd (w.alloc (.cells cs.toArray e)) sz (.slice (some ⟨k, 0, none⟩) n n) n cs := by
 subst hk; exact Rd.new w sz cs e n hn hm
theorem zFJ (M : Mp) : GY M M = true := by
 rw [Xn (fun _ _ => rfl)];simp
theorem zH2 (g : Gn) (s t : Sl) (w : World) (h : fw w s g.m.st) (h2 : fw w t g.m.st) :
  Calls Tryz.prog 72 #[za g.num g.rev g.mode g.size s g.m.live g.m.dW, za g.num g.rev g.mode g.size t g.m.live g.m.dW] w fun e w' => e = .returned (.bool true) ∧ Below w.heap.size w w' := by
 have HS := zh (fun W (hb : Below w.heap.size w W) => zG4 s t g.m g.m W (h.below hb) (h2.below hb));rw [zFJ] at HS;obtain ⟨n, r, md, z, ⟨f, L, G⟩⟩ := g;dsimp only at *;clear h h2;obtain ⟨W0, hW0⟩ : ∃ W0, w.alloc (.cells (zW n r md z s L G) 113) = W0 := ⟨_, rfl⟩
 have jM := zh (show eA W0 w.heap.size n r md z s L G from hW0 ▸ eA.new w n r md z s L G 113);have eD := zh (show Below w.heap.size w W0 from hW0 ▸ zQ w n r md z s L G 113);have HY := zh (eA.new W0 n r md z t L G 113);have HX := zh (jM.out.below (zQ W0 n r md z t L G 113));have HB := zh (zA eD.out (zQ W0 n r md z t L G 113));have hz0 : W0.heap.size = w.heap.size + 1 := by rw [← hW0]; simp
 go_enter Tryz.func72, Tryz.ntmps72
 go_upto_region 1 with fail;change Code.wp _ _ _ _ (W0.alloc (.cells (zW n r md z t L G) 113));clear hW0 jM eD;obtain ⟨W, hW⟩ : ∃ W, W0.alloc (.cells (zW n r md z t L G) 113) = W := ⟨_, rfl⟩
 rw [hW] at HX HB HY ⊢;clear hW;rw [hz0] at HY;clear hz0;obtain ⟨x0, x1, x2, x3, x4, x5, x6, x7, x8, x9, fM, fN, fK, fL⟩ := HX.out.q;obtain ⟨y0, y1, y2, y3, y4, y5, y6, y7, y8, y9, FT, FU, FV, FW⟩ := HY.out.q;go_wp2_with fail;refine (HS.out _ HB.out).mono ?_;rintro e w1 ⟨rfl, hb1⟩;have eQ := zh (zA HB.out hb1);clear hb1;go_wp2_with fail;go_ret;exact ⟨rfl, eQ.out⟩
theorem Xt (n : Int) (hn : 1 ≤ n ∧ n ≤ 8) (w : World) : Calls Tryz.prog 78 #[.int .i64 n] w fun e w' => e = .returned (.tuple #[za n 0 1 16 Sl.nil 0 0, .int .i64 0]) ∧ Below w.heap.size w w' := by
 have HR := zh (eA.new w 0 0 0 0 Sl.nil 0 0 113);have HB := zh (zQ w 0 0 0 0 Sl.nil 0 0 113);have e1 : decide (n < 1) = false := aD (by omega);have e2 : decide (8 < n) = false := aD (by omega);clear hn
 go_enter Tryz.func78, Tryz.ntmps78
 go_upto_region 1 with fail;obtain ⟨W, hW⟩ : ∃ W, w.alloc (.cells (zW 0 0 0 0 Sl.nil 0 0) 113) = W := ⟨_, rfl⟩
 change Code.wp _ _ _ _ (w.alloc (.cells (zW 0 0 0 0 Sl.nil 0 0) 113));rw [hW] at HR HB ⊢;clear hW;obtain ⟨r0, r1, r2, r3, r4, r5, r6, r7, r8, r9, lM, lr, l7, mP⟩ := HR.out.q;have rf := HR.out.f;go_wp2_with fail;change bodyPost _ _ _ _ _ (pts W w.heap.size (zL n 0 1 16 Sl.nil 0 0));have hby := HR.out.all n 0 1 16 Sl.nil 0 0;have ek := zh (zD (B := w.heap.size) (b := w.heap.size) (by omega) (zL n 0 1 16 Sl.nil 0 0) HB.out);generalize pts W w.heap.size (zL n 0 1 16 Sl.nil 0 0) = V at *;exact aw (v := .tuple #[za n 0 1 16 Sl.nil 0 0, .int .i64 0]) (by simp [results, Tryz.results78, go_sem, hby.q]) rfl ⟨rfl, ek.out⟩
def Rk (x : Nd) : Nd := ⟨x.key % 8, x.ck, x.del, if x.del then [] else x.data.take 30⟩
def Jy (l : List Nd) : List Nd := (l.take 6).map Rk
theorem zJd (x : Nd) : (Rk x).data.length ≤ 30 := by
 unfold Rk;dsimp only
 split
 ·
  simp
 rw [ay]; omega
theorem Xu (l : List Nd) : (Jy l).length ≤ 6 := by unfold Jy; rw [aI, ay]; omega
theorem zG0 (l : List Nd) : ∀ x ∈ Jy l, x.data.length ≤ 30 := fun x hx => by
 obtain ⟨y, _, rfl⟩ := List.mem_map.1 hx;exact zJd y
end Go.Proofs.YtcgfilmmokmdjaaGreat
namespace Go.Proofs.YtcgfilmmokmdjaaGreat
open Go.RowKit
abbrev GP := Gn × Sl
def H4 : GP := (fW, Sl.nil)
instance : Inhabited GP := ⟨H4⟩
def pat (l : List GP) (i : Nat) : GP := l.getD i H4
def gU (x : GP) : List Value := [.int .i64 x.1.num, .int .i64 x.1.rev, .int .i64 x.1.mode, .int .i64 x.1.size, .slice (x.2.a 0) (x.2.n 0) (x.2.c 0), .slice (x.2.a 1) (x.2.n 1) (x.2.c 1), .slice (x.2.a 2) (x.2.n 2) (x.2.c 2), .slice (x.2.a 3) (x.2.n 3) (x.2.c 3), .slice (x.2.a 4) (x.2.n 4) (x.2.c 4), .slice (x.2.a 5) (x.2.n 5) (x.2.c 5), .slice (x.2.a 6) (x.2.n 6) (x.2.c 6), .slice (x.2.a 7) (x.2.n 7) (x.2.c 7), .int .i64 x.1.m.live, .int .i64 x.1.m.dW]
abbrev Rl (x : GP) : Value := za x.1.num x.1.rev x.1.mode x.1.size x.2 x.1.m.live x.1.m.dW
theorem qz (x : GP) : (gU x).length = 14 := rfl
def dZ (l : List GP) : List Gn := l.map Prod.fst
theorem zj (l : List GP) : (dZ l).length = l.length := aI ..
theorem yu {l : List GP} {i : Nat} : eN (dZ l) i = (pat l i).1 := by
 unfold eN dZ pat;rw [ax, ax, cm]
 cases l[i]? <;> rfl
theorem yd {l : List GP} {i : Nat} (h : i < l.length) : pat l i ∈ l := by
 unfold pat;rw [ax, aB h]; exact bI h
structure fq (w : World) (v : Value) (l : List GP) : Prop where
 r : iy 14 gU w v l
 m : ∀ p ∈ l, fw w p.2 p.1.m.st
theorem fq.below {w w' : World} {v : Value} {l : List GP} (h : fq w v l) (hb : Below w.heap.size w w') : fq w' v l := ⟨iy.below h.r hb, fun p hp => (h.m p hp).below hb⟩
theorem fq.shape {w : World} {v : Value} {l : List GP} (h : fq w v l) : ∃ a cap, v = .slice a l.length cap ∧ l.length ≤ cap ∧ cap ≤ maxLen := by
 obtain ⟨a, cap, h1, h2, h3, _⟩ := iy.shape h.r (by decide) H4;exact ⟨a, cap, h1, h2, h3⟩
structure nw (w : World) (b o : Nat) (x : GP) : Prop where
 n0 : w.cell? ⟨b, o, none⟩ = some (.int .i64 x.1.num)
 n1 : w.cell? ⟨b, o + 1, none⟩ = some (.int .i64 x.1.rev)
 n2 : w.cell? ⟨b, o + 2, none⟩ = some (.int .i64 x.1.mode)
 n3 : w.cell? ⟨b, o + 3, none⟩ = some (.int .i64 x.1.size)
 c0 : w.cell? ⟨b, o + 4, none⟩ = some (.slice (x.2.a 0) (x.2.n 0) (x.2.c 0))
 c1 : w.cell? ⟨b, o + 5, none⟩ = some (.slice (x.2.a 1) (x.2.n 1) (x.2.c 1))
 c2 : w.cell? ⟨b, o + 6, none⟩ = some (.slice (x.2.a 2) (x.2.n 2) (x.2.c 2))
 c3 : w.cell? ⟨b, o + 7, none⟩ = some (.slice (x.2.a 3) (x.2.n 3) (x.2.c 3))
 c4 : w.cell? ⟨b, o + 8, none⟩ = some (.slice (x.2.a 4) (x.2.n 4) (x.2.c 4))
 c5 : w.cell? ⟨b, o + 9, none⟩ = some (.slice (x.2.a 5) (x.2.n 5) (x.2.c 5))
 c6 : w.cell? ⟨b, o + 10, none⟩ = some (.slice (x.2.a 6) (x.2.n 6) (x.2.c 6))
 c7 : w.cell? ⟨b, o + 11, none⟩ = some (.slice (x.2.a 7) (x.2.n 7) (x.2.c 7))
 cl : w.cell? ⟨b, o + 12, none⟩ = some (.int .i64 x.1.m.live)
 cg : w.cell? ⟨b, o + 13, none⟩ = some (.int .i64 x.1.m.dW)
theorem nw.q {w : World} {b o : Nat} {x : GP} (h : nw w b o x) : w.cell? ⟨b, o, none⟩ = some (.int .i64 x.1.num) ∧ w.cell? ⟨b, o + 1, none⟩ = some (.int .i64 x.1.rev) ∧ w.cell? ⟨b, o + 2, none⟩ = some (.int .i64 x.1.mode) ∧ w.cell? ⟨b, o + 3, none⟩ = some (.int .i64 x.1.size) ∧ w.cell? ⟨b, o + 4, none⟩ = some (.slice (x.2.a 0) (x.2.n 0) (x.2.c 0)) ∧ w.cell? ⟨b, o + 5, none⟩ = some (.slice (x.2.a 1) (x.2.n 1) (x.2.c 1)) ∧ w.cell? ⟨b, o + 6, none⟩ = some (.slice (x.2.a 2) (x.2.n 2) (x.2.c 2)) ∧ w.cell? ⟨b, o + 7, none⟩ = some (.slice (x.2.a 3) (x.2.n 3) (x.2.c 3)) ∧ w.cell? ⟨b, o + 8, none⟩ = some (.slice (x.2.a 4) (x.2.n 4) (x.2.c 4)) ∧ w.cell? ⟨b, o + 9, none⟩ = some (.slice (x.2.a 5) (x.2.n 5) (x.2.c 5)) ∧ w.cell? ⟨b, o + 10, none⟩ = some (.slice (x.2.a 6) (x.2.n 6) (x.2.c 6)) ∧ w.cell? ⟨b, o + 11, none⟩ = some (.slice (x.2.a 7) (x.2.n 7) (x.2.c 7)) ∧ w.cell? ⟨b, o + 12, none⟩ = some (.int .i64 x.1.m.live) ∧ w.cell? ⟨b, o + 13, none⟩ = some (.int .i64 x.1.m.dW) := ⟨h.n0, h.n1, h.n2, h.n3, h.c0, h.c1, h.c2, h.c3, h.c4, h.c5, h.c6, h.c7, h.cl, h.cg⟩
theorem nw.below {w w' : World} {b o : Nat} {x : GP} (h : nw w b o x) (hb : Below w.heap.size w w') : nw w' b o x :=
 ⟨hb.keeps' h.n0, hb.keeps' h.n1, hb.keeps' h.n2, hb.keeps' h.n3, hb.keeps' h.c0, hb.keeps' h.c1, hb.keeps' h.c2, hb.keeps' h.c3, hb.keeps' h.c4, hb.keeps' h.c5, hb.keeps' h.c6, hb.keeps' h.c7, hb.keeps' h.cl, hb.keeps' h.cg⟩
theorem nw.De {w : World} {b : Nat} {g : Gn} {s : Sl} (h : eA w b g.num g.rev g.mode g.size s g.m.live g.m.dW) : nw w b 0 (g, s) :=
 ⟨h.n0, h.n1, h.n2, h.n3, h.c0, h.c1, h.c2, h.c3, h.c4, h.c5, h.c6, h.c7, h.cl, h.cg⟩
theorem nw.eu {w : World} {b c o : Nat} {x : GP} (h : nw w b o x) (hp : b ≠ c) (vs : List (Nat × Value)) : nw (pts w c vs) b o x :=
 ⟨(zt (p := ⟨b, o, none⟩) hp vs w).trans h.n0, (zt (p := ⟨b, o + 1, none⟩) hp vs w).trans h.n1, (zt (p := ⟨b, o + 2, none⟩) hp vs w).trans h.n2, (zt (p := ⟨b, o + 3, none⟩) hp vs w).trans h.n3, (zt (p := ⟨b, o + 4, none⟩) hp vs w).trans h.c0, (zt (p := ⟨b, o + 5, none⟩) hp vs w).trans h.c1, (zt (p := ⟨b, o + 6, none⟩) hp vs w).trans h.c2, (zt (p := ⟨b, o + 7, none⟩) hp vs w).trans h.c3, (zt (p := ⟨b, o + 8, none⟩) hp vs w).trans h.c4, (zt (p := ⟨b, o + 9, none⟩) hp vs w).trans h.c5, (zt (p := ⟨b, o + 10, none⟩) hp vs w).trans h.c6, (zt (p := ⟨b, o + 11, none⟩) hp vs w).trans h.c7, (zt (p := ⟨b, o + 12, none⟩) hp vs w).trans h.cl, (zt (p := ⟨b, o + 13, none⟩) hp vs w).trans h.cg⟩
theorem fq.at {w : World} {a : Option Addr} {n cap : Nat} {l : List GP} (h : fq w (.slice a n cap) l) {j : Nat} (hj : j < n) : ∃ b off, a = some ⟨b, off, none⟩ ∧ nw w b (off + j * 14) (pat l j) := by
 obtain ⟨a', cap', e, h2, h3, _, h5⟩ := iy.shape h.r (by decide) H4;injection e with e1 e2 e3;subst e1 e2 e3;obtain ⟨b, off, e, hc⟩ := h5 (by omega);refine ⟨b, off, e, ?_, hc j hj 1 _ rfl, hc j hj 2 _ rfl, hc j hj 3 _ rfl, hc j hj 4 _ rfl, hc j hj 5 _ rfl, hc j hj 6 _ rfl, hc j hj 7 _ rfl, hc j hj 8 _ rfl, hc j hj 9 _ rfl, hc j hj 10 _ rfl, hc j hj 11 _ rfl, hc j hj 12 _ rfl, hc j hj 13 _ rfl⟩;have := hc j hj 0 _ rfl; rwa [bn] at this
theorem fq.Lj {w : World} {b off : Nat} {n cap : Nat} {l : List GP} (h : fq w (.slice (some ⟨b, off, none⟩) n cap) l) {j : Nat} (hj : j < n) : nw w b (off + j * 14) (pat l j) := by
 obtain ⟨b', o', e, h⟩ := h.at hj;injection e with e;injection e with e1 e2;subst e1 e2;exact h
structure SlP where
 id : Int
 lim : Int
 ro : Bool
 dU : List GP
abbrev zK (i l : Int) (r : Bool) (a : Option Addr) (n c : Nat) : Array Value := #[.int .i64 i, .int .i64 l, .bool r, .slice a n c]
abbrev zZ (i l : Int) (r : Bool) (a : Option Addr) (n c : Nat) : Value := .agg (zK i l r a n c)
structure eT (W : World) (b : Nat) (i l : Int) (r : Bool) (a : Option Addr) (n c : Nat) : Prop where
 c0 : W.cell? ⟨b, 0, none⟩ = some (.int .i64 i)
 c1 : W.cell? ⟨b, 1, none⟩ = some (.int .i64 l)
 c2 : W.cell? ⟨b, 2, none⟩ = some (.bool r)
 c3 : W.cell? ⟨b, 3, none⟩ = some (.slice a n c)
 f : ∀ i, W.frozen? ⟨b, i, none⟩ = false
theorem eT.q {W : World} {b : Nat} {i l : Int} {r : Bool} {a : Option Addr} {n c : Nat} (h : eT W b i l r a n c) : W.cell? ⟨b, 0, none⟩ = some (.int .i64 i) ∧ W.cell? ⟨b, 1, none⟩ = some (.int .i64 l) ∧ W.cell? ⟨b, 2, none⟩ = some (.bool r) ∧ W.cell? ⟨b, 3, none⟩ = some (.slice a n c) := ⟨h.c0, h.c1, h.c2, h.c3⟩
section
variable {W : World} {b : Nat} {i l : Int} {r : Bool} {a : Option Addr} {n c : Nat}
theorem eT.new (W : World) (i l : Int) (r : Bool) (a : Option Addr) (n c : Nat) (t : TypeId) : eT (W.alloc (.cells (zK i l r a n c) t)) W.heap.size i l r a n c := ⟨by simp, by simp, by simp, by simp, fun i => by simp⟩
theorem zN (w : World) (i l : Int) (r : Bool) (a : Option Addr) (n c : Nat) (t : TypeId) : Below w.heap.size w (w.alloc (.cells (zK i l r a n c) t)) := (aj _ _).alloc (ai _) _
theorem eT.lt (h : eT W b i l r a n c) : b < W.heap.size := cI W _ h.c0
theorem eT.below {W' : World} (h : eT W b i l r a n c) (hb : Below W.heap.size W W') : eT W' b i l r a n c := ⟨hb.keeps' h.c0, hb.keeps' h.c1, hb.keeps' h.c2, hb.keeps' h.c3, fun i => (hb.frozen (p := ⟨b, i, none⟩) h.lt).trans (h.f i)⟩
abbrev zJ (i l : Int) (r : Bool) (a : Option Addr) (n c : Nat) : List (Nat × Value) := [(0, .int .i64 i), (1, .int .i64 l), (2, .bool r), (3, .slice a n c)]
theorem eT.all (h : eT W b i l r a n c) (i' l' : Int) (r' : Bool) (a' : Option Addr) (n' c' : Nat) : eT (pts W b (zJ i' l' r' a' n' c')) b i' l' r' a' n' c' := by
 obtain ⟨a0, a1, a2, a3⟩ := h.q;refine ⟨?_, ?_, ?_, ?_, fun i => (xT _ _ W).trans (h.f i)⟩
 ·
  simp [pts, go_sem, a0]
 ·
  simp [pts, go_sem, a1]
 ·
  simp [pts, go_sem, a2]
 simp [pts, go_sem, a3]
end
end Go.Proofs.YtcgfilmmokmdjaaGreat
namespace Go.Proofs.YtcgfilmmokmdjaaGreat
open Go.RowKit
theorem Rm (w : World) : Calls Tryz.prog 53 #[.int .i64 4096] w fun e w' => e = .returned (.int .i64 4120) ∧ Below w.heap.size w w' :=
 (Kk 4096 w).mono fun _ _ ⟨he, hw⟩ => ⟨he.trans rfl, hw ▸ aj _ _⟩
theorem zL6 (w : World) : Calls Tryz.prog 53 #[.int .i64 0] w fun e w' => e = .returned (.int .i64 24) ∧ Below w.heap.size w w' :=
 (Kk 0 w).mono fun _ _ ⟨he, hw⟩ => ⟨he.trans rfl, hw ▸ aj _ _⟩
theorem zFG (i l : Int) (r : Bool) (a : Option Addr) (n c : Nat) (w : World) (hA : ¬ (0 ≤ i ∧ i < 4 ∧ 4136 ≤ l ∧ l ≤ 262144)) :
  Calls Tryz.prog 47 #[zZ i l r a n c] w fun e w' => e = .returned (.bool false) ∧ Below w.heap.size w w' := by
 have HZ := zh (fun W => Rm W);have eE := zh (eT.new w i l r a n c 27);have eD := zh (zN w i l r a n c 27);have hc : i < 0 ∨ (0 ≤ i ∧ 4 ≤ i) ∨ (0 ≤ i ∧ i < 4 ∧ l < 4136) ∨ (0 ≤ i ∧ i < 4 ∧ 4136 ≤ l ∧ 262144 < l) := by omega
 clear hA
 go_enter Tryz.func47, Tryz.ntmps47
 go_upto_region 1 with fail;obtain ⟨W, hW⟩ : ∃ W, w.alloc (.cells (zK i l r a n c) 27) = W := ⟨_, rfl⟩
 change Code.wp _ _ _ _ (w.alloc (.cells (zK i l r a n c) 27));rw [hW] at eE eD ⊢;have rE := eE.out.lt;have k0 := zB eE.out.c0;have k1 := zB eE.out.c1;clear hW;rcases hc with h1 | ⟨h1, h2⟩ | ⟨h1, h2, h3⟩ | ⟨h1, h2, h3, h4⟩
 ·
  have e1 : decide (i < 0) = true := by simp; omega
  refine zC (by kernel_rfl) (by kernel_rfl) ?_
  repeat (go_big_quiet_step ((exact zG (HZ.out _))))
  refine aC ?_;intro _ hw';obtain ⟨q, hw'⟩ := hw';subst hw';have HQ := zh (zA eD.out q.h);clear k0 k1;go_wp2_with fail;go_ret;exact ⟨rfl, HQ.out⟩
 ·
  have e1 : decide (i < 0) = false := by simp; omega
  have e2 : decide (4 ≤ i) = true := by simp; omega
  refine zC (by kernel_rfl) (by kernel_rfl) ?_
  repeat (go_big_quiet_step ((exact zG (HZ.out _))))
  refine aC ?_;intro _ hw';obtain ⟨q, hw'⟩ := hw';subst hw';have HQ := zh (zA eD.out q.h);clear k0 k1;go_wp2_with fail;go_ret;exact ⟨rfl, HQ.out⟩
 ·
  have e1 : decide (i < 0) = false := by simp; omega
  have e2 : decide (4 ≤ i) = false := by simp; omega
  have e3 : decide (l < 4136) = true := by simp; omega
  refine zC (by kernel_rfl) (by kernel_rfl) ?_
  repeat (go_big_quiet_step ((exact zG (HZ.out _))))
  refine aC ?_;intro _ hw';obtain ⟨q, hw'⟩ := hw';subst hw';have HQ := zh (zA eD.out q.h);clear k0 k1;go_wp2_with fail;go_ret;exact ⟨rfl, HQ.out⟩
 have e1 : decide (i < 0) = false := by simp; omega
 have e2 : decide (4 ≤ i) = false := by simp; omega
 have e3 : decide (l < 4136) = false := by simp; omega
 have e4 : decide (262144 < l) = true := by simp; omega
 refine zC (by kernel_rfl) (by kernel_rfl) ?_
 repeat (go_big_quiet_step ((exact zG (HZ.out _))))
 refine aC ?_;intro _ hw';obtain ⟨q, hw'⟩ := hw';subst hw';have HQ := zh (zA eD.out q.h);clear k0 k1;go_wp2_with fail;go_ret;exact ⟨rfl, HQ.out⟩
end Go.Proofs.YtcgfilmmokmdjaaGreat
