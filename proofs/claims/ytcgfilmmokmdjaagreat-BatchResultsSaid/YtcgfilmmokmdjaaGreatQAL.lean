/- A part of the walk. -/
import Derived.Test.YtcgfilmmokmdjaaGreatQAA
import Derived.Test.YtcgfilmmokmdjaaGreatBae
import Derived.Test.YtcgfilmmokmdjaaGreatQAI
import Derived.Test.YtcgfilmmokmdjaaGreatHd
import Derived.Test.YtcgfilmmokmdjaaGreatQAH
import Derived.Laws.Bits128
import Derived.Test.YtcgfilmmokmdjaaGreatGv
import Derived.Test.YtcgfilmmokmdjaaGreatQAD
import Derived.StillTailTactics
set_option maxRecDepth 100000
set_option maxHeartbeats 32000000
namespace Go.Proofs.YtcgfilmmokmdjaaGreat
structure Rec where
 off : Int
 nd : Nd
 deriving DecidableEq
structure RC where
 slot : Nat
 gen : Nat
 rev : Nat
 deriving DecidableEq
def Xw (s : RC) : Prop := s.slot < 4 ∧ 1 ≤ s.gen ∧ s.gen ≤ 8 ∧ s.rev ≤ 4294967295
instance (s : RC) : Decidable (Xw s) := by unfold Xw; exact inferInstance
def zMO : List UInt8 := [78, 86, 79, 76]
def RD (s : RC) : List UInt8 := zMO ++ be s.slot 2 ++ be s.gen 2 ++ be s.rev 4
def Xx (k : List Nd) : List UInt8 := k.flatMap UM
def whole : List Nd → Nat → Nat
 | [], _ => 0
 | x :: k, m => if m < oO x.data.length then 0 else whole k (m - oO x.data.length) + 1
end Go.Proofs.YtcgfilmmokmdjaaGreat
namespace Go.Proofs.YtcgfilmmokmdjaaGreat
open Go.RowKit
def zMK (x : Nd) : Int := if 4096 < x.data.length then 8 else 1
def Oa : List Nd → Int × List UInt8
 | [] => (0, [])
 | x :: r => if x.ok then (if (Oa r).1 = 0 then (0, UM x ++ (Oa r).2) else ((Oa r).1, [])) else (zMK x, [])
abbrev Ob (ep : Bool) (tk : Int) (kv nv rv : Value) : Value := .agg #[.bool ep, .int .i64 tk, kv, nv, rv]
abbrev xD (ep : Bool) (tk : Int) (kv nv rv : Value) : Array Value := #[.bool ep, .int .i64 tk, kv, nv, rv]
end Go.Proofs.YtcgfilmmokmdjaaGreat
namespace Go.Proofs.YtcgfilmmokmdjaaGreat
def xP : eE := ⟨0, 0, false, []⟩
def zS (s : eE) : Gn := eH s.dP (s.dP.length - 1)
noncomputable def uG (s : eE) : Int × Gn := if zg s = true then (0, zS s) else (1, fT)
noncomputable def xe (s : eE) : Bool := zg s && decide ((zS s).num < 8)
noncomputable def wW (s : eE) (n : Int) : Bool := zg s && (decide (0 ≤ n) && decide (n ≤ 4096)) && decide ((zS s).size + (eG n.toNat : Nat) ≤ s.lim)
def kF (l : List Gn) (key : Int) : Nat → List Int
 | 0 => []
 | n + 1 => kF l key n ++ (match ze (eH l n).m key with | some _ => [(eH l n).num] | none => [])
noncomputable def zk (s : eE) (key : Int) : List Int := if zg s = true then kF s.dP key (s.dP.length - 1) else []
theorem RE (l : List Gn) (key : Int) : ∀ n m, m ≤ n → ((xu l key n).reverse.filter fun x => decide (x.at_ < m)).map (·.gen) = kF l key m
 | 0, m, h => by
  obtain rfl : m = 0 := by omega
  rfl
 | n + 1, m, h => by
  unfold xu;rw [List.reverse_append, cO, bW]
  by_cases hm : m ≤ n
  ·
   rw [RE l key n m hm]
   cases hg : ze (eH l n).m key with
   | none => simp
   | some x => simp [show ¬ n < m by omega]
  obtain rfl : m = n + 1 := by omega
  have hr := RE l key n n (ai _);have hall : ∀ k, ∀ x ∈ xu l key k, x.at_ < k := by
   intro k
   induction k with
   | zero => intro x hx; cases hx
   | succ k ih =>
    intro x hx;unfold xu at hx;rcases List.mem_append.1 hx with hx | hx
    ·
     cases hg : ze (eH l k).m key with
     | none => rw [hg] at hx; cases hx
     | some y => rw [hg] at hx; obtain rfl := List.mem_singleton.1 hx; exact dt k
    exact Nat.lt_succ_of_lt (ih x hx)
  have e1 : ((xu l key n).reverse.filter fun x => decide (x.at_ < n + 1)) = (xu l key n).reverse.filter fun x => decide (x.at_ < n) := by
   refine List.filter_congr fun x hx => ?_
   have := hall n x (List.mem_reverse.1 hx);simp [this, Nat.lt_succ_of_lt this]
  rw [e1, hr]
  show _ = kF l key n ++ _
  cases hg : ze (eH l n).m key with
  | none => simp
  | some x => simp
noncomputable def zMT (i l : Int) : eE × Int := if zg ⟨i, l, false, [fresh 1]⟩ = true then (⟨i, l, false, [fresh 1]⟩, 0) else (xP, 1)
noncomputable def xO (s : eE) : eE × Int :=
 if zg s = true then (if (zS s).num < 8 then (⟨s.id, s.lim, s.ro, s.dP.take (s.dP.length - 1) ++ [{ zS s with mode := 2 }, fresh ((zS s).num + 1)]⟩, 0) else (xP, 9)) else (xP, 1)
def uV (l : List Gn) (g : Gn) : List Gn := l.map fun x => if x.num = g.num then g else x
noncomputable def yb (s : eE) (g : Gn) : eE × Int :=
 if zg s = true then (if (s.dP.any fun x => decide (x.num = g.num)) = true then (if zg ⟨s.id, s.lim, s.ro, uV s.dP g⟩ = true then (⟨s.id, s.lim, s.ro, uV s.dP g⟩, 0) else (xP, 1)) else (xP, 6)) else (xP, 1)
theorem RF {l : List Gn} {k i : Nat} (h : i < k) (hk : k ≤ l.length) (r : List Gn) : eH (l.take k ++ r) i = eH l i := by
 unfold eH;rw [ax, ax, dK (by rw [ay]; omega), List.getElem?_take_of_lt h]
theorem Oc {l : List Gn} {k : Nat} (hk : k ≤ l.length) (r : List Gn) (q : Nat) : eH (l.take k ++ r) (k + q) = eH r q := by
 unfold eH;rw [ax, ax, dz (by rw [ay]; omega), ay]
 congr 2
 omega
theorem Xy (n : Int) : zI (fresh n).m = [] := by
 unfold zI;rw [ag (k9 n)]
 rfl
theorem ec.num {s : eE} (h : ec s) : ∀ i, i < s.dP.length → (i : Int) + 1 ≤ (eH s.dP i).num
 | 0, hi => by have := (h.vg hi).num; omega
 | i + 1, hi => by
  have h1 := ec.num h i (by omega);have h2 := (h.g (i + 1) hi).2.1 (by omega);rw [show i + 1 - 1 = i by omega] at h2;omega
theorem ec.sS {s : eE} (h : ec s) : ja (zS s) ∧ (zS s).mode = 1 ∧ (zS s).size ≤ 2 * s.lim := by
 have hl := h.len;have hi : s.dP.length - 1 < s.dP.length := by omega
 obtain ⟨h1, h2, h3, h4⟩ := h.g _ hi;exact ⟨(yD _).1 h1, h3.2 (by omega), h4⟩
theorem zJv {s : eE} (h : (xO s).2 = 0) : ec (xO s).1 := by
 unfold xO at h ⊢
 by_cases hv : zg s = true
 ·
  rw [ag hv] at h ⊢
  by_cases hn : (zS s).num < 8
  ·
   rw [ag hn] at h ⊢;have hV := (zR s).1 hv;obtain ⟨ht, hm, hs⟩ := hV.sS;have hl := hV.len;have jt := hV.num (s.dP.length - 1) (by omega);have jt : ((s.dP.length - 1 : Nat) : Int) + 1 ≤ (zS s).num := jt;have hk : s.dP.length - 1 ≤ s.dP.length := by omega
   have hlen : (s.dP.take (s.dP.length - 1) ++ [{ zS s with mode := 2 }, fresh ((zS s).num + 1)]).length = s.dP.length + 1 := by
    simp only [aA, ay, aY, dC]; omega
   have hf := (k6 ((zS s).num + 1)).2 (by omega);refine ⟨hV.id, hV.lim, by dsimp only; rw [hlen]; omega, fun i hi => ?_, ?_⟩
   ·
    dsimp only at hi ⊢;rw [hlen] at hi;unfold Bi;dsimp only;rw [hlen]
    by_cases h1 : i < s.dP.length - 1
    ·
     have ho := hV.g i (by omega);rw [RF h1 hk, RF (show i - 1 < s.dP.length - 1 by omega) hk];refine ⟨ho.1, ho.2.1, ⟨fun e => ?_, fun e => by omega⟩, ho.2.2.2⟩;have := ho.2.2.1.1 e;omega
    by_cases h2 : i = s.dP.length - 1
    ·
     have e0 : eH (s.dP.take (s.dP.length - 1) ++ [{ zS s with mode := 2 }, fresh ((zS s).num + 1)]) i = { zS s with mode := 2 } := by
      have := Oc hk [{ zS s with mode := 2 }, fresh ((zS s).num + 1)] 0;rw [bp] at this;rw [h2, this]; rfl
     rw [e0];refine ⟨(yD _).2 ⟨ht.num, ht.rev, by dsimp only; omega, ht.size, ht.m, ht.ends, ht.sum⟩, fun h0 => ?_, ⟨fun e => by dsimp only at e; omega, fun e => by omega⟩, hs⟩;rw [RF (show i - 1 < s.dP.length - 1 by omega) hk];have := (hV.g i (by omega)).2.1 h0;rw [h2] at this ⊢;exact this
    have h3 : i = s.dP.length - 1 + 1 := by omega
    have e0 : eH (s.dP.take (s.dP.length - 1) ++ [{ zS s with mode := 2 }, fresh ((zS s).num + 1)]) i = fresh ((zS s).num + 1) := by
     rw [h3, Oc hk _ 1]; rfl
    have e1 : eH (s.dP.take (s.dP.length - 1) ++ [{ zS s with mode := 2 }, fresh ((zS s).num + 1)]) (i - 1) = { zS s with mode := 2 } := by
     have := Oc hk [{ zS s with mode := 2 }, fresh ((zS s).num + 1)] 0;rw [bp] at this;rw [show i - 1 = s.dP.length - 1 by omega, this]; rfl
    rw [e0, e1];refine ⟨(yD _).2 hf, fun _ => by show (zS s).num < (zS s).num + 1; omega, ⟨fun _ => by omega, fun _ => rfl⟩, ?_⟩
    show (16 : Int) ≤ 2 * s.lim
    have := hV.lim;omega
   dsimp only;rw [hlen];have e0 : eH (s.dP.take (s.dP.length - 1) ++ [{ zS s with mode := 2 }, fresh ((zS s).num + 1)]) (s.dP.length + 1 - 1) = fresh ((zS s).num + 1) := by
    rw [show s.dP.length + 1 - 1 = s.dP.length - 1 + 1 by omega, Oc hk _ 1]; rfl
   rw [e0, Xy]
   show (16 : Int) + ((0 * 24 : Nat) : Int) ≤ 2 * s.lim
   have := hV.lim;omega
  rw [ah hn] at h; cases h
 rw [ah hv] at h; cases h
theorem zJF {s : eE} {g : Gn} (h : (yb s g).2 = 0) : ec (yb s g).1 := by
 unfold yb at h ⊢
 by_cases hv : zg s = true
 ·
  rw [ag hv] at h ⊢
  by_cases hn : (s.dP.any fun x => decide (x.num = g.num)) = true
  ·
   rw [ag hn] at h ⊢
   by_cases hw : zg ⟨s.id, s.lim, s.ro, uV s.dP g⟩ = true
   ·
    rw [ag hw]; exact (zR _).1 hw
   rw [ah hw] at h; cases h
  rw [ah hn] at h; cases h
 rw [ah hv] at h; cases h
theorem xW {M : Mp} (_ : fK M) {y : It} : y ∈ zI M ↔ ze M y.key = some y := by
  have ha := yV M;rw [← vO, yK ha];refine ⟨fun hy => zH7 ha hy, fun hf => List.mem_of_find?_eq_some hf⟩
theorem Xz {R : It → It → Prop} (hs : ∀ a b, R a b → R b a) : ∀ {l : List It}, l.Pairwise R → ∀ x ∈ l, ∀ y ∈ l, x ≠ y → R x y
  | [], _, x, hx, _, _, _ => by cases hx
  | a :: l, h, x, hx, y, hy, hne => by
    rw [dr] at h;rcases List.mem_cons.1 hx with e1 | hx
    · rcases List.mem_cons.1 hy with e2 | hy
      · exact absurd (e1.trans e2.symm) hne
      rw [e1]; exact h.1 y hy
    rcases List.mem_cons.1 hy with e2 | hy
    · rw [e2]; exact hs _ _ (h.1 x hx)
    exact Xz hs h.2 x hx y hy hne
theorem qG {l : List It} (h : jZ l) (size : Int) : kK l size ↔ (∀ x ∈ l, ∀ y ∈ l, x.key ≠ y.key → Ea x y) ∧ ∀ x ∈ l, vY x ≤ size := by
  unfold kK;have hp := qU h;refine ⟨fun ⟨h1, h2⟩ => ⟨fun x hx y hy hne => ?_, h2⟩, fun ⟨h1, h2⟩ => ⟨?_, h2⟩⟩
  · exact Xz (fun _ _ h => WD h) h1 x hx y hy (fun e => hne (by rw [e]))
  refine List.Pairwise.imp_of_mem ?_ hp;intro a b ha hb hlt;exact h1 a ha b hb (by omega)
theorem zMM (n : Nat) : oO n % 8 = 0 := by unfold oO; omega
theorem zMQ (n : Nat) : eG n % 8 = 0 := by
  unfold eG
  split
  · exact zMM n
  rfl
theorem ja.small {g : Gn} (h : ja g) : 0 ≤ g.m.live ∧ 0 ≤ g.m.dR ∧ g.m.live ≤ 1048576 ∧ g.m.dR ≤ 1048576 := by
  have h1 := (zV _).1 h.m;have h2 := h1.Bh;have h3 := h1.g0;have h4 := h.sum;have h5 := h.size;omega
theorem XA {M M' : Mp} (hm : fK M) (LH : fK M') {z z' : Int} (h : vU (zI M) z = true) (hz : z ≤ z') (hg : ∀ k y, ze M' k = some y → ze M k = some y) : vU (zI M') z' = true := by
  have h1 := (qG (yV M) z).1 (a_ h);refine aF ((qG (yV M') z').2 ⟨fun x hx y hy hne => ?_, fun x hx => ?_⟩)
  · exact h1.1 x ((xW hm).2 (hg _ _ ((xW LH).1 hx))) y ((xW hm).2 (hg _ _ ((xW LH).1 hy))) hne
  have := h1.2 x ((xW hm).2 (hg _ _ ((xW LH).1 hx)));omega
theorem zI8 {M : Mp} (hm : fK M) {x : It} (hx : okB x = true) (CK : M.dR + (gR (ze M x.key) : Int) ≤ 1099511627776) (h : vU (zI M) x.off = true) : vU (zI (wQ M x)) (vY x) = true := by
  have h1 := (qG (yV M) x.off).1 (a_ h);have LH := hm.ins hx CK;have hlt := tx (a_ hx);have fR : ∀ y, y ∈ zI (wQ M x) → y = x ∨ y ∈ zI M := fun y hy => by
    have := (xW LH).1 hy;rw [Wy hm hx CK] at this
    by_cases e : x.key = y.key
    · rw [ag e] at this
      injection this with e2;exact .inl e2.symm
    rw [ah e] at this;exact .inr ((xW hm).2 this)
  refine aF ((qG (yV _) _).2 ⟨fun y hy z hz hne => ?_, fun y hy => ?_⟩)
  · rcases fR y hy with rfl | Co
    · rcases fR z hz with rfl | RH
      · exact absurd rfl hne
      exact .inr (h1.2 z RH)
    rcases fR z hz with rfl | RH
    · exact .inl (h1.2 y Co)
    exact h1.1 y Co z RH hne
  rcases fR y hy with rfl | Co
  · exact cS _
  have := h1.2 y Co;omega
theorem XB {g : Gn} (hg : ja g) {x : Nd} (hx : x.ok) : okB (Bj g x) = true := by
  have h1 := hg.size;have h2 : x.data.length ≤ 4096 := hx.1;refine aF ⟨?_, ?_, ?_, ?_, ?_⟩
  · exact h1.1
  · exact h1.2.1
  · exact h1.2.2
  · show (0 : Int) ≤ (x.data.length : Int); omega
  show (x.data.length : Int) ≤ 4096; omega
theorem zE5 {g : Gn} (hg : ja g) {x : Nd} (hx : x.ok) (hz : g.size + (eG x.data.length : Int) ≤ 1048576) : ja (yT g x) := by
  have hm := (zV _).1 hg.m;have hs := hg.small;have h8 := zMQ x.data.length;have hsz := hg.size;have K6 := hg.sum;have hxl := xx x.data.length;refine ⟨hg.num, hg.rev, hg.mode, ⟨?_, hz, ?_⟩, ?_, ?_, ?_⟩
  · show 16 ≤ g.size + (eG x.data.length : Int); omega
  · show (g.size + (eG x.data.length : Int)) % 8 = 0; omega
  all_goals
    unfold yT;dsimp only
    split
    next hd =>
      have h1 : g.m.dR + (gR (ze g.m x.key) : Int) ≤ 1099511627776 := by have := N1 (ze g.m x.key); omega
      have oE := hm.del h1;have hds := qy hm h1;have iw := oE.Bh;have h2 : (yJ g.m x.key).dR + (eG x.data.length : Int) ≤ 1099511627776 := by omega
      have hw := oE.Df (n := (eG x.data.length : Int)) (by omega) h2
      first
        | exact (zV _).2 hw
        | (refine XA hm hw hg.ends (by omega) ?_
           intro k y hy
           rw [xZ hw, uI, ← xZ oE, kR hm h1] at hy
           split at hy
           · cases hy
           exact hy)
        | (rw [Ww oE (by omega) h2]
           dsimp only
           omega)
    next hd =>
      have hok := XB hg hx;have h1 : g.m.dR + (gR (ze g.m (Bj g x).key) : Int) ≤ 1099511627776 := by have := N1 (ze g.m (Bj g x).key); omega
      have hi := hm.ins hok h1;have RI := zI2 hm hok h1;have he : xN (Bj g x) = eG x.data.length := by unfold xN Bj; dsimp only; rw [Int.toNat_natCast]
      first
        | exact (zV _).2 hi
        | (have h3 := zI8 hm hok h1 hg.ends
           have h4 : vY (Bj g x) = g.size + (eG x.data.length : Int) := by unfold vY Bj; dsimp only; rw [Int.toNat_natCast]
           rwa [h4] at h3)
        | (rw [he] at RI
           omega)
theorem XC {g : Gn} (h : ja g) (hm : g.mode = 1) {l : List Nd} (hok : ∀ x ∈ l, x.ok) (hz : g.size + (g_ l : Int) ≤ 1048576) : yt g l = (0, zb g l) := by
  unfold yt;rw [ag ⟨(yD g).2 h, (tJ l).2 hok⟩, ag hm, ag hz]
/-! ### The XD nO and fB -/
end Go.Proofs.YtcgfilmmokmdjaaGreat
namespace Go.Proofs.YtcgfilmmokmdjaaGreat
open Go.RowKit
/-! ### Same -/
theorem zIy {M N : Mp} {i : Nat} (hi : i < 8) (h : M.st i ≠ N.st i) : Hj M N = false := by
 unfold Hj;have : (List.range 8).all (fun i => decide (M.st i = N.st i)) = false := by
  rw [List.all_eq_false];exact ⟨i, List.mem_range.2 hi, by simpa using h⟩
 rw [this]; rfl
theorem XE {M N : Mp} (h : ∀ i, i < 8 → M.st i = N.st i) : Hj M N = ((M.live == N.live) && (M.dR == N.dR)) := by
 unfold Hj;have : (List.range 8).all (fun i => decide (M.st i = N.st i)) = true := List.all_eq_true.2 fun i hi => aF (h i (List.mem_range.1 hi))
 rw [this, cE]
theorem zG4 (s t : Sl) (M N : Mp) (w : World) (h : fp w s M.st) (h2 : fp w t N.st) :
  Calls Tryz.prog 113 #[yA s M.live M.dR, yA t N.live N.dR] w fun e w' => e = .returned (.bool (Hj M N)) ∧ Below w.heap.size w w' := by
 obtain ⟨W0, eR⟩ : ∃ W0, (w.alloc (.cells (yN s M.live M.dR) 111)).alloc (.cells (yN t N.live N.dR) 111) = W0 := ⟨_, rfl⟩
 have HX := zh (show ew W0 w.heap.size s M.live M.dR from eR ▸ ((ew.new w s M.live M.dR 111).below (zP _ t N.live N.dR 111)));have HY := zh (show ew W0 (w.heap.size + 1) t N.live N.dR from eR ▸ (by have := ew.new (w.alloc (.cells (yN s M.live M.dR) 111)) t N.live N.dR 111; simpa using this));have HB := zh (show Below w.heap.size w W0 from eR ▸ zA (zP w s M.live M.dR 111) (zP _ t N.live N.dR 111));have oQ := zh eR;clear eR;have HSa := zh (fun i (hi : i < 8) W (hb : Below w.heap.size w W) => zJo (s.v i) (t.v i) (M.st i) (N.st i) W ((h i hi).below hb) ((h2 i hi).below hb));have iQ := zh (fun i (hi : i < 8) (h : M.st i ≠ N.st i) => zIy hi h);have jo := zh (fun h => XE (M := M) (N := N) h);clear h h2;generalize Hj M N = r at *;obtain ⟨f, L, G⟩ := M;obtain ⟨g, L2, G2⟩ := N;dsimp only at *
 go_enter Tryz.func113, Tryz.ntmps113
 go_upto_region 1 with fail;have eR := oQ.out;rw [show (w.alloc (.cells (yN s L G) 111)).alloc (.cells (yN t L2 G2) 111) = W0 from eR];clear eR oQ;go_wp2_with fail
 go_loopw [5] (fun iv W => ∃ i : Nat, iv = .int .i64 (i : Int) ∧ i ≤ 8 ∧ Hid (∀ j, j < i → f j = g j) ∧ Hid (Below W0.heap.size W0 W)) (fun iv _ => 8 - (intOf iv).toNat)
 case atStart => exact ⟨0, rfl, au _, zh (fun j hj => by omega), zh (aj _ _)⟩
 obtain ⟨i, rfl, hi, lG, iA⟩ := eT
 by_cases hin : i < 8
 ·
  have i1 : (i : Int) < 8 := by omega
  have ci := (HX.out.below iA.out).c i hin;have di := (HY.out.below iA.out).c i hin;rw [show s.v i = .slice (s.a i) (s.n i) (s.c i) from rfl] at ci;rw [show t.v i = .slice (t.a i) (t.n i) (t.c i) from rfl] at di;have nz := zh (fun u : dU wr => show Calls Tryz.prog 158 #[.slice (s.a i) (s.n i) (s.c i), .slice (t.a i) (t.n i) (t.c i)] u.w' fun e w' => e = .returned (.bool (decide (f i = g i))) ∧ Below u.w'.heap.size u.w' w' from HSa.out i hin u.w' (zA HB.out (zA iA.out u.h)));have fi := zB ci;have gi := zB di;have ED := zh (iQ.out i hin);clear ci di
  have HEq := zh (show decide (f i = g i) = true → ∀ j, j < i + 1 → f j = g j from fun h j hj => by
   by_cases e : j = i
   ·
    rw [e]; exact a_ h
   exact lG.out j (by omega))
  have HNe := zh (show decide (f i = g i) = false → r = false from fun h => ED.out (cC h));generalize decide (f i = g i) = b at *;go_wp2_with fail;refine zC (by kernel_rfl) (by kernel_rfl) ?_
  repeat (go_big_quiet_step (exact zG (nz.out _)))
  refine aC ?_;intro _ dY;obtain ⟨u, dY⟩ := dY;subst dY;have NS := zh (zA iA.out u.h);have ea := zh (zA HB.out NS.out);generalize u.w' = V at *
  cases b
  ·
   have HF := zh (HNe.out rfl);go_wp2_with fail;go_ret;exact ⟨zE HF.out.symm, ea.out⟩
  have sr := zh (HEq.out rfl);go_wp2_with fail;exact ⟨⟨i + 1, by go_num, by omega, sr, NS⟩, by simp [intOf]; omega⟩
 obtain rfl : i = 8 := by omega
 have HF := zh (jo.out lG.out);have XH := zh (HX.out.below iA.out);have XI := zh (HY.out.below iA.out);have ea := zh (zA HB.out iA.out);have c8 := XH.out.cl;have c9 := XH.out.cg;have d8 := XI.out.cl;have d9 := XI.out.cg;have Nw := zh (show r = ((L == L2) && (G == G2)) from HF.out);generalize hl : (L == L2) = b1 at *
 cases b1
 ·
  go_wp2_with fail;go_ret;exact ⟨zE Nw.out.symm, ea.out⟩
 go_wp2_with fail;go_ret;exact ⟨zE Nw.out.symm, ea.out⟩
theorem XK (n : Int) : bits .and .i64 n 7 = n % 8 := by
 have hm : (BitVec.ofInt 64 7).toNat = 2 ^ 3 - 1 := by decide
 have key : (BitVec.ofInt 64 n &&& BitVec.ofInt 64 7).toNat = (n % ((2 ^ 64 : Nat) : Int)).toNat % 2 ^ 3 := by
  rw [BitVec.toNat_and, BitVec.toNat_ofInt, hm, dN]
 show IntKind.i64.wrap ((BitVec.ofInt 64 n &&& BitVec.ofInt 64 7).toNat : Nat) = n % 8
 rw [key, IntKind.wrap_i64];omega
theorem Rd.np (k : Nat) (w : World) (hk : w.heap.size = k) (sz : Nat) (cs : List Value) (e : TypeId) (n : Nat) (hn : cs.length = n * sz) (hm : n ≤ maxLen) : Rd (w.alloc (.cells cs.toArray e)) sz (.slice (some ⟨k, 0, none⟩) n n) n cs := by
 subst hk; exact Rd.new w sz cs e n hn hm
theorem zFJ (M : Mp) : Hj M M = true := by
 rw [XE (fun _ _ => rfl)];simp
theorem zH2 (g : Gn) (s t : Sl) (w : World) (h : fp w s g.m.st) (h2 : fp w t g.m.st) :
  Calls Tryz.prog 72 #[za g.num g.rev g.mode g.size s g.m.live g.m.dR, za g.num g.rev g.mode g.size t g.m.live g.m.dR] w fun e w' => e = .returned (.bool true) ∧ Below w.heap.size w w' := by
 have HS := zh (fun W (hb : Below w.heap.size w W) => zG4 s t g.m g.m W (h.below hb) (h2.below hb));rw [zFJ] at HS;obtain ⟨n, r, md, z, ⟨f, L, G⟩⟩ := g;dsimp only at *;clear h h2;obtain ⟨W0, eR⟩ : ∃ W0, w.alloc (.cells (zW n r md z s L G) 113) = W0 := ⟨_, rfl⟩
 have jM := zh (show eu W0 w.heap.size n r md z s L G from eR ▸ eu.new w n r md z s L G 113);have eA := zh (show Below w.heap.size w W0 from eR ▸ zQ w n r md z s L G 113);have HY := zh (eu.new W0 n r md z t L G 113);have HX := zh (jM.out.below (zQ W0 n r md z t L G 113));have HB := zh (zA eA.out (zQ W0 n r md z t L G 113));have rC : W0.heap.size = w.heap.size + 1 := by rw [← eR]; simp
 go_enter Tryz.func72, Tryz.ntmps72
 go_upto_region 1 with fail;change Code.wp _ _ _ _ (W0.alloc (.cells (zW n r md z t L G) 113));clear eR jM eA;obtain ⟨W, hW⟩ : ∃ W, W0.alloc (.cells (zW n r md z t L G) 113) = W := ⟨_, rfl⟩
 rw [hW] at HX HB HY ⊢;clear hW;rw [rC] at HY;clear rC;obtain ⟨x0, x1, x2, x3, x4, x5, x6, x7, x8, x9, fI, fJ, fG, fH⟩ := HX.out.q;obtain ⟨y0, y1, y2, y3, y4, y5, y6, y7, y8, y9, FY, FZ, F0, F2⟩ := HY.out.q;go_wp2_with fail;refine (HS.out _ HB.out).mono ?_;rintro e w1 ⟨rfl, dW⟩;have eO := zh (zA HB.out dW);clear dW;go_wp2_with fail;go_ret;exact ⟨rfl, eO.out⟩
theorem XL (n : Int) (hn : 1 ≤ n ∧ n ≤ 8) (w : World) : Calls Tryz.prog 78 #[.int .i64 n] w fun e w' => e = .returned (.tuple #[za n 0 1 16 Sl.nil 0 0, .int .i64 0]) ∧ Below w.heap.size w w' := by
 have HR := zh (eu.new w 0 0 0 0 Sl.nil 0 0 113);have HB := zh (zQ w 0 0 0 0 Sl.nil 0 0 113);have e1 : decide (n < 1) = false := aD (by omega);have e2 : decide (8 < n) = false := aD (by omega);clear hn
 go_enter Tryz.func78, Tryz.ntmps78
 go_upto_region 1 with fail;obtain ⟨W, hW⟩ : ∃ W, w.alloc (.cells (zW 0 0 0 0 Sl.nil 0 0) 113) = W := ⟨_, rfl⟩
 change Code.wp _ _ _ _ (w.alloc (.cells (zW 0 0 0 0 Sl.nil 0 0) 113));rw [hW] at HR HB ⊢;clear hW;obtain ⟨r0, r1, r2, r3, r4, r5, r6, r7, r8, r9, lK, lq, l6, mO⟩ := HR.out.q;have rf := HR.out.f;go_wp2_with fail;change bodyPost _ _ _ _ _ (pts W w.heap.size (zL n 0 1 16 Sl.nil 0 0));have hby := HR.out.all n 0 1 16 Sl.nil 0 0;have ea := zh (zD (B := w.heap.size) (b := w.heap.size) (by omega) (zL n 0 1 16 Sl.nil 0 0) HB.out);generalize pts W w.heap.size (zL n 0 1 16 Sl.nil 0 0) = V at *;exact aw (v := .tuple #[za n 0 1 16 Sl.nil 0 0, .int .i64 0]) (by simp [results, Tryz.results78, go_sem, hby.q]) rfl ⟨rfl, ea.out⟩
def RJ (x : Nd) : Nd := ⟨x.key % 8, x.ck, x.del, if x.del then [] else x.data.take 30⟩
def JO (l : List Nd) : List Nd := (l.take 6).map RJ
theorem zJd (x : Nd) : (RJ x).data.length ≤ 30 := by
 unfold RJ;dsimp only
 split
 ·
  simp
 rw [ay]; omega
theorem XM (l : List Nd) : (JO l).length ≤ 6 := by unfold JO; rw [aI, ay]; omega
theorem zG0 (l : List Nd) : ∀ x ∈ JO l, x.data.length ≤ 30 := fun x hx => by
 obtain ⟨y, _, rfl⟩ := List.mem_map.1 hx;exact zJd y
end Go.Proofs.YtcgfilmmokmdjaaGreat
namespace Go.Proofs.YtcgfilmmokmdjaaGreat
open Go.RowKit
abbrev GP := Gn × Sl
def Ih : GP := (fT, Sl.nil)
instance : Inhabited GP := ⟨Ih⟩
def pat (l : List GP) (i : Nat) : GP := l.getD i Ih
def gP (x : GP) : List Value := [.int .i64 x.1.num, .int .i64 x.1.rev, .int .i64 x.1.mode, .int .i64 x.1.size, .slice (x.2.a 0) (x.2.n 0) (x.2.c 0), .slice (x.2.a 1) (x.2.n 1) (x.2.c 1), .slice (x.2.a 2) (x.2.n 2) (x.2.c 2), .slice (x.2.a 3) (x.2.n 3) (x.2.c 3), .slice (x.2.a 4) (x.2.n 4) (x.2.c 4), .slice (x.2.a 5) (x.2.n 5) (x.2.c 5), .slice (x.2.a 6) (x.2.n 6) (x.2.c 6), .slice (x.2.a 7) (x.2.n 7) (x.2.c 7), .int .i64 x.1.m.live, .int .i64 x.1.m.dR]
abbrev RK (x : GP) : Value := za x.1.num x.1.rev x.1.mode x.1.size x.2 x.1.m.live x.1.m.dR
theorem qz (x : GP) : (gP x).length = 14 := rfl
def dV (l : List GP) : List Gn := l.map Prod.fst
theorem zj (l : List GP) : (dV l).length = l.length := aI ..
theorem yu {l : List GP} {i : Nat} : eH (dV l) i = (pat l i).1 := by
 unfold eH dV pat;rw [ax, ax, b8]
 cases l[i]? <;> rfl
theorem yd {l : List GP} {i : Nat} (h : i < l.length) : pat l i ∈ l := by
 unfold pat;rw [ax, aB h]; exact bJ h
structure fl (w : World) (v : Value) (l : List GP) : Prop where
 r : iu 14 gP w v l
 m : ∀ p ∈ l, fp w p.2 p.1.m.st
theorem fl.below {w w' : World} {v : Value} {l : List GP} (h : fl w v l) (hb : Below w.heap.size w w') : fl w' v l := ⟨iu.below h.r hb, fun p hp => (h.m p hp).below hb⟩
theorem fl.shape {w : World} {v : Value} {l : List GP} (h : fl w v l) : ∃ a cap, v = .slice a l.length cap ∧ l.length ≤ cap ∧ cap ≤ maxLen := by
 obtain ⟨a, cap, h1, h2, h3, _⟩ := iu.shape h.r (by decide) Ih;exact ⟨a, cap, h1, h2, h3⟩
structure nt (w : World) (b o : Nat) (x : GP) : Prop where
 n0 : w.cell? ⟨b, o, none⟩ = some (.int .i64 x.1.num)
 n1 : w.cell? ⟨b, o + 1, none⟩ = some (.int .i64 x.1.rev)
 n2 : w.cell? ⟨b, o + 2, none⟩ = some (.int .i64 x.1.mode)
 n3 : w.cell? ⟨b, o + 3, none⟩ = some (.int .i64 x.1.size)
 c0 : w.cell? ⟨b, o + 4, none⟩ = some (.slice (x.2.a 0) (x.2.n 0) (x.2.c 0))
 c1 : w.cell? ⟨b, o + 5, none⟩ = some (.slice (x.2.a 1) (x.2.n 1) (x.2.c 1))
 c2 : w.cell? ⟨b, o + 6, none⟩ = some (.slice (x.2.a 2) (x.2.n 2) (x.2.c 2))
 c3 : w.cell? ⟨b, o + 7, none⟩ = some (.slice (x.2.a 3) (x.2.n 3) (x.2.c 3))
 c4 : w.cell? ⟨b, o + 8, none⟩ = some (.slice (x.2.a 4) (x.2.n 4) (x.2.c 4))
 c5 : w.cell? ⟨b, o + 9, none⟩ = some (.slice (x.2.a 5) (x.2.n 5) (x.2.c 5))
 c6 : w.cell? ⟨b, o + 10, none⟩ = some (.slice (x.2.a 6) (x.2.n 6) (x.2.c 6))
 c7 : w.cell? ⟨b, o + 11, none⟩ = some (.slice (x.2.a 7) (x.2.n 7) (x.2.c 7))
 cl : w.cell? ⟨b, o + 12, none⟩ = some (.int .i64 x.1.m.live)
 cg : w.cell? ⟨b, o + 13, none⟩ = some (.int .i64 x.1.m.dR)
theorem nt.q {w : World} {b o : Nat} {x : GP} (h : nt w b o x) : w.cell? ⟨b, o, none⟩ = some (.int .i64 x.1.num) ∧ w.cell? ⟨b, o + 1, none⟩ = some (.int .i64 x.1.rev) ∧ w.cell? ⟨b, o + 2, none⟩ = some (.int .i64 x.1.mode) ∧ w.cell? ⟨b, o + 3, none⟩ = some (.int .i64 x.1.size) ∧ w.cell? ⟨b, o + 4, none⟩ = some (.slice (x.2.a 0) (x.2.n 0) (x.2.c 0)) ∧ w.cell? ⟨b, o + 5, none⟩ = some (.slice (x.2.a 1) (x.2.n 1) (x.2.c 1)) ∧ w.cell? ⟨b, o + 6, none⟩ = some (.slice (x.2.a 2) (x.2.n 2) (x.2.c 2)) ∧ w.cell? ⟨b, o + 7, none⟩ = some (.slice (x.2.a 3) (x.2.n 3) (x.2.c 3)) ∧ w.cell? ⟨b, o + 8, none⟩ = some (.slice (x.2.a 4) (x.2.n 4) (x.2.c 4)) ∧ w.cell? ⟨b, o + 9, none⟩ = some (.slice (x.2.a 5) (x.2.n 5) (x.2.c 5)) ∧ w.cell? ⟨b, o + 10, none⟩ = some (.slice (x.2.a 6) (x.2.n 6) (x.2.c 6)) ∧ w.cell? ⟨b, o + 11, none⟩ = some (.slice (x.2.a 7) (x.2.n 7) (x.2.c 7)) ∧ w.cell? ⟨b, o + 12, none⟩ = some (.int .i64 x.1.m.live) ∧ w.cell? ⟨b, o + 13, none⟩ = some (.int .i64 x.1.m.dR) := ⟨h.q⟩
theorem nt.below {w w' : World} {b o : Nat} {x : GP} (h : nt w b o x) (hb : Below w.heap.size w w') : nt w' b o x :=
 ⟨hb.keeps' h.n0, hb.keeps' h.n1, hb.keeps' h.n2, hb.keeps' h.n3, hb.keeps' h.c0, hb.keeps' h.c1, hb.keeps' h.c2, hb.keeps' h.c3, hb.keeps' h.c4, hb.keeps' h.c5, hb.keeps' h.c6, hb.keeps' h.c7, hb.keeps' h.cl, hb.keeps' h.cg⟩
theorem nt.Dl {w : World} {b : Nat} {g : Gn} {s : Sl} (h : eu w b g.num g.rev g.mode g.size s g.m.live g.m.dR) : nt w b 0 (g, s) :=
 ⟨h.q⟩
theorem nt.ek {w : World} {b c o : Nat} {x : GP} (h : nt w b o x) (hp : b ≠ c) (vs : List (Nat × Value)) : nt (pts w c vs) b o x :=
 ⟨(zt (p := ⟨b, o, none⟩) hp vs w).trans h.n0, (zt (p := ⟨b, o + 1, none⟩) hp vs w).trans h.n1, (zt (p := ⟨b, o + 2, none⟩) hp vs w).trans h.n2, (zt (p := ⟨b, o + 3, none⟩) hp vs w).trans h.n3, (zt (p := ⟨b, o + 4, none⟩) hp vs w).trans h.c0, (zt (p := ⟨b, o + 5, none⟩) hp vs w).trans h.c1, (zt (p := ⟨b, o + 6, none⟩) hp vs w).trans h.c2, (zt (p := ⟨b, o + 7, none⟩) hp vs w).trans h.c3, (zt (p := ⟨b, o + 8, none⟩) hp vs w).trans h.c4, (zt (p := ⟨b, o + 9, none⟩) hp vs w).trans h.c5, (zt (p := ⟨b, o + 10, none⟩) hp vs w).trans h.c6, (zt (p := ⟨b, o + 11, none⟩) hp vs w).trans h.c7, (zt (p := ⟨b, o + 12, none⟩) hp vs w).trans h.cl, (zt (p := ⟨b, o + 13, none⟩) hp vs w).trans h.cg⟩
theorem fl.at {w : World} {a : Option Addr} {n cap : Nat} {l : List GP} (h : fl w (.slice a n cap) l) {j : Nat} (hj : j < n) : ∃ b off, a = some ⟨b, off, none⟩ ∧ nt w b (off + j * 14) (pat l j) := by
 obtain ⟨a', cap', e, h2, h3, _, h5⟩ := iu.shape h.r (by decide) Ih;injection e with e1 e2 e3;subst e1 e2 e3;obtain ⟨b, off, e, hc⟩ := h5 (by omega);refine ⟨b, off, e, ?_, hc j hj 1 _ rfl, hc j hj 2 _ rfl, hc j hj 3 _ rfl, hc j hj 4 _ rfl, hc j hj 5 _ rfl, hc j hj 6 _ rfl, hc j hj 7 _ rfl, hc j hj 8 _ rfl, hc j hj 9 _ rfl, hc j hj 10 _ rfl, hc j hj 11 _ rfl, hc j hj 12 _ rfl, hc j hj 13 _ rfl⟩;have := hc j hj 0 _ rfl; rwa [bp] at this
theorem fl.LI {w : World} {b off : Nat} {n cap : Nat} {l : List GP} (h : fl w (.slice (some ⟨b, off, none⟩) n cap) l) {j : Nat} (hj : j < n) : nt w b (off + j * 14) (pat l j) := by
 obtain ⟨b', o', e, h⟩ := h.at hj;injection e with e;injection e with e1 e2;subst e1 e2;exact h
structure SlP where
 id : Int
 lim : Int
 ro : Bool
 dP : List GP
abbrev zK (i l : Int) (r : Bool) (a : Option Addr) (n c : Nat) : Array Value := #[.int .i64 i, .int .i64 l, .bool r, .slice a n c]
abbrev zZ (i l : Int) (r : Bool) (a : Option Addr) (n c : Nat) : Value := .agg (zK i l r a n c)
structure eQ (W : World) (b : Nat) (i l : Int) (r : Bool) (a : Option Addr) (n c : Nat) : Prop where
 c0 : W.cell? ⟨b, 0, none⟩ = some (.int .i64 i)
 c1 : W.cell? ⟨b, 1, none⟩ = some (.int .i64 l)
 c2 : W.cell? ⟨b, 2, none⟩ = some (.bool r)
 c3 : W.cell? ⟨b, 3, none⟩ = some (.slice a n c)
 f : ∀ i, W.frozen? ⟨b, i, none⟩ = false
theorem eQ.q {W : World} {b : Nat} {i l : Int} {r : Bool} {a : Option Addr} {n c : Nat} (h : eQ W b i l r a n c) : W.cell? ⟨b, 0, none⟩ = some (.int .i64 i) ∧ W.cell? ⟨b, 1, none⟩ = some (.int .i64 l) ∧ W.cell? ⟨b, 2, none⟩ = some (.bool r) ∧ W.cell? ⟨b, 3, none⟩ = some (.slice a n c) := ⟨h.c0, h.c1, h.c2, h.c3⟩
section
variable {W : World} {b : Nat} {i l : Int} {r : Bool} {a : Option Addr} {n c : Nat}
theorem eQ.new (W : World) (i l : Int) (r : Bool) (a : Option Addr) (n c : Nat) (t : TypeId) : eQ (W.alloc (.cells (zK i l r a n c) t)) W.heap.size i l r a n c := ⟨by simp, by simp, by simp, by simp, fun i => by simp⟩
theorem zN (w : World) (i l : Int) (r : Bool) (a : Option Addr) (n c : Nat) (t : TypeId) : Below w.heap.size w (w.alloc (.cells (zK i l r a n c) t)) := (aj _ _).alloc (ai _) _
theorem eQ.lt (h : eQ W b i l r a n c) : b < W.heap.size := cH W _ h.c0
theorem eQ.below {W' : World} (h : eQ W b i l r a n c) (hb : Below W.heap.size W W') : eQ W' b i l r a n c := ⟨hb.keeps' h.c0, hb.keeps' h.c1, hb.keeps' h.c2, hb.keeps' h.c3, fun i => (hb.frozen (p := ⟨b, i, none⟩) h.lt).trans (h.f i)⟩
abbrev zJ (i l : Int) (r : Bool) (a : Option Addr) (n c : Nat) : List (Nat × Value) := [(0, .int .i64 i), (1, .int .i64 l), (2, .bool r), (3, .slice a n c)]
theorem eQ.all (h : eQ W b i l r a n c) (i' l' : Int) (r' : Bool) (a' : Option Addr) (n' c' : Nat) : eQ (pts W b (zJ i' l' r' a' n' c')) b i' l' r' a' n' c' := by
 obtain ⟨a0, a1, a2, a3⟩ := h.q;refine ⟨?_, ?_, ?_, ?_, fun i => (xT _ _ W).trans (h.f i)⟩
 ·
  simp [pts, go_sem, a0]
 ·
  simp [pts, go_sem, a1]
 ·
  simp [pts, go_sem, a2]
 simp [pts, go_sem, a3]
end
end Go.Proofs.YtcgfilmmokmdjaaGreat
namespace Go.Proofs.YtcgfilmmokmdjaaGreat
open Go.RowKit
theorem RM (w : World) : Calls Tryz.prog 53 #[.int .i64 4096] w fun e w' => e = .returned (.int .i64 4120) ∧ Below w.heap.size w w' :=
 (KH 4096 w).mono fun _ _ ⟨he, hw⟩ => ⟨he.trans rfl, hw ▸ aj _ _⟩
theorem zL6 (w : World) : Calls Tryz.prog 53 #[.int .i64 0] w fun e w' => e = .returned (.int .i64 24) ∧ Below w.heap.size w w' :=
 (KH 0 w).mono fun _ _ ⟨he, hw⟩ => ⟨he.trans rfl, hw ▸ aj _ _⟩
theorem zFG (i l : Int) (r : Bool) (a : Option Addr) (n c : Nat) (w : World) (hA : ¬ (0 ≤ i ∧ i < 4 ∧ 4136 ≤ l ∧ l ≤ 262144)) :
  Calls Tryz.prog 47 #[zZ i l r a n c] w fun e w' => e = .returned (.bool false) ∧ Below w.heap.size w w' := by
 have HZ := zh (fun W => RM W);have eB := zh (eQ.new w i l r a n c 27);have eA := zh (zN w i l r a n c 27);have hc : i < 0 ∨ (0 ≤ i ∧ 4 ≤ i) ∨ (0 ≤ i ∧ i < 4 ∧ l < 4136) ∨ (0 ≤ i ∧ i < 4 ∧ 4136 ≤ l ∧ 262144 < l) := by omega
 clear hA
 go_enter Tryz.func47, Tryz.ntmps47
 go_upto_region 1 with fail;obtain ⟨W, hW⟩ : ∃ W, w.alloc (.cells (zK i l r a n c) 27) = W := ⟨_, rfl⟩
 change Code.wp _ _ _ _ (w.alloc (.cells (zK i l r a n c) 27));rw [hW] at eB eA ⊢;have rD := eB.out.lt;have k0 := zB eB.out.c0;have k1 := zB eB.out.c1;clear hW;rcases hc with h1 | ⟨h1, h2⟩ | ⟨h1, h2, h3⟩ | ⟨h1, h2, h3, h4⟩
 ·
  have e1 : decide (i < 0) = true := by simp; omega
  refine zC (by kernel_rfl) (by kernel_rfl) ?_
  repeat (go_big_quiet_step ((exact zG (HZ.out _))))
  refine aC ?_;intro _ dY;obtain ⟨q, dY⟩ := dY;subst dY;have HQ := zh (zA eA.out q.h);clear k0 k1;go_wp2_with fail;go_ret;exact ⟨rfl, HQ.out⟩
 ·
  have e1 : decide (i < 0) = false := by simp; omega
  have e2 : decide (4 ≤ i) = true := by simp; omega
  refine zC (by kernel_rfl) (by kernel_rfl) ?_
  repeat (go_big_quiet_step ((exact zG (HZ.out _))))
  refine aC ?_;intro _ dY;obtain ⟨q, dY⟩ := dY;subst dY;have HQ := zh (zA eA.out q.h);clear k0 k1;go_wp2_with fail;go_ret;exact ⟨rfl, HQ.out⟩
 ·
  have e1 : decide (i < 0) = false := by simp; omega
  have e2 : decide (4 ≤ i) = false := by simp; omega
  have e3 : decide (l < 4136) = true := by simp; omega
  refine zC (by kernel_rfl) (by kernel_rfl) ?_
  repeat (go_big_quiet_step ((exact zG (HZ.out _))))
  refine aC ?_;intro _ dY;obtain ⟨q, dY⟩ := dY;subst dY;have HQ := zh (zA eA.out q.h);clear k0 k1;go_wp2_with fail;go_ret;exact ⟨rfl, HQ.out⟩
 have e1 : decide (i < 0) = false := by simp; omega
 have e2 : decide (4 ≤ i) = false := by simp; omega
 have e3 : decide (l < 4136) = false := by simp; omega
 have e4 : decide (262144 < l) = true := by simp; omega
 refine zC (by kernel_rfl) (by kernel_rfl) ?_
 repeat (go_big_quiet_step ((exact zG (HZ.out _))))
 refine aC ?_;intro _ dY;obtain ⟨q, dY⟩ := dY;subst dY;have HQ := zh (zA eA.out q.h);clear k0 k1;go_wp2_with fail;go_ret;exact ⟨rfl, HQ.out⟩
end Go.Proofs.YtcgfilmmokmdjaaGreat
