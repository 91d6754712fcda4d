/- Several texts in one, each over the last: Slots, in plain Lean. No program here. Slices of generations in memory. slot.Valid: the walk. slot.Valid: the walk, the loop. -/
import Derived.Test.YtibddmnfplmonaaGB
import Derived.Test.YtibddmnfplmonaaGC
import Derived.Test.YtibddmnfplmonaaNz
import Derived.StillTailTactics
namespace Go.Proofs.Ytibddmnfplmonaa

/-- A generation's numbers, and where its stripes lie. -/
instance : Inhabited Mp := ⟨⟨fun _ => [], 0, 0⟩⟩
def gn0 : Gn := ⟨0, 0, 0, 0, default⟩
instance : Inhabited Gn := ⟨gn0⟩
def gat (l : List Gn) (i : Nat) : Gn := l.getD i gn0
structure Slt where
  id : Int
  lim : Int
  ro : Bool
  gens : List Gn
/-- Number i among the generations is as it should be. -/
def okG (s : Slt) (i : Nat) : Prop :=
  vldG (gat s.gens i) = true ∧ (0 < i → (gat s.gens (i - 1)).num < (gat s.gens i).num) ∧ ((gat s.gens i).mode = 1 ↔ i + 1 = s.gens.length) ∧ (gat s.gens i).size ≤ 2 * s.lim
structure VldSl (s : Slt) : Prop where
  id : 0 ≤ s.id ∧ s.id < 4
  lim : 4136 ≤ s.lim ∧ s.lim ≤ 262144
  len : 1 ≤ s.gens.length ∧ s.gens.length ≤ 8
  g : ∀ i, i < s.gens.length → okG s i
  top : (gat s.gens (s.gens.length - 1)).size + (((itemsM (gat s.gens (s.gens.length - 1)).m).length * 24 : Nat) : Int) ≤ 2 * s.lim
open Classical in
noncomputable def vldSl (s : Slt) : Bool := decide (VldSl s)
theorem vldSl_iff (s : Slt) : vldSl s = true ↔ VldSl s := by unfold vldSl; simp
theorem vldSl_not {s : Slt} (h : ¬ VldSl s) : vldSl s = false := by unfold vldSl; simp [h]
theorem VldSl.vg {s : Slt} (h : VldSl s) {i : Nat} (hi : i < s.gens.length) : VldG (gat s.gens i) := (vldG_iff _).1 (h.g i hi).1
theorem vldSl_noG {s : Slt} {i : Nat} (hi : i < s.gens.length) (h : ¬ okG s i) : vldSl s = false := vldSl_not fun hv => h (hv.g i hi)
/-- The places of a key, the last generation first. -/
structure Fnd where
  gen : Int
  mode : Int
  rev : Int
  it : It
  at_ : Nat
def allF (l : List Gn) (key : Int) : Nat → List Fnd
  | 0 => []
  | n + 1 => (match getM (gat l n).m key with | some x => [⟨(gat l n).num, (gat l n).mode, (gat l n).rev, x, n⟩] | none => []) ++ allF l key n
noncomputable def allSl (s : Slt) (key : Int) : List Fnd := if vldSl s = true then allF s.gens key s.gens.length else []
end Go.Proofs.Ytibddmnfplmonaa

namespace Go.Proofs.Ytibddmnfplmonaa
open Go.RowKit

/-- A generation and where its stripes lie. -/
abbrev GP := Gn × Sl
def gp0 : GP := (gn0, Sl.nil)
instance : Inhabited GP := ⟨gp0⟩
def pat (l : List GP) (i : Nat) : GP := l.getD i gp0
def gpC (x : GP) : List Value := [.int .i64 x.1.num, .int .i64 x.1.rev, .int .i64 x.1.mode, .int .i64 x.1.size, .slice (x.2.a 0) (x.2.n 0) (x.2.c 0), .slice (x.2.a 1) (x.2.n 1) (x.2.c 1), .slice (x.2.a 2) (x.2.n 2) (x.2.c 2), .slice (x.2.a 3) (x.2.n 3) (x.2.c 3), .slice (x.2.a 4) (x.2.n 4) (x.2.c 4), .slice (x.2.a 5) (x.2.n 5) (x.2.c 5), .slice (x.2.a 6) (x.2.n 6) (x.2.c 6), .slice (x.2.a 7) (x.2.n 7) (x.2.c 7), .int .i64 x.1.m.live, .int .i64 x.1.m.garb]
abbrev gpV (x : GP) : Value := genV x.1.num x.1.rev x.1.mode x.1.size x.2 x.1.m.live x.1.m.garb
theorem gpC_len (x : GP) : (gpC x).length = 14 := rfl
def gns (l : List GP) : List Gn := l.map Prod.fst
theorem gns_len (l : List GP) : (gns l).length = l.length := List.length_map ..
theorem gat_gns {l : List GP} {i : Nat} : gat (gns l) i = (pat l i).1 := by
  unfold gat gns pat
  rw [List.getD_eq_getElem?_getD, List.getD_eq_getElem?_getD, List.getElem?_map]
  cases l[i]? <;> rfl
theorem pat_mem {l : List GP} {i : Nat} (h : i < l.length) : pat l i ∈ l := by
  unfold pat
  rw [List.getD_eq_getElem?_getD, List.getElem?_eq_getElem h]; exact List.getElem_mem h
/-- v is a slice of generations, and their maps read. -/
structure RdG (w : World) (v : Value) (l : List GP) : Prop where
  r : RdS 14 gpC w v l
  m : ∀ p ∈ l, RdM w p.2 p.1.m.st
theorem RdG.below {w w' : World} {v : Value} {l : List GP} (h : RdG w v l) (hb : Below w.heap.size w w') : RdG w' v l := ⟨RdS.below h.r hb, fun p hp => (h.m p hp).below hb⟩
theorem RdG.shape {w : World} {v : Value} {l : List GP} (h : RdG w v l) : ∃ a cap, v = .slice a l.length cap ∧ l.length ≤ cap ∧ cap ≤ maxLen := by
  obtain ⟨a, cap, h1, h2, h3, _⟩ := RdS.shape h.r (by decide) gp0
  exact ⟨a, cap, h1, h2, h3⟩
/-- The cells of a generation in a row. -/
structure GAt (w : World) (b o : Nat) (x : GP) : Prop where
  n0 : w.cell? ⟨b, o, none⟩ = some (.int .i64 x.1.num)
  n1 : w.cell? ⟨b, o + 1, none⟩ = some (.int .i64 x.1.rev)
  n2 : w.cell? ⟨b, o + 2, none⟩ = some (.int .i64 x.1.mode)
  n3 : w.cell? ⟨b, o + 3, none⟩ = some (.int .i64 x.1.size)
  c0 : w.cell? ⟨b, o + 4, none⟩ = some (.slice (x.2.a 0) (x.2.n 0) (x.2.c 0))
  c1 : w.cell? ⟨b, o + 5, none⟩ = some (.slice (x.2.a 1) (x.2.n 1) (x.2.c 1))
  c2 : w.cell? ⟨b, o + 6, none⟩ = some (.slice (x.2.a 2) (x.2.n 2) (x.2.c 2))
  c3 : w.cell? ⟨b, o + 7, none⟩ = some (.slice (x.2.a 3) (x.2.n 3) (x.2.c 3))
  c4 : w.cell? ⟨b, o + 8, none⟩ = some (.slice (x.2.a 4) (x.2.n 4) (x.2.c 4))
  c5 : w.cell? ⟨b, o + 9, none⟩ = some (.slice (x.2.a 5) (x.2.n 5) (x.2.c 5))
  c6 : w.cell? ⟨b, o + 10, none⟩ = some (.slice (x.2.a 6) (x.2.n 6) (x.2.c 6))
  c7 : w.cell? ⟨b, o + 11, none⟩ = some (.slice (x.2.a 7) (x.2.n 7) (x.2.c 7))
  cl : w.cell? ⟨b, o + 12, none⟩ = some (.int .i64 x.1.m.live)
  cg : w.cell? ⟨b, o + 13, none⟩ = some (.int .i64 x.1.m.garb)
theorem GAt.below {w w' : World} {b o : Nat} {x : GP} (h : GAt w b o x) (hb : Below w.heap.size w w') : GAt w' b o x :=
  ⟨hb.keeps' h.n0, hb.keeps' h.n1, hb.keeps' h.n2, hb.keeps' h.n3, hb.keeps' h.c0, hb.keeps' h.c1, hb.keeps' h.c2, hb.keeps' h.c3, hb.keeps' h.c4, hb.keeps' h.c5, hb.keeps' h.c6, hb.keeps' h.c7, hb.keeps' h.cl, hb.keeps' h.cg⟩
theorem GAt.of_box {w : World} {b : Nat} {g : Gn} {s : Sl} (h : BoxG w b g.num g.rev g.mode g.size s g.m.live g.m.garb) : GAt w b 0 (g, s) :=
  ⟨h.n0, h.n1, h.n2, h.n3, h.c0, h.c1, h.c2, h.c3, h.c4, h.c5, h.c6, h.c7, h.cl, h.cg⟩
theorem GAt.pts_ne {w : World} {b c o : Nat} {x : GP} (h : GAt w b o x) (hp : b ≠ c) (vs : List (Nat × Value)) : GAt (pts w c vs) b o x :=
  ⟨(pts_cell (p := ⟨b, o, none⟩) hp vs w).trans h.n0, (pts_cell (p := ⟨b, o + 1, none⟩) hp vs w).trans h.n1, (pts_cell (p := ⟨b, o + 2, none⟩) hp vs w).trans h.n2, (pts_cell (p := ⟨b, o + 3, none⟩) hp vs w).trans h.n3, (pts_cell (p := ⟨b, o + 4, none⟩) hp vs w).trans h.c0, (pts_cell (p := ⟨b, o + 5, none⟩) hp vs w).trans h.c1, (pts_cell (p := ⟨b, o + 6, none⟩) hp vs w).trans h.c2, (pts_cell (p := ⟨b, o + 7, none⟩) hp vs w).trans h.c3, (pts_cell (p := ⟨b, o + 8, none⟩) hp vs w).trans h.c4, (pts_cell (p := ⟨b, o + 9, none⟩) hp vs w).trans h.c5, (pts_cell (p := ⟨b, o + 10, none⟩) hp vs w).trans h.c6, (pts_cell (p := ⟨b, o + 11, none⟩) hp vs w).trans h.c7, (pts_cell (p := ⟨b, o + 12, none⟩) hp vs w).trans h.cl, (pts_cell (p := ⟨b, o + 13, none⟩) hp vs w).trans h.cg⟩
theorem RdG.at {w : World} {a : Option Addr} {n cap : Nat} {l : List GP} (h : RdG w (.slice a n cap) l) {j : Nat} (hj : j < n) : ∃ b off, a = some ⟨b, off, none⟩ ∧ GAt w b (off + j * 14) (pat l j) := by
  obtain ⟨a', cap', e, h2, h3, _, h5⟩ := RdS.shape h.r (by decide) gp0
  injection e with e1 e2 e3
  subst e1 e2 e3
  obtain ⟨b, off, e, hc⟩ := h5 (by omega)
  refine ⟨b, off, e, ?_, hc j hj 1 _ rfl, hc j hj 2 _ rfl, hc j hj 3 _ rfl, hc j hj 4 _ rfl, hc j hj 5 _ rfl, hc j hj 6 _ rfl, hc j hj 7 _ rfl, hc j hj 8 _ rfl, hc j hj 9 _ rfl, hc j hj 10 _ rfl, hc j hj 11 _ rfl, hc j hj 12 _ rfl, hc j hj 13 _ rfl⟩
  have := hc j hj 0 _ rfl; rwa [Nat.add_zero] at this
theorem RdG.at2 {w : World} {b off : Nat} {n cap : Nat} {l : List GP} (h : RdG w (.slice (some ⟨b, off, none⟩) n cap) l) {j : Nat} (hj : j < n) : GAt w b (off + j * 14) (pat l j) := by
  obtain ⟨b', o', e, h⟩ := h.at hj
  injection e with e
  injection e with e1 e2
  subst e1 e2
  exact h
/-- A slot as a value: its numbers and the slice of its generations. -/
structure SlP where
  id : Int
  lim : Int
  ro : Bool
  gens : List GP
def SlP.s (x : SlP) : Slt := ⟨x.id, x.lim, x.ro, gns x.gens⟩
abbrev sloC (i l : Int) (r : Bool) (a : Option Addr) (n c : Nat) : Array Value := #[.int .i64 i, .int .i64 l, .bool r, .slice a n c]
abbrev sloV (i l : Int) (r : Bool) (a : Option Addr) (n c : Nat) : Value := .agg (sloC i l r a n c)
/-- A slot in a block of its own. -/
structure BoxV (W : World) (b : Nat) (i l : Int) (r : Bool) (a : Option Addr) (n c : Nat) : Prop where
  c0 : W.cell? ⟨b, 0, none⟩ = some (.int .i64 i)
  c1 : W.cell? ⟨b, 1, none⟩ = some (.int .i64 l)
  c2 : W.cell? ⟨b, 2, none⟩ = some (.bool r)
  c3 : W.cell? ⟨b, 3, none⟩ = some (.slice a n c)
  f : ∀ i, W.frozen? ⟨b, i, none⟩ = false
section
variable {W : World} {b : Nat} {i l : Int} {r : Bool} {a : Option Addr} {n c : Nat}
theorem BoxV.new (W : World) (i l : Int) (r : Bool) (a : Option Addr) (n c : Nat) (t : TypeId) : BoxV (W.alloc (.cells (sloC i l r a n c) t)) W.heap.size i l r a n c := ⟨by simp, by simp, by simp, by simp, fun i => by simp⟩
theorem below_slo (w : World) (i l : Int) (r : Bool) (a : Option Addr) (n c : Nat) (t : TypeId) : Below w.heap.size w (w.alloc (.cells (sloC i l r a n c) t)) := (Below.refl _ _).alloc (Nat.le_refl _) _
theorem BoxV.lt (h : BoxV W b i l r a n c) : b < W.heap.size := World.block_lt_of_cell? W _ h.c0
theorem BoxV.below {W' : World} (h : BoxV W b i l r a n c) (hb : Below W.heap.size W W') : BoxV W' b i l r a n c := ⟨hb.keeps' h.c0, hb.keeps' h.c1, hb.keeps' h.c2, hb.keeps' h.c3, fun i => (hb.frozen (p := ⟨b, i, none⟩) h.lt).trans (h.f i)⟩
abbrev sloL (i l : Int) (r : Bool) (a : Option Addr) (n c : Nat) : List (Nat × Value) := [(0, .int .i64 i), (1, .int .i64 l), (2, .bool r), (3, .slice a n c)]
theorem BoxV.all (h : BoxV W b i l r a n c) (i' l' : Int) (r' : Bool) (a' : Option Addr) (n' c' : Nat) : BoxV (pts W b (sloL i' l' r' a' n' c')) b i' l' r' a' n' c' := by
  have a0 := h.c0
  have a1 := h.c1
  have a2 := h.c2
  have a3 := h.c3
  refine ⟨?_, ?_, ?_, ?_, fun i => (pts_frozen _ _ W).trans (h.f i)⟩
  · simp [pts, go_sem, a0]
  · simp [pts, go_sem, a1]
  · simp [pts, go_sem, a2]
  · simp [pts, go_sem, a3]
end
end Go.Proofs.Ytibddmnfplmonaa

namespace Go.Proofs.Ytibddmnfplmonaa
open Go.RowKit

theorem size4096 (w : World) : Calls Try.prog 12 #[.int .i64 4096] w fun e w' => e = .returned (.int .i64 4120) ∧ Below w.heap.size w w' :=
  (nsizeB 4096 w).mono fun _ _ ⟨he, hw⟩ => ⟨he.trans rfl, hw ▸ Below.refl _ _⟩
theorem size0 (w : World) : Calls Try.prog 12 #[.int .i64 0] w fun e w' => e = .returned (.int .i64 24) ∧ Below w.heap.size w w' :=
  (nsizeB 0 w).mono fun _ _ ⟨he, hw⟩ => ⟨he.trans rfl, hw ▸ Below.refl _ _⟩
set_option maxRecDepth 100000 in
set_option maxHeartbeats 4000000 in
/-- The numbers of the slot are not as they should be. -/
theorem svalid_no1 (i l : Int) (r : Bool) (a : Option Addr) (n c : Nat) (w : World) (hA : ¬ (0 ≤ i ∧ i < 4 ∧ 4136 ≤ l ∧ l ≤ 262144)) :
    Calls Try.prog 10 #[sloV i l r a n c] w fun e w' => e = .returned (.bool false) ∧ Below w.heap.size w w' := by
  have HZ := Lib.hid (fun W => size4096 W)
  have HBx := Lib.hid (BoxV.new w i l r a n c 30)
  have HB0 := Lib.hid (below_slo w i l r a n c 30)
  have hc : i < 0 ∨ (0 ≤ i ∧ 4 ≤ i) ∨ (0 ≤ i ∧ i < 4 ∧ l < 4136) ∨ (0 ≤ i ∧ i < 4 ∧ 4136 ≤ l ∧ 262144 < l) := by omega
  clear hA
  go_enter Try.func10, Try.ntmps10
  go_upto_region 1 with fail
  obtain ⟨W, hW⟩ : ∃ W, w.alloc (.cells (sloC i l r a n c) 30) = W := ⟨_, rfl⟩
  change Code.wp _ _ _ _ (w.alloc (.cells (sloC i l r a n c) 30))
  rw [hW] at HBx HB0 ⊢
  have hlw := HBx.out.lt
  have k0 := cell_by HBx.out.c0
  have k1 := cell_by HBx.out.c1
  clear hW
  rcases hc with h1 | ⟨h1, h2⟩ | ⟨h1, h2, h3⟩ | ⟨h1, h2, h3, h4⟩
  · have e1 : decide (i < 0) = true := by simp; omega
    refine wp_region_below (by kernel_rfl) (by kernel_rfl) ?_
    repeat (go_big_quiet_step ((exact calls_by (HZ.out _))))
    refine wpQuiet_nil ?_
    intro _ hw'
    obtain ⟨q, hw'⟩ := hw'
    subst hw'
    have HQ := Lib.hid (bstep HB0.out q.h)
    clear k0 k1
    go_wp2_with fail
    go_ret
    exact ⟨rfl, HQ.out⟩
  · have e1 : decide (i < 0) = false := by simp; omega
    have e2 : decide (4 ≤ i) = true := by simp; omega
    refine wp_region_below (by kernel_rfl) (by kernel_rfl) ?_
    repeat (go_big_quiet_step ((exact calls_by (HZ.out _))))
    refine wpQuiet_nil ?_
    intro _ hw'
    obtain ⟨q, hw'⟩ := hw'
    subst hw'
    have HQ := Lib.hid (bstep HB0.out q.h)
    clear k0 k1
    go_wp2_with fail
    go_ret
    exact ⟨rfl, HQ.out⟩
  · have e1 : decide (i < 0) = false := by simp; omega
    have e2 : decide (4 ≤ i) = false := by simp; omega
    have e3 : decide (l < 4136) = true := by simp; omega
    refine wp_region_below (by kernel_rfl) (by kernel_rfl) ?_
    repeat (go_big_quiet_step ((exact calls_by (HZ.out _))))
    refine wpQuiet_nil ?_
    intro _ hw'
    obtain ⟨q, hw'⟩ := hw'
    subst hw'
    have HQ := Lib.hid (bstep HB0.out q.h)
    clear k0 k1
    go_wp2_with fail
    go_ret
    exact ⟨rfl, HQ.out⟩
  · have e1 : decide (i < 0) = false := by simp; omega
    have e2 : decide (4 ≤ i) = false := by simp; omega
    have e3 : decide (l < 4136) = false := by simp; omega
    have e4 : decide (262144 < l) = true := by simp; omega
    refine wp_region_below (by kernel_rfl) (by kernel_rfl) ?_
    repeat (go_big_quiet_step ((exact calls_by (HZ.out _))))
    refine wpQuiet_nil ?_
    intro _ hw'
    obtain ⟨q, hw'⟩ := hw'
    subst hw'
    have HQ := Lib.hid (bstep HB0.out q.h)
    clear k0 k1
    go_wp2_with fail
    go_ret
    exact ⟨rfl, HQ.out⟩
end Go.Proofs.Ytibddmnfplmonaa

namespace Go.Proofs.Ytibddmnfplmonaa
open Go.RowKit

theorem ne_bools : ∀ {a b : Bool}, a ≠ b → (a = true ∧ b = false) ∨ (a = false ∧ b = true) := by decide

set_option maxRecDepth 100000 in
set_option maxHeartbeats 4000000 in
/-- The number of the generations is not as it should be. -/
theorem svalid_no2 (i l : Int) (r : Bool) (a : Option Addr) (n c : Nat) (w : World) (hA : 0 ≤ i ∧ i < 4 ∧ 4136 ≤ l ∧ l ≤ 262144) (hn : n < 1 ∨ 8 < n) :
    Calls Try.prog 10 #[sloV i l r a n c] w fun e w' => e = .returned (.bool false) ∧ Below w.heap.size w w' := by
  have HZ := Lib.hid (fun W => size4096 W)
  have HBx := Lib.hid (BoxV.new w i l r a n c 30)
  have HB0 := Lib.hid (below_slo w i l r a n c 30)
  obtain ⟨h1, h2, h3, h4⟩ := hA
  go_enter Try.func10, Try.ntmps10
  go_upto_region 1 with fail
  obtain ⟨W, hW⟩ : ∃ W, w.alloc (.cells (sloC i l r a n c) 30) = W := ⟨_, rfl⟩
  change Code.wp _ _ _ _ (w.alloc (.cells (sloC i l r a n c) 30))
  rw [hW] at HBx HB0 ⊢
  have hlw := HBx.out.lt
  have k0 := cell_by HBx.out.c0
  have k1 := cell_by HBx.out.c1
  clear hW
  have e1 : decide (i < 0) = false := by simp; omega
  have e2 : decide (4 ≤ i) = false := by simp; omega
  have e3 : decide (l < 4136) = false := by simp; omega
  have e4 : decide (262144 < l) = false := by simp; omega
  refine wp_region_below (by kernel_rfl) (by kernel_rfl) ?_
  repeat (go_big_quiet_step ((exact calls_by (HZ.out _))))
  refine wpQuiet_nil ?_
  intro _ hw'
  obtain ⟨q, hw'⟩ := hw'
  subst hw'
  have HQ := Lib.hid (bstep HB0.out q.h)
  have HX := Lib.hid (HBx.out.below q.h)
  generalize q.w' = w1 at *
  have k3 := HX.out.c3
  clear k0 k1 e1 e2 e3 e4 HZ HBx HB0
  rcases hn with h | h
  · have e5 : decide ((n : Int) < 1) = true := by simp; omega
    go_wp2_with fail
    go_ret
    exact ⟨rfl, HQ.out⟩
  · have e5 : decide ((n : Int) < 1) = false := by simp; omega
    have e6 : decide ((8 : Int) < (n : Int)) = true := by simp; omega
    go_wp2_with fail
    go_ret
    exact ⟨rfl, HQ.out⟩
set_option maxRecDepth 100000 in
set_option maxHeartbeats 8000000 in
theorem svalid_yes (i l : Int) (r : Bool) (a : Option Addr) (n c : Nat) (L : List GP) (w : World) (hA : 0 ≤ i ∧ i < 4 ∧ 4136 ≤ l ∧ l ≤ 262144) (hn : 1 ≤ n ∧ n ≤ 8)
    (h : RdG w (.slice a n c) L) (hs : ∀ p ∈ L, ∀ j, j < 8 → (p.1.m.st j).length ≤ 10000) :
    Calls Try.prog 10 #[sloV i l r a n c] w fun e w' => e = .returned (.bool (vldSl ⟨i, l, r, gns L⟩)) ∧ Below w.heap.size w w' := by
  have HZ := Lib.hid (fun W => size4096 W)
  have HZ0 := Lib.hid (fun W => size0 W)
  have HBx := Lib.hid (BoxV.new w i l r a n c 30)
  have HB0 := Lib.hid (below_slo w i l r a n c 30)
  have hLn : L.length = n := by
    obtain ⟨_, _, e, _⟩ := h.shape
    injection e with _ e _; exact e.symm
  have HR := Lib.hid h
  have HS := Lib.hid hs
  have HLn := Lib.hid hLn
  have HNo := Lib.hid (fun k (hk : k < n) (h : ¬ okG ⟨i, l, r, gns L⟩ k) => vldSl_noG (s := ⟨i, l, r, gns L⟩) (by show k < (gns L).length; rw [gns_len, hLn]; exact hk) h)
  have HYes := Lib.hid (fun (h : ∀ k, k < n → okG ⟨i, l, r, gns L⟩ k) => show vldSl ⟨i, l, r, gns L⟩ = decide ((pat L (n - 1)).1.size + (((itemsM (pat L (n - 1)).1.m).length * 24 : Nat) : Int) ≤ 2 * l) from by
    rw [Bool.eq_iff_iff, vldSl_iff, decide_eq_true_eq]
    have hl : (gns L).length = n := by rw [gns_len, hLn]
    constructor
    · intro h
      have := h.top
      simp only [gat_gns, hl] at this
      exact this
    · intro ht
      refine ⟨⟨hA.1, hA.2.1⟩, hA.2.2, by rw [hl]; exact hn, fun k hk => h k (by rw [hl] at hk; exact hk), ?_⟩
      simp only [gat_gns, hl]
      exact ht)
  have HOk := Lib.hid (fun k => show okG ⟨i, l, r, gns L⟩ k ↔ (vldG (pat L k).1 = true ∧ (0 < k → (pat L (k - 1)).1.num < (pat L k).1.num) ∧ ((pat L k).1.mode = 1 ↔ k + 1 = n) ∧ (pat L k).1.size ≤ 2 * l) from by
    unfold okG
    simp only [gat_gns, gns_len, hLn])
  generalize vldSl ⟨i, l, r, gns L⟩ = res at *
  generalize hok : okG ⟨i, l, r, gns L⟩ = ok at *
  clear hok
  obtain ⟨h1, h2, h3, h4⟩ := hA
  obtain ⟨hn1, hn8⟩ := hn
  clear h hs hLn
  go_enter Try.func10, Try.ntmps10
  go_upto_region 1 with fail
  obtain ⟨W, hW⟩ : ∃ W, w.alloc (.cells (sloC i l r a n c) 30) = W := ⟨_, rfl⟩
  change Code.wp _ _ _ _ (w.alloc (.cells (sloC i l r a n c) 30))
  rw [hW] at HBx HB0 ⊢
  have hlw := HBx.out.lt
  have k0 := cell_by HBx.out.c0
  have k1 := cell_by HBx.out.c1
  clear hW
  have e1 : decide (i < 0) = false := by simp; omega
  have e2 : decide (4 ≤ i) = false := by simp; omega
  have e3 : decide (l < 4136) = false := by simp; omega
  have e4 : decide (262144 < l) = false := by simp; omega
  refine wp_region_below (by kernel_rfl) (by kernel_rfl) ?_
  repeat (go_big_quiet_step ((exact calls_by (HZ.out _))))
  refine wpQuiet_nil ?_
  intro _ hw'
  obtain ⟨q, hw'⟩ := hw'
  subst hw'
  have HQ := Lib.hid (bstep HB0.out q.h)
  have HX := Lib.hid (HBx.out.below q.h)
  generalize q.w' = w1 at *
  have k3 := HX.out.c3
  clear k0 k1 e1 e2 e3 e4 HZ HBx HB0
  have hlX := HX.out.lt
  have HR1 := Lib.hid (HR.out.below HQ.out)
  have e5 : decide ((n : Int) < 1) = false := by simp; omega
  have e6 : decide ((8 : Int) < (n : Int)) = false := by simp; omega
  go_wp2_with fail
  clear k3
  go_loopw [40] (fun x wr => ∃ k : Nat, k ≤ n ∧ x = .int .i64 (k : Int) ∧ (∀ j, j < k → ok j) ∧ Below w1.heap.size w1 wr) (fun x _ => n - (intOf x).toNat)
  case atStart => exact ⟨0, Nat.zero_le _, rfl, fun j hj => absurd hj (by omega), Below.refl _ _⟩
  case round =>
    obtain ⟨k, hk, rfl, hoks, hb⟩ := hrel
    have Hoks := Lib.hid hoks
    have Hb := Lib.hid hb
    have hbs := hb.size
    clear hoks hb
    have HXr := Lib.hid (HX.out.below Hb.out)
    have HRr := Lib.hid (HR1.out.below Hb.out)
    by_cases hlt : k < n
    · obtain ⟨b, off, rfl, hg⟩ := HRr.out.at hlt
      have hmem := pat_mem (l := L) (i := k) (by rw [HLn.out]; exact hlt)
      have HMp := Lib.hid (HRr.out.m _ hmem)
      have HV := Lib.hid (fun W (hb : Below wr.heap.size wr W) => gvalid_any (pat L k).1 (pat L k).2 W (HMp.out.below hb) (HS.out _ hmem))
      have HOk1 := Lib.hid (HOk.out k)
      have HPr := Lib.hid (fun j (hj : j < n) => (HRr.out.at2 hj).n0)
      clear hmem HMp
      generalize pat L k = p at *
      obtain ⟨⟨num, rev, md, sz, f, LV, GA⟩, s⟩ := p
      dsimp only at HV HOk1 hg
      generalize vldG ⟨num, rev, md, sz, f, LV, GA⟩ = vb at *
      obtain ⟨g0, g1, g2, g3, g4, g5, g6, g7, g8, g9, g10, g11, g12, g13⟩ := hg
      dsimp only at g0 g1 g2 g3 g4 g5 g6 g7 g8 g9 g10 g11 g12 g13
      have x3 := HXr.out.c3
      have HXg := Lib.hid (BoxG.new wr num rev md sz s LV GA 46)
      have HBg := Lib.hid (below_gen wr num rev md sz s LV GA 46)
      go_upto_region 8 with fail
      change Code.wp _ _ _ _ (wr.alloc (.cells (genC num rev md sz s LV GA) 46))
      obtain ⟨W, hW⟩ : ∃ W, wr.alloc (.cells (genC num rev md sz s LV GA) 46) = W := ⟨_, rfl⟩
      rw [hW] at HXg HBg ⊢
      have HbW := Lib.hid (bup Hb.out hbs HBg.out)
      have hleW := Nat.le_trans hbs HBg.out.size
      have hlW := HXg.out.lt
      have HXW := Lib.hid (HXr.out.below HBg.out)
      have hlX2 := HXW.out.lt
      have HVW := Lib.hid (fun W' (hb : Below W.heap.size W W') => HV.out W' (bstep HBg.out hb))
      have HPW := Lib.hid (fun j (hj : j < n) => Below.keeps HBg.out _ _ (HPr.out j hj))
      clear hW g0 g1 g2 g3 g4 g5 g6 g7 g8 g9 g10 g11 g12 g13 x3 HV HPr HXr
      obtain ⟨bl, e7, hbl⟩ : ∃ bl, ((k : Int) == (n : Int) - 1) = bl ∧ (bl = true ↔ k + 1 = n) := ⟨_, rfl, by rw [beq_iff_eq]; omega⟩
      obtain ⟨bm, e8, hbm⟩ : ∃ bm, (md == 1) = bm ∧ (bm = true ↔ md = 1) := ⟨_, rfl, by rw [beq_iff_eq]⟩
      have HBm := Lib.hid hbm
      have HBl := Lib.hid hbl
      clear hbm hbl
      obtain ⟨bx, e9, hbx⟩ : ∃ bx, (bm != bl) = bx ∧ (bx = false ↔ bm = bl) := ⟨_, rfl, by cases bm <;> cases bl <;> decide⟩
      have j1 : IntKind.i64.wrap ((n : Int) - 1) = (n : Int) - 1 := IntWalk.i64_in _ (by omega)
      have j2 : IntKind.i64.wrap (2 * l) = 2 * l := IntWalk.i64_in _ (by omega)
      have y3 := HXW.out.c3
      go_wp2_with fail
      clear y3
      have m0 := cell_by HXg.out.n0
      have m1 := cell_by HXg.out.n1
      have m2 := cell_by HXg.out.n2
      have m3 := cell_by HXg.out.n3
      have m4 := cell_by HXg.out.c0
      have m5 := cell_by HXg.out.c1
      have m6 := cell_by HXg.out.c2
      have m7 := cell_by HXg.out.c3
      have m8 := cell_by HXg.out.c4
      have m9 := cell_by HXg.out.c5
      have m10 := cell_by HXg.out.c6
      have m11 := cell_by HXg.out.c7
      have m12 := cell_by HXg.out.cl
      have m13 := cell_by HXg.out.cg
      have v1 := cell_by HXW.out.c1
      have v3 := cell_by HXW.out.c3
      cases vb
      · refine wp_region_below (by kernel_rfl) (by kernel_rfl) ?_
        repeat (go_big_quiet_step ((exact calls_by (HVW.out _ (BelowBy.h _)))))
        refine wpQuiet_nil ?_
        intro _ hw'
        obtain ⟨q, hw'⟩ := hw'
        subst hw'
        have HQ2 := Lib.hid (bup HbW.out hleW q.h)
        generalize q.w' = W2 at *
        clear m0 m1 m2 m3 m4 m5 m6 m7 m8 m9 m10 m11 m12 m13 v1 v3
        go_wp2_with fail
        go_ret
        exact ⟨ret_bool (HNo.out k hlt fun h => by have := (HOk1.out.1 h).1; cases this).symm, bstep HQ.out HQ2.out⟩
      · by_cases hk0 : k = 0
        · have e0 : decide ((0 : Int) < (k : Int)) = false := by simp; omega
          cases bx
          · have hbx2 : bm = bl := hbx.1 rfl
            by_cases hsz : 2 * l < sz
            · have e10 : decide (2 * l < sz) = true := by simp; omega
              refine wp_region_below (by kernel_rfl) (by kernel_rfl) ?_
              repeat (go_big_quiet_step ((exact calls_by (HVW.out _ (BelowBy.h _)))))
              refine wpQuiet_nil ?_
              intro _ hw'
              obtain ⟨q, hw'⟩ := hw'
              subst hw'
              have HQ2 := Lib.hid (bup HbW.out hleW q.h)
              generalize q.w' = W2 at *
              clear m0 m1 m2 m3 m4 m5 m6 m7 m8 m9 m10 m11 m12 m13 v1 v3
              go_wp2_with fail
              go_ret
              exact ⟨ret_bool (HNo.out k hlt fun h => by have := (HOk1.out.1 h).2.2.2; omega).symm, bstep HQ.out HQ2.out⟩
            · have e10 : decide (2 * l < sz) = false := by simp; omega
              have HSz := Lib.hid (show sz ≤ 2 * l by omega)
              refine wp_region_below (by kernel_rfl) (by kernel_rfl) ?_
              repeat (go_big_quiet_step ((exact calls_by (HVW.out _ (BelowBy.h _)))))
              refine wpQuiet_nil ?_
              intro _ hw'
              obtain ⟨q, hw'⟩ := hw'
              subst hw'
              have HQ2 := Lib.hid (bup HbW.out hleW q.h)
              generalize q.w' = W2 at *
              clear m0 m1 m2 m3 m4 m5 m6 m7 m8 m9 m10 m11 m12 m13 v1 v3
              go_wp2_with fail
              exact ⟨⟨k + 1, by omega, by go_num, fun j hj => by
                by_cases e : j = k
                · rw [e]; exact HOk1.out.2 ⟨rfl, fun h => absurd h (by omega), by rw [← HBm.out, ← HBl.out, hbx2], HSz.out⟩
                · exact Hoks.out j (by omega), HQ2.out⟩, by simp [intOf]; omega⟩
          · have hbx2 := Lib.hid (show bm ≠ bl from fun h => by cases hbx.2 h)
            rcases ne_bools hbx2.out with ⟨rfl, rfl⟩ | ⟨rfl, rfl⟩
            · clear e9 hbx
              refine wp_region_below (by kernel_rfl) (by kernel_rfl) ?_
              repeat (go_big_quiet_step ((exact calls_by (HVW.out _ (BelowBy.h _)))))
              refine wpQuiet_nil ?_
              intro _ hw'
              obtain ⟨q, hw'⟩ := hw'
              subst hw'
              have HQ2 := Lib.hid (bup HbW.out hleW q.h)
              generalize q.w' = W2 at *
              clear m0 m1 m2 m3 m4 m5 m6 m7 m8 m9 m10 m11 m12 m13 v1 v3
              go_wp2_with fail
              go_ret
              exact ⟨ret_bool (HNo.out k hlt fun h => by
                    have h5 := (HOk1.out.1 h).2.2.1
                    rw [← HBm.out, ← HBl.out] at h5
                    simp at h5).symm, bstep HQ.out HQ2.out⟩
            · clear e9 hbx
              refine wp_region_below (by kernel_rfl) (by kernel_rfl) ?_
              repeat (go_big_quiet_step ((exact calls_by (HVW.out _ (BelowBy.h _)))))
              refine wpQuiet_nil ?_
              intro _ hw'
              obtain ⟨q, hw'⟩ := hw'
              subst hw'
              have HQ2 := Lib.hid (bup HbW.out hleW q.h)
              generalize q.w' = W2 at *
              clear m0 m1 m2 m3 m4 m5 m6 m7 m8 m9 m10 m11 m12 m13 v1 v3
              go_wp2_with fail
              go_ret
              exact ⟨ret_bool (HNo.out k hlt fun h => by
                    have h5 := (HOk1.out.1 h).2.2.1
                    rw [← HBm.out, ← HBl.out] at h5
                    simp at h5).symm, bstep HQ.out HQ2.out⟩
        · obtain ⟨j, rfl⟩ : ∃ j, k = j + 1 := ⟨k - 1, by omega⟩
          have e0 : decide ((0 : Int) < ((j + 1 : Nat) : Int)) = true := by simp
          have p0 := cell_by (HPW.out j (by omega))
          have HPj : j + 1 - 1 = j := by omega
          rw [HPj] at HOk1
          generalize (pat L j).1.num = pn at *
          have i1 : (j : Int) + 1 < (n : Int) := by omega
          have i2 : (j : Int) < (n : Int) := by omega
          have j3 : IntKind.i64.wrap (j : Int) = (j : Int) := IntWalk.i64_in _ (by omega)
          by_cases hpn : num ≤ pn
          · have e11 : decide (num ≤ pn) = true := by simp; omega
            refine wp_region_below (by kernel_rfl) (by kernel_rfl) ?_
            repeat (go_big_quiet_step ((exact calls_by (HVW.out _ (BelowBy.h _)))))
            refine wpQuiet_nil ?_
            intro _ hw'
            obtain ⟨q, hw'⟩ := hw'
            subst hw'
            have HQ2 := Lib.hid (bup HbW.out hleW q.h)
            generalize q.w' = W2 at *
            clear m0 m1 m2 m3 m4 m5 m6 m7 m8 m9 m10 m11 m12 m13 v1 v3
            go_wp2_with fail
            go_ret
            exact ⟨ret_bool (HNo.out (j + 1) hlt fun h => by have := (HOk1.out.1 h).2.1 (by omega); omega).symm, bstep HQ.out HQ2.out⟩
          · have e11 : decide (num ≤ pn) = false := by simp; omega
            have HPn := Lib.hid (show pn < num by omega)
            cases bx
            · have hbx2 : bm = bl := hbx.1 rfl
              by_cases hsz : 2 * l < sz
              · have e10 : decide (2 * l < sz) = true := by simp; omega
                refine wp_region_below (by kernel_rfl) (by kernel_rfl) ?_
                repeat (go_big_quiet_step ((exact calls_by (HVW.out _ (BelowBy.h _)))))
                refine wpQuiet_nil ?_
                intro _ hw'
                obtain ⟨q, hw'⟩ := hw'
                subst hw'
                have HQ2 := Lib.hid (bup HbW.out hleW q.h)
                generalize q.w' = W2 at *
                clear m0 m1 m2 m3 m4 m5 m6 m7 m8 m9 m10 m11 m12 m13 v1 v3
                go_wp2_with fail
                go_ret
                exact ⟨ret_bool (HNo.out (j + 1) hlt fun h => by have := (HOk1.out.1 h).2.2.2; omega).symm, bstep HQ.out HQ2.out⟩
              · have e10 : decide (2 * l < sz) = false := by simp; omega
                have HSz := Lib.hid (show sz ≤ 2 * l by omega)
                refine wp_region_below (by kernel_rfl) (by kernel_rfl) ?_
                repeat (go_big_quiet_step ((exact calls_by (HVW.out _ (BelowBy.h _)))))
                refine wpQuiet_nil ?_
                intro _ hw'
                obtain ⟨q, hw'⟩ := hw'
                subst hw'
                have HQ2 := Lib.hid (bup HbW.out hleW q.h)
                generalize q.w' = W2 at *
                clear m0 m1 m2 m3 m4 m5 m6 m7 m8 m9 m10 m11 m12 m13 v1 v3
                go_wp2_with fail
                exact ⟨⟨j + 1 + 1, by omega, by go_num, fun j' hj => by
                  by_cases e : j' = j + 1
                  · rw [e]; exact HOk1.out.2 ⟨rfl, fun _ => HPn.out, by rw [← HBm.out, ← HBl.out, hbx2], HSz.out⟩
                  · exact Hoks.out j' (by omega), HQ2.out⟩, by simp [intOf]; omega⟩
            · have hbx2 := Lib.hid (show bm ≠ bl from fun h => by cases hbx.2 h)
              rcases ne_bools hbx2.out with ⟨rfl, rfl⟩ | ⟨rfl, rfl⟩
              · clear e9 hbx
                refine wp_region_below (by kernel_rfl) (by kernel_rfl) ?_
                repeat (go_big_quiet_step ((exact calls_by (HVW.out _ (BelowBy.h _)))))
                refine wpQuiet_nil ?_
                intro _ hw'
                obtain ⟨q, hw'⟩ := hw'
                subst hw'
                have HQ2 := Lib.hid (bup HbW.out hleW q.h)
                generalize q.w' = W2 at *
                clear m0 m1 m2 m3 m4 m5 m6 m7 m8 m9 m10 m11 m12 m13 v1 v3
                go_wp2_with fail
                go_ret
                exact ⟨ret_bool (HNo.out (j + 1) hlt fun h => by
                    have h5 := (HOk1.out.1 h).2.2.1
                    rw [← HBm.out, ← HBl.out] at h5
                    simp at h5).symm, bstep HQ.out HQ2.out⟩
              · clear e9 hbx
                refine wp_region_below (by kernel_rfl) (by kernel_rfl) ?_
                repeat (go_big_quiet_step ((exact calls_by (HVW.out _ (BelowBy.h _)))))
                refine wpQuiet_nil ?_
                intro _ hw'
                obtain ⟨q, hw'⟩ := hw'
                subst hw'
                have HQ2 := Lib.hid (bup HbW.out hleW q.h)
                generalize q.w' = W2 at *
                clear m0 m1 m2 m3 m4 m5 m6 m7 m8 m9 m10 m11 m12 m13 v1 v3
                go_wp2_with fail
                go_ret
                exact ⟨ret_bool (HNo.out (j + 1) hlt fun h => by
                    have h5 := (HOk1.out.1 h).2.2.1
                    rw [← HBm.out, ← HBl.out] at h5
                    simp at h5).symm, bstep HQ.out HQ2.out⟩
    · obtain rfl : k = n := by omega
      have HF := Lib.hid (HYes.out Hoks.out)
      obtain ⟨j, rfl⟩ : ∃ j, k = j + 1 := ⟨k - 1, by omega⟩
      have HPj : j + 1 - 1 = j := by omega
      rw [HPj] at HF
      obtain ⟨b, off, rfl, hg⟩ := HRr.out.at (show j < j + 1 by omega)
      have hmem := pat_mem (l := L) (i := j) (by rw [HLn.out]; omega)
      have HMp := Lib.hid (HRr.out.m _ hmem)
      have HV := Lib.hid (fun W (hb : Below wr.heap.size wr W) => lenM_any (pat L j).2 (pat L j).1.m W (HMp.out.below hb) (HS.out _ hmem))
      have hil : (itemsM (pat L j).1.m).length ≤ 80000 := itemsM_len (HS.out _ hmem)
      have hsz := ((HOk.out j).1 (Hoks.out j (by omega))).2.2.2
      have hvg := ((vldG_iff _).1 ((HOk.out j).1 (Hoks.out j (by omega))).1).size.1
      clear hmem HMp HYes HNo HOk Hoks HS
      generalize (itemsM (pat L j).1.m).length = len at *
      generalize pat L j = p at *
      obtain ⟨⟨num, rev, md, sz, f, LV, GA⟩, s⟩ := p
      dsimp only at HV HF hg hsz hvg
      obtain ⟨g0, g1, g2, g3, g4, g5, g6, g7, g8, g9, g10, g11, g12, g13⟩ := hg
      dsimp only at g0 g1 g2 g3 g4 g5 g6 g7 g8 g9 g10 g11 g12 g13
      have x3 := HXr.out.c3
      have HXg := Lib.hid (BoxG.new wr num rev md sz s LV GA 46)
      have HBg := Lib.hid (below_gen wr num rev md sz s LV GA 46)
      have j3 : IntKind.i64.wrap (j : Int) = (j : Int) := IntWalk.i64_in _ (by omega)
      have i1 : (j : Int) + 1 < ((j + 1 : Nat) : Int) + 1 := by omega
      have i2 : (j : Int) < ((j + 1 : Nat) : Int) := by omega
      go_upto_region 13 with fail
      change Code.wp _ _ _ _ (wr.alloc (.cells (genC num rev md sz s LV GA) 46))
      obtain ⟨W, hW⟩ : ∃ W, wr.alloc (.cells (genC num rev md sz s LV GA) 46) = W := ⟨_, rfl⟩
      rw [hW] at HXg HBg ⊢
      have HbW := Lib.hid (bup Hb.out hbs HBg.out)
      have hleW := Nat.le_trans hbs HBg.out.size
      have hlW := HXg.out.lt
      have HXW := Lib.hid (HXr.out.below HBg.out)
      have HVW := Lib.hid (fun W' (hb : Below W.heap.size W W') => HV.out W' (bstep HBg.out hb))
      clear hW g0 g1 g2 g3 g4 g5 g6 g7 g8 g9 g10 g11 g12 g13 x3 HV HXr
      have j2 : IntKind.i64.wrap (2 * l) = 2 * l := IntWalk.i64_in _ (by omega)
      have j4 : IntKind.i64.wrap ((len : Int) * 24) = (len : Int) * 24 := IntWalk.i64_in _ (by omega)
      have j5 : IntKind.i64.wrap (sz + (len : Int) * 24) = sz + (len : Int) * 24 := IntWalk.i64_in _ (by omega)
      have m3 := cell_by HXg.out.n3
      have m4 := cell_by HXg.out.c0
      have m5 := cell_by HXg.out.c1
      have m6 := cell_by HXg.out.c2
      have m7 := cell_by HXg.out.c3
      have m8 := cell_by HXg.out.c4
      have m9 := cell_by HXg.out.c5
      have m10 := cell_by HXg.out.c6
      have m11 := cell_by HXg.out.c7
      have m12 := cell_by HXg.out.cl
      have m13 := cell_by HXg.out.cg
      have v1 := cell_by HXW.out.c1
      refine wp_region_below (by kernel_rfl) (by kernel_rfl) ?_
      repeat (go_big_quiet_step ((first | exact calls_by (HVW.out _ (BelowBy.h _)) | exact calls_by (HZ0.out _))))
      refine wpQuiet_nil ?_
      intro _ hw'
      obtain ⟨q, hw'⟩ := hw'
      subst hw'
      have HQ2 := Lib.hid (bup HbW.out hleW q.h)
      generalize q.w' = W2 at *
      clear m3 m4 m5 m6 m7 m8 m9 m10 m11 m12 m13 v1
      go_wp2_with fail
      go_ret
      exact ⟨ret_bool (by rw [HF.out]; congr 1), bstep HQ.out HQ2.out⟩
end Go.Proofs.Ytibddmnfplmonaa
