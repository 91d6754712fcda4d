/- Several texts in one, each over the last: generation.Fresh: the walk. Slots, in plain Lean. No program here. Generations, plain: add, kill, turn, swap. -/
import Derived.Test.YtenkeodfijladaaGreatDoorGv
import Derived.Test.YtenkeodfijladaaGreatDoorGA
import Derived.Test.YtenkeodfijladaaGreatDoorGD
import Derived.Test.YtenkeodfijladaaGreatDoorGQ
namespace Go.Proofs.YtenkeodfijladaaGreatDoor
open Go.RowKit

/-- A generation without items. -/
def fresh (num : Int) : Gn := ⟨num, 0, 1, 16, fun _ => [], 0, 0⟩
theorem rdM_nil (w : World) : RdM w Sl.nil (fun _ => []) := fun _ _ => RdS.nil 4 itC w
theorem fresh_map (num : Int) : vldM (fresh num).m = true := by
  rw [vldM_iff]
  exact ⟨fun _ _ => rfl, fun _ _ x hx => (by cases hx), rfl, Int.le_refl _, by show (0 : Int) ≤ 1099511627776; decide⟩
theorem fresh_vld (num : Int) : VldG (fresh num) ↔ 1 ≤ num ∧ num ≤ 8 := by
  constructor
  · intro h; exact h.num
  · intro h
    refine ⟨h, ⟨Int.le_refl _, by show (0 : Int) ≤ _; decide⟩, ?_, ?_, fresh_map num, rfl, rfl⟩
    · show (1 : Int) ≤ 1 ∧ (1 : Int) ≤ 3; decide
    · show (16 : Int) ≤ 16 ∧ (16 : Int) ≤ 1048576 ∧ (16 : Int) % 8 = 0; decide
set_option maxRecDepth 100000 in
set_option maxHeartbeats 4000000 in
theorem fresh_any (num : Int) (hn : 1 ≤ num ∧ num ≤ 8) (w : World) : Calls Tryz.prog 23 #[.int .i64 num] w fun e w' => e = .returned (.tuple #[genV num 0 1 16 Sl.nil 0 0, .int .i64 0]) ∧ Below w.heap.size w w' := by
  have HV := Lib.hid (fun W => gvalid_any (fresh num) Sl.nil W (rdM_nil W) (fun _ _ => Nat.zero_le _))
  rw [(vldG_iff _).2 ((fresh_vld num).2 hn)] at HV
  dsimp only [fresh] at HV
  have HN := Lib.hid (fun W => new_any W)
  have HB := Lib.hid (below_gen w 0 0 0 0 Sl.nil 0 0 43)
  have HR := Lib.hid (BoxG.new w 0 0 0 0 Sl.nil 0 0 43)
  clear hn
  generalize hnil : Sl.nil = s0 at *
  have HNil := Lib.hid hnil
  clear hnil
  go_enter Tryz.func23, Tryz.ntmps23
  go_wp2_with fail
  refine (HN.out _).mono ?_
  rintro e w1 ⟨rfl, hb1⟩
  obtain ⟨W0, hW0⟩ : ∃ W0, w.alloc (.cells (genC 0 0 0 0 s0 0 0) 43) = W0 := ⟨_, rfl⟩
  have hb1' : Below (w.alloc (.cells (genC 0 0 0 0 s0 0 0) 43)).heap.size (w.alloc (.cells (genC 0 0 0 0 s0 0 0) 43)) w1 := by
    rw [← HNil.out]; exact hb1
  rw [hW0] at hb1' HB HR
  have HB1 := Lib.hid (bstep HB.out hb1')
  have HR1 := Lib.hid (HR.out.below hb1')
  clear hb1 hb1' HB HR hW0
  have hlR := HR1.out.lt
  generalize hb0 : w.heap.size = b0 at *
  have E0 := Lib.hid hb0
  clear hb0
  go_upto_region 2 with fail
  obtain ⟨W, hW⟩ : ∃ W, w1.alloc (.cells (genC num 0 1 16 s0 0 0) 43) = W := ⟨_, rfl⟩
  have HX := Lib.hid (BoxG.new w1 num 0 1 16 s0 0 0 43)
  have HBx := Lib.hid (below_gen w1 num 0 1 16 s0 0 0 43)
  change Code.wp _ _ _ _ (w1.alloc (.cells (genC num 0 1 16 s0 0 0) 43))
  rw [hW] at HX HBx ⊢
  clear hW
  have HR2 := Lib.hid (HR1.out.below HBx.out)
  have HB2 := Lib.hid (bup HB1.out (Nat.le_of_lt hlR) HBx.out)
  have hlX := HX.out.lt
  have m0 := HX.out.n0
  have m1 := HX.out.n1
  have m2 := HX.out.n2
  have m3 := HX.out.n3
  have m4 := HX.out.c0
  have m5 := HX.out.c1
  have m6 := HX.out.c2
  have m7 := HX.out.c3
  have m8 := HX.out.c4
  have m9 := HX.out.c5
  have m10 := HX.out.c6
  have m11 := HX.out.c7
  have m12 := HX.out.cl
  have m13 := HX.out.cg
  go_wp2_with fail
  refine (HV.out _).mono ?_
  rintro e w2 ⟨rfl, hb2⟩
  clear m0 m1 m2 m3 m4 m5 m6 m7 m8 m9 m10 m11 m12 m13
  have HX3 := Lib.hid (HX.out.below hb2)
  have HR3 := Lib.hid (HR2.out.below hb2)
  have HB3 := Lib.hid (bup HB2.out (Nat.le_of_lt HR2.out.lt) hb2)
  have hlR3 := HR3.out.lt
  have hlX3 := HX3.out.lt
  have hne : b0 ≠ w1.heap.size := by omega
  clear hb2 HX HR2 HB2 HV HN HR1 HB1 HBx hlX
  generalize w1.heap.size = b1 at *
  have m0 := HX3.out.n0
  have m1 := HX3.out.n1
  have m2 := HX3.out.n2
  have m3 := HX3.out.n3
  have m4 := HX3.out.c0
  have m5 := HX3.out.c1
  have m6 := HX3.out.c2
  have m7 := HX3.out.c3
  have m8 := HX3.out.c4
  have m9 := HX3.out.c5
  have m10 := HX3.out.c6
  have m11 := HX3.out.c7
  have m12 := HX3.out.cl
  have m13 := HX3.out.cg
  have d0 := HR3.out.n0
  have d1 := HR3.out.n1
  have d2 := HR3.out.n2
  have d3 := HR3.out.n3
  have d4 := HR3.out.c0
  have d5 := HR3.out.c1
  have d6 := HR3.out.c2
  have d7 := HR3.out.c3
  have d8 := HR3.out.c4
  have d9 := HR3.out.c5
  have d10 := HR3.out.c6
  have d11 := HR3.out.c7
  have d12 := HR3.out.cl
  have d13 := HR3.out.cg
  have F := HR3.out.f
  go_wp2_with fail
  change bodyPost _ _ _ _ _ (pts w2 b0 (genL num 0 1 16 s0 0 0))
  have hby := HR3.out.all num 0 1 16 s0 0 0
  have HBz := Lib.hid (pts_below (B := b0) (Nat.le_refl _) (genL num 0 1 16 s0 0 0) HB3.out)
  generalize pts w2 b0 (genL num 0 1 16 s0 0 0) = V at *
  exact bodyPost_ret (v := .tuple #[genV num 0 1 16 s0 0 0, .int .i64 0]) (by simp [results, Tryz.results23, go_sem, hby.n0, hby.n1, hby.n2, hby.n3, hby.c0, hby.c1, hby.c2, hby.c3, hby.c4, hby.c5, hby.c6, hby.c7, hby.cl, hby.cg]) rfl ⟨rfl, by rw [E0.out]; exact HBz.out⟩
end Go.Proofs.YtenkeodfijladaaGreatDoor

namespace Go.Proofs.YtenkeodfijladaaGreatDoor

/-- A generation's numbers, and where its stripes lie. -/
instance : Inhabited Mp := ⟨⟨fun _ => [], 0, 0⟩⟩
def gn0 : Gn := ⟨0, 0, 0, 0, default⟩
instance : Inhabited Gn := ⟨gn0⟩
def gat (l : List Gn) (i : Nat) : Gn := l.getD i gn0
structure Slt where
  id : Int
  lim : Int
  ro : Bool
  gens : List Gn
/-- Number i among the generations is as it should be. -/
def okG (s : Slt) (i : Nat) : Prop :=
  vldG (gat s.gens i) = true ∧ (0 < i → (gat s.gens (i - 1)).num < (gat s.gens i).num) ∧ ((gat s.gens i).mode = 1 ↔ i + 1 = s.gens.length) ∧ (gat s.gens i).size ≤ 2 * s.lim
structure VldSl (s : Slt) : Prop where
  id : 0 ≤ s.id ∧ s.id < 4
  lim : 4136 ≤ s.lim ∧ s.lim ≤ 262144
  len : 1 ≤ s.gens.length ∧ s.gens.length ≤ 8
  g : ∀ i, i < s.gens.length → okG s i
  top : (gat s.gens (s.gens.length - 1)).size + (((itemsM (gat s.gens (s.gens.length - 1)).m).length * 24 : Nat) : Int) ≤ 2 * s.lim
open Classical in
noncomputable def vldSl (s : Slt) : Bool := decide (VldSl s)
theorem vldSl_iff (s : Slt) : vldSl s = true ↔ VldSl s := by unfold vldSl; simp
theorem vldSl_not {s : Slt} (h : ¬ VldSl s) : vldSl s = false := by unfold vldSl; simp [h]
theorem VldSl.vg {s : Slt} (h : VldSl s) {i : Nat} (hi : i < s.gens.length) : VldG (gat s.gens i) := (vldG_iff _).1 (h.g i hi).1
theorem vldSl_noG {s : Slt} {i : Nat} (hi : i < s.gens.length) (h : ¬ okG s i) : vldSl s = false := vldSl_not fun hv => h (hv.g i hi)
/-- The places of a key, the last generation first. -/
structure Fnd where
  gen : Int
  mode : Int
  rev : Int
  it : It
  at_ : Nat
def allF (l : List Gn) (key : Int) : Nat → List Fnd
  | 0 => []
  | n + 1 => (match getM (gat l n).m key with | some x => [⟨(gat l n).num, (gat l n).mode, (gat l n).rev, x, n⟩] | none => []) ++ allF l key n
noncomputable def allSl (s : Slt) (key : Int) : List Fnd := if vldSl s = true then allF s.gens key s.gens.length else []
end Go.Proofs.YtenkeodfijladaaGreatDoor

namespace Go.Proofs.YtenkeodfijladaaGreatDoor
open Go.RowKit

def itA (g : Gn) (x : Nd) : It := ⟨(x.key : Int), (x.ck : Int), g.size, (x.data.length : Int)⟩
/-- A record appended. -/
def addOne (g : Gn) (x : Nd) : Gn := { g with m := if x.del then wasteM (delM g.m x.key) (szN x.data.length : Nat) else insM g.m (itA g x), size := g.size + (szN x.data.length : Nat) }
def addAll (g : Gn) (l : List Nd) : Gn := l.foldl addOne g
def szL (l : List Nd) : Nat := (l.map fun x => szN x.data.length).sum
instance (x : Nd) : Decidable x.ok := by unfold Nd.ok; infer_instance
def okLB (l : List Nd) : Bool := l.all fun x => decide x.ok
def addG (g : Gn) (l : List Nd) : Int × Gn := if vldG g = true ∧ okLB l = true then (if g.mode = 1 then (if g.size + (szL l : Int) ≤ 1048576 then (0, addAll g l) else (9, gn0)) else (12, gn0)) else (1, gn0)
def killG (g : Gn) (l : List Int) : Int × Gn := if vldG g = true then (if g.mode = 1 then (12, gn0) else (0, { g with m := l.foldl delM g.m })) else (1, gn0)
def turnG (g : Gn) (frm : Int) : Int × Gn := if vldG g = true then (if g.mode = frm then (0, { g with mode := frm + 1 }) else (12, gn0)) else (1, gn0)
def swapG (g : Gn) (rev size : Int) (m : Mp) : Int × Gn := if vldG g = true then (if g.mode = 1 ∧ rev = g.rev + 1 then (if vldG ⟨g.num, rev, g.mode, size, m⟩ = true then (0, ⟨g.num, rev, g.mode, size, m⟩) else (1, gn0)) else (12, gn0)) else (1, gn0)
/-- What a change of a generation hands back. -/
def GRes (w0 : World) (p : Int × Gn) (e : Ending) (w' : World) : Prop := (∃ s, e = .returned (.tuple #[genV p.2.num p.2.rev p.2.mode p.2.size s p.2.m.live p.2.m.garb, .int .i64 p.1]) ∧ RdM w' s p.2.m.st) ∧ Below w0.heap.size w0 w'
/-- The same, where the map is of the call's own. -/
def GOwn (w0 : World) (p : Int × Gn) (e : Ending) (w' : World) : Prop := (∃ s, e = .returned (.tuple #[genV p.2.num p.2.rev p.2.mode p.2.size s p.2.m.live p.2.m.garb, .int .i64 p.1]) ∧ OwnM w' w0.heap.size s p.2.m.st) ∧ Below w0.heap.size w0 w'
theorem GOwn.res {w0 : World} {p : Int × Gn} {e : Ending} {w' : World} (h : GOwn w0 p e w') : GRes w0 p e w' := ⟨h.1.imp fun _ h => ⟨h.1, h.2.rd⟩, h.2⟩
theorem wasteM_zero (M : Mp) : wasteM M 0 = M := by
  unfold wasteM
  split
  · rw [Int.add_zero]
  · rfl
theorem szL_nil : szL [] = 0 := rfl
theorem szL_cons (x : Nd) (l : List Nd) : szL (x :: l) = szN x.data.length + szL l := by simp [szL]
theorem addAll_snoc (g : Gn) (l : List Nd) (x : Nd) : addAll g (l ++ [x]) = addOne (addAll g l) x := by simp [addAll]
theorem szL_snoc (l : List Nd) (x : Nd) : szL (l ++ [x]) = szL l + szN x.data.length := by simp [szL]
theorem addOne_size (g : Gn) (x : Nd) : (addOne g x).size = g.size + (szN x.data.length : Nat) := rfl
theorem addAll_size (g : Gn) : ∀ l, (addAll g l).size = g.size + (szL l : Nat)
  | [] => by simp [addAll, szL]
  | x :: r => by
    have := addAll_size (addOne g x) r
    rw [addOne_size] at this
    show (addAll (addOne g x) r).size = _
    rw [this, szL_cons]; omega
theorem addOne_num (g : Gn) (x : Nd) : (addOne g x).num = g.num ∧ (addOne g x).rev = g.rev ∧ (addOne g x).mode = g.mode := ⟨rfl, rfl, rfl⟩
theorem addAll_num : ∀ (l : List Nd) (g : Gn), (addAll g l).num = g.num ∧ (addAll g l).rev = g.rev ∧ (addAll g l).mode = g.mode
  | [], _ => ⟨rfl, rfl, rfl⟩
  | x :: r, g => by
    have := addAll_num r (addOne g x)
    exact this
theorem insM_len8 (M : Mp) (x : It) {n : Nat} (h : ∀ i, i < 8 → (M.st i).length ≤ n) : ∀ i, i < 8 → ((insM M x).st i).length ≤ n + 1 := fun i hi => by
  unfold insM
  split
  · show (if i = strp x.key then ins (M.st i) x else M.st i).length ≤ n + 1
    have h1 := ins_length x (M.st i)
    have h2 := h i hi
    split <;> omega
  · have h2 := h i hi; omega
theorem delM_len8 (M : Mp) (k : Int) {n : Nat} (h : ∀ i, i < 8 → (M.st i).length ≤ n) : ∀ i, i < 8 → ((delM M k).st i).length ≤ n := fun i hi => by
  unfold delM
  split
  · exact h i hi
  · split
    · show (if i = strp k then drp (M.st i) k else M.st i).length ≤ n
      have h1 := drp_length (M.st i) k
      have h2 := h i hi
      split <;> omega
    · exact h i hi
theorem wasteM_st (M : Mp) (z : Int) : (wasteM M z).st = M.st := by unfold wasteM; split <;> rfl
theorem addOne_len (g : Gn) (x : Nd) {n : Nat} (h : ∀ i, i < 8 → (g.m.st i).length ≤ n) : ∀ i, i < 8 → ((addOne g x).m.st i).length ≤ n + 1 := fun i hi => by
  unfold addOne
  dsimp only
  split
  · rw [wasteM_st]
    exact Nat.le_succ_of_le (delM_len8 _ _ h i hi)
  · exact insM_len8 _ _ h i hi
theorem addAll_len : ∀ (l : List Nd) (g : Gn) {n : Nat}, (∀ i, i < 8 → (g.m.st i).length ≤ n) → ∀ i, i < 8 → ((addAll g l).m.st i).length ≤ n + l.length
  | [], _, _, h => h
  | x :: r, g, n, h => fun i hi => by
    have := addAll_len r (addOne g x) (addOne_len g x h) i hi
    rw [List.length_cons]
    exact Nat.le_trans this (by omega)
theorem delAll_len : ∀ (l : List Int) (M : Mp) {n : Nat}, (∀ i, i < 8 → (M.st i).length ≤ n) → ∀ i, i < 8 → ((l.foldl delM M).st i).length ≤ n
  | [], _, _, h => h
  | x :: r, M, _, h => delAll_len r (delM M x) (delM_len8 M x h)
end Go.Proofs.YtenkeodfijladaaGreatDoor
