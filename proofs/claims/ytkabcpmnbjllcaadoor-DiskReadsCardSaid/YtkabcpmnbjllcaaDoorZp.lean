/- A disk's clone: memory of its own, each file's parts in an interval of blocks. The walk. -/
import Derived.Test.YtkabcpmnbjllcaaDoorZo
namespace Go.Proofs.YtkabcpmnbjllcaaDoor
open Go.RowKit

abbrev FE := Fil × Value × Value
def fe0 : FE := (fil0, .slice none 0 0, .slice none 0 0)
/-- What lies in the blocks from lo to hi reads as the file, whatever becomes of the rest. -/
def InR (lo hi : Nat) (W : World) (p : FE) : Prop := ∀ W', Iv lo hi W W' → RdB W' p.2.1 p.1.base ∧ RdW W' p.2.2 p.1.pend
theorem InR.keep {lo hi : Nat} {W W' : World} {p : FE} (h : InR lo hi W p) (hk : Iv lo hi W W') : InR lo hi W' p := fun W2 h2 => h W2 (hk.trans h2)
theorem own_iv {lo : Nat} {e : TypeId} {W W' : World} {sz n : Nat} {v : Value} {xs : List Value} (h : W.ownsRow lo e sz v n xs) (hk : Iv lo W.heap.size W W') : W'.ownsRow lo e sz v n xs :=
  hk.own h fun g hg => h.lt g hg
theorem OwnFi.iv {lo : Nat} {W W' : World} {p : FE} (h : OwnFi W lo p) (hk : Iv lo W.heap.size W W') : OwnFi W' lo p := by
  obtain ⟨hb, es, he, hw⟩ := h
  exact ⟨own_iv hb hk, es, he, own_iv hw.row hk, fun q hq => own_iv (hw.dat q hq) hk⟩
theorem OwnFi.rd {lo : Nat} {W : World} {p : FE} (h : OwnFi W lo p) : RdB W p.2.1 p.1.base ∧ RdW W p.2.2 p.1.pend := by
  obtain ⟨hb, es, he, hw⟩ := h
  exact ⟨hb.rd, es, he, own_rds (fun _ _ => rfl) (by decide) hw.row, fun q hq => (hw.dat q hq).rd⟩
theorem OwnFi.inr {lo : Nat} {W : World} {p : FE} (h : OwnFi W lo p) : InR lo W.heap.size W p := fun _ hk => (h.iv hk).rd
theorem OwnFi.lower {lo lo' : Nat} {W : World} {p : FE} (h : OwnFi W lo p) (hl : lo' ≤ lo) : OwnFi W lo' p := by
  obtain ⟨hb, es, he, hw⟩ := h
  exact ⟨hb.lower hl, es, he, World.ownsRow.mono hw.row hl, fun q hq => (hw.dat q hq).lower hl⟩
/-- What a change of one block below leaves. -/
theorem OwnFi.grown {lo : Nat} {W W' : World} {p : FE} {row : Option Nat} (h : OwnFi W lo p) (hg : W.grownBy W' row) (hr : ∀ g, row = some g → g < lo) : OwnFi W' lo p := by
  obtain ⟨hb, es, he, hw⟩ := h
  exact ⟨own_apart hb hg hr, es, he, own_apart hw.row hg hr, fun q hq => own_apart (hw.dat q hq) hg hr⟩
theorem Iv.grown {lo hi : Nat} {W W' : World} {row : Option Nat} (hg : W.grownBy W' row) (hh : hi ≤ W.heap.size) (hr : ∀ g, row = some g → g < lo ∨ hi ≤ g) : Iv lo hi W W' := fun b h1 h2 =>
  hg.block b (by omega) fun e => by have := hr b e.symm; omega
/-- A row of files of the call's own, its parts apart from each other. -/
structure OwnFs (W : World) (B : Nat) (v : Value) (es : List FE) (T : Nat → Nat) (k : Nat) : Prop where
  row : W.ownsRow B 69 3 v es.length (es.flatMap filC)
  fil : ∀ j, j < k → OwnFi W (T j) (es.getD j fe0) ∧ InR (T j) (T (j + 1)) W (es.getD j fe0)
  mono : ∀ i j, i ≤ j → j ≤ k → T i ≤ T j
  top : T k ≤ W.heap.size
  low : ∀ g, v.ownBlock = some g → g < T 0
  base : B ≤ T 0
  cap : ∀ j, j < k → (∀ g, (es.getD j fe0).2.1.ownBlock = some g → g < T (j + 1)) ∧ ∀ g, (es.getD j fe0).2.2.ownBlock = some g → g < T (j + 1)
theorem OwnFs.rd {W : World} {B : Nat} {v : Value} {es : List FE} {T : Nat → Nat} (h : OwnFs W B v es T es.length) : RdF W v (es.map (·.1)) := by
  refine ⟨es, rfl, own_rds (fun _ _ => rfl) (by decide) h.row, fun p hp => ?_, fun p hp => ?_⟩
  all_goals
    obtain ⟨j, hj, rfl⟩ := List.getElem_of_mem hp
    have := (h.fil j hj).1.rd
    rw [List.getD_eq_getElem?_getD, List.getElem?_eq_getElem hj] at this
    first | exact this.1 | exact this.2
theorem OwnFs.below {W W' : World} {B k : Nat} {v : Value} {es : List FE} {T : Nat → Nat} (h : OwnFs W B v es T k) (hb : Below W.heap.size W W') : OwnFs W' B v es T k :=
  ⟨own_keep h.row hb, fun j hj => ⟨(h.fil j hj).1.grown (grown_of hb) (fun g e => by cases e), (h.fil j hj).2.keep (Iv.below hb (Nat.le_trans (h.mono (j + 1) k (by omega) (Nat.le_refl _)) h.top))⟩, h.mono, Nat.le_trans h.top hb.size, h.low, h.base, h.cap⟩
/-- The row of files itself may change. -/
theorem OwnFs.grown {W W' : World} {B k : Nat} {v : Value} {es : List FE} {T : Nat → Nat} (h : OwnFs W B v es T k) (hg : W.grownBy W' v.ownBlock) : ∀ j, j < k → OwnFi W' (T j) (es.getD j fe0) ∧ InR (T j) (T (j + 1)) W' (es.getD j fe0) := fun j hj => by
  have h0 := h.mono 0 j (Nat.zero_le _) (by omega)
  have h1 := h.mono (j + 1) k (by omega) (Nat.le_refl _)
  exact ⟨(h.fil j hj).1.grown hg fun g e => by have := h.low g e; omega, (h.fil j hj).2.keep (Iv.grown hg (Nat.le_trans h1 h.top) fun g e => .inl (by have := h.low g e; omega))⟩
theorem flat_all3 {α : Type} (f : α → List Value) (hf : ∀ x, (f x).length = 3) (y : α) (a b c : Value) (hy : f y = [a, b, c]) : ∀ (es : List α) (k : Nat), k < es.length → (((es.flatMap f).set (k * 3) a).set (k * 3 + 1) b).set (k * 3 + 2) c = (es.set k y).flatMap f
  | [], _, h => by simp at h
  | x :: r, 0, _ => by
    obtain ⟨p, q, s, e⟩ : ∃ p q s, f x = [p, q, s] := by
      have := hf x
      match h : f x, this with
      | [p, q, s], _ => exact ⟨p, q, s, rfl⟩
    simp only [List.flatMap_cons, List.set_cons_zero, e, hy]
    rfl
  | x :: r, k + 1, h => by
    have ih := flat_all3 f hf y a b c hy r k (by simpa using h)
    simp only [List.flatMap_cons, List.set_cons_succ]
    rw [← ih]
    have e0 : (k + 1) * 3 = (f x).length + k * 3 := by rw [hf]; omega
    have e1 : (k + 1) * 3 + 1 = (f x).length + (k * 3 + 1) := by rw [hf]; omega
    have e2 : (k + 1) * 3 + 2 = (f x).length + (k * 3 + 2) := by rw [hf]; omega
    rw [e1, e2, e0]
    simp [List.set_append]
/-- A whole element of three cells stored. -/
theorem own_set3 {W : World} {B g n cap : Nat} {T : TypeId} {α : Type} (f : α → List Value) (hf : ∀ x, (f x).length = 3) {es : List α} (h : W.ownsRow B T 3 (.slice (some ⟨g, 0, none⟩) n cap) n (es.flatMap f)) (k : Nat) (hk : k < es.length) (y : α) (a b c : Value) (hy : f y = [a, b, c]) :
    (((W.setCell ⟨g, k * 3, none⟩ a).setCell ⟨g, k * 3 + 1, none⟩ b).setCell ⟨g, k * 3 + 2, none⟩ c).ownsRow B T 3 (.slice (some ⟨g, 0, none⟩) n cap) n ((es.set k y).flatMap f) ∧
    W.grownBy (((W.setCell ⟨g, k * 3, none⟩ a).setCell ⟨g, k * 3 + 1, none⟩ b).setCell ⟨g, k * 3 + 2, none⟩ c) (some g) := by
  rw [← flat_all3 f hf y a b c hy es k hk]
  have h1 := h.stored (k * 3) a
  have h2 := h1.1.stored (k * 3 + 1) b
  have h3 := h2.1.stored (k * 3 + 2) c
  exact ⟨h3.1, grown_tr (grown_tr h1.2 h2.2) h3.2⟩
theorem set_getD {α : Type} (l : List α) (k : Nat) (y d : α) (hk : k < l.length) (j : Nat) : (l.set k y).getD j d = if j = k then y else l.getD j d := by
  rw [List.getD_eq_getElem?_getD, List.getElem?_set]
  by_cases e : k = j
  · subst e; simp [hk]
  · rw [if_neg e, if_neg (fun e' => e e'.symm), List.getD_eq_getElem?_getD]
/-- One more file has been copied. -/
theorem OwnFs.step {W W1 : World} {B g n cap k : Nat} {es : List FE} {T : Nat → Nat} (h : OwnFs W B (.slice (some ⟨g, 0, none⟩) n cap) es T k) (hb : Below W.heap.size W W1) (hk : k < es.length) (hn : n = es.length) {p : FE} (hp : OwnFi W1 W.heap.size p) :
    OwnFs (((W1.setCell ⟨g, k * 3, none⟩ (.string (strB p.1.name))).setCell ⟨g, k * 3 + 1, none⟩ p.2.1).setCell ⟨g, k * 3 + 2, none⟩ p.2.2) B (.slice (some ⟨g, 0, none⟩) n cap) (es.set k p) (fun j => if j = k + 1 then W1.heap.size else T j) (k + 1) := by
  subst hn
  have h1 := h.below hb
  have hg := h.row.lt g rfl
  have h2 := own_set3 filC (fun _ => rfl) h1.row k hk p (.string (strB p.1.name)) p.2.1 p.2.2 rfl
  have h3 := h1.grown h2.2
  have hlow := h.low g rfl
  refine ⟨by rw [List.length_set]; exact h2.1, fun j hj => ?_, fun i j hij hj => ?_, ?_, fun g' e => ?_, ?_, fun j hj => ?_⟩
  · rw [set_getD _ _ _ _ hk]
    by_cases e : j = k
    · subst e
      rw [if_pos rfl, if_neg (by omega), if_pos rfl]
      have a1 := (hp.lower h.top).grown h2.2 fun g' e => by
        injection e with e
        have := h.mono 0 j (Nat.zero_le _) (Nat.le_refl _)
        omega
      have a2 := (hp.lower h.top).inr.keep (Iv.grown h2.2 (Nat.le_refl _) fun g' e => .inl (by
        injection e with e
        have := h.mono 0 j (Nat.zero_le _) (Nat.le_refl _)
        omega))
      exact ⟨a1, a2⟩
    · rw [if_neg e, if_neg (by omega), if_neg (by omega)]
      exact h3 j (by omega)
  · have := hb.size
    have := h.top
    split
    · split
      · exact Nat.le_refl _
      · omega
    · split
      · have := h.mono i k (by omega) (Nat.le_refl _); omega
      · exact h.mono i j hij (by omega)
  · simp
  · rw [if_neg (by omega)]; exact h.low g' e
  · rw [if_neg (by omega)]; exact h.base
  · rw [set_getD _ _ _ _ hk]
    by_cases e : j = k
    · subst e
      rw [if_pos rfl, if_pos rfl]
      obtain ⟨hb, ws, _, hw⟩ := hp
      exact ⟨fun g' e => (hb.lt g' e).2, fun g' e => (hw.row.lt g' e).2⟩
    · rw [if_neg e, if_neg (by omega)]
      exact h.cap j (by omega)
def fiS (B : Nat) (f : Fil) : Sta := ⟨fun v w => ∃ bv pv, v = filVal f.name bv pv ∧ OwnFi w B (f, bv, pv), fun _ _ _ hb ⟨bv, pv, e, h⟩ => ⟨bv, pv, e, h.grown (grown_of hb) (fun g e => by cases e)⟩⟩
/-- A disk in the cells of block b. -/
structure BoxD (w : World) (b : Nat) (c l : Int) (fv : Value) : Prop where
  c0 : w.cell? ⟨b, 0, none⟩ = some (.int .i64 c)
  c1 : w.cell? ⟨b, 1, none⟩ = some (.int .i64 l)
  c2 : w.cell? ⟨b, 2, none⟩ = some fv
  f : ∀ i, w.frozen? ⟨b, i, none⟩ = false
theorem BoxD.lt {w : World} {b : Nat} {c l : Int} {fv : Value} (h : BoxD w b c l fv) : b < w.heap.size := World.block_lt_of_cell? w _ h.c0
theorem BoxD.below {w w' : World} {b : Nat} {c l : Int} {fv : Value} (h : BoxD w b c l fv) (hb : Below w.heap.size w w') : BoxD w' b c l fv := ⟨Below.keeps hb _ _ h.c0, Below.keeps hb _ _ h.c1, Below.keeps hb _ _ h.c2, fun i => (hb.frozen (p := ⟨b, i, none⟩) h.lt).trans (h.f i)⟩
theorem BoxD.set_ne {w : World} {b : Nat} {c l : Int} {fv : Value} {p : Addr} (h : BoxD w b c l fv) (hne : b ≠ p.block) (u : Value) : BoxD (w.setCell p u) b c l fv := ⟨cell_set_ne h.c0 hne u, cell_set_ne h.c1 hne u, cell_set_ne h.c2 hne u, fun i => by rw [← h.f i]; simp⟩
theorem BoxD.set2 {w : World} {b : Nat} {c l : Int} {fv : Value} (h : BoxD w b c l fv) (u : Value) : BoxD (w.setCell ⟨b, 2, none⟩ u) b c l u := ⟨cell_set_off h.c0 (by decide) u, cell_set_off h.c1 (by decide) u, cell_set_same h.c2 u, fun i => by rw [← h.f i]; simp⟩
theorem BoxD.set1 {w : World} {b : Nat} {c l : Int} {fv : Value} (h : BoxD w b c l fv) (n : Int) : BoxD (w.setCell ⟨b, 1, none⟩ (.int .i64 n)) b c n fv := ⟨cell_set_off h.c0 (by decide) _, cell_set_same h.c1 _, cell_set_off h.c2 (by decide) _, fun i => by rw [← h.f i]; simp⟩
theorem BoxD.all {w : World} {b : Nat} {c l : Int} {fv : Value} (h : BoxD w b c l fv) (c' l' : Int) (fv' : Value) : BoxD (((w.setCell ⟨b, 0, none⟩ (.int .i64 c')).setCell ⟨b, 1, none⟩ (.int .i64 l')).setCell ⟨b, 2, none⟩ fv') b c' l' fv' :=
  ⟨cell_set_off (cell_set_off (cell_set_same h.c0 _) (by decide) _) (by decide) _, cell_set_off (cell_set_same (cell_set_off h.c1 (by decide) _) _) (by decide) _, cell_set_same (cell_set_off (cell_set_off h.c2 (by decide) _) (by decide) _) _, fun i => by rw [← h.f i]; simp⟩
theorem BoxD.new (w : World) (c l : Int) (fv : Value) (t : TypeId) : BoxD (w.alloc (.cells #[.int .i64 c, .int .i64 l, fv] t)) w.heap.size c l fv := ⟨by simp, by simp, by simp, fun i => by simp⟩
theorem OwnFs.set_ne {W : World} {B b k : Nat} {v : Value} {es : List FE} {T : Nat → Nat} (h : OwnFs W B v es T k) (hb : b < B) (i : Nat) (u : Value) : OwnFs (W.setCell ⟨b, i, none⟩ u) B v es T k := by
  have hg : W.grownBy (W.setCell ⟨b, i, none⟩ u) (some b) := ⟨rfl, rfl, rfl, by simp, fun j _ hne => Below.heap_setCell W ⟨b, i, none⟩ u j (fun e => hne (by rw [show j = b from e]))⟩
  refine ⟨own_set_ne (p := ⟨b, i, none⟩) h.row (own_above h.row hb) u, fun j hj => ?_, h.mono, by simpa using h.top, h.low, h.base, h.cap⟩
  have h0 := h.mono 0 j (Nat.zero_le _) (by omega)
  have h1 := h.mono (j + 1) k (by omega) (Nat.le_refl _)
  have h2 := h.base
  exact ⟨(h.fil j hj).1.grown hg fun g e => by injection e with e; omega, (h.fil j hj).2.keep (Iv.grown hg (Nat.le_trans h1 h.top) fun g e => .inl (by injection e with e; omega))⟩
theorem OwnFs.lower {W : World} {B B' k k' : Nat} {v : Value} {es : List FE} {T : Nat → Nat} (h : OwnFs W B v es T k) (hB : B' ≤ B) (hk : k' = k) : OwnFs W B' v es T k' := by
  subst hk
  exact ⟨World.ownsRow.mono h.row hB, h.fil, h.mono, h.top, h.low, Nat.le_trans hB h.base, h.cap⟩
/-- The files that are copied: the first k are, the others are as they were. -/
structure OnWay (W : World) (B : Nat) (v : Value) (es es' : List FE) (T : Nat → Nat) (k : Nat) : Prop where
  own : OwnFs W B v es' T k
  fst : es'.map (·.1) = es.map (·.1)
  old : ∀ j, k ≤ j → es'.getD j fe0 = es.getD j fe0
theorem OnWay.len {W : World} {B : Nat} {v : Value} {es es' : List FE} {T : Nat → Nat} {k : Nat} (h : OnWay W B v es es' T k) : es'.length = es.length := by
  have := congrArg List.length h.fst
  simpa using this
theorem fe_fst (es : List FE) (k : Nat) (hk : k < es.length) : atN (es.map (·.1)) k = (es.getD k fe0).1 := getD_map (fun p : FE => p.1) es k fe0 fil0 hk
theorem OnWay.step {W W1 : World} {B g n cap k : Nat} {es es' : List FE} {T : Nat → Nat} (h : OnWay W B (.slice (some ⟨g, 0, none⟩) n cap) es es' T k) (hb : Below W.heap.size W W1) (hk : k < es.length) (hn : n = es.length) {bv pv : Value} (hp : OwnFi W1 W.heap.size (atN (es.map (·.1)) k, bv, pv)) :
    OnWay (((W1.setCell ⟨g, k * 3, none⟩ (.string (strB (atN (es.map (·.1)) k).name))).setCell ⟨g, k * 3 + 1, none⟩ bv).setCell ⟨g, k * 3 + 2, none⟩ pv) B (.slice (some ⟨g, 0, none⟩) n cap) es (es'.set k (atN (es.map (·.1)) k, bv, pv)) (fun j => if j = k + 1 then W1.heap.size else T j) (k + 1) := by
  have hl := h.len
  have hs := h.own.step (p := (atN (es.map (·.1)) k, bv, pv)) hb (by omega) (by omega) hp
  refine ⟨hs, ?_, fun j hj => ?_⟩
  · rw [List.map_set, h.fst]
    refine List.ext_getElem? fun i => ?_
    rw [List.getElem?_set]
    by_cases e : k = i
    · subst e
      have hk' : k < (es.map (·.1)).length := by simpa using hk
      rw [if_pos rfl, if_pos hk', atN_at hk']
    · rw [if_neg e]
  · rw [set_getD _ _ _ _ (by omega), if_neg (by omega)]; exact h.old j (by omega)
theorem OnWay.at {W : World} {B n cap : Nat} {a : Option Addr} {es es' : List FE} {T : Nat → Nat} {k : Nat} (h : OnWay W B (.slice a n cap) es es' T k) (hk : k < n) (hn : n = es.length) : ∃ g, a = some ⟨g, 0, none⟩ ∧ B ≤ g ∧ g < W.heap.size ∧
    W.cell? ⟨g, k * 3, none⟩ = some (.string (strB (atN (es.map (·.1)) k).name)) ∧ W.cell? ⟨g, k * 3 + 1, none⟩ = some (es.getD k fe0).2.1 ∧ W.cell? ⟨g, k * 3 + 2, none⟩ = some (es.getD k fe0).2.2 ∧ ∀ i, W.frozen? ⟨g, i, none⟩ = false := by
  subst hn
  have hl := h.len
  have hr := h.own.row
  rw [hl] at hr
  obtain ⟨g, rfl, hB, hlt⟩ := own_some hr (by omega)
  rw [fe_fst es k hk]
  have hS : RdS 3 filC W _ es' := own_rds (fun _ _ => rfl) (by decide) hr
  obtain ⟨_, _, e, _, _, _, hc⟩ := hS.shape (by decide) fe0
  injection e with e1 e2 e3
  obtain ⟨b, off, e4, hc⟩ := hc (by omega)
  rw [← e1] at e4
  injection e4 with e4
  injection e4 with e5 e6
  subst e5 e6
  have ho := h.old k (Nat.le_refl _)
  have c := hc k (by omega)
  rw [ho] at c
  simp only [Nat.zero_add] at c
  exact ⟨g, rfl, hB, hlt, c 0 _ rfl, c 1 _ rfl, c 2 _ rfl, fun i => own_frozen hr i⟩
theorem OnWay.below {W W' : World} {B : Nat} {v : Value} {es es' : List FE} {T : Nat → Nat} {k : Nat} (h : OnWay W B v es es' T k) (hb : Below W.heap.size W W') : OnWay W' B v es es' T k := ⟨h.own.below hb, h.fst, h.old⟩
/-- A disk of the call's own. -/
def OwnD (W : World) (B : Nat) (v : Value) (d : Dk) : Prop := ∃ fv es T, v = diskVal d.cap d.left fv ∧ es.map (·.1) = d.files ∧ OwnFs W B fv es T es.length
set_option maxRecDepth 100000 in
set_option maxHeartbeats 1600000 in
theorem dclone_any (c lf : Int) (fv : Value) (l : List Fil) (w : World) (h : RdF w fv l) (hL : LiteFs l) (hs : l.length ≤ 1000000) :
    Calls Tryd.prog 48 #[diskVal c lf fv] w fun e w' => ∃ v', e = .returned v' ∧ OwnD w' w.heap.size v' ⟨c, lf, l⟩ ∧ Below w.heap.size w w' := by
  obtain ⟨es, hes, hE⟩ := h
  have hlen : es.length = l.length := by rw [← hes, List.length_map]
  obtain ⟨a, cap, rfl, h1, h2, h3, _⟩ := hE.row.shape (by decide) fe0
  have HFC := Lib.hid (fun W (hW : Below w.heap.size w W) => fclone_any _ _ _ W (Rd.below hE.row.2 hW) (by omega) (fil_one hE.base hE.pend))
  have HDc := Lib.hid (show ∀ j, j < es.length → ∀ W, Below w.heap.size w W → Calls Tryd.prog 78 #[filVal (atN (es.map (·.1)) j).name (es.getD j fe0).2.1 (es.getD j fe0).2.2] W fun e w' => ∃ bv pv, e = .returned (filVal (atN (es.map (·.1)) j).name bv pv) ∧ OwnFi w' W.heap.size (atN (es.map (·.1)) j, bv, pv) ∧ Below W.heap.size W w' from fun j hj W hW => by
    have hm := getD_mem es j fe0 hj
    have e := fe_fst es j hj
    have hli := hL.at (show j < l.length by omega)
    rw [← hes, e] at hli
    rw [e]
    exact fileclone_any (es.getD j fe0) W ((hE.base _ hm).below hW) ((hE.pend _ hm).below hW) hli)
  have Hds := Lib.hid (show ∀ j, j < es.length → ∃ ba bn bc pa pn pc, (es.getD j fe0).2.1 = .slice ba bn bc ∧ (es.getD j fe0).2.2 = .slice pa pn pc from fun j hj => by
    have hm := getD_mem es j fe0 hj
    obtain ⟨x1, y1, e1, _⟩ := (hE.base _ hm).shape0
    obtain ⟨x2, y2, e2, _⟩ := (hE.pend _ hm).shape
    exact ⟨_, _, _, _, _, _, e1, e2⟩)
  have Hes := Lib.hid hes
  have hs2 : es.length ≤ 1000000 := by omega
  clear hes hE h3 hL hlen hs
  generalize hn : es.length = n at *
  have HN := Lib.hid hn
  clear hn
  unfold maxLen at h2
  go_enter Tryd.func48, Tryd.ntmps48
  go_upto_region 1 with fail
  have hW0 : Below w.heap.size w ((w.alloc (.cells #[.int .i64 c, .int .i64 lf, .slice a n cap] 33)).alloc (.cells #[.int .i64 0, .int .i64 0, .slice none 0 0] 33)) := ((Below.refl _ _).alloc (Nat.le_refl _) _).alloc (by simp) _
  have X := Lib.hid (show BoxD ((w.alloc (.cells #[.int .i64 c, .int .i64 lf, .slice a n cap] 33)).alloc (.cells #[.int .i64 0, .int .i64 0, .slice none 0 0] 33)) w.heap.size c lf (.slice a n cap) from ⟨by simp, by simp, by simp, fun i => by simp⟩)
  have R := Lib.hid (show BoxD ((w.alloc (.cells #[.int .i64 c, .int .i64 lf, .slice a n cap] 33)).alloc (.cells #[.int .i64 0, .int .i64 0, .slice none 0 0] 33)) (w.heap.size + 1) 0 0 (.slice none 0 0) from ⟨by simp, by simp, by simp, fun i => by simp⟩)
  have hBB : w.heap.size + 2 ≤ ((w.alloc (.cells #[.int .i64 c, .int .i64 lf, .slice a n cap] 33)).alloc (.cells #[.int .i64 0, .int .i64 0, .slice none 0 0] 33)).heap.size := by simp
  generalize (w.alloc (.cells #[.int .i64 c, .int .i64 lf, .slice a n cap] 33)).alloc (.cells #[.int .i64 0, .int .i64 0, .slice none 0 0] 33) = W0 at *
  obtain ⟨b, hbe⟩ : ∃ b, w.heap.size = b := ⟨_, rfl⟩
  obtain ⟨B, hBe⟩ : ∃ B, b + 2 = B := ⟨_, rfl⟩
  have hbw : w.heap.size ≤ b := by omega
  have hb' : b < B := by omega
  rw [hbe] at X R hBB ⊢
  rw [hBe] at hBB
  have x2 := X.out.c2
  go_wp2_with fail
  refine (HFC.out W0 hW0).mono ?_
  rintro e w1 ⟨v1, rfl, ho, hb1⟩
  obtain ⟨a1, k1, rfl, hk1, hk2, _⟩ := own_form ho
  have X1 := X.out.below hb1
  have R1 := R.out.below hb1
  have y2 := X1.c2
  have z2 := X1.f 2
  have HB1 := Lib.hid ((bstep hW0 hb1).setCell (p := ⟨b, 2, none⟩) hbw (.slice a1 n k1))
  have HX1 := Lib.hid (X1.set2 (.slice a1 n k1))
  have HR1 := Lib.hid (R1.set_ne (p := ⟨b, 2, none⟩) (by dsimp only; omega) (.slice a1 n k1))
  have hst : OwnFs w1 B (.slice a1 n k1) es (fun _ => w1.heap.size) 0 := by
    refine ⟨?_, fun j hj => absurd hj (by omega), fun _ _ _ _ => Nat.le_refl _, Nat.le_refl _, fun g e => (ho.lt g e).2, ?_, fun j hj => absurd hj (by omega)⟩
    · rw [HN.out]; exact World.ownsRow.mono ho hBB
    · have := hb1.size; omega
  have HO := Lib.hid (show OnWay _ B (.slice a1 n k1) es es (fun _ => w1.heap.size) 0 from ⟨hst.set_ne hb' 2 (.slice a1 n k1), rfl, fun _ _ => rfl⟩)
  clear hst ho X1 R1 X R HFC x2 hk1
  go_wp2_with fail
  generalize w1.setCell ⟨b, 2, none⟩ (.slice a1 n k1) = W1 at *
  go_loopw [11] (fun iv W => ∃ (k : Nat) (es' : List FE) (T : Nat → Nat), k ≤ n ∧ iv = .int .i64 (k : Int) ∧ Hid (OnWay W B (.slice a1 n k1) es es' T k) ∧ Hid (BoxD W b c lf (.slice a1 n k1)) ∧ Hid (BoxD W (b + 1) 0 0 (.slice none 0 0)) ∧ Hid (Below w.heap.size w W)) (fun iv _ => n - (intOf iv).toNat)
  case atStart => exact ⟨0, es, _, Nat.zero_le _, rfl, HO, HX1, HR1, HB1⟩
  case round =>
    obtain ⟨k, es', T, hk, rfl, O, X, R, HB⟩ := hrel
    by_cases hlt : k < n
    · have i1 : (k : Int) < (n : Int) := by omega
      obtain ⟨g, rfl, hgB, hgl, c0, c1, c2, hfz⟩ := O.out.at hlt HN.out.symm
      obtain ⟨ba, bn, bc, pa, pn, pc, e1, e2⟩ := Hds.out k hlt
      have HDk := Lib.hid (fun W hW => HDc.out k hlt W hW)
      have HNk := Lib.hid (show k < es.length by rw [HN.out]; exact hlt)
      rw [e1] at c1 HDk
      rw [e2] at c2 HDk
      clear e1 e2
      go_upto_region 5 with fail
      refine wp_region_rel [eqS (.pointer (some ⟨b, 2, none⟩)), eqS (.slice (some ⟨g, 0, none⟩) n k1), eqS (.int .i64 (k : Int)), eqS (.pointer (some ⟨b, 2, none⟩)), eqS (.slice (some ⟨g, 0, none⟩) n k1), eqS (.int .i64 (k : Int)), eqS (.pointer (some ⟨g, k * 3, none⟩)), eqS (filVal (atN (es.map (·.1)) k).name (.slice ba bn bc) (.slice pa pn pc)), fiS wr.heap.size (atN (es.map (·.1)) k), eqS (.pointer (some ⟨g, k * 3, none⟩))] [] 26 (by kernel_rfl) (by kernel_rfl) (by rfl) (by kernel_rfl) (fun f => by simp [frm, dstOf, Act.put]; exact rfl) ?_ ?_
      · refine ⟨?_, ?_, ?_, ?_, ?_, ?_, ?_, ?_, ?_, ?_, trivial⟩
        · intro f w1 hb hd
          clear hd
          dsimp only
          go_wp2_with fail
          exact ⟨rfl, Below.refl _ _, fun t ht => by injection ht with ht; subst ht; exact ⟨rfl, fun h => by simp at h⟩⟩
        · intro f w1 hb hd
          have d0 : f 0 = .pointer (some ⟨b, 2, none⟩) := hd 0 (by kernel_rfl)
          clear hd
          dsimp only
          rw [d0]
          have c := Below.keeps hb _ _ X.out.c2
          go_wp2_with fail
          exact ⟨rfl, Below.refl _ _, fun t ht => by injection ht with ht; subst ht; exact ⟨rfl, fun h => by simp at h⟩⟩
        · intro f w1 hb hd
          clear hd
          dsimp only
          go_wp2_with fail
          exact ⟨rfl, Below.refl _ _, fun t ht => by injection ht with ht; subst ht; exact ⟨rfl, fun h => by simp at h⟩⟩
        · intro f w1 hb hd
          clear hd
          dsimp only
          go_wp2_with fail
          exact ⟨rfl, Below.refl _ _, fun t ht => by injection ht with ht; subst ht; exact ⟨rfl, fun h => by simp at h⟩⟩
        · intro f w1 hb hd
          have d3 : f 3 = .pointer (some ⟨b, 2, none⟩) := hd 3 (by kernel_rfl)
          clear hd
          dsimp only
          rw [d3]
          have c := Below.keeps hb _ _ X.out.c2
          go_wp2_with fail
          exact ⟨rfl, Below.refl _ _, fun t ht => by injection ht with ht; subst ht; exact ⟨rfl, fun h => by simp at h⟩⟩
        · intro f w1 hb hd
          clear hd
          dsimp only
          go_wp2_with fail
          exact ⟨rfl, Below.refl _ _, fun t ht => by injection ht with ht; subst ht; exact ⟨rfl, fun h => by simp at h⟩⟩
        · intro f w1 hb hd
          have d4 : f 4 = .slice (some ⟨g, 0, none⟩) n k1 := hd 4 (by kernel_rfl)
          have d5 : f 5 = .int .i64 (k : Int) := hd 5 (by kernel_rfl)
          clear hd
          dsimp only
          rw [d4]
          rw [d5]
          go_wp2_with fail
          exact ⟨rfl, Below.refl _ _, fun t ht => by injection ht with ht; subst ht; exact ⟨rfl, fun h => by simp at h⟩⟩
        · intro f w1 hb hd
          have d6 : f 6 = .pointer (some ⟨g, k * 3, none⟩) := hd 6 (by kernel_rfl)
          clear hd
          dsimp only
          rw [d6]
          have q0 := Below.keeps hb _ _ c0
          have q1 := Below.keeps hb _ _ c1
          have q2 := Below.keeps hb _ _ c2
          go_wp2_with fail
          exact ⟨rfl, Below.refl _ _, fun t ht => by injection ht with ht; subst ht; exact ⟨rfl, fun h => by simp at h⟩⟩
        · intro f w1 hb hd
          have d7 : f 7 = filVal (atN (es.map (·.1)) k).name (.slice ba bn bc) (.slice pa pn pc) := hd 7 (by kernel_rfl)
          clear hd
          dsimp only
          rw [d7]
          go_wp2_with fail
          ((with_reducible refine (HDk.out w1 (bstep HB.out hb)).mono ?_); rintro e w2 ⟨bv, pv, rfl, ho, hbe⟩)
          go_wp2_with fail
          exact ⟨rfl, hbe, fun t ht => by injection ht with ht; subst ht; exact ⟨⟨bv, pv, rfl, ho.lower hb.size⟩, fun h => by simp at h⟩⟩
        · intro f w1 hb hd
          have d1 : f 1 = .slice (some ⟨g, 0, none⟩) n k1 := hd 1 (by kernel_rfl)
          have d2 : f 2 = .int .i64 (k : Int) := hd 2 (by kernel_rfl)
          clear hd
          dsimp only
          rw [d1]
          rw [d2]
          go_wp2_with fail
          exact ⟨rfl, Below.refl _ _, fun t ht => by injection ht with ht; subst ht; exact ⟨rfl, fun h => by simp at h⟩⟩
      · intro f w1 hb hA _
        have d0 : f 0 = .pointer (some ⟨b, 2, none⟩) := hA 0 (show 0 < 10 by decide)
        have d1 : f 1 = .slice (some ⟨g, 0, none⟩) n k1 := hA 1 (show 1 < 10 by decide)
        have d2 : f 2 = .int .i64 (k : Int) := hA 2 (show 2 < 10 by decide)
        have d3 : f 3 = .pointer (some ⟨b, 2, none⟩) := hA 3 (show 3 < 10 by decide)
        have d4 : f 4 = .slice (some ⟨g, 0, none⟩) n k1 := hA 4 (show 4 < 10 by decide)
        have d5 : f 5 = .int .i64 (k : Int) := hA 5 (show 5 < 10 by decide)
        have d6 : f 6 = .pointer (some ⟨g, k * 3, none⟩) := hA 6 (show 6 < 10 by decide)
        have d7 : f 7 = filVal (atN (es.map (·.1)) k).name (.slice ba bn bc) (.slice pa pn pc) := hA 7 (show 7 < 10 by decide)
        have d8 := hA 8 (show 8 < 10 by decide)
        have d9 : f 9 = .pointer (some ⟨g, k * 3, none⟩) := hA 9 (show 9 < 10 by decide)
        clear hA
        try dsimp only at *
        rw [d0]
        rw [d1]
        rw [d2]
        rw [d3]
        rw [d4]
        rw [d5]
        rw [d6]
        rw [d7]
        rw [d9]
        clear d0 d1 d2 d3 d4 d5 d6 d7 d9
        obtain ⟨bv, pv, d8, hF⟩ := d8
        rw [d8]
        obtain ⟨xb, yb, eb, _⟩ := hF.rd.1.shape0
        obtain ⟨xp, yp, ep, _⟩ := hF.rd.2.shape
        dsimp only at eb ep
        subst eb ep
        have HO2 := Lib.hid (O.out.step hb HNk.out HN.out.symm hF)
        have HX2 := Lib.hid ((((X.out.below hb).set_ne (p := ⟨g, k * 3, none⟩) (by dsimp only; omega) (.string (strB (atN (es.map (·.1)) k).name))).set_ne (p := ⟨g, k * 3 + 1, none⟩) (by dsimp only; omega) (.slice xb (atN (es.map (·.1)) k).base.length yb)).set_ne (p := ⟨g, k * 3 + 2, none⟩) (by dsimp only; omega) (.slice xp (atN (es.map (·.1)) k).pend.length yp))
        have HR2 := Lib.hid ((((R.out.below hb).set_ne (p := ⟨g, k * 3, none⟩) (by dsimp only; omega) (.string (strB (atN (es.map (·.1)) k).name))).set_ne (p := ⟨g, k * 3 + 1, none⟩) (by dsimp only; omega) (.slice xb (atN (es.map (·.1)) k).base.length yb)).set_ne (p := ⟨g, k * 3 + 2, none⟩) (by dsimp only; omega) (.slice xp (atN (es.map (·.1)) k).pend.length yp))
        have HB2 := Lib.hid ((((bstep HB.out hb).setCell (p := ⟨g, k * 3, none⟩) (by dsimp only; omega) (.string (strB (atN (es.map (·.1)) k).name))).setCell (p := ⟨g, k * 3 + 1, none⟩) (by dsimp only; omega) (.slice xb (atN (es.map (·.1)) k).base.length yb)).setCell (p := ⟨g, k * 3 + 2, none⟩) (by dsimp only; omega) (.slice xp (atN (es.map (·.1)) k).pend.length yp))
        have q0 := Below.keeps hb _ _ c0
        have q1 := Below.keeps hb _ _ c1
        have q2 := Below.keeps hb _ _ c2
        have z0 := (hb.frozen (p := ⟨g, k * 3, none⟩) hgl).trans (hfz (k * 3))
        have z1 := (hb.frozen (p := ⟨g, k * 3 + 1, none⟩) hgl).trans (hfz (k * 3 + 1))
        have z2 := (hb.frozen (p := ⟨g, k * 3 + 2, none⟩) hgl).trans (hfz (k * 3 + 2))
        clear hfz c0 c1 c2 hF
        go_wp2_with fail
        exact ⟨⟨k + 1, _, _, by omega, by go_num, HO2, HX2, HR2, HB2⟩, by simp [intOf]; omega⟩
    · have i1 : ¬ (k : Int) < (n : Int) := by omega
      obtain rfl : k = n := by omega
      have g0 := X.out.c0
      have g1 := X.out.c1
      have g2 := X.out.c2
      have g3 := R.out.c0
      have g4 := R.out.c1
      have g5 := R.out.c2
      have z := R.out.f
      have hl := O.out.len
      have HOf := Lib.hid (show OwnFs _ w.heap.size (.slice a1 k k1) es' T es'.length from ((((O.out.own.set_ne (b := b + 1) (by omega) 0 (.int .i64 c)).set_ne (b := b + 1) (by omega) 1 (.int .i64 lf)).set_ne (b := b + 1) (by omega) 2 (.slice a1 k k1))).lower (by omega) (by rw [hl, HN.out]))
      have Hfst := Lib.hid (O.out.fst.trans Hes.out)
      have HBf := Lib.hid (((HB.out.setCell (p := ⟨b + 1, 0, none⟩) (by dsimp only; omega) (.int .i64 c)).setCell (p := ⟨b + 1, 1, none⟩) (by dsimp only; omega) (.int .i64 lf)).setCell (p := ⟨b + 1, 2, none⟩) (by dsimp only; omega) (.slice a1 k k1))
      clear R X O HB hl
      go_wp2_with fail
      exact bodyPost_ret (v := diskVal c lf (.slice a1 k k1)) (by simp [results, Tryd.results48, go_sem, g3, g4, g5]) rfl ⟨_, rfl, ⟨_, es', T, rfl, Hfst.out, hbe ▸ HOf.out⟩, hbe ▸ HBf.out⟩
end Go.Proofs.YtkabcpmnbjllcaaDoor
