/- Disks in memory: what reads as a list of writes, of files, of bytes; what stays so. -/
import Derived.Test.YtkabcpmnbjllcaaDoorKA
import Derived.Lib.OwnKind
import Derived.Lib.Hide
namespace Go.Proofs.YtkabcpmnbjllcaaDoor
open Go.RowKit

/-! ### Names -/
def strB (l : List UInt8) : ByteArray := ⟨l.toArray⟩
theorem strB_toList (l : List UInt8) : (strB l).toList = l := by rw [ByteArray.toList_eq]; rfl
theorem strB_size (l : List UInt8) : (strB l).size = l.length := by simp [strB, ByteArray.size]
theorem strB_of (s : ByteArray) : strB s.data.toList = s := rfl
theorem strB_inj {a b : List UInt8} (h : strB a = strB b) : a = b := by rw [← strB_toList a, ← strB_toList b, h]
theorem less_eq : ∀ a b : List UInt8, Op.bytesLess a b = decide (a < b)
  | a, [] => by cases a <;> simp [Op.bytesLess]
  | [], b :: bs => by simp [Op.bytesLess]
  | a :: as, b :: bs => by
    rw [Op.bytesLess, less_eq as bs, Bool.eq_iff_iff]
    simp [List.cons_lt_cons_iff]
theorem same_str (a b : List UInt8) : ((strB a).toList == (strB b).toList) = (a == b) := by rw [strB_toList, strB_toList]
theorem le_str (a b : List UInt8) : (Op.bytesLess (strB a).toList (strB b).toList || (strB a).toList == (strB b).toList) = !decide (b < a) := by
  rw [strB_toList, strB_toList, less_eq, Bool.eq_iff_iff]
  simp only [Bool.or_eq_true, decide_eq_true_eq, beq_iff_eq, Bool.not_eq_true', decide_eq_false_iff_not]
  constructor
  · rintro (h | h)
    · exact fun h' => lex_irrefl a (lex_trans h h')
    · rw [h]; exact lex_irrefl b
  · intro h
    rcases lex_tri a b with h' | h' | h'
    · exact .inl h'
    · exact .inr h'
    · exact absurd h' h

/-! ### Worlds in which some blocks stay -/
/-- All blocks below B stay, and all whose elements are not of type T. -/
structure KeepT (B : Nat) (T : TypeId) (w w' : World) : Prop where
  size : w.heap.size ≤ w'.heap.size
  same : ∀ b, b < w.heap.size → (b < B ∨ ∀ cs fz, w.heap[b]? ≠ some (.cells cs T fz)) → w'.heap[b]? = w.heap[b]?
theorem KeepT.refl (B : Nat) (T : TypeId) (w : World) : KeepT B T w w := ⟨Nat.le_refl _, fun _ _ _ => rfl⟩
theorem KeepT.trans {B : Nat} {T : TypeId} {w w' w'' : World} (h : KeepT B T w w') (h' : KeepT B T w' w'') : KeepT B T w w'' :=
  ⟨Nat.le_trans h.size h'.size, fun b hb hc => by
    have e := h.same b hb hc
    rw [h'.same b (Nat.lt_of_lt_of_le hb h.size) (hc.imp id fun hc => by rw [e]; exact hc), e]⟩
theorem KeepT.below {B : Nat} {T : TypeId} {w w' : World} (h : Below w.heap.size w w') : KeepT B T w w' := ⟨h.size, fun b hb _ => h.block b hb⟩
theorem KeepT.grown {B B' : Nat} {T : TypeId} {w w' : World} {sz n : Nat} {v : Value} {xs : List Value} (h : w.ownsRow B' T sz v n xs) (hB : B ≤ B') (hg : w.grownBy w' v.ownBlock) : KeepT B T w w' :=
  ⟨hg.size, fun b hb hc => hg.block b hb fun e => by
    rcases hc with hc | hc
    · have := (h.lt b e.symm).1; omega
    · obtain ⟨c, fz, h1⟩ := Lib.ownsRow_kind h b e.symm
      exact hc c fz h1⟩
theorem KeepT.own {B B' : Nat} {T e : TypeId} {w w' : World} {sz n : Nat} {v : Value} {xs : List Value} (hk : KeepT B T w w') (h : w.ownsRow B' e sz v n xs) (hne : e ≠ T) : w'.ownsRow B' e sz v n xs := by
  refine ⟨h.1, ?_⟩
  rcases h.2 with h' | ⟨g, cap, cur, h1, h2, h3, h4⟩
  · exact .inl h'
  · refine .inr ⟨g, cap, cur, h1, h2, ?_, h4⟩
    have hlt : g < w.heap.size := (Array.getElem?_eq_some_iff.1 h3).1
    rw [hk.same g hlt (.inr fun cs fz hc => by
      rw [h3] at hc
      injection hc with hc
      injection hc with _ hc _
      exact hne hc)]
    exact h3
/-- What was read ahead stays. -/
theorem KeepT.cell {B : Nat} {T : TypeId} {w0 w w' : World} (hk : KeepT B T w w') (hb : Below B w0 w) (h0 : w0.heap.size ≤ B) (p : Addr) (u : Value) (h : w0.cell? p = some u) : w'.cell? p = some u := by
  have hlt := World.block_lt_of_cell? w0 p h
  have e1 := hb.cell (p := p) (Nat.lt_of_lt_of_le hlt h0)
  have e2 : w'.cell? p = w.cell? p := by
    have hs := hk.same p.block (Nat.lt_of_lt_of_le hlt hb.size) (.inl (Nat.lt_of_lt_of_le hlt h0))
    unfold World.cell?
    rw [hs]
  rw [e2, e1, h]
/-- All blocks from lo to hi stay. -/
def Iv (lo hi : Nat) (w w' : World) : Prop := ∀ b, lo ≤ b → b < hi → w'.heap[b]? = w.heap[b]?
theorem Iv.own {lo hi B : Nat} {e : TypeId} {w w' : World} {sz n : Nat} {v : Value} {xs : List Value} (hk : Iv lo hi w w') (h : w.ownsRow B e sz v n xs) (hlo : ∀ g, v.ownBlock = some g → lo ≤ g ∧ g < hi) : w'.ownsRow B e sz v n xs := by
  refine ⟨h.1, ?_⟩
  rcases h.2 with h' | ⟨g, cap, cur, h1, h2, h3, h4⟩
  · exact .inl h'
  · refine .inr ⟨g, cap, cur, h1, h2, ?_, h4⟩
    have := hlo g (by rw [h1]; rfl)
    rw [hk g this.1 this.2]
    exact h3
theorem Iv.below {lo hi : Nat} {w w' : World} (h : Below w.heap.size w w') (hh : hi ≤ w.heap.size) : Iv lo hi w w' := fun b _ hb => h.block b (by omega)
theorem Iv.trans {lo hi : Nat} {w w' w'' : World} (h : Iv lo hi w w') (h' : Iv lo hi w' w'') : Iv lo hi w w'' := fun b h1 h2 => (h' b h1 h2).trans (h b h1 h2)

theorem own_ne {w : World} {B B' : Nat} {e e' : TypeId} {size size' n n' : Nat} {v v' : Value} {xs xs' : List Value} (h : w.ownsRow B e size v n xs) (h' : w.ownsRow B' e' size' v' n' xs') (hne : e ≠ e') : v.ownBlock = none ∨ v.ownBlock ≠ v'.ownBlock := by
  cases hv : v.ownBlock with
  | none => exact .inl rfl
  | some g =>
    refine .inr fun he => ?_
    obtain ⟨c, fz, h1⟩ := Lib.ownsRow_kind h g hv
    obtain ⟨c', fz', h2⟩ := Lib.ownsRow_kind h' g he.symm
    rw [h1] at h2
    injection h2 with h2
    injection h2 with _ h3
    exact hne h3

/-! ### Reading -/
def wrC (p : Wr × Value) : List Value := [.int .i64 p.1.off, p.2, .bool p.1.cut]
def filC (p : Fil × Value × Value) : List Value := [.string (strB p.1.name), p.2.1, p.2.2]
structure RdWE (w : World) (v : Value) (es : List (Wr × Value)) : Prop where
  row : RdS 3 wrC w v es
  dat : ∀ p ∈ es, RdB w p.2 p.1.data
/-- v reads as the writes ws. -/
def RdW (w : World) (v : Value) (ws : List Wr) : Prop := ∃ es : List (Wr × Value), es.map (·.1) = ws ∧ RdWE w v es
structure RdFE (w : World) (v : Value) (es : List (Fil × Value × Value)) : Prop where
  row : RdS 3 filC w v es
  base : ∀ p ∈ es, RdB w p.2.1 p.1.base
  pend : ∀ p ∈ es, RdW w p.2.2 p.1.pend
/-- v reads as the files l. -/
def RdF (w : World) (v : Value) (l : List Fil) : Prop := ∃ es : List (Fil × Value × Value), es.map (·.1) = l ∧ RdFE w v es
/-- v reads as the disk d. -/
def RdD (w : World) (v : Value) (d : Dk) : Prop := ∃ fv, v = .agg #[.int .i64 d.cap, .int .i64 d.left, fv] ∧ RdF w fv d.files
theorem RdWE.mono {w w' : World} {v : Value} {es : List (Wr × Value)} (h : RdWE w v es) (hk : ∀ p u, w.cell? p = some u → w'.cell? p = some u) : RdWE w' v es := ⟨h.row.mono hk, fun p hp => (h.dat p hp).mono hk⟩
theorem RdW.mono {w w' : World} {v : Value} {ws : List Wr} (h : RdW w v ws) (hk : ∀ p u, w.cell? p = some u → w'.cell? p = some u) : RdW w' v ws := by
  obtain ⟨es, e, h⟩ := h; exact ⟨es, e, h.mono hk⟩
theorem RdFE.mono {w w' : World} {v : Value} {es : List (Fil × Value × Value)} (h : RdFE w v es) (hk : ∀ p u, w.cell? p = some u → w'.cell? p = some u) : RdFE w' v es :=
  ⟨h.row.mono hk, fun p hp => (h.base p hp).mono hk, fun p hp => (h.pend p hp).mono hk⟩
theorem RdF.mono {w w' : World} {v : Value} {l : List Fil} (h : RdF w v l) (hk : ∀ p u, w.cell? p = some u → w'.cell? p = some u) : RdF w' v l := by
  obtain ⟨es, e, h⟩ := h; exact ⟨es, e, h.mono hk⟩
theorem RdD.mono {w w' : World} {v : Value} {d : Dk} (h : RdD w v d) (hk : ∀ p u, w.cell? p = some u → w'.cell? p = some u) : RdD w' v d := by
  obtain ⟨fv, e, h⟩ := h; exact ⟨fv, e, h.mono hk⟩
theorem RdW.below {w w' : World} {v : Value} {ws : List Wr} (h : RdW w v ws) (hb : Below w.heap.size w w') : RdW w' v ws := h.mono (Below.keeps hb)
theorem RdF.below {w w' : World} {v : Value} {l : List Fil} (h : RdF w v l) (hb : Below w.heap.size w w') : RdF w' v l := h.mono (Below.keeps hb)
theorem RdD.below {w w' : World} {v : Value} {d : Dk} (h : RdD w v d) (hb : Below w.heap.size w w') : RdD w' v d := h.mono (Below.keeps hb)
theorem RdB_nil (w : World) : RdB w (.slice none 0 0) [] := RdL.nil _ _
theorem RdW_nil (w : World) : RdW w (.slice none 0 0) [] := ⟨[], rfl, RdS.nil _ _ _, fun _ h => by cases h⟩
theorem RdF_nil (w : World) : RdF w (.slice none 0 0) [] := ⟨[], rfl, RdS.nil _ _ _, fun _ h => (by cases h), fun _ h => (by cases h)⟩
def watW (l : List Wr) (j : Nat) : Wr := l.getD j wr0
theorem RdB.shape0 {w : World} {v : Value} {l : List UInt8} (h : RdB w v l) : ∃ a cap, v = .slice a l.length cap ∧ l.length ≤ cap ∧ cap ≤ maxLen ∧ (a = none → cap = 0) := by
  obtain ⟨a, cap, h1, h2, h3, h4, _⟩ := h.shape 0
  exact ⟨a, cap, h1, h2, h3, h4⟩
theorem RdW.shape {w : World} {v : Value} {ws : List Wr} (h : RdW w v ws) : ∃ a cap, v = .slice a ws.length cap ∧ ws.length ≤ cap ∧ cap ≤ maxLen ∧ (a = none → cap = 0) := by
  obtain ⟨es, rfl, h⟩ := h
  obtain ⟨a, cap, h1, h2, h3, h4, _⟩ := h.row.shape (by decide) (wr0, .slice none 0 0)
  rw [List.length_map]
  exact ⟨a, cap, h1, h2, h3, h4⟩
theorem RdF.shape {w : World} {v : Value} {l : List Fil} (h : RdF w v l) : ∃ a cap, v = .slice a l.length cap ∧ l.length ≤ cap ∧ cap ≤ maxLen ∧ (a = none → cap = 0) := by
  obtain ⟨es, rfl, h⟩ := h
  obtain ⟨a, cap, h1, h2, h3, h4, _⟩ := h.row.shape (by decide) (fil0, .slice none 0 0, .slice none 0 0)
  rw [List.length_map]
  exact ⟨a, cap, h1, h2, h3, h4⟩
theorem getD_map {α β : Type} (f : α → β) (l : List α) (j : Nat) (d : α) (d' : β) (hj : j < l.length) : (l.map f).getD j d' = f (l.getD j d) := by
  simp [List.getElem?_eq_getElem hj]
theorem getD_mem {α : Type} (l : List α) (j : Nat) (d : α) (hj : j < l.length) : l.getD j d ∈ l := by
  rw [List.getD_eq_getElem?_getD, List.getElem?_eq_getElem hj]; exact List.getElem_mem hj
/-- The j-th write in memory. -/
theorem RdW.at {w : World} {a : Option Addr} {n cap : Nat} {ws : List Wr} (h : RdW w (.slice a n cap) ws) {j : Nat} (hj : j < n) : ∃ b off dv, a = some ⟨b, off, none⟩ ∧ RdB w dv (watW ws j).data ∧
    w.cell? ⟨b, off + j * 3, none⟩ = some (.int .i64 (watW ws j).off) ∧ w.cell? ⟨b, off + j * 3 + 1, none⟩ = some dv ∧ w.cell? ⟨b, off + j * 3 + 2, none⟩ = some (.bool (watW ws j).cut) := by
  obtain ⟨es, rfl, h⟩ := h
  obtain ⟨a', cap', e, h1, h2, h3, h4⟩ := h.row.shape (by decide) (wr0, .slice none 0 0)
  injection e with e1 e2 e3
  subst e1 e2 e3
  obtain ⟨b, off, e, hc⟩ := h4 (by omega)
  have he : watW (es.map (·.1)) j = (es.getD j (wr0, .slice none 0 0)).1 := getD_map (fun p : Wr × Value => p.1) es j (wr0, .slice none 0 0) wr0 hj
  have hm := getD_mem es j (wr0, .slice none 0 0) hj
  rw [he]
  exact ⟨b, off, _, e, h.dat _ hm, hc j hj 0 _ rfl, hc j hj 1 _ rfl, hc j hj 2 _ rfl⟩
/-- The j-th file in memory. -/
theorem RdF.at {w : World} {a : Option Addr} {n cap : Nat} {l : List Fil} (h : RdF w (.slice a n cap) l) {j : Nat} (hj : j < n) : ∃ b off bv pv, a = some ⟨b, off, none⟩ ∧ RdB w bv (atN l j).base ∧ RdW w pv (atN l j).pend ∧
    w.cell? ⟨b, off + j * 3, none⟩ = some (.string (strB (atN l j).name)) ∧ w.cell? ⟨b, off + j * 3 + 1, none⟩ = some bv ∧ w.cell? ⟨b, off + j * 3 + 2, none⟩ = some pv := by
  obtain ⟨es, rfl, h⟩ := h
  obtain ⟨a', cap', e, h1, h2, h3, h4⟩ := h.row.shape (by decide) (fil0, .slice none 0 0, .slice none 0 0)
  injection e with e1 e2 e3
  subst e1 e2 e3
  obtain ⟨b, off, e, hc⟩ := h4 (by omega)
  have he : atN (es.map (·.1)) j = (es.getD j (fil0, .slice none 0 0, .slice none 0 0)).1 := getD_map (fun p : Fil × Value × Value => p.1) es j (fil0, .slice none 0 0, .slice none 0 0) fil0 hj
  have hm := getD_mem es j (fil0, .slice none 0 0, .slice none 0 0) hj
  rw [he]
  exact ⟨b, off, _, _, e, h.base _ hm, h.pend _ hm, hc j hj 0 _ rfl, hc j hj 1 _ rfl, hc j hj 2 _ rfl⟩
theorem RdW.take {w : World} {a : Option Addr} {n cap : Nat} {ws : List Wr} (h : RdW w (.slice a n cap) ws) (k : Nat) (hk : k ≤ n) : RdW w (.slice a k cap) (ws.take k) := by
  obtain ⟨es, rfl, h⟩ := h
  exact ⟨es.take k, by rw [List.map_take], h.row.take k hk, fun p hp => h.dat p (List.mem_of_mem_take hp)⟩
theorem RdW.len {w : World} {a : Option Addr} {n cap : Nat} {ws : List Wr} (h : RdW w (.slice a n cap) ws) : n = ws.length := by
  obtain ⟨_, _, e, _⟩ := h.shape
  injection e
theorem RdF.len {w : World} {a : Option Addr} {n cap : Nat} {l : List Fil} (h : RdF w (.slice a n cap) l) : n = l.length := by
  obtain ⟨_, _, e, _⟩ := h.shape
  injection e

/-! ### Rows of the call's own whose parts stay -/
/-- A file's parts read so, whatever becomes of rows of type T from B on. -/
def DeepF (B : Nat) (T : TypeId) (w : World) (p : Fil × Value × Value) : Prop := ∀ w', KeepT B T w w' → RdB w' p.2.1 p.1.base ∧ RdW w' p.2.2 p.1.pend
def DeepW (B : Nat) (T : TypeId) (w : World) (p : Wr × Value) : Prop := ∀ w', KeepT B T w w' → RdB w' p.2 p.1.data
theorem DeepF.keep {B : Nat} {T : TypeId} {w w' : World} {p : Fil × Value × Value} (h : DeepF B T w p) (hk : KeepT B T w w') : DeepF B T w' p := fun _ h' => h _ (hk.trans h')
theorem DeepW.keep {B : Nat} {T : TypeId} {w w' : World} {p : Wr × Value} (h : DeepW B T w p) (hk : KeepT B T w w') : DeepW B T w' p := fun _ h' => h _ (hk.trans h')
/-- A row of files (of type T) of the call's own. -/
structure OwnF (w : World) (B : Nat) (T : TypeId) (v : Value) (es : List (Fil × Value × Value)) : Prop where
  row : w.ownsRow B T 3 v es.length (es.flatMap filC)
  deep : ∀ p ∈ es, DeepF B T w p
structure OwnW (w : World) (B : Nat) (T : TypeId) (v : Value) (es : List (Wr × Value)) : Prop where
  row : w.ownsRow B T 3 v es.length (es.flatMap wrC)
  deep : ∀ p ∈ es, DeepW B T w p
theorem OwnF.nil (w : World) (B : Nat) (T : TypeId) : OwnF w B T (.slice none 0 0) [] := ⟨World.ownsRow_nil _ _ _ _, fun _ h => by cases h⟩
theorem OwnW.nil (w : World) (B : Nat) (T : TypeId) : OwnW w B T (.slice none 0 0) [] := ⟨World.ownsRow_nil _ _ _ _, fun _ h => by cases h⟩
theorem OwnF.keep {w w' : World} {B : Nat} {T : TypeId} {v : Value} {es : List (Fil × Value × Value)} (h : OwnF w B T v es) (hb : Below w.heap.size w w') : OwnF w' B T v es := ⟨own_keep h.row hb, fun p hp => (h.deep p hp).keep (.below hb)⟩
theorem OwnW.keep {w w' : World} {B : Nat} {T : TypeId} {v : Value} {es : List (Wr × Value)} (h : OwnW w B T v es) (hb : Below w.heap.size w w') : OwnW w' B T v es := ⟨own_keep h.row hb, fun p hp => (h.deep p hp).keep (.below hb)⟩
theorem OwnW.rd {w : World} {B : Nat} {T : TypeId} {v : Value} {es : List (Wr × Value)} (h : OwnW w B T v es) : RdW w v (es.map (·.1)) :=
  ⟨es, rfl, own_rds (fun _ _ => rfl) (by decide) h.row, fun p hp => h.deep p hp w (.refl _ _ _)⟩
theorem OwnF.rd {w : World} {B : Nat} {T : TypeId} {v : Value} {es : List (Fil × Value × Value)} (h : OwnF w B T v es) : RdF w v (es.map (·.1)) :=
  ⟨es, rfl, own_rds (fun _ _ => rfl) (by decide) h.row, fun p hp => (h.deep p hp w (.refl _ _ _)).1, fun p hp => (h.deep p hp w (.refl _ _ _)).2⟩
/-- What an append leaves. -/
theorem OwnF.app {w w' : World} {B : Nat} {T : TypeId} {v v' : Value} {es : List (Fil × Value × Value)} {p : Fil × Value × Value} {n : Nat} (h : OwnF w B T v es) (hd : DeepF B T w p) (hg : w.grownBy w' v.ownBlock) (hn : n = es.length + 1)
    (hr : w'.ownsRow B T 3 v' n (es.flatMap filC ++ filC p)) : OwnF w' B T v' (es ++ [p]) := by
  have hk : KeepT B T w w' := .grown h.row (Nat.le_refl _) hg
  subst hn
  refine ⟨by simpa using hr, fun q hq => ?_⟩
  rcases List.mem_append.1 hq with hq | hq
  · exact (h.deep q hq).keep hk
  · rw [List.mem_singleton.1 hq]; exact hd.keep hk
theorem OwnW.app {w w' : World} {B : Nat} {T : TypeId} {v v' : Value} {es : List (Wr × Value)} {p : Wr × Value} {n : Nat} (h : OwnW w B T v es) (hd : DeepW B T w p) (hg : w.grownBy w' v.ownBlock) (hn : n = es.length + 1)
    (hr : w'.ownsRow B T 3 v' n (es.flatMap wrC ++ wrC p)) : OwnW w' B T v' (es ++ [p]) := by
  have hk : KeepT B T w w' := .grown h.row (Nat.le_refl _) hg
  subst hn
  refine ⟨by simpa using hr, fun q hq => ?_⟩
  rcases List.mem_append.1 hq with hq | hq
  · exact (h.deep q hq).keep hk
  · rw [List.mem_singleton.1 hq]; exact hd.keep hk
/-- Parts that were there ahead of the call. -/
theorem DeepW.old {B : Nat} {T : TypeId} {w0 w : World} {p : Wr × Value} (h : RdB w0 p.2 p.1.data) (hb : Below B w0 w) (h0 : w0.heap.size ≤ B) : DeepW B T w p := fun _ hk => h.mono (hk.cell hb h0)
theorem DeepF.old {B : Nat} {T : TypeId} {w0 w : World} {p : Fil × Value × Value} (h : RdB w0 p.2.1 p.1.base) (h' : RdW w0 p.2.2 p.1.pend) (hb : Below B w0 w) (h0 : w0.heap.size ≤ B) : DeepF B T w p := fun _ hk => ⟨h.mono (hk.cell hb h0), h'.mono (hk.cell hb h0)⟩
end Go.Proofs.YtkabcpmnbjllcaaDoor
