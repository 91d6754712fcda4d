/- Several texts in one, each over the last: added of the reference, in plain Lean: the rows on the way; what a call of the reference hands back. added of the reference: the walk. Printed by mkDrf.py. Create of the reference: the walk. Printed by mkDrg.py. -/
import Derived.Test.YtkabcpmnbjllcaaDoorKC
namespace Go.Proofs.YtkabcpmnbjllcaaDoor
open Go.RowKit

theorem take_nextE {α : Type} (l : List α) (k : Nat) (d : α) (h : k < l.length) : l.take (k + 1) = l.take k ++ [l.getD k d] := by
  rw [List.take_add_one, List.getD_eq_getElem?_getD, List.getElem?_eq_getElem h]; rfl
def lowE (es : List FE) (s : List UInt8) : Nat := lowN (es.map (·.1)) s
def neF (p : FE) (q : FE) : Bool := q.1.name != p.1.name
def addE (es : List FE) (p : FE) : List FE := es.take (lowE es p.1.name) ++ p :: (es.drop (lowE es p.1.name)).filter (neF p)
theorem addE_fst (es : List FE) (p : FE) : (addE es p).map (·.1) = addN (es.map (·.1)) p.1 := by
  unfold addE addN
  rw [List.map_append, List.map_take, List.map_cons, ← List.map_drop, List.filter_map]
  rfl
theorem addE_mem {es : List FE} {p q : FE} (h : q ∈ addE es p) : q ∈ es ∨ q = p := by
  unfold addE at h
  rcases List.mem_append.1 h with h | h
  · exact .inl (List.mem_of_mem_take h)
  · rcases List.mem_cons.1 h with h | h
    · exact .inr h
    · exact .inl (List.mem_of_mem_drop (List.mem_filter.1 h).1)
/-- The row before the file number k. -/
def outE (es : List FE) (p : FE) (k : Nat) : List FE := if k ≤ lowE es p.1.name then es.take k else es.take (lowE es p.1.name) ++ p :: ((es.drop (lowE es p.1.name)).take (k - lowE es p.1.name)).filter (neF p)
theorem outE_len (es : List FE) (p : FE) (k : Nat) : (outE es p k).length ≤ k + 1 := by
  unfold outE
  split
  · rw [List.length_take]; omega
  · rw [List.length_append, List.length_cons, List.length_take]
    have := List.length_filter_le (neF p) ((es.drop (lowE es p.1.name)).take (k - lowE es p.1.name))
    rw [List.length_take] at this
    omega
theorem outE_zero (es : List FE) (p : FE) : outE es p 0 = [] := by unfold outE; rw [if_pos (Nat.zero_le _)]; rfl
theorem outE_low {es : List FE} {p : FE} {k : Nat} (h : k < lowE es p.1.name) (hk : k < es.length) : outE es p (k + 1) = outE es p k ++ [es.getD k fe0] := by
  unfold outE
  rw [if_pos (by omega), if_pos (by omega)]
  exact take_nextE es k fe0 hk
theorem drop_next {α : Type} (l : List α) (lo k : Nat) (d : α) (h : lo ≤ k) (hk : k < l.length) : (l.drop lo).take (k + 1 - lo) = (l.drop lo).take (k - lo) ++ [l.getD k d] := by
  rw [show k + 1 - lo = (k - lo) + 1 by omega, take_nextE _ _ d (by rw [List.length_drop]; omega)]
  rw [List.getD_eq_getElem?_getD, List.getElem?_drop, show lo + (k - lo) = k by omega, List.getD_eq_getElem?_getD]
theorem outE_at {es : List FE} {p : FE} {k : Nat} (h : k = lowE es p.1.name) (hk : k < es.length) : outE es p (k + 1) = (outE es p k ++ [p]) ++ if neF p (es.getD k fe0) then [es.getD k fe0] else [] := by
  unfold outE
  rw [if_neg (by omega), if_pos (by omega), ← h, drop_next es k k fe0 (Nat.le_refl _) hk, Nat.sub_self, List.take_zero, List.nil_append]
  generalize es.getD k fe0 = q
  cases hn : neF p q <;> simp [hn]
theorem outE_high {es : List FE} {p : FE} {k : Nat} (h : lowE es p.1.name < k) (hk : k < es.length) : outE es p (k + 1) = outE es p k ++ if neF p (es.getD k fe0) then [es.getD k fe0] else [] := by
  unfold outE
  rw [if_neg (by omega), if_neg (by omega), drop_next es _ k fe0 (by omega) hk, List.filter_append]
  generalize es.getD k fe0 = q
  cases hn : neF p q <;> simp [hn]
theorem outE_all {es : List FE} {p : FE} (h : lowE es p.1.name < es.length) : outE es p es.length = addE es p := by
  unfold outE addE
  rw [if_neg (by omega), List.take_of_length_le (l := es.drop _) (by rw [List.length_drop]; exact Nat.le_refl _)]
theorem outE_end {es : List FE} {p : FE} (h : lowE es p.1.name = es.length) : outE es p es.length ++ [p] = addE es p := by
  unfold outE addE
  rw [if_pos (by omega), h, List.drop_length]
  rfl
theorem lowE_le (es : List FE) (s : List UInt8) : lowE es s ≤ es.length := by
  have := lowN_le (es.map (·.1)) s
  rwa [List.length_map] at this
theorem atE_fst (es : List FE) (k : Nat) : atN (es.map (·.1)) k = (es.getD k fe0).1 := by
  unfold atN
  rw [List.getD_eq_getElem?_getD, List.getElem?_map, List.getD_eq_getElem?_getD]
  cases es[k]? <;> rfl
theorem lowE_below {es : List FE} {s : List UInt8} {k : Nat} (h : k < lowE es s) : (es.getD k fe0).1.name < s := by
  have := lowN_below (es.map (fun x : FE => x.1)) s k h
  rwa [atE_fst] at this
theorem lowE_at {es : List FE} {s : List UInt8} {k : Nat} (h : k = lowE es s) (hk : k < es.length) : ¬ (es.getD k fe0).1.name < s := by
  have := lowN_at (es.map (fun x : FE => x.1)) s (by rw [List.length_map]; show lowE es s < _; omega)
  rw [atE_fst] at this
  rw [h]; exact this
/-- A file in memory, with its writes. -/
abbrev FX := FE × List (Wr × Value)
def fx0 : FX := (fe0, [])
def feX (xs : List FX) : List FE := xs.map (·.1)
def filX (xs : List FX) : List Fil := xs.map (·.1.1)
theorem feX_fst (xs : List FX) : (feX xs).map (·.1) = filX xs := by unfold feX filX; rw [List.map_map]; rfl
theorem feX_len (xs : List FX) : (feX xs).length = xs.length := List.length_map ..
/-- A file's parts read. -/
def PartX (W : World) (q : FX) : Prop := RdB W q.1.2.1 q.1.1.base ∧ RdWE W q.1.2.2 q.2 ∧ q.2.map (·.1) = q.1.1.pend
/-- The parts of a row read. -/
def PartsX (W : World) (xs : List FX) : Prop := ∀ q ∈ xs, PartX W q
theorem PartX.rd {W : World} {q : FX} (h : PartX W q) : RdB W q.1.2.1 q.1.1.base ∧ RdW W q.1.2.2 q.1.1.pend := ⟨h.1, q.2, h.2.2, h.2.1⟩
theorem RdWE.belowX {W W' : World} {v : Value} {es : List (Wr × Value)} (h : RdWE W v es) (hb : Below W.heap.size W W') : RdWE W' v es := ⟨RdS.below h.row hb, fun p hp => (h.dat p hp).below hb⟩
theorem PartX.below {W W' : World} {q : FX} (h : PartX W q) (hb : Below W.heap.size W W') : PartX W' q := ⟨h.1.below hb, h.2.1.belowX hb, h.2.2⟩
theorem PartsX.below {W W' : World} {xs : List FX} (h : PartsX W xs) (hb : Below W.heap.size W W') : PartsX W' xs := fun q hq => (h q hq).below hb
theorem RdWE.nilX (W : World) : RdWE W (.slice none 0 0) [] := ⟨RdS.nil _ _ _, fun _ h => by cases h⟩
theorem rdFE_x {W : World} {v : Value} {xs : List FX} (hr : RdS 3 filC W v (feX xs)) (hp : PartsX W xs) : RdFE W v (feX xs) :=
  ⟨hr, fun p h => by obtain ⟨q, hq, rfl⟩ := List.mem_map.1 h; exact (hp q hq).rd.1, fun p h => by obtain ⟨q, hq, rfl⟩ := List.mem_map.1 h; exact (hp q hq).rd.2⟩
/-- Each row has its writes. -/
theorem rdF_x {W : World} {v : Value} {l : List Fil} (h : RdF W v l) : ∃ xs, filX xs = l ∧ RdFE W v (feX xs) ∧ PartsX W xs := by
  obtain ⟨es, rfl, hE⟩ := h
  have : ∀ l : List FE, (∀ p ∈ l, RdB W p.2.1 p.1.base ∧ RdW W p.2.2 p.1.pend) → ∃ xs, feX xs = l ∧ PartsX W xs := by
    intro l
    induction l with
    | nil => exact fun _ => ⟨[], rfl, fun _ h => by cases h⟩
    | cons p r ih =>
      intro hp
      obtain ⟨xs, e, hx⟩ := ih fun q hq => hp q (List.mem_cons_of_mem _ hq)
      obtain ⟨hb, ws, hw, hw2⟩ := hp p (by simp)
      refine ⟨(p, ws) :: xs, by unfold feX at e ⊢; rw [List.map_cons, e], fun q hq => ?_⟩
      rcases List.mem_cons.1 hq with rfl | hq
      · exact ⟨hb, hw2, hw⟩
      · exact hx q hq
  obtain ⟨xs, e, hx⟩ := this es fun p hp => ⟨hE.base p hp, hE.pend p hp⟩
  refine ⟨xs, ?_, by rw [e]; exact hE, hx⟩
  rw [← feX_fst, e]
def addX (xs : List FX) (P : FX) : List FX := xs.take (lowE (feX xs) P.1.1.name) ++ P :: (xs.drop (lowE (feX xs) P.1.1.name)).filter (fun q => neF P.1 q.1)
theorem addX_fe (xs : List FX) (P : FX) : feX (addX xs P) = addE (feX xs) P.1 := by
  unfold addX addE
  show List.map _ (_ ++ _) = _
  rw [List.map_append, List.map_take, List.map_cons]
  show (feX xs).take _ ++ P.1 :: _ = _
  congr 2
  show _ = (List.drop _ (List.map _ xs)).filter _
  rw [← List.map_drop, List.filter_map]
  rfl
theorem addX_fil (xs : List FX) (P : FX) : filX (addX xs P) = addN (filX xs) P.1.1 := by rw [← feX_fst, addX_fe, addE_fst, feX_fst]
theorem addX_mem {xs : List FX} {P q : FX} (h : q ∈ addX xs P) : q ∈ xs ∨ q = P := by
  unfold addX at h
  rcases List.mem_append.1 h with h | h
  · exact .inl (List.mem_of_mem_take h)
  · rcases List.mem_cons.1 h with h | h
    · exact .inr h
    · exact .inl (List.mem_of_mem_drop (List.mem_filter.1 h).1)
/-- A row of the call's own, whose parts read where those that came in do and what is new is kept. -/
def RowR (w : World) (xs : List FX) (w' : World) (fv : Value) (xs' : List FX) : Prop := w'.ownsRow w.heap.size 73 3 fv (feX xs').length ((feX xs').flatMap filC) ∧ ∀ W', KeepB w.heap.size w' W' → PartsX W' xs → PartsX W' xs'
theorem RowR.rd {w w' W' : World} {xs xs' : List FX} {fv : Value} (h : RowR w xs w' fv xs') (hk : KeepB w.heap.size w' W') (hp : PartsX W' xs) : RdFE W' fv (feX xs') := rdFE_x (own_rds (fun _ _ => rfl) (by decide) (hk.own h.1 (Nat.le_refl _))) (h.2 W' hk hp)
/-- What an operation of the reference hands back. -/
def RefOp (w : World) (xs : List FX) (x : Dk × Int) (e : Ending) (w' : World) : Prop := (∃ fv xs', e = .returned (.tuple #[diskVal x.1.cap x.1.left fv, .int .i64 x.2]) ∧ filX xs' = x.1.files ∧ RowR w xs w' fv xs') ∧ Below w.heap.size w w'
theorem RowR.nil (w w' : World) (xs : List FX) : RowR w xs w' (.slice none 0 0) [] := ⟨World.ownsRow_nil w' w.heap.size 73 3, fun _ _ _ _ h => by cases h⟩
end Go.Proofs.YtkabcpmnbjllcaaDoor

namespace Go.Proofs.YtkabcpmnbjllcaaDoor
open Go.RowKit

theorem size_alloc1 (w : World) (o : Obj) : (w.alloc o).heap.size = w.heap.size + 1 := by simp
theorem BoxD.newR {w : World} {k : Nat} (hk : w.heap.size = k) (c l : Int) (fv : Value) (t : TypeId) : BoxD (w.alloc (.cells #[.int .i64 c, .int .i64 l, fv] t)) k c l fv := by subst hk; exact BoxD.new w c l fv t
theorem BoxF.newR {w : World} {k : Nat} (hk : w.heap.size = k) (nm : ByteArray) (bv pv : Value) (t : TypeId) : BoxF (w.alloc (.cells #[.string nm, bv, pv] t)) k nm bv pv := by subst hk; exact BoxF.new w nm bv pv t
theorem RdFE.at {w : World} {a : Option Addr} {n cap : Nat} {es : List FE} (h : RdFE w (.slice a n cap) es) {j : Nat} (hj : j < n) : ∃ b off, a = some ⟨b, off, none⟩ ∧ es.getD j fe0 ∈ es ∧
    w.cell? ⟨b, off + j * 3, none⟩ = some (.string (strB (es.getD j fe0).1.name)) ∧ w.cell? ⟨b, off + j * 3 + 1, none⟩ = some (es.getD j fe0).2.1 ∧ w.cell? ⟨b, off + j * 3 + 2, none⟩ = some (es.getD j fe0).2.2 := by
  obtain ⟨a', cap', e, h1, h2, h3, h4⟩ := RdS.shape h.row (by decide) fe0
  injection e with e1 e2 e3
  subst e1 e2 e3
  obtain ⟨b, off, e4, hc⟩ := h4 (by omega)
  have c := hc j hj
  refine ⟨b, off, e4, ?_, c 0 _ rfl, c 1 _ rfl, c 2 _ rfl⟩
  rw [List.getD_eq_getElem?_getD, List.getElem?_eq_getElem hj]
  exact List.getElem_mem hj
theorem RdFE.below {w w' : World} {v : Value} {es : List FE} (h : RdFE w v es) (hb : Below w.heap.size w w') : RdFE w' v es := ⟨RdS.below h.row hb, fun p hp => (h.base p hp).below hb, fun p hp => (h.pend p hp).below hb⟩
/-- The length stands as the row's. -/
theorem own_len {w : World} {B : Nat} {e : TypeId} {v : Value} {n : Nat} {l : List FE} {xs : List Value} (h : w.ownsRow B e 3 v n xs) (hx : xs = l.flatMap filC) : w.ownsRow B e 3 v l.length (l.flatMap filC) := by
  subst hx
  have h1 := h.1
  rw [flat_length 3 filC l (fun _ _ => rfl)] at h1
  have : l.length = n := by omega
  rw [this]; exact h
/-- The row of the way, in world W. -/
def OutR (W : World) (B : Nat) (v : Value) (es : List FE) (p : FE) (k : Nat) : Prop := W.ownsRow B 73 3 v (outE es p k).length ((outE es p k).flatMap filC)
set_option maxRecDepth 100000 in
set_option maxHeartbeats 6400000 in
theorem radded_any (c lf : Int) (fv : Value) (es : List FE) (p : FE) (w : World) (h : RdFE w fv es) (hs : es.length ≤ 1000) (hb : RdB w p.2.1 p.1.base) (hp : RdW w p.2.2 p.1.pend) :
    Calls Tryd.prog 93 #[diskVal c lf fv, filVal p.1.name p.2.1 p.2.2] w fun e w' => ∃ v', e = .returned (diskVal c lf v') ∧ w'.ownsRow w.heap.size 73 3 v' (addE es p).length ((addE es p).flatMap filC) ∧ Below w.heap.size w w' := by
  obtain ⟨a, cap, rfl, h1, h2, h3, _⟩ := h.row.shape (by decide) fe0
  obtain ⟨f, bv, pv⟩ := p
  dsimp only at hb hp
  obtain ⟨ba, bc, rfl, _⟩ := hb.shape0
  obtain ⟨pa, pc, rfl, _⟩ := hp.shape
  have HR := Lib.hid h
  have HL0 := Lib.hid (outE_zero es (f, .slice ba f.base.length bc, .slice pa f.pend.length pc))
  have HLen := Lib.hid (outE_len es (f, .slice ba f.base.length bc, .slice pa f.pend.length pc))
  have HLow := Lib.hid (fun k h hk => outE_low (es := es) (p := (f, .slice ba f.base.length bc, .slice pa f.pend.length pc)) (k := k) h hk)
  have HAt := Lib.hid (fun k h hk => outE_at (es := es) (p := (f, .slice ba f.base.length bc, .slice pa f.pend.length pc)) (k := k) h hk)
  have HHi := Lib.hid (fun k h hk => outE_high (es := es) (p := (f, .slice ba f.base.length bc, .slice pa f.pend.length pc)) (k := k) h hk)
  have HAll := Lib.hid (fun h => outE_all (es := es) (p := (f, .slice ba f.base.length bc, .slice pa f.pend.length pc)) h)
  have HEnd := Lib.hid (fun h => outE_end (es := es) (p := (f, .slice ba f.base.length bc, .slice pa f.pend.length pc)) h)
  have HLe := lowE_le es f.name
  have HBl := Lib.hid (fun k h => lowE_below (es := es) (s := f.name) (k := k) h)
  have HBa := Lib.hid (fun k h hk => lowE_at (es := es) (s := f.name) (k := k) h hk)
  have HOut := Lib.hid (show ∀ W B v k, OutR W B v es (f, .slice ba f.base.length bc, .slice pa f.pend.length pc) k = W.ownsRow B 73 3 v (outE es (f, .slice ba f.base.length bc, .slice pa f.pend.length pc) k).length ((outE es (f, .slice ba f.base.length bc, .slice pa f.pend.length pc) k).flatMap filC) from fun _ _ _ _ => rfl)
  have Hpc := Lib.hid (show filC ((f, .slice ba f.base.length bc, .slice pa f.pend.length pc) : FE) = [.string (strB f.name), .slice ba f.base.length bc, .slice pa f.pend.length pc] from rfl)
  have Hnf := Lib.hid (show ∀ q : FE, neF (f, .slice ba f.base.length bc, .slice pa f.pend.length pc) q = (q.1.name != f.name) from fun _ => rfl)
  dsimp only [filVal, diskVal] at HLow HAt HHi HAll HEnd ⊢
  clear h hb hp h3
  generalize f.base.length = bl at *
  generalize f.pend.length = pl at *
  generalize hpp : ((f, .slice ba bl bc, .slice pa pl pc) : FE) = P at *
  clear hpp
  generalize hnm : strB f.name = nm at *
  have Hnm := Lib.hid hnm
  clear hnm
  generalize lowE es f.name = lo at *
  generalize hen : es.length = n at *
  have Hen := Lib.hid hen
  clear hen
  have HA1 := (Below.refl w.heap.size w).alloc (Nat.le_refl _) (.cells #[.int .i64 c, .int .i64 lf, .slice a n cap] 24)
  have HX1 := BoxD.new w c lf (.slice a n cap) 24
  have HZ1 := size_alloc1 w (.cells #[.int .i64 c, .int .i64 lf, .slice a n cap] 24)
  generalize hW1 : w.alloc (.cells #[.int .i64 c, .int .i64 lf, .slice a n cap] 24) = W1 at *
  have HA2 := (Below.refl W1.heap.size W1).alloc (Nat.le_refl _) (.cells #[.string nm, .slice ba bl bc, .slice pa pl pc] 73)
  have HO2 := BoxF.newR HZ1 nm (.slice ba bl bc) (.slice pa pl pc) 73
  have HZ2 := size_alloc1 W1 (.cells #[.string nm, .slice ba bl bc, .slice pa pl pc] 73)
  generalize hW2 : W1.alloc (.cells #[.string nm, .slice ba bl bc, .slice pa pl pc] 73) = W2 at *
  have HA3 := (Below.refl W2.heap.size W2).alloc (Nat.le_refl _) (.cells #[.int .i64 0, .int .i64 0, .slice none 0 0] 24)
  have HR3 := BoxD.newR (show W2.heap.size = w.heap.size + 2 by omega) 0 0 (.slice none 0 0) 24
  have hs0 : w.heap.size + 3 ≤ (W2.alloc (.cells #[.int .i64 0, .int .i64 0, .slice none 0 0] 24)).heap.size := by simp; omega
  have X := Lib.hid ((HX1.below HA2).below HA3)
  have F := Lib.hid (HO2.below HA3)
  have R := Lib.hid HR3
  have HB0 := Lib.hid (bstep (bstep HA1 HA2) HA3)
  clear HA1 HA2 HA3 HX1 HO2 HR3 HZ1 HZ2
  subst hW2 hW1
  go_enter Tryd.func93, Tryd.ntmps93
  go_upto_region 1 with fail
  generalize ((w.alloc (.cells #[.int .i64 c, .int .i64 lf, .slice a n cap] 24)).alloc (.cells #[.string nm, .slice ba bl bc, .slice pa pl pc] 73)).alloc (.cells #[.int .i64 0, .int .i64 0, .slice none 0 0] 24) = w0 at *
  have HO0 := Lib.hid (show OutR w0 w0.heap.size (.slice none 0 0) es P 0 by rw [HOut.out, HL0.out]; exact World.ownsRow_nil w0 w0.heap.size 73 3)
  go_wp2_with fail
  go_loopw [5, 6, 7] (fun ov dv iv W => ∃ (k : Nat) (bd : Bool), iv = .int .i64 (k : Int) ∧ dv = .bool bd ∧ k ≤ n ∧ Hid (bd = decide (lo < k)) ∧ Hid (OutR W w0.heap.size ov es P k) ∧ Hid (Below w0.heap.size w0 W)) (fun _ _ iv _ => n - (intOf iv).toNat)
  case atStart => exact ⟨0, false, rfl, rfl, Nat.zero_le _, Lib.hid (by simp), HO0, Lib.hid (Below.refl _ _)⟩
  case round =>
    obtain ⟨k, bd, rfl, rfl, hk, HD, HO, HB⟩ := hrel
    clear HO0
    have XB := Lib.hid (X.out.below HB.out)
    have ho := HO.out
    rw [HOut.out] at ho
    obtain ⟨oa, oc, hv, _⟩ := own_form ho
    subst hv
    have hol := HLen.out k
    have HO1 := Lib.hid ho
    clear ho HO
    generalize (outE es P k).length = ol at *
    by_cases hlt : k < n
    · have j1 : (k : Int) < (n : Int) := by omega
      obtain ⟨b, off, rfl, hmem, c0, c1, c2⟩ := (HR.out.below HB0.out).at hlt
      have HLk := Lib.hid (fun h => HLow.out k h hlt)
      have HAk := Lib.hid (fun h => HAt.out k h hlt)
      have HHk := Lib.hid (fun h => HHi.out k h hlt)
      have HBk := Lib.hid (HBl.out k)
      have HBak := Lib.hid (fun h => HBa.out k h hlt)
      have Hnk := Lib.hid (Hnf.out (es.getD k fe0))
      have hqb := HR.out.base _ hmem
      have hqp := HR.out.pend _ hmem
      clear HLow HAt HHi HBl HBa hmem
      generalize es.getD k fe0 = q at *
      obtain ⟨fk, bk, pk⟩ := q
      dsimp only at *
      obtain ⟨qa, qc, rfl, _⟩ := hqb.shape0
      obtain ⟨ra, rc, rfl, _⟩ := hqp.shape
      clear hqb hqp
      have Hsm := Lib.hid (same_str fk.name f.name)
      have Hls := Lib.hid (show Op.bytesLess (strB fk.name).toList (strB f.name).toList = decide (fk.name < f.name) by rw [strB_toList, strB_toList, less_eq])
      have Hqc := Lib.hid (show filC ((fk, .slice qa fk.base.length qc, .slice ra fk.pend.length rc) : FE) = [.string (strB fk.name), .slice qa fk.base.length qc, .slice ra fk.pend.length rc] from rfl)
      rw [Hnm.out] at Hsm Hls
      generalize strB fk.name = sk at *
      generalize fk.base.length = ql at *
      generalize fk.pend.length = rl at *
      generalize ((fk, .slice qa ql qc, .slice ra rl rc) : FE) = Q at *
      have HCell := Lib.hid (show ∀ W, Below w0.heap.size w0 W → W.cell? ⟨w.heap.size, 2, none⟩ = some (.slice (some ⟨b, off, none⟩) n cap) ∧ W.cell? ⟨w.heap.size + 1, 0, none⟩ = some (.string nm) ∧ W.cell? ⟨w.heap.size + 1, 1, none⟩ = some (.slice ba bl bc) ∧ W.cell? ⟨w.heap.size + 1, 2, none⟩ = some (.slice pa pl pc) ∧ W.cell? ⟨b, off + k * 3, none⟩ = some (.string sk) ∧ W.cell? ⟨b, off + k * 3 + 1, none⟩ = some (.slice qa ql qc) ∧ W.cell? ⟨b, off + k * 3 + 2, none⟩ = some (.slice ra rl rc) from fun W hW =>
        ⟨(X.out.below hW).c2, (F.out.below hW).c0, (F.out.below hW).c1, (F.out.below hW).c2, Below.keeps hW _ _ c0, Below.keeps hW _ _ c1, Below.keeps hW _ _ c2⟩)
      clear c0 c1 c2
      have z2 := (HCell.out _ HB.out).1
      go_upto_region 6 with fail
      clear z2
      cases bd
      · have hkl : ¬ lo < k := by simpa using HD.out
        by_cases hkl2 : k < lo
        · have hnl := HBk.out hkl2
          have b1 := Hls.out
          rw [decide_eq_true hnl] at b1
          have b2 := Hsm.out
          rw [show (fk.name == f.name) = false from beq_eq_false_iff_ne.2 fun e => by rw [e] at hnl; exact lex_irrefl _ hnl] at b2
          have HOk := Lib.hid (HLk.out hkl2)
          obtain ⟨z2, g0, g1, g2, c0, c1, c2⟩ := HCell.out _ HB.out
          have e0 := cell_by z2
          have e1 := cell_by g0
          have e2 := cell_by c0
          clear z2 g0 g1 g2 c0 c1 c2
          refine wp_region_below (by kernel_rfl) (by kernel_rfl) ?_
          repeat (go_big_quiet_step (fail))
          refine wpQuiet_nil ?_
          intro _ hw'
          obtain ⟨u, hw'⟩ := hw'
          subst hw'
          have HBx := Lib.hid (bstep HB.out u.h)
          have HOx := Lib.hid (own_keep HO1.out u.h)
          generalize u.w' = w6 at *
          clear e0 e1 e2 u HB HO1
          have HB := Lib.hid HBx.out
          have HO1 := Lib.hid HOx.out
          clear HBx HOx
          go_upto_region 8 with fail
          obtain ⟨z2, g0, g1, g2, c0, c1, c2⟩ := HCell.out _ HB.out
          have e0 := cell_by z2
          have e1 := cell_by g0
          have e2 := cell_by c0
          clear z2 g0 g1 g2 c0 c1 c2
          refine wp_region_below (by kernel_rfl) (by kernel_rfl) ?_
          repeat (go_big_quiet_step (fail))
          refine wpQuiet_nil ?_
          intro _ hw'
          obtain ⟨u, hw'⟩ := hw'
          subst hw'
          have HBx := Lib.hid (bstep HB.out u.h)
          have HOx := Lib.hid (own_keep HO1.out u.h)
          generalize u.w' = w8 at *
          clear e0 e1 e2 u HB HO1
          have HB := Lib.hid HBx.out
          have HO1 := Lib.hid HOx.out
          clear HBx HOx
          have hsz : w0.heap.size ≤ w8.heap.size := HB.out.size
          have HBV := Lib.hid (show Below w8.heap.size w8 (w8.alloc (.cells #[.string sk, .slice qa ql qc, .slice ra rl rc] 73)) from (Below.refl _ _).alloc (Nat.le_refl _) _)
          have HOw := Lib.hid (own_keep HO1.out HBV.out)
          obtain ⟨z2, g0, g1, g2, c0, c1, c2⟩ := HCell.out _ HB.out
          go_wp2_with (at_builtin; go_must (refine wpList_app (m := 1) rfl (.tmp 41) (.tmp 47) 22 rfl elemFr w0.heap.size rfl HOw.out rfl (Rd.newK w8.heap.size w8 rfl 3 [.string sk, .slice qa ql qc, .slice ra rl rc] 73 1 rfl (by decide)) (fun u hu => by simp at hu; rcases hu with rfl | rfl | rfl <;> rfl) (by unfold maxLen; omega) (by omega) (by simp; omega) ?_); intro v4 w9 hown4 hgr4 hv4; clear hv4; obtain ⟨oa4, oc4, e4, _⟩ := own_form hown4; subst e4)
          have HBx := Lib.hid (own_below (HB.out.trans (HBV.out.mono hsz)) HOw.out (Nat.le_trans hsz HBV.out.size) hgr4)
          have HOx := Lib.hid hown4
          clear hown4 hgr4 HOw HBV hsz HB HO1 z2 g0 g1 g2 c0 c1 c2
          have HB := Lib.hid HBx.out
          have HO1 := Lib.hid HOx.out
          clear HBx HOx
          go_wp2_with fail
          exact ⟨⟨k + 1, false, by go_num, rfl, by omega, Lib.hid (by simp; omega), Lib.hid (by
            rw [HOut.out, HOk.out]
            exact own_len HO1.out (by simp only [List.flatMap_append, List.flatMap_cons, List.flatMap_nil, List.append_nil, Hpc.out, Hqc.out, Bool.false_eq_true, if_false, if_true, reduceIte])), HB⟩, by simp [intOf]; omega⟩
        · have hkl3 : k = lo := by omega
          have hnl := HBak.out hkl3
          have b1 := Hls.out
          rw [decide_eq_false hnl] at b1
          have HOk := Lib.hid (HAk.out hkl3)
          clear hkl3
          by_cases hne : fk.name = f.name
          · have b2 := Hsm.out
            rw [beq_iff_eq.2 hne] at b2
            rw [Hnk.out, bne_eq_false_iff_eq.2 hne] at HOk
            obtain ⟨z2, g0, g1, g2, c0, c1, c2⟩ := HCell.out _ HB.out
            have e0 := cell_by z2
            have e1 := cell_by g0
            have e2 := cell_by c0
            clear z2 g0 g1 g2 c0 c1 c2
            refine wp_region_below (by kernel_rfl) (by kernel_rfl) ?_
            repeat (go_big_quiet_step (fail))
            refine wpQuiet_nil ?_
            intro _ hw'
            obtain ⟨u, hw'⟩ := hw'
            subst hw'
            have HBx := Lib.hid (bstep HB.out u.h)
            have HOx := Lib.hid (own_keep HO1.out u.h)
            generalize u.w' = w6 at *
            clear e0 e1 e2 u HB HO1
            have HB := Lib.hid HBx.out
            have HO1 := Lib.hid HOx.out
            clear HBx HOx
            have hsz : w0.heap.size ≤ w6.heap.size := HB.out.size
            have HBV := Lib.hid (show Below w6.heap.size w6 (w6.alloc (.cells #[.string nm, .slice ba bl bc, .slice pa pl pc] 73)) from (Below.refl _ _).alloc (Nat.le_refl _) _)
            have HOw := Lib.hid (own_keep HO1.out HBV.out)
            obtain ⟨z2, g0, g1, g2, c0, c1, c2⟩ := HCell.out _ HB.out
            go_wp2_with (at_builtin; go_must (refine wpList_app (m := 1) rfl (.tmp 28) (.tmp 30) 22 rfl elemFr w0.heap.size rfl HOw.out rfl (Rd.newK w6.heap.size w6 rfl 3 [.string nm, .slice ba bl bc, .slice pa pl pc] 73 1 rfl (by decide)) (fun u hu => by simp at hu; rcases hu with rfl | rfl | rfl <;> rfl) (by unfold maxLen; omega) (by omega) (by simp; omega) ?_); intro v4 w7 hown4 hgr4 hv4; clear hv4; obtain ⟨oa4, oc4, e4, _⟩ := own_form hown4; subst e4)
            have HBx := Lib.hid (own_below (HB.out.trans (HBV.out.mono hsz)) HOw.out (Nat.le_trans hsz HBV.out.size) hgr4)
            have HOx := Lib.hid hown4
            clear hown4 hgr4 HOw HBV hsz HB HO1 z2 g0 g1 g2 c0 c1 c2
            have HB := Lib.hid HBx.out
            have HO1 := Lib.hid HOx.out
            clear HBx HOx
            have z2 := (HCell.out _ HB.out).1
            go_upto_region 8 with fail
            clear z2
            obtain ⟨z2, g0, g1, g2, c0, c1, c2⟩ := HCell.out _ HB.out
            have e0 := cell_by z2
            have e1 := cell_by g0
            have e2 := cell_by c0
            clear z2 g0 g1 g2 c0 c1 c2
            refine wp_region_below (by kernel_rfl) (by kernel_rfl) ?_
            repeat (go_big_quiet_step (fail))
            refine wpQuiet_nil ?_
            intro _ hw'
            obtain ⟨u, hw'⟩ := hw'
            subst hw'
            have HBx := Lib.hid (bstep HB.out u.h)
            have HOx := Lib.hid (own_keep HO1.out u.h)
            generalize u.w' = w8 at *
            clear e0 e1 e2 u HB HO1
            have HB := Lib.hid HBx.out
            have HO1 := Lib.hid HOx.out
            clear HBx HOx
            go_wp2_with fail
            exact ⟨⟨k + 1, true, by go_num, rfl, by omega, Lib.hid (by simp; omega), Lib.hid (by
              rw [HOut.out, HOk.out]
              exact own_len HO1.out (by simp only [List.flatMap_append, List.flatMap_cons, List.flatMap_nil, List.append_nil, Hpc.out, Hqc.out, Bool.false_eq_true, if_false, if_true, reduceIte])), HB⟩, by simp [intOf]; omega⟩
          · have b2 := Hsm.out
            rw [beq_eq_false_iff_ne.2 hne] at b2
            rw [Hnk.out, bne_iff_ne.2 hne] at HOk
            obtain ⟨z2, g0, g1, g2, c0, c1, c2⟩ := HCell.out _ HB.out
            have e0 := cell_by z2
            have e1 := cell_by g0
            have e2 := cell_by c0
            clear z2 g0 g1 g2 c0 c1 c2
            refine wp_region_below (by kernel_rfl) (by kernel_rfl) ?_
            repeat (go_big_quiet_step (fail))
            refine wpQuiet_nil ?_
            intro _ hw'
            obtain ⟨u, hw'⟩ := hw'
            subst hw'
            have HBx := Lib.hid (bstep HB.out u.h)
            have HOx := Lib.hid (own_keep HO1.out u.h)
            generalize u.w' = w6 at *
            clear e0 e1 e2 u HB HO1
            have HB := Lib.hid HBx.out
            have HO1 := Lib.hid HOx.out
            clear HBx HOx
            have hsz : w0.heap.size ≤ w6.heap.size := HB.out.size
            have HBV := Lib.hid (show Below w6.heap.size w6 (w6.alloc (.cells #[.string nm, .slice ba bl bc, .slice pa pl pc] 73)) from (Below.refl _ _).alloc (Nat.le_refl _) _)
            have HOw := Lib.hid (own_keep HO1.out HBV.out)
            obtain ⟨z2, g0, g1, g2, c0, c1, c2⟩ := HCell.out _ HB.out
            go_wp2_with (at_builtin; go_must (refine wpList_app (m := 1) rfl (.tmp 28) (.tmp 30) 22 rfl elemFr w0.heap.size rfl HOw.out rfl (Rd.newK w6.heap.size w6 rfl 3 [.string nm, .slice ba bl bc, .slice pa pl pc] 73 1 rfl (by decide)) (fun u hu => by simp at hu; rcases hu with rfl | rfl | rfl <;> rfl) (by unfold maxLen; omega) (by omega) (by simp; omega) ?_); intro v4 w7 hown4 hgr4 hv4; clear hv4; obtain ⟨oa4, oc4, e4, _⟩ := own_form hown4; subst e4)
            have HBx := Lib.hid (own_below (HB.out.trans (HBV.out.mono hsz)) HOw.out (Nat.le_trans hsz HBV.out.size) hgr4)
            have HOx := Lib.hid hown4
            clear hown4 hgr4 HOw HBV hsz HB HO1 z2 g0 g1 g2 c0 c1 c2
            have HB := Lib.hid HBx.out
            have HO1 := Lib.hid HOx.out
            clear HBx HOx
            have z2 := (HCell.out _ HB.out).1
            go_upto_region 8 with fail
            clear z2
            obtain ⟨z2, g0, g1, g2, c0, c1, c2⟩ := HCell.out _ HB.out
            have e0 := cell_by z2
            have e1 := cell_by g0
            have e2 := cell_by c0
            clear z2 g0 g1 g2 c0 c1 c2
            refine wp_region_below (by kernel_rfl) (by kernel_rfl) ?_
            repeat (go_big_quiet_step (fail))
            refine wpQuiet_nil ?_
            intro _ hw'
            obtain ⟨u, hw'⟩ := hw'
            subst hw'
            have HBx := Lib.hid (bstep HB.out u.h)
            have HOx := Lib.hid (own_keep HO1.out u.h)
            generalize u.w' = w8 at *
            clear e0 e1 e2 u HB HO1
            have HB := Lib.hid HBx.out
            have HO1 := Lib.hid HOx.out
            clear HBx HOx
            have hsz : w0.heap.size ≤ w8.heap.size := HB.out.size
            have HBV := Lib.hid (show Below w8.heap.size w8 (w8.alloc (.cells #[.string sk, .slice qa ql qc, .slice ra rl rc] 73)) from (Below.refl _ _).alloc (Nat.le_refl _) _)
            have HOw := Lib.hid (own_keep HO1.out HBV.out)
            obtain ⟨z2, g0, g1, g2, c0, c1, c2⟩ := HCell.out _ HB.out
            go_wp2_with (at_builtin; go_must (refine wpList_app (m := 1) rfl (.tmp 41) (.tmp 47) 22 rfl elemFr w0.heap.size rfl HOw.out rfl (Rd.newK w8.heap.size w8 rfl 3 [.string sk, .slice qa ql qc, .slice ra rl rc] 73 1 rfl (by decide)) (fun u hu => by simp at hu; rcases hu with rfl | rfl | rfl <;> rfl) (by unfold maxLen; omega) (by omega) (by simp; omega) ?_); intro v4 w9 hown4 hgr4 hv4; clear hv4; obtain ⟨oa4, oc4, e4, _⟩ := own_form hown4; subst e4)
            have HBx := Lib.hid (own_below (HB.out.trans (HBV.out.mono hsz)) HOw.out (Nat.le_trans hsz HBV.out.size) hgr4)
            have HOx := Lib.hid hown4
            clear hown4 hgr4 HOw HBV hsz HB HO1 z2 g0 g1 g2 c0 c1 c2
            have HB := Lib.hid HBx.out
            have HO1 := Lib.hid HOx.out
            clear HBx HOx
            go_wp2_with fail
            exact ⟨⟨k + 1, true, by go_num, rfl, by omega, Lib.hid (by simp; omega), Lib.hid (by
              rw [HOut.out, HOk.out]
              exact own_len HO1.out (by simp only [List.flatMap_append, List.flatMap_cons, List.flatMap_nil, List.append_nil, Hpc.out, Hqc.out, Bool.false_eq_true, if_false, if_true, reduceIte])), HB⟩, by simp [intOf]; omega⟩
      · have hkl : lo < k := by simpa using HD.out
        have HOk := Lib.hid (HHk.out hkl)
        by_cases hne : fk.name = f.name
        · have b2 := Hsm.out
          rw [beq_iff_eq.2 hne] at b2
          rw [Hnk.out, bne_eq_false_iff_eq.2 hne] at HOk
          obtain ⟨z2, g0, g1, g2, c0, c1, c2⟩ := HCell.out _ HB.out
          have e0 := cell_by z2
          have e1 := cell_by g0
          have e2 := cell_by c0
          clear z2 g0 g1 g2 c0 c1 c2
          refine wp_region_below (by kernel_rfl) (by kernel_rfl) ?_
          repeat (go_big_quiet_step (fail))
          refine wpQuiet_nil ?_
          intro _ hw'
          obtain ⟨u, hw'⟩ := hw'
          subst hw'
          have HBx := Lib.hid (bstep HB.out u.h)
          have HOx := Lib.hid (own_keep HO1.out u.h)
          generalize u.w' = w6 at *
          clear e0 e1 e2 u HB HO1
          have HB := Lib.hid HBx.out
          have HO1 := Lib.hid HOx.out
          clear HBx HOx
          go_upto_region 8 with fail
          obtain ⟨z2, g0, g1, g2, c0, c1, c2⟩ := HCell.out _ HB.out
          have e0 := cell_by z2
          have e1 := cell_by g0
          have e2 := cell_by c0
          clear z2 g0 g1 g2 c0 c1 c2
          refine wp_region_below (by kernel_rfl) (by kernel_rfl) ?_
          repeat (go_big_quiet_step (fail))
          refine wpQuiet_nil ?_
          intro _ hw'
          obtain ⟨u, hw'⟩ := hw'
          subst hw'
          have HBx := Lib.hid (bstep HB.out u.h)
          have HOx := Lib.hid (own_keep HO1.out u.h)
          generalize u.w' = w8 at *
          clear e0 e1 e2 u HB HO1
          have HB := Lib.hid HBx.out
          have HO1 := Lib.hid HOx.out
          clear HBx HOx
          go_wp2_with fail
          exact ⟨⟨k + 1, true, by go_num, rfl, by omega, Lib.hid (by simp; omega), Lib.hid (by
            rw [HOut.out, HOk.out]
            exact own_len HO1.out (by simp only [List.flatMap_append, List.flatMap_cons, List.flatMap_nil, List.append_nil, Hpc.out, Hqc.out, Bool.false_eq_true, if_false, if_true, reduceIte])), HB⟩, by simp [intOf]; omega⟩
        · have b2 := Hsm.out
          rw [beq_eq_false_iff_ne.2 hne] at b2
          rw [Hnk.out, bne_iff_ne.2 hne] at HOk
          obtain ⟨z2, g0, g1, g2, c0, c1, c2⟩ := HCell.out _ HB.out
          have e0 := cell_by z2
          have e1 := cell_by g0
          have e2 := cell_by c0
          clear z2 g0 g1 g2 c0 c1 c2
          refine wp_region_below (by kernel_rfl) (by kernel_rfl) ?_
          repeat (go_big_quiet_step (fail))
          refine wpQuiet_nil ?_
          intro _ hw'
          obtain ⟨u, hw'⟩ := hw'
          subst hw'
          have HBx := Lib.hid (bstep HB.out u.h)
          have HOx := Lib.hid (own_keep HO1.out u.h)
          generalize u.w' = w6 at *
          clear e0 e1 e2 u HB HO1
          have HB := Lib.hid HBx.out
          have HO1 := Lib.hid HOx.out
          clear HBx HOx
          go_upto_region 8 with fail
          obtain ⟨z2, g0, g1, g2, c0, c1, c2⟩ := HCell.out _ HB.out
          have e0 := cell_by z2
          have e1 := cell_by g0
          have e2 := cell_by c0
          clear z2 g0 g1 g2 c0 c1 c2
          refine wp_region_below (by kernel_rfl) (by kernel_rfl) ?_
          repeat (go_big_quiet_step (fail))
          refine wpQuiet_nil ?_
          intro _ hw'
          obtain ⟨u, hw'⟩ := hw'
          subst hw'
          have HBx := Lib.hid (bstep HB.out u.h)
          have HOx := Lib.hid (own_keep HO1.out u.h)
          generalize u.w' = w8 at *
          clear e0 e1 e2 u HB HO1
          have HB := Lib.hid HBx.out
          have HO1 := Lib.hid HOx.out
          clear HBx HOx
          have hsz : w0.heap.size ≤ w8.heap.size := HB.out.size
          have HBV := Lib.hid (show Below w8.heap.size w8 (w8.alloc (.cells #[.string sk, .slice qa ql qc, .slice ra rl rc] 73)) from (Below.refl _ _).alloc (Nat.le_refl _) _)
          have HOw := Lib.hid (own_keep HO1.out HBV.out)
          obtain ⟨z2, g0, g1, g2, c0, c1, c2⟩ := HCell.out _ HB.out
          go_wp2_with (at_builtin; go_must (refine wpList_app (m := 1) rfl (.tmp 41) (.tmp 47) 22 rfl elemFr w0.heap.size rfl HOw.out rfl (Rd.newK w8.heap.size w8 rfl 3 [.string sk, .slice qa ql qc, .slice ra rl rc] 73 1 rfl (by decide)) (fun u hu => by simp at hu; rcases hu with rfl | rfl | rfl <;> rfl) (by unfold maxLen; omega) (by omega) (by simp; omega) ?_); intro v4 w9 hown4 hgr4 hv4; clear hv4; obtain ⟨oa4, oc4, e4, _⟩ := own_form hown4; subst e4)
          have HBx := Lib.hid (own_below (HB.out.trans (HBV.out.mono hsz)) HOw.out (Nat.le_trans hsz HBV.out.size) hgr4)
          have HOx := Lib.hid hown4
          clear hown4 hgr4 HOw HBV hsz HB HO1 z2 g0 g1 g2 c0 c1 c2
          have HB := Lib.hid HBx.out
          have HO1 := Lib.hid HOx.out
          clear HBx HOx
          go_wp2_with fail
          exact ⟨⟨k + 1, true, by go_num, rfl, by omega, Lib.hid (by simp; omega), Lib.hid (by
            rw [HOut.out, HOk.out]
            exact own_len HO1.out (by simp only [List.flatMap_append, List.flatMap_cons, List.flatMap_nil, List.append_nil, Hpc.out, Hqc.out, Bool.false_eq_true, if_false, if_true, reduceIte])), HB⟩, by simp [intOf]; omega⟩
    · have j1 : ¬ (k : Int) < (n : Int) := by omega
      obtain rfl : k = n := by omega
      have z2 := XB.out.c2
      cases bd
      · have hkl : ¬ lo < k := by simpa using HD.out
        have hkl3 : lo = k := by omega
        have HE := Lib.hid (HEnd.out (by rw [hkl3]))
        clear hkl3
        have HCell := Lib.hid (show ∀ W, Below w0.heap.size w0 W → W.cell? ⟨w.heap.size, 2, none⟩ = some (.slice a k cap) ∧ W.cell? ⟨w.heap.size + 1, 0, none⟩ = some (.string nm) ∧ W.cell? ⟨w.heap.size + 1, 1, none⟩ = some (.slice ba bl bc) ∧ W.cell? ⟨w.heap.size + 1, 2, none⟩ = some (.slice pa pl pc) ∧ True ∧ True ∧ True from fun W hW =>
          ⟨(X.out.below hW).c2, (F.out.below hW).c0, (F.out.below hW).c1, (F.out.below hW).c2, trivial, trivial, trivial⟩)
        go_upto_region 11 with fail
        clear z2
        have hsz : w0.heap.size ≤ wr.heap.size := HB.out.size
        have HBV := Lib.hid (show Below wr.heap.size wr (wr.alloc (.cells #[.string nm, .slice ba bl bc, .slice pa pl pc] 73)) from (Below.refl _ _).alloc (Nat.le_refl _) _)
        have HOw := Lib.hid (own_keep HO1.out HBV.out)
        obtain ⟨z2, g0, g1, g2, c0, c1, c2⟩ := HCell.out _ HB.out
        go_upto_region 12 with (at_builtin; go_must (refine wpList_app (m := 1) rfl (.tmp 51) (.tmp 53) 22 rfl elemFr w0.heap.size rfl HOw.out rfl (Rd.newK wr.heap.size wr rfl 3 [.string nm, .slice ba bl bc, .slice pa pl pc] 73 1 rfl (by decide)) (fun u hu => by simp at hu; rcases hu with rfl | rfl | rfl <;> rfl) (by unfold maxLen; omega) (by omega) (by simp; omega) ?_); intro v4 w9 hown4 hgr4 hv4; clear hv4; obtain ⟨oa4, oc4, e4, _⟩ := own_form hown4; subst e4)
        have HBx := Lib.hid (own_below (HB.out.trans (HBV.out.mono hsz)) HOw.out (Nat.le_trans hsz HBV.out.size) hgr4)
        have HOx := Lib.hid hown4
        clear hown4 hgr4 HOw HBV hsz HB HO1 z2 g0 g1 g2 c0 c1 c2
        have HB := Lib.hid HBx.out
        have HO1 := Lib.hid HOx.out
        clear HBx HOx
        have HOf := Lib.hid (show w9.ownsRow w0.heap.size 73 3 (.slice oa4 (ol + 1) oc4) (addE es P).length ((addE es P).flatMap filC) from own_len HO1.out (by rw [← HE.out]; simp only [List.flatMap_append, List.flatMap_cons, List.flatMap_nil, List.append_nil, Hpc.out]))
        have hln : (addE es P).length = ol + 1 := by
          obtain ⟨_, _, e, _⟩ := own_form HOf.out
          injection e with _ e _
          exact e.symm
        have HLn := Lib.hid hln
        clear hln
        have X9 := Lib.hid (X.out.below HB.out)
        have R9 := Lib.hid (R.out.below HB.out)
        have X10 := Lib.hid (X9.out.set2 (.slice oa4 (ol + 1) oc4))
        have R10 := Lib.hid (R9.out.set_ne (p := ⟨w.heap.size, 2, none⟩) (by dsimp only; omega) (.slice oa4 (ol + 1) oc4))
        have HBw := Lib.hid (bstep HB0.out HB.out)
        have HB10 := Lib.hid (HBw.out.setCell (p := ⟨w.heap.size, 2, none⟩) (Nat.le_refl _) (.slice oa4 (ol + 1) oc4))
        have HO10 := Lib.hid (own_set_ne (p := ⟨w.heap.size, 2, none⟩) HOf.out (own_above HOf.out (by dsimp only; omega)) (.slice oa4 (ol + 1) oc4))
        have x2 := X9.out.c2
        have xf := X9.out.f
        go_upto_region 13 with fail
        clear x2 xf X9 R9
        generalize w9.setCell ⟨w.heap.size, 2, none⟩ (.slice oa4 (ol + 1) oc4) = wz at *
        have x0 := X10.out.c0
        have x1 := X10.out.c1
        have x2 := X10.out.c2
        have r0 := R10.out.c0
        have r1 := R10.out.c1
        have r2 := R10.out.c2
        have rf := R10.out.f
        have o0 := HO10.out
        have o1 := own_set_ne (p := ⟨w.heap.size + 2, 0, none⟩) o0 (own_above o0 (by dsimp only; omega)) (.int .i64 c)
        have o2 := own_set_ne (p := ⟨w.heap.size + 2, 1, none⟩) o1 (own_above o1 (by dsimp only; omega)) (.int .i64 lf)
        have HOz := Lib.hid (World.ownsRow.mono (own_set_ne (p := ⟨w.heap.size + 2, 2, none⟩) o2 (own_above o2 (by dsimp only; omega)) (.slice oa4 (ol + 1) oc4)) (show w.heap.size ≤ w0.heap.size by omega))
        clear o0 o1 o2
        go_wp2_with fail
        exact bodyPost_ret (v := diskVal c lf (.slice oa4 (ol + 1) oc4)) (by simp [results, Tryd.results93, go_sem, r0, r1, r2]) rfl ⟨_, rfl, HOz.out, HB10.out.all3 (by omega) _ _ _⟩
      · have hkl : lo < k := by simpa using HD.out
        have HE := Lib.hid (HAll.out hkl)
        have HOf := Lib.hid (show wr.ownsRow w0.heap.size 73 3 (.slice oa ol oc) (addE es P).length ((addE es P).flatMap filC) from own_len HO1.out (by rw [← HE.out]))
        go_upto_region 12 with fail
        clear z2
        have X9 := Lib.hid (X.out.below HB.out)
        have R9 := Lib.hid (R.out.below HB.out)
        have X10 := Lib.hid (X9.out.set2 (.slice oa ol oc))
        have R10 := Lib.hid (R9.out.set_ne (p := ⟨w.heap.size, 2, none⟩) (by dsimp only; omega) (.slice oa ol oc))
        have HBw := Lib.hid (bstep HB0.out HB.out)
        have HB10 := Lib.hid (HBw.out.setCell (p := ⟨w.heap.size, 2, none⟩) (Nat.le_refl _) (.slice oa ol oc))
        have HO10 := Lib.hid (own_set_ne (p := ⟨w.heap.size, 2, none⟩) HOf.out (own_above HOf.out (by dsimp only; omega)) (.slice oa ol oc))
        have x2 := X9.out.c2
        have xf := X9.out.f
        go_upto_region 13 with fail
        clear x2 xf X9 R9
        generalize wr.setCell ⟨w.heap.size, 2, none⟩ (.slice oa ol oc) = wz at *
        have x0 := X10.out.c0
        have x1 := X10.out.c1
        have x2 := X10.out.c2
        have r0 := R10.out.c0
        have r1 := R10.out.c1
        have r2 := R10.out.c2
        have rf := R10.out.f
        have o0 := HO10.out
        have o1 := own_set_ne (p := ⟨w.heap.size + 2, 0, none⟩) o0 (own_above o0 (by dsimp only; omega)) (.int .i64 c)
        have o2 := own_set_ne (p := ⟨w.heap.size + 2, 1, none⟩) o1 (own_above o1 (by dsimp only; omega)) (.int .i64 lf)
        have HOz := Lib.hid (World.ownsRow.mono (own_set_ne (p := ⟨w.heap.size + 2, 2, none⟩) o2 (own_above o2 (by dsimp only; omega)) (.slice oa ol oc)) (show w.heap.size ≤ w0.heap.size by omega))
        clear o0 o1 o2
        go_wp2_with fail
        exact bodyPost_ret (v := diskVal c lf (.slice oa ol oc)) (by simp [results, Tryd.results93, go_sem, r0, r1, r2]) rfl ⟨_, rfl, HOz.out, HB10.out.all3 (by omega) _ _ _⟩
end Go.Proofs.YtkabcpmnbjllcaaDoor

namespace Go.Proofs.YtkabcpmnbjllcaaDoor
open Go.RowKit

/-- What is kept of a world with a box written is kept of the world before. -/
theorem own_all3 {w : World} {B b : Nat} {e : TypeId} {sz n : Nat} {v : Value} {xs : List Value} (h : w.ownsRow B e sz v n xs) (hb : b < B) (x y z : Value) : (((w.setCell ⟨b, 0, none⟩ x).setCell ⟨b, 1, none⟩ y).setCell ⟨b, 2, none⟩ z).ownsRow B e sz v n xs :=
  own_set_ne (p := ⟨b, 2, none⟩) (own_set_ne (p := ⟨b, 1, none⟩) (own_set_ne (p := ⟨b, 0, none⟩) h (own_above h hb) x) (own_above h hb) y) (own_above h hb) z
/-- The row and its new parts, which lie above B, after a box below B was written. -/
structure RowB (w : World) (xs : List FX) (w' : World) (B : Nat) (fv : Value) (xs' : List FX) : Prop where
  own : w'.ownsRow B 73 3 fv (feX xs').length ((feX xs').flatMap filC)
  le : w.heap.size ≤ B
  parts : ∀ W', KeepB B w' W' → PartsX W' xs → PartsX W' xs'
theorem RowR.set3 {w w' : World} {xs xs' : List FX} {B b : Nat} {fv : Value} (h : RowB w xs w' B fv xs') (hb : b < B) (x y z : Value) : RowR w xs (((w'.setCell ⟨b, 0, none⟩ x).setCell ⟨b, 1, none⟩ y).setCell ⟨b, 2, none⟩ z) fv xs' :=
  ⟨World.ownsRow.mono (own_all3 h.own hb x y z) h.le, fun W' hk hp => h.parts W' ((KeepB.all3 hb x y z).trans (hk.up h.le)) hp⟩
theorem RowB.set {w w' : World} {xs xs' : List FX} {B b : Nat} {fv : Value} (h : RowB w xs w' B fv xs') (hb : b < B) (i : Nat) (u : Value) : RowB w xs (w'.setCell ⟨b, i, none⟩ u) B fv xs' :=
  ⟨own_set_ne (p := ⟨b, i, none⟩) h.own (own_above h.own hb) u, h.le, fun W' hk hp => h.parts W' ((KeepB.set hb i u).trans hk) hp⟩
theorem RowB.all3 {w w' : World} {xs xs' : List FX} {B b : Nat} {fv : Value} (h : RowB w xs w' B fv xs') (hb : b < B) (x y z : Value) : RowB w xs (((w'.setCell ⟨b, 0, none⟩ x).setCell ⟨b, 1, none⟩ y).setCell ⟨b, 2, none⟩ z) B fv xs' :=
  ((h.set hb 0 x).set hb 1 y).set hb 2 z
theorem RowB.rd {w w' W' : World} {xs xs' : List FX} {B : Nat} {fv : Value} (h : RowB w xs w' B fv xs') (hk : KeepB B w' W') (hp : PartsX W' xs) : RdFE W' fv (feX xs') := rdFE_x (own_rds (fun _ _ => rfl) (by decide) (hk.own h.own (Nat.le_refl _))) (h.parts W' hk hp)
theorem create_arg {d : Dk} {s : List UInt8} (h : readyE d s ≠ 0) : createD d s = (dk0, readyE d s) := by unfold createD; rw [if_pos h]
theorem create_there {d : Dk} {s : List UInt8} (h : readyE d s = 0) (h1 : hasN d.files s = true) : createD d s = (dk0, 7) := by unfold createD; rw [if_neg (by simpa using h), if_pos h1]
theorem create_full {d : Dk} {s : List UInt8} (h : readyE d s = 0) (h1 : hasN d.files s = false) (h2 : d.files.length = 256) : createD d s = (dk0, 9) := by unfold createD; rw [if_neg (by simpa using h), if_neg (by simp [h1]), if_pos h2]
theorem create_ok {d : Dk} {s : List UInt8} (h : readyE d s = 0) (h1 : hasN d.files s = false) (h2 : d.files.length ≠ 256) : createD d s = (⟨d.cap, nextL d.left, addN d.files ⟨s, [], []⟩⟩, 0) := by unfold createD; rw [if_neg (by simpa using h), if_neg (by simp [h1]), if_neg h2]
set_option maxRecDepth 100000 in
set_option maxHeartbeats 3200000 in
theorem rcreate_any (d : Dk) (s : List UInt8) (fv : Value) (xs : List FX) (w : World) (hr : RdS 3 filC w fv (feX xs)) (hx : PartsX w xs) (hes : filX xs = d.files) (hL : LiteD d) (hs : s.length ≤ 9223372036854775807) :
    Calls Tryd.prog 67 #[diskVal d.cap d.left fv, .string (strB s)] w (RefOp w xs (createD d s)) := by
  have h := rdFE_x hr hx
  have hF : RdF w fv d.files := ⟨feX xs, by rw [feX_fst, hes], h⟩
  obtain ⟨a, cap, rfl, h1, h2, _⟩ := hF.shape
  have hel : (feX xs).length = d.files.length := by rw [← hes, feX_len]; exact (List.length_map ..).symm
  have HQ := Lib.hid (fun W (hW : Below w.heap.size w W) => rready_any d.cap d.left _ d.files s W (hF.below hW) hL.fs hs)
  have HF := Lib.hid (fun (hv : VldD d) W (hW : Below w.heap.size w W) => rfind_any d.cap d.left _ d.files s W (hF.below hW) hv.asc (by have := hL.len; omega))
  have HNx := Lib.hid (fun W (hW : Below w.heap.size w W) => rnext_any d.cap d.left _ (feX xs) W (h.below hW) (by rw [hel]; have := hL.len; omega) hL.left)
  have HAd := Lib.hid (fun W v (hv : RdFE W v (feX xs)) => radded_any d.cap (nextL d.left) v (feX xs) (⟨s, [], []⟩, nilS, nilS) W hv (by rw [hel]; have := hL.len; omega) (RdB_nil _) (RdW_nil _))
  have HPa := Lib.hid hx
  have HR0 := Lib.hid (fun e => (readyE_ok (d := d) (s := s) e).1)
  have E1 := Lib.hid (fun e => create_arg (d := d) (s := s) e)
  have E7 := Lib.hid (fun e e' => create_there (d := d) (s := s) e e')
  have E9 := Lib.hid (fun e e' e2 => create_full (d := d) (s := s) e e' e2)
  have E0 := Lib.hid (fun e e' e2 => create_ok (d := d) (s := s) e e' e2)
  have HFi := Lib.hid (show rfndI d.files s = if hasN d.files s then (lowN d.files s : Int) else -1 from rfl)
  have HAF := Lib.hid (show filX (addX xs ((⟨s, [], []⟩, nilS, nilS), [])) = addN d.files ⟨s, [], []⟩ by rw [addX_fil, hes])
  have HAM := Lib.hid (fun q hq => addX_mem (xs := xs) (P := ((⟨s, [], []⟩, nilS, nilS), [])) (q := q) hq)
  have HAE := Lib.hid (addX_fe xs ((⟨s, [], []⟩, nilS, nilS), []))
  clear h hF hs hr hx
  dsimp only [filVal, diskVal] at HAd
  generalize createD d s = RS at *
  change Hid (∀ W, Below w.heap.size w W → Calls _ _ _ W fun e w' => e = .returned (.int .i64 (readyE d s)) ∧ Below W.heap.size W w') at HQ
  generalize readyE d s = Q at *
  generalize hasN d.files s = hb at *
  generalize rfndI d.files s = fi at *
  generalize lowN d.files s = lo at *
  generalize hnl : nextL d.left = nl at *
  have Hnl := Lib.hid hnl
  generalize strB s = sv at *
  dsimp only at HAE
  rw [← HAE.out] at HAd
  generalize addX xs ((⟨s, [], []⟩, nilS, nilS), []) = AX at *
  clear HAE
  generalize addN d.files ⟨s, [], []⟩ = AF at *
  clear hes hnl
  generalize hn : d.files.length = n at *
  have hen : (feX xs).length = n := hel
  have Hen := Lib.hid hen
  clear hn hel hen hL
  obtain ⟨c, lf, fl⟩ := d
  dsimp only at *
  have HB0 := Lib.hid (show Below w.heap.size w ((w.alloc (.cells #[.int .i64 c, .int .i64 lf, .slice a n cap] 24)).alloc (.cells #[.int .i64 0, .int .i64 0, .slice none 0 0] 24)) from ((Below.refl _ _).alloc (Nat.le_refl _) _).alloc (by simp) _)
  have X := Lib.hid (show BoxD ((w.alloc (.cells #[.int .i64 c, .int .i64 lf, .slice a n cap] 24)).alloc (.cells #[.int .i64 0, .int .i64 0, .slice none 0 0] 24)) w.heap.size c lf (.slice a n cap) from ⟨by simp, by simp, by simp, fun i => by simp⟩)
  have R := Lib.hid (show BoxD ((w.alloc (.cells #[.int .i64 c, .int .i64 lf, .slice a n cap] 24)).alloc (.cells #[.int .i64 0, .int .i64 0, .slice none 0 0] 24)) (w.heap.size + 1) 0 0 (.slice none 0 0) from ⟨by simp, by simp, by simp, fun i => by simp⟩)
  have hB0 : w.heap.size + 2 ≤ ((w.alloc (.cells #[.int .i64 c, .int .i64 lf, .slice a n cap] 24)).alloc (.cells #[.int .i64 0, .int .i64 0, .slice none 0 0] 24)).heap.size := by simp
  go_enter Tryd.func67, Tryd.ntmps67
  go_upto_region 1 with fail
  generalize (w.alloc (.cells #[.int .i64 c, .int .i64 lf, .slice a n cap] 24)).alloc (.cells #[.int .i64 0, .int .i64 0, .slice none 0 0] 24) = W0 at *
  have x0 := X.out.c0
  have x1 := X.out.c1
  have x2 := X.out.c2
  by_cases hq : Q = 0
  · subst hq
    go_wp2_with fail
    refine (HQ.out _ HB0.out).mono ?_
    rintro e w1 ⟨rfl, hb1⟩
    replace X := Lib.hid (X.out.below hb1)
    replace R := Lib.hid (R.out.below hb1)
    have HB1 := Lib.hid (bstep HB0.out hb1)
    have hB1 := Nat.le_trans hB0 hb1.size
    clear HB0 hB0 hb1 x0 x1 x2
    have x0 := X.out.c0
    have x1 := X.out.c1
    have x2 := X.out.c2
    have HFt := Lib.hid (HF.out (HR0.out (by trivial)))
    cases hb
    · have hfi : fi = -1 := HFi.out
      subst hfi
      go_wp2_with fail
      refine (HFt.out _ HB1.out).mono ?_
      rintro e w2 ⟨rfl, hb2⟩
      replace X := Lib.hid (X.out.below hb2)
      replace R := Lib.hid (R.out.below hb2)
      have HB2 := Lib.hid (bstep HB1.out hb2)
      have hB2 := Nat.le_trans hB1 hb2.size
      clear HB1 hB1 hb2 x0 x1 x2
      have x0 := X.out.c0
      have x1 := X.out.c1
      have x2 := X.out.c2
      by_cases hfull : n = 256
      · subst hfull
        have HE := Lib.hid (E9.out (by trivial) (by trivial) (by trivial))
        have r0 := R.out.c0
        have r1 := R.out.c1
        have r2 := R.out.c2
        have rf := R.out.f
        go_wp2_with fail
        exact bodyPost_ret (v := .tuple #[diskVal 0 0 nilS, .int .i64 9]) (by simp [results, Tryd.results67, go_sem, r0, r1, r2]) rfl ⟨⟨_, [], by rw [HE.out]; first | done | rfl, by rw [HE.out]; rfl, RowR.nil _ _ _⟩, HB2.out.all3 (by omega) _ _ _⟩
      · have HE := Lib.hid (E0.out (by trivial) (by trivial) hfull)
        have i1 : ¬ (n : Int) = 256 := by omega
        clear hfull E1 E7 E9 E0
        go_wp2_with fail
        refine (HNx.out _ HB2.out).mono ?_
        rintro e w3 ⟨v3, rfl, ho3, hb3⟩
        replace X := Lib.hid (X.out.below hb3)
        replace R := Lib.hid (R.out.below hb3)
        have HB3 := Lib.hid (bstep HB2.out hb3)
        have hB3 := Nat.le_trans hB2 hb3.size
        clear hb3 x0 x1 x2
        have x0 := X.out.c0
        have x1 := X.out.c1
        have x2 := X.out.c2
        obtain ⟨va, vc, e3, _⟩ := own_form ho3
        subst e3
        have HR3 := Lib.hid (show RdFE w3 _ (feX xs) from rdFE_x (own_rds (fun _ _ => rfl) (by decide) ho3) (HPa.out.below HB3.out))
        clear ho3
        generalize (feX xs).length = el at *
        go_wp2_with fail
        refine (HAd.out w3 _ HR3.out).mono ?_
        rintro e w4 ⟨v4, rfl, ho4, hb4⟩
        replace X := Lib.hid (X.out.below hb4)
        replace R := Lib.hid (R.out.below hb4)
        have HB4 := Lib.hid (bstep HB3.out hb4)
        have hB4 := Nat.le_trans hB3 hb4.size
        clear HB3 hb4 x0 x1 x2
        have x0 := X.out.c0
        have x1 := X.out.c1
        have x2 := X.out.c2
        obtain ⟨ya, yc, e4, _⟩ := own_form ho4
        subst e4
        have HRw := Lib.hid (show RowB w xs w4 w3.heap.size _ AX from ⟨ho4, by omega, fun W' _ hp q hq => by
          rcases HAM.out q hq with h | h
          · exact hp q h
          · rw [h]; exact ⟨RdB_nil _, RdWE.nilX _, rfl⟩⟩)
        clear ho4
        generalize (feX AX).length = al at *
        have r0 := R.out.c0
        have r1 := R.out.c1
        have r2 := R.out.c2
        have rf := R.out.f
        have HRz := Lib.hid (RowR.set3 (b := w.heap.size + 1) HRw.out (by omega) (.int .i64 c) (.int .i64 nl) (.slice ya al yc))
        go_wp2_with fail
        exact bodyPost_ret (v := .tuple #[diskVal c nl (.slice ya al yc), .int .i64 0]) (by simp [results, Tryd.results67, go_sem, r0, r1, r2]) rfl ⟨⟨_, _, by rw [HE.out]; first | done | rfl, by rw [HE.out]; exact HAF.out, HRz.out⟩, HB4.out.all3 (by omega) _ _ _⟩
    · have hfi : fi = (lo : Int) := HFi.out
      subst hfi
      have HE := Lib.hid (E7.out (by trivial) (by trivial))
      have i1 : (0 : Int) ≤ (lo : Int) := by omega
      go_wp2_with fail
      refine (HFt.out _ HB1.out).mono ?_
      rintro e w2 ⟨rfl, hb2⟩
      replace X := Lib.hid (X.out.below hb2)
      replace R := Lib.hid (R.out.below hb2)
      have HB2 := Lib.hid (bstep HB1.out hb2)
      have hB2 := Nat.le_trans hB1 hb2.size
      clear HB1 hB1 hb2 x0 x1 x2
      have x0 := X.out.c0
      have x1 := X.out.c1
      have x2 := X.out.c2
      have r0 := R.out.c0
      have r1 := R.out.c1
      have r2 := R.out.c2
      have rf := R.out.f
      go_wp2_with fail
      exact bodyPost_ret (v := .tuple #[diskVal 0 0 nilS, .int .i64 7]) (by simp [results, Tryd.results67, go_sem, r0, r1, r2]) rfl ⟨⟨_, [], by rw [HE.out]; first | done | rfl, by rw [HE.out]; rfl, RowR.nil _ _ _⟩, HB2.out.all3 (by omega) _ _ _⟩
  · have HE := Lib.hid (E1.out hq)
    have hz1 : (Q == 0) = false := beq_eq_false_iff_ne.2 hq
    have hz2 : (Q != 0) = true := by rw [bne_iff_ne]; exact hq
    go_wp2_with fail
    refine (HQ.out _ HB0.out).mono ?_
    rintro e w1 ⟨rfl, hb1⟩
    replace X := Lib.hid (X.out.below hb1)
    replace R := Lib.hid (R.out.below hb1)
    have HB1 := Lib.hid (bstep HB0.out hb1)
    have hB1 := Nat.le_trans hB0 hb1.size
    clear HB0 hB0 hb1 x0 x1 x2
    have x0 := X.out.c0
    have x1 := X.out.c1
    have x2 := X.out.c2
    have r0 := R.out.c0
    have r1 := R.out.c1
    have r2 := R.out.c2
    have rf := R.out.f
    go_wp2_with fail
    exact bodyPost_ret (v := .tuple #[diskVal 0 0 nilS, .int .i64 Q]) (by simp [results, Tryd.results67, go_sem, r0, r1, r2]) rfl ⟨⟨_, [], by rw [HE.out]; first | done | rfl, by rw [HE.out]; rfl, RowR.nil _ _ _⟩, HB1.out.all3 (by omega) _ _ _⟩
end Go.Proofs.YtkabcpmnbjllcaaDoor
