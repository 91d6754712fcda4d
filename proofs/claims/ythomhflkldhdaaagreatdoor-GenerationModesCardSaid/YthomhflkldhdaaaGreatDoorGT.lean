/- Several texts in one, each over the last: Stable sorting by blocks, and the last item of each key of a sorted list, in plain Lean. No program here. Merging, in plain Lean: what a key of a merged list has. No program here. The bytes of items, in plain Lean. The reference's Find, Put, Drop, Merge, in plain Lean. No program here. The needle map, in plain Lean: stripes of items, live and other bytes. No program here. An item in a block of its own. Size of a record, of any number of bytes: the walks. Numbers of kind float64 that stand for whole numbers of less than 53 digits: reading, sums, order, back to an integer. No program here. slices.Insert and slices.Delete at items: the laws of no walk. copy and a store into a row of bytes of the call's own. slices.stableCmpFunc and SortStableFunc at items, and index.sorted of any list: the walks. index.sorted of any list: the walk. Items compared; the walk over the reference's Same. The reference's Find, Drop and Put: the walks. A region that draws its order: its first operations are quiet in a class of worlds (reads; calls that answer the same in each world of the class and lead into it), what comes behind them has one order only: one walk of the first ones, then the rest as a list, from any world of the class. -/
import Derived.Test.YthomhflkldhdaaaGreatDoorPy
import Derived.Test.YthomhflkldhdaaaGreatDoorDf
import Derived.Test.YthomhflkldhdaaaGreatDoorMk
import Derived.Test.YthomhflkldhdaaaGreatDoorGQ
import Derived.Test.YthomhflkldhdaaaGreatDoorIt
import Derived.Lib.OwnKind
import Derived.Laws.ComplexArith
import Derived.Lib.AppendZerosOnto
import Derived.Lib.Overlaps
import Derived.Test.YthomhflkldhdaaaGreatDoorSz
import Derived.Lib.AppendZeros
import Derived.Laws.StructEq
import Derived.Test.YthomhflkldhdaaaGreatDoorSo
import Derived.Deep.DeepCutAuto
import Derived.StillTailTactics
import Derived.Deep.Quiet
import Derived.BigQuiet
import Derived.Test.YthomhflkldhdaaaGreatDoorBase
namespace Go.Proofs.YthomhflkldhdaaaGreatDoor

/-- Of two neighbours with one key the last one stays. -/
def lstR : List It → List It
  | [] => []
  | [x] => [x]
  | x :: y :: r => if y.key = x.key then lstR (y :: r) else x :: lstR (y :: r)
/-- The keys do not fall. -/
def NdL (d : List It) : Prop := d.Pairwise fun a b => a.key ≤ b.key
theorem ndL_of {d : List It} (h : NdI d 0 d.length) : NdL d := by
  refine List.pairwise_iff_getElem.2 fun i j hi hj hij => ?_
  rw [iat_get hi, iat_get hj]
  exact h i j (Nat.zero_le _) hij hj
theorem fnd_nil (k : Int) : fnd [] k = none := rfl
theorem last_cons (x : It) {f : List It} (h : f ≠ []) : (x :: f).getLast? = f.getLast? := by
  cases f with
  | nil => exact absurd rfl h
  | cons y f => rw [List.getLast?_cons_cons]
theorem fnd_lstR : ∀ (d : List It), NdL d → ∀ k : Int, fnd (lstR d) k = (d.filter fun y => y.key == k).getLast?
  | [], _, k => rfl
  | [x], _, k => by
    unfold lstR
    rw [fnd_cons, List.filter_cons]
    by_cases h : x.key = k
    · rw [if_pos h, if_pos (by simp [h])]; rfl
    · rw [if_neg h, if_neg (by simp [h])]; rfl
  | x :: y :: r, hp, k => by
    obtain ⟨h1, h2⟩ := List.pairwise_cons.1 hp
    have ih := fnd_lstR (y :: r) h2 k
    unfold lstR
    rw [List.filter_cons]
    by_cases e : y.key = x.key
    · rw [if_pos e, ih]
      by_cases hk : x.key = k
      · rw [if_pos (by simp [hk]), last_cons]
        intro h0
        have : y ∈ (y :: r).filter fun y => y.key == k := List.mem_filter.2 ⟨by simp, by simp; omega⟩
        rw [h0] at this; cases this
      · rw [if_neg (by simp [hk])]
    · rw [if_neg e, fnd_cons]
      by_cases hk : x.key = k
      · rw [if_pos hk, if_pos (by simp [hk])]
        have h0 : (y :: r).filter (fun y => y.key == k) = [] := by
          rw [List.filter_eq_nil_iff]
          intro z hz
          have hxy := h1 y (by simp)
          have hyz : y.key ≤ z.key := by
            rcases List.mem_cons.1 hz with rfl | hz
            · exact Int.le_refl _
            · exact (List.pairwise_cons.1 h2).1 z hz
          simp; omega
        rw [h0]; rfl
      · rw [if_neg hk, if_neg (by simp [hk]), ih]
theorem lstR_sub : ∀ (d : List It), ∀ z ∈ lstR d, z ∈ d
  | [], _, h => h
  | [x], z, h => h
  | x :: y :: r, z, h => by
    unfold lstR at h
    split at h
    · exact List.mem_cons_of_mem _ (lstR_sub (y :: r) z h)
    · rcases List.mem_cons.1 h with rfl | h
      · simp
      · exact List.mem_cons_of_mem _ (lstR_sub (y :: r) z h)
theorem lstR_asc : ∀ (d : List It), NdL d → (lstR d).Pairwise fun a b => a.key < b.key
  | [], _ => .nil
  | [x], _ => .cons (fun _ h => by cases h) .nil
  | x :: y :: r, hp => by
    obtain ⟨h1, h2⟩ := List.pairwise_cons.1 hp
    have ih := lstR_asc (y :: r) h2
    unfold lstR
    split
    · exact ih
    · rename_i e
      refine .cons (fun z hz => ?_) ih
      have hz := lstR_sub _ z hz
      have hxy := h1 y (by simp)
      rcases List.mem_cons.1 hz with rfl | hz
      · omega
      · have := (List.pairwise_cons.1 h2).1 z hz; omega
theorem fnd_some_mem {l : List It} {k : Int} {x : It} (h : fnd l k = some x) : x ∈ l ∧ x.key = k := by
  unfold fnd at h
  exact ⟨List.mem_of_find?_eq_some h, by simpa using List.find?_some h⟩
theorem fnd_none_of {l : List It} {k : Int} (h : ∀ x ∈ l, x.key ≠ k) : fnd l k = none := by
  unfold fnd
  rw [List.find?_eq_none]
  intro x hx; simpa using h x hx
/-- Two ascending lists with the same item for each key are one list. -/
theorem asc_ext : ∀ (u v : List It), (u.Pairwise fun a b => a.key < b.key) → (v.Pairwise fun a b => a.key < b.key) → (∀ k, fnd u k = fnd v k) → u = v
  | [], [], _, _, _ => rfl
  | [], y :: v, _, _, h => by
    have := h y.key
    rw [fnd_nil, fnd_cons, if_pos rfl] at this; cases this
  | x :: u, [], _, _, h => by
    have := h x.key
    rw [fnd_nil, fnd_cons, if_pos rfl] at this; cases this
  | x :: u, y :: v, hu, hv, h => by
    obtain ⟨u1, u2⟩ := List.pairwise_cons.1 hu
    obtain ⟨v1, v2⟩ := List.pairwise_cons.1 hv
    have hx := h x.key
    rw [fnd_cons, if_pos rfl] at hx
    have hy := h y.key
    rw [fnd_cons (y := y), if_pos rfl] at hy
    have m1 := fnd_some_mem hx.symm
    have m2 := fnd_some_mem hy
    have e : x.key = y.key := by
      rcases List.mem_cons.1 m1.1 with e | m1
      · rw [e]
      · have := v1 _ m1
        rcases List.mem_cons.1 m2.1 with e | m2
        · rw [e]
        · have := u1 _ m2; omega
    have exy : x = y := by
      rw [fnd_cons, if_pos e.symm] at hx
      exact Option.some.inj hx
    subst exy
    congr 1
    refine asc_ext u v u2 v2 fun k => ?_
    by_cases hk : x.key = k
    · rw [fnd_none_of fun z hz => by have := u1 z hz; omega, fnd_none_of fun z hz => by have := v1 z hz; omega]
    · have := h k
      rwa [fnd_cons, fnd_cons, if_neg hk, if_neg hk] at this
theorem fnd_foldl : ∀ (l out : List It) (k : Int), fnd (l.foldl ins out) k = match (l.filter fun y => y.key == k).getLast? with | some x => some x | none => fnd out k
  | [], out, k => rfl
  | x :: l, out, k => by
    rw [List.foldl_cons, fnd_foldl l (ins out x) k, List.filter_cons]
    by_cases h : x.key = k
    · rw [if_pos (by simp [h])]
      by_cases h0 : l.filter (fun y => y.key == k) = []
      · rw [h0]
        show fnd (ins out x) k = some x
        rw [← h]; exact fnd_ins_self x out
      · rw [last_cons x h0]
        cases e : (l.filter fun y => y.key == k).getLast? with
        | none => rw [List.getLast?_eq_none_iff] at e; exact absurd e h0
        | some y => rfl
    · rw [if_neg (by simp [h]), fnd_ins_other x k (Ne.symm h)]
theorem fnd_srt (l : List It) (k : Int) : fnd (srt l) k = (l.filter fun y => y.key == k).getLast? := by
  unfold srt
  rw [fnd_foldl]
  cases (l.filter fun y => y.key == k).getLast? <;> rfl
/-- What stays of a stably sorted list is the sorted list. -/
theorem lstR_srt {l d : List It} (h : stb l d) (hn : NdI d 0 d.length) : lstR d = srt l := by
  have hp := ndL_of hn
  refine asc_ext _ _ (lstR_asc d hp) (ascR_pw ((ascR_iff _).2 (srt_asc l))) fun k => ?_
  rw [fnd_lstR d hp, fnd_srt, h k]
theorem drop_cons {d : List It} {i : Nat} (h : i < d.length) : d.drop i = iat d i :: d.drop (i + 1) := by
  rw [List.drop_eq_getElem_cons h, iat_get h]
theorem lstR_end {d : List It} {i : Nat} (h : i + 1 = d.length) : lstR (d.drop i) = [iat d i] ++ lstR (d.drop (i + 1)) := by
  rw [drop_cons (by omega), List.drop_eq_nil_of_le (by omega)]; rfl
theorem lstR_keep {d : List It} {i : Nat} (h : i + 1 < d.length) (hk : (iat d (i + 1)).key ≠ (iat d i).key) : lstR (d.drop i) = [iat d i] ++ lstR (d.drop (i + 1)) := by
  rw [drop_cons (show i < d.length by omega), drop_cons h]
  conv => lhs; unfold lstR
  rw [if_neg hk]; rfl
theorem lstR_skip {d : List It} {i : Nat} (h : i + 1 < d.length) (hk : (iat d (i + 1)).key = (iat d i).key) : lstR (d.drop i) = lstR (d.drop (i + 1)) := by
  rw [drop_cons (show i < d.length by omega), drop_cons h]
  conv => lhs; unfold lstR
  rw [if_pos hk]
/-! ### Blocks -/
/-- Within each block of bs the keys do not fall, between lo and hi. -/
def Blk (d : List It) (bs lo hi : Nat) : Prop := ∀ k i j, lo ≤ i → i < j → j < hi → k * bs ≤ i → j < k * bs + bs → (iat d i).key ≤ (iat d j).key
theorem Blk.nd {d : List It} {bs lo hi k a b : Nat} (h : Blk d bs lo hi) (h1 : lo ≤ a) (h2 : b ≤ hi) (h3 : k * bs ≤ a) (h4 : b ≤ k * bs + bs) : NdI d a b := fun i j i1 ij j1 => h k i j (by omega) ij (by omega) (by omega) (by omega)
theorem Blk.sub {d : List It} {bs lo hi lo' hi' : Nat} (h : Blk d bs lo hi) (h1 : lo ≤ lo') (h2 : hi' ≤ hi) : Blk d bs lo' hi' := fun k i j i1 ij j1 a b => h k i j (by omega) ij (by omega) a b
theorem Blk.none (d : List It) (bs lo : Nat) : Blk d bs lo lo := fun k i j i1 ij j1 => by omega
theorem Blk.keep {d d' : List It} {bs lo hi a b : Nat} (h : Blk d bs lo hi) (m : Moved d d' a b) (hh : hi ≤ a ∨ b ≤ lo) : Blk d' bs lo hi := fun k i j i1 ij j1 p q => by
  rw [m.out (by omega), m.out (by omega)]; exact h k i j i1 ij j1 p q
theorem Blk.more {d : List It} {bs a b k : Nat} (h : Blk d bs 0 a) (hk : a = k * bs) (n : NdI d a b) : Blk d bs 0 b := fun c i j i1 ij j1 p q => by
  by_cases e : j < a
  · exact h c i j i1 ij e p q
  · have hc : k ≤ c := by
      rcases Nat.lt_or_ge c k with hc | hc
      · have := Nat.mul_le_mul_right bs (show c + 1 ≤ k by omega)
        rw [Nat.succ_mul] at this; omega
      · exact hc
    have := Nat.mul_le_mul_right bs hc
    exact n i j (by omega) ij j1
theorem Blk.whole {d : List It} {bs n : Nat} (h : Blk d bs 0 n) (hb : n ≤ bs) : NdI d 0 n := fun i j i1 ij j1 => h 0 i j i1 ij j1 (by omega) (by omega)
end Go.Proofs.YthomhflkldhdaaaGreatDoor

namespace Go.Proofs.YthomhflkldhdaaaGreatDoor

theorem kept_asc {s : List It} (gone : List Int) (h : Asc s) : Asc (kept gone s) :=
  (ascR_iff _).1 (pw_ascR (List.Pairwise.filter _ (ascR_pw ((ascR_iff _).2 h))))
theorem fnd_kept (gone : List Int) (k : Int) : ∀ s : List It, fnd (kept gone s) k = if gone.contains k then none else fnd s k
  | [] => by simp [kept, fnd]
  | x :: s => by
    have ih := fnd_kept gone k s
    unfold kept at ih ⊢
    rw [List.filter_cons]
    by_cases hx : x.key = k
    · cases hg : gone.contains k with
      | true => rw [hg] at ih; rw [if_neg (by rw [hx, hg]; simp), ih]; simp
      | false => rw [if_pos (by rw [hx, hg]; rfl), fnd_cons, fnd_cons, if_pos hx, if_pos hx]; simp
    · split
      · rw [fnd_cons, if_neg hx, ih, fnd_cons, if_neg hx]
      · rw [ih, fnd_cons, if_neg hx]
theorem srt_append (u v : List It) : srt (u ++ v) = v.foldl ins (srt u) := by unfold srt; rw [List.foldl_append]
/-- A key of the merged list. -/
theorem fnd_mrg (old fresh : List It) (gone : List Int) (k : Int) : fnd (mrg old fresh gone) k = match fnd (srt fresh) k with | some x => some x | none => if gone.contains k then none else fnd (srt old) k := by
  unfold mrg
  rw [srt_append, fnd_foldl, ← fnd_srt (srt fresh) k, srt_of_asc (srt_asc fresh), srt_of_asc (kept_asc gone (srt_asc old)), fnd_kept]
  cases fnd (srt fresh) k <;> rfl
theorem mrg_asc (old fresh : List It) (gone : List Int) : Asc (mrg old fresh gone) := srt_asc _
theorem mrg_valid {old fresh : List It} (gone : List Int) (h1 : vldB old = true) (h2 : vldB fresh = true) : vldB (mrg old fresh gone) = true := by
  rw [vldB_iff] at h1 h2 ⊢
  refine ⟨srt_asc _, srt_all fun x hx => ?_⟩
  rcases List.mem_append.1 hx with hx | hx
  · exact srt_all h1.2 x (List.mem_filter.1 hx).1
  · exact srt_all h2.2 x hx
theorem mrg_length (old fresh : List It) (gone : List Int) : (mrg old fresh gone).length ≤ old.length + fresh.length := by
  unfold mrg
  have := srt_length (kept gone (srt old) ++ srt fresh)
  rw [List.length_append] at this
  have := kept_length gone (srt old)
  have := srt_length old
  have := srt_length fresh
  omega
theorem mrg_nil (l : List It) : mrg [] l [] = srt l := by
  unfold mrg
  rw [srt_nil]
  show srt ([] ++ srt l) = _
  rw [List.nil_append, srt_of_asc (srt_asc l)]
end Go.Proofs.YthomhflkldhdaaaGreatDoor

namespace Go.Proofs.YthomhflkldhdaaaGreatDoor

theorem fnd_ins' (s : List It) (x : It) (k : Int) : fnd (ins s x) k = if x.key = k then some x else fnd s k := by
  by_cases h : x.key = k
  · rw [if_pos h, ← h]; exact fnd_ins_self x s
  · rw [if_neg h]; exact fnd_ins_other x k (Ne.symm h) s
theorem fnd_drp' (s : List It) (key k : Int) : fnd (drp s key) k = if k = key then none else fnd s k := by
  by_cases h : k = key
  · rw [if_pos h, h]; exact fnd_drp_self s key
  · rw [if_neg h]; exact fnd_drp_other key k h s
theorem srt_snoc (u : List It) (x : It) : srt (u ++ [x]) = ins (srt u) x := by rw [srt_append]; rfl
def sumI (s : List It) : Nat := (s.map fun x => szN x.size.toNat).sum
theorem sumI_append (s t : List It) : sumI (s ++ t) = sumI s + sumI t := by simp [sumI]
theorem sumI_le (s : List It) : sumI s ≤ s.length * 4127 := by
  induction s with
  | nil => exact Nat.le_refl _
  | cons x l ih =>
    have := szN_le x.size.toNat
    show szN x.size.toNat + sumI l ≤ _
    rw [List.length_cons]; omega
theorem sumI_ins (x : It) : ∀ s : List It, fnd s x.key = none → sumI (ins s x) = sumI s + szN x.size.toNat
  | [], _ => by simp [ins, sumI]
  | y :: s, h => by
    rw [fnd_cons] at h
    by_cases e : y.key = x.key
    · rw [if_pos e] at h; cases h
    · rw [if_neg e] at h
      have ih := sumI_ins x s h
      simp only [ins]
      split
      · show szN y.size.toNat + sumI (ins s x) = szN y.size.toNat + sumI s + _
        omega
      · show szN x.size.toNat + (szN y.size.toNat + sumI s) = szN y.size.toNat + sumI s + _
        omega
end Go.Proofs.YthomhflkldhdaaaGreatDoor

namespace Go.Proofs.YthomhflkldhdaaaGreatDoor

theorem ins_low : ∀ (u v : List It) (x : It), (∀ z ∈ u, z.key < x.key) → ins (u ++ v) x = u ++ ins v x
  | [], _, _, _ => rfl
  | y :: u, v, x, h => by
    show ins (y :: (u ++ v)) x = y :: (u ++ ins v x)
    simp only [ins]
    rw [if_pos (h y (by simp)), ins_low u v x (fun z hz => h z (by simp [hz]))]
theorem ins_high : ∀ (u v : List It) (x : It), (∃ z ∈ u, x.key ≤ z.key) → ins (u ++ v) x = ins u x ++ v
  | [], _, _, h => by obtain ⟨z, hz, _⟩ := h; cases hz
  | y :: u, v, x, h => by
    show ins (y :: (u ++ v)) x = ins (y :: u) x ++ v
    simp only [ins]
    split
    · rename_i hlt
      rw [ins_high u v x (by
        obtain ⟨z, hz, hx⟩ := h
        rcases List.mem_cons.1 hz with rfl | hz
        · omega
        · exact ⟨z, hz, hx⟩)]
      rfl
    · split <;> rfl
theorem drp_snoc (u : List It) (y : It) (key : Int) : drp (u ++ [y]) key = drp u key ++ if y.key = key then [] else [y] := by
  unfold drp
  rw [List.filter_append]
  by_cases h : y.key = key
  · rw [if_pos h]; simp [h]
  · rw [if_neg h]; simp [h]
/-- Put under way. -/
structure PutW (s : List It) (x : It) (i : Nat) (done : Bool) (out : List It) : Prop where
  no : done = false → out = s.take i ∧ ∀ z ∈ s.take i, z.key < x.key
  yes : done = true → out = ins (s.take i) x ∧ ∃ j, j < i ∧ x.key ≤ (iat s j).key
theorem PutW.start (s : List It) (x : It) : PutW s x 0 false [] := ⟨fun _ => ⟨rfl, fun z hz => by cases hz⟩, fun h => by cases h⟩
theorem PutW.low {s out : List It} {x : It} {i : Nat} (h : PutW s x i false out) (hi : i < s.length) (hk : (iat s i).key < x.key) : PutW s x (i + 1) false (out ++ [iat s i]) := by
  obtain ⟨h1, h2⟩ := h.no rfl
  refine ⟨fun _ => ⟨by rw [take_snoc hi, h1], fun z hz => ?_⟩, fun h => by cases h⟩
  rw [take_snoc hi] at hz
  rcases List.mem_append.1 hz with hz | hz
  · exact h2 z hz
  · rw [List.mem_singleton.1 hz]; exact hk
theorem PutW.here {s out : List It} {x : It} {i : Nat} (h : PutW s x i false out) (hi : i < s.length) (hk : (iat s i).key = x.key) : PutW s x (i + 1) true (out ++ [x]) := by
  obtain ⟨h1, h2⟩ := h.no rfl
  refine ⟨(fun h => by cases h), fun _ => ⟨?_, i, by omega, by omega⟩⟩
  rw [take_snoc hi, ins_low _ _ _ h2, h1]
  simp only [ins]
  rw [if_neg (by omega), if_pos hk]
theorem PutW.ahead {s out : List It} {x : It} {i : Nat} (h : PutW s x i false out) (hi : i < s.length) (hk : x.key < (iat s i).key) : PutW s x (i + 1) true (out ++ [x] ++ [iat s i]) := by
  obtain ⟨h1, h2⟩ := h.no rfl
  refine ⟨(fun h => by cases h), fun _ => ⟨?_, i, by omega, by omega⟩⟩
  rw [take_snoc hi, ins_low _ _ _ h2, h1]
  simp only [ins]
  rw [if_neg (by omega), if_neg (by omega), List.append_assoc]; rfl
theorem PutW.gt {s out : List It} {x : It} {i : Nat} (h : PutW s x i true out) (ha : Asc s) (hi : i < s.length) : x.key < (iat s i).key := by
  obtain ⟨_, j, hj, hx⟩ := h.yes rfl
  exact Int.lt_of_le_of_lt hx (ha.mono hj hi)
theorem PutW.more {s out : List It} {x : It} {i : Nat} (h : PutW s x i true out) (hi : i < s.length) : PutW s x (i + 1) true (out ++ [iat s i]) := by
  obtain ⟨h1, j, hj, hx⟩ := h.yes rfl
  refine ⟨(fun h => by cases h), fun _ => ⟨?_, j, by omega, hx⟩⟩
  rw [take_snoc hi, ins_high _ _ _ ⟨iat s j, ?_, hx⟩, h1]
  have hm : iat (s.take i) j ∈ s.take i := iat_mem (by rw [List.length_take]; omega)
  rwa [iat_take hj] at hm
theorem PutW.end1 {s out : List It} {x : It} (h : PutW s x s.length true out) : out = ins s x := by
  have := (h.yes rfl).1
  rwa [List.take_length] at this
theorem PutW.end0 {s out : List It} {x : It} (h : PutW s x s.length false out) : out ++ [x] = ins s x := by
  obtain ⟨h1, h2⟩ := h.no rfl
  rw [List.take_length] at h1 h2
  rw [ins_last x s h2, h1]
theorem PutW.len {s out : List It} {x : It} {i : Nat} {b : Bool} (h : PutW s x i b out) : out.length ≤ i + 1 := by
  cases b with
  | false => rw [(h.no rfl).1, List.length_take]; omega
  | true =>
    have := ins_length x (s.take i)
    rw [(h.yes rfl).1]
    have h2 : (s.take i).length ≤ i := by rw [List.length_take]; omega
    omega
/-- The last item with a key. -/
theorem last_at {l : List It} {key : Int} {r : Nat} (h : r < l.length) (hk : (iat l r).key = key) (hn : ∀ j, r < j → j < l.length → (iat l j).key ≠ key) : fnd (srt l) key = some (iat l r) := by
  rw [fnd_srt]
  have e : l = l.take r ++ iat l r :: l.drop (r + 1) := by rw [← drop_cons h, List.take_append_drop]
  have h0 : (l.drop (r + 1)).filter (fun y => y.key == key) = [] := by
    rw [List.filter_eq_nil_iff]
    intro y hy
    obtain ⟨j, hj, rfl⟩ := mem_iat hy
    rw [iat_drop]
    rw [List.length_drop] at hj
    simpa using hn (r + 1 + j) (by omega) (by omega)
  conv => lhs; rw [e]
  rw [List.filter_append, List.filter_cons, if_pos (by simp [hk]), h0, List.getLast?_append]
  rfl
theorem last_none {l : List It} {key : Int} (hn : ∀ j, j < l.length → (iat l j).key ≠ key) : fnd (srt l) key = none := by
  rw [fnd_srt]
  have h0 : l.filter (fun y => y.key == key) = [] := by
    rw [List.filter_eq_nil_iff]
    intro y hy
    obtain ⟨j, hj, rfl⟩ := mem_iat hy
    simpa using hn j hj
  rw [h0]; rfl
def drps (s : List It) (gone : List Int) : List It := gone.foldl drp s
theorem drps_kept : ∀ (gone : List Int) (s : List It), drps s gone = kept gone s
  | [], s => by
    unfold drps kept
    rw [List.foldl_nil]
    symm
    rw [List.filter_eq_self]
    intro x _; rfl
  | g :: gone, s => by
    show drps (drp s g) gone = _
    rw [drps_kept gone]
    unfold kept drp
    rw [List.filter_filter]
    congr 1
    funext x
    rw [List.contains_cons, Bool.not_or, Bool.and_comm]
theorem drps_asc {s : List It} (h : Asc s) (gone : List Int) : Asc (drps s gone) := by rw [drps_kept]; exact kept_asc gone h
theorem drps_length (s : List It) (gone : List Int) : (drps s gone).length ≤ s.length := by rw [drps_kept]; exact kept_length gone s
theorem drps_snoc (s : List It) (gone : List Int) (k : Int) : drps s (gone ++ [k]) = drp (drps s gone) k := by unfold drps; rw [List.foldl_append]; rfl
def puts (s v : List It) : List It := v.foldl ins s
theorem puts_snoc (s v : List It) (x : It) : puts s (v ++ [x]) = ins (puts s v) x := by unfold puts; rw [List.foldl_append]; rfl
theorem puts_asc {s : List It} (h : Asc s) (v : List It) : Asc (puts s v) := (ascR_iff _).1 (foldl_asc v s ((ascR_iff _).2 h))
theorem puts_length (s : List It) : ∀ v : List It, (puts s v).length ≤ s.length + v.length
  | [] => Nat.le_refl _
  | x :: v => by
    have h1 := puts_length (ins s x) v
    have h2 := ins_length x s
    show (puts (ins s x) v).length ≤ _
    rw [List.length_cons]; omega
theorem mrg_puts (old fresh : List It) (gone : List Int) : puts (drps (srt old) gone) (srt fresh) = mrg old fresh gone := by
  unfold mrg
  rw [drps_kept, srt_append, srt_of_asc (kept_asc gone (srt_asc old))]; rfl
end Go.Proofs.YthomhflkldhdaaaGreatDoor

namespace Go.Proofs.YthomhflkldhdaaaGreatDoor

def strp (key : Int) : Nat := (key * 11400714819323198485 % 18446744073709551616 / 2305843009213693952).toNat
theorem strp_lt (key : Int) : strp key < 8 := by unfold strp; omega
structure Mp where
  st : Nat → List It
  live : Int
  garb : Int
/-- The first n stripes, one behind the other. -/
def cat (f : Nat → List It) : Nat → List It
  | 0 => []
  | n + 1 => cat f n ++ f n
def allM (M : Mp) : List It := cat M.st 8
def okS (M : Mp) (i : Nat) : Bool := vldB (M.st i) && (M.st i).all fun x => strp x.key == i
def vldM (M : Mp) : Bool := (List.range 8).all (okS M) && (M.live == (sumI (allM M) : Int)) && decide (0 ≤ M.garb) && decide (M.garb ≤ 1099511627776)
structure VldM (M : Mp) : Prop where
  ok : ∀ i, i < 8 → vldB (M.st i) = true
  sp : ∀ i, i < 8 → ∀ x ∈ M.st i, strp x.key = i
  lv : M.live = (sumI (allM M) : Int)
  g0 : 0 ≤ M.garb
  g1 : M.garb ≤ 1099511627776
theorem vldM_iff (M : Mp) : vldM M = true ↔ VldM M := by
  unfold vldM okS
  rw [Bool.and_eq_true, Bool.and_eq_true, Bool.and_eq_true, List.all_eq_true, decide_eq_true_eq, decide_eq_true_eq, beq_iff_eq]
  constructor
  · rintro ⟨⟨⟨h1, h2⟩, h3⟩, h4⟩
    have h := fun i (hi : i < 8) => Bool.and_eq_true_iff.1 (h1 i (List.mem_range.2 hi))
    exact ⟨fun i hi => (h i hi).1, fun i hi x hx => beq_iff_eq.1 (List.all_eq_true.1 (h i hi).2 x hx), h2, h3, h4⟩
  · rintro ⟨h1, h2, h3, h4, h5⟩
    exact ⟨⟨⟨fun i hi => Bool.and_eq_true_iff.2 ⟨h1 i (List.mem_range.1 hi), List.all_eq_true.2 fun x hx => beq_iff_eq.2 (h2 i (List.mem_range.1 hi) x hx)⟩, h3⟩, h4⟩, h5⟩
theorem pw_of {l : List It} (h : Asc l) : l.Pairwise fun a b => a.key < b.key := ascR_pw ((ascR_iff _).2 h)
theorem vld_asc {l : List It} (h : vldB l = true) : Asc l := (vldB_iff.1 h).1
theorem fnd_mem' {l : List It} (h : Asc l) {y : It} (hy : y ∈ l) : fnd l y.key = some y := by
  have hp := pw_of h
  clear h
  induction l with
  | nil => cases hy
  | cons x l ih =>
    rw [List.pairwise_cons] at hp
    rw [fnd_cons]
    rcases List.mem_cons.1 hy with rfl | hy
    · rw [if_pos rfl]
    · rw [if_neg (by have := hp.1 y hy; omega)]; exact ih hy hp.2
theorem fnd_none_iff {l : List It} {k : Int} (h : fnd l k = none) : ∀ x ∈ l, x.key ≠ k := fun x hx => by
  unfold fnd at h
  rw [List.find?_eq_none] at h
  simpa using h x hx
/-- One list laid upon another. -/
theorem fnd_lay (s : List It) (k : Int) : ∀ n (v : List It), v.length = n → fnd (v.foldl ins s) k = match fnd (srt v) k with | some x => some x | none => fnd s k
  | 0, v, h => by rw [List.length_eq_zero_iff.1 h]; rfl
  | n + 1, v, h => by
    obtain ⟨u, y, rfl⟩ : ∃ u y, v = u ++ [y] := by
      have hv : v ≠ [] := fun e => by rw [e] at h; cases h
      exact ⟨v.dropLast, v.getLast hv, (List.dropLast_concat_getLast hv).symm⟩
    have ih := fnd_lay s k n u (by rw [List.length_append] at h; simpa using h)
    rw [List.foldl_append, srt_snoc]
    show fnd (ins (u.foldl ins s) y) k = _
    rw [fnd_ins', fnd_ins', ih]
    by_cases e : y.key = k
    · rw [if_pos e, if_pos e]
    · rw [if_neg e, if_neg e]
theorem fnd_app (u v : List It) (k : Int) : fnd (srt (u ++ v)) k = match fnd (srt v) k with | some x => some x | none => fnd (srt u) k := by
  rw [srt_append]; exact fnd_lay (srt u) k _ v rfl
/-- What a key has among the first n stripes. -/
theorem fnd_cat (f : Nat → List It) (k : Int) : ∀ n, (∀ i, i < n → Asc (f i) ∧ ∀ x ∈ f i, strp x.key = i) → fnd (srt (cat f n)) k = if strp k < n then fnd (f (strp k)) k else none
  | 0, _ => by rw [if_neg (by omega)]; rfl
  | n + 1, h => by
    have ih := fnd_cat f k n (fun i hi => h i (by omega))
    obtain ⟨ha, hs⟩ := h n (by omega)
    show fnd (srt (cat f n ++ f n)) k = _
    rw [fnd_app, srt_of_asc ha, ih]
    by_cases e : strp k = n
    · rw [if_neg (show ¬ strp k < n by omega), if_pos (show strp k < n + 1 by omega), e]
      cases fnd (f n) k <;> rfl
    · have hn : fnd (f n) k = none := fnd_none_of fun x hx e2 => e (by rw [← e2]; exact hs x hx)
      rw [hn]
      by_cases hl : strp k < n
      · rw [if_pos hl, if_pos (by omega)]
      · rw [if_neg hl, if_neg (by omega)]
theorem VldM.fnd {M : Mp} (h : VldM M) (k : Int) : fnd (srt (allM M)) k = fnd (M.st (strp k)) k := by
  have := fnd_cat M.st k 8 (fun i hi => ⟨vld_asc (h.ok i hi), h.sp i hi⟩)
  rw [if_pos (strp_lt k)] at this
  exact this
theorem fnd_filter (p : It → Bool) (b : Bool) (k : Int) (hp : ∀ x : It, x.key = k → p x = b) : ∀ l : List It, fnd (l.filter p) k = if b then fnd l k else none
  | [] => by cases b <;> rfl
  | x :: l => by
    have ih := fnd_filter p b k hp l
    by_cases e : x.key = k
    · rw [List.filter_cons, hp x e]
      cases b
      · simpa using ih
      · simp only [if_true]; rw [fnd_cons, fnd_cons, if_pos e, if_pos e]
    · rw [List.filter_cons]
      split
      · rw [fnd_cons, if_neg e, ih, fnd_cons, if_neg e]
      · rw [ih, fnd_cons, if_neg e]
def inS (i : Nat) (l : List It) : List It := l.filter fun x => strp x.key == i
theorem fnd_inS (i : Nat) (l : List It) (k : Int) : fnd (inS i l) k = if strp k = i then fnd l k else none := by
  have := fnd_filter (fun x => strp x.key == i) (decide (strp k = i)) k (fun x e => by rw [e]; by_cases h : strp k = i <;> simp [h]) l
  unfold inS
  rw [this]
  by_cases h : strp k = i <;> simp [h]
theorem inS_asc (i : Nat) {l : List It} (h : Asc l) : (inS i l).Pairwise fun a b => a.key < b.key := (pw_of h).filter _
theorem inS_ok (i : Nat) (l : List It) : ∀ x ∈ inS i l, strp x.key = i := fun x hx => by simpa using (List.mem_filter.1 hx).2
/-- A stripe is what the whole list has of it. -/
theorem VldM.inS {M : Mp} (h : VldM M) {i : Nat} (hi : i < 8) : inS i (srt (allM M)) = M.st i := by
  refine asc_ext _ _ (inS_asc i (srt_asc _)) (pw_of (vld_asc (h.ok i hi))) fun k => ?_
  rw [fnd_inS, h.fnd]
  by_cases e : strp k = i
  · rw [if_pos e, e]
  · rw [if_neg e]
    exact (fnd_none_of fun x hx e2 => e (by rw [← e2]; exact h.sp i hi x hx)).symm
theorem inS_ins {l : List It} (h : Asc l) (x : It) (i : Nat) : inS i (ins l x) = if strp x.key = i then ins (inS i l) x else inS i l := by
  have hp := inS_asc i h
  refine asc_ext _ _ ((ascR_pw (ins_asc _ _ ((ascR_iff _).2 h))).filter _) ?_ fun k => ?_
  · split
    · exact ascR_pw (ins_asc _ _ (pw_ascR hp))
    · exact hp
  · rw [fnd_inS, fnd_ins']
    by_cases e : strp x.key = i
    · rw [if_pos e, fnd_ins', fnd_inS]
      by_cases e2 : x.key = k
      · rw [if_pos e2, if_pos (show strp k = i by rw [← e2]; exact e), if_pos e2]
      · rw [if_neg e2, if_neg e2]
    · rw [if_neg e, fnd_inS]
      by_cases e2 : x.key = k
      · rw [if_neg (by rw [← e2]; exact e), if_neg (by rw [← e2]; exact e)]
      · rw [if_neg e2]
theorem inS_drp {l : List It} (h : Asc l) (key : Int) (i : Nat) : inS i (drp l key) = if strp key = i then drp (inS i l) key else inS i l := by
  have hp := inS_asc i h
  refine asc_ext _ _ ((pw_of (drp_asc h key)).filter _) ?_ fun k => ?_
  · split
    · exact hp.filter _
    · exact hp
  · rw [fnd_inS, fnd_drp']
    by_cases e : strp key = i
    · rw [if_pos e, fnd_drp', fnd_inS]
      by_cases e2 : k = key
      · rw [if_pos e2, if_pos (show strp k = i by rw [e2]; exact e), if_pos e2]
      · rw [if_neg e2, if_neg e2]
    · rw [if_neg e, fnd_inS]
      by_cases e2 : k = key
      · rw [if_neg (by rw [e2]; exact e), if_neg (by rw [e2]; exact e)]
      · rw [if_neg e2]
/-! ### Bytes -/
def szO : Option It → Nat
  | some y => szN y.size.toNat
  | none => 0
theorem sumI_put (x : It) : ∀ s : List It, Asc s → sumI (ins s x) + szO (fnd s x.key) = sumI s + szN x.size.toNat := fun s h => by
  have hp := pw_of h
  clear h
  induction s with
  | nil => simp [ins, sumI, szO, fnd]
  | cons y s ih =>
    rw [List.pairwise_cons] at hp
    have ih := ih hp.2
    rw [fnd_cons]
    simp only [ins]
    split
    · rename_i hlt
      rw [if_neg (by omega)]
      show szN y.size.toNat + sumI (ins s x) + _ = szN y.size.toNat + sumI s + _
      omega
    · split
      · rename_i hle he
        show szN x.size.toNat + sumI s + szN y.size.toNat = szN y.size.toNat + sumI s + _
        omega
      · rename_i hle he
        have : fnd s x.key = none := fnd_none_of fun z hz e => by have := hp.1 z hz; omega
        rw [this]
        show szN x.size.toNat + (szN y.size.toNat + sumI s) + 0 = szN y.size.toNat + sumI s + _
        omega
theorem sumI_drp (key : Int) : ∀ s : List It, Asc s → sumI (drp s key) + szO (fnd s key) = sumI s := fun s h => by
  have hp := pw_of h
  clear h
  induction s with
  | nil => rfl
  | cons y s ih =>
    rw [List.pairwise_cons] at hp
    have ih := ih hp.2
    rw [fnd_cons]
    by_cases e : y.key = key
    · have hn : drp s key = s := by
        unfold drp
        rw [List.filter_eq_self]
        intro z hz
        have := hp.1 z hz
        have : z.key ≠ key := by omega
        simpa using this
      have : drp (y :: s) key = s := by rw [← hn]; unfold drp; rw [List.filter_cons, if_neg (by simpa using e), List.filter_filter]; simp
      rw [if_pos e, this]
      show sumI s + szN y.size.toNat = szN y.size.toNat + sumI s
      omega
    · have : drp (y :: s) key = y :: drp s key := by unfold drp; rw [List.filter_cons, if_pos (by simpa using e)]
      rw [if_neg e, this]
      show szN y.size.toNat + sumI (drp s key) + _ = szN y.size.toNat + sumI s
      omega
theorem sumI_lay : ∀ (v s : List It), Asc s → (v.Pairwise fun a b => a.key < b.key) → (∀ x ∈ v, fnd s x.key = none) → sumI (v.foldl ins s) = sumI s + sumI v
  | [], s, _, _, _ => by simp [sumI]
  | x :: v, s, hs, hv, hn => by
    rw [List.pairwise_cons] at hv
    have h1 := sumI_put x s hs
    rw [hn x (by simp)] at h1
    show sumI (v.foldl ins (ins s x)) = _
    rw [sumI_lay v (ins s x) ((ascR_iff _).1 (ins_asc _ _ ((ascR_iff _).2 hs))) hv.2 (fun y hy => by
      rw [fnd_ins', if_neg (by have := hv.1 y hy; omega)]; exact hn y (by simp [hy]))]
    show _ = sumI s + (szN x.size.toNat + sumI v)
    simp only [szO] at h1
    omega
theorem sumI_cat (f : Nat → List It) : ∀ n, (∀ i, i < n → Asc (f i) ∧ ∀ x ∈ f i, strp x.key = i) → sumI (srt (cat f n)) = sumI (cat f n)
  | 0, _ => rfl
  | n + 1, h => by
    have ih := sumI_cat f n (fun i hi => h i (by omega))
    obtain ⟨ha, hs⟩ := h n (by omega)
    show sumI (srt (cat f n ++ f n)) = sumI (cat f n ++ f n)
    rw [srt_append, sumI_lay _ _ (srt_asc _) (pw_of ha) (fun x hx => by
      rw [fnd_cat f x.key n (fun i hi => h i (by omega)), if_neg (by rw [hs x hx]; omega)]), sumI_append, ih]
theorem VldM.sum {M : Mp} (h : VldM M) : sumI (srt (allM M)) = sumI (allM M) := sumI_cat M.st 8 fun i hi => ⟨vld_asc (h.ok i hi), h.sp i hi⟩
end Go.Proofs.YthomhflkldhdaaaGreatDoor

namespace Go.Proofs.YthomhflkldhdaaaGreatDoor
open Go.RowKit

/-- An item in the cells of block b. -/
structure BoxT (w : World) (b : Nat) (x : It) : Prop where
  c0 : w.cell? ⟨b, 0, none⟩ = some (.int .u64 x.key)
  c1 : w.cell? ⟨b, 1, none⟩ = some (.int .u32 x.ck)
  c2 : w.cell? ⟨b, 2, none⟩ = some (.int .i64 x.off)
  c3 : w.cell? ⟨b, 3, none⟩ = some (.int .i64 x.size)
theorem BoxT.below {w w' : World} {b : Nat} {x : It} (h : BoxT w b x) (hb : Below w.heap.size w w') : BoxT w' b x :=
  ⟨Below.keeps hb _ _ h.c0, Below.keeps hb _ _ h.c1, Below.keeps hb _ _ h.c2, Below.keeps hb _ _ h.c3⟩
abbrev boxC (x : It) : Obj := .cells #[.int .u64 x.key, .int .u32 x.ck, .int .i64 x.off, .int .i64 x.size] 41
theorem BoxT.new (w : World) (x : It) : BoxT (w.alloc (boxC x)) w.heap.size x := ⟨by simp, by simp, by simp, by simp⟩
theorem below_box (w : World) (x : It) : Below w.heap.size w (w.alloc (boxC x)) := (Below.refl _ _).alloc (Nat.le_refl _) _
theorem BoxT.set {w : World} {b : Nat} {x : It} (h : BoxT w b x) (y : It) : BoxT ((((w.setCell ⟨b, 0, none⟩ (.int .u64 y.key)).setCell ⟨b, 1, none⟩ (.int .u32 y.ck)).setCell ⟨b, 2, none⟩ (.int .i64 y.off)).setCell ⟨b, 3, none⟩ (.int .i64 y.size)) b y := by
  obtain ⟨h0, h1, h2, h3⟩ := h
  exact ⟨by simp [go_sem, h0], by simp [go_sem, h1], by simp [go_sem, h2], by simp [go_sem, h3]⟩
theorem own_ne {w : World} {B B' : Nat} {e e' : TypeId} {size size' n n' : Nat} {v v' : Value} {xs xs' : List Value} (h : w.ownsRow B e size v n xs) (h' : w.ownsRow B' e' size' v' n' xs') (hne : e ≠ e') : v.ownBlock = none ∨ v.ownBlock ≠ v'.ownBlock := by
  cases hv : v.ownBlock with
  | none => exact .inl rfl
  | some g =>
    refine .inr fun he => ?_
    obtain ⟨c, fz, h1⟩ := Lib.ownsRow_kind h g hv
    obtain ⟨c', fz', h2⟩ := Lib.ownsRow_kind h' g he.symm
    rw [h1] at h2
    injection h2 with h2
    injection h2 with _ h3
    exact hne h3
end Go.Proofs.YthomhflkldhdaaaGreatDoor

namespace Go.Proofs.YthomhflkldhdaaaGreatDoor
open Go.RowKit

theorem nsizeB (n : Nat) (w : World) : Calls Tryz.prog 71 #[.int .i64 (n : Int)] w fun e w' => e = .returned (.int .i64 ((szN n : Nat) : Int)) ∧ w = w' := by
  by_cases hn : n ≤ 4096
  · have HS := Lib.hid (show ((szN n : Nat) : Int) = (20 + (n : Int) + 4 + 8 - 1) / 8 * 8 by unfold szN nsz; rw [if_pos hn]; omega)
    have hd : decide ((4096 : Int) < (n : Int)) = false := by simp; omega
    have hd2 : decide ((n : Int) < 0) = false := by simp
    go_enter Tryz.func71, Tryz.ntmps71
    go_wp2_with fail
    go_ret
    exact ⟨ret_int (by rw [HS.out]), rfl⟩
  · have HS := Lib.hid (show szN n = 0 by unfold szN; rw [if_neg hn])
    have hd : decide ((4096 : Int) < (n : Int)) = true := by simp; omega
    have hd2 : decide ((n : Int) < 0) = false := by simp
    go_enter Tryz.func71, Tryz.ntmps71
    go_wp2_with fail
    go_ret
    exact ⟨ret_int (by rw [HS.out]; rfl), rfl⟩
theorem rsizeB (n : Nat) (w : World) : Calls Tryz.prog 51 #[.int .i64 (n : Int)] w fun e w' => e = .returned (.int .i64 ((szN n : Nat) : Int)) ∧ w = w' := by
  by_cases hn : n ≤ 4096
  · have HS := Lib.hid (show ((szN n : Nat) : Int) = (20 + (n : Int) + 4 + 8 - 1) / 8 * 8 by unfold szN nsz; rw [if_pos hn]; omega)
    have hd : decide ((4096 : Int) < (n : Int)) = false := by simp; omega
    have hd2 : decide ((n : Int) < 0) = false := by simp
    go_enter Tryz.func51, Tryz.ntmps51
    go_wp2_with fail
    go_ret
    exact ⟨ret_int (by rw [HS.out]; omega), rfl⟩
  · have HS := Lib.hid (show szN n = 0 by unfold szN; rw [if_neg hn])
    have hd : decide ((4096 : Int) < (n : Int)) = true := by simp; omega
    have hd2 : decide ((n : Int) < 0) = false := by simp
    go_enter Tryz.func51, Tryz.ntmps51
    go_wp2_with fail
    go_ret
    exact ⟨ret_int (by rw [HS.out]; rfl), rfl⟩
end Go.Proofs.YthomhflkldhdaaaGreatDoor

namespace Go.Proofs.YthomhflkldhdaaaGreatDoor.Fx
open Ieee

/-- The word of a whole number. -/
def fb (n : Int) : Nat := FloatKind.f64.nearest n
/-- Few enough digits. -/
def Small (n : Int) : Prop := n.natAbs < 2 ^ 53
theorem p52 : (2 : Nat) ^ 52 = 4503599627370496 := rfl
theorem p53 : (2 : Nat) ^ 53 = 9007199254740992 := rfl
theorem p63 : (2 : Nat) ^ 63 = 9223372036854775808 := rfl
theorem infR : double.infRung = 9218868437227405312 := rfl
theorem binR : double.binade = 4503599627370496 := rfl
theorem sigR : double.signWeight = 9223372036854775808 := rfl
theorem log2_mul (a k : Nat) (h : 0 < a) : (a * 2 ^ k).log2 = a.log2 + k := by
  have ha : a ≠ 0 := by omega
  have hp : 0 < 2 ^ k := Nat.two_pow_pos k
  have hm : a * 2 ^ k ≠ 0 := Nat.mul_ne_zero ha (by omega)
  refine Nat.le_antisymm ?_ ?_
  · refine Nat.lt_succ_iff.1 ((Nat.log2_lt hm).2 ?_)
    rw [show (a.log2 + k).succ = (a.log2 + 1) + k by omega, Nat.pow_add]
    exact Nat.mul_lt_mul_of_pos_right ((Nat.log2_lt ha).1 (Nat.lt_succ_self _)) hp
  · refine (Nat.le_log2 hm).2 ?_
    rw [Nat.pow_add]
    exact Nat.mul_le_mul_right _ ((Nat.le_log2 ha).1 (Nat.le_refl _))
theorem log2_le {a : Nat} (h : 0 < a) (hs : a < 2 ^ 53) : a.log2 ≤ 52 := Nat.lt_succ_iff.1 ((Nat.log2_lt (by omega)).2 hs)
theorem full {a : Nat} (h : 0 < a) (hs : a < 2 ^ 53) : 2 ^ 52 ≤ a * 2 ^ (52 - a.log2) ∧ a * 2 ^ (52 - a.log2) < 2 ^ 53 := by
  have hl := log2_le h hs
  have h1 := (Nat.le_log2 (n := a) (by omega)).1 (Nat.le_refl _)
  have h2 := (Nat.log2_lt (n := a) (by omega)).1 (Nat.lt_succ_self _)
  have hp : 0 < 2 ^ (52 - a.log2) := Nat.two_pow_pos _
  refine ⟨?_, ?_⟩
  · have := Nat.mul_le_mul_right (2 ^ (52 - a.log2)) h1
    rwa [← Nat.pow_add, show a.log2 + (52 - a.log2) = 52 by omega] at this
  · have := Nat.mul_lt_mul_of_pos_right h2 hp
    rwa [← Nat.pow_add, show a.log2.succ + (52 - a.log2) = 53 by omega] at this
theorem cut_exact (way : Toward) (neg : Bool) (b k : Nat) (h : k ≤ (b * 2 ^ k).log2 + 2 ∨ b = 0) : way.cut neg (b * 2 ^ k) k = b := by
  unfold Toward.cut
  rcases h with h | h
  · rw [Nat.min_eq_left h, Nat.shiftLeft_eq, Nat.one_mul]
    have hp : 0 < 2 ^ k := Nat.two_pow_pos k
    simp only [Nat.mul_div_cancel _ hp, Nat.mul_mod_left]
    cases way <;> cases neg <;> simp <;> omega
  · subst h
    rw [Nat.zero_mul]
    have hp : 0 < 1 <<< min k (Nat.log2 0 + 2) := by rw [Nat.shiftLeft_eq, Nat.one_mul]; exact Nat.two_pow_pos _
    simp only [Nat.zero_div, Nat.zero_mod]
    cases way <;> cases neg <;> simp <;> omega
/-- The rung of a whole number. -/
def rung (a : Nat) : Nat := (a.log2 + 1022) * 2 ^ 52 + a * 2 ^ (52 - a.log2)
theorem nearest_pos (neg : Bool) (a k : Nat) (h : 0 < a) (hs : a < 2 ^ 53) : double.nearest neg (a * 2 ^ k) (-(k : Int)) = double.word neg (rung a) := by
  have hl := log2_le h hs
  have hf := full h hs
  have hm : a * 2 ^ k ≠ 0 := Nat.mul_ne_zero (by omega) (by have := Nat.two_pow_pos k; omega)
  unfold Format.nearest
  rw [if_neg hm]
  have hlp : double.leastPlace = -1074 := by decide
  have hb : double.binade = 2 ^ 52 := rfl
  have hlog := log2_mul a k h
  have hfr : double.fractionBits = 52 := rfl
  have hlast : max (-(k : Int) + ((a * 2 ^ k).log2 : Int) - (double.fractionBits : Int)) double.leastPlace = (a.log2 : Int) - 52 := by
    rw [hlog, hlp, hfr]; omega
  have hkept : Toward.even.cut neg ((a * 2 ^ k) <<< (-(k : Int) - ((a.log2 : Int) - 52)).toNat) ((a.log2 : Int) - 52 - -(k : Int)).toNat = a * 2 ^ (52 - a.log2) := by
    rw [Nat.shiftLeft_eq]
    by_cases hc : k + a.log2 ≤ 52
    · have e1 : (-(k : Int) - ((a.log2 : Int) - 52)).toNat = 52 - a.log2 - k := by omega
      have e2 : ((a.log2 : Int) - 52 - -(k : Int)).toNat = 0 := by omega
      rw [e1, e2, Nat.mul_assoc, ← Nat.pow_add, show k + (52 - a.log2 - k) = 52 - a.log2 by omega]
      have := cut_exact .even neg (a * 2 ^ (52 - a.log2)) 0 (.inl (by omega))
      rwa [Nat.pow_zero, Nat.mul_one] at this
    · have e1 : (-(k : Int) - ((a.log2 : Int) - 52)).toNat = 0 := by omega
      have e2 : ((a.log2 : Int) - 52 - -(k : Int)).toNat = k - (52 - a.log2) := by omega
      rw [e1, e2, Nat.pow_zero, Nat.mul_one]
      have e3 : a * 2 ^ k = a * 2 ^ (52 - a.log2) * 2 ^ (k - (52 - a.log2)) := by
        rw [Nat.mul_assoc, ← Nat.pow_add, show 52 - a.log2 + (k - (52 - a.log2)) = k by omega]
      rw [e3]
      refine cut_exact .even neg _ _ (.inl ?_)
      rw [← e3, hlog]; omega
  simp only [hlast, hkept]
  have hr : ((a.log2 : Int) - 52 - double.leastPlace).toNat * double.binade + a * 2 ^ (52 - a.log2) = rung a := by
    rw [hlp, hb, show ((a.log2 : Int) - 52 - -1074).toNat = a.log2 + 1022 by omega]; rfl
  rw [hr, Nat.min_eq_left]
  rw [infR]
  unfold rung
  rw [p52, p53] at *
  omega
theorem fb_eq (n : Int) : fb n = double.nearest (decide (n < 0)) n.natAbs 0 := rfl
theorem wr (n : Int) (hs : Small n) (k : Nat) : double.nearest (decide (n < 0)) (n.natAbs * 2 ^ k) (-(k : Int)) = fb n := by
  rw [fb_eq]
  by_cases h0 : n = 0
  · subst h0
    unfold Format.nearest
    simp
  · have h := nearest_pos (decide (n < 0)) n.natAbs k (by omega) hs
    have h' := nearest_pos (decide (n < 0)) n.natAbs 0 (by omega) hs
    rw [Nat.pow_zero, Nat.mul_one] at h'
    rw [h]
    exact h'.symm
theorem read_word (neg : Bool) (r : Nat) (h1 : 4503599627370496 ≤ r) (h2 : r < 9218868437227405312) : double.read (double.word neg r) = .number neg (4503599627370496 + r % 4503599627370496) (-1074 + ((r / 4503599627370496 - 1 : Nat) : Int)) := by
  have hlp : double.leastPlace = -1074 := by decide
  have e1 : double.word neg r % 9223372036854775808 = r := by
    unfold Format.word
    rw [sigR]
    cases neg
    · simp only [Bool.false_eq_true, if_false]; omega
    · simp only [if_true]; omega
  have e2 : (double.word neg r / 9223372036854775808 % 2 == 1) = neg := by
    unfold Format.word
    rw [sigR]
    cases neg
    · simp only [Bool.false_eq_true, if_false]; rw [beq_eq_false_iff_ne]; omega
    · simp only [if_true]; rw [beq_iff_eq]; omega
  unfold Format.read
  simp only [sigR, binR, infR, e1, e2, hlp]
  rw [if_neg (by omega), if_pos h2]
theorem rd (n : Int) (hs : Small n) : ∃ k : Nat, double.read (fb n) = .number (decide (n < 0)) (n.natAbs * 2 ^ k) (-(k : Int)) := by
  by_cases h0 : n = 0
  · subst h0
    have e : double.read (fb 0) = .number false 0 (-1074) := rfl
    obtain ⟨K, hK⟩ : ∃ K : Nat, K = 1074 := ⟨_, rfl⟩
    refine ⟨K, ?_⟩
    rw [e, Int.natAbs_zero, Nat.zero_mul, hK]
    rfl
  · have ha : 0 < n.natAbs := by omega
    have hl := log2_le ha hs
    have hf := full ha hs
    have h := nearest_pos (decide (n < 0)) n.natAbs 0 ha hs
    rw [Nat.pow_zero, Nat.mul_one] at h
    have e : fb n = double.word (decide (n < 0)) (rung n.natAbs) := h
    have hr : rung n.natAbs = (n.natAbs.log2 + 1022) * 4503599627370496 + n.natAbs * 2 ^ (52 - n.natAbs.log2) := rfl
    rw [p52, p53] at hf
    have hg : ∃ k, k = 52 - n.natAbs.log2 := ⟨_, rfl⟩
    obtain ⟨k, hk⟩ := hg
    refine ⟨k, ?_⟩
    rw [← hk] at hf hr
    have hg : ∃ q, q = n.natAbs * 2 ^ k := ⟨_, rfl⟩
    obtain ⟨q, hq⟩ := hg
    rw [← hq] at hf hr ⊢
    clear hq h
    have e1 : 4503599627370496 + rung n.natAbs % 4503599627370496 = q := by rw [hr]; omega
    have e2 : -1074 + ((rung n.natAbs / 4503599627370496 - 1 : Nat) : Int) = -(k : Int) := by rw [hr]; omega
    rw [e, read_word _ _ (by rw [hr]; omega) (by rw [hr]; omega), e1, e2]
theorem signed_val (n : Int) (k up : Nat) : signed (decide (n < 0)) (n.natAbs * 2 ^ k) up = n * (2 ^ (k + up) : Nat) := by
  unfold signed
  rw [Nat.shiftLeft_eq, Nat.mul_assoc, ← Nat.pow_add]
  by_cases h : n < 0
  · rw [if_pos (by simpa using h), Int.natCast_mul]
    rw [show ((n.natAbs : Nat) : Int) = -n by omega, Int.neg_mul, Int.neg_neg]
  · rw [if_neg (by simpa using h), Int.natCast_mul]
    rw [show ((n.natAbs : Nat) : Int) = n by omega]
theorem add_fb (a b : Int) (ha : Small a) (hb : Small b) (hab : Small (a + b)) : double.add (fb a) (fb b) = some (fb (a + b)) := by
  obtain ⟨k, hk⟩ := rd a ha
  obtain ⟨j, hj⟩ := rd b hb
  unfold Format.add
  rw [hk, hj]
  show Option.map double.write (some _) = _
  rw [Option.map_some]
  congr 1
  have hmin : min (-(k : Int)) (-(j : Int)) = -((max k j : Nat) : Int) := by omega
  have e1 : (-(k : Int) - -((max k j : Nat) : Int)).toNat = max k j - k := by omega
  have e2 : (-(j : Int) - -((max k j : Nat) : Int)).toNat = max k j - j := by omega
  simp only [hmin, e1, e2, signed_val]
  rw [show k + (max k j - k) = max k j by omega, show j + (max k j - j) = max k j by omega, ← Int.add_mul]
  generalize max k j = M
  have hp : 0 < 2 ^ M := Nat.two_pow_pos M
  have hp' : (0 : Int) < ((2 ^ M : Nat) : Int) := by omega
  have hn : ((a + b) * ((2 ^ M : Nat) : Int)).natAbs = (a + b).natAbs * 2 ^ M := by rw [Int.natAbs_mul, Int.natAbs_natCast]
  rw [hn]
  have hsg : (if (a + b) * ((2 ^ M : Nat) : Int) = 0 then decide (a < 0) && decide (b < 0) else decide ((a + b) * ((2 ^ M : Nat) : Int) < 0)) = decide (a + b < 0) := by
    by_cases h0 : a + b = 0
    · rw [if_pos (by rw [h0, Int.zero_mul]), h0]
      by_cases h1 : a < 0
      · simp [h1]; omega
      · simp [h1]
    · rw [if_neg (Int.mul_ne_zero h0 (by omega))]
      refine decide_eq_decide.2 ⟨fun h => ?_, fun h => Int.mul_neg_of_neg_of_pos h hp'⟩
      by_cases h1 : a + b < 0
      · exact h1
      · have := Int.mul_nonneg (show 0 ≤ a + b by omega) (Int.le_of_lt hp'); omega
  rw [hsg]
  exact wr (a + b) hab M
theorem order_fb (a b : Int) (ha : Small a) (hb : Small b) : double.order (fb a) (fb b) = some (compare a b) := by
  obtain ⟨k, hk⟩ := rd a ha
  obtain ⟨j, hj⟩ := rd b hb
  unfold Format.order
  rw [hk, hj]
  have hmin : min (-(k : Int)) (-(j : Int)) = -((max k j : Nat) : Int) := by omega
  have e1 : (-(k : Int) - -((max k j : Nat) : Int)).toNat = max k j - k := by omega
  have e2 : (-(j : Int) - -((max k j : Nat) : Int)).toNat = max k j - j := by omega
  show some (compare _ _) = _
  simp only [hmin, e1, e2, signed_val]
  rw [show k + (max k j - k) = max k j by omega, show j + (max k j - j) = max k j by omega]
  generalize max k j = M
  have hp : 0 < 2 ^ M := Nat.two_pow_pos M
  have hp' : (0 : Int) < ((2 ^ M : Nat) : Int) := by omega
  congr 1
  show compareOfLessAndEq _ _ = compareOfLessAndEq _ _
  unfold compareOfLessAndEq
  have h1 : a * ((2 ^ M : Nat) : Int) < b * ((2 ^ M : Nat) : Int) ↔ a < b := ⟨fun h => Int.lt_of_mul_lt_mul_right h (Int.le_of_lt hp'), fun h => Int.mul_lt_mul_of_pos_right h hp'⟩
  have h2 : a * ((2 ^ M : Nat) : Int) = b * ((2 ^ M : Nat) : Int) ↔ a = b := ⟨fun h => Int.eq_of_mul_eq_mul_right (by omega) h, fun h => by rw [h]⟩
  simp only [h1, h2]
theorem toInt_fb (a : Int) (ha : Small a) : (double.read (fb a)).toInt .zero = some a := by
  obtain ⟨k, hk⟩ := rd a ha
  rw [hk]
  unfold Datum.toInt Datum.integral
  have e1 : (-(k : Int)).toNat = 0 := by omega
  have e2 : (- -(k : Int)).toNat = k := by omega
  simp only [e1, e2, Nat.shiftLeft_zero]
  have hc : Toward.zero.cut (decide (a < 0)) (a.natAbs * 2 ^ k) k = a.natAbs := by
    by_cases h0 : a.natAbs = 0
    · rw [h0]; exact cut_exact _ _ 0 k (.inr rfl)
    · exact cut_exact _ _ _ k (.inl (by rw [log2_mul _ _ (by omega)]; omega))
  rw [hc]
  have := signed_val a 0 0
  rw [Nat.pow_zero, Nat.mul_one] at this
  rw [this]; simp
end Go.Proofs.YthomhflkldhdaaaGreatDoor.Fx

namespace Go.Proofs.YthomhflkldhdaaaGreatDoor
open Go.RowKit

theorem copy_row {P : Program} {dT sT elem : TypeId} {sz bytes : Nat} (hE : ElemT P dT elem sz bytes) {w : World} {base : Nat} {e : TypeId} {n cap g : Nat} {xs : List Value} (h : w.ownsRow base e sz (.slice (some ⟨g, 0, none⟩) n cap) n xs)
    {sa : Option Addr} {m sc : Nat} {news : List Value} (hs : Rd w sz (.slice sa m sc) m news) (o dl dc k : Nat) (hk : k = Nat.min m dl) (h0 : 0 < k) (hsz : 0 < sz) (ho : o + k ≤ n) (h1 : ∀ u ∈ news.take (k * sz), u.oneCell' = true) :
    ∃ w', (∀ ty, (Builtin.copy_ #[dT, sT] ty #[.slice (some ⟨g, o * sz, none⟩) dl dc, .slice sa m sc]).run P w = .ok (.int .i64 (k : Int)) w') ∧
      w'.ownsRow base e sz (.slice (some ⟨g, 0, none⟩) n cap) n (xs.take (o * sz) ++ news.take (k * sz) ++ xs.drop (o * sz + k * sz)) ∧ w.grownBy w' (some g) := by
  obtain ⟨hl, a', cap', e1, _, _, _, hc⟩ := hs
  injection e1 with e1 e2 e3
  subst e1 e3
  have hkm : k ≤ m := by rw [hk]; exact Nat.min_le_left _ _
  have hlk : (news.take (k * sz)).length = k * sz := by rw [List.length_take, hl]; exact Nat.min_eq_left (Nat.mul_le_mul_right _ hkm)
  have hp : 0 < news.length := by rw [hl]; exact Nat.mul_pos (by omega) hsz
  obtain ⟨b, off, e4, hcell⟩ := hc hp
  subst e4
  obtain ⟨w', hrun, hown, hgr⟩ := own_write (P := P) h (o * sz) (news.take (k * sz)) (by rw [hlk, ← Nat.add_mul]; exact Nat.mul_le_mul_right _ ho) h1
  rw [hlk] at hown
  refine ⟨w', fun ty => ?_, hown, hgr⟩
  have hf := run_firstCells_some (P := P) (w := w) sz k ⟨b, off, none⟩ m sc (news.take (k * sz)) hlk (fun j v hj => by
    rw [addr_add]
    refine hcell j v ?_
    rw [List.getElem?_take] at hj
    split at hj
    · exact hj
    · cases hj)
  obtain ⟨ht, hZ⟩ := elem_of hE
  simp [Builtin.copy_, run_underlying ht, Builtin.lenOf, hZ, ← hk, hf, hrun, goInt]

theorem own_more {w : World} {base : Nat} {e : TypeId} {sz n cap g : Nat} {xs : List Value} (h : w.ownsRow base e sz (.slice (some ⟨g, 0, none⟩) n cap) n xs) (k : Nat) (hk : n + k ≤ cap) :
    ∃ ys, ys.length = k * sz ∧ w.ownsRow base e sz (.slice (some ⟨g, 0, none⟩) (n + k) cap) (n + k) (xs ++ ys) := by
  have hx := h.1
  rcases h.2 with ⟨h', _⟩ | ⟨g', cap', cur, h', hb, hg, hnc, hcm, hcs, htake⟩
  · cases h'
  · injection h' with h' _ h''
    injection h' with h'
    injection h' with h' _
    subst h' h''
    have hN : (n + k) * sz ≤ cur.toList.length := by rw [Array.length_toList, hcs]; exact Nat.mul_le_mul_right _ hk
    rw [Nat.add_mul] at hN
    refine ⟨(cur.toList.drop (n * sz)).take (k * sz), by rw [List.length_take, List.length_drop]; omega, ?_, .inr ⟨g, cap, cur, rfl, hb, hg, hk, hcm, hcs, ?_⟩⟩
    · rw [List.length_append, hx, List.length_take, List.length_drop, Nat.add_mul]; omega
    · rw [Nat.add_mul, List.take_add, htake]

theorem slice_own {P : Program} {t e : TypeId} {sz bytes : Nat} (hE : ElemT P t e sz bytes) (g n cap k : Nat) (hk : k ≤ n) (hc : k < cap) :
    ∀ W kl, (Instr.slice t (.slice (some ⟨g, 0, none⟩) n cap) (some (.int kl (k : Int))) none none).run P W = .ok (.slice (some ⟨g, k * sz, none⟩) (n - k) (cap - k)) W := by
  obtain ⟨h1, h2⟩ := elem_of hE
  intro W kl
  rw [run_slice_l W t (some ⟨g, 0, none⟩) n cap h1 kl (k : Int) (by omega) (by omega), h2]
  have : cap ≠ k := by omega
  simp [Result.andThen, sliced, this, addr_add]

theorem app_zeros {w : World} {B : Nat} {a : Option Addr} {n cap : Nat} {xs : List Value} (h : w.ownsRow B 41 4 (.slice a n cap) n xs) (i k : Nat) (hi : i ≤ n) (h0 : 0 < n) (hk : cap < i + k) (hs : i + k ≤ 1000001) :
    ∃ w' c', (∀ ty, (Builtin.append_ #[22, 3] ty #[.slice a i cap, .int .i64 (k : Int)]).run Tryz.prog w = .ok (.slice (some ⟨w.heap.size, 0, none⟩) (i + k) c') w') ∧
      w'.ownsRow w.heap.size 41 4 (.slice (some ⟨w.heap.size, 0, none⟩) (i + k) c') (i + k) (xs.take (i * 4) ++ itsC (List.replicate k it0)) ∧ Below w.heap.size w w' ∧ c' ≤ maxLen := by
  obtain ⟨x, hx⟩ : ∃ x, Tryz.prog.info? 41 = some x := by
    cases hq : Tryz.prog.info? 41 with
    | none => have := infoT; rw [hq] at this; cases this
    | some x => exact ⟨x, rfl⟩
  have hI := infoT
  rw [hx] at hI
  injection hI with hI
  injection hI with hz hI
  injection hI with hs4 hb32
  have hz : x.zero = some (itV it0) := hz
  have hcap : 0 < cap := by
    rcases h.2 with ⟨e, _⟩ | ⟨g, c, _, e, _, _, hnc, _⟩
    · injection e with _ e2 _; omega
    · injection e with _ _ e3; omega
  obtain ⟨hl0, a', cap', e1, _, _, _, hc⟩ := own_rd h
  injection e1 with e1 e2 e3
  subst e1 e3
  have hl : (xs.take (i * 4)).length = i * 4 := by rw [List.length_take, hl0]; exact Nat.min_eq_left (Nat.mul_le_mul_right _ hi)
  have hold : (Builtin.firstCells x.size i (.slice a i cap)).run Tryz.prog w.drew = .ok (xs.take (i * 4)).toArray w.drew := by
    obtain ⟨b, off, e4, hcell⟩ := hc (by rw [hl0]; omega)
    subst e4
    rw [hs4]
    refine run_firstCells_some (P := Tryz.prog) (w := w.drew) 4 i ⟨b, off, none⟩ i cap _ hl (fun j v hj => ?_)
    rw [addr_add]
    refine hcell j v ?_
    rw [List.getElem?_take] at hj
    split at hj
    · exact hj
    · cases hj
  have hnb : Builtin.nextslicecap (i + k) cap * x.bytes ≤ 281474976710656 := growslice_fits hk (by rw [hb32]; omega)
  have hr : ∀ ty, _ := fun ty => Lib.run_append_grow_zeros (P := Tryz.prog) w 22 3 ty 41 x (itV it0) .i64 .i64 Tryz.underlying22 Tryz.underlying3 hx hz a i cap (xs.take (i * 4)) hold k (by omega) (by rw [hs4]; decide) hk (by omega) (by rw [hb32]; omega) hnb
  refine ⟨_, _, hr, ?_, (Below.drew (Below.refl _ _)).alloc (Nat.le_refl _) _, grownCap_le_maxLen w (i + k) cap _ (by unfold maxLen; omega)⟩
  have hge := grownCap_ge w (i + k) cap 41
  have hcm : grownCap w (i + k) cap 41 ≤ maxLen := grownCap_le_maxLen w (i + k) cap _ (by unfold maxLen; omega)
  have hzl : (itsC (List.replicate k it0)).length = k * 4 := by rw [itsC_length, List.length_replicate]
  have hlen : (xs.take (i * 4) ++ itsC (List.replicate k it0)).length = (i + k) * 4 := by rw [List.length_append, hl, hzl, Nat.add_mul]
  refine ⟨hlen, .inr ⟨w.heap.size, _, _, rfl, Nat.le_refl _, heap_alloc_new w.drew _, hge, hcm, ?_, ?_⟩⟩
  · have z4 : (itV it0).cells.size = 4 := rfl
    simp only [Array.size_append, List.size_toArray, size_zeroCells, z4, hl, ← Nat.add_mul]
    rw [show i + k + (grownCap w (i + k) cap 41 - (i + k)) = grownCap w (i + k) cap 41 from by omega]
  · simp only [Array.toList_append]
    rw [zeros_cells, ← hlen]
    exact List.take_left

theorem ins_grow {xs z c : List Value} {n i : Nat} (hi : i ≤ n) (hx : xs.length = n * 4) (hz : z.length = (n + 1 - i) * 4) (hc : c.length = 4) :
    ((xs.take (i * 4) ++ z).take (i * 4) ++ c ++ (xs.take (i * 4) ++ z).drop (i * 4 + 4)).take ((i + 1) * 4) ++ xs.drop (i * 4) ++ ((xs.take (i * 4) ++ z).take (i * 4) ++ c ++ (xs.take (i * 4) ++ z).drop (i * 4 + 4)).drop ((i + 1) * 4 + (n - i) * 4) = xs.take (i * 4) ++ c ++ xs.drop (i * 4) := by
  have hl : (xs.take (i * 4)).length = i * 4 := by rw [List.length_take, hx]; omega
  have e1 : (xs.take (i * 4) ++ z).take (i * 4) = xs.take (i * 4) := List.take_left' hl
  have e2 : (xs.take (i * 4) ++ z).drop (i * 4 + 4) = z.drop 4 := by rw [← List.drop_drop, List.drop_left' hl]
  have l2 : (xs.take (i * 4) ++ c).length = (i + 1) * 4 := by rw [List.length_append, hl, hc]; omega
  have e3 : (xs.take (i * 4) ++ c ++ z.drop 4).drop ((i + 1) * 4 + (n - i) * 4) = [] := List.drop_of_length_le (by rw [List.length_append, l2, List.length_drop, hz]; omega)
  rw [e1, e2, List.take_left' l2, e3, List.append_nil]
theorem ins_place {xs ys c : List Value} {n i : Nat} (hi : i ≤ n) (hx : xs.length = n * 4) (hy : ys.length = 4) :
    ((xs ++ ys).take ((i + 1) * 4) ++ ((xs ++ ys).drop (i * 4)).take ((n - i) * 4) ++ (xs ++ ys).drop ((i + 1) * 4 + (n - i) * 4)).take (i * 4) ++ c ++ ((xs ++ ys).take ((i + 1) * 4) ++ ((xs ++ ys).drop (i * 4)).take ((n - i) * 4) ++ (xs ++ ys).drop ((i + 1) * 4 + (n - i) * 4)).drop (i * 4 + 4) = xs.take (i * 4) ++ c ++ xs.drop (i * 4) := by
  have ld : (xs.drop (i * 4)).length = (n - i) * 4 := by rw [List.length_drop, hx]; omega
  have e1 : ((xs ++ ys).drop (i * 4)).take ((n - i) * 4) = xs.drop (i * 4) := by
    rw [List.drop_append_of_le_length (by omega), List.take_left' ld]
  have e2 : (xs ++ ys).drop ((i + 1) * 4 + (n - i) * 4) = [] := List.drop_of_length_le (by rw [List.length_append, hx, hy]; omega)
  have l3 : ((xs ++ ys).take ((i + 1) * 4)).length = (i + 1) * 4 := by rw [List.length_take, List.length_append, hx, hy]; omega
  rw [e1, e2, List.append_nil]
  have e3 : ((xs ++ ys).take ((i + 1) * 4) ++ xs.drop (i * 4)).take (i * 4) = xs.take (i * 4) := by
    rw [List.take_append_of_le_length (by omega), List.take_take, Nat.min_eq_left (by omega), List.take_append_of_le_length (by omega)]
  have e4 : ((xs ++ ys).take ((i + 1) * 4) ++ xs.drop (i * 4)).drop (i * 4 + 4) = xs.drop (i * 4) := List.drop_left' (by rw [l3]; omega)
  rw [e3, e4]
theorem clear_raw {w : World} {B g n cap : Nat} {xs : List Value} (h : w.ownsRow B 41 4 (.slice (some ⟨g, 0, none⟩) n cap) n xs) (i : Nat) (hi : i < n) :
    ∃ w', (∀ ty c, (Builtin.clear_ #[22] ty #[.slice (some ⟨g, i * 4, none⟩) (n - i) c]).run Tryz.prog w = .ok (.tuple #[]) w') ∧ w'.ownsRow B 41 4 (.slice (some ⟨g, 0, none⟩) n cap) n (xs.take (i * 4) ++ itsC (List.replicate (n - i) it0)) ∧ w.grownBy w' (some g) := by
  have hl : xs.length = n * 4 := h.1
  obtain ⟨w', h1, h2, h3⟩ := own_write (P := Tryz.prog) h (i * 4) (itsC (List.replicate (n - i) it0)) (by rw [itsC_length, List.length_replicate]; omega) (itsC_one' _)
  refine ⟨w', fun ty c => ?_, ?_, h3⟩
  · obtain ⟨m, hm⟩ : ∃ m, n - i = m + 1 := ⟨n - i - 1, by omega⟩
    rw [hm] at h1 ⊢
    simp only [Builtin.clear_]
    simp [run_underlying Tryz.underlying22]
    have hz := zeros_cells (m + 1)
    simp only [itV, it0] at hz
    rw [hz, show itsC (List.replicate (m + 1) ⟨0, 0, 0, 0⟩) = itsC (List.replicate (m + 1) it0) from rfl, h1]
    rfl
  · rw [List.drop_of_length_le (by rw [itsC_length, List.length_replicate]; omega), List.append_nil] at h2
    exact h2
theorem app_room {w : World} {B g n cap : Nat} {xs : List Value} (h : w.ownsRow B 41 4 (.slice (some ⟨g, 0, none⟩) n cap) n xs) {sa : Addr} {m sc : Nat} {news : List Value} (hs : Rd w 4 (.slice (some sa) m sc) m news) (h1 : ∀ u ∈ news, u.oneCell' = true) (hr : n + m ≤ cap) :
    ∃ w', (∀ ty, (Builtin.append_ #[22, 22] ty #[.slice (some ⟨g, 0, none⟩) n cap, .slice (some sa) m sc]).run Tryz.prog w = .ok (.slice (some ⟨g, 0, none⟩) (n + m) cap) w') ∧ w'.ownsRow B 41 4 (.slice (some ⟨g, 0, none⟩) (n + m) cap) (n + m) (xs ++ news) ∧ w.grownBy w' (some g) := by
  obtain ⟨x, hx⟩ : ∃ x, Tryz.prog.info? 41 = some x := by
    cases hq : Tryz.prog.info? 41 with
    | none => have := infoT; rw [hq] at this; cases this
    | some x => exact ⟨x, rfl⟩
  have hI := infoT
  rw [hx] at hI
  injection hI with hI
  injection hI with _ hI
  injection hI with hs4 _
  have hs4 : x.size = 4 := hs4
  obtain ⟨hl, a', cap', e1, _, _, _, hc⟩ := hs
  injection e1 with e1 e2 e3
  subst e3
  have hnews : ∀ j u, news[j]? = some u → w.cell? (sa.add j) = some u := fun j u hj => by
    have hp : 0 < news.length := by have := (List.getElem?_eq_some_iff.1 hj).1; omega
    obtain ⟨b, off, e4, hcell⟩ := hc hp
    rw [← e1] at e4
    obtain rfl := Option.some.inj e4
    rw [addr_add]; exact hcell j u hj
  rcases h.2 with ⟨h', _⟩ | ⟨g', c2, cur, h', hb, hg, hnc, hcm, hcs, htake⟩
  · cases h'
  · injection h' with h' _ h''
    injection h' with h'
    injection h' with h' _
    subst h' h''
    have hx1 := h.1
    have hfit : n * 4 + news.length ≤ cur.size := by rw [hl, hcs]; omega
    refine ⟨_, fun ty => run_append_room (P := Tryz.prog) w 22 ty 41 x Tryz.underlying22 hx g n cap cur hg sa m sc news (by rw [hs4]; exact hl) hnews h1 hr (by rw [hs4]; exact hfit), ⟨?_, .inr ⟨g, cap, _, rfl, hb, setRow_heap w g cur _ _ _ hg, hr, hcm, ?_, ?_⟩⟩, ⟨rfl, rfl, rfl, by simp, fun k _ hk => setRow_other w g k _ (fun e => hk (by rw [e]))⟩⟩
    · rw [List.length_append, hx1, hl, Nat.add_mul]
    · rw [hs4]
      simp only [List.size_toArray, List.length_append, List.length_take, List.length_drop, Array.length_toList]
      omega
    · rw [hs4, htake]
      have : (xs ++ news).length = (n + m) * 4 := by rw [List.length_append, hx1, hl, Nat.add_mul]
      rw [← this]
      exact List.take_left
end Go.Proofs.YthomhflkldhdaaaGreatDoor

namespace Go.Proofs.YthomhflkldhdaaaGreatDoor
open Go.RowKit

theorem own_setRow {w : World} {base : Nat} {e : TypeId} {sz n cap g : Nat} {xs : List Value} (h : w.ownsRow base e sz (.slice (some ⟨g, 0, none⟩) n cap) n xs) (o : Nat) (vs : List Value) (ho : o + vs.length ≤ n * sz) :
    ∃ cur, w.heap[g]? = some (.cells cur e (0, 0)) ∧ n * sz ≤ cur.size ∧ (w.setRow g (cur.toList.take o ++ vs ++ cur.toList.drop (o + vs.length)).toArray).ownsRow base e sz (.slice (some ⟨g, 0, none⟩) n cap) n (xs.take o ++ vs ++ xs.drop (o + vs.length)) ∧
      w.grownBy (w.setRow g (cur.toList.take o ++ vs ++ cur.toList.drop (o + vs.length)).toArray) (some g) := by
  have hx := h.1
  rcases h.2 with ⟨h', _⟩ | ⟨g', cap', cur, h', hb, hg, hnc, hcm, hcs, htake⟩
  · cases h'
  · injection h' with h' _ h''
    injection h' with h'
    injection h' with h' _
    subst h' h''
    have hN : n * sz ≤ cur.size := by rw [hcs]; exact Nat.mul_le_mul_right _ hnc
    refine ⟨cur, hg, hN, ⟨?_, .inr ⟨g, cap, _, rfl, hb, setRow_heap w g cur _ e (0, 0) hg, hnc, hcm, ?_, ?_⟩⟩, ⟨rfl, rfl, rfl, by simp, fun k _ hk => setRow_other w g k _ (fun e => hk (by rw [e]))⟩⟩
    · simp only [List.length_append, List.length_take, List.length_drop, hx]; omega
    · simp only [List.size_toArray, List.length_append, List.length_take, List.length_drop, Array.length_toList]; omega
    · have e1 : xs.take o = cur.toList.take o := by rw [← htake, List.take_take, Nat.min_eq_left (by omega)]
      have e2 : xs.drop (o + vs.length) = (cur.toList.drop (o + vs.length)).take (n * sz - (o + vs.length)) := by rw [← htake, List.drop_take]
      rw [e1, e2]
      have l1 : (cur.toList.take o ++ vs).length = o + vs.length := by rw [List.length_append, List.length_take, Array.length_toList]; omega
      rw [List.take_append, List.take_of_length_le (l := cur.toList.take o ++ vs) (by rw [l1]; exact ho), l1]
theorem copy_own {w : World} {B g n cap : Nat} {l : List UInt8} (h : w.ownsRow B 5 1 (.slice (some ⟨g, 0, none⟩) n cap) n (l.map byteV)) {sa : Option Addr} {m sc : Nat} {s : List UInt8} (hs : RdB w (.slice sa m sc) s) (o dl dc : Nat) (hm : 0 < m) (hd : m ≤ dl) (ho : o + m ≤ n) :
    ∃ w', (∀ ty, (Builtin.copy_ #[66, 66] ty #[.slice (some ⟨g, o, none⟩) dl dc, .slice sa m sc]).run Tryz.prog w = .ok (.int .i64 (m : Int)) w') ∧
      w'.ownsRow B 5 1 (.slice (some ⟨g, 0, none⟩) n cap) n ((l.take o ++ s ++ l.drop (o + m)).map byteV) ∧ w.grownBy w' (some g) := by
  have hb := RdL.bounds hs
  obtain ⟨h0, a', cap', e, _, _, _, h5⟩ := hs
  injection e with e1 e2 e3
  obtain ⟨b, off, e4, hc⟩ := h5 (by rw [List.length_map]; omega)
  rw [e1, e4]
  have hsl : (s.map byteV).length = m := by rw [List.length_map]; omega
  obtain ⟨cur, hg, hN, h1, h2⟩ := own_setRow h o (s.map byteV) (by rw [hsl]; omega)
  refine ⟨_, fun ty => ?_, ?_, h2⟩
  · have hsz : (Tryz.prog.info? 5).map (·.size) = some 1 := by kernel_rfl
    have := run_copy_row (P := Tryz.prog) w 66 66 ty 5 g o dl dc ⟨b, off, none⟩ m sc cur 5 (s.map byteV) Tryz.underlying66 hsz hg (by rw [hsl]; exact (Nat.min_eq_left hd).symm) (fun j u hj => by rw [addr_add]; exact hc j u hj) (by rw [hsl]; omega) (bytes_one s)
    rw [this, hsl]; rfl
  · rw [hsl] at h1
    rw [List.map_append, List.map_append, List.map_take, List.map_drop, hsl]
    exact h1
end Go.Proofs.YthomhflkldhdaaaGreatDoor

namespace Go.Proofs.YthomhflkldhdaaaGreatDoor
open Go.RowKit

set_option maxRecDepth 100000 in
set_option maxHeartbeats 4000000 in
theorem stable_any (g n cap B : Nat) (d : List It) (w : World) (hown : w.ownsRow B 41 4 (.slice (some ⟨g, 0, none⟩) n cap) n (itsC d)) (hn : d.length = n) (hs : n ≤ 1000000) :
    Calls Tryz.prog 172 #[.slice (some ⟨g, 0, none⟩) n cap, .int .i64 (n : Int), .func (.func 143) #[] #[]] w fun e w' => e = .returned (.tuple #[]) ∧ Left w g n cap 0 n B d w' := by
  have HO := Lib.hid hown
  have hgr : w.grownBy w (some g) := ⟨rfl, rfl, rfl, Nat.le_refl _, fun _ _ _ => rfl⟩
  have HG := Lib.hid hgr
  have HN := Lib.hid hn
  have HL := Lib.hid (fun q (h : Moved d q 0 n) => h.len.trans hn)
  clear hown hgr hn
  go_enter Tryz.func172, Tryz.ntmps172
  go_wp2_with fail
  go_loopw [7, 8] (fun av bv wr => ∃ (k a : Nat) (q : List It), av = .int .i64 (a : Int) ∧ bv = .int .i64 ((a : Int) + 20) ∧ Hid (a = k * 20) ∧ a ≤ n ∧ Blk q 20 0 a ∧ Moved d q 0 n ∧ wr.ownsRow B 41 4 (.slice (some ⟨g, 0, none⟩) n cap) n (itsC q) ∧ w.grownBy wr (some g)) (fun av _ _ => n - (intOf av).toNat)
  case atStart => exact ⟨0, 0, d, by go_num, by go_num, (rfl : (0 : Nat) = 0 * 20), by omega, Blk.none _ _ _, Moved.refl _ _ _, HO.out, HG.out⟩
  case round =>
    obtain ⟨k, a, q, rfl, rfl, HK, han, hb, hm, ho, hg⟩ := hrel
    have Hb := Lib.hid hb
    have Hm := Lib.hid hm
    have Ho := Lib.hid ho
    have Hg := Lib.hid hg
    clear hb hm ho hg
    by_cases hlt : a + 20 ≤ n
    · have HC := Lib.hid (insertion_any g n cap a (a + 20) B q wr Ho.out (HL.out q Hm.out) hs (by omega) hlt)
      have e1 : ((a + 20 : Nat) : Int) = (a : Int) + 20 := by omega
      rw [e1] at HC
      clear e1
      have hle : (a : Int) + 20 ≤ (n : Int) := by omega
      go_wp2_with fail
      refine HC.out.mono ?_; rintro _ w2 ⟨rfl, q2, hown2, hm2, hn2, hgr2⟩
      have HO2 := Lib.hid hown2
      have HM2 := Lib.hid (Hm.out.trans (hm2.wide (Nat.zero_le _) (by omega) hlt))
      have HB2 := Lib.hid ((Hb.out.keep hm2 (Or.inl (Nat.le_refl _))).more HK.out hn2)
      have HG2 := Lib.hid (grown_tr Hg.out hgr2)
      have HK2 := Lib.hid (show a + 20 = (k + 1) * 20 by rw [HK.out]; omega)
      clear hown2 hm2 hn2 hgr2
      go_wp2_with fail
      exact ⟨⟨k + 1, a + 20, q2, by go_num, by go_num, HK2, hlt, HB2.out, HM2.out, HO2.out, HG2.out⟩, by simp [intOf]; omega⟩
    · have hle : ¬ (a : Int) + 20 ≤ (n : Int) := by omega
      have HC := Lib.hid (insertion_any g n cap a n B q wr Ho.out (HL.out q Hm.out) hs han (Nat.le_refl _))
      go_wp2_with fail
      refine HC.out.mono ?_; rintro _ w2 ⟨rfl, q2, hown2, hm2, hn2, hgr2⟩
      have HO2 := Lib.hid hown2
      have HM2 := Lib.hid (Hm.out.trans (hm2.wide (Nat.zero_le _) han (Nat.le_refl _)))
      have HB2 := Lib.hid ((Hb.out.keep hm2 (Or.inl (Nat.le_refl _))).more HK.out hn2)
      have HG2 := Lib.hid (grown_tr Hg.out hgr2)
      clear hown2 hm2 hn2 hgr2 hle hlt
      clear HK Hb Hm Ho Hg HC
      go_wp2_with fail
      go_loopw [6] (fun sv wr => ∃ (bs : Nat) (q : List It), sv = .int .i64 (bs : Int) ∧ 0 < bs ∧ bs ≤ 2000000 ∧ Blk q bs 0 n ∧ Moved d q 0 n ∧ wr.ownsRow B 41 4 (.slice (some ⟨g, 0, none⟩) n cap) n (itsC q) ∧ w.grownBy wr (some g)) (fun sv _ => n - (intOf sv).toNat)
      case atStart => exact ⟨20, q2, by go_num, by omega, by omega, HB2.out, HM2.out, HO2.out, HG2.out⟩
      case round =>
        obtain ⟨bs, q, rfl, hb0, hb1, hb, hm, ho, hg⟩ := hrel
        have Hb := Lib.hid hb
        have Hm := Lib.hid hm
        have Ho := Lib.hid ho
        have Hg := Lib.hid hg
        clear hb hm ho hg
        by_cases hlt : bs < n
        · go_wp2_with fail
          go_loopw [7, 8] (fun av bv wr => ∃ (k a : Nat) (q : List It), av = .int .i64 (a : Int) ∧ bv = .int .i64 ((a : Int) + 2 * (bs : Int)) ∧ Hid (a = k * (2 * bs)) ∧ a ≤ n ∧ Blk q (2 * bs) 0 a ∧ Blk q bs a n ∧ Moved d q 0 n ∧ wr.ownsRow B 41 4 (.slice (some ⟨g, 0, none⟩) n cap) n (itsC q) ∧ w.grownBy wr (some g)) (fun av _ _ => n - (intOf av).toNat)
          case atStart => exact ⟨0, 0, q, by go_num, by go_num, (Nat.zero_mul _).symm, by omega, Blk.none _ _ _, Hb.out, Hm.out, Ho.out, Hg.out⟩
          case round =>
            obtain ⟨k, a, r, rfl, rfl, HK, han, hb, hc, hm, ho, hg⟩ := hrel
            have hK2 : k * 2 * bs = a := by rw [HK.out, Nat.mul_assoc]
            have hK3 : (k * 2 + 1) * bs = a + bs := by rw [Nat.succ_mul (k * 2) bs, hK2]
            have HK4 := Lib.hid (show a + 2 * bs = (k + 1) * (2 * bs) by rw [Nat.succ_mul k (2 * bs), ← HK.out])
            have Hn1 := Lib.hid (show a + bs ≤ n → NdI r a (a + bs) from fun h => hc.nd (k := k * 2) (Nat.le_refl _) h (by omega) (by omega))
            have Hn2 := Lib.hid (show ∀ b, a + bs ≤ b → b ≤ n → b ≤ a + 2 * bs → NdI r (a + bs) b from fun b h h' h'' => hc.nd (k := k * 2 + 1) (by omega) h' (by omega) (by omega))
            have Hn3 := Lib.hid (show n ≤ a + bs → NdI r a n from fun h => hc.nd (k := k * 2) (Nat.le_refl _) (Nat.le_refl _) (by omega) (by omega))
            have Hb := Lib.hid hb
            have Hc := Lib.hid hc
            have Hm := Lib.hid hm
            have Ho := Lib.hid ho
            have Hg := Lib.hid hg
            clear hb hc hm ho hg hK2 hK3
            by_cases hle : a + 2 * bs ≤ n
            · have HC := Lib.hid (sym_any g n cap B hs (2 * bs) a (a + bs) (a + 2 * bs) r wr (by omega) Ho.out (HL.out r Hm.out) (by omega) (by omega) hle (Hn1.out (by omega)) (Hn2.out _ (by omega) hle (Nat.le_refl _)))
              have e1 : ((a + bs : Nat) : Int) = (a : Int) + (bs : Int) := by omega
              have e2 : ((a + 2 * bs : Nat) : Int) = (a : Int) + 2 * (bs : Int) := by omega
              rw [e1, e2] at HC
              clear e1 e2
              have hle' : (a : Int) + 2 * (bs : Int) ≤ (n : Int) := by omega
              go_wp2_with fail
              refine HC.out.mono ?_; rintro _ w2 ⟨rfl, q2, hown2, hm2, hn2, hgr2⟩
              have HO2 := Lib.hid hown2
              have HM2 := Lib.hid (Hm.out.trans (hm2.wide (Nat.zero_le _) (by omega) hle))
              have HB2 := Lib.hid ((Hb.out.keep hm2 (Or.inl (Nat.le_refl _))).more HK.out hn2)
              have HC2 := Lib.hid ((Hc.out.sub (lo' := a + 2 * bs) (hi' := n) (by omega) (Nat.le_refl _)).keep hm2 (Or.inr (Nat.le_refl _)))
              have HG2 := Lib.hid (grown_tr Hg.out hgr2)
              clear hown2 hm2 hn2 hgr2
              go_wp2_with fail
              exact ⟨⟨k + 1, a + 2 * bs, q2, by go_num, by go_num, HK4, hle, HB2.out, HC2.out, HM2.out, HO2.out, HG2.out⟩, by simp [intOf]; omega⟩
            · have hle' : ¬ (a : Int) + 2 * (bs : Int) ≤ (n : Int) := by omega
              by_cases hmn : a + bs < n
              · have HC := Lib.hid (sym_any g n cap B hs (2 * bs) a (a + bs) n r wr (by omega) Ho.out (HL.out r Hm.out) (by omega) hmn (Nat.le_refl _) (Hn1.out (by omega)) (Hn2.out _ (by omega) (Nat.le_refl _) (by omega)))
                have e1 : ((a + bs : Nat) : Int) = (a : Int) + (bs : Int) := by omega
                rw [e1] at HC
                clear e1
                have hmn' : (a : Int) + (bs : Int) < (n : Int) := by omega
                go_wp2_with fail
                refine HC.out.mono ?_; rintro _ w2 ⟨rfl, q2, hown2, hm2, hn2, hgr2⟩
                have HO2 := Lib.hid hown2
                have HM2 := Lib.hid (Hm.out.trans (hm2.wide (Nat.zero_le _) han (Nat.le_refl _)))
                have HB2 := Lib.hid ((Hb.out.keep hm2 (Or.inl (Nat.le_refl _))).more HK.out hn2)
                have HG2 := Lib.hid (grown_tr Hg.out hgr2)
                clear hown2 hm2 hn2 hgr2
                go_wp2_with fail
                exact ⟨⟨2 * bs, q2, by go_num, by omega, by omega, HB2.out, HM2.out, HO2.out, HG2.out⟩, by simp [intOf]; omega⟩
              · have hmn' : ¬ (a : Int) + (bs : Int) < (n : Int) := by omega
                have HB2 := Lib.hid (Hb.out.more HK.out (Hn3.out (by omega)))
                go_wp2_with fail
                exact ⟨⟨2 * bs, r, by go_num, by omega, by omega, HB2.out, Hm.out, Ho.out, Hg.out⟩, by simp [intOf]; omega⟩
        · have HW := Lib.hid (Hb.out.whole (by omega))
          go_wp2_with fail
          go_end0
          exact ⟨rfl, q, Ho.out, Hm.out, HW.out, Hg.out⟩
theorem sortstable_any (g n cap B : Nat) (d : List It) (w : World) (hown : w.ownsRow B 41 4 (.slice (some ⟨g, 0, none⟩) n cap) n (itsC d)) (hn : d.length = n) (hs : n ≤ 1000000) :
    Calls Tryz.prog 142 #[.slice (some ⟨g, 0, none⟩) n cap, .func (.func 143) #[] #[]] w fun e w' => e = .returned (.tuple #[]) ∧ Left w g n cap 0 n B d w' := by
  have HC := Lib.hid (stable_any g n cap B d w hown hn hs)
  clear hown hn
  go_enter Tryz.func142, Tryz.ntmps142
  go_wp2_with fail
  refine HC.out.mono ?_; rintro _ w2 ⟨rfl, hl⟩
  have HL := Lib.hid hl
  clear hl
  go_wp2_with fail
  go_end0
  exact ⟨rfl, HL.out⟩
end Go.Proofs.YthomhflkldhdaaaGreatDoor

namespace Go.Proofs.YthomhflkldhdaaaGreatDoor
open Go.RowKit

set_option maxRecDepth 100000 in
/-- One item appended within a row of the call's own. -/
theorem app_in {w : World} {B g n cap : Nat} {q : List It} (h : w.ownsRow B 41 4 (.slice (some ⟨g, 0, none⟩) n cap) n (itsC q)) (hq : q.length = n) (k : Nat) (hk : k < n) {sa : Addr} {sc : Nat} {x : It} (hs : Rd w 4 (.slice (some sa) 1 sc) 1 (itC x)) :
    ∃ w', (∀ ty, (Builtin.append_ #[22, 22] ty #[.slice (some ⟨g, 0, none⟩) k cap, .slice (some sa) 1 sc]).run Tryz.prog w = .ok (.slice (some ⟨g, 0, none⟩) (k + 1) cap) w') ∧
      w'.ownsRow B 41 4 (.slice (some ⟨g, 0, none⟩) n cap) n (itsC (q.set k x)) ∧ w.grownBy w' (some g) := by
  obtain ⟨cur, hg, hN, h1, h2⟩ := own_setRow h (k * 4) (itC x) (by rw [itC_len]; omega)
  obtain ⟨ht, hsz, i, z, hi, hz, hs4, hby, hzs⟩ := elemT
  obtain ⟨_, a', cap', e, _, _, _, hc⟩ := hs
  injection e with e1 e2 e3
  obtain ⟨b, off, e4, hcell⟩ := hc (by rw [itC_len]; omega)
  rw [← e1] at e4
  injection e4 with e4
  subst e4
  have hcap : k + 1 ≤ cap := by
    obtain ⟨_, _, e, hnc, _, _⟩ := own_form h
    injection e with _ _ e5
    omega
  refine ⟨_, fun ty => run_append_room (P := Tryz.prog) w 22 ty 41 i ht hi g k cap cur hg ⟨b, off, none⟩ 1 sc (itC x) (by rw [hs4]; rfl) (fun j u hj => by rw [addr_add]; exact hcell j u hj) (fun u hu => itsC_one' [x] u (by rw [itsC_one]; exact hu)) hcap (by rw [hs4, itC_len]; omega), ?_, ?_⟩
  · rw [hs4]
    have e : itsC (q.set k x) = (itsC q).take (k * 4) ++ itC x ++ (itsC q).drop (k * 4 + (itC x).length) := by
      rw [List.set_eq_take_append_cons_drop, if_pos (by omega), itsC_append, itsC_take, itsC_cons, itsC_drop, itC_len, List.append_assoc]
      congr 3; omega
    rw [e]; exact h1
  · rw [hs4]; exact h2
theorem wpList_appin {w : World} {ops : Array Oper} {rest : List Oper} {o : Oper} {a : Act} {Q : Exit → Act → World → Prop} (hgd : o.guard = none) (s x : Operand)
    (ho : o.op = .call { callee := .builtin .append, args := #[s, x], argTypes := #[22, 22] }) {B g n cap : Nat} {q : List It} (k : Nat) {sa : Addr} {sc : Nat} {y : It}
    (hs : a.eval s = .slice (some ⟨g, 0, none⟩) k cap) (hx : a.eval x = .slice (some sa) 1 sc) (h : w.ownsRow B 41 4 (.slice (some ⟨g, 0, none⟩) n cap) n (itsC q)) (hq : q.length = n) (hk : k < n) (hr : Rd w 4 (.slice (some sa) 1 sc) 1 (itC y))
    (hK : ∀ w', w'.ownsRow B 41 4 (.slice (some ⟨g, 0, none⟩) n cap) n (itsC (q.set k y)) → w.grownBy w' (some g) → wpList Tryz.prog ops Q rest (a.put o.dst (.slice (some ⟨g, 0, none⟩) (k + 1) cap)) w') : wpList Tryz.prog ops Q (o :: rest) a w := by
  obtain ⟨w', h1, h2, h3⟩ := app_in h hq k hk hr
  exact Lib.wpList_append_run w hgd s x _ _ ho _ _ hs hx _ _ (h1 _) (hK w' h2 h3)
theorem take_set_ne {q : List It} {k i : Nat} {x : It} (h : k ≤ i) : (q.set k x).drop (i + 1) = q.drop (i + 1) := List.drop_set_of_lt (by omega)
/-- The pass over the sorted list: out, what is left, the row. -/
structure Pass (d out q : List It) (k i : Nat) : Prop where
  all : out ++ lstR (d.drop i) = lstR d
  pre : q.take k = out
  rest : q.drop i = d.drop i
  le : k ≤ i
  len : q.length = d.length
theorem Pass.keep {d out q : List It} {k i : Nat} (h : Pass d out q k i) (hi : i < d.length) (hk : i + 1 = d.length ∨ (iat d (i + 1)).key ≠ (iat d i).key) : Pass d (out ++ [iat d i]) (q.set k (iat d i)) (k + 1) (i + 1) := by
  have hle := h.le
  have hql := h.len
  refine ⟨?_, ?_, ?_, by omega, by rw [List.length_set]; exact h.len⟩
  · rw [List.append_assoc, ← h.all]
    congr 1
    by_cases e : i + 1 = d.length
    · exact (lstR_end e).symm
    · exact (lstR_keep (by omega) (by rcases hk with hk | hk; exact absurd hk e; exact hk)).symm
  · rw [set_take_succ q k _ (by omega), h.pre]
  · rw [take_set_ne hle, ← List.drop_drop, h.rest, List.drop_drop]
theorem Pass.skip {d out q : List It} {k i : Nat} (h : Pass d out q k i) (hi : i + 1 < d.length) (hk : (iat d (i + 1)).key = (iat d i).key) : Pass d out q k (i + 1) := by
  have hle := h.le
  refine ⟨?_, h.pre, ?_, by omega, h.len⟩
  · rw [← h.all, lstR_skip hi hk]
  · rw [← List.drop_drop, h.rest, List.drop_drop]
theorem Pass.at {d out q : List It} {k i j : Nat} (h : Pass d out q k i) (hj : i ≤ j) : iat q j = iat d j := by
  have h1 := iat_drop q i (j - i)
  have h2 := iat_drop d i (j - i)
  rw [h.rest, h2, show i + (j - i) = j by omega] at h1
  exact h1.symm
set_option maxRecDepth 100000 in
set_option maxHeartbeats 2000000 in
theorem sorted_dis (l : List It) (ha : ascB l = false) (hs : l.length ≤ 1000000) : SortedOk l := by
  intro v w h
  have HC := Lib.hid (clone_any v l w h hs)
  have HA := Lib.hid (fun v w h => asc_any v l w h)
  rw [ha] at HA
  have hpos : 0 < l.length := by
    cases l with
    | nil => cases ha
    | cons x r => simp
  have HS := Lib.hid (fun d (hm : Moved l d 0 l.length) (hn : NdI d 0 l.length) => lstR_srt (l := l) (d := d) (hm.stb (Nat.zero_le _)) (by rw [hm.len]; exact hn))
  obtain ⟨a, cap, rfl, h1, h2⟩ := h.shape
  have HML := Lib.hid (fun d (hm : Moved l d 0 l.length) => hm.len)
  have HSS := Lib.hid (fun g cap B w h => sortstable_any g l.length cap B l w h rfl hs)
  have HOT := Lib.hid (fun w B v (h : OwnT w B v l) => show w.ownsRow B 41 4 v l.length (itsC l) from h)
  generalize hn : l.length = n at *
  clear h ha hn
  go_enter Tryz.func117, Tryz.ntmps117
  go_wp2_with fail
  refine HC.out.mono ?_; rintro e w1 ⟨v1, rfl, hown1, hb1⟩
  have HO := Lib.hid hown1
  have HB := Lib.hid hb1
  clear hown1 hb1
  go_wp2_with fail
  refine (HA.out _ _ HO.out.rd).mono ?_; rintro e w2 ⟨rfl, hb2⟩
  have HO2' := Lib.hid (HOT.out _ _ _ (own_keep HO.out hb2))
  have HB2 := Lib.hid (bstep HB.out hb2)
  clear hb2
  obtain ⟨oa, oc, rfl, ho1, ho2, _⟩ := own_form HO2'.out
  obtain ⟨g, rfl⟩ : ∃ g, oa = some ⟨g, 0, none⟩ := by
    rcases HO2'.out.2 with ⟨e, h0⟩ | ⟨g, _, _, e, _⟩
    · injection e with _ e _; omega
    · injection e with e; exact ⟨g, e⟩
  have hgw := (HO2'.out.lt g rfl).1
  clear HO
  go_wp2_with fail
  refine (HSS.out g oc w.heap.size w2 HO2'.out).mono ?_; rintro e w3 ⟨rfl, d, hown3, hm3, hn3, hgr3⟩
  have HO3 := Lib.hid hown3
  have HD := Lib.hid (HS.out d hm3 hn3)
  have HL := Lib.hid (HML.out d hm3)
  have HB3 := Lib.hid (HB2.out.grown hgr3 HB2.out.size (by intro r hr; injection hr with hr; omega))
  clear hown3 hm3 hn3 hgr3 HO2' HB2
  have hto := slice_to (P := Tryz.prog) elemT (a := some ⟨g, 0, none⟩) (n := n) (cap := oc) (fun x hx => ⟨g, 0, by injection hx with hx; exact hx.symm⟩) 0 (by omega)
  have hoc : oc ≤ 9223372036854775807 := by unfold maxLen at ho2; omega
  go_wp2_with fail
  go_loopw [3, 17] (fun ov iv wr => ∃ (k i : Nat) (out q : List It), ov = .slice (some ⟨g, 0, none⟩) k oc ∧ iv = .int .i64 (i : Int) ∧ i ≤ n ∧ Pass d out q k i ∧ wr.ownsRow w.heap.size 41 4 (.slice (some ⟨g, 0, none⟩) n oc) n (itsC q) ∧ Below w.heap.size w wr) (fun _ iv _ => n - (intOf iv).toNat)
  case atStart => exact ⟨0, 0, [], d, by rfl, by go_num, by omega, ⟨by simp, rfl, rfl, Nat.le_refl _, rfl⟩, HO3.out, HB3.out⟩
  case round =>
    obtain ⟨k, i, out, q, rfl, rfl, hi, hp, ho, hb⟩ := hrel
    have hki := hp.le
    have Hp := Lib.hid hp
    have Ho := Lib.hid ho
    have Hb := Lib.hid hb
    have hB := hb.size
    have hgr := (ho.lt g rfl).2
    have hqn := Lib.hid (hp.len.trans HL.out)
    clear hp ho hb
    by_cases hlt : i < n
    · obtain ⟨_, _, e, c0, c1, c2, c3⟩ := (rd_rdT (own_rd Ho.out)).at hlt
      injection e with e; injection e with e1 e2; subst e1 e2
      simp only [Nat.zero_add] at c0 c1 c2 c3
      rw [Hp.out.at (Nat.le_refl _)] at c0 c1 c2 c3
      have HKeep := Lib.hid (Hp.out.keep (by rw [HL.out]; exact hlt))
      have HSkip := Lib.hid (fun h : i + 1 < n => Hp.out.skip (by rw [HL.out]; exact h))
      have j1 : IntKind.i64.wrap ((i : Int) + 1) = (i : Int) + 1 := IntWalk.i64_in _ (by omega)
      by_cases hend : i + 1 = n
      · have hd : ((i : Int) + 1 == (n : Int)) = true := beq_iff_eq.2 (by omega)
        have HK2 := Lib.hid (HKeep.out (Or.inl (by rw [HL.out]; exact hend)))
        generalize iat d i = x at *
        go_wp2_with fail
        go_quiet (fail)
        obtain ⟨W, hW⟩ : ∃ W, (wr.alloc (.cells #[.int .u64 x.key, .int .u32 x.ck, .int .i64 x.off, .int .i64 x.size] 41)).drewN nq = W := ⟨_, rfl⟩
        have HBW := Lib.hid (show Below wr.heap.size wr W by rw [← hW]; exact below_drewN ((Below.refl _ _).alloc (Nat.le_refl _) _) _)
        have x0 : W.cell? ⟨wr.heap.size, 0, none⟩ = some (.int .u64 x.key) := by rw [← hW]; simp
        have x1 : W.cell? ⟨wr.heap.size, 1, none⟩ = some (.int .u32 x.ck) := by rw [← hW]; simp
        have x2 : W.cell? ⟨wr.heap.size, 2, none⟩ = some (.int .i64 x.off) := by rw [← hW]; simp
        have x3 : W.cell? ⟨wr.heap.size, 3, none⟩ = some (.int .i64 x.size) := by rw [← hW]; simp
        rw [hW]
        clear hW c0 c1 c2 c3 j1 hd
        have HOW := Lib.hid (own_keep Ho.out HBW.out)
        have HbW := Lib.hid (bstep Hb.out HBW.out)
        have hW1 := HbW.out.size
        go_wp2_with (at_builtin; go_must (refine wpList_appin rfl (.tmp 38) (.tmp 40) rfl k rfl rfl (HOW.out.alloc _) hqn.out (by omega) (Rd.new _ 4 (itC x) 41 1 rfl (by decide)) ?_); intro w4 hown4 hgr4)
        have HO4 := Lib.hid hown4
        have HB4 := Lib.hid ((HbW.out.alloc hW1 _).grown hgr4 (by simp; omega) (by intro r hr; injection hr with hr; omega))
        clear hown4 hgr4
        go_wp2_with fail
        exact ⟨⟨k + 1, i + 1, _, _, rfl, by go_num, by omega, HK2.out, HO4.out, HB4.out⟩, by simp [intOf]; omega⟩
      · have hd : ((i : Int) + 1 == (n : Int)) = false := beq_eq_false_iff_ne.2 (by omega)
        have hi1 : i + 1 < n := by omega
        have i2 : (i : Int) + 1 < (n : Int) := by omega
        have i3 : (0 : Int) ≤ (i : Int) + 1 := by omega
        have i4 : ((i : Int) + 1).toNat = i + 1 := by omega
        obtain ⟨_, _, e, d0, _, _, _⟩ := (rd_rdT (own_rd Ho.out)).at hi1
        injection e with e; injection e with e1 e2; subst e1 e2
        simp only [Nat.zero_add] at d0
        rw [Hp.out.at (Nat.le_succ _)] at d0
        have HKk := Lib.hid (fun h => HKeep.out (Or.inr h))
        have HSk := Lib.hid (HSkip.out hi1)
        generalize (iat d (i + 1)).key = y at *
        have hne : ∀ o n, ((wr.alloc o).drewN n).cell? ⟨g, (i + 1) * 4, none⟩ = some (.int .u64 y) := fun o n => Below.keeps (below_drewN ((Below.refl _ _).alloc (Nat.le_refl _) o) n) _ _ d0
        by_cases hyx : y = (iat d i).key
        · have HS2 := Lib.hid (HSk.out hyx)
          generalize iat d i = x at *
          have hd2 : (y != x.key) = false := by rw [hyx]; simp
          clear hyx
          go_wp2_with fail
          go_quiet (fail)
          have HBW := Lib.hid (show Below wr.heap.size wr ((wr.alloc (.cells #[.int .u64 x.key, .int .u32 x.ck, .int .i64 x.off, .int .i64 x.size] 41)).drewN nq) from below_drewN ((Below.refl _ _).alloc (Nat.le_refl _) _) _)
          clear j1 hd i2 i3 i4
          go_wp2_with fail
          exact ⟨⟨k, i + 1, _, _, rfl, by go_num, by omega, HS2.out, own_keep Ho.out HBW.out, bstep Hb.out HBW.out⟩, by simp [intOf]; omega⟩
        · have HK2 := Lib.hid (HKk.out hyx)
          have hd2 : (y != (iat d i).key) = true := bne_iff_ne.2 hyx
          clear hyx
          generalize iat d i = x at *
          go_wp2_with fail
          go_quiet (fail)
          obtain ⟨W, hW⟩ : ∃ W, (wr.alloc (.cells #[.int .u64 x.key, .int .u32 x.ck, .int .i64 x.off, .int .i64 x.size] 41)).drewN nq = W := ⟨_, rfl⟩
          have HBW := Lib.hid (show Below wr.heap.size wr W by rw [← hW]; exact below_drewN ((Below.refl _ _).alloc (Nat.le_refl _) _) _)
          have x0 : W.cell? ⟨wr.heap.size, 0, none⟩ = some (.int .u64 x.key) := by rw [← hW]; simp
          have x1 : W.cell? ⟨wr.heap.size, 1, none⟩ = some (.int .u32 x.ck) := by rw [← hW]; simp
          have x2 : W.cell? ⟨wr.heap.size, 2, none⟩ = some (.int .i64 x.off) := by rw [← hW]; simp
          have x3 : W.cell? ⟨wr.heap.size, 3, none⟩ = some (.int .i64 x.size) := by rw [← hW]; simp
          rw [hW]
          clear hW c0 c1 c2 c3 j1 hd i2 i3 i4 hd2 d0 hne
          have HOW := Lib.hid (own_keep Ho.out HBW.out)
          have HbW := Lib.hid (bstep Hb.out HBW.out)
          have hW1 := HbW.out.size
          go_wp2_with (at_builtin; go_must (refine wpList_appin rfl (.tmp 38) (.tmp 40) rfl k rfl rfl (HOW.out.alloc _) hqn.out (by omega) (Rd.new _ 4 (itC x) 41 1 rfl (by decide)) ?_); intro w4 hown4 hgr4)
          have HO4 := Lib.hid hown4
          have HB4 := Lib.hid ((HbW.out.alloc hW1 _).grown hgr4 (by simp; omega) (by intro r hr; injection hr with hr; omega))
          clear hown4 hgr4
          go_wp2_with fail
          exact ⟨⟨k + 1, i + 1, _, _, rfl, by go_num, by omega, HK2.out, HO4.out, HB4.out⟩, by simp [intOf]; omega⟩

    · obtain rfl : i = n := by omega
      have HE := Lib.hid (show out = srt l by
        have h := Hp.out.all
        rw [List.drop_eq_nil_of_le (by rw [HL.out]; exact Nat.le_refl _), show lstR [] = [] from rfl, List.append_nil] at h
        exact h.trans HD.out)
      have HT := Lib.hid (own_take Ho.out k hki)
      have HPr := Lib.hid Hp.out.pre
      go_wp2_with fail
      go_ret
      exact ⟨_, rfl, ownT_of HT.out (by rw [← itsC_take, HPr.out, HE.out]), Hb.out⟩
theorem sorted_all (l : List It) (hs : l.length ≤ 1000000) : SortedOk l := by
  cases ha : ascB l with
  | true => exact sorted_asc l ((asc_iff l).1 ha) hs
  | false => exact sorted_dis l ha hs
end Go.Proofs.YthomhflkldhdaaaGreatDoor

namespace Go.Proofs.YthomhflkldhdaaaGreatDoor
open Go.RowKit

theorem itE {α : Sort _} (x y : It) (a b : α) : (if x.key = y.key then if x.ck = y.ck then if x.off = y.off then if x.size = y.size then a else b else b else b else b) = if x = y then a else b := by
  obtain ⟨x1, x2, x3, x4⟩ := x
  obtain ⟨y1, y2, y3, y4⟩ := y
  simp only [It.mk.injEq]
  by_cases h1 : x1 = y1 <;> by_cases h2 : x2 = y2 <;> by_cases h3 : x3 = y3 <;> by_cases h4 : x4 = y4 <;> simp [h1, h2, h3, h4]
theorem eqT (x y : It) (w : World) : (binOp .eql 41 (itV x) (itV y)).run Tryz.prog w = .ok (.bool (decide (x = y))) w := by
  have u1 := Tryz.underlying38
  have u2 := Tryz.underlying39
  have u3 := Tryz.underlying2
  have u4 := Tryz.underlying3
  have hS : Tryz.prog.underlying 41 = some (.struct (Tryz.prog.fieldsOf 41)) := by kernel_rfl
  have hp : Tryz.prog.stoodInHeld 41 = false := by kernel_rfl
  rw [run_eql_struct, show (10000 : Nat) = 9999 + 1 from rfl, run_equalIn_agg w 9999 41 _ _ hS hp]
  simp only [Program.fieldsOf, Tryz.underlying41]
  go_simp
  exact itE x y _ _ |>.trans (by by_cases e : x = y <;> simp [e])
theorem neqT (x y : It) (w : World) : (binOp .neq 41 (itV x) (itV y)).run Tryz.prog w = .ok (.bool (!decide (x = y))) w := by
  have u1 := Tryz.underlying38
  have u2 := Tryz.underlying39
  have u3 := Tryz.underlying2
  have u4 := Tryz.underlying3
  have hS : Tryz.prog.underlying 41 = some (.struct (Tryz.prog.fieldsOf 41)) := by kernel_rfl
  have hp : Tryz.prog.stoodInHeld 41 = false := by kernel_rfl
  rw [run_neq_struct, show (10000 : Nat) = 9999 + 1 from rfl, run_equalIn_agg w 9999 41 _ _ hS hp]
  simp only [Program.fieldsOf, Tryz.underlying41]
  go_simp
  exact itE x y _ _ |>.trans (by by_cases e : x = y <;> simp [e])
theorem iat_ext {l m : List It} (h : l.length = m.length) (h' : ∀ j, j < l.length → iat l j = iat m j) : l = m := by
  refine List.ext_getElem h fun j h1 h2 => ?_
  have := h' j h1
  unfold iat at this
  rwa [List.getD_eq_getElem?_getD, List.getD_eq_getElem?_getD, List.getElem?_eq_getElem h1, List.getElem?_eq_getElem h2] at this
set_option maxHeartbeats 400000 in
theorem same_any (va vb : Value) (l m : List It) (w : World) (ha : RdT w va l) (hb : RdT w vb m) :
    Calls Tryz.prog 33 #[va, vb] w fun e w' => e = .returned (.bool (decide (l = m))) ∧ Below w.heap.size w w' := by
  obtain ⟨a1, c1, rfl, p1, p2⟩ := ha.shape
  obtain ⟨a2, c2, rfl, _, _⟩ := hb.shape
  have hm := lt63 p1 p2
  by_cases hl : l.length = m.length
  · have HT := Lib.hid (show (∀ j, j < l.length → iat l j = iat m j) → l = m from iat_ext hl)
    rw [← hl] at hb ⊢
    generalize hn : l.length = n at *
    have Ha := Lib.hid ha
    have Hb := Lib.hid hb
    have hnn : ((n : Int) != (n : Int)) = false := by simp
    clear ha hb hl hn p1 p2
    go_enter Tryz.func33, Tryz.ntmps33
    go_wp2_with fail
    clear hnn
    go_loopw [5] (fun kv wr => ∃ k : Nat, kv = .int .i64 (k : Int) ∧ k ≤ n ∧ (∀ j, j < k → iat l j = iat m j) ∧ Below w.heap.size w wr) (fun kv _ => n - (intOf kv).toNat)
    case atStart => exact ⟨0, rfl, by omega, fun j hj => absurd hj (by omega), Below.refl _ _⟩
    case round =>
      obtain ⟨k, rfl, hk, heq, hbel⟩ := hrel
      have Heq := Lib.hid heq
      have Hbel := Lib.hid hbel
      clear heq hbel
      by_cases hlt : k < n
      · obtain ⟨b1, o1, rfl, x0, x1, x2, x3⟩ := (Ha.out.below Hbel.out).at hlt
        obtain ⟨b2, o2, rfl, y0, y1, y2, y3⟩ := (Hb.out.below Hbel.out).at hlt
        have hq := neqT (iat l k) (iat m k)
        have HN := Lib.hid (show iat l k ≠ iat m k → decide (l = m) = false from fun h => decide_eq_false fun e => h (by rw [e]))
        generalize hx : iat l k = x at *
        generalize hy : iat m k = y at *
        have HX := Lib.hid hx
        have HY := Lib.hid hy
        have i1 : (k : Int) < (n : Int) := by omega
        obtain ⟨r, hr⟩ : ∃ r, decide (x = y) = r := ⟨_, rfl⟩
        rw [hr] at hq
        have HR := Lib.hid hr
        clear hx hy hr
        cases r
        · go_wp2_with fail
          go_quiet (fail)
          clear i1 hq
          go_wp2_with fail
          go_ret
          exact ⟨ret_bool (HN.out (of_decide_eq_false HR.out)).symm, below_drewN Hbel.out _⟩
        · go_wp2_with fail
          go_quiet (fail)
          clear i1 hq
          go_wp2_with fail
          refine ⟨⟨k + 1, by go_num, by omega, fun j hj => ?_, below_drewN Hbel.out _⟩, by simp [intOf]; omega⟩
          by_cases e : j = k
          · rw [e, HX.out, HY.out]; exact of_decide_eq_true HR.out
          · exact Heq.out j (by omega)
      · obtain rfl : k = n := by omega
        have HN := Lib.hid (show decide (l = m) = true from decide_eq_true (HT.out Heq.out))
        go_wp2_with fail
        go_ret
        exact ⟨ret_bool HN.out.symm, Hbel.out⟩
  · have hne : ((l.length : Int) != (m.length : Int)) = true := by rw [bne_iff_ne]; omega
    have HN := Lib.hid (show decide (l = m) = false from decide_eq_false fun e => hl (by rw [e]))
    clear hl ha hb
    go_enter Tryz.func33, Tryz.ntmps33
    go_wp2_with fail
    go_ret
    exact ⟨ret_bool HN.out.symm, Below.refl _ _⟩
end Go.Proofs.YthomhflkldhdaaaGreatDoor

namespace Go.Proofs.YthomhflkldhdaaaGreatDoor
open Go.RowKit

set_option maxHeartbeats 1000000 in
theorem rfind_any (v : Value) (l : List It) (key : Int) (w : World) (h : RdT w v l) (hs : l.length ≤ 1000000) :
    Calls Tryz.prog 98 #[v, .int .u64 key] w fun e w' => e = .returned (.tuple #[itV ((fnd (srt l) key).getD it0), .bool (fnd (srt l) key).isSome]) ∧ Below w.heap.size w w' := by
  obtain ⟨a, cap, rfl, _, _⟩ := h.shape
  have HA := Lib.hid (fun r (h1 : r < l.length) h2 h3 => last_at (l := l) (key := key) (r := r) h1 h2 h3)
  have HN := Lib.hid (fun h => last_none (l := l) (key := key) h)
  generalize fnd (srt l) key = ff at *
  generalize hn : l.length = n at *
  have Hr := Lib.hid h
  have HW := Lib.hid (show Below w.heap.size w (w.alloc (.cells #[.int .u64 0, .int .u32 0, .int .i64 0, .int .i64 0] 41)) from below_box w it0)
  have HX := Lib.hid (BoxT.new w it0)
  clear h hn
  go_enter Tryz.func98, Tryz.ntmps98
  go_wp2_with fail
  go_loop [6] (fun iv => ∃ i : Nat, iv = .int .i64 ((i : Int) - 1) ∧ i ≤ n ∧ Hid (∀ j, i ≤ j → j < n → (iat l j).key ≠ key)) (fun iv => (intOf iv + 1).toNat)
  case atStart => exact ⟨n, by go_num, Nat.le_refl _, fun j h1 h2 => by omega⟩
  case round =>
    obtain ⟨i, rfl, hi, hno⟩ := hrel
    by_cases h0 : 0 < i
    · obtain ⟨r, rfl⟩ : ∃ r, i = r + 1 := ⟨i - 1, by omega⟩
      obtain ⟨b, off, rfl, c0, c1, c2, c3⟩ := (Hr.out.below HW.out).at (show r < n by omega)
      have e0 : ((r + 1 : Nat) : Int) - 1 = (r : Int) := by omega
      have i1 : (r : Int) < (n : Int) := by omega
      by_cases hk : (iat l r).key = key
      · have HF := Lib.hid (HA.out r (by omega) hk (fun j h1 h2 => hno.out j (by omega) h2))
        have hd : ((iat l r).key == key) = true := beq_iff_eq.2 hk
        rw [e0]
        generalize iat l r = x at *
        clear hk e0 h0
        go_wp2_with fail
        exact bodyPost_ret (v := .tuple #[itV x, .bool true]) (by simp [results, Tryz.results98, go_sem]) rfl ⟨by rw [HF.out]; rfl, below_box w x⟩
      · have hd : ((iat l r).key == key) = false := beq_eq_false_iff_ne.2 hk
        have HK := Lib.hid hk
        rw [e0]
        generalize hx : (iat l r).key = x at *
        have HX2 := Lib.hid hx
        clear hk e0 h0 hx
        go_wp2_with fail
        refine ⟨⟨r, by go_num, by omega, fun j h1 h2 => ?_⟩, by simp [intOf]⟩
        by_cases e : j = r
        · rw [e, HX2.out]; exact HK.out
        · exact hno.out j (by omega) h2
    · obtain rfl : i = 0 := by omega
      have HF := Lib.hid (HN.out (fun j hj => hno.out j (Nat.zero_le _) hj))
      go_wp2_with fail
      exact bodyPost_ret (v := .tuple #[itV it0, .bool false]) (by simp [results, Tryz.results98, go_sem, it0]) rfl ⟨by rw [HF.out]; rfl, below_box w it0⟩
/-- A one-item slice just laid, behind another new block. -/
theorem rd_lit (W : World) (x : It) : Rd (W.alloc (boxC x)) 4 (.slice (some ⟨W.heap.size, 0, none⟩) 1 1) 1 (itC x) := Rd.new W 4 (itC x) 41 1 rfl (by decide)
set_option maxHeartbeats 1000000 in
theorem rdrop_any (v : Value) (l : List It) (key : Int) (w : World) (h : RdT w v l) (hs : l.length ≤ 1000000) :
    Calls Tryz.prog 83 #[v, .int .u64 key] w fun e w' => ∃ v', e = .returned v' ∧ OwnT w' w.heap.size v' (drp (srt l) key) ∧ Below w.heap.size w w' := by
  have HS := Lib.hid (rsort_any v l w h hs)
  have hsl := srt_length l
  obtain ⟨a, cap, rfl, _, _⟩ := h.shape
  generalize srt l = s at *
  have HD := Lib.hid (fun i (h : i < s.length) => show drp (s.take (i + 1)) key = drp (s.take i) key ++ if (iat s i).key = key then [] else [iat s i] by rw [take_snoc h, drp_snoc])
  have HE := Lib.hid (show drp (s.take s.length) key = drp s key by rw [List.take_length])
  have HL := Lib.hid (fun i => show (drp (s.take i) key).length ≤ s.length from Nat.le_trans (drp_length _ _) (by rw [List.length_take]; omega))
  clear h
  go_enter Tryz.func83, Tryz.ntmps83
  go_wp2_with fail
  refine HS.out.mono ?_; rintro e w1 ⟨v1, rfl, hown1, hb1⟩
  have HR := Lib.hid hown1.rd
  have HB1 := Lib.hid hb1
  have hB1 := hb1.size
  clear hown1 hb1 HS
  obtain ⟨sa, sc, rfl, hs1, hs2⟩ := HR.out.shape
  have hs3 := lt63 hs1 hs2
  generalize hn : s.length = n at *
  clear hn
  go_wp2_with fail
  go_loopw [5, 6] (fun ov iv wr => ∃ i : Nat, iv = .int .i64 (i : Int) ∧ i ≤ n ∧ OwnT wr w1.heap.size ov (drp (s.take i) key) ∧ Below w1.heap.size w1 wr) (fun _ iv _ => n - (intOf iv).toNat)
  case atStart => exact ⟨0, by go_num, by omega, World.ownsRow_nil _ _ _ _, Below.refl _ _⟩
  case round =>
    obtain ⟨i, rfl, hi, hown, hb⟩ := hrel
    have HO := Lib.hid (show wr.ownsRow w1.heap.size 41 4 _ (drp (s.take i) key).length (itsC (drp (s.take i) key)) from hown)
    have Hb := Lib.hid hb
    have hB := hb.size
    clear hown hb
    by_cases hlt : i < n
    · obtain ⟨b, off, rfl, c0, c1, c2, c3⟩ := (HR.out.below Hb.out).at hlt
      have i1 : (i : Int) < (n : Int) := by omega
      have HDi := Lib.hid (HD.out i hlt)
      have hLi := HL.out i
      by_cases hk : (iat s i).key = key
      · have hd : ((iat s i).key != key) = false := by rw [hk]; simp
        rw [if_pos hk, List.append_nil] at HDi
        generalize iat s i = x at *
        clear hk
        go_wp2_with fail
        exact ⟨⟨i + 1, by go_num, by omega, by rw [HDi.out]; exact HO.out, Hb.out⟩, by simp [intOf]; omega⟩
      · have hd : ((iat s i).key != key) = true := bne_iff_ne.2 hk
        rw [if_neg hk] at HDi
        generalize iat s i = x at *
        generalize drp (s.take i) key = o at *
        clear hk
        go_wp2_with (at_builtin; go_must (refine wpList_app (m := 1) (n := o.length) rfl (.tmp 22) (.tmp 27) 22 rfl elemT w1.heap.size rfl (HO.out.alloc _) rfl (rd_lit wr x) (itsC_one' [x]) (by unfold maxLen; omega) (by omega) (by simp; omega) ?_); intro v8 w8 hown8 hgr8 hv8; clear hv8)
        have HO8 := Lib.hid (show OwnT w8 w1.heap.size v8 (o ++ [x]) from ownT_of hown8 (by simp only [itsC_append, itsC_one]))
        have HB8 := Lib.hid (own_below (Hb.out.alloc hB (boxC x)) (HO.out.alloc (boxC x)) (by simp; omega) hgr8)
        clear hown8 hgr8
        go_wp2_with fail
        exact ⟨⟨i + 1, by go_num, by omega, by rw [HDi.out]; exact HO8.out, HB8.out⟩, by simp [intOf]; omega⟩
    · obtain rfl : i = n := by omega
      go_wp2_with fail
      go_ret
      exact ⟨_, rfl, by rw [← HE.out]; exact HO.out.mono hB1, HB1.out.trans (Hb.out.mono hB1)⟩
set_option maxHeartbeats 2000000 in
theorem rput_any (v : Value) (l : List It) (x : It) (w : World) (h : RdT w v l) (hs : l.length ≤ 1000000) :
    Calls Tryz.prog 53 #[v, itV x] w fun e w' => ∃ v', e = .returned v' ∧ OwnT w' w.heap.size v' (ins (srt l) x) ∧ Below w.heap.size w w' := by
  have HS := Lib.hid (fun w h => rsort_any v l w h hs)
  have HBX := Lib.hid (BoxT.new w x)
  have HB0 := Lib.hid (below_box w x)
  have Hr := Lib.hid (h.below HB0.out)
  have hsl := srt_length l
  have hsa := Lib.hid (srt_asc l)
  obtain ⟨a, cap, rfl, _, _⟩ := h.shape
  generalize srt l = s at *
  have HE1 := Lib.hid (fun out (h : PutW s x s.length true out) => h.end1)
  have HE0 := Lib.hid (fun out (h : PutW s x s.length false out) => h.end0)
  have HLow := Lib.hid (fun i out (h : PutW s x i false out) (hi : i < s.length) => h.low hi)
  have HHere := Lib.hid (fun i out (h : PutW s x i false out) (hi : i < s.length) => h.here hi)
  have HAhead := Lib.hid (fun i out (h : PutW s x i false out) (hi : i < s.length) => h.ahead hi)
  have HMore := Lib.hid (fun i out (h : PutW s x i true out) (hi : i < s.length) => h.more hi)
  have HGt := Lib.hid (fun i out (h : PutW s x i true out) (hi : i < s.length) => h.gt hsa.out hi)
  clear h
  go_enter Tryz.func53, Tryz.ntmps53
  go_wp2_with fail
  refine (HS.out _ Hr.out).mono ?_; rintro e w1 ⟨v1, rfl, hown1, hb1⟩
  have HR := Lib.hid hown1.rd
  have HX1 := Lib.hid (HBX.out.below hb1)
  have HB1 := Lib.hid (bstep HB0.out hb1)
  have hB1 := HB1.out.size
  clear hown1 hb1 HS HBX HB0
  obtain ⟨sa, sc, rfl, hs1, hs2⟩ := HR.out.shape
  have hs3 := lt63 hs1 hs2
  generalize hn : s.length = n at *
  clear hn
  go_wp2_with fail
  go_loopw [5, 6, 7] (fun ov dv iv wr => ∃ (i : Nat) (d : Bool) (out : List It), dv = .bool d ∧ iv = .int .i64 (i : Int) ∧ i ≤ n ∧ Hid (PutW s x i d out) ∧ OwnT wr w1.heap.size ov out ∧ Below w1.heap.size w1 wr) (fun _ _ iv _ => n - (intOf iv).toNat)
  case atStart => exact ⟨0, false, [], rfl, by go_num, by omega, PutW.start s x, World.ownsRow_nil _ _ _ _, Below.refl _ _⟩
  case round =>
    obtain ⟨i, d, out, rfl, rfl, hi, HP, hown, hb⟩ := hrel
    have HO := Lib.hid (show wr.ownsRow w1.heap.size 41 4 _ out.length (itsC out) from hown)
    have Hb := Lib.hid hb
    have hB := hb.size
    have hlo := HP.out.len
    obtain ⟨x0, x1, x2, x3⟩ := HX1.out.below hb
    clear hown hb
    by_cases hlt : i < n
    · obtain ⟨b, off, rfl, c0, c1, c2, c3⟩ := (HR.out.below Hb.out).at hlt
      have i1 : (i : Int) < (n : Int) := by omega
      have HXr := Lib.hid (HX1.out.below Hb.out)
      have HYx := Lib.hid (show ∃ y, iat s i = y from ⟨_, rfl⟩)
      obtain ⟨y, hy⟩ := HYx.out
      have HY := Lib.hid hy
      have Hbwr := Hb
      have HOwr := HO
      rw [hy] at c0 c1 c2 c3
      cases d with
      | true =>
        have HG := HGt.out i out HP.out hlt
        have HM := Lib.hid (HMore.out i out HP.out hlt)
        rw [hy] at HG HM
        have hd : (y.key != x.key) = true := bne_iff_ne.2 (by omega)
        clear hy HYx HG Hb HO
        go_wp2_with fail
        go_quiet (fail)
        obtain ⟨wa, hW, hBwa⟩ : ∃ wa, wr.drewN nq = wa ∧ Below wr.heap.size wr wa := ⟨_, rfl, below_drewN (Below.refl _ _) _⟩
        rw [hW]
        clear hW
        have Hbwa := Lib.hid (bstep Hbwr.out hBwa)
        have HOwa := Lib.hid (own_keep HOwr.out hBwa)
        clear c0 c1 c2 c3 x0 x1 x2 x3 hBwa
        obtain ⟨_, _, e, c0, c1, c2, c3⟩ := (HR.out.below Hbwa.out).at hlt
        injection e with e; injection e with e1 e2; subst e1 e2
        rw [HY.out] at c0 c1 c2 c3
        obtain ⟨x0, x1, x2, x3⟩ := HX1.out.below Hbwa.out
        go_wp2_with fail
        go_quiet (fail)
        obtain ⟨wb, hW, hBwb⟩ : ∃ wb, wa.drewN nq = wb ∧ Below wa.heap.size wa wb := ⟨_, rfl, below_drewN (Below.refl _ _) _⟩
        rw [hW]
        clear hW
        have Hbwb := Lib.hid (bstep Hbwa.out hBwb)
        have HOwb := Lib.hid (own_keep HOwa.out hBwb)
        clear c0 c1 c2 c3 x0 x1 x2 x3 hBwb
        obtain ⟨_, _, e, c0, c1, c2, c3⟩ := (HR.out.below Hbwb.out).at hlt
        injection e with e; injection e with e1 e2; subst e1 e2
        rw [HY.out] at c0 c1 c2 c3
        obtain ⟨x0, x1, x2, x3⟩ := HX1.out.below Hbwb.out
        go_wp2_with (at_builtin; go_must (refine wpList_app (m := 1) rfl (.tmp 40) (.tmp 45) 22 rfl elemT w1.heap.size rfl (HOwb.out.alloc _) rfl (rd_lit wb y) (itsC_one' [y]) (by unfold maxLen; omega) (by omega) (by have := Hbwb.out.size; simp; omega) ?_); intro vwc wc hown8 hgr8 hv8; clear hv8)
        have HOwc := Lib.hid (show wc.ownsRow w1.heap.size 41 4 vwc (out ++ [y]).length (itsC (out ++ [y])) from ownT_of hown8 (by simp only [itsC_append, itsC_one]))
        have Hbwc := Lib.hid (own_below (Hbwb.out.alloc Hbwb.out.size (boxC y)) (HOwb.out.alloc (boxC y)) (by have := Hbwb.out.size; simp; omega) hgr8)
        clear hown8 hgr8
        go_wp2_with fail
        exact ⟨⟨i + 1, true, _, rfl, by go_num, by omega, HM, HOwc.out, Hbwc.out⟩, by simp [intOf]; omega⟩
      | false =>
        rcases Int.lt_trichotomy y.key x.key with hk | hk | hk
        · have HM := Lib.hid (HLow.out i out HP.out hlt (by rw [hy]; exact hk))
          rw [hy] at HM
          have hd : (y.key != x.key) = true := bne_iff_ne.2 (by omega)
          have hd2 : decide (x.key ≤ y.key) = false := decide_eq_false (by omega)
          clear hy HYx hk Hb HO
          go_wp2_with fail
          go_quiet (fail)
          obtain ⟨wa, hW, hBwa⟩ : ∃ wa, wr.drewN nq = wa ∧ Below wr.heap.size wr wa := ⟨_, rfl, below_drewN (Below.refl _ _) _⟩
          rw [hW]
          clear hW
          have Hbwa := Lib.hid (bstep Hbwr.out hBwa)
          have HOwa := Lib.hid (own_keep HOwr.out hBwa)
          clear c0 c1 c2 c3 x0 x1 x2 x3 hBwa
          obtain ⟨_, _, e, c0, c1, c2, c3⟩ := (HR.out.below Hbwa.out).at hlt
          injection e with e; injection e with e1 e2; subst e1 e2
          rw [HY.out] at c0 c1 c2 c3
          obtain ⟨x0, x1, x2, x3⟩ := HX1.out.below Hbwa.out
          go_wp2_with fail
          go_quiet (fail)
          obtain ⟨wb, hW, hBwb⟩ : ∃ wb, wa.drewN nq = wb ∧ Below wa.heap.size wa wb := ⟨_, rfl, below_drewN (Below.refl _ _) _⟩
          rw [hW]
          clear hW
          have Hbwb := Lib.hid (bstep Hbwa.out hBwb)
          have HOwb := Lib.hid (own_keep HOwa.out hBwb)
          clear c0 c1 c2 c3 x0 x1 x2 x3 hBwb
          obtain ⟨_, _, e, c0, c1, c2, c3⟩ := (HR.out.below Hbwb.out).at hlt
          injection e with e; injection e with e1 e2; subst e1 e2
          rw [HY.out] at c0 c1 c2 c3
          obtain ⟨x0, x1, x2, x3⟩ := HX1.out.below Hbwb.out
          go_wp2_with (at_builtin; go_must (refine wpList_app (m := 1) rfl (.tmp 40) (.tmp 45) 22 rfl elemT w1.heap.size rfl (HOwb.out.alloc _) rfl (rd_lit wb y) (itsC_one' [y]) (by unfold maxLen; omega) (by omega) (by have := Hbwb.out.size; simp; omega) ?_); intro vwc wc hown8 hgr8 hv8; clear hv8)
          have HOwc := Lib.hid (show wc.ownsRow w1.heap.size 41 4 vwc (out ++ [y]).length (itsC (out ++ [y])) from ownT_of hown8 (by simp only [itsC_append, itsC_one]))
          have Hbwc := Lib.hid (own_below (Hbwb.out.alloc Hbwb.out.size (boxC y)) (HOwb.out.alloc (boxC y)) (by have := Hbwb.out.size; simp; omega) hgr8)
          clear hown8 hgr8
          go_wp2_with fail
          exact ⟨⟨i + 1, false, _, rfl, by go_num, by omega, HM, HOwc.out, Hbwc.out⟩, by simp [intOf]; omega⟩
        · have HM := Lib.hid (HHere.out i out HP.out hlt (by rw [hy]; exact hk))
          have hd : (y.key != x.key) = false := by rw [hk]; simp
          have hd2 : decide (x.key ≤ y.key) = true := decide_eq_true (by omega)
          have hd3 : x.key ≤ y.key := by omega
          clear hy HYx hk Hb HO
          go_wp2_with fail
          go_quiet (fail)
          obtain ⟨wa, hW, hBwa⟩ : ∃ wa, wr.drewN nq = wa ∧ Below wr.heap.size wr wa := ⟨_, rfl, below_drewN (Below.refl _ _) _⟩
          rw [hW]
          clear hW
          have Hbwa := Lib.hid (bstep Hbwr.out hBwa)
          have HOwa := Lib.hid (own_keep HOwr.out hBwa)
          clear c0 c1 c2 c3 x0 x1 x2 x3 hBwa
          obtain ⟨_, _, e, c0, c1, c2, c3⟩ := (HR.out.below Hbwa.out).at hlt
          injection e with e; injection e with e1 e2; subst e1 e2
          rw [HY.out] at c0 c1 c2 c3
          obtain ⟨x0, x1, x2, x3⟩ := HX1.out.below Hbwa.out
          go_upto_region 9 with (at_builtin; go_must (refine wpList_app (m := 1) rfl (.tmp 28) (.tmp 30) 22 rfl elemT w1.heap.size rfl (HOwa.out.alloc _) rfl (rd_lit wa x) (itsC_one' [x]) (by unfold maxLen; omega) (by omega) (by have := Hbwa.out.size; simp; omega) ?_); intro vwb wb hown8 hgr8 hv8; clear hv8)
          have HOwb := Lib.hid (show wb.ownsRow w1.heap.size 41 4 vwb (out ++ [x]).length (itsC (out ++ [x])) from ownT_of hown8 (by simp only [itsC_append, itsC_one]))
          have Hbwb := Lib.hid (own_below (Hbwa.out.alloc Hbwa.out.size (boxC x)) (HOwa.out.alloc (boxC x)) (by have := Hbwa.out.size; simp; omega) hgr8)
          clear hown8 hgr8
          clear c0 c1 c2 c3 x0 x1 x2 x3
          obtain ⟨_, _, e, c0, c1, c2, c3⟩ := (HR.out.below Hbwb.out).at hlt
          injection e with e; injection e with e1 e2; subst e1 e2
          rw [HY.out] at c0 c1 c2 c3
          obtain ⟨x0, x1, x2, x3⟩ := HX1.out.below Hbwb.out
          go_wp2_with fail
          go_quiet (fail)
          obtain ⟨wc, hW, hBwc⟩ : ∃ wc, wb.drewN nq = wc ∧ Below wb.heap.size wb wc := ⟨_, rfl, below_drewN (Below.refl _ _) _⟩
          rw [hW]
          clear hW
          have Hbwc := Lib.hid (bstep Hbwb.out hBwc)
          have HOwc := Lib.hid (own_keep HOwb.out hBwc)
          clear c0 c1 c2 c3 x0 x1 x2 x3 hBwc
          obtain ⟨_, _, e, c0, c1, c2, c3⟩ := (HR.out.below Hbwc.out).at hlt
          injection e with e; injection e with e1 e2; subst e1 e2
          rw [HY.out] at c0 c1 c2 c3
          obtain ⟨x0, x1, x2, x3⟩ := HX1.out.below Hbwc.out
          go_wp2_with fail
          exact ⟨⟨i + 1, true, _, rfl, by go_num, by omega, HM, HOwc.out, Hbwc.out⟩, by simp [intOf]; omega⟩
        · have HM := Lib.hid (HAhead.out i out HP.out hlt (by rw [hy]; exact hk))
          rw [hy] at HM
          have hd : (y.key != x.key) = true := bne_iff_ne.2 (by omega)
          have hd2 : decide (x.key ≤ y.key) = true := decide_eq_true (by omega)
          have hd3 : x.key ≤ y.key := by omega
          clear hy HYx hk Hb HO
          go_wp2_with fail
          go_quiet (fail)
          obtain ⟨wa, hW, hBwa⟩ : ∃ wa, wr.drewN nq = wa ∧ Below wr.heap.size wr wa := ⟨_, rfl, below_drewN (Below.refl _ _) _⟩
          rw [hW]
          clear hW
          have Hbwa := Lib.hid (bstep Hbwr.out hBwa)
          have HOwa := Lib.hid (own_keep HOwr.out hBwa)
          clear c0 c1 c2 c3 x0 x1 x2 x3 hBwa
          obtain ⟨_, _, e, c0, c1, c2, c3⟩ := (HR.out.below Hbwa.out).at hlt
          injection e with e; injection e with e1 e2; subst e1 e2
          rw [HY.out] at c0 c1 c2 c3
          obtain ⟨x0, x1, x2, x3⟩ := HX1.out.below Hbwa.out
          go_upto_region 9 with (at_builtin; go_must (refine wpList_app (m := 1) rfl (.tmp 28) (.tmp 30) 22 rfl elemT w1.heap.size rfl (HOwa.out.alloc _) rfl (rd_lit wa x) (itsC_one' [x]) (by unfold maxLen; omega) (by omega) (by have := Hbwa.out.size; simp; omega) ?_); intro vwb wb hown8 hgr8 hv8; clear hv8)
          have HOwb := Lib.hid (show wb.ownsRow w1.heap.size 41 4 vwb (out ++ [x]).length (itsC (out ++ [x])) from ownT_of hown8 (by simp only [itsC_append, itsC_one]))
          have Hbwb := Lib.hid (own_below (Hbwa.out.alloc Hbwa.out.size (boxC x)) (HOwa.out.alloc (boxC x)) (by have := Hbwa.out.size; simp; omega) hgr8)
          clear hown8 hgr8
          clear c0 c1 c2 c3 x0 x1 x2 x3
          obtain ⟨_, _, e, c0, c1, c2, c3⟩ := (HR.out.below Hbwb.out).at hlt
          injection e with e; injection e with e1 e2; subst e1 e2
          rw [HY.out] at c0 c1 c2 c3
          obtain ⟨x0, x1, x2, x3⟩ := HX1.out.below Hbwb.out
          go_wp2_with fail
          go_quiet (fail)
          obtain ⟨wc, hW, hBwc⟩ : ∃ wc, wb.drewN nq = wc ∧ Below wb.heap.size wb wc := ⟨_, rfl, below_drewN (Below.refl _ _) _⟩
          rw [hW]
          clear hW
          have Hbwc := Lib.hid (bstep Hbwb.out hBwc)
          have HOwc := Lib.hid (own_keep HOwb.out hBwc)
          clear c0 c1 c2 c3 x0 x1 x2 x3 hBwc
          obtain ⟨_, _, e, c0, c1, c2, c3⟩ := (HR.out.below Hbwc.out).at hlt
          injection e with e; injection e with e1 e2; subst e1 e2
          rw [HY.out] at c0 c1 c2 c3
          obtain ⟨x0, x1, x2, x3⟩ := HX1.out.below Hbwc.out
          go_wp2_with (at_builtin; go_must (refine wpList_app (m := 1) rfl (.tmp 40) (.tmp 45) 22 rfl elemT w1.heap.size rfl (HOwc.out.alloc _) rfl (rd_lit wc y) (itsC_one' [y]) (by unfold maxLen; simp only [List.length_append, List.length_singleton]; omega) (by simp only [List.length_append, List.length_singleton]; omega) (by have := Hbwc.out.size; simp; omega) ?_); intro vwd wd hown8 hgr8 hv8; clear hv8)
          have HOwd := Lib.hid (show wd.ownsRow w1.heap.size 41 4 vwd ((out ++ [x]) ++ [y]).length (itsC ((out ++ [x]) ++ [y])) from ownT_of hown8 (by simp only [itsC_append, itsC_one]))
          have Hbwd := Lib.hid (own_below (Hbwc.out.alloc Hbwc.out.size (boxC y)) (HOwc.out.alloc (boxC y)) (by have := Hbwc.out.size; simp; omega) hgr8)
          clear hown8 hgr8
          go_wp2_with fail
          exact ⟨⟨i + 1, true, _, rfl, by go_num, by omega, HM, HOwd.out, Hbwd.out⟩, by simp [intOf]; omega⟩
    · obtain rfl : i = n := by omega
      cases d with
      | true =>
        have HE := Lib.hid (HE1.out out HP.out)
        go_wp2_with fail
        go_ret
        exact ⟨_, rfl, by rw [← HE.out]; exact HO.out.mono hB1, HB1.out.trans (Hb.out.mono hB1)⟩
      | false =>
        have HE := Lib.hid (HE0.out out HP.out)
        go_wp2_with (at_builtin; go_must (refine wpList_app (m := 1) (n := out.length) rfl (.tmp 49) (.tmp 51) 22 rfl elemT w1.heap.size rfl (HO.out.alloc _) rfl (rd_lit wr x) (itsC_one' [x]) (by unfold maxLen; omega) (by omega) (by simp; omega) ?_); intro v8 w8 hown8 hgr8 hv8; clear hv8)
        have HO8 := Lib.hid (show OwnT w8 w1.heap.size v8 (out ++ [x]) from ownT_of hown8 (by simp only [itsC_append, itsC_one]))
        have HB8 := Lib.hid (own_below (Hb.out.alloc hB (boxC x)) (HO.out.alloc (boxC x)) (by simp; omega) hgr8)
        clear hown8 hgr8
        go_wp2_with fail
        go_ret
        exact ⟨_, rfl, by rw [← HE.out]; exact HO8.out.mono hB1, HB1.out.trans (HB8.out.mono hB1)⟩
end Go.Proofs.YthomhflkldhdaaaGreatDoor

namespace Go.Proofs.YthomhflkldhdaaaGreatDoor
open Go

section
variable {P : Program} {ops : Array Oper} {md : Region.Mode} {C : World → Prop}

/-- f operations still to be picked among the first n, whatever the order; then L. -/
def hd (P : Program) (md : Region.Mode) (ops : Array Oper) (C : World → Prop) (n : Nat) (L : Array Bool → Act → Prop) : Nat → Array Bool → Act → Prop
  | 0, s, a => L s a
  | f + 1, s, a => Region.ready md ops s ≠ [] ∧ ∀ i ∈ Region.ready md ops s, i < n ∧ qOp P ops C i (hd P md ops C n L f (s.setIfInBounds i true)) a
theorem hd_any {n g : Nat} {L : Array Bool → Act → Prop} {Q : Exit → Act → World → Prop} (hL : ∀ s a w, C w → L s a → wpAny P md ops Q g s a w) :
    ∀ (f : Nat) (s : Array Bool) (a : Act) (w : World), C w → hd P md ops C n L f s a → wpAny P md ops Q (f + g) s a w
  | 0, s, a, w, hw, h => by rw [Nat.zero_add]; exact hL _ _ _ hw h
  | f + 1, s, a, w, hw, h => by
    rw [show f + 1 + g = (f + g) + 1 by omega]
    exact ⟨fun e => absurd e h.1, fun i hi => wpOp_of_qOp hw (fun a' w' hw' h' => hd_any hL f _ a' w' hw' h') (h.2 i hi).2⟩
theorem hd_front {n i : Nat} {o : Oper} {v : Value} {L : Array Bool → Act → Prop} (hi : ops[i]? = some o) (hsel : ∀ (j : Nat) (o : Oper) cs b, ops[j]? = some o → o.op ≠ .select cs b)
    (hs : Region.sinkB md ops n = true) (hc : Region.chainB md ops n = true) (hn : n < ops.size) (hin : i < n) (hL : ∀ s a, L s a → ∀ j ∈ Region.ready md ops s, n ≤ j)
    (f : Nat) : ∀ (s : Array Bool) (a : Act), HeadInv md ops n s →
      (∀ j oj, ops[j]? = some oj → j ≠ i → s.getD j true = false → (∀ e ∈ oj.after, Region.binds md e = true → e.on ≠ i) → o.apart ops oj = true) →
      i ∈ Region.ready md ops s → YieldsIn P ops C o v a → hd P md ops C n L f (s.setIfInBounds i true) (a.put o.dst v) → hd P md ops C n L (f + 1) s a := by
  induction f with
  | zero =>
    intro s a inv _ hr hy H
    refine ⟨(fun e => by rw [e] at hr; cases hr), fun j hj => ?_⟩
    have hjn : j < n := Nat.lt_of_not_le fun h => tail_waits hs hc hn inv _ i rfl hin (mem_ready.1 hr).1 j h hj
    refine ⟨hjn, ?_⟩
    by_cases e : j = i
    · subst e; exact hy.qOp hi H
    · have := hL _ _ H j (ready_mono hj e); omega
  | succ f ih =>
    intro s a inv hfree hr hy H
    refine ⟨(fun e => by rw [e] at hr; cases hr), fun j hj => ?_⟩
    have hun := (mem_ready.1 hr).1
    have hjn : j < n := Nat.lt_of_not_le fun h => tail_waits hs hc hn inv _ i rfl hin hun j h hj
    refine ⟨hjn, ?_⟩
    by_cases e : j = i
    · subst e; exact hy.qOp hi H
    · obtain ⟨hjun, oj, hoj, hall⟩ := mem_ready.1 hj
      have hno : ∀ e ∈ oj.after, Region.binds md e = true → e.on ≠ i := fun x hx hb heq => by
        have h1 := hall x hx hb
        rw [heq, getD_both hun] at h1
        cases h1
      have h2 := qOp_put hoj (hfree j oj hoj e hjun hno) (fun cs b => hsel i o cs b hi) (fun cs b => hsel j oj cs b hoj) hy (H.2 j (ready_mono hj e)).2
      refine qOp_mono (fun a' h3 => ih (s.setIfInBounds j true) a' (inv.set hj hjn) (fun k ok hk hki hk' hno' => hfree k ok hk hki ?_ hno') (ready_mono hr (Ne.symm e)) h3.1 ?_) h2
      · by_cases hjk : j = k
        · subst hjk; exact hjun
        · rw [getD_set_ne true hjk] at hk'; exact hk'
      · rw [Array.setIfInBounds_comm _ _ e]; exact h3.2
theorem hd_walk {n g : Nat} {R : Act → Prop} (hsel : Region.noSelect ops = true) (hs : Region.sinkB md ops n = true) (hc : Region.chainB md ops n = true) (hn : n < ops.size) :
    ∀ (l : List Oper) (k : Nat) (s : Array Bool) (a : Act), (∀ j, j < l.length → l[j]? = ops[k + j]?) → k + l.length = n → HeadInv md ops n s →
    Region.lexHead md ops g l.length k s = true → wpQuiet P ops C R l a → hd P md ops C n (fun s' a' => Region.seqB md ops g n s' = true ∧ R a') l.length s a
  | [], k, s, a, _, hk, _, hB, h => by
    obtain rfl : k = n := by simpa using hk
    exact ⟨by simpa [Region.lexHead] using hB, h⟩
  | o :: l, k, s, a, hl, hk, inv, hB, h => by
    have h0 : ops[k]? = some o := by simpa using (hl 0 (by simp)).symm
    simp only [List.length_cons, Region.lexHead, Bool.and_eq_true] at hB
    obtain ⟨⟨hr, hf⟩, hB'⟩ := hB
    have hkn : k < n := by simp only [List.length_cons] at hk; omega
    have hr' : k ∈ Region.ready md ops s := by simpa using hr
    have hq : qOp P ops C k (wpQuiet P ops C R l) a := by unfold qOp; simp only [h0]; exact h
    obtain ⟨v, hy, hK⟩ := yieldsIn_of_qOp h0 hq
    exact hd_front h0 (Region.noSelect_spec hsel) hs hc hn hkn (fun s' a' h' => seqB_ready h'.1) l.length s a inv (Region.free_spec h0 hf) hr' hy
      (hd_walk hsel hs hc hn l (k + 1) _ _ (fun j hj => by have := hl (j + 1) (by simp; omega); simpa [Nat.add_assoc, Nat.add_comm 1 j] using this) (by simp only [List.length_cons] at hk; omega) (inv.set hr' hkn) hB' hK)
theorem wp_region_quiet_tail {id : Nat} {Q : Exit → Act → World → Prop} {a : Act} {w : World} {l : List Oper} (n : Nat) (hm : P.follows .mixedOrders = true) (hB : Region.lexTailB .any l.toArray n = true) (hw : C w.drew)
    (h : wpQuiet P l.toArray C (fun a' => ∀ w', C w' → wpList P l.toArray Q (l.drop n) a' w') (l.take n) a) : (Code.region id l.toArray true).wp P Q a w := by
  simp only [Region.lexTailB, Bool.and_eq_true, decide_eq_true_eq] at hB
  obtain ⟨⟨⟨⟨hsel, hn⟩, hs⟩, hc⟩, hlex⟩ := hB
  have hn' : n < l.length := by simpa using hn
  have htl : (l.take n).length = n := by simp; omega
  have hdl : (l.drop n).length = l.toArray.size - n := by simp
  have inv0 : HeadInv .any l.toArray n (Array.replicate l.toArray.size false) :=
    ⟨by simp, fun j oj _ hl => (by rw [getD_replicate_false] at hl; cases hl), fun t _ ht => getD_in (by simpa using ht) (getD_replicate_false _ _)⟩
  have H := hd_walk (md := .any) (g := l.toArray.size - n) hsel hs hc hn (l.take n) 0 _ a (fun j hj => by
    have hj' : j < n := by rw [htl] at hj; exact hj
    simp [hj']) (by simpa using htl) inv0 (by rw [htl]; exact hlex) h
  refine wp_region_any hm ?_
  have := hd_any (Q := Q) (g := l.toArray.size - n) (fun s a' w' hw' hL => by
    have := wpAny_of_seq (md := .any) (Q' := Q) (l.drop n) n s a' w' (fun j => by simp [List.getElem?_drop]) (by rw [hdl]; exact hL.1) (hL.2 w' hw')
    rwa [hdl] at this) _ _ _ w.drew hw H
  rw [htl, show n + (l.toArray.size - n) = l.toArray.size by omega] at this
  exact this
end
/-- The same, in the class of the worlds in which all that lies in w is as it was. -/
theorem wp_region_below_tail {P : Program} {id : Nat} {Q : Exit → Act → World → Prop} {a : Act} {w : World} {l : List Oper} (n : Nat) (hm : P.follows .mixedOrders = true) (hB : Region.lexTailB .any l.toArray n = true)
    (h : wpQuiet P l.toArray (fun w' => ∃ p : BelowBy w, w' = p.w') (fun a' => ∀ w', (∃ p : BelowBy w, w' = p.w') → wpList P l.toArray Q (l.drop n) a' w') (l.take n) a) : (Code.region id l.toArray true).wp P Q a w :=
  wp_region_quiet_tail (C := fun w' => ∃ p : BelowBy w, w' = p.w') n hm hB ⟨⟨w.drew, ⟨rfl, rfl, rfl, Nat.le_refl _, fun _ _ => rfl⟩⟩, rfl⟩ h
end Go.Proofs.YthomhflkldhdaaaGreatDoor
