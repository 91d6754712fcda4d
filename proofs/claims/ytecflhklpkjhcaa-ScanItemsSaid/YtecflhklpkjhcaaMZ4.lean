/- Several texts in one, each over the last: The items and the bytes of records, in plain Lean: one record more. No program here. scan.Bytes: the walk; sizes of any number of bytes. ScanSums: the walk. The reference's Items of records: the walk. The reference's Bytes of records: the walk. Salvage: the program's and the reference's. The reference's Records and Open. The law's same and given: the walks. ScanItems: the walk. What is known of a slice of structs that came in: rows of cells, of which each opens. ScanReads: the walk. What is known of a slice of needles that came in; ScanReads, from what the form gives. What is known of a slice of the reference's records that came in. ScanItems, from what the form gives of its arguments. -/
import Derived.Test.YtecflhklpkjhcaaGH
import Derived.Test.YtecflhklpkjhcaaPr
import Derived.Test.YtecflhklpkjhcaaPz
import Derived.Test.YtecflhklpkjhcaaRf
import Derived.StillTailTactics
import Derived.Test.YtecflhklpkjhcaaOn
import Derived.Test.YtecflhklpkjhcaaNr
import Derived.Test.YtecflhklpkjhcaaSd
import Derived.Test.YtecflhklpkjhcaaNn
import Derived.Test.YtecflhklpkjhcaaSm
import Derived.Test.YtecflhklpkjhcaaOp
import Derived.Deep.Slices
import Derived.Deep.SlicePairs
import Derived.ChangeArms
namespace Go.Proofs.Ytecflhklpkjhcaa

/-- What a key has, f telling the place of its last record, of the records ahead of place n. -/
def hasF (f : Nat → Nat) (L : List Rec) (n : Nat) (k : Int) : Option It :=
  if f k.toNat < n then (match L[f k.toNat]? with
    | some r => if (r.nd.key : Int) = k ∧ r.nd.del = false then some (itR r) else none
    | none => none) else none
theorem hasF_zero (f : Nat → Nat) (L : List Rec) (k : Int) : hasF f L 0 k = none := by unfold hasF; rw [if_neg (by omega)]
theorem hasF_succ (f : Nat → Nat) (L : List Rec) (n : Nat) (r : Rec) (hr : L[n]? = some r) (k : Int) :
    hasF f L (n + 1) k = if f r.nd.key = n ∧ r.nd.del = false ∧ (r.nd.key : Int) = k then some (itR r) else hasF f L n k := by
  unfold hasF
  by_cases h : f k.toNat = n
  · rw [if_pos (by omega), if_neg (show ¬ f k.toNat < n by omega), h, hr]
    by_cases hk : (r.nd.key : Int) = k
    · have : k.toNat = r.nd.key := by omega
      rw [this] at h
      by_cases hd : r.nd.del = false
      · rw [if_pos ⟨h, hd, hk⟩]; simp [hk, hd]
      · rw [if_neg (fun e => hd e.2.1)]; simp [hd]
    · rw [if_neg (fun e => hk e.2.2)]; simp [hk]
  · rw [if_neg (show ¬ (f r.nd.key = n ∧ r.nd.del = false ∧ (r.nd.key : Int) = k) from fun e => h (by rw [← e.2.2]; exact e.1))]
    by_cases hl : f k.toNat < n
    · rw [if_pos (by omega), if_pos hl]
    · rw [if_neg (by omega), if_neg hl]
theorem fnd_ins' (s : List It) (x : It) (k : Int) : fnd (ins s x) k = if x.key = k then some x else fnd s k := by
  by_cases h : x.key = k
  · rw [if_pos h, ← h]; exact fnd_ins_self x s
  · rw [if_neg h]; exact fnd_ins_other x k (Ne.symm h) s
theorem fnd_drp' (s : List It) (key k : Int) : fnd (drp s key) k = if k = key then none else fnd s k := by
  by_cases h : k = key
  · rw [if_pos h, h]; exact fnd_drp_self s key
  · rw [if_neg h]; exact fnd_drp_other key k h s
theorem srt_snoc (u : List It) (x : It) : srt (u ++ [x]) = ins (srt u) x := by rw [srt_append]; rfl
theorem take_snocR {L : List Rec} {n : Nat} {r : Rec} (hr : L[n]? = some r) : L.take (n + 1) = L.take n ++ [r] := by
  rw [List.take_add_one, hr]; rfl
theorem liveT_take (f : Nat → Nat) (L : List Rec) (n : Nat) (r : Rec) (hr : L[n]? = some r) : liveT f (L.take (n + 1)) 0 = liveT f (L.take n) 0 ++ if f r.nd.key = n ∧ r.nd.del = false then [itR r] else [] := by
  have hn := (List.getElem?_eq_some_iff.1 hr).1
  rw [take_snocR hr, liveT_snoc, List.length_take, Nat.min_eq_left (by omega), Nat.zero_add]
theorem fnd_live (f : Nat → Nat) (L : List Rec) (k : Int) : ∀ n, n ≤ L.length → fnd (srt (liveT f (L.take n) 0)) k = hasF f L n k
  | 0, _ => by rw [hasF_zero]; rfl
  | n + 1, h => by
    obtain ⟨r, hr⟩ : ∃ r, L[n]? = some r := ⟨_, List.getElem?_eq_getElem (by omega)⟩
    have ih := fnd_live f L k n (by omega)
    rw [liveT_take f L n r hr, hasF_succ f L n r hr, ← ih]
    by_cases hc : f r.nd.key = n ∧ r.nd.del = false
    · rw [if_pos hc, srt_snoc, fnd_ins']
      show (if (r.nd.key : Int) = k then _ else _) = _
      by_cases hk : (r.nd.key : Int) = k
      · rw [if_pos hk, if_pos ⟨hc.1, hc.2, hk⟩]
      · rw [if_neg hk, if_neg (fun e => hk e.2.2)]
    · rw [if_neg hc, List.append_nil, if_neg (fun e => hc ⟨e.1, e.2.1⟩)]
theorem fnd_itemsP (L : List Rec) (k : Int) : fnd (itemsP L) k = hasF (lastI (keysR L)) L L.length k := by
  have := fnd_live (lastI (keysR L)) L k L.length (Nat.le_refl _)
  rwa [List.take_of_length_le (Nat.le_refl _)] at this
theorem hasF_snoc (L : List Rec) (r : Rec) (k : Int) : hasF (lastI (keysR (L ++ [r]))) (L ++ [r]) (L ++ [r]).length k = if (r.nd.key : Int) = k then (if r.nd.del = false then some (itR r) else none) else hasF (lastI (keysR L)) L L.length k := by
  have hl : ∀ key, lastI (keysR (L ++ [r])) key = if r.nd.key = key then L.length else lastI (keysR L) key := fun key => by
    have : keysR (L ++ [r]) = keysR L ++ [r.nd.key] := by simp [keysR]
    rw [this, lastI_snoc]; simp [keysR]
  have hN : (L ++ [r]).length = L.length + 1 := by simp
  rw [hN]
  unfold hasF
  rw [hl]
  by_cases hk : (r.nd.key : Int) = k
  · rw [if_pos hk, if_pos (show r.nd.key = k.toNat by omega), if_pos (by omega), List.getElem?_append_right (Nat.le_refl _)]
    simp [hk]
  · have hk2 : (¬ r.nd.key = k.toNat) ∨ k < 0 := by omega
    rw [if_neg hk]
    rcases hk2 with hk2 | hk2
    · rw [if_neg hk2]
      by_cases h1 : lastI (keysR L) k.toNat < L.length
      · rw [if_pos (by omega), if_pos h1, List.getElem?_append_left h1]
      · rw [if_neg h1]
        by_cases h2 : lastI (keysR L) k.toNat < L.length + 1
        · rw [if_pos h2, show lastI (keysR L) k.toNat = L.length by omega, List.getElem?_append_right (Nat.le_refl _)]
          simp [hk]
        · rw [if_neg h2]
    · have no : ∀ q : Rec, ¬ ((q.nd.key : Int) = k ∧ q.nd.del = false) := fun q e => by have := e.1; omega
      have a1 : ∀ (x : Nat) (M : List Rec) (n : Nat), (if x < n then (match M[x]? with | some r => if (r.nd.key : Int) = k ∧ r.nd.del = false then some (itR r) else none | none => none) else none) = none := fun x M n => by
        split
        · split
          · rw [if_neg (no _)]
          · rfl
        · rfl
      rw [a1, a1]
/-- The reference's Items: one record after the other. -/
def stepI (s : List It) (r : Rec) : List It := if r.nd.del = true then drp s (r.nd.key : Int) else ins s (itR r)
theorem itemsP_asc (L : List Rec) : Asc (itemsP L) := srt_asc _
theorem itemsP_snoc (L : List Rec) (r : Rec) : itemsP (L ++ [r]) = stepI (itemsP L) r := by
  have pw : ∀ {l : List It}, Asc l → l.Pairwise fun a b => a.key < b.key := fun h => ascR_pw ((ascR_iff _).2 h)
  refine asc_ext _ _ (pw (itemsP_asc _)) ?_ fun k => ?_
  · unfold stepI
    split
    · exact pw (drp_asc (itemsP_asc L) _)
    · exact ascR_pw (ins_asc _ _ ((ascR_iff _).2 (itemsP_asc L)))
  · rw [fnd_itemsP, hasF_snoc, ← fnd_itemsP]
    unfold stepI
    cases hd : r.nd.del
    · rw [if_neg (show ¬ (false = true) by decide), fnd_ins']
      show _ = if (r.nd.key : Int) = k then _ else _
      simp
    · rw [if_pos rfl, fnd_drp']
      by_cases hk : (r.nd.key : Int) = k
      · rw [if_pos hk, if_pos hk.symm]; simp
      · rw [if_neg hk, if_neg (Ne.symm hk)]
theorem itemsP_nil : itemsP [] = [] := rfl
theorem itemsP_length (L : List Rec) : (itemsP L).length ≤ L.length := Nat.le_trans (srt_length _) (liveT_length _ L 0)

/-! ### Bytes -/
def szR (r : Rec) : Nat := szN r.nd.data.length
def liveB (f : Nat → Nat) : List Rec → Nat → Nat
  | [], _ => 0
  | r :: l, i => (if f r.nd.key = i ∧ r.nd.del = false then szR r else 0) + liveB f l (i + 1)
def restB (f : Nat → Nat) : List Rec → Nat → Nat
  | [], _ => 0
  | r :: l, i => (if f r.nd.key = i ∧ r.nd.del = false then 0 else szR r) + restB f l (i + 1)
def allB (L : List Rec) : Nat := (L.map szR).sum
theorem liveB_snoc (f : Nat → Nat) : ∀ (l : List Rec) (r : Rec) (i : Nat), liveB f (l ++ [r]) i = liveB f l i + (if f r.nd.key = i + l.length ∧ r.nd.del = false then szR r else 0)
  | [], r, i => by simp [liveB]
  | x :: l, r, i => by
    show _ + liveB f (l ++ [r]) (i + 1) = _ + liveB f l (i + 1) + _
    rw [liveB_snoc f l r (i + 1), List.length_cons, show i + 1 + l.length = i + (l.length + 1) by omega, Nat.add_assoc]
theorem restB_snoc (f : Nat → Nat) : ∀ (l : List Rec) (r : Rec) (i : Nat), restB f (l ++ [r]) i = restB f l i + (if f r.nd.key = i + l.length ∧ r.nd.del = false then 0 else szR r)
  | [], r, i => by simp [restB]
  | x :: l, r, i => by
    show _ + restB f (l ++ [r]) (i + 1) = _ + restB f l (i + 1) + _
    rw [restB_snoc f l r (i + 1), List.length_cons, show i + 1 + l.length = i + (l.length + 1) by omega, Nat.add_assoc]
theorem live_rest (f : Nat → Nat) : ∀ (l : List Rec) (i : Nat), liveB f l i + restB f l i = allB l
  | [], _ => rfl
  | x :: l, i => by
    have ih := live_rest f l (i + 1)
    show (if _ then _ else _) + liveB f l (i + 1) + ((if _ then _ else _) + restB f l (i + 1)) = szR x + allB l
    split <;> omega
theorem allB_le (l : List Rec) : allB l ≤ l.length * 4127 := by
  induction l with
  | nil => exact Nat.le_refl _
  | cons x l ih =>
    have := szN_le x.nd.data.length
    show szR x + allB l ≤ _
    unfold szR
    rw [List.length_cons]; omega
def liveP (L : List Rec) : Nat := liveB (lastI (keysR L)) L 0
def restP (L : List Rec) : Nat := restB (lastI (keysR L)) L 0
def sumI (s : List It) : Nat := (s.map fun x => szN x.size.toNat).sum
theorem sumI_append (s t : List It) : sumI (s ++ t) = sumI s + sumI t := by simp [sumI]
theorem sumI_le (s : List It) : sumI s ≤ s.length * 4127 := by
  induction s with
  | nil => exact Nat.le_refl _
  | cons x l ih =>
    have := szN_le x.size.toNat
    show szN x.size.toNat + sumI l ≤ _
    rw [List.length_cons]; omega
theorem sumI_ins (x : It) : ∀ s : List It, fnd s x.key = none → sumI (ins s x) = sumI s + szN x.size.toNat
  | [], _ => by simp [ins, sumI]
  | y :: s, h => by
    rw [fnd_cons] at h
    by_cases e : y.key = x.key
    · rw [if_pos e] at h; cases h
    · rw [if_neg e] at h
      have ih := sumI_ins x s h
      simp only [ins]
      split
      · show szN y.size.toNat + sumI (ins s x) = szN y.size.toNat + sumI s + _
        omega
      · show szN x.size.toNat + (szN y.size.toNat + sumI s) = szN y.size.toNat + sumI s + _
        omega
theorem live_sum (f : Nat → Nat) (L : List Rec) : ∀ n, n ≤ L.length → sumI (srt (liveT f (L.take n) 0)) = liveB f (L.take n) 0
  | 0, _ => rfl
  | n + 1, h => by
    obtain ⟨r, hr⟩ : ∃ r, L[n]? = some r := ⟨_, List.getElem?_eq_getElem (by omega)⟩
    have ih := live_sum f L n (by omega)
    have hf := fnd_live f L (r.nd.key : Int) n (by omega)
    rw [liveT_take f L n r hr, take_snocR hr, liveB_snoc, List.length_take, Nat.min_eq_left (by omega), Nat.zero_add, ← ih]
    by_cases hc : f r.nd.key = n ∧ r.nd.del = false
    · rw [if_pos hc, if_pos hc, srt_snoc, sumI_ins]
      · rfl
      · show fnd _ (r.nd.key : Int) = none
        rw [hf]; unfold hasF; rw [if_neg (by rw [Int.toNat_natCast]; omega)]
    · rw [if_neg hc, if_neg hc, List.append_nil]; rfl
theorem sum_itemsP (L : List Rec) : sumI (itemsP L) = liveP L := by
  have := live_sum (lastI (keysR L)) L L.length (Nat.le_refl _)
  rwa [List.take_of_length_le (Nat.le_refl _)] at this
theorem live_all (L : List Rec) : liveP L + restP L = allB L := live_rest _ L 0
end Go.Proofs.Ytecflhklpkjhcaa

namespace Go.Proofs.Ytecflhklpkjhcaa
open Go.RowKit Go.Maps

theorem nsizeB (n : Nat) (w : World) : Calls Try.prog 16 #[.int .i64 (n : Int)] w fun e w' => e = .returned (.int .i64 ((szN n : Nat) : Int)) ∧ w = w' := by
  by_cases hn : n ≤ 4096
  · have HS := Lib.hid (show ((szN n : Nat) : Int) = (20 + (n : Int) + 4 + 8 - 1) / 8 * 8 by unfold szN nsz; rw [if_pos hn]; omega)
    have hd : decide ((4096 : Int) < (n : Int)) = false := by simp; omega
    have hd2 : decide ((n : Int) < 0) = false := by simp
    go_enter Try.func16, Try.ntmps16
    go_wp2_with fail
    go_ret
    exact ⟨ret_int (by rw [HS.out]), rfl⟩
  · have HS := Lib.hid (show szN n = 0 by unfold szN; rw [if_neg hn])
    have hd : decide ((4096 : Int) < (n : Int)) = true := by simp; omega
    have hd2 : decide ((n : Int) < 0) = false := by simp
    go_enter Try.func16, Try.ntmps16
    go_wp2_with fail
    go_ret
    exact ⟨ret_int (by rw [HS.out]; rfl), rfl⟩
theorem rsizeB (n : Nat) (w : World) : Calls Try.prog 39 #[.int .i64 (n : Int)] w fun e w' => e = .returned (.int .i64 ((szN n : Nat) : Int)) ∧ w = w' := by
  by_cases hn : n ≤ 4096
  · have HS := Lib.hid (show ((szN n : Nat) : Int) = (20 + (n : Int) + 4 + 8 - 1) / 8 * 8 by unfold szN nsz; rw [if_pos hn]; omega)
    have hd : decide ((4096 : Int) < (n : Int)) = false := by simp; omega
    have hd2 : decide ((n : Int) < 0) = false := by simp
    go_enter Try.func39, Try.ntmps39
    go_wp2_with fail
    go_ret
    exact ⟨ret_int (by rw [HS.out]; omega), rfl⟩
  · have HS := Lib.hid (show szN n = 0 by unfold szN; rw [if_neg hn])
    have hd : decide ((4096 : Int) < (n : Int)) = true := by simp; omega
    have hd2 : decide ((n : Int) < 0) = false := by simp
    go_enter Try.func39, Try.ntmps39
    go_wp2_with fail
    go_ret
    exact ⟨ret_int (by rw [HS.out]; rfl), rfl⟩
set_option maxRecDepth 100000 in
set_option maxHeartbeats 8000000 in
theorem bytes_any (v : Value) (es : List (Rec × Value)) (w : World) (h : RdR w v es) (hk : ∀ p ∈ es, p.1.nd.key < 18446744073709551616) (hs : es.length ≤ 50000) :
    Calls Try.prog 19 #[v] w fun e w' => e = .returned (.tuple #[.int .i64 (liveP (es.map (·.1)) : Int), .int .i64 (restP (es.map (·.1)) : Int)]) ∧ Below w.heap.size w w' := by
  obtain ⟨a, cap, rfl, h1, h2⟩ := h.shape
  have Hw0 := Lib.hid h
  have HK := Lib.hid hk
  have HLa := Lib.hid (last_any _ es w h hk (by omega))
  have HM := Lib.hid (show ∀ j, j < es.length → rat es j ∈ es from fun j => rat_mem)
  have hat0 : ∀ j, j < es.length → (es.map (·.1))[j]? = some (rat es j).1 := fun j hj => by
    unfold rat
    simp [List.getD_eq_getElem?_getD, List.getElem?_eq_getElem hj]
  have HLP := Lib.hid (show liveP (es.map (·.1)) = liveB (lastI (keysR (es.map (·.1)))) (es.map (·.1)) 0 ∧ restP (es.map (·.1)) = restB (lastI (keysR (es.map (·.1)))) (es.map (·.1)) 0 from ⟨rfl, rfl⟩)
  have HBd := Lib.hid (show ∀ j, j ≤ es.length → liveB (lastI (keysR (es.map (·.1)))) ((es.map (·.1)).take j) 0 + restB (lastI (keysR (es.map (·.1)))) ((es.map (·.1)).take j) 0 ≤ 206350000 from fun j hj => by
    rw [live_rest]
    have := allB_le ((es.map (·.1)).take j)
    rw [List.length_take] at this
    omega)
  generalize lastI (keysR (es.map (·.1))) = f at *
  have HS := Lib.hid (show ∀ j, j < es.length → liveB f ((es.map (·.1)).take (j + 1)) 0 = liveB f ((es.map (·.1)).take j) 0 + (if f (rat es j).1.nd.key = j ∧ (rat es j).1.nd.del = false then szR (rat es j).1 else 0) ∧
      restB f ((es.map (·.1)).take (j + 1)) 0 = restB f ((es.map (·.1)).take j) 0 + (if f (rat es j).1.nd.key = j ∧ (rat es j).1.nd.del = false then 0 else szR (rat es j).1) from fun j hj => by
    have hl : (es.map (·.1)).length = es.length := List.length_map ..
    rw [take_snocR (hat0 j hj), liveB_snoc, restB_snoc, List.length_take, Nat.min_eq_left (by omega), Nat.zero_add]
    exact ⟨rfl, rfl⟩)
  have HE := Lib.hid (show (es.map (·.1)).take es.length = es.map (·.1) from List.take_of_length_le (by simp))
  clear hat0
  generalize hn : es.length = n at *
  clear h hk hn
  generalize liveP (es.map (·.1)) = R1 at *
  generalize restP (es.map (·.1)) = R2 at *
  generalize es.map (·.1) = L at *
  go_enter Try.func19, Try.ntmps19
  go_wp2_with fail
  refine HLa.out.mono ?_; rintro e w1 ⟨rfl, hmp, hb1⟩
  have hlt1 : w.heap.size < w1.heap.size := by
    obtain ⟨D, ⟨es', c, hh, _⟩, _⟩ := hmp
    exact (Array.getElem?_eq_some_iff.1 hh).1
  have HMp := Lib.hid hmp
  have HB1 := Lib.hid hb1
  clear hmp hb1 HLa
  go_wp2_with fail
  go_loopw [2, 3, 12] (fun lv gv iv W => ∃ i p q : Nat, iv = .int .i64 (i : Int) ∧ lv = .int .i64 (p : Int) ∧ gv = .int .i64 (q : Int) ∧ i ≤ n ∧ p + q ≤ 206350000 ∧ Hid (p = liveB f (L.take i) 0 ∧ q = restB f (L.take i) 0) ∧ Hid (Below w1.heap.size w1 W)) (fun _ _ iv _ => n - (intOf iv).toNat)
  case atStart => exact ⟨0, 0, 0, by rfl, rfl, rfl, Nat.zero_le _, by omega, Lib.hid ⟨rfl, rfl⟩, Lib.hid (Below.refl _ _)⟩
  case round =>
    obtain ⟨i, p, q, rfl, rfl, rfl, hi, hpq, Hm, HB⟩ := hrel
    have hsz := HB.out.size
    by_cases hin : i < n
    · have hr := Hw0.out.below (bstep HB1.out HB.out)
      obtain ⟨pb, poff, rfl, hd, c0, c1, c2, c3, c4⟩ := hr.at hin
      have hkk := HK.out _ (HM.out i hin)
      have hSi := HS.out i hin
      have hBd := HBd.out (i + 1) (by omega)
      clear hr
      generalize rat es i = X at *
      obtain ⟨⟨off, x⟩, dv⟩ := X
      dsimp only at *
      obtain ⟨da, dc, hdv, _, _⟩ := hd.shape0
      subst hdv
      obtain ⟨D, hD, hat⟩ := HMp.out.below hlt1 HB.out
      have HD := Lib.hid hD
      have HAt := Lib.hid (hat x.key hkk)
      have i1 : (i : Int) < (n : Int) := by omega
      clear hd hD hat
      have hkey : keyOf Try.prog 28 (.int .u64 (x.key : Int)) = some (.int .u64 (x.key : Int)) := keyOf_int_mk Try.underlying28 (wf_key hkk)
      generalize hg : f x.key = g at *
      obtain ⟨xk, xc, xd, xl⟩ := x
      dsimp only at *
      have hzr : szR ⟨off, ⟨xk, xc, xd, xl⟩⟩ = szN xl.length := rfl
      rw [hzr] at hSi
      clear hzr
      generalize hl : xl.length = l at *
      have HZ := Lib.hid (fun W => nsizeB l W)
      have hz := szN_le l
      generalize szN l = z at *
      rw [hSi.1, hSi.2, ← Hm.out.1, ← Hm.out.2] at hBd
      have HSi := Lib.hid hSi
      clear hSi
      have hNB : Below w1.heap.size w1 (wr.alloc (.cells #[.int .i64 off, .int .u64 (xk : Int), .int .u32 (xc : Int), .bool xd, .slice da l dc] 43)) := HB.out.alloc hsz _
      have HNB := Lib.hid hNB
      clear hNB
      by_cases hgi : g = i
      · have q1 : ((g : Int) == (i : Int)) = true := beq_iff_eq.2 (by omega)
        cases xd
        · rw [if_pos ⟨hgi, rfl⟩, if_pos ⟨hgi, rfl⟩] at hBd
          have hN := HSi.out
          rw [if_pos ⟨hgi, rfl⟩, if_pos ⟨hgi, rfl⟩, ← Hm.out.1, ← Hm.out.2] at hN
          have HN := Lib.hid (show p + z = liveB f (L.take (i + 1)) 0 ∧ q = restB f (L.take (i + 1)) 0 from ⟨hN.1.symm, hN.2.symm⟩)
          have hpz : IntKind.i64.wrap ((p : Int) + (z : Int)) = ((p + z : Nat) : Int) := (IntWalk.i64_in _ (by omega)).trans (by omega)
          clear hl hg HSi hgi hN
          go_wp2_with fail
          refine (HZ.out _).mono ?_; rintro e w2 ⟨rfl, rfl⟩
          go_wp2_with (at_lookup; refine wpList_lookup_own_int _ rfl _ _ 83 rfl 28 3 .i64 lawK Try.underlying83 Try.underlying3 (zeroI _) w.heap.size n _ rfl (HD.out.alloc _) _ _ rfl hkey ?_; intro c hat hwc; have hc := hat.symm.trans HAt.out; injection hc with hc; injection hc with _ hc; subst hc; clear hat hwc)
          exact ⟨⟨i + 1, p + z, q, by go_num, rfl, rfl, by omega, by omega, HN, HNB⟩, by simp [intOf]; omega⟩
        · rw [if_neg (fun e => Bool.noConfusion e.2), if_neg (fun e => Bool.noConfusion e.2)] at hBd
          have hN := HSi.out
          rw [if_neg (fun e => Bool.noConfusion e.2), if_neg (fun e => Bool.noConfusion e.2), ← Hm.out.1, ← Hm.out.2] at hN
          have HN := Lib.hid (show p = liveB f (L.take (i + 1)) 0 ∧ q + z = restB f (L.take (i + 1)) 0 from ⟨hN.1.symm, hN.2.symm⟩)
          have hpz : IntKind.i64.wrap ((q : Int) + (z : Int)) = ((q + z : Nat) : Int) := (IntWalk.i64_in _ (by omega)).trans (by omega)
          clear hl hg HSi hgi hN
          go_wp2_with fail
          refine (HZ.out _).mono ?_; rintro e w2 ⟨rfl, rfl⟩
          go_wp2_with (at_lookup; refine wpList_lookup_own_int _ rfl _ _ 83 rfl 28 3 .i64 lawK Try.underlying83 Try.underlying3 (zeroI _) w.heap.size n _ rfl (HD.out.alloc _) _ _ rfl hkey ?_; intro c hat hwc; have hc := hat.symm.trans HAt.out; injection hc with hc; injection hc with _ hc; subst hc; clear hat hwc)
          exact ⟨⟨i + 1, p, q + z, by go_num, rfl, rfl, by omega, by omega, HN, HNB⟩, by simp [intOf]; omega⟩
      · have q1 : ((g : Int) == (i : Int)) = false := beq_eq_false_iff_ne.2 (by omega)
        rw [if_neg (fun e => hgi e.1), if_neg (fun e => hgi e.1)] at hBd
        have hN := HSi.out
        rw [if_neg (fun e => hgi e.1), if_neg (fun e => hgi e.1), ← Hm.out.1, ← Hm.out.2] at hN
        have HN := Lib.hid (show p = liveB f (L.take (i + 1)) 0 ∧ q + z = restB f (L.take (i + 1)) 0 from ⟨hN.1.symm, hN.2.symm⟩)
        have hpz : IntKind.i64.wrap ((q : Int) + (z : Int)) = ((q + z : Nat) : Int) := (IntWalk.i64_in _ (by omega)).trans (by omega)
        clear hl hg HSi hgi hN
        go_wp2_with fail
        refine (HZ.out _).mono ?_; rintro e w2 ⟨rfl, rfl⟩
        go_wp2_with (at_lookup; refine wpList_lookup_own_int _ rfl _ _ 83 rfl 28 3 .i64 lawK Try.underlying83 Try.underlying3 (zeroI _) w.heap.size n _ rfl (HD.out.alloc _) _ _ rfl hkey ?_; intro c hat hwc; have hc := hat.symm.trans HAt.out; injection hc with hc; injection hc with _ hc; subst hc; clear hat hwc)
        exact ⟨⟨i + 1, p, q + z, by go_num, rfl, rfl, by omega, by omega, HN, HNB⟩, by simp [intOf]; omega⟩
    · obtain rfl : i = n := by omega
      have hm := Hm.out
      rw [HE.out] at hm
      go_wp2_with fail
      exact bodyPost_ret (v := .tuple #[.int .i64 (p : Int), .int .i64 (q : Int)]) (by simp [results, Try.results19, go_sem]) rfl ⟨by rw [HLP.out.1, HLP.out.2, ← hm.1, ← hm.2], bstep HB1.out HB.out⟩
end Go.Proofs.Ytecflhklpkjhcaa

namespace Go.Proofs.Ytecflhklpkjhcaa
open Go.RowKit

theorem sms_rd {w w' : World} {lv : Value} {es : List (Nd × Value)} (h : w'.ownsRow w.heap.size 31 4 lv es.length (needsC es)) (hd : ∀ p ∈ es, RdB w p.2 p.1.data) (hb : Below w.heap.size w w') : RdN w' lv es :=
  ⟨own_rd h, fun p hp => RdL.below (hd p hp) hb⟩
theorem sms_ok {es : List (Nd × Value)} {N : List Nd} (h : es.map (·.1) = smallF N) (hN : ∀ x ∈ N, x.Wf) : ∀ p ∈ es, p.1.ok ∧ p.1.Wf := fun p hp => by
  have : p.1 ∈ smallF N := by rw [← h]; exact List.mem_map.2 ⟨p, hp, rfl⟩
  obtain ⟨x, hx, e⟩ := List.mem_map.1 this
  rw [← e]
  exact ⟨sm1_ok x, sm1_wf (hN x (List.mem_of_mem_take hx))⟩
theorem sms_len {es : List (Nd × Value)} {N : List Nd} (h : es.map (·.1) = smallF N) : es.length ≤ 12 := by
  have := congrArg List.length h
  rw [List.length_map] at this
  rw [this]; unfold smallF; rw [List.length_map, List.length_take]; omega
theorem allB_recsOf : ∀ (K : List Nd) (p : Nat), (∀ x ∈ K, x.ok) → allB (recsOf p K) = nsum K
  | [], _, _ => rfl
  | x :: K, p, h => by
    show szR ⟨p, x⟩ + allB (recsOf (p + nsz x.data.length) K) = _
    rw [allB_recsOf K _ (fun y hy => h y (by simp [hy])), nsum_cons]
    show szN x.data.length + _ = _
    rw [szN_of (h x (by simp)).1]
theorem open_whole (K : List Nd) (hk : ∀ x ∈ K, x.ok ∧ x.Wf) : openF (fileB K) = (0, fsup, recsOf 16 K, 16 + nsum K) := by
  have := open_file K [] hk ndec_nil
  rwa [List.append_nil] at this
theorem recs_keys {es : List (Rec × Value)} {K : List Nd} {p : Nat} (h : es.map (·.1) = recsOf p K) (hk : ∀ x ∈ K, x.ok ∧ x.Wf) : ∀ q ∈ es, q.1.nd.key < 18446744073709551616 := fun q hq => by
  have h1 : (es.map (·.1)).map (·.nd) = K := by rw [h]; exact recsOf_nd _ _
  have : q.1.nd ∈ K := by rw [← h1]; exact List.mem_map.2 ⟨_, List.mem_map.2 ⟨q, hq, rfl⟩, rfl⟩
  exact (hk _ this).2.1
theorem recs_len {es : List (Rec × Value)} {K : List Nd} {p : Nat} (h : es.map (·.1) = recsOf p K) : es.length = K.length := by
  have := congrArg List.length h
  rwa [List.length_map, recsOf_length] at this
set_option maxRecDepth 100000 in
set_option maxHeartbeats 2000000 in
theorem sums_walk (v : Value) (ns : List (Nd × Value)) (w : World) (h : RdN w v ns) (hwf : ∀ p ∈ ns, p.1.Wf) :
    Calls Try.prog 7 #[v] w fun e w' => e = .returned (.bool true) ∧ Below w.heap.size w w' := by
  have HSm := Lib.hid (small_any v ns w h hwf)
  have HN := Lib.hid (show ∀ x ∈ ns.map (·.1), x.Wf from fun x hx => by obtain ⟨p, hp, rfl⟩ := List.mem_map.1 hx; exact hwf p hp)
  generalize ns.map (·.1) = N at *
  clear h hwf
  go_enter Try.func7, Try.ntmps7
  go_wp2_with fail
  refine HSm.out.mono ?_; rintro e w1 ⟨kv, es, rfl, hown1, hes, hdat, hb1⟩
  have HFl := Lib.hid (file_any kv es w1 (sms_rd hown1 hdat hb1) (sms_ok hes HN.out) (sms_len hes))
  have HOk := Lib.hid (show ∀ x ∈ es.map (·.1), x.ok ∧ x.Wf from fun x hx => by obtain ⟨p, hp, rfl⟩ := List.mem_map.1 hx; exact sms_ok hes HN.out p hp)
  have hl12 := sms_len hes
  have HB1 := Lib.hid hb1
  have hKl0 : (es.map (·.1)).length ≤ 12 := by rw [List.length_map]; exact hl12
  generalize es.map (·.1) = K at *
  clear hown1 hes hdat hb1 HSm HN hl12
  go_wp2_with fail
  refine HFl.out.mono ?_; rintro e w2 ⟨bv, nv, rfl, hownb, hownn, hb2⟩
  have hle := nsum_le (k := K) (fun x hx => (HOk.out x hx).1)
  have hfl := fileB_length K
  have HTo := Lib.hid (open_any _ (fileB K) w2 hownb.rd (by omega))
  rw [open_whole K HOk.out] at HTo
  obtain ⟨ba, bc, hbv, _⟩ := own_form hownb
  obtain ⟨na, nc, hnv, _⟩ := own_form hownn
  subst hbv hnv
  have HB2 := Lib.hid (bstep HB1.out hb2)
  clear hownb hownn hb2 HFl
  generalize hLB : (fileB K).length = lb at *
  have HA := Lib.hid (allB_recsOf K 16 (fun x hx => (HOk.out x hx).1))
  have HKey := Lib.hid (fun es he => recs_keys (es := es) (K := K) (p := 16) he HOk.out)
  have HLen := Lib.hid (fun es he => recs_len (es := es) (K := K) (p := 16) he)
  have HLA := Lib.hid (live_all (recsOf 16 K))
  generalize recsOf 16 K = L at *
  generalize nsum K = s at *
  have HFl := Lib.hid hfl
  have HLe := Lib.hid hle
  clear HOk hLB hfl hle
  go_wp2_with fail
  refine HTo.out.mono ?_; rintro e w3 ⟨⟨lv, rs, rfl, hown3, hrs⟩, hb3⟩
  have HB3 := Lib.hid (bstep HB2.out hb3)
  have HBa := Lib.hid (HB3.out.alloc HB3.out.size (.cells #[.int .i64 (fsup.slot : Int), .int .i64 (fsup.gen : Int), .int .i64 (fsup.rev : Int)] 37))
  have HBy := Lib.hid (bytes_any lv rs _ (hown3.rd.below ((Below.refl _ _).alloc (Nat.le_refl _) (.cells #[.int .i64 (fsup.slot : Int), .int .i64 (fsup.gen : Int), .int .i64 (fsup.rev : Int)] 37))) (HKey.out rs hrs) (by have := HLen.out rs hrs; omega))
  rw [hrs] at HBy
  obtain ⟨la, lc, hlv, _⟩ := own_form hown3.row
  subst hlv
  clear hown3 hrs hb3 HTo HKey HLen
  go_wp2_with fail
  refine HBy.out.mono ?_; rintro e w4 ⟨rfl, hb4⟩
  have HB4 := Lib.hid (bstep HBa.out hb4)
  have hla := HLA.out
  rw [HA.out] at hla
  clear hb4 HBy HLA HA
  generalize liveP L = p at *
  generalize restP L = q at *
  clear HB3 HBa HB2 HB1
  have hfl := HFl.out
  have hle := HLe.out
  have j1 : IntKind.i64.wrap ((p : Int) + (q : Int)) = (p : Int) + (q : Int) := IntWalk.i64_in _ (by omega)
  have j2 : IntKind.i64.wrap ((p : Int) + (q : Int) + 16) = 16 + (s : Int) := (IntWalk.i64_in _ (by omega)).trans (by omega)
  have e1 : (q : Int) = (s : Int) - (p : Int) := by omega
  have g1 : decide ((0 : Int) ≤ (p : Int)) = true := by simp
  have g2 : decide ((0 : Int) ≤ (q : Int)) = true := by simp
  have g3 : ((16 : Int) + (s : Int) == 16 + (s : Int)) = true := by simp
  have g4 : ((16 : Int) + (s : Int) == (lb : Int)) = true := by rw [beq_iff_eq]; omega
  clear hla hfl hle HFl HLe e1
  go_wp2_with fail
  refine (awake_any _).mono ?_; rintro e w5 ⟨rfl, hb5⟩
  have HX := Lib.hid (bstep HB4.out hb5)
  clear hb5
  go_wp2_with fail
  go_ret
  exact ⟨rfl, HX.out⟩
end Go.Proofs.Ytecflhklpkjhcaa

namespace Go.Proofs.Ytecflhklpkjhcaa
open Go.RowKit

theorem stepI_srt {s : List It} (h : Asc s) (r : Rec) : stepI s r = if r.nd.del = true then drp (srt s) (r.nd.key : Int) else ins (srt s) (itR r) := by
  rw [srt_of_asc h]; rfl
set_option maxRecDepth 100000 in
set_option maxHeartbeats 8000000 in
theorem ritems_any (v : Value) (es : List (Rec × Value)) (w : World) (h : RdR w v es) (hs : es.length ≤ 50000) :
    Calls Try.prog 23 #[v] w fun e w' => ∃ lv, e = .returned lv ∧ OwnT w' w.heap.size lv (itemsP (es.map (·.1))) ∧ Below w.heap.size w w' := by
  obtain ⟨a, cap, rfl, h1, h2⟩ := h.shape
  have Hw0 := Lib.hid h
  have hat0 : ∀ j, j < es.length → (es.map (·.1))[j]? = some (rat es j).1 := fun j hj => by
    unfold rat
    simp [List.getD_eq_getElem?_getD, List.getElem?_eq_getElem hj]
  have HS := Lib.hid (show ∀ j, j < es.length → itemsP ((es.map (·.1)).take (j + 1)) = if (rat es j).1.nd.del = true then drp (srt (itemsP ((es.map (·.1)).take j))) ((rat es j).1.nd.key : Int) else ins (srt (itemsP ((es.map (·.1)).take j))) (itR (rat es j).1) from fun j hj => by
    rw [take_snocR (hat0 j hj), itemsP_snoc, stepI_srt (itemsP_asc _)])
  have HE := Lib.hid (show (es.map (·.1)).take es.length = es.map (·.1) from List.take_of_length_le (by simp))
  have HLn := Lib.hid (show ∀ j, (itemsP ((es.map (·.1)).take j)).length ≤ j from fun j => Nat.le_trans (itemsP_length _) (by rw [List.length_take]; omega))
  clear hat0
  generalize hn : es.length = n at *
  clear h hn
  generalize es.map (·.1) = L at *
  go_enter Try.func23, Try.ntmps23
  go_wp2_with fail
  go_loopw [3, 4] (fun ov iv W => ∃ i : Nat, iv = .int .i64 (i : Int) ∧ i ≤ n ∧ Hid (OwnT W w.heap.size ov (itemsP (L.take i))) ∧ Hid (Below w.heap.size w W)) (fun _ iv _ => n - (intOf iv).toNat)
  case atStart => exact ⟨0, by rfl, Nat.zero_le _, Lib.hid (World.ownsRow_nil _ _ _ _), Lib.hid (Below.refl _ _)⟩
  case round =>
    obtain ⟨i, rfl, hi, HO, HB⟩ := hrel
    have hsz := HB.out.size
    by_cases hin : i < n
    · have hr := Hw0.out.below HB.out
      obtain ⟨pb, poff, rfl, hd, c0, c1, c2, c3, c4⟩ := hr.at hin
      have HSi := Lib.hid (HS.out i hin)
      have hll := HLn.out i
      clear hr
      generalize itemsP (L.take i) = T at *
      generalize rat es i = X at *
      obtain ⟨⟨off, x⟩, dv⟩ := X
      dsimp only at *
      obtain ⟨da, dc, hdv, _, _⟩ := hd.shape0
      subst hdv
      have i1 : (i : Int) < (n : Int) := by omega
      clear hd
      obtain ⟨xk, xc, xd, xl⟩ := x
      dsimp only at *
      have HIr := Lib.hid (show itV (itR ⟨off, ⟨xk, xc, xd, xl⟩⟩) = .agg #[.int .u64 (xk : Int), .int .u32 (xc : Int), .int .i64 off, .int .i64 (xl.length : Int)] from rfl)
      have HBa := Lib.hid (show Below wr.heap.size wr (wr.alloc (.cells #[.int .u64 (xk : Int), .int .u32 (xc : Int), .bool xd, .slice da xl.length dc] 31)) from (Below.refl _ _).alloc (Nat.le_refl _) _)
      have HPt := Lib.hid (fun W h => rput_any u3 T (itR ⟨off, ⟨xk, xc, xd, xl⟩⟩) W h (by omega))
      rw [HIr.out] at HPt
      have HDr := Lib.hid (fun W h => rdrop_any u3 T (xk : Int) W h (by omega))
      generalize hl : xl.length = l at *
      cases xd
      · have HSj := Lib.hid (HSi.out.trans (if_neg (by decide)))
        have HR2 := Lib.hid (HO.out.rd.below HBa.out)
        clear HDr HSi hl HIr
        go_wp2_with fail
        obtain ⟨W, hW⟩ : ∃ W, wr.alloc (.cells #[.int .u64 (xk : Int), .int .u32 (xc : Int), .bool false, .slice da l dc] 31) = W := ⟨_, rfl⟩
        have x0 : W.cell? ⟨wr.heap.size, 0, none⟩ = some (.int .u64 (xk : Int)) := by rw [← hW]; simp
        have x1 : W.cell? ⟨wr.heap.size, 1, none⟩ = some (.int .u32 (xc : Int)) := by rw [← hW]; simp
        have x3 : W.cell? ⟨wr.heap.size, 3, none⟩ = some (.slice da l dc) := by rw [← hW]; simp
        have y0 := Below.keeps HBa.out _ _ c0
        rw [hW] at y0 HBa HR2 ⊢
        clear hW
        refine wp_region_still_tail 14 (by kernel_rfl) (by kernel_rfl) ?_
        simp only [List.take_succ_cons, List.take_zero, List.drop_succ_cons, List.drop_zero]
        change wpStill Try.prog _ (World.drew _) _ _ _
        repeat still_step
        refine wpStill_nil ?_
        change wpList _ _ _ _ _ (World.drew _)
        go_wp2_with fail
        refine (HPt.out _ HR2.out.drew).mono ?_; rintro e w2 ⟨v2, rfl, hown2, hb2⟩
        have HO2 := Lib.hid (hown2.mono (show w.heap.size ≤ _ from Nat.le_trans hsz HBa.out.size))
        have HB2 := Lib.hid (bstep (below_drew (bstep HB.out HBa.out)) hb2)
        rw [← HSj.out] at HO2
        clear hown2 hb2
        go_wp2_with fail
        exact ⟨⟨i + 1, by go_num, by omega, HO2, HB2⟩, by simp [intOf]; omega⟩
      · have HSj := Lib.hid (HSi.out.trans (if_pos rfl))
        have HR2 := Lib.hid (HO.out.rd.below HBa.out)
        clear HPt HSi hl HIr
        go_wp2_with fail
        refine (HDr.out _ HR2.out).mono ?_; rintro e w2 ⟨v2, rfl, hown2, hb2⟩
        have HO2 := Lib.hid (hown2.mono (show w.heap.size ≤ _ from Nat.le_trans hsz HBa.out.size))
        have HB2 := Lib.hid (bstep (bstep HB.out HBa.out) hb2)
        rw [← HSj.out] at HO2
        clear hown2 hb2
        go_wp2_with fail
        exact ⟨⟨i + 1, by go_num, by omega, HO2, HB2⟩, by simp [intOf]; omega⟩
    · obtain rfl : i = n := by omega
      have HF := Lib.hid (show OwnT wr w.heap.size u3 (itemsP L) by have := HO.out; rw [HE.out] at this; exact this)
      go_wp2_with fail
      go_ret
      exact ⟨_, rfl, HF.out, HB.out⟩
end Go.Proofs.Ytecflhklpkjhcaa

namespace Go.Proofs.Ytecflhklpkjhcaa
open Go.RowKit

theorem liveT_size (f : Nat → Nat) : ∀ (l : List Rec) (i : Nat), ∀ x ∈ liveT f l i, 0 ≤ x.size
  | [], _, _, h => by cases h
  | r :: l, i, x, h => by
    rcases List.mem_append.1 h with h | h
    · split at h
      · rw [List.mem_singleton.1 h]; exact Int.natCast_nonneg _
      · cases h
    · exact liveT_size f l (i + 1) x h
theorem itemsP_size (L : List Rec) : ∀ x ∈ itemsP L, 0 ≤ x.size := srt_all (liveT_size _ L 0)
theorem allB_snoc {L : List Rec} {n : Nat} {r : Rec} (hr : L[n]? = some r) : allB (L.take (n + 1)) = allB (L.take n) + szR r := by
  rw [take_snocR hr]; simp [allB]
theorem sumI_snoc {T : List It} {n : Nat} (h : n < T.length) : sumI (T.take (n + 1)) = sumI (T.take n) + szN (iat T n).size.toNat := by
  rw [take_snoc h, sumI_append]; rfl
set_option maxRecDepth 100000 in
set_option maxHeartbeats 8000000 in
theorem rbytes_any (v : Value) (es : List (Rec × Value)) (w : World) (h : RdR w v es) (hs : es.length ≤ 50000) :
    Calls Try.prog 21 #[v] w fun e w' => e = .returned (.tuple #[.int .i64 (liveP (es.map (·.1)) : Int), .int .i64 (restP (es.map (·.1)) : Int)]) ∧ Below w.heap.size w w' := by
  obtain ⟨a, cap, rfl, h1, h2⟩ := h.shape
  have Hw0 := Lib.hid h
  have HIt := Lib.hid (ritems_any _ es w h hs)
  have hat0 : ∀ j, j < es.length → (es.map (·.1))[j]? = some (rat es j).1 := fun j hj => by
    unfold rat
    simp [List.getD_eq_getElem?_getD, List.getElem?_eq_getElem hj]
  have HLP := Lib.hid (show sumI (itemsP (es.map (·.1))) = liveP (es.map (·.1)) ∧ liveP (es.map (·.1)) + restP (es.map (·.1)) = allB (es.map (·.1)) from ⟨sum_itemsP _, live_all _⟩)
  have hTl : (itemsP (es.map (·.1))).length ≤ 50000 := Nat.le_trans (itemsP_length _) (by rw [List.length_map]; exact hs)
  have HTs := Lib.hid (itemsP_size (es.map (·.1)))
  have HS := Lib.hid (show ∀ j, j < es.length → allB ((es.map (·.1)).take (j + 1)) = allB ((es.map (·.1)).take j) + szN (rat es j).1.nd.data.length from fun j hj => allB_snoc (hat0 j hj))
  have HE := Lib.hid (show (es.map (·.1)).take es.length = es.map (·.1) from List.take_of_length_le (by simp))
  have HBd := Lib.hid (show ∀ j, j ≤ es.length → allB ((es.map (·.1)).take j) ≤ 206350000 from fun j hj => by
    have := allB_le ((es.map (·.1)).take j)
    rw [List.length_take] at this
    omega)
  clear hat0
  generalize hn : es.length = n at *
  clear h hn
  generalize liveP (es.map (·.1)) = R1 at *
  generalize restP (es.map (·.1)) = R2 at *
  generalize itemsP (es.map (·.1)) = T at *
  generalize es.map (·.1) = L at *
  have HTB := Lib.hid (show ∀ j, j ≤ T.length → sumI (T.take j) ≤ 206350000 from fun j hj => by
    have := sumI_le (T.take j)
    rw [List.length_take] at this
    omega)
  have HTS := Lib.hid (fun j (h : j < T.length) => sumI_snoc h)
  have HTE := Lib.hid (show sumI (T.take T.length) = sumI T by rw [List.take_length])
  have HTI := Lib.hid (fun j (h : j < T.length) => HTs.out _ (iat_mem h))
  go_enter Try.func21, Try.ntmps21
  go_wp2_with fail
  refine HIt.out.mono ?_; rintro e w1 ⟨tv, rfl, hown1, hb1⟩
  have HRt := Lib.hid hown1.rd
  obtain ⟨ta, tc, htv, _⟩ := own_form hown1
  subst htv
  have HB1 := Lib.hid hb1
  clear hown1 hb1 HIt
  generalize hm : T.length = m at *
  clear hm
  go_wp2_with fail
  go_loopw [4, 7] (fun lv iv W => ∃ i p : Nat, iv = .int .i64 (i : Int) ∧ lv = .int .i64 (p : Int) ∧ i ≤ m ∧ Hid (p = sumI (T.take i)) ∧ Hid (Below w1.heap.size w1 W)) (fun _ iv _ => m - (intOf iv).toNat)
  case atStart => exact ⟨0, 0, by rfl, rfl, Nat.zero_le _, Lib.hid rfl, Lib.hid (Below.refl _ _)⟩
  case round =>
    obtain ⟨i, p, rfl, rfl, hi, Hm, HB⟩ := hrel
    by_cases hin : i < m
    · have hr := HRt.out.below HB.out
      obtain ⟨pb, poff, rfl, c0, c1, c2, c3⟩ := hr.at hin
      have hS := HTS.out i hin
      have hBd := HTB.out (i + 1) (by omega)
      have hI := HTI.out i hin
      generalize iat T i = x at *
      obtain ⟨x0, x1, x2, x3⟩ := x
      dsimp only at *
      obtain ⟨q, rfl⟩ := Int.eq_ofNat_of_zero_le hI
      rw [Int.toNat_natCast] at hS
      have HZ := Lib.hid (fun W => rsizeB q W)
      generalize szN q = z at *
      rw [hS, ← Hm.out] at hBd
      have HN := Lib.hid (show p + z = sumI (T.take (i + 1)) by rw [hS, Hm.out])
      have hpz : IntKind.i64.wrap ((p : Int) + (z : Int)) = ((p + z : Nat) : Int) := (IntWalk.i64_in _ (by omega)).trans (by omega)
      have i1 : (i : Int) < (m : Int) := by omega
      clear hS hr hI
      go_wp2_with fail
      refine (HZ.out _).mono ?_; rintro e w2 ⟨rfl, rfl⟩
      go_wp2_with fail
      exact ⟨⟨i + 1, p + z, by go_num, rfl, by omega, HN, HB⟩, by simp [intOf]; omega⟩
    · obtain rfl : i = m := by omega
      have hP := Hm.out.trans HTE.out
      have hPb := HTB.out i (Nat.le_refl _)
      rw [← Hm.out] at hPb
      have HB2 := Lib.hid (bstep HB1.out HB.out)
      have HLQ := Lib.hid (show p = R1 ∧ R1 + R2 = allB L from ⟨hP.trans HLP.out.1, HLP.out.2⟩)
      clear HLP hP Hm HRt HTs HTB HTS HTE HTI HB HB1
      generalize hwr : wr = w2 at *
      clear hwr
      go_wp2_with fail
      go_loopw [5, 8] (fun lv iv W => ∃ i q : Nat, iv = .int .i64 (i : Int) ∧ lv = .int .i64 (q : Int) ∧ i ≤ n ∧ Hid (q = allB (L.take i)) ∧ Hid (Below w2.heap.size w2 W)) (fun _ iv _ => n - (intOf iv).toNat)
      case atStart => exact ⟨0, 0, by rfl, rfl, Nat.zero_le _, Lib.hid rfl, Lib.hid (Below.refl _ _)⟩
      case round =>
        obtain ⟨j, q, rfl, rfl, hj, Hm, HB⟩ := hrel
        by_cases hjn : j < n
        · have hr := Hw0.out.below (bstep HB2.out HB.out)
          obtain ⟨pb, poff, rfl, hd, c0, c1, c2, c3, c4⟩ := hr.at hjn
          have hS := HS.out j hjn
          have hBd := HBd.out (j + 1) (by omega)
          clear hr
          generalize rat es j = X at *
          obtain ⟨⟨off, x⟩, dv⟩ := X
          dsimp only at *
          obtain ⟨da, dc, hdv, _, _⟩ := hd.shape0
          subst hdv
          obtain ⟨xk, xc, xd, xl⟩ := x
          dsimp only at *
          clear hd
          generalize hl : xl.length = l at *
          have HZ := Lib.hid (fun W => rsizeB l W)
          generalize szN l = z at *
          rw [hS, ← Hm.out] at hBd
          have HN := Lib.hid (show q + z = allB (L.take (j + 1)) by rw [hS, Hm.out])
          have hpz : IntKind.i64.wrap ((q : Int) + (z : Int)) = ((q + z : Nat) : Int) := (IntWalk.i64_in _ (by omega)).trans (by omega)
          have i1 : (j : Int) < (n : Int) := by omega
          clear hS hl
          go_wp2_with fail
          refine (HZ.out _).mono ?_; rintro e w3 ⟨rfl, rfl⟩
          go_wp2_with fail
          exact ⟨⟨j + 1, q + z, by go_num, rfl, by omega, HN, HB⟩, by simp [intOf]; omega⟩
        · obtain rfl : j = n := by omega
          have hq := Hm.out
          rw [HE.out] at hq
          have hqb := HBd.out j (Nat.le_refl _)
          rw [HE.out, ← hq] at hqb
          obtain ⟨e1, e2⟩ := HLQ.out
          rw [← hq] at e2
          have hpz : IntKind.i64.wrap ((q : Int) - (p : Int)) = (R2 : Int) := (IntWalk.i64_in _ (by omega)).trans (by omega)
          have HBz := Lib.hid (bstep HB2.out HB.out)
          subst e1
          clear hq e2
          go_wp2_with fail
          exact bodyPost_ret (v := .tuple #[.int .i64 (p : Int), .int .i64 (R2 : Int)]) (by simp [results, Try.results21, go_sem]) rfl ⟨rfl, HBz.out⟩
end Go.Proofs.Ytecflhklpkjhcaa

namespace Go.Proofs.Ytecflhklpkjhcaa
open Go.RowKit

/-- What is salvaged of a file. -/
def salvF (b : List UInt8) : List Rec := salv (b.length + 1) b 16
/-- The search under way. -/
structure AccS (b : List UInt8) (L : List Rec) (es : List (Rec × Value)) (p : Nat) : Prop where
  ex : ∃ f, b.length < p + f ∧ es.map (·.1) ++ salv f b p = L
  le : p ≤ b.length + 16
  n : es.length * 24 ≤ p
theorem AccS.start (b : List UInt8) : AccS b (salvF b) [] 16 := ⟨⟨b.length + 1, by omega, rfl⟩, by omega, by simp⟩
theorem AccS.done {b : List UInt8} {L : List Rec} {p : Nat} {es : List (Rec × Value)} (h : AccS b L es p) (hd : b.length ≤ p) : es.map (·.1) = L := by
  obtain ⟨f, _, h1⟩ := h.ex
  rw [salv_end hd] at h1
  simpa using h1
theorem AccS.miss {b : List UInt8} {L : List Rec} {p : Nat} {es : List (Rec × Value)} (h : AccS b L es p) (hp : p < b.length) (hd : (ndec (b.drop p)).1 ≠ 0) : AccS b L es (p + 8) := by
  obtain ⟨f, h0, h1⟩ := h.ex
  obtain ⟨g, rfl⟩ : ∃ g, f = g + 1 := ⟨f - 1, by omega⟩
  rw [salv_miss hp hd] at h1
  exact ⟨⟨g, by omega, h1⟩, by omega, by have := h.n; omega⟩
theorem AccS.hit {b : List UInt8} {L : List Rec} {p : Nat} {es : List (Rec × Value)} (h : AccS b L es p) (hp : p < b.length) (hd : (ndec (b.drop p)).1 = 0) (v : Value) : AccS b L (es ++ [(⟨p, (ndec (b.drop p)).2.1⟩, v)]) (p + (ndec (b.drop p)).2.2) := by
  obtain ⟨f, h0, h1⟩ := h.ex
  have hs := ndec_size hd
  rw [List.length_drop] at hs
  have hn := h.n
  obtain ⟨g, rfl⟩ : ∃ g, f = g + 1 := ⟨f - 1, by omega⟩
  rw [salv_hit hp hd] at h1
  refine ⟨⟨g, by omega, ?_⟩, by omega, by rw [List.length_append]; simp; omega⟩
  rw [← h1]; simp
set_option maxRecDepth 100000 in
set_option maxHeartbeats 4000000 in
theorem salvage_any (v : Value) (b : List UInt8) (w : World) (h : RdB w v b) (hs : b.length ≤ 1000000) : Calls Try.prog 25 #[v] w fun e w' =>
    (∃ lv es, e = .returned lv ∧ OwnR w' w.heap.size 43 lv es ∧ es.map (·.1) = salvF b) ∧ Below w.heap.size w w' := by
  obtain ⟨a, cap, rfl, h1, h2⟩ := h.shape0
  have h3 := lt63 h1 h2
  have Hw0 := Lib.hid h
  clear h
  have HA := Lib.hid (AccS.start b)
  generalize salvF b = L at *
  go_enter Try.func25, Try.ntmps25
  go_wp2_with fail
  go_loopw [3, 4] (fun lv pv W => ∃ (es : List (Rec × Value)) (p : Nat), pv = .int .i64 (p : Int) ∧ Hid (OwnR W w.heap.size 43 lv es) ∧ Hid (AccS b L es p) ∧ Hid (Below w.heap.size w W)) (fun _ pv _ => b.length + 16 - (intOf pv).toNat)
  case atStart => exact ⟨[], 16, rfl, Lib.hid (OwnR.nil _ _ _), HA, Lib.hid (Below.refl _ _)⟩
  case round =>
    obtain ⟨es, p, rfl, HO, HAc, HBl⟩ := hrel
    by_cases hp : p < b.length
    · have i1 : (p : Int) < (b.length : Int) := by omega
      obtain ⟨x1, y1, g1, r1⟩ := RdL.from_ (P := Try.prog) elemB (RdL.below Hw0.out HBl.out) p (by omega)
      have HN := Lib.hid (ndecode_any _ _ _ r1 (by rw [List.length_drop]; omega))
      clear r1
      go_wp2_with fail
      refine HN.out.mono ?_; rintro e w2 ⟨⟨dv, rfl, hown⟩, hb2⟩
      have HO2 := Lib.hid (HO.out.keep hb2)
      have hs2 : w.heap.size ≤ w2.heap.size := Nat.le_trans HBl.out.size hb2.size
      have hsr : w.heap.size ≤ wr.heap.size := HBl.out.size
      have HBl2 := Lib.hid (bstep HBl.out hb2)
      have HSz := Lib.hid (fun h => ndec_size (b := b.drop p) h)
      clear HN HO HBl hb2
      by_cases hd : (ndec (b.drop p)).1 = 0
      · have HS := Lib.hid (HAc.out.hit hp hd)
        have hz := HSz.out hd
        rw [List.length_drop] at hz
        clear HSz
        have hn := HAc.out.n
        generalize ndec (b.drop p) = D at *
        obtain ⟨r, x, n⟩ := D
        dsimp only at hd hown hz HS
        subst hd
        obtain ⟨oa, oc, hv, _⟩ := own_form hown
        subst hv
        have HDt := Lib.hid (World.ownsRow.mono (show OwnB w2 wr.heap.size (.slice oa x.data.length oc) x.data from hown) hsr)
        have hpn : IntKind.i64.wrap ((p : Int) + (n : Int)) = ((p + n : Nat) : Int) := (IntWalk.i64_in _ (by omega)).trans (by omega)
        obtain ⟨la, lc, hv, _⟩ := own_form HO2.out.row
        subst hv
        clear hown
        have HBV := Lib.hid (show Below w2.heap.size w2 ((w2.alloc (.cells #[.int .u64 (x.key : Int), .int .u32 (x.ck : Int), .bool x.del, .slice oa x.data.length oc] 31)).alloc (.cells (recC (⟨(p : Int), x⟩, .slice oa x.data.length oc)).toArray 43)) from ((Below.refl _ _).alloc (Nat.le_refl _) _).alloc (by simp) _)
        go_wp2_with (at_builtin; go_must (refine wpList_app (m := 1) rfl (.tmp 24) (.tmp 28) 38 rfl elemR w.heap.size rfl (own_keep HO2.out.row (((Below.refl _ _).alloc (Nat.le_refl _) _).alloc (by simp) _)) (by rfl) (Rd.newK (w2.heap.size + 1) (w2.alloc (.cells #[.int .u64 (x.key : Int), .int .u32 (x.ck : Int), .bool x.del, .slice oa x.data.length oc] 31)) (by simp) 5 (recC (⟨p, x⟩, .slice oa x.data.length oc)) 43 1 rfl (by decide)) (rec_one _ _ _ _) (by unfold maxLen; omega) (by omega) (by simp; omega) ?_); intro v4 w4 hown4 hgr4 hv4; clear hv4)
        have HG := Lib.hid (show World.grownBy ((w2.alloc (.cells #[.int .u64 (x.key : Int), .int .u32 (x.ck : Int), .bool x.del, .slice oa x.data.length oc] 31)).alloc (.cells (recC (⟨(p : Int), x⟩, .slice oa x.data.length oc)).toArray 43)) w4 (Value.slice la es.length lc).ownBlock from hgr4)
        clear hgr4
        generalize (w2.alloc (.cells #[.int .u64 (x.key : Int), .int .u32 (x.ck : Int), .bool x.del, .slice oa x.data.length oc] 31)).alloc (.cells (recC (⟨(p : Int), x⟩, .slice oa x.data.length oc)).toArray 43) = V at HBV HG
        have hsV : w.heap.size ≤ V.heap.size := Nat.le_trans hs2 HBV.out.size
        have hb4 := own_below (Below.refl w.heap.size V) (HO2.out.keep HBV.out).row hsV HG.out
        have HBl4 := Lib.hid (HBl2.out.trans ((HBV.out.mono (by omega)).trans hb4))
        have HO4 := Lib.hid ((HO2.out.keep HBV.out).snoc (q := (⟨(p : Int), x⟩, .slice oa x.data.length oc)) (own_keep HDt.out HBV.out) (by decide) hown4 HG.out)
        have HAc4 := Lib.hid (HS.out (.slice oa x.data.length oc))
        clear hown4
        go_wp2_with fail
        exact ⟨⟨_, p + n, by rw [Int.natCast_add], HO4, HAc4, HBl4⟩, by simp [intOf]; omega⟩
      · have HAm := Lib.hid (HAc.out.miss hp hd)
        have hd' : ((ndec (b.drop p)).1 != 0) = true := bne_iff_ne.2 hd
        have hp8 : IntKind.i64.wrap ((p : Int) + 8) = ((p + 8 : Nat) : Int) := (IntWalk.i64_in _ (by omega)).trans (by omega)
        clear HSz
        generalize ndec (b.drop p) = D at *
        obtain ⟨r, x, n⟩ := D
        dsimp only at hd hown hd'
        obtain ⟨oa, oc, hv, _⟩ := own_form hown
        subst hv
        clear hown
        have HBV := Lib.hid (show Below w2.heap.size w2 (w2.alloc (.cells #[.int .u64 (x.key : Int), .int .u32 (x.ck : Int), .bool x.del, .slice oa x.data.length oc] 31)) from (Below.refl _ _).alloc (Nat.le_refl _) _)
        go_wp2_with fail
        exact ⟨⟨es, p + 8, by rw [Int.natCast_add]; rfl, Lib.hid (HO2.out.keep HBV.out), HAm, Lib.hid (bstep HBl2.out HBV.out)⟩, by simp [intOf]; omega⟩
    · have i1 : ¬ (p : Int) < (b.length : Int) := by omega
      have HL := Lib.hid (HAc.out.done (by omega))
      go_wp2_with fail
      go_ret
      exact ⟨⟨_, rfl, es, HO.out, HL.out⟩, HBl.out⟩
set_option maxRecDepth 100000 in
set_option maxHeartbeats 4000000 in
theorem rsalvage_any (v : Value) (b : List UInt8) (w : World) (h : RdB w v b) (hs : b.length ≤ 1000000) : Calls Try.prog 26 #[v] w fun e w' =>
    (∃ lv es, e = .returned lv ∧ OwnR w' w.heap.size 88 lv es ∧ es.map (·.1) = salvF b) ∧ Below w.heap.size w w' := by
  obtain ⟨a, cap, rfl, h1, h2⟩ := h.shape0
  have h3 := lt63 h1 h2
  have Hw0 := Lib.hid h
  clear h
  have HA := Lib.hid (AccS.start b)
  generalize salvF b = L at *
  go_enter Try.func26, Try.ntmps26
  go_wp2_with fail
  go_loopw [3, 4] (fun lv pv W => ∃ (es : List (Rec × Value)) (p : Nat), pv = .int .i64 (p : Int) ∧ Hid (OwnR W w.heap.size 88 lv es) ∧ Hid (AccS b L es p) ∧ Hid (Below w.heap.size w W)) (fun _ pv _ => b.length + 16 - (intOf pv).toNat)
  case atStart => exact ⟨[], 16, rfl, Lib.hid (OwnR.nil _ _ _), HA, Lib.hid (Below.refl _ _)⟩
  case round =>
    obtain ⟨es, p, rfl, HO, HAc, HBl⟩ := hrel
    by_cases hp : p < b.length
    · have i1 : (p : Int) < (b.length : Int) := by omega
      obtain ⟨x1, y1, g1, r1⟩ := RdL.from_ (P := Try.prog) elemB (RdL.below Hw0.out HBl.out) p (by omega)
      have HN := Lib.hid (rdecode_any _ _ _ r1 (by rw [List.length_drop]; omega))
      clear r1
      go_wp2_with fail
      refine HN.out.mono ?_; rintro e w2 ⟨⟨dv, rfl, hown⟩, hb2⟩
      have HO2 := Lib.hid (HO.out.keep hb2)
      have hs2 : w.heap.size ≤ w2.heap.size := Nat.le_trans HBl.out.size hb2.size
      have hsr : w.heap.size ≤ wr.heap.size := HBl.out.size
      have HBl2 := Lib.hid (bstep HBl.out hb2)
      have HSz := Lib.hid (fun h => ndec_size (b := b.drop p) h)
      clear HN HO HBl hb2
      by_cases hd : (ndec (b.drop p)).1 = 0
      · have HS := Lib.hid (HAc.out.hit hp hd)
        have hz := HSz.out hd
        rw [List.length_drop] at hz
        clear HSz
        have hn := HAc.out.n
        generalize ndec (b.drop p) = D at *
        obtain ⟨r, x, n⟩ := D
        dsimp only at hd hown hz HS
        subst hd
        obtain ⟨oa, oc, hv, _⟩ := own_form hown
        subst hv
        have HDt := Lib.hid (World.ownsRow.mono (show OwnB w2 wr.heap.size (.slice oa x.data.length oc) x.data from hown) hsr)
        have hpn : IntKind.i64.wrap ((p : Int) + (n : Int)) = ((p + n : Nat) : Int) := (IntWalk.i64_in _ (by omega)).trans (by omega)
        obtain ⟨la, lc, hv, _⟩ := own_form HO2.out.row
        subst hv
        clear hown
        have HBV := Lib.hid (show Below w2.heap.size w2 ((w2.alloc (.cells #[.int .u64 (x.key : Int), .int .u32 (x.ck : Int), .bool x.del, .slice oa x.data.length oc] 31)).alloc (.cells (recC (⟨(p : Int), x⟩, .slice oa x.data.length oc)).toArray 88)) from ((Below.refl _ _).alloc (Nat.le_refl _) _).alloc (by simp) _)
        go_wp2_with (at_builtin; go_must (refine wpList_app (m := 1) rfl (.tmp 24) (.tmp 28) 52 rfl elemRR w.heap.size rfl (own_keep HO2.out.row (((Below.refl _ _).alloc (Nat.le_refl _) _).alloc (by simp) _)) (by rfl) (Rd.newK (w2.heap.size + 1) (w2.alloc (.cells #[.int .u64 (x.key : Int), .int .u32 (x.ck : Int), .bool x.del, .slice oa x.data.length oc] 31)) (by simp) 5 (recC (⟨p, x⟩, .slice oa x.data.length oc)) 88 1 rfl (by decide)) (rec_one _ _ _ _) (by unfold maxLen; omega) (by omega) (by simp; omega) ?_); intro v4 w4 hown4 hgr4 hv4; clear hv4)
        have HG := Lib.hid (show World.grownBy ((w2.alloc (.cells #[.int .u64 (x.key : Int), .int .u32 (x.ck : Int), .bool x.del, .slice oa x.data.length oc] 31)).alloc (.cells (recC (⟨(p : Int), x⟩, .slice oa x.data.length oc)).toArray 88)) w4 (Value.slice la es.length lc).ownBlock from hgr4)
        clear hgr4
        generalize (w2.alloc (.cells #[.int .u64 (x.key : Int), .int .u32 (x.ck : Int), .bool x.del, .slice oa x.data.length oc] 31)).alloc (.cells (recC (⟨(p : Int), x⟩, .slice oa x.data.length oc)).toArray 88) = V at HBV HG
        have hsV : w.heap.size ≤ V.heap.size := Nat.le_trans hs2 HBV.out.size
        have hb4 := own_below (Below.refl w.heap.size V) (HO2.out.keep HBV.out).row hsV HG.out
        have HBl4 := Lib.hid (HBl2.out.trans ((HBV.out.mono (by omega)).trans hb4))
        have HO4 := Lib.hid ((HO2.out.keep HBV.out).snoc (q := (⟨(p : Int), x⟩, .slice oa x.data.length oc)) (own_keep HDt.out HBV.out) (by decide) hown4 HG.out)
        have HAc4 := Lib.hid (HS.out (.slice oa x.data.length oc))
        clear hown4
        go_wp2_with fail
        exact ⟨⟨_, p + n, by rw [Int.natCast_add], HO4, HAc4, HBl4⟩, by simp [intOf]; omega⟩
      · have HAm := Lib.hid (HAc.out.miss hp hd)
        have hd' : ((ndec (b.drop p)).1 != 0) = true := bne_iff_ne.2 hd
        have hp8 : IntKind.i64.wrap ((p : Int) + 8) = ((p + 8 : Nat) : Int) := (IntWalk.i64_in _ (by omega)).trans (by omega)
        clear HSz
        generalize ndec (b.drop p) = D at *
        obtain ⟨r, x, n⟩ := D
        dsimp only at hd hown hd'
        obtain ⟨oa, oc, hv, _⟩ := own_form hown
        subst hv
        clear hown
        have HBV := Lib.hid (show Below w2.heap.size w2 (w2.alloc (.cells #[.int .u64 (x.key : Int), .int .u32 (x.ck : Int), .bool x.del, .slice oa x.data.length oc] 31)) from (Below.refl _ _).alloc (Nat.le_refl _) _)
        go_wp2_with fail
        exact ⟨⟨es, p + 8, by rw [Int.natCast_add]; rfl, Lib.hid (HO2.out.keep HBV.out), HAm, Lib.hid (bstep HBl2.out HBV.out)⟩, by simp [intOf]; omega⟩
    · have i1 : ¬ (p : Int) < (b.length : Int) := by omega
      have HL := Lib.hid (HAc.out.done (by omega))
      go_wp2_with fail
      go_ret
      exact ⟨⟨_, rfl, es, HO.out, HL.out⟩, HBl.out⟩
end Go.Proofs.Ytecflhklpkjhcaa

namespace Go.Proofs.Ytecflhklpkjhcaa
open Go.RowKit

set_option maxRecDepth 100000 in
set_option maxHeartbeats 4000000 in
theorem records_any (v : Value) (b : List UInt8) (w : World) (h : RdB w v b) (hs : b.length ≤ 1000000) (h16 : 16 ≤ b.length) : Calls Try.prog 38 #[v, .int .i64 16] w fun e w' =>
    (∃ lv es, e = .returned (.tuple #[lv, .int .i64 ((recs (b.length + 1) b 16).2 : Int)]) ∧ OwnR w' w.heap.size 88 lv es ∧ es.map (·.1) = (recs (b.length + 1) b 16).1) ∧ Below w.heap.size w w' := by
  obtain ⟨a, cap, rfl, h1, h2⟩ := h.shape0
  have h3 := lt63 h1 h2
  have Hw0 := Lib.hid h
  clear h
  have HA := Lib.hid (Acc.start h16)
  generalize (recs (b.length + 1) b 16).1 = L at *
  generalize (recs (b.length + 1) b 16).2 = E at *
  go_enter Try.func38, Try.ntmps38
  go_wp2_with fail
  go_loopw [6, 1] (fun lv pv W => ∃ (es : List (Rec × Value)) (p : Nat), pv = .int .i64 (p : Int) ∧ Hid (OwnR W w.heap.size 88 lv es) ∧ Hid (Acc b L E es p) ∧ Hid (Below w.heap.size w W)) (fun _ pv _ => b.length + 1 - (intOf pv).toNat)
  case atStart => exact ⟨[], 16, rfl, Lib.hid (OwnR.nil _ _ _), HA, Lib.hid (Below.refl _ _)⟩
  case round =>
    obtain ⟨es, p, rfl, HO, HAc, HBl⟩ := hrel
    have hp := HAc.out.le
    have i1 : (p : Int) ≤ (b.length : Int) := by omega
    obtain ⟨x1, y1, g1, r1⟩ := RdL.from_ (P := Try.prog) elemB (RdL.below Hw0.out HBl.out) p (by omega)
    have HN := Lib.hid (rdecode_any _ _ _ r1 (by rw [List.length_drop]; omega))
    clear r1
    go_wp2_with fail
    refine HN.out.mono ?_; rintro e w2 ⟨⟨dv, rfl, hown⟩, hb2⟩
    have HO2 := Lib.hid (HO.out.keep hb2)
    have hs2 : w.heap.size ≤ w2.heap.size := Nat.le_trans HBl.out.size hb2.size
    have hsr : w.heap.size ≤ wr.heap.size := HBl.out.size
    have HBl2 := Lib.hid (bstep HBl.out hb2)
    have HSz := Lib.hid (fun h => ndec_size (b := b.drop p) h)
    clear HN HO HBl hb2
    by_cases hd : (ndec (b.drop p)).1 = 0
    · have HS := Lib.hid (HAc.out.step hd)
      have hz := HSz.out hd
      rw [List.length_drop] at hz
      clear HSz
      have hn := HAc.out.n
      generalize ndec (b.drop p) = D at *
      obtain ⟨r, x, n⟩ := D
      dsimp only at hd hown hz HS
      subst hd
      obtain ⟨oa, oc, hv, _⟩ := own_form hown
      subst hv
      have HDt := Lib.hid (World.ownsRow.mono (show OwnB w2 wr.heap.size (.slice oa x.data.length oc) x.data from hown) hsr)
      have hpn : IntKind.i64.wrap ((p : Int) + (n : Int)) = ((p + n : Nat) : Int) := (IntWalk.i64_in _ (by omega)).trans (by omega)
      obtain ⟨la, lc, hv, _⟩ := own_form HO2.out.row
      subst hv
      clear hown
      have HBV := Lib.hid (show Below w2.heap.size w2 ((w2.alloc (.cells #[.int .u64 (x.key : Int), .int .u32 (x.ck : Int), .bool x.del, .slice oa x.data.length oc] 31)).alloc (.cells (recC (⟨(p : Int), x⟩, .slice oa x.data.length oc)).toArray 88)) from ((Below.refl _ _).alloc (Nat.le_refl _) _).alloc (by simp) _)
      go_wp2_with (at_builtin; go_must (refine wpList_app (m := 1) rfl (.tmp 24) (.tmp 28) 52 rfl elemRR w.heap.size rfl (own_keep HO2.out.row (((Below.refl _ _).alloc (Nat.le_refl _) _).alloc (by simp) _)) (by rfl) (Rd.newK (w2.heap.size + 1) (w2.alloc (.cells #[.int .u64 (x.key : Int), .int .u32 (x.ck : Int), .bool x.del, .slice oa x.data.length oc] 31)) (by simp) 5 (recC (⟨p, x⟩, .slice oa x.data.length oc)) 88 1 rfl (by decide)) (rec_one _ _ _ _) (by unfold maxLen; omega) (by omega) (by simp; omega) ?_); intro v4 w4 hown4 hgr4 hv4; clear hv4)
      have HG := Lib.hid (show World.grownBy ((w2.alloc (.cells #[.int .u64 (x.key : Int), .int .u32 (x.ck : Int), .bool x.del, .slice oa x.data.length oc] 31)).alloc (.cells (recC (⟨(p : Int), x⟩, .slice oa x.data.length oc)).toArray 88)) w4 (Value.slice la es.length lc).ownBlock from hgr4)
      clear hgr4
      generalize (w2.alloc (.cells #[.int .u64 (x.key : Int), .int .u32 (x.ck : Int), .bool x.del, .slice oa x.data.length oc] 31)).alloc (.cells (recC (⟨(p : Int), x⟩, .slice oa x.data.length oc)).toArray 88) = V at HBV HG
      have hsV : w.heap.size ≤ V.heap.size := Nat.le_trans hs2 HBV.out.size
      have hb4 := own_below (Below.refl w.heap.size V) (HO2.out.keep HBV.out).row hsV HG.out
      have HBl4 := Lib.hid (HBl2.out.trans ((HBV.out.mono (by omega)).trans hb4))
      have HO4 := Lib.hid ((HO2.out.keep HBV.out).snoc (q := (⟨(p : Int), x⟩, .slice oa x.data.length oc)) (own_keep HDt.out HBV.out) (by decide) hown4 HG.out)
      have HAc4 := Lib.hid (HS.out (.slice oa x.data.length oc))
      clear hown4
      go_wp2_with fail
      exact ⟨⟨_, p + n, by rw [Int.natCast_add], HO4, HAc4, HBl4⟩, by simp [intOf]; omega⟩
    · obtain ⟨HL, HE⟩ := HAc.out.done hd
      have hd' : ((ndec (b.drop p)).1 != 0) = true := bne_iff_ne.2 hd
      clear HSz
      generalize ndec (b.drop p) = D at *
      obtain ⟨r, x, n⟩ := D
      dsimp only at hd hown hd'
      obtain ⟨oa, oc, hv, _⟩ := own_form hown
      subst hv
      clear hown
      have HBV := Lib.hid (show Below w2.heap.size w2 (w2.alloc (.cells #[.int .u64 (x.key : Int), .int .u32 (x.ck : Int), .bool x.del, .slice oa x.data.length oc] 31)) from (Below.refl _ _).alloc (Nat.le_refl _) _)
      have HL := Lib.hid HL
      subst HE
      go_wp2_with fail
      exact bodyPost_ret (v := .tuple #[u6, .int .i64 (p : Int)]) (by simp [results, Try.results38, go_sem]) rfl ⟨⟨_, es, rfl, HO2.out.keep HBV.out, HL.out⟩, bstep HBl2.out HBV.out⟩
set_option maxRecDepth 100000 in
set_option maxHeartbeats 4000000 in
theorem ropen_any (v : Value) (b : List UInt8) (w : World) (h : RdB w v b) (hs : b.length ≤ 1000000) : Calls Try.prog 18 #[v] w fun e w' =>
    (∃ lv es, e = .returned (.tuple #[supV (openF b).2.1, lv, .int .i64 ((openF b).2.2.2 : Int), .int .i64 (openF b).1]) ∧ OwnR w' w.heap.size 88 lv es ∧ es.map (·.1) = (openF b).2.2.1) ∧ Below w.heap.size w w' := by
  obtain ⟨a, cap, rfl, h1, h2⟩ := h.shape0
  have h3 := lt63 h1 h2
  have Hw0 := Lib.hid h
  have HBZ := Lib.hid (show Below w.heap.size w (w.alloc zeroS) from (Below.refl _ _).alloc (Nat.le_refl _) _)
  have HD := Lib.hid (fun W h => rsdecode_any (.slice a b.length cap) b W h hs)
  clear h
  by_cases h0 : (sdec b).1 = 0
  · have HF := Lib.hid (show openF b = (0, (sdec b).2, (recs (b.length + 1) b 16).1, (recs (b.length + 1) b 16).2) by unfold openF; rw [if_pos h0])
    have HR := Lib.hid (fun W h => records_any (.slice a b.length cap) b W h hs (sdec_long h0))
    generalize (recs (b.length + 1) b 16).1 = L at *
    generalize (recs (b.length + 1) b 16).2 = E at *
    go_enter Try.func18, Try.ntmps18
    go_wp2_with fail
    refine (HD.out _ (RdL.below Hw0.out HBZ.out)).mono ?_; rintro e w1 ⟨rfl, hb1⟩
    have Z0 : w1.cell? ⟨w.heap.size, 0, none⟩ = some (.int .i64 0) := Below.keeps hb1 _ _ (by simp)
    have Z1 : w1.cell? ⟨w.heap.size, 1, none⟩ = some (.int .i64 0) := Below.keeps hb1 _ _ (by simp)
    have Z2 : w1.cell? ⟨w.heap.size, 2, none⟩ = some (.int .i64 0) := Below.keeps hb1 _ _ (by simp)
    have ZF := fun i => (hb1.frozen (p := ⟨w.heap.size, i, none⟩) (by simp)).trans (show (w.alloc zeroS).frozen? ⟨w.heap.size, i, none⟩ = false by simp)
    have HBx := Lib.hid (show BoxS w1 w.heap.size sup0 from ⟨Z0, Z1, Z2, ZF⟩)
    have HB1 := Lib.hid (bstep HBZ.out hb1)
    have hk1 : w.heap.size < w1.heap.size := World.block_lt_of_cell? _ _ Z0
    clear hb1 Z0 Z1 Z2 ZF
    generalize sdec b = R at *
    obtain ⟨r, s⟩ := R
    dsimp only at h0 HF
    subst h0
    have HBa := Lib.hid (show Below w1.heap.size w1 (w1.alloc (.cells #[.int .i64 (s.slot : Int), .int .i64 (s.gen : Int), .int .i64 (s.rev : Int)] 37)) from (Below.refl _ _).alloc (Nat.le_refl _) _)
    have HR1 := Lib.hid (RdL.below Hw0.out (bstep HB1.out HBa.out))
    go_wp2_with fail
    refine (HR.out _ HR1.out).mono ?_; rintro e w2 ⟨⟨lv, es, rfl, hown, hes⟩, hb2⟩
    have HB2 := Lib.hid (bstep (bstep HB1.out HBa.out) hb2)
    have HO2 := Lib.hid (hown.lower (show w.heap.size + 1 ≤ _ from Nat.le_trans hk1 HBa.out.size))
    have HBx2 := Lib.hid ((HBx.out.keep hk1 HBa.out (Nat.le_refl _)).keep (Nat.lt_of_lt_of_le hk1 HBa.out.size) hb2 (Nat.le_refl _))
    have S0 : w2.cell? ⟨w1.heap.size, 0, none⟩ = some (.int .i64 (s.slot : Int)) := Below.keeps hb2 _ _ (by simp)
    have S1 : w2.cell? ⟨w1.heap.size, 1, none⟩ = some (.int .i64 (s.gen : Int)) := Below.keeps hb2 _ _ (by simp)
    have S2 : w2.cell? ⟨w1.heap.size, 2, none⟩ = some (.int .i64 (s.rev : Int)) := Below.keeps hb2 _ _ (by simp)
    have X0 := HBx2.out.c0
    have X1 := HBx2.out.c1
    have X2 := HBx2.out.c2
    have F0 := HBx2.out.f 0
    have F1 := HBx2.out.f 1
    have F2 := HBx2.out.f 2
    have Hes := Lib.hid hes
    clear hes hb2 hown HR HD
    obtain ⟨la, lc, hv, _⟩ := own_form HO2.out.row
    subst hv
    go_wp2_with fail
    have hby := HBx2.out.set s
    have Y0 := hby.c0
    have Y1 := hby.c1
    have Y2 := hby.c2
    have HRR := Lib.hid (((HO2.out.set (p := ⟨w.heap.size, 0, none⟩) (Nat.lt_succ_self _) (.int .i64 (s.slot : Int))).set (p := ⟨w.heap.size, 1, none⟩) (Nat.lt_succ_self _) (.int .i64 (s.gen : Int))).set (p := ⟨w.heap.size, 2, none⟩) (Nat.lt_succ_self _) (.int .i64 (s.rev : Int)))
    exact bodyPost_ret (v := .tuple #[supV s, .slice la es.length lc, .int .i64 (E : Int), .int .i64 0]) (by simp [results, Try.results18, go_sem, Y0, Y1, Y2]) rfl ⟨⟨_, es, by rw [HF.out], HRR.out.lower (Nat.le_succ _), Hes.out.trans (by rw [HF.out])⟩, ((HB2.out.setCell (Nat.le_refl _) _).setCell (Nat.le_refl _) _).setCell (Nat.le_refl _) _⟩
  · have HF := Lib.hid (show openF b = ((sdec b).1, sup0, [], 0) by unfold openF; rw [if_neg h0])
    have HS := Lib.hid (sdec_bad h0)
    generalize openF b = R at *
    have hd : ((sdec b).1 != 0) = true := bne_iff_ne.2 h0
    go_enter Try.func18, Try.ntmps18
    go_wp2_with fail
    refine (HD.out _ (RdL.below Hw0.out HBZ.out)).mono ?_; rintro e w1 ⟨rfl, hb1⟩
    have Z0 : w1.cell? ⟨w.heap.size, 0, none⟩ = some (.int .i64 0) := Below.keeps hb1 _ _ (by simp)
    have Z1 : w1.cell? ⟨w.heap.size, 1, none⟩ = some (.int .i64 0) := Below.keeps hb1 _ _ (by simp)
    have Z2 : w1.cell? ⟨w.heap.size, 2, none⟩ = some (.int .i64 0) := Below.keeps hb1 _ _ (by simp)
    have ZF := fun i => (hb1.frozen (p := ⟨w.heap.size, i, none⟩) (by simp)).trans (show (w.alloc zeroS).frozen? ⟨w.heap.size, i, none⟩ = false by simp)
    have HB1 := Lib.hid (bstep HBZ.out hb1)
    have HBx := Lib.hid (show BoxS w1 w.heap.size sup0 from ⟨Z0, Z1, Z2, ZF⟩)
    have hk1 : w.heap.size < w1.heap.size := World.block_lt_of_cell? _ _ Z0
    clear hb1 Z0 Z1 Z2 ZF
    generalize sdec b = R' at *
    obtain ⟨r, s⟩ := R'
    dsimp only at h0 hd HF HS
    obtain ⟨w2, hw2⟩ : ∃ w2, w1.alloc (.cells #[.int .i64 (s.slot : Int), .int .i64 (s.gen : Int), .int .i64 (s.rev : Int)] 37) = w2 := ⟨_, rfl⟩
    have HBa := Lib.hid (show Below w1.heap.size w1 w2 from hw2 ▸ (Below.refl _ _).alloc (Nat.le_refl _) _)
    have HBx2 := Lib.hid (HBx.out.keep hk1 HBa.out (Nat.le_refl _))
    have X0 := HBx2.out.c0
    have X1 := HBx2.out.c1
    have X2 := HBx2.out.c2
    have F0 := HBx2.out.f 0
    have F1 := HBx2.out.f 1
    have F2 := HBx2.out.f 2
    go_wp2_with fail
    have hby := HBx2.out.set sup0
    have Y0 := hby.c0
    have Y1 := hby.c1
    have Y2 := hby.c2
    simp only [sup0, show ((0 : Nat) : Int) = 0 from rfl] at Y0 Y1 Y2
    exact bodyPost_ret (v := .tuple #[supV sup0, .slice none 0 0, .int .i64 0, .int .i64 r]) (by simp [results, Try.results18, go_sem, sup0, Y0, Y1, Y2]) rfl ⟨⟨.slice none 0 0, [], by rw [HF.out]; rfl, OwnR.nil _ _ _, by rw [HF.out]; rfl⟩, (((bstep HB1.out HBa.out).setCell (Nat.le_refl _) _).setCell (Nat.le_refl _) _).setCell (Nat.le_refl _) _⟩
end Go.Proofs.Ytecflhklpkjhcaa

namespace Go.Proofs.Ytecflhklpkjhcaa
open Go.RowKit

theorem recsC_take (es : List (Rec × Value)) {j : Nat} (h : j < es.length) : recsC (es.take (j + 1)) = recsC (es.take j) ++ recC (rat es j) := by
  have : es.take (j + 1) = es.take j ++ [rat es j] := by
    rw [List.take_add_one, List.getElem?_eq_getElem h]; unfold rat; rw [List.getD_eq_getElem?_getD, List.getElem?_eq_getElem h]; rfl
  rw [this, recsC_snoc]
theorem recsC_one (es : List (Rec × Value)) (w : World) (h : ∀ p ∈ es, RdB w p.2 p.1.nd.data) : ∀ u ∈ recsC es, u.oneCell' = true := by
  intro u hu
  obtain ⟨p, hp, hu⟩ := List.mem_flatMap.1 hu
  obtain ⟨a, c, hv, _⟩ := (h p hp).shape0
  obtain ⟨r, v⟩ := p
  dsimp only at hv hu
  subst hv
  exact rec_one r _ _ _ u hu
theorem rat_eq {xs bs : List (Rec × Value)} (h : xs.map (·.1) = bs.map (·.1)) (j : Nat) : (rat xs j).1 = (rat bs j).1 := by
  have e : ∀ es : List (Rec × Value), (rat es j).1 = (es.map (·.1)).getD j ⟨0, nd0⟩ := fun es => by
    unfold rat
    rw [List.getD_eq_getElem?_getD, List.getD_eq_getElem?_getD, List.getElem?_map]
    cases es[j]? <;> rfl
  rw [e, e, h]
set_option maxRecDepth 100000 in
set_option maxHeartbeats 4000000 in
theorem srecs_any (va vb : Value) (xs bs : List (Rec × Value)) (w : World) (ha : RdR w va xs) (hb : RdR w vb bs) (he : xs.map (·.1) = bs.map (·.1)) :
    Calls Try.prog 24 #[va, vb] w fun e w' => e = .returned (.bool true) ∧ Below w.heap.size w w' := by
  obtain ⟨a, cap, rfl, h1, h2⟩ := ha.shape
  obtain ⟨b, cap', rfl, h3, h4⟩ := hb.shape
  have Ha := Lib.hid ha
  have Hb := Lib.hid hb
  have HQ := Lib.hid (fun j => rat_eq he j)
  have hl : xs.length = bs.length := by have := congrArg List.length he; simpa using this
  clear ha hb he
  generalize hm : bs.length = m at *
  generalize hn : xs.length = n at *
  subst hl
  clear hm hn
  have hn63 := lt63 h1 h2
  have q4 : ((n : Int) != (n : Int)) = false := by simp
  go_enter Try.func24, Try.ntmps24
  go_wp2_with fail
  go_loopw [13] (fun iv W => ∃ i : Nat, iv = .int .i64 (i : Int) ∧ i ≤ n ∧ Hid (Below w.heap.size w W)) (fun iv _ => n - (intOf iv).toNat)
  case atStart => exact ⟨0, by rfl, Nat.zero_le _, Lib.hid (Below.refl _ _)⟩
  case round =>
    obtain ⟨i, rfl, hi, HB⟩ := hrel
    by_cases hin : i < n
    · obtain ⟨b1, o1, hla, hd1, c0, c1, c2, c3, c4⟩ := (Ha.out.below HB.out).at hin
      obtain ⟨b2, o2, hka, hd2, d0, d1, d2, d3, d4⟩ := (Hb.out.below HB.out).at hin
      subst hla hka
      have hq := HQ.out i
      generalize rat xs i = A at *
      generalize rat bs i = B at *
      obtain ⟨A, v1⟩ := A
      obtain ⟨B, v2⟩ := B
      dsimp only at hq hd1 hd2 c0 c1 c2 c3 c4 d0 d1 d2 d3 d4
      subst hq
      obtain ⟨off, X⟩ := A
      dsimp only at *
      have HSame := Lib.hid (fun u : BelowBy wr => (rnsame_any X X v1 v2 u.w' (RdL.below hd1 u.h) (RdL.below hd2 u.h)))
      rw [show decide (X = X) = true from decide_eq_true rfl] at HSame
      obtain ⟨a1, k1, hv1, _, _⟩ := hd1.shape0
      obtain ⟨a2, k2, hv2, _, _⟩ := hd2.shape0
      subst hv1 hv2
      obtain ⟨xk, xc, xd, xl⟩ := X
      dsimp only at *
      generalize hxl : xl.length = l at *
      clear hd1 hd2 hxl
      have c0 := cell_by c0
      have c1 := cell_by c1
      have c2 := cell_by c2
      have c3 := cell_by c3
      have c4 := cell_by c4
      have d0 := cell_by d0
      have d1 := cell_by d1
      have d2 := cell_by d2
      have d3 := cell_by d3
      have d4 := cell_by d4
      have i1 : (i : Int) < (n : Int) := by omega
      have q5 : ((off : Int) != (off : Int)) = false := by simp
      go_wp2_with fail
      refine wp_region_below (by kernel_rfl) (by kernel_rfl) ?_
      repeat (go_big_quiet_step ((first | exact calls_by (HSame.out _))))
      refine wpQuiet_nil ?_
      intro _ hw'
      obtain ⟨u, hw'⟩ := hw'
      subst hw'
      have HBu := Lib.hid (bstep HB.out u.h)
      clear c0 c1 c2 c3 c4 d0 d1 d2 d3 d4
      go_wp2_with fail
      exact ⟨⟨i + 1, by go_num, by omega, HBu⟩, by simp [intOf]; omega⟩
    · obtain rfl : i = n := by omega
      go_wp2_with fail
      go_ret
      exact ⟨rfl, HB.out⟩
set_option maxRecDepth 100000 in
set_option maxHeartbeats 4000000 in
theorem given_any (v : Value) (es : List (Rec × Value)) (w : World) (h : RdR w v es) (hs : es.length ≤ 50000) :
    Calls Try.prog 20 #[v] w fun e w' => ∃ lv, e = .returned lv ∧ RdR w' lv es ∧ Below w.heap.size w w' := by
  obtain ⟨a, cap, rfl, h1, h2⟩ := h.shape
  have Hw0 := Lib.hid h
  have HT := Lib.hid (fun j (hj : j < es.length) => recsC_take es hj)
  have HE := Lib.hid (show es.take es.length = es from List.take_length)
  have HON := Lib.hid (fun j (hj : j < es.length) => show ∀ u ∈ recC (rat es j), u.oneCell' = true from fun u hu => recsC_one es w h.dat u (List.mem_flatMap.2 ⟨_, rat_mem hj, hu⟩))
  have HFin := Lib.hid (show ∀ lv W, Below w.heap.size w W → W.ownsRow w.heap.size 43 5 lv es.length (recsC es) → RdR W lv es from fun lv W hb ho => ⟨own_rd ho, fun p hp => RdL.below (h.dat p hp) hb⟩)
  generalize hn : es.length = n at *
  clear h hn
  go_enter Try.func20, Try.ntmps20
  go_wp2_with fail
  go_loopw [3, 7] (fun ov iv W => ∃ i : Nat, iv = .int .i64 (i : Int) ∧ i ≤ n ∧ Hid (W.ownsRow w.heap.size 43 5 ov i (recsC (es.take i))) ∧ Hid (Below w.heap.size w W)) (fun _ iv _ => n - (intOf iv).toNat)
  case atStart => exact ⟨0, by rfl, Nat.zero_le _, Lib.hid (World.ownsRow_nil _ _ _ _), Lib.hid (Below.refl _ _)⟩
  case round =>
    obtain ⟨i, rfl, hi, HO, HB⟩ := hrel
    have hsz := HB.out.size
    by_cases hin : i < n
    · obtain ⟨b1, o1, hla, hd1, c0, c1, c2, c3, c4⟩ := (Hw0.out.below HB.out).at hin
      subst hla
      have HTi := Lib.hid (HT.out i hin)
      have HOi := Lib.hid (HON.out i hin)
      generalize rat es i = A at *
      obtain ⟨⟨off, x⟩, v1⟩ := A
      dsimp only at *
      obtain ⟨a1, k1, hv1, _, _⟩ := hd1.shape0
      subst hv1
      obtain ⟨oa, oc, hov, _⟩ := own_form HO.out
      subst hov
      obtain ⟨xk, xc, xd, xl⟩ := x
      dsimp only at *
      have HC := Lib.hid (show recC (⟨off, ⟨xk, xc, xd, xl⟩⟩, .slice a1 xl.length k1) = [.int .i64 off, .int .u64 (xk : Int), .int .u32 (xc : Int), .bool xd, .slice a1 xl.length k1] from rfl)
      rw [HC.out] at HOi HTi
      clear HC hd1
      generalize xl.length = l at *
      have i1 : (i : Int) < (n : Int) := by omega
      go_wp2_with fail
      go_region_law ((refine step_app (n := i) (m := 1) (by rfl) (.tmp 10) (.tmp 22) 38 (by rfl) elemR w.heap.size (by rfl) ((HO.out.alloc _).drew) (by rfl) (Rd.drew (Rd.newK wr.heap.size wr rfl 5 [.int .i64 off, .int .u64 (xk : Int), .int .u32 (xc : Int), .bool xd, .slice a1 l k1] 43 1 rfl (by decide))) HOi.out (by unfold maxLen; omega) (by omega) (by simp; omega) ?_; intro v4 w4 hown4 hgr4 hv4; clear hv4))
      all_goals
        have HAl := Lib.hid (show Below wr.heap.size wr (wr.alloc (.cells ([.int .i64 off, .int .u64 (xk : Int), .int .u32 (xc : Int), .bool xd, .slice a1 l k1] : List Value).toArray 43)).drew from below_drew ((Below.refl _ _).alloc (Nat.le_refl _) _))
        have HB4 := Lib.hid (own_below (bstep HB.out HAl.out) (own_keep HO.out HAl.out) (Nat.le_trans hsz HAl.out.size) hgr4)
        rw [← HTi.out] at hown4
        have HO4 := Lib.hid hown4
        clear hown4 hgr4
        go_wp2_with fail
        exact ⟨⟨i + 1, by go_num, by omega, HO4, HB4⟩, by simp [intOf]; omega⟩
    · obtain rfl : i = n := by omega
      have HX := Lib.hid (HFin.out _ _ HB.out (by have := HO.out; rw [HE.out] at this; exact this))
      go_wp2_with fail
      go_ret
      exact ⟨_, rfl, HX.out, HB.out⟩
end Go.Proofs.Ytecflhklpkjhcaa

namespace Go.Proofs.Ytecflhklpkjhcaa
open Go.RowKit

theorem Rd.spot' {w : World} {sz n m cap : Nat} {a : Option Addr} {cs : List Value} (h : Rd w sz (.slice a n cap) m cs) (hp : 0 < cs.length) : ∀ x, a = some x → ∃ b off, x = ⟨b, off, none⟩ := fun x hx => by
  obtain ⟨_, a', cap', e, _, _, _, hc⟩ := h
  injection e with e1
  obtain ⟨b, off, e2, _⟩ := hc hp
  rw [hx] at e1
  rw [e2] at e1
  exact ⟨b, off, Option.some.inj e1⟩
theorem RdR.take {w : World} {a : Option Addr} {n cap : Nat} {es : List (Rec × Value)} (h : RdR w (.slice a n cap) es) (k : Nat) (hk : k ≤ n) : RdR w (.slice a k cap) (es.take k) :=
  ⟨(RdS.take (f := recC) (sz := 5) ⟨fun _ _ => rfl, h.row⟩ k hk).2, fun p hp => h.dat p (List.mem_of_mem_take hp)⟩
set_option maxRecDepth 100000 in
set_option maxHeartbeats 4000000 in
theorem sitems_walk (rv v : Value) (raw : List (Rec × Value)) (ns : List (Nd × Value)) (w : World) (hr : RdR w rv raw) (hrk : ∀ p ∈ raw, p.1.nd.key < 18446744073709551616) (h : RdN w v ns) (hwf : ∀ p ∈ ns, p.1.Wf) :
    Calls Try.prog 6 #[rv, v] w fun e w' => e = .returned (.bool true) ∧ Below w.heap.size w w' := by
  have HSm := Lib.hid (small_any v ns w h hwf)
  have HN := Lib.hid (show ∀ x ∈ ns.map (·.1), x.Wf from fun x hx => by obtain ⟨p, hp, rfl⟩ := List.mem_map.1 hx; exact hwf p hp)
  generalize ns.map (·.1) = N at *
  obtain ⟨ra, rc, rfl, hr1, hr2⟩ := hr.shape
  have hr3 := lt63 hr1 hr2
  have Hkk := Lib.hid (show ∀ p ∈ raw.take 40, p.1.nd.key < 18446744073709551616 from fun p hp => hrk p (List.mem_of_mem_take hp))
  have Hll := Lib.hid (show (raw.take 40).length ≤ 40 by rw [List.length_take]; omega)
  have Hto := Lib.hid (fun h40 : 40 < raw.length => (⟨hr.take 40 (Nat.le_of_lt h40), slice_to (P := Try.prog) elemRR (a := ra) (n := raw.length) (cap := rc) (Rd.spot' hr.row (by rw [recsC_length]; omega)) 40 (by omega)⟩ : _ ∧ _))
  have Hne := Lib.hid (fun h40 : raw.length ≤ 40 => show RdR w (.slice ra raw.length rc) (raw.take 40) by rw [List.take_of_length_le h40]; exact hr)
  generalize hrn : raw.length = rn at *
  generalize raw.take 40 = R4 at *
  clear h hwf hr hrk hrn
  go_enter Try.func6, Try.ntmps6
  go_upto_if 19 with fail
  go_cut [0] (fun s wx => (∃ a n c, s = .slice a n c ∧ RdR w (.slice a n c) R4) ∧ w = wx)
  case first =>
    by_cases h40 : 40 < rn
    · have hd : decide ((40 : Int) < (rn : Int)) = true := by simp; omega
      obtain ⟨hr, hto⟩ := Hto.out h40
      have HR := Lib.hid hr
      rw [show ((40 : Nat) : Int) = 40 from rfl] at hto
      clear hr
      go_wp2_with fail
      go_meet
      case rel => exact ⟨⟨_, _, _, rfl, HR.out⟩, rfl⟩
    · have hd : decide ((40 : Int) < (rn : Int)) = false := by simp; omega
      have HR := Lib.hid (Hne.out (by omega))
      go_wp2_with fail
      go_meet
      case rel => exact ⟨⟨_, _, _, rfl, HR.out⟩, rfl⟩
  case rest =>
    obtain ⟨⟨qa, qn, qc, rfl, hq⟩, rfl⟩ := hcut
    have Hq := Lib.hid hq
    clear hq Hto Hne
    go_wp2_with fail
    refine HSm.out.mono ?_; rintro e w1 ⟨kv, es, rfl, hown1, hes, hdat, hb1⟩
    have HFl := Lib.hid (file_any kv es w1 (sms_rd hown1 hdat hb1) (sms_ok hes HN.out) (sms_len hes))
    have HOk := Lib.hid (show ∀ x ∈ es.map (·.1), x.ok ∧ x.Wf from fun x hx => by obtain ⟨p, hp, rfl⟩ := List.mem_map.1 hx; exact sms_ok hes HN.out p hp)
    have hl12 := sms_len hes
    have HB1 := Lib.hid hb1
    have hKl0 : (es.map (·.1)).length ≤ 12 := by rw [List.length_map]; exact hl12
    generalize es.map (·.1) = K at *
    clear hown1 hes hdat hb1 HSm HN hl12
    go_wp2_with fail
    refine HFl.out.mono ?_; rintro e w2 ⟨bv, nv, rfl, hownb, hownn, hb2⟩
    have hle := nsum_le (k := K) (fun x hx => (HOk.out x hx).1)
    have hfl := fileB_length K
    have HTo := Lib.hid (ropen_any _ (fileB K) w2 hownb.rd (by omega))
    rw [open_whole K HOk.out] at HTo
    obtain ⟨ba, bc, hbv, _⟩ := own_form hownb
    obtain ⟨na, nc, hnv, _⟩ := own_form hownn
    subst hbv hnv
    have HB2 := Lib.hid (bstep HB1.out hb2)
    clear hownb hownn hb2 HFl hfl hle
    generalize (fileB K).length = lb at *
    have HKey := Lib.hid (fun es he => recs_keys (es := es) (K := K) (p := 16) he HOk.out)
    have HLen := Lib.hid (fun es he => recs_len (es := es) (K := K) (p := 16) he)
    clear HOk
    go_wp2_with fail
    refine HTo.out.mono ?_; rintro e w3 ⟨⟨lv, rs, rfl, hown3, hrs⟩, hb3⟩
    have HB3 := Lib.hid (bstep HB2.out hb3)
    have hlen3 := HLen.out rs hrs
    have HKey3 := Lib.hid (HKey.out rs hrs)
    have HRs := Lib.hid hown3.rd
    obtain ⟨la, lc, hlv, _⟩ := own_form hown3.row
    subst hlv
    have hrl : rs.length ≤ 12 := by omega
    clear hown3 hrs hb3 HTo HKey HLen hlen3
    generalize nsum K = s at *
    generalize hrn : rs.length = m at *
    have HRn := Lib.hid hrn
    clear hrn hKl0
    go_wp2_with fail
    obtain ⟨W0, hW0, HW0, HZ0, HZ1⟩ : ∃ W0, (w3.alloc (.cells #[.int .i64 (fsup.slot : Int), .int .i64 (fsup.gen : Int), .int .i64 (fsup.rev : Int)] 37)).alloc (.cells #[.slice qa qn qc, .slice la m lc] 52) = W0 ∧ Hid (Below w3.heap.size w3 W0) ∧ Hid (W0.cell? ⟨w3.heap.size + 1, 0, none⟩ = some (.slice qa qn qc)) ∧ Hid (W0.cell? ⟨w3.heap.size + 1, 1, none⟩ = some (.slice la m lc)) :=
      ⟨_, rfl, Lib.hid (((Below.refl _ _).alloc (Nat.le_refl _) _).alloc (by simp) _), Lib.hid (by simp), Lib.hid (by simp)⟩
    rw [hW0]
    clear hW0
    have HB0 := Lib.hid (bstep HB3.out HW0.out)
    have HXX := Lib.hid (show ∀ i, i < 2 → ∃ xa xn xc ys, (W0.cell? ⟨w3.heap.size + 1, i, none⟩ = some (.slice xa xn xc)) ∧ RdR W0 (.slice xa xn xc) ys ∧ (∀ p ∈ ys, p.1.nd.key < 18446744073709551616) ∧ ys.length ≤ 40 from fun i hi => by
      match i, hi with
      | 0, _ => exact ⟨qa, qn, qc, R4, HZ0.out, Hq.out.below HB0.out, Hkk.out, Hll.out⟩
      | 1, _ => exact ⟨la, m, lc, rs, HZ1.out, HRs.out.below HW0.out, HKey3.out, by rw [HRn.out]; omega⟩)
    clear HZ0 HZ1 HRs HKey3 HRn Hq Hkk Hll HB1 HB2 HB3
    go_loopw [39] (fun iv W => ∃ i : Nat, iv = .int .i64 (i : Int) ∧ i ≤ 2 ∧ Hid (Below W0.heap.size W0 W)) (fun iv _ => 2 - (intOf iv).toNat)
    case atStart => exact ⟨0, rfl, by omega, Lib.hid (Below.refl _ _)⟩
    case round =>
      obtain ⟨i, rfl, hi, HB⟩ := hrel
      by_cases hin : i < 2
      · obtain ⟨xa, xn, xc, ys, hcell, hrd, hkey, hlen⟩ := HXX.out i hin
        have hcell := Below.keeps HB.out _ _ hcell
        have HY := Lib.hid (hrd.below HB.out)
        have HKy := Lib.hid hkey
        have i1 : (i : Int) < 2 := by omega
        clear hrd hkey
        have HG1 := Lib.hid (given_any _ ys wr HY.out (by omega))
        go_wp2_with fail
        refine HG1.out.mono ?_; rintro e w4 ⟨v4, rfl, hr4, hb4⟩
        have HB4 := Lib.hid (bstep HB.out hb4)
        have HBy := Lib.hid (bytes_any v4 ys w4 hr4 HKy.out (by omega))
        have HY4 := Lib.hid (HY.out.below hb4)
        obtain ⟨a4, c4, hv4, _⟩ := hr4.shape
        subst hv4
        clear hr4 hb4 HG1
        go_wp2_with fail
        refine HBy.out.mono ?_; rintro e w5 ⟨rfl, hb5⟩
        have HB5 := Lib.hid (bstep HB4.out hb5)
        have HY5 := Lib.hid (HY4.out.below hb5)
        have HBr := Lib.hid (rbytes_any _ ys w5 HY5.out (by omega))
        clear hb5 HBy HY4
        have HIt := Lib.hid (fun v W h => items_any v ys W h HKy.out (by omega))
        have HIr := Lib.hid (fun v W h => ritems_any v ys W h (by omega))
        generalize liveP (ys.map (·.1)) = p1 at *
        generalize restP (ys.map (·.1)) = p2 at *
        generalize itemsP (ys.map (·.1)) = T at *
        go_wp2_with fail
        refine HBr.out.mono ?_; rintro e w6 ⟨rfl, hb6⟩
        have HB6 := Lib.hid (bstep HB5.out hb6)
        have HY6 := Lib.hid (HY5.out.below hb6)
        have HG2 := Lib.hid (given_any _ ys w6 HY6.out (by omega))
        clear hb6 HBr HY5
        go_wp2_with fail
        refine HG2.out.mono ?_; rintro e w7 ⟨v7, rfl, hr7, hb7⟩
        have HB7 := Lib.hid (bstep HB6.out hb7)
        have HY7 := Lib.hid (HY6.out.below hb7)
        have HI7 := Lib.hid (HIt.out _ w7 hr7)
        obtain ⟨a7, c7, hv7, _⟩ := hr7.shape
        subst hv7
        clear hr7 hb7 HG2 HY6
        go_wp2_with fail
        refine HI7.out.mono ?_; rintro e w8 ⟨v8, rfl, hown8, hb8⟩
        have HB8 := Lib.hid (bstep HB7.out hb8)
        have HY8 := Lib.hid (HY7.out.below hb8)
        have HT8 := Lib.hid hown8.rd
        have HI8 := Lib.hid (HIr.out _ w8 HY8.out)
        obtain ⟨a8, c8, hv8, _⟩ := own_form hown8
        subst hv8
        clear hown8 hb8 HY7 HI7 HIt
        go_wp2_with fail
        refine HI8.out.mono ?_; rintro e w9 ⟨v9, rfl, hown9, hb9⟩
        have HB9 := Lib.hid (bstep HB8.out hb9)
        have HSa := Lib.hid (same_any _ _ T T w9 (HT8.out.below hb9) hown9.rd)
        rw [show decide (T = T) = true from decide_eq_true rfl] at HSa
        obtain ⟨a9, c9, hv9, _⟩ := own_form hown9
        subst hv9
        clear hown9 hb9 HT8 HI8 HIr
        have g1 : ((p1 : Int) != (p1 : Int)) = false := by simp
        have g2 : ((p2 : Int) != (p2 : Int)) = false := by simp
        go_wp2_with fail
        refine HSa.out.mono ?_; rintro e wa ⟨rfl, hba⟩
        have HBa := Lib.hid (bstep HB9.out hba)
        clear hba HSa
        go_wp2_with fail
        exact ⟨⟨i + 1, by go_num, by omega, HBa⟩, by simp [intOf]; omega⟩
      · obtain rfl : i = 2 := by omega
        go_wp2_with fail
        refine (awake_any _).mono ?_; rintro e w5 ⟨rfl, hb5⟩
        have HX := Lib.hid (bstep (bstep HB0.out HB.out) hb5)
        clear hb5
        go_wp2_with fail
        go_ret
        exact ⟨rfl, HX.out⟩
end Go.Proofs.Ytecflhklpkjhcaa

namespace Go.Proofs.Ytecflhklpkjhcaa
open Go.RowKit Go.ChangeShapes Go.WideShapes Go.Deep

theorem open_rows {H : Type} {enc : TypeId × Value → H} {w : World} {α : Type} (z : α) {t e : TypeId} {sz : Nat} (f : α → List Value) (Q : α → Prop) (hu : Try.prog.underlying t = some (.slice e)) (hc : Try.prog.cellsOf e = sz) (hf : ∀ x, (f x).length = sz) (hz : 0 < sz)
    (one : ∀ fuel cs x, DataW.trod enc Try.prog w 0 (fun _ => true) true fuel e cs = some x → ∃ y, cs = f y ∧ Q y)
    {a : Option Addr} {n cap : Nat} {d : DataW H} {p : List MemPlace} (h : DataW.Trod enc Try.prog w 0 (fun _ => true) true t (.slice a n cap) d p) :
    ∃ l : List α, RdS sz f w (.slice a n cap) l ∧ ∀ x ∈ l, Q x := by
  obtain ⟨fuel, hfu⟩ := h
  rcases open_slice hu hfu with ⟨hcs, _⟩ | ⟨x, len, cap', m, k, D, Pl, hcs, _, hl, hm, hmm, _, hx⟩
  · simp [Value.cells] at hcs
    obtain ⟨rfl, rfl, rfl⟩ := hcs
    exact ⟨[], RdS.nil sz f w, fun e he => by cases he⟩
  · simp [Value.cells] at hcs
    obtain ⟨rfl, rfl, rfl⟩ := hcs
    simp only [if_true] at hmm
    subst hmm
    rw [hc] at hx
    haveI : Inhabited α := ⟨z⟩
    have each : ∀ i, i < n → ∃ y : α, (∀ j, j < sz → w.cell? (x.add (i * sz + j)) = (f y)[j]?) ∧ Q y := fun i hi => by
      obtain ⟨cs', h1, h2⟩ := hx i (by omega)
      obtain ⟨y, rfl, hy⟩ := one _ _ _ h2
      obtain ⟨_, _, hc⟩ := World.cells?_some h1
      exact ⟨y, fun j hj => by rw [← hc j hj, Go.Deep.add_add], hy⟩
    obtain ⟨E, hE⟩ := choose_lt each
    have hfl := flat_length sz f ((List.range n).map E) (fun x _ => hf x)
    refine ⟨(List.range n).map E, ⟨fun x _ => hf x, ?_⟩, fun e he => ?_⟩
    · rw [List.length_map, List.length_range]
      rw [List.length_map, List.length_range] at hfl
      refine ⟨hfl, some x, m, by simp, by simpa using hl, hm, fun h => by simp at h, fun hp => ?_⟩
      have hn : 0 < n := by
        rw [hfl] at hp; exact Nat.pos_of_mul_pos_right hp
      obtain ⟨b, off, spot⟩ := x
      have hspot : spot = none := by
        have h0 := (hE 0 hn).1 0 hz
        rw [List.getElem?_eq_getElem (by rw [hf]; exact hz)] at h0
        simpa [Addr.add] using World.cell?_spot h0
      subst hspot
      refine ⟨b, off, rfl, fun j u hj => ?_⟩
      have hjl : j < n * sz := by
        have := (List.getElem?_eq_some_iff.1 hj).1
        rw [hfl] at this
        exact this
      have hjd : j / sz < n := (Nat.div_lt_iff_lt_mul hz).2 hjl
      have hjm : j % sz < sz := Nat.mod_lt _ hz
      have hat := flat_at sz f z ((List.range n).map E) (fun x _ => hf x) (j / sz) (j % sz) (by simpa using hjd) hjm
      have hjj : j / sz * sz + j % sz = j := by rw [Nat.mul_comm]; exact Nat.div_add_mod j sz
      rw [hjj] at hat
      have hg : ((List.range n).map E).getD (j / sz) z = E (j / sz) := by
        rw [List.getD_eq_getElem?_getD, List.getElem?_map, List.getElem?_range hjd]; rfl
      rw [hg] at hat
      have hc := (hE (j / sz) hjd).1 (j % sz) hjm
      rw [hjj, addr_add] at hc
      rw [hc, ← hat]; exact hj
    · obtain ⟨i, hi, rfl⟩ := List.mem_map.1 he
      exact (hE i (List.mem_range.1 hi)).2
end Go.Proofs.Ytecflhklpkjhcaa

namespace Go.Proofs.Ytecflhklpkjhcaa
open Go.RowKit

theorem recsOf_at : ∀ (K : List Nd) (p i : Nat), i < K.length → (recsOf p K)[i]? = some ⟨p + nsum (K.take i), K.getD i nd0⟩
  | [], _, _, h => by simp at h
  | x :: K, p, 0, _ => by simp [recsOf, nsum]
  | x :: K, p, i + 1, h => by
    have ih := recsOf_at K (p + nsz x.data.length) i (by simpa using h)
    show (recsOf (p + nsz x.data.length) K)[i]? = _
    rw [ih, List.take_succ_cons, nsum_cons]
    simp [Int.add_assoc]
theorem endsF_length (K : List Nd) : (endsF K).length = K.length := by simp [endsF]
theorem endsF_at (K : List Nd) (i : Nat) (h : i < K.length) : (endsF K)[i]? = some ((16 + nsum (K.take (i + 1)) : Nat) : Int) := by
  simp [endsF, h]
theorem take_snoc' {K : List Nd} {i : Nat} (h : i < K.length) : K.take (i + 1) = K.take i ++ [K.getD i nd0] := by
  rw [List.take_add_one, List.getElem?_eq_getElem h, List.getD_eq_getElem?_getD, List.getElem?_eq_getElem h]; rfl
theorem rd_cell {w : World} {a : Option Addr} {n cap : Nat} {cs : List Value} (h : Rd w 1 (.slice a n cap) n cs) {i : Nat} {u : Value} (hi : cs[i]? = some u) : ∃ b off, a = some ⟨b, off, none⟩ ∧ w.cell? ⟨b, off + i, none⟩ = some u := by
  obtain ⟨_, a', cap', e, _, _, _, hc⟩ := h
  injection e with e1
  obtain ⟨b, off, e2, hc⟩ := hc (by have := (List.getElem?_eq_some_iff.1 hi).1; omega)
  exact ⟨b, off, e1.trans e2, hc i u hi⟩
theorem made0 (B k : Nat) (w : World) (hk : w.heap.size = k) (hB : B ≤ k) : (w.alloc (.cells #[] 5)).ownsRow B 5 1 (.slice (some ⟨k, 0, none⟩) 0 0) 0 [] := by
  subst hk; exact World.ownsRow_made (size := 1) w #[] 0 hB (by decide) rfl
/-- The needles that small leaves, for reading. -/
theorem sm_rd {w w' : World} {lv : Value} {es : List (Nd × Value)} (h : w'.ownsRow w.heap.size 31 4 lv es.length (needsC es)) (hd : ∀ p ∈ es, RdB w p.2 p.1.data) (hb : Below w.heap.size w w') : RdN w' lv es :=
  ⟨own_rd h, fun p hp => RdL.below (hd p hp) hb⟩
theorem sm_ok {es : List (Nd × Value)} {N : List Nd} (h : es.map (·.1) = smallF N) (hN : ∀ x ∈ N, x.Wf) : ∀ p ∈ es, p.1.ok ∧ p.1.Wf := fun p hp => by
  have : p.1 ∈ smallF N := by rw [← h]; exact List.mem_map.2 ⟨p, hp, rfl⟩
  obtain ⟨x, hx, e⟩ := List.mem_map.1 this
  rw [← e]
  exact ⟨sm1_ok x, sm1_wf (hN x (List.mem_of_mem_take hx))⟩
theorem sm_len {es : List (Nd × Value)} {N : List Nd} (h : es.map (·.1) = smallF N) : es.length ≤ 12 := by
  have := congrArg List.length h
  rw [List.length_map] at this
  rw [this]; unfold smallF; rw [List.length_map, List.length_take]; omega
set_option maxRecDepth 100000 in
set_option maxHeartbeats 2000000 in
theorem reads_walk (v tv : Value) (ns : List (Nd × Value)) (tl : List UInt8) (w : World) (h : RdN w v ns) (hwf : ∀ p ∈ ns, p.1.Wf) (ht : RdB w tv tl) :
    Calls Try.prog 3 #[v, tv] w fun e w' => e = .returned (.bool true) ∧ Below w.heap.size w w' := by
  have HSm := Lib.hid (small_any v ns w h hwf)
  have HN := Lib.hid (show ∀ x ∈ ns.map (·.1), x.Wf from fun x hx => by obtain ⟨p, hp, rfl⟩ := List.mem_map.1 hx; exact hwf p hp)
  have HT := Lib.hid ht
  obtain ⟨ta, tc, rfl, ht1, ht2⟩ := ht.shape0
  have ht3 := lt63 ht1 ht2
  generalize ns.map (·.1) = N at *
  clear h hwf ht
  go_enter Try.func3, Try.ntmps3
  go_wp2_with fail
  refine HSm.out.mono ?_; rintro e w1 ⟨kv, es, rfl, hown1, hes, hdat, hb1⟩
  have HFl := Lib.hid (file_any kv es w1 (sm_rd hown1 hdat hb1) (sm_ok hes HN.out) (sm_len hes))
  have HOk := Lib.hid (show ∀ x ∈ es.map (·.1), x.ok ∧ x.Wf from fun x hx => by obtain ⟨p, hp, rfl⟩ := List.mem_map.1 hx; exact sm_ok hes HN.out p hp)
  have hl12 := sm_len hes
  have HRk := Lib.hid (sm_rd hown1 hdat hb1)
  obtain ⟨ka, kc, hkv, _⟩ := own_form hown1
  subst hkv
  have HB1 := Lib.hid hb1
  clear hown1 hes hdat hb1 HSm HN
  generalize hK : es.map (·.1) = K at *
  have HK := Lib.hid hK
  clear hK
  go_wp2_with fail
  refine HFl.out.mono ?_; rintro e w2 ⟨bv, nv, rfl, hownb, hownn, hb2⟩
  have hfl := Lib.hid (fileB_length K)
  have hle := nsum_le (k := K) (fun x hx => (HOk.out x hx).1)
  have hKl : K.length ≤ 12 := by have := congrArg List.length HK.out; rw [List.length_map] at this; omega
  have hlb : (fileB K).length ≤ 60000 := by rw [fileB_length]; omega
  have hel := Lib.hid (show es.length = K.length by have := congrArg List.length HK.out; rw [List.length_map] at this; exact this)
  obtain ⟨ba, bc, hbv, _⟩ := own_form hownb
  obtain ⟨na, nc, hnv, _⟩ := own_form hownn
  subst hbv hnv
  have HRb := Lib.hid (show RdB w2 (.slice ba (fileB K).length bc) (fileB K) from hownb.rd)
  have HRn := Lib.hid (own_rd hownn)
  have HB2 := Lib.hid (bstep HB1.out hb2)
  have HRk2 := Lib.hid (HRk.out.below hb2)
  clear hownb hownn hb2 HFl HRk
  have HDt := Lib.hid (ndecode_any _ tl w2 (RdL.below HT.out HB2.out) ht3)
  go_wp2_with fail
  refine HDt.out.mono ?_; rintro e w3 ⟨⟨dv, rfl, hownd⟩, hb3⟩
  obtain ⟨da, dc, hdv, _⟩ := own_form hownd
  subst hdv
  have HB23 := Lib.hid hb3
  have HDr := Lib.hid (show (ndec tl).1 ≠ 0 → (ndec tl).1 ≠ 0 from id)
  clear hownd hb3 HDt
  by_cases hr : (ndec tl).1 = 0
  · have q1 : ((ndec tl).1 == 0) = true := beq_iff_eq.2 hr
    clear HDr hr
    generalize ndec tl = D at *
    obtain ⟨r, x, m⟩ := D
    dsimp only at q1
    go_wp2_with fail
    refine (awake_any _).mono ?_; rintro e w4 ⟨rfl, hb4⟩
    have HX := Lib.hid (bstep ((bstep HB2.out HB23.out).alloc (bstep HB2.out HB23.out).size (.cells #[.int .u64 (x.key : Int), .int .u32 (x.ck : Int), .bool x.del, .slice da x.data.length dc] 31)) hb4)
    clear hb4
    go_wp2_with fail
    go_ret
    exact ⟨rfl, HX.out⟩
  · have q1 : ((ndec tl).1 == 0) = false := beq_eq_false_iff_ne.2 hr
    have HOpen := Lib.hid (fun V W (hV : RdB W V (fileB K ++ tl)) (hs : (fileB K ++ tl).length ≤ 1000000) => open_any V (fileB K ++ tl) W hV hs)
    rw [open_file K tl HOk.out hr] at HOpen
    clear HDr hr
    generalize ndec tl = D at *
    obtain ⟨r, x, m⟩ := D
    dsimp only at q1
    by_cases h500 : 500 < tl.length
    · have q2 : decide ((500 : Int) < (tl.length : Int)) = true := by simp; omega
      go_wp2_with fail
      refine (awake_any _).mono ?_; rintro e w4 ⟨rfl, hb4⟩
      have HX := Lib.hid (bstep ((bstep HB2.out HB23.out).alloc (bstep HB2.out HB23.out).size (.cells #[.int .u64 (x.key : Int), .int .u32 (x.ck : Int), .bool x.del, .slice da x.data.length dc] 31)) hb4)
      clear hb4
      go_wp2_with fail
      go_ret
      exact ⟨rfl, HX.out⟩
    · have q2 : decide ((500 : Int) < (tl.length : Int)) = false := by simp; omega
      have HB3 := Lib.hid (bstep HB2.out HB23.out)
      have HAl := Lib.hid (show Below w3.heap.size w3 ((w3.alloc (.cells #[.int .u64 (x.key : Int), .int .u32 (x.ck : Int), .bool x.del, .slice da x.data.length dc] 31)).alloc (.cells #[] 5)) from ((Below.refl _ _).alloc (Nat.le_refl _) _).alloc (by simp) _)
      have HM0 := Lib.hid (made0 w3.heap.size (w3.heap.size + 1) (w3.alloc (.cells #[.int .u64 (x.key : Int), .int .u32 (x.ck : Int), .bool x.del, .slice da x.data.length dc] 31)) (by simp) (Nat.le_succ _))
      have HRb3 := Lib.hid (show Rd _ 1 (.slice ba (fileB K).length bc) (fileB K).length ((fileB K).map byteV) from RdL.below (HRb.out.below HB23.out) HAl.out)
      have hs0 := HAl.out.size
      go_wp2_with (first | (at_builtin; refine wpList_app (n := 0) (m := (fileB K).length) rfl (.tmp 38) (.tmp 39) 23 rfl elemB w3.heap.size rfl HM0.out rfl HRb3.out (bytes_one _) (by unfold maxLen; omega) (by omega) hs0 ?_; intro v4 w4 hown4 hgr4 hv4; clear hv4; have HO4 := Lib.hid (show OwnB w4 w3.heap.size v4 (fileB K) from ownB_of hown4 (List.nil_append _)); have HB4 := Lib.hid (own_below HAl.out HM0.out hs0 hgr4); have hs4 := HB4.out.size; have HR4 := Lib.hid (show Rd w4 1 (.slice ta tl.length tc) tl.length (tl.map byteV) from RdL.below HT.out (bstep HB3.out HB4.out)); clear hown4 hgr4) | (at_builtin; refine wpList_app (n := (fileB K).length) (m := tl.length) rfl (.tmp 40) (.tmp 41) 23 rfl elemB w3.heap.size rfl HO4.out rfl HR4.out (bytes_one _) (by unfold maxLen; omega) (by omega) hs4 ?_; intro v5 w5 hown5 hgr5 hv5; clear hv5; have HO5 := Lib.hid (show OwnB w5 w3.heap.size v5 (fileB K ++ tl) from ownB_of hown5 (List.map_append ..).symm); have HB5 := Lib.hid (own_below HB4.out HO4.out hs4 hgr5); clear hown5 hgr5))
      refine (HOpen.out v5 w5 HO5.out.rd (by rw [List.length_append]; omega)).mono ?_; rintro e w6 ⟨⟨lv, rs, rfl, hown6, hrs⟩, hb6⟩
      have HB6 := Lib.hid (bstep HB3.out (bstep HB5.out hb6))
      have HC6 := Lib.hid (bstep (bstep HB23.out HB5.out) hb6)
      have hrl : rs.length = K.length := by have := congrArg List.length hrs; rw [List.length_map] at this; rw [this]; exact recsOf_length K 16
      obtain ⟨la, lc, hlv, _⟩ := own_form hown6.row
      subst hlv
      have HRr := Lib.hid hown6.rd
      have HRs := Lib.hid hrs
      clear hown6 hrs hb6 HAl HM0 HRb3 HO4 HB4 HR4 HO5 HB5 HOpen hs0 hs4
      have HK6 := Lib.hid (HRk2.out.below HC6.out)
      have HN6 := Lib.hid (show Rd w6 1 (.slice na es.length nc) es.length ((endsF K).map intV) from Rd.below HRn.out HC6.out)
      have hKn := hel.out
      generalize hA : rs.length = n at *
      generalize hE : es.length = n' at *
      obtain rfl : n' = n := by omega
      have hfl' := hfl.out
      generalize hFL : (fileB K).length = lb at *
      rw [← hfl']
      have HKn := Lib.hid hKn
      have HLb := Lib.hid hfl'
      clear hKn hA hE hfl' hFL hfl hrl hel HRk2 HRn HRb hle
      have hn12 : n' ≤ 12 := hl12
      have q3 : ((lb : Int) != (lb : Int)) = false := by simp
      have q4 : ((n' : Int) != (n' : Int)) = false := by simp
      clear hKl
      go_wp2_with fail
      have HB7 := Lib.hid (show Below w6.heap.size w6 (w6.alloc (.cells #[.int .i64 (fsup.slot : Int), .int .i64 (fsup.gen : Int), .int .i64 (fsup.rev : Int)] 37)) from (Below.refl _ _).alloc (Nat.le_refl _) _)
      go_loopw [65] (fun iv W => ∃ i : Nat, iv = .int .i64 (i : Int) ∧ i ≤ n' ∧ Hid (Below w6.heap.size w6 W)) (fun iv _ => n' - (intOf iv).toNat)
      case atStart => exact ⟨0, rfl, Nat.zero_le _, HB7⟩
      case round =>
        obtain ⟨i, rfl, hi, HB⟩ := hrel
        by_cases hin : i < n'
        · have hiK : i < K.length := by have := HKn.out; omega
          obtain ⟨b1, o1, hla, hd1, c0, c1, c2, c3, c4⟩ := (HRr.out.below HB.out).at hin
          obtain ⟨b2, o2, hka, hd2, d0, d1, d2, d3⟩ := (HK6.out.below HB.out).at hin
          obtain ⟨b3, o3, hna, e0⟩ := rd_cell (Rd.below HN6.out HB.out) (i := i) (u := .int .i64 ((16 + nsum (K.take (i + 1)) : Nat) : Int)) (by rw [List.getElem?_map, endsF_at K i hiK]; rfl)
          subst hla hka hna
          have hx1 : (rat rs i).1 = ⟨((16 : Nat) : Int) + (nsum (K.take i) : Int), K.getD i nd0⟩ := by
            have hri : i < rs.length := by have := congrArg List.length HRs.out; rw [List.length_map, recsOf_length] at this; omega
            have := recsOf_at K 16 i hiK
            rw [← HRs.out, List.getElem?_map, List.getElem?_eq_getElem hri] at this
            unfold rat
            rw [List.getD_eq_getElem?_getD, List.getElem?_eq_getElem hri]
            simpa using this
          have hx2 : (nat' es i).1 = K.getD i nd0 := by
            have hei : i < es.length := by have := congrArg List.length HK.out; rw [List.length_map] at this; omega
            unfold nat'
            rw [← HK.out, List.getD_eq_getElem?_getD, List.getD_eq_getElem?_getD, List.getElem?_map, List.getElem?_eq_getElem hei]; rfl
          have hnx : nsum (K.take (i + 1)) = nsum (K.take i) + nsz (K.getD i nd0).data.length := by rw [take_snoc' hiK, nsum_snoc]
          have hox := (HOk.out (K.getD i nd0) (by rw [List.getD_eq_getElem?_getD, List.getElem?_eq_getElem hiK]; exact List.getElem_mem hiK)).1.1
          have hnb : 16 + nsum (K.take (i + 1)) ≤ 100000 := by
            have := nsum_le (k := K.take (i + 1)) (fun x hx => (HOk.out x (List.mem_of_mem_take hx)).1)
            rw [List.length_take] at this
            omega
          rw [hx1] at hd1 c0 c1 c2 c3
          rw [hx2] at hd2 d0 d1 d2
          dsimp only at hd1 c0 c1 c2 c3
          generalize (rat rs i).2 = v1 at *
          generalize (nat' es i).2 = v2 at *
          clear hx1 hx2
          generalize K.getD i nd0 = X at *
          rw [hnx] at e0 hnb
          rw [← Int.natCast_add] at c0
          rw [← Nat.add_assoc] at e0 hnb
          generalize 16 + nsum (K.take i) = o at *
          have HSame := Lib.hid (fun u : BelowBy wr => (rnsame_any X X v1 v2 u.w' (RdL.below hd1 u.h) (RdL.below hd2 u.h)))
          rw [show decide (X = X) = true from decide_eq_true rfl] at HSame
          have HSz := Lib.hid (fun u : BelowBy wr => (nsize_any X.data.length u.w' (by omega)).mono fun e w' (h : _ ∧ _) => (⟨h.1, h.2 ▸ Below.refl _ _⟩ : e = .returned (.int .i64 ((szN X.data.length : Nat) : Int)) ∧ Below u.w'.heap.size u.w' w'))
          rw [szN_of hox] at HSz
          obtain ⟨a1, k1, hv1, _, _⟩ := hd1.shape0
          obtain ⟨a2, k2, hv2, _, _⟩ := hd2.shape0
          subst hv1 hv2
          obtain ⟨xk, xc, xd, xl⟩ := X
          dsimp only at *
          generalize hxl : xl.length = l at *
          clear hd1 hd2 hnx hxl
          generalize nsz l = s at *
          have c0 := cell_by c0
          have c1 := cell_by c1
          have c2 := cell_by c2
          have c3 := cell_by c3
          have c4 := cell_by c4
          have d0 := cell_by d0
          have d1 := cell_by d1
          have d2 := cell_by d2
          have d3 := cell_by d3
          have j5 : IntKind.i64.wrap ((o : Int) + (s : Int)) = ((o + s : Nat) : Int) := (IntWalk.i64_in _ (by omega)).trans (by omega)
          generalize hos : o + s = e at *
          have e0 := cell_by e0
          have q5 : ((e : Int) != (e : Int)) = false := by simp
          have i1 : (i : Int) < (n' : Int) := by omega
          clear hos
          go_wp2_with fail
          refine wp_region_below (by kernel_rfl) (by kernel_rfl) ?_
          repeat (go_big_quiet_step ((first | exact calls_by (HSame.out _) | exact calls_by (HSz.out _))))
          refine wpQuiet_nil ?_
          intro _ hw'
          obtain ⟨u, hw'⟩ := hw'
          subst hw'
          have HBu := Lib.hid (bstep HB.out u.h)
          clear c0 c1 c2 c3 c4 d0 d1 d2 d3 e0
          go_wp2_with fail
          exact ⟨⟨i + 1, by go_num, by omega, HBu⟩, by simp [intOf]; omega⟩
        · obtain rfl : i = n' := by omega
          go_wp2_with fail
          refine (awake_any _).mono ?_; rintro e w9 ⟨rfl, hb9⟩
          have HX := Lib.hid (bstep (bstep HB6.out HB.out) hb9)
          clear hb9
          go_wp2_with fail
          go_ret
          exact ⟨rfl, HX.out⟩
end Go.Proofs.Ytecflhklpkjhcaa

namespace Go.Proofs.Ytecflhklpkjhcaa
open Go.RowKit Go.ChangeShapes Go.WideShapes Go.Deep

theorem structN : ∃ f0 f1 f2 f3, Try.prog.underlying 31 = some (.struct #[f0, f1, f2, f3]) ∧ (f0.offset = 0 ∧ f1.offset = 1 ∧ f2.offset = 2 ∧ f3.offset = 3) ∧ f0.type = 28 ∧ f1.type = 29 ∧ f2.type = 4 ∧ f3.type = 23 :=
  ⟨_, _, _, _, Try.underlying31, ⟨rfl, rfl, rfl, rfl⟩, rfl, rfl, rfl, rfl⟩
theorem cellsOfN : Try.prog.cellsOf 31 = 4 := by kernel_rfl
theorem cellsOf_bool : Try.prog.cellsOf 4 = 1 := by kernel_rfl
theorem cellsOf_bytes : Try.prog.cellsOf 23 = 1 := by kernel_rfl
section
variable {H : Type} {enc : TypeId × Value → H} {w : World}
theorem open_bytes {fuel : Nat} {cs : List Value} {x : DataW H × List MemPlace} (h : DataW.trod enc Try.prog w 0 (fun _ => true) true fuel 23 cs = some x) : ∃ (v : Value) (l : List UInt8), cs = [v] ∧ RdB w v l := by
  rcases open_ints Try.underlying23 Try.underlying5 (by kernel_rfl) h with ⟨hcs, _⟩ | ⟨x, l, c, zs, hcs, _, hl, hm, hz, _, hcell, hwz⟩
  · exact ⟨_, [], hcs, RdB_nil w⟩
  · obtain ⟨r, _, hr⟩ := isRow_bytes (w := w) (a := some x) (len := l) (cap := c) (zs := zs) (.inr ⟨_, rfl, hl, hm, by simpa using hz, hcell, hwz⟩)
    exact ⟨_, r, hcs, hr⟩
theorem open_need {fuel : Nat} {cs : List Value} {x : DataW H × List MemPlace} (h : DataW.trod enc Try.prog w 0 (fun _ => true) true fuel 31 cs = some x) : ∃ y : Nd × Value, cs = needC y ∧ y.1.Wf ∧ RdB w y.2 y.1.data := by
  obtain ⟨f0, f1, f2, f3, hs, ⟨o0, o1, o2, o3⟩, t0, t1, t2, t3⟩ := structN
  obtain ⟨xs, n, _, _, hlen, hxl, hf⟩ := DataW.trod_struct hs h
  rw [cellsOfN] at hlen
  have hx : xs.length = 4 := by simpa using hxl
  have g : ∀ j (hj : j < 4), xs[j]? = some (xs[j]'(by omega)) := fun j hj => List.getElem?_eq_getElem (by omega)
  have h0 := (hf 0 f0 rfl).trans (g 0 (by omega))
  have h1 := (hf 1 f1 rfl).trans (g 1 (by omega))
  have h2 := (hf 2 f2 rfl).trans (g 2 (by omega))
  have h3 := (hf 3 f3 rfl).trans (g 3 (by omega))
  rw [t0, o0, cellsOf_u64] at h0
  rw [t1, o1, cellsOf_u32] at h1
  rw [t2, o2, cellsOf_bool] at h2
  rw [t3, o3, cellsOf_bytes] at h3
  obtain ⟨k, e0, _, w0⟩ := DataW.trod_int Try.underlying28 h0
  obtain ⟨c, e1, _, w1⟩ := DataW.trod_int Try.underlying29 h1
  obtain ⟨d, e2, _⟩ := DataW.trod_bool Try.underlying4 h2
  obtain ⟨v, l, e3, hr⟩ := open_bytes h3
  have d0 := one_of e0
  have d1 := one_of e1
  have d2 := one_of e2
  have d3 := one_of e3
  have b0 := bounds_of_u64 w0
  have b1 := bounds_of_u32 w1
  obtain ⟨k, rfl⟩ := Int.eq_ofNat_of_zero_le b0.1
  obtain ⟨c, rfl⟩ := Int.eq_ofNat_of_zero_le b1.1
  refine ⟨(⟨k, c, d, l⟩, v), ?_, show k < 18446744073709551616 ∧ c < 4294967296 by omega, hr⟩
  match cs, hlen, d0, d1, d2, d3 with
  | [a, b, c', d], _, d0, d1, d2, d3 =>
    simp at d0 d1 d2 d3
    subst d0 d1 d2 d3
    rfl
theorem open_needs {a : Option Addr} {n cap : Nat} {d : DataW H} {p : List MemPlace} (h : DataW.Trod enc Try.prog w 0 (fun _ => true) true 22 (.slice a n cap) d p) :
    ∃ l : List (Nd × Value), RdN w (.slice a n cap) l ∧ ∀ x ∈ l, x.1.Wf := by
  obtain ⟨fuel, hf⟩ := h
  rcases open_slice Try.underlying22 hf with ⟨hcs, _⟩ | ⟨x, len, cap', m, k, D, Pl, hcs, _, hl, hm, hmm, _, hx⟩
  · simp [Value.cells] at hcs
    obtain ⟨rfl, rfl, rfl⟩ := hcs
    exact ⟨[], rdN_nil w, fun e he => by cases he⟩
  · simp [Value.cells] at hcs
    obtain ⟨rfl, rfl, rfl⟩ := hcs
    simp only [if_true] at hmm
    subst hmm
    rw [cellsOfN] at hx
    haveI : Inhabited (Nd × Value) := ⟨(nd0, .slice none 0 0)⟩
    have each : ∀ i, i < n → ∃ y : Nd × Value, (∀ j, j < 4 → w.cell? (x.add (i * 4 + j)) = (needC y)[j]?) ∧ y.1.Wf ∧ RdB w y.2 y.1.data := fun i hi => by
      obtain ⟨cs', h1, h2⟩ := hx i (by omega)
      obtain ⟨y, rfl, hy⟩ := open_need h2
      obtain ⟨_, _, hc⟩ := World.cells?_some h1
      exact ⟨y, fun j hj => by rw [← hc j hj, Go.Deep.add_add], hy⟩
    obtain ⟨E, hE⟩ := choose_lt each
    refine ⟨(List.range n).map E, ⟨?_, fun e he => ?_⟩, fun e he => ?_⟩
    · rw [List.length_map, List.length_range]
      refine ⟨by rw [needsC_length]; simp, some x, m, by simp, by simpa using hl, hm, fun h => by simp at h, fun hp => ?_⟩
      have hn : 0 < n := by
        rw [needsC_length] at hp; simp at hp; omega
      obtain ⟨b, off, spot⟩ := x
      have hspot : spot = none := by
        have h0 : w.cell? ((⟨b, off, spot⟩ : Addr).add (0 * 4 + 0)) = some (.int .u64 ((E 0).1.key : Int)) := ((hE 0 hn).1 0 (by omega)).trans rfl
        simpa [Addr.add] using World.cell?_spot h0
      subst hspot
      refine ⟨b, off, rfl, fun j u hj => ?_⟩
      have hjl : j < n * 4 := by
        have := (List.getElem?_eq_some_iff.1 hj).1
        rw [needsC_length] at this
        simpa using this
      have hat := flat_at 4 needC (nd0, .slice none 0 0) ((List.range n).map E) (fun _ _ => rfl) (j / 4) (j % 4) (by simp; omega) (by omega)
      rw [show j / 4 * 4 + j % 4 = j by omega] at hat
      have hg : ((List.range n).map E).getD (j / 4) (nd0, .slice none 0 0) = E (j / 4) := by
        rw [List.getD_eq_getElem?_getD, List.getElem?_map, List.getElem?_range (by omega)]; rfl
      rw [hg] at hat
      have hc := (hE (j / 4) (by omega)).1 (j % 4) (by omega)
      rw [show j / 4 * 4 + j % 4 = j by omega, addr_add] at hc
      rw [hc, ← hat]; exact hj
    · obtain ⟨i, hi, rfl⟩ := List.mem_map.1 he
      exact (hE i (List.mem_range.1 hi)).2.2
    · obtain ⟨i, hi, rfl⟩ := List.mem_map.1 he
      exact (hE i (List.mem_range.1 hi)).2.1
end
theorem reads_open (a : Option Addr) (n cap : Nat) (b : Option Addr) (k c : Nat) (zs : List Int) (w : World) (h : ∃ l, RdN w (.slice a n cap) l ∧ ∀ x ∈ l, x.1.Wf) (h2 : IsRow .u8 w b k c zs) :
    Calls Try.prog 3 #[.slice a n cap, .slice b k c] w fun e w' => e = .returned (.bool true) ∧ Below w.heap.size w w' := by
  obtain ⟨l, hl, hw⟩ := h
  obtain ⟨raw, hr, ht⟩ := isRow_bytes h2
  exact reads_walk _ _ l raw w hl hw ht
end Go.Proofs.Ytecflhklpkjhcaa

namespace Go.Proofs.Ytecflhklpkjhcaa
open Go.RowKit Go.ChangeShapes Go.WideShapes Go.Deep

theorem structR : ∃ f0 f1, Try.prog.underlying 88 = some (.struct #[f0, f1]) ∧ (f0.offset = 0 ∧ f1.offset = 1) ∧ f0.type = 2 ∧ f1.type = 31 :=
  ⟨_, _, Try.underlying88, ⟨rfl, rfl⟩, rfl, rfl⟩
theorem cellsOfR : Try.prog.cellsOf 88 = 5 := by kernel_rfl
theorem cellsOf_i64' : Try.prog.cellsOf 2 = 1 := by kernel_rfl
theorem open_rec {H : Type} {enc : TypeId × Value → H} {w : World} {fuel : Nat} {cs : List Value} {x : DataW H × List MemPlace} (h : DataW.trod enc Try.prog w 0 (fun _ => true) true fuel 88 cs = some x) :
    ∃ y : Rec × Value, cs = recC y ∧ (y.1.nd.key < 18446744073709551616 ∧ RdB w y.2 y.1.nd.data) := by
  obtain ⟨f0, f1, hs, ⟨o0, o1⟩, t0, t1⟩ := structR
  obtain ⟨xs, n, _, _, hlen, hxl, hf⟩ := DataW.trod_struct hs h
  rw [cellsOfR] at hlen
  have hx : xs.length = 2 := by simpa using hxl
  have g : ∀ j (hj : j < 2), xs[j]? = some (xs[j]'(by omega)) := fun j hj => List.getElem?_eq_getElem (by omega)
  have h0 := (hf 0 f0 rfl).trans (g 0 (by omega))
  have h1 := (hf 1 f1 rfl).trans (g 1 (by omega))
  rw [t0, o0, cellsOf_i64'] at h0
  rw [t1, o1, cellsOfN] at h1
  obtain ⟨k, e0, _, w0⟩ := DataW.trod_int Try.underlying2 h0
  obtain ⟨y, e1, hy, hr⟩ := open_need h1
  have d0 := one_of e0
  refine ⟨(⟨k, y.1⟩, y.2), ?_, hy.1, hr⟩
  match cs, hlen, d0, e1 with
  | [a, b, c, d, e], _, d0, e1 =>
    simp at d0 e1
    subst d0
    show _ = _ :: needC y
    rw [← e1]
theorem open_recs {H : Type} {enc : TypeId × Value → H} {w : World} {a : Option Addr} {n cap : Nat} {d : DataW H} {p : List MemPlace} (h : DataW.Trod enc Try.prog w 0 (fun _ => true) true 52 (.slice a n cap) d p) :
    ∃ l : List (Rec × Value), RdR w (.slice a n cap) l ∧ ∀ x ∈ l, x.1.nd.key < 18446744073709551616 := by
  obtain ⟨l, h1, h2⟩ := open_rows (⟨0, nd0⟩, .slice none 0 0) recC (fun y => y.1.nd.key < 18446744073709551616 ∧ RdB w y.2 y.1.nd.data) Try.underlying52 cellsOfR (fun _ => rfl) (by decide) (fun _ _ _ h => open_rec h) h
  exact ⟨l, ⟨h1.2, fun p hp => (h2 p hp).2⟩, fun p hp => (h2 p hp).1⟩
end Go.Proofs.Ytecflhklpkjhcaa

namespace Go.Proofs.Ytecflhklpkjhcaa
open Go.RowKit

theorem sitems_open (a : Option Addr) (n cap : Nat) (b : Option Addr) (m c : Nat) (w : World) (h : ∃ l, RdR w (.slice a n cap) l ∧ ∀ x ∈ l, x.1.nd.key < 18446744073709551616) (h2 : ∃ l, RdN w (.slice b m c) l ∧ ∀ x ∈ l, x.1.Wf) :
    Calls Try.prog 6 #[.slice a n cap, .slice b m c] w fun e w' => e = .returned (.bool true) ∧ Below w.heap.size w w' := by
  obtain ⟨r, hr, hk⟩ := h
  obtain ⟨l, hl, hw⟩ := h2
  exact sitems_walk _ _ r l w hr hk hl hw
end Go.Proofs.Ytecflhklpkjhcaa
