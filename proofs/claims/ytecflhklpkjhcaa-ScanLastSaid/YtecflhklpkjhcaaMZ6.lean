/- Several texts in one, each over the last: The items and the bytes of records, in plain Lean: one record more. No program here. scan.Bytes: the walk; sizes of any number of bytes. ScanSums: the walk. ScanReads: the walk. ScanLast, in plain Lean: the last needle of a key, and the item of that key. No program here. ScanLast: the walk. What is known of a slice of needles that came in; ScanReads, from what the form gives. ScanLast, from what the form gives of its arguments. -/
import Derived.Test.YtecflhklpkjhcaaIq
import Derived.Test.YtecflhklpkjhcaaPr
import Derived.Test.YtecflhklpkjhcaaPz
import Derived.Test.YtecflhklpkjhcaaOw
import Derived.Test.YtecflhklpkjhcaaOp
import Derived.Deep.Slices
import Derived.Deep.SlicePairs
import Derived.ChangeArms
namespace Go.Proofs.Ytecflhklpkjhcaa

/-- What a key has, f telling the place of its last record, of the records ahead of place n. -/
def hasF (f : Nat → Nat) (L : List Rec) (n : Nat) (k : Int) : Option It :=
  if f k.toNat < n then (match L[f k.toNat]? with
    | some r => if (r.nd.key : Int) = k ∧ r.nd.del = false then some (itR r) else none
    | none => none) else none
theorem hasF_zero (f : Nat → Nat) (L : List Rec) (k : Int) : hasF f L 0 k = none := by unfold hasF; rw [if_neg (by omega)]
theorem hasF_succ (f : Nat → Nat) (L : List Rec) (n : Nat) (r : Rec) (hr : L[n]? = some r) (k : Int) :
    hasF f L (n + 1) k = if f r.nd.key = n ∧ r.nd.del = false ∧ (r.nd.key : Int) = k then some (itR r) else hasF f L n k := by
  unfold hasF
  by_cases h : f k.toNat = n
  · rw [if_pos (by omega), if_neg (show ¬ f k.toNat < n by omega), h, hr]
    by_cases hk : (r.nd.key : Int) = k
    · have : k.toNat = r.nd.key := by omega
      rw [this] at h
      by_cases hd : r.nd.del = false
      · rw [if_pos ⟨h, hd, hk⟩]; simp [hk, hd]
      · rw [if_neg (fun e => hd e.2.1)]; simp [hd]
    · rw [if_neg (fun e => hk e.2.2)]; simp [hk]
  · rw [if_neg (show ¬ (f r.nd.key = n ∧ r.nd.del = false ∧ (r.nd.key : Int) = k) from fun e => h (by rw [← e.2.2]; exact e.1))]
    by_cases hl : f k.toNat < n
    · rw [if_pos (by omega), if_pos hl]
    · rw [if_neg (by omega), if_neg hl]
theorem fnd_ins' (s : List It) (x : It) (k : Int) : fnd (ins s x) k = if x.key = k then some x else fnd s k := by
  by_cases h : x.key = k
  · rw [if_pos h, ← h]; exact fnd_ins_self x s
  · rw [if_neg h]; exact fnd_ins_other x k (Ne.symm h) s
theorem fnd_drp' (s : List It) (key k : Int) : fnd (drp s key) k = if k = key then none else fnd s k := by
  by_cases h : k = key
  · rw [if_pos h, h]; exact fnd_drp_self s key
  · rw [if_neg h]; exact fnd_drp_other key k h s
theorem srt_snoc (u : List It) (x : It) : srt (u ++ [x]) = ins (srt u) x := by rw [srt_append]; rfl
theorem take_snocR {L : List Rec} {n : Nat} {r : Rec} (hr : L[n]? = some r) : L.take (n + 1) = L.take n ++ [r] := by
  rw [List.take_add_one, hr]; rfl
theorem liveT_take (f : Nat → Nat) (L : List Rec) (n : Nat) (r : Rec) (hr : L[n]? = some r) : liveT f (L.take (n + 1)) 0 = liveT f (L.take n) 0 ++ if f r.nd.key = n ∧ r.nd.del = false then [itR r] else [] := by
  have hn := (List.getElem?_eq_some_iff.1 hr).1
  rw [take_snocR hr, liveT_snoc, List.length_take, Nat.min_eq_left (by omega), Nat.zero_add]
theorem fnd_live (f : Nat → Nat) (L : List Rec) (k : Int) : ∀ n, n ≤ L.length → fnd (srt (liveT f (L.take n) 0)) k = hasF f L n k
  | 0, _ => by rw [hasF_zero]; rfl
  | n + 1, h => by
    obtain ⟨r, hr⟩ : ∃ r, L[n]? = some r := ⟨_, List.getElem?_eq_getElem (by omega)⟩
    have ih := fnd_live f L k n (by omega)
    rw [liveT_take f L n r hr, hasF_succ f L n r hr, ← ih]
    by_cases hc : f r.nd.key = n ∧ r.nd.del = false
    · rw [if_pos hc, srt_snoc, fnd_ins']
      show (if (r.nd.key : Int) = k then _ else _) = _
      by_cases hk : (r.nd.key : Int) = k
      · rw [if_pos hk, if_pos ⟨hc.1, hc.2, hk⟩]
      · rw [if_neg hk, if_neg (fun e => hk e.2.2)]
    · rw [if_neg hc, List.append_nil, if_neg (fun e => hc ⟨e.1, e.2.1⟩)]
theorem fnd_itemsP (L : List Rec) (k : Int) : fnd (itemsP L) k = hasF (lastI (keysR L)) L L.length k := by
  have := fnd_live (lastI (keysR L)) L k L.length (Nat.le_refl _)
  rwa [List.take_of_length_le (Nat.le_refl _)] at this
theorem hasF_snoc (L : List Rec) (r : Rec) (k : Int) : hasF (lastI (keysR (L ++ [r]))) (L ++ [r]) (L ++ [r]).length k = if (r.nd.key : Int) = k then (if r.nd.del = false then some (itR r) else none) else hasF (lastI (keysR L)) L L.length k := by
  have hl : ∀ key, lastI (keysR (L ++ [r])) key = if r.nd.key = key then L.length else lastI (keysR L) key := fun key => by
    have : keysR (L ++ [r]) = keysR L ++ [r.nd.key] := by simp [keysR]
    rw [this, lastI_snoc]; simp [keysR]
  have hN : (L ++ [r]).length = L.length + 1 := by simp
  rw [hN]
  unfold hasF
  rw [hl]
  by_cases hk : (r.nd.key : Int) = k
  · rw [if_pos hk, if_pos (show r.nd.key = k.toNat by omega), if_pos (by omega), List.getElem?_append_right (Nat.le_refl _)]
    simp [hk]
  · have hk2 : (¬ r.nd.key = k.toNat) ∨ k < 0 := by omega
    rw [if_neg hk]
    rcases hk2 with hk2 | hk2
    · rw [if_neg hk2]
      by_cases h1 : lastI (keysR L) k.toNat < L.length
      · rw [if_pos (by omega), if_pos h1, List.getElem?_append_left h1]
      · rw [if_neg h1]
        by_cases h2 : lastI (keysR L) k.toNat < L.length + 1
        · rw [if_pos h2, show lastI (keysR L) k.toNat = L.length by omega, List.getElem?_append_right (Nat.le_refl _)]
          simp [hk]
        · rw [if_neg h2]
    · have no : ∀ q : Rec, ¬ ((q.nd.key : Int) = k ∧ q.nd.del = false) := fun q e => by have := e.1; omega
      have a1 : ∀ (x : Nat) (M : List Rec) (n : Nat), (if x < n then (match M[x]? with | some r => if (r.nd.key : Int) = k ∧ r.nd.del = false then some (itR r) else none | none => none) else none) = none := fun x M n => by
        split
        · split
          · rw [if_neg (no _)]
          · rfl
        · rfl
      rw [a1, a1]
/-- The reference's Items: one record after the other. -/
def stepI (s : List It) (r : Rec) : List It := if r.nd.del = true then drp s (r.nd.key : Int) else ins s (itR r)
theorem itemsP_asc (L : List Rec) : Asc (itemsP L) := srt_asc _
theorem itemsP_snoc (L : List Rec) (r : Rec) : itemsP (L ++ [r]) = stepI (itemsP L) r := by
  have pw : ∀ {l : List It}, Asc l → l.Pairwise fun a b => a.key < b.key := fun h => ascR_pw ((ascR_iff _).2 h)
  refine asc_ext _ _ (pw (itemsP_asc _)) ?_ fun k => ?_
  · unfold stepI
    split
    · exact pw (drp_asc (itemsP_asc L) _)
    · exact ascR_pw (ins_asc _ _ ((ascR_iff _).2 (itemsP_asc L)))
  · rw [fnd_itemsP, hasF_snoc, ← fnd_itemsP]
    unfold stepI
    cases hd : r.nd.del
    · rw [if_neg (show ¬ (false = true) by decide), fnd_ins']
      show _ = if (r.nd.key : Int) = k then _ else _
      simp
    · rw [if_pos rfl, fnd_drp']
      by_cases hk : (r.nd.key : Int) = k
      · rw [if_pos hk, if_pos hk.symm]; simp
      · rw [if_neg hk, if_neg (Ne.symm hk)]
theorem itemsP_nil : itemsP [] = [] := rfl
theorem itemsP_length (L : List Rec) : (itemsP L).length ≤ L.length := Nat.le_trans (srt_length _) (liveT_length _ L 0)

/-! ### Bytes -/
def szR (r : Rec) : Nat := szN r.nd.data.length
def liveB (f : Nat → Nat) : List Rec → Nat → Nat
  | [], _ => 0
  | r :: l, i => (if f r.nd.key = i ∧ r.nd.del = false then szR r else 0) + liveB f l (i + 1)
def restB (f : Nat → Nat) : List Rec → Nat → Nat
  | [], _ => 0
  | r :: l, i => (if f r.nd.key = i ∧ r.nd.del = false then 0 else szR r) + restB f l (i + 1)
def allB (L : List Rec) : Nat := (L.map szR).sum
theorem liveB_snoc (f : Nat → Nat) : ∀ (l : List Rec) (r : Rec) (i : Nat), liveB f (l ++ [r]) i = liveB f l i + (if f r.nd.key = i + l.length ∧ r.nd.del = false then szR r else 0)
  | [], r, i => by simp [liveB]
  | x :: l, r, i => by
    show _ + liveB f (l ++ [r]) (i + 1) = _ + liveB f l (i + 1) + _
    rw [liveB_snoc f l r (i + 1), List.length_cons, show i + 1 + l.length = i + (l.length + 1) by omega, Nat.add_assoc]
theorem restB_snoc (f : Nat → Nat) : ∀ (l : List Rec) (r : Rec) (i : Nat), restB f (l ++ [r]) i = restB f l i + (if f r.nd.key = i + l.length ∧ r.nd.del = false then 0 else szR r)
  | [], r, i => by simp [restB]
  | x :: l, r, i => by
    show _ + restB f (l ++ [r]) (i + 1) = _ + restB f l (i + 1) + _
    rw [restB_snoc f l r (i + 1), List.length_cons, show i + 1 + l.length = i + (l.length + 1) by omega, Nat.add_assoc]
theorem live_rest (f : Nat → Nat) : ∀ (l : List Rec) (i : Nat), liveB f l i + restB f l i = allB l
  | [], _ => rfl
  | x :: l, i => by
    have ih := live_rest f l (i + 1)
    show (if _ then _ else _) + liveB f l (i + 1) + ((if _ then _ else _) + restB f l (i + 1)) = szR x + allB l
    split <;> omega
theorem allB_le (l : List Rec) : allB l ≤ l.length * 4127 := by
  induction l with
  | nil => exact Nat.le_refl _
  | cons x l ih =>
    have := szN_le x.nd.data.length
    show szR x + allB l ≤ _
    unfold szR
    rw [List.length_cons]; omega
def liveP (L : List Rec) : Nat := liveB (lastI (keysR L)) L 0
def restP (L : List Rec) : Nat := restB (lastI (keysR L)) L 0
def sumI (s : List It) : Nat := (s.map fun x => szN x.size.toNat).sum
theorem sumI_append (s t : List It) : sumI (s ++ t) = sumI s + sumI t := by simp [sumI]
theorem sumI_le (s : List It) : sumI s ≤ s.length * 4127 := by
  induction s with
  | nil => exact Nat.le_refl _
  | cons x l ih =>
    have := szN_le x.size.toNat
    show szN x.size.toNat + sumI l ≤ _
    rw [List.length_cons]; omega
theorem sumI_ins (x : It) : ∀ s : List It, fnd s x.key = none → sumI (ins s x) = sumI s + szN x.size.toNat
  | [], _ => by simp [ins, sumI]
  | y :: s, h => by
    rw [fnd_cons] at h
    by_cases e : y.key = x.key
    · rw [if_pos e] at h; cases h
    · rw [if_neg e] at h
      have ih := sumI_ins x s h
      simp only [ins]
      split
      · show szN y.size.toNat + sumI (ins s x) = szN y.size.toNat + sumI s + _
        omega
      · show szN x.size.toNat + (szN y.size.toNat + sumI s) = szN y.size.toNat + sumI s + _
        omega
theorem live_sum (f : Nat → Nat) (L : List Rec) : ∀ n, n ≤ L.length → sumI (srt (liveT f (L.take n) 0)) = liveB f (L.take n) 0
  | 0, _ => rfl
  | n + 1, h => by
    obtain ⟨r, hr⟩ : ∃ r, L[n]? = some r := ⟨_, List.getElem?_eq_getElem (by omega)⟩
    have ih := live_sum f L n (by omega)
    have hf := fnd_live f L (r.nd.key : Int) n (by omega)
    rw [liveT_take f L n r hr, take_snocR hr, liveB_snoc, List.length_take, Nat.min_eq_left (by omega), Nat.zero_add, ← ih]
    by_cases hc : f r.nd.key = n ∧ r.nd.del = false
    · rw [if_pos hc, if_pos hc, srt_snoc, sumI_ins]
      · rfl
      · show fnd _ (r.nd.key : Int) = none
        rw [hf]; unfold hasF; rw [if_neg (by rw [Int.toNat_natCast]; omega)]
    · rw [if_neg hc, if_neg hc, List.append_nil]; rfl
theorem sum_itemsP (L : List Rec) : sumI (itemsP L) = liveP L := by
  have := live_sum (lastI (keysR L)) L L.length (Nat.le_refl _)
  rwa [List.take_of_length_le (Nat.le_refl _)] at this
theorem live_all (L : List Rec) : liveP L + restP L = allB L := live_rest _ L 0
end Go.Proofs.Ytecflhklpkjhcaa

namespace Go.Proofs.Ytecflhklpkjhcaa
open Go.RowKit Go.Maps

theorem nsizeB (n : Nat) (w : World) : Calls Try.prog 16 #[.int .i64 (n : Int)] w fun e w' => e = .returned (.int .i64 ((szN n : Nat) : Int)) ∧ w = w' := by
  by_cases hn : n ≤ 4096
  · have HS := Lib.hid (show ((szN n : Nat) : Int) = (20 + (n : Int) + 4 + 8 - 1) / 8 * 8 by unfold szN nsz; rw [if_pos hn]; omega)
    have hd : decide ((4096 : Int) < (n : Int)) = false := by simp; omega
    have hd2 : decide ((n : Int) < 0) = false := by simp
    go_enter Try.func16, Try.ntmps16
    go_wp2_with fail
    go_ret
    exact ⟨ret_int (by rw [HS.out]), rfl⟩
  · have HS := Lib.hid (show szN n = 0 by unfold szN; rw [if_neg hn])
    have hd : decide ((4096 : Int) < (n : Int)) = true := by simp; omega
    have hd2 : decide ((n : Int) < 0) = false := by simp
    go_enter Try.func16, Try.ntmps16
    go_wp2_with fail
    go_ret
    exact ⟨ret_int (by rw [HS.out]; rfl), rfl⟩
theorem rsizeB (n : Nat) (w : World) : Calls Try.prog 39 #[.int .i64 (n : Int)] w fun e w' => e = .returned (.int .i64 ((szN n : Nat) : Int)) ∧ w = w' := by
  by_cases hn : n ≤ 4096
  · have HS := Lib.hid (show ((szN n : Nat) : Int) = (20 + (n : Int) + 4 + 8 - 1) / 8 * 8 by unfold szN nsz; rw [if_pos hn]; omega)
    have hd : decide ((4096 : Int) < (n : Int)) = false := by simp; omega
    have hd2 : decide ((n : Int) < 0) = false := by simp
    go_enter Try.func39, Try.ntmps39
    go_wp2_with fail
    go_ret
    exact ⟨ret_int (by rw [HS.out]; omega), rfl⟩
  · have HS := Lib.hid (show szN n = 0 by unfold szN; rw [if_neg hn])
    have hd : decide ((4096 : Int) < (n : Int)) = true := by simp; omega
    have hd2 : decide ((n : Int) < 0) = false := by simp
    go_enter Try.func39, Try.ntmps39
    go_wp2_with fail
    go_ret
    exact ⟨ret_int (by rw [HS.out]; rfl), rfl⟩
set_option maxRecDepth 100000 in
set_option maxHeartbeats 8000000 in
theorem bytes_any (v : Value) (es : List (Rec × Value)) (w : World) (h : RdR w v es) (hk : ∀ p ∈ es, p.1.nd.key < 18446744073709551616) (hs : es.length ≤ 50000) :
    Calls Try.prog 19 #[v] w fun e w' => e = .returned (.tuple #[.int .i64 (liveP (es.map (·.1)) : Int), .int .i64 (restP (es.map (·.1)) : Int)]) ∧ Below w.heap.size w w' := by
  obtain ⟨a, cap, rfl, h1, h2⟩ := h.shape
  have Hw0 := Lib.hid h
  have HK := Lib.hid hk
  have HLa := Lib.hid (last_any _ es w h hk (by omega))
  have HM := Lib.hid (show ∀ j, j < es.length → rat es j ∈ es from fun j => rat_mem)
  have hat0 : ∀ j, j < es.length → (es.map (·.1))[j]? = some (rat es j).1 := fun j hj => by
    unfold rat
    simp [List.getD_eq_getElem?_getD, List.getElem?_eq_getElem hj]
  have HLP := Lib.hid (show liveP (es.map (·.1)) = liveB (lastI (keysR (es.map (·.1)))) (es.map (·.1)) 0 ∧ restP (es.map (·.1)) = restB (lastI (keysR (es.map (·.1)))) (es.map (·.1)) 0 from ⟨rfl, rfl⟩)
  have HBd := Lib.hid (show ∀ j, j ≤ es.length → liveB (lastI (keysR (es.map (·.1)))) ((es.map (·.1)).take j) 0 + restB (lastI (keysR (es.map (·.1)))) ((es.map (·.1)).take j) 0 ≤ 206350000 from fun j hj => by
    rw [live_rest]
    have := allB_le ((es.map (·.1)).take j)
    rw [List.length_take] at this
    omega)
  generalize lastI (keysR (es.map (·.1))) = f at *
  have HS := Lib.hid (show ∀ j, j < es.length → liveB f ((es.map (·.1)).take (j + 1)) 0 = liveB f ((es.map (·.1)).take j) 0 + (if f (rat es j).1.nd.key = j ∧ (rat es j).1.nd.del = false then szR (rat es j).1 else 0) ∧
      restB f ((es.map (·.1)).take (j + 1)) 0 = restB f ((es.map (·.1)).take j) 0 + (if f (rat es j).1.nd.key = j ∧ (rat es j).1.nd.del = false then 0 else szR (rat es j).1) from fun j hj => by
    have hl : (es.map (·.1)).length = es.length := List.length_map ..
    rw [take_snocR (hat0 j hj), liveB_snoc, restB_snoc, List.length_take, Nat.min_eq_left (by omega), Nat.zero_add]
    exact ⟨rfl, rfl⟩)
  have HE := Lib.hid (show (es.map (·.1)).take es.length = es.map (·.1) from List.take_of_length_le (by simp))
  clear hat0
  generalize hn : es.length = n at *
  clear h hk hn
  generalize liveP (es.map (·.1)) = R1 at *
  generalize restP (es.map (·.1)) = R2 at *
  generalize es.map (·.1) = L at *
  go_enter Try.func19, Try.ntmps19
  go_wp2_with fail
  refine HLa.out.mono ?_; rintro e w1 ⟨rfl, hmp, hb1⟩
  have hlt1 : w.heap.size < w1.heap.size := by
    obtain ⟨D, ⟨es', c, hh, _⟩, _⟩ := hmp
    exact (Array.getElem?_eq_some_iff.1 hh).1
  have HMp := Lib.hid hmp
  have HB1 := Lib.hid hb1
  clear hmp hb1 HLa
  go_wp2_with fail
  go_loopw [2, 3, 12] (fun lv gv iv W => ∃ i p q : Nat, iv = .int .i64 (i : Int) ∧ lv = .int .i64 (p : Int) ∧ gv = .int .i64 (q : Int) ∧ i ≤ n ∧ p + q ≤ 206350000 ∧ Hid (p = liveB f (L.take i) 0 ∧ q = restB f (L.take i) 0) ∧ Hid (Below w1.heap.size w1 W)) (fun _ _ iv _ => n - (intOf iv).toNat)
  case atStart => exact ⟨0, 0, 0, by rfl, rfl, rfl, Nat.zero_le _, by omega, Lib.hid ⟨rfl, rfl⟩, Lib.hid (Below.refl _ _)⟩
  case round =>
    obtain ⟨i, p, q, rfl, rfl, rfl, hi, hpq, Hm, HB⟩ := hrel
    have hsz := HB.out.size
    by_cases hin : i < n
    · have hr := Hw0.out.below (bstep HB1.out HB.out)
      obtain ⟨pb, poff, rfl, hd, c0, c1, c2, c3, c4⟩ := hr.at hin
      have hkk := HK.out _ (HM.out i hin)
      have hSi := HS.out i hin
      have hBd := HBd.out (i + 1) (by omega)
      clear hr
      generalize rat es i = X at *
      obtain ⟨⟨off, x⟩, dv⟩ := X
      dsimp only at *
      obtain ⟨da, dc, hdv, _, _⟩ := hd.shape0
      subst hdv
      obtain ⟨D, hD, hat⟩ := HMp.out.below hlt1 HB.out
      have HD := Lib.hid hD
      have HAt := Lib.hid (hat x.key hkk)
      have i1 : (i : Int) < (n : Int) := by omega
      clear hd hD hat
      have hkey : keyOf Try.prog 28 (.int .u64 (x.key : Int)) = some (.int .u64 (x.key : Int)) := keyOf_int_mk Try.underlying28 (wf_key hkk)
      generalize hg : f x.key = g at *
      obtain ⟨xk, xc, xd, xl⟩ := x
      dsimp only at *
      have hzr : szR ⟨off, ⟨xk, xc, xd, xl⟩⟩ = szN xl.length := rfl
      rw [hzr] at hSi
      clear hzr
      generalize hl : xl.length = l at *
      have HZ := Lib.hid (fun W => nsizeB l W)
      have hz := szN_le l
      generalize szN l = z at *
      rw [hSi.1, hSi.2, ← Hm.out.1, ← Hm.out.2] at hBd
      have HSi := Lib.hid hSi
      clear hSi
      have hNB : Below w1.heap.size w1 (wr.alloc (.cells #[.int .i64 off, .int .u64 (xk : Int), .int .u32 (xc : Int), .bool xd, .slice da l dc] 43)) := HB.out.alloc hsz _
      have HNB := Lib.hid hNB
      clear hNB
      by_cases hgi : g = i
      · have q1 : ((g : Int) == (i : Int)) = true := beq_iff_eq.2 (by omega)
        cases xd
        · rw [if_pos ⟨hgi, rfl⟩, if_pos ⟨hgi, rfl⟩] at hBd
          have hN := HSi.out
          rw [if_pos ⟨hgi, rfl⟩, if_pos ⟨hgi, rfl⟩, ← Hm.out.1, ← Hm.out.2] at hN
          have HN := Lib.hid (show p + z = liveB f (L.take (i + 1)) 0 ∧ q = restB f (L.take (i + 1)) 0 from ⟨hN.1.symm, hN.2.symm⟩)
          have hpz : IntKind.i64.wrap ((p : Int) + (z : Int)) = ((p + z : Nat) : Int) := (IntWalk.i64_in _ (by omega)).trans (by omega)
          clear hl hg HSi hgi hN
          go_wp2_with fail
          refine (HZ.out _).mono ?_; rintro e w2 ⟨rfl, rfl⟩
          go_wp2_with (at_lookup; refine wpList_lookup_own_int _ rfl _ _ 83 rfl 28 3 .i64 lawK Try.underlying83 Try.underlying3 (zeroI _) w.heap.size n _ rfl (HD.out.alloc _) _ _ rfl hkey ?_; intro c hat hwc; have hc := hat.symm.trans HAt.out; injection hc with hc; injection hc with _ hc; subst hc; clear hat hwc)
          exact ⟨⟨i + 1, p + z, q, by go_num, rfl, rfl, by omega, by omega, HN, HNB⟩, by simp [intOf]; omega⟩
        · rw [if_neg (fun e => Bool.noConfusion e.2), if_neg (fun e => Bool.noConfusion e.2)] at hBd
          have hN := HSi.out
          rw [if_neg (fun e => Bool.noConfusion e.2), if_neg (fun e => Bool.noConfusion e.2), ← Hm.out.1, ← Hm.out.2] at hN
          have HN := Lib.hid (show p = liveB f (L.take (i + 1)) 0 ∧ q + z = restB f (L.take (i + 1)) 0 from ⟨hN.1.symm, hN.2.symm⟩)
          have hpz : IntKind.i64.wrap ((q : Int) + (z : Int)) = ((q + z : Nat) : Int) := (IntWalk.i64_in _ (by omega)).trans (by omega)
          clear hl hg HSi hgi hN
          go_wp2_with fail
          refine (HZ.out _).mono ?_; rintro e w2 ⟨rfl, rfl⟩
          go_wp2_with (at_lookup; refine wpList_lookup_own_int _ rfl _ _ 83 rfl 28 3 .i64 lawK Try.underlying83 Try.underlying3 (zeroI _) w.heap.size n _ rfl (HD.out.alloc _) _ _ rfl hkey ?_; intro c hat hwc; have hc := hat.symm.trans HAt.out; injection hc with hc; injection hc with _ hc; subst hc; clear hat hwc)
          exact ⟨⟨i + 1, p, q + z, by go_num, rfl, rfl, by omega, by omega, HN, HNB⟩, by simp [intOf]; omega⟩
      · have q1 : ((g : Int) == (i : Int)) = false := beq_eq_false_iff_ne.2 (by omega)
        rw [if_neg (fun e => hgi e.1), if_neg (fun e => hgi e.1)] at hBd
        have hN := HSi.out
        rw [if_neg (fun e => hgi e.1), if_neg (fun e => hgi e.1), ← Hm.out.1, ← Hm.out.2] at hN
        have HN := Lib.hid (show p = liveB f (L.take (i + 1)) 0 ∧ q + z = restB f (L.take (i + 1)) 0 from ⟨hN.1.symm, hN.2.symm⟩)
        have hpz : IntKind.i64.wrap ((q : Int) + (z : Int)) = ((q + z : Nat) : Int) := (IntWalk.i64_in _ (by omega)).trans (by omega)
        clear hl hg HSi hgi hN
        go_wp2_with fail
        refine (HZ.out _).mono ?_; rintro e w2 ⟨rfl, rfl⟩
        go_wp2_with (at_lookup; refine wpList_lookup_own_int _ rfl _ _ 83 rfl 28 3 .i64 lawK Try.underlying83 Try.underlying3 (zeroI _) w.heap.size n _ rfl (HD.out.alloc _) _ _ rfl hkey ?_; intro c hat hwc; have hc := hat.symm.trans HAt.out; injection hc with hc; injection hc with _ hc; subst hc; clear hat hwc)
        exact ⟨⟨i + 1, p, q + z, by go_num, rfl, rfl, by omega, by omega, HN, HNB⟩, by simp [intOf]; omega⟩
    · obtain rfl : i = n := by omega
      have hm := Hm.out
      rw [HE.out] at hm
      go_wp2_with fail
      exact bodyPost_ret (v := .tuple #[.int .i64 (p : Int), .int .i64 (q : Int)]) (by simp [results, Try.results19, go_sem]) rfl ⟨by rw [HLP.out.1, HLP.out.2, ← hm.1, ← hm.2], bstep HB1.out HB.out⟩
end Go.Proofs.Ytecflhklpkjhcaa

namespace Go.Proofs.Ytecflhklpkjhcaa
open Go.RowKit

theorem sms_rd {w w' : World} {lv : Value} {es : List (Nd × Value)} (h : w'.ownsRow w.heap.size 31 4 lv es.length (needsC es)) (hd : ∀ p ∈ es, RdB w p.2 p.1.data) (hb : Below w.heap.size w w') : RdN w' lv es :=
  ⟨own_rd h, fun p hp => RdL.below (hd p hp) hb⟩
theorem sms_ok {es : List (Nd × Value)} {N : List Nd} (h : es.map (·.1) = smallF N) (hN : ∀ x ∈ N, x.Wf) : ∀ p ∈ es, p.1.ok ∧ p.1.Wf := fun p hp => by
  have : p.1 ∈ smallF N := by rw [← h]; exact List.mem_map.2 ⟨p, hp, rfl⟩
  obtain ⟨x, hx, e⟩ := List.mem_map.1 this
  rw [← e]
  exact ⟨sm1_ok x, sm1_wf (hN x (List.mem_of_mem_take hx))⟩
theorem sms_len {es : List (Nd × Value)} {N : List Nd} (h : es.map (·.1) = smallF N) : es.length ≤ 12 := by
  have := congrArg List.length h
  rw [List.length_map] at this
  rw [this]; unfold smallF; rw [List.length_map, List.length_take]; omega
theorem allB_recsOf : ∀ (K : List Nd) (p : Nat), (∀ x ∈ K, x.ok) → allB (recsOf p K) = nsum K
  | [], _, _ => rfl
  | x :: K, p, h => by
    show szR ⟨p, x⟩ + allB (recsOf (p + nsz x.data.length) K) = _
    rw [allB_recsOf K _ (fun y hy => h y (by simp [hy])), nsum_cons]
    show szN x.data.length + _ = _
    rw [szN_of (h x (by simp)).1]
theorem open_whole (K : List Nd) (hk : ∀ x ∈ K, x.ok ∧ x.Wf) : openF (fileB K) = (0, fsup, recsOf 16 K, 16 + nsum K) := by
  have := open_file K [] hk ndec_nil
  rwa [List.append_nil] at this
theorem recs_keys {es : List (Rec × Value)} {K : List Nd} {p : Nat} (h : es.map (·.1) = recsOf p K) (hk : ∀ x ∈ K, x.ok ∧ x.Wf) : ∀ q ∈ es, q.1.nd.key < 18446744073709551616 := fun q hq => by
  have h1 : (es.map (·.1)).map (·.nd) = K := by rw [h]; exact recsOf_nd _ _
  have : q.1.nd ∈ K := by rw [← h1]; exact List.mem_map.2 ⟨_, List.mem_map.2 ⟨q, hq, rfl⟩, rfl⟩
  exact (hk _ this).2.1
theorem recs_len {es : List (Rec × Value)} {K : List Nd} {p : Nat} (h : es.map (·.1) = recsOf p K) : es.length = K.length := by
  have := congrArg List.length h
  rwa [List.length_map, recsOf_length] at this
set_option maxRecDepth 100000 in
set_option maxHeartbeats 2000000 in
theorem sums_walk (v : Value) (ns : List (Nd × Value)) (w : World) (h : RdN w v ns) (hwf : ∀ p ∈ ns, p.1.Wf) :
    Calls Try.prog 7 #[v] w fun e w' => e = .returned (.bool true) ∧ Below w.heap.size w w' := by
  have HSm := Lib.hid (small_any v ns w h hwf)
  have HN := Lib.hid (show ∀ x ∈ ns.map (·.1), x.Wf from fun x hx => by obtain ⟨p, hp, rfl⟩ := List.mem_map.1 hx; exact hwf p hp)
  generalize ns.map (·.1) = N at *
  clear h hwf
  go_enter Try.func7, Try.ntmps7
  go_wp2_with fail
  refine HSm.out.mono ?_; rintro e w1 ⟨kv, es, rfl, hown1, hes, hdat, hb1⟩
  have HFl := Lib.hid (file_any kv es w1 (sms_rd hown1 hdat hb1) (sms_ok hes HN.out) (sms_len hes))
  have HOk := Lib.hid (show ∀ x ∈ es.map (·.1), x.ok ∧ x.Wf from fun x hx => by obtain ⟨p, hp, rfl⟩ := List.mem_map.1 hx; exact sms_ok hes HN.out p hp)
  have hl12 := sms_len hes
  have HB1 := Lib.hid hb1
  have hKl0 : (es.map (·.1)).length ≤ 12 := by rw [List.length_map]; exact hl12
  generalize es.map (·.1) = K at *
  clear hown1 hes hdat hb1 HSm HN hl12
  go_wp2_with fail
  refine HFl.out.mono ?_; rintro e w2 ⟨bv, nv, rfl, hownb, hownn, hb2⟩
  have hle := nsum_le (k := K) (fun x hx => (HOk.out x hx).1)
  have hfl := fileB_length K
  have HTo := Lib.hid (open_any _ (fileB K) w2 hownb.rd (by omega))
  rw [open_whole K HOk.out] at HTo
  obtain ⟨ba, bc, hbv, _⟩ := own_form hownb
  obtain ⟨na, nc, hnv, _⟩ := own_form hownn
  subst hbv hnv
  have HB2 := Lib.hid (bstep HB1.out hb2)
  clear hownb hownn hb2 HFl
  generalize hLB : (fileB K).length = lb at *
  have HA := Lib.hid (allB_recsOf K 16 (fun x hx => (HOk.out x hx).1))
  have HKey := Lib.hid (fun es he => recs_keys (es := es) (K := K) (p := 16) he HOk.out)
  have HLen := Lib.hid (fun es he => recs_len (es := es) (K := K) (p := 16) he)
  have HLA := Lib.hid (live_all (recsOf 16 K))
  generalize recsOf 16 K = L at *
  generalize nsum K = s at *
  have HFl := Lib.hid hfl
  have HLe := Lib.hid hle
  clear HOk hLB hfl hle
  go_wp2_with fail
  refine HTo.out.mono ?_; rintro e w3 ⟨⟨lv, rs, rfl, hown3, hrs⟩, hb3⟩
  have HB3 := Lib.hid (bstep HB2.out hb3)
  have HBa := Lib.hid (HB3.out.alloc HB3.out.size (.cells #[.int .i64 (fsup.slot : Int), .int .i64 (fsup.gen : Int), .int .i64 (fsup.rev : Int)] 37))
  have HBy := Lib.hid (bytes_any lv rs _ (hown3.rd.below ((Below.refl _ _).alloc (Nat.le_refl _) (.cells #[.int .i64 (fsup.slot : Int), .int .i64 (fsup.gen : Int), .int .i64 (fsup.rev : Int)] 37))) (HKey.out rs hrs) (by have := HLen.out rs hrs; omega))
  rw [hrs] at HBy
  obtain ⟨la, lc, hlv, _⟩ := own_form hown3.row
  subst hlv
  clear hown3 hrs hb3 HTo HKey HLen
  go_wp2_with fail
  refine HBy.out.mono ?_; rintro e w4 ⟨rfl, hb4⟩
  have HB4 := Lib.hid (bstep HBa.out hb4)
  have hla := HLA.out
  rw [HA.out] at hla
  clear hb4 HBy HLA HA
  generalize liveP L = p at *
  generalize restP L = q at *
  clear HB3 HBa HB2 HB1
  have hfl := HFl.out
  have hle := HLe.out
  have j1 : IntKind.i64.wrap ((p : Int) + (q : Int)) = (p : Int) + (q : Int) := IntWalk.i64_in _ (by omega)
  have j2 : IntKind.i64.wrap ((p : Int) + (q : Int) + 16) = 16 + (s : Int) := (IntWalk.i64_in _ (by omega)).trans (by omega)
  have e1 : (q : Int) = (s : Int) - (p : Int) := by omega
  have g1 : decide ((0 : Int) ≤ (p : Int)) = true := by simp
  have g2 : decide ((0 : Int) ≤ (q : Int)) = true := by simp
  have g3 : ((16 : Int) + (s : Int) == 16 + (s : Int)) = true := by simp
  have g4 : ((16 : Int) + (s : Int) == (lb : Int)) = true := by rw [beq_iff_eq]; omega
  clear hla hfl hle HFl HLe e1
  go_wp2_with fail
  refine (awake_any _).mono ?_; rintro e w5 ⟨rfl, hb5⟩
  have HX := Lib.hid (bstep HB4.out hb5)
  clear hb5
  go_wp2_with fail
  go_ret
  exact ⟨rfl, HX.out⟩
end Go.Proofs.Ytecflhklpkjhcaa

namespace Go.Proofs.Ytecflhklpkjhcaa
open Go.RowKit

theorem recsOf_at : ∀ (K : List Nd) (p i : Nat), i < K.length → (recsOf p K)[i]? = some ⟨p + nsum (K.take i), K.getD i nd0⟩
  | [], _, _, h => by simp at h
  | x :: K, p, 0, _ => by simp [recsOf, nsum]
  | x :: K, p, i + 1, h => by
    have ih := recsOf_at K (p + nsz x.data.length) i (by simpa using h)
    show (recsOf (p + nsz x.data.length) K)[i]? = _
    rw [ih, List.take_succ_cons, nsum_cons]
    simp [Int.add_assoc]
theorem endsF_length (K : List Nd) : (endsF K).length = K.length := by simp [endsF]
theorem endsF_at (K : List Nd) (i : Nat) (h : i < K.length) : (endsF K)[i]? = some ((16 + nsum (K.take (i + 1)) : Nat) : Int) := by
  simp [endsF, h]
theorem take_snoc' {K : List Nd} {i : Nat} (h : i < K.length) : K.take (i + 1) = K.take i ++ [K.getD i nd0] := by
  rw [List.take_add_one, List.getElem?_eq_getElem h, List.getD_eq_getElem?_getD, List.getElem?_eq_getElem h]; rfl
theorem rd_cell {w : World} {a : Option Addr} {n cap : Nat} {cs : List Value} (h : Rd w 1 (.slice a n cap) n cs) {i : Nat} {u : Value} (hi : cs[i]? = some u) : ∃ b off, a = some ⟨b, off, none⟩ ∧ w.cell? ⟨b, off + i, none⟩ = some u := by
  obtain ⟨_, a', cap', e, _, _, _, hc⟩ := h
  injection e with e1
  obtain ⟨b, off, e2, hc⟩ := hc (by have := (List.getElem?_eq_some_iff.1 hi).1; omega)
  exact ⟨b, off, e1.trans e2, hc i u hi⟩
theorem made0 (B k : Nat) (w : World) (hk : w.heap.size = k) (hB : B ≤ k) : (w.alloc (.cells #[] 5)).ownsRow B 5 1 (.slice (some ⟨k, 0, none⟩) 0 0) 0 [] := by
  subst hk; exact World.ownsRow_made (size := 1) w #[] 0 hB (by decide) rfl
/-- The needles that small leaves, for reading. -/
theorem sm_rd {w w' : World} {lv : Value} {es : List (Nd × Value)} (h : w'.ownsRow w.heap.size 31 4 lv es.length (needsC es)) (hd : ∀ p ∈ es, RdB w p.2 p.1.data) (hb : Below w.heap.size w w') : RdN w' lv es :=
  ⟨own_rd h, fun p hp => RdL.below (hd p hp) hb⟩
theorem sm_ok {es : List (Nd × Value)} {N : List Nd} (h : es.map (·.1) = smallF N) (hN : ∀ x ∈ N, x.Wf) : ∀ p ∈ es, p.1.ok ∧ p.1.Wf := fun p hp => by
  have : p.1 ∈ smallF N := by rw [← h]; exact List.mem_map.2 ⟨p, hp, rfl⟩
  obtain ⟨x, hx, e⟩ := List.mem_map.1 this
  rw [← e]
  exact ⟨sm1_ok x, sm1_wf (hN x (List.mem_of_mem_take hx))⟩
theorem sm_len {es : List (Nd × Value)} {N : List Nd} (h : es.map (·.1) = smallF N) : es.length ≤ 12 := by
  have := congrArg List.length h
  rw [List.length_map] at this
  rw [this]; unfold smallF; rw [List.length_map, List.length_take]; omega
set_option maxRecDepth 100000 in
set_option maxHeartbeats 2000000 in
theorem reads_walk (v tv : Value) (ns : List (Nd × Value)) (tl : List UInt8) (w : World) (h : RdN w v ns) (hwf : ∀ p ∈ ns, p.1.Wf) (ht : RdB w tv tl) :
    Calls Try.prog 3 #[v, tv] w fun e w' => e = .returned (.bool true) ∧ Below w.heap.size w w' := by
  have HSm := Lib.hid (small_any v ns w h hwf)
  have HN := Lib.hid (show ∀ x ∈ ns.map (·.1), x.Wf from fun x hx => by obtain ⟨p, hp, rfl⟩ := List.mem_map.1 hx; exact hwf p hp)
  have HT := Lib.hid ht
  obtain ⟨ta, tc, rfl, ht1, ht2⟩ := ht.shape0
  have ht3 := lt63 ht1 ht2
  generalize ns.map (·.1) = N at *
  clear h hwf ht
  go_enter Try.func3, Try.ntmps3
  go_wp2_with fail
  refine HSm.out.mono ?_; rintro e w1 ⟨kv, es, rfl, hown1, hes, hdat, hb1⟩
  have HFl := Lib.hid (file_any kv es w1 (sm_rd hown1 hdat hb1) (sm_ok hes HN.out) (sm_len hes))
  have HOk := Lib.hid (show ∀ x ∈ es.map (·.1), x.ok ∧ x.Wf from fun x hx => by obtain ⟨p, hp, rfl⟩ := List.mem_map.1 hx; exact sm_ok hes HN.out p hp)
  have hl12 := sm_len hes
  have HRk := Lib.hid (sm_rd hown1 hdat hb1)
  obtain ⟨ka, kc, hkv, _⟩ := own_form hown1
  subst hkv
  have HB1 := Lib.hid hb1
  clear hown1 hes hdat hb1 HSm HN
  generalize hK : es.map (·.1) = K at *
  have HK := Lib.hid hK
  clear hK
  go_wp2_with fail
  refine HFl.out.mono ?_; rintro e w2 ⟨bv, nv, rfl, hownb, hownn, hb2⟩
  have hfl := Lib.hid (fileB_length K)
  have hle := nsum_le (k := K) (fun x hx => (HOk.out x hx).1)
  have hKl : K.length ≤ 12 := by have := congrArg List.length HK.out; rw [List.length_map] at this; omega
  have hlb : (fileB K).length ≤ 60000 := by rw [fileB_length]; omega
  have hel := Lib.hid (show es.length = K.length by have := congrArg List.length HK.out; rw [List.length_map] at this; exact this)
  obtain ⟨ba, bc, hbv, _⟩ := own_form hownb
  obtain ⟨na, nc, hnv, _⟩ := own_form hownn
  subst hbv hnv
  have HRb := Lib.hid (show RdB w2 (.slice ba (fileB K).length bc) (fileB K) from hownb.rd)
  have HRn := Lib.hid (own_rd hownn)
  have HB2 := Lib.hid (bstep HB1.out hb2)
  have HRk2 := Lib.hid (HRk.out.below hb2)
  clear hownb hownn hb2 HFl HRk
  have HDt := Lib.hid (ndecode_any _ tl w2 (RdL.below HT.out HB2.out) ht3)
  go_wp2_with fail
  refine HDt.out.mono ?_; rintro e w3 ⟨⟨dv, rfl, hownd⟩, hb3⟩
  obtain ⟨da, dc, hdv, _⟩ := own_form hownd
  subst hdv
  have HB23 := Lib.hid hb3
  have HDr := Lib.hid (show (ndec tl).1 ≠ 0 → (ndec tl).1 ≠ 0 from id)
  clear hownd hb3 HDt
  by_cases hr : (ndec tl).1 = 0
  · have q1 : ((ndec tl).1 == 0) = true := beq_iff_eq.2 hr
    clear HDr hr
    generalize ndec tl = D at *
    obtain ⟨r, x, m⟩ := D
    dsimp only at q1
    go_wp2_with fail
    refine (awake_any _).mono ?_; rintro e w4 ⟨rfl, hb4⟩
    have HX := Lib.hid (bstep ((bstep HB2.out HB23.out).alloc (bstep HB2.out HB23.out).size (.cells #[.int .u64 (x.key : Int), .int .u32 (x.ck : Int), .bool x.del, .slice da x.data.length dc] 31)) hb4)
    clear hb4
    go_wp2_with fail
    go_ret
    exact ⟨rfl, HX.out⟩
  · have q1 : ((ndec tl).1 == 0) = false := beq_eq_false_iff_ne.2 hr
    have HOpen := Lib.hid (fun V W (hV : RdB W V (fileB K ++ tl)) (hs : (fileB K ++ tl).length ≤ 1000000) => open_any V (fileB K ++ tl) W hV hs)
    rw [open_file K tl HOk.out hr] at HOpen
    clear HDr hr
    generalize ndec tl = D at *
    obtain ⟨r, x, m⟩ := D
    dsimp only at q1
    by_cases h500 : 500 < tl.length
    · have q2 : decide ((500 : Int) < (tl.length : Int)) = true := by simp; omega
      go_wp2_with fail
      refine (awake_any _).mono ?_; rintro e w4 ⟨rfl, hb4⟩
      have HX := Lib.hid (bstep ((bstep HB2.out HB23.out).alloc (bstep HB2.out HB23.out).size (.cells #[.int .u64 (x.key : Int), .int .u32 (x.ck : Int), .bool x.del, .slice da x.data.length dc] 31)) hb4)
      clear hb4
      go_wp2_with fail
      go_ret
      exact ⟨rfl, HX.out⟩
    · have q2 : decide ((500 : Int) < (tl.length : Int)) = false := by simp; omega
      have HB3 := Lib.hid (bstep HB2.out HB23.out)
      have HAl := Lib.hid (show Below w3.heap.size w3 ((w3.alloc (.cells #[.int .u64 (x.key : Int), .int .u32 (x.ck : Int), .bool x.del, .slice da x.data.length dc] 31)).alloc (.cells #[] 5)) from ((Below.refl _ _).alloc (Nat.le_refl _) _).alloc (by simp) _)
      have HM0 := Lib.hid (made0 w3.heap.size (w3.heap.size + 1) (w3.alloc (.cells #[.int .u64 (x.key : Int), .int .u32 (x.ck : Int), .bool x.del, .slice da x.data.length dc] 31)) (by simp) (Nat.le_succ _))
      have HRb3 := Lib.hid (show Rd _ 1 (.slice ba (fileB K).length bc) (fileB K).length ((fileB K).map byteV) from RdL.below (HRb.out.below HB23.out) HAl.out)
      have hs0 := HAl.out.size
      go_wp2_with (first | (at_builtin; refine wpList_app (n := 0) (m := (fileB K).length) rfl (.tmp 38) (.tmp 39) 23 rfl elemB w3.heap.size rfl HM0.out rfl HRb3.out (bytes_one _) (by unfold maxLen; omega) (by omega) hs0 ?_; intro v4 w4 hown4 hgr4 hv4; clear hv4; have HO4 := Lib.hid (show OwnB w4 w3.heap.size v4 (fileB K) from ownB_of hown4 (List.nil_append _)); have HB4 := Lib.hid (own_below HAl.out HM0.out hs0 hgr4); have hs4 := HB4.out.size; have HR4 := Lib.hid (show Rd w4 1 (.slice ta tl.length tc) tl.length (tl.map byteV) from RdL.below HT.out (bstep HB3.out HB4.out)); clear hown4 hgr4) | (at_builtin; refine wpList_app (n := (fileB K).length) (m := tl.length) rfl (.tmp 40) (.tmp 41) 23 rfl elemB w3.heap.size rfl HO4.out rfl HR4.out (bytes_one _) (by unfold maxLen; omega) (by omega) hs4 ?_; intro v5 w5 hown5 hgr5 hv5; clear hv5; have HO5 := Lib.hid (show OwnB w5 w3.heap.size v5 (fileB K ++ tl) from ownB_of hown5 (List.map_append ..).symm); have HB5 := Lib.hid (own_below HB4.out HO4.out hs4 hgr5); clear hown5 hgr5))
      refine (HOpen.out v5 w5 HO5.out.rd (by rw [List.length_append]; omega)).mono ?_; rintro e w6 ⟨⟨lv, rs, rfl, hown6, hrs⟩, hb6⟩
      have HB6 := Lib.hid (bstep HB3.out (bstep HB5.out hb6))
      have HC6 := Lib.hid (bstep (bstep HB23.out HB5.out) hb6)
      have hrl : rs.length = K.length := by have := congrArg List.length hrs; rw [List.length_map] at this; rw [this]; exact recsOf_length K 16
      obtain ⟨la, lc, hlv, _⟩ := own_form hown6.row
      subst hlv
      have HRr := Lib.hid hown6.rd
      have HRs := Lib.hid hrs
      clear hown6 hrs hb6 HAl HM0 HRb3 HO4 HB4 HR4 HO5 HB5 HOpen hs0 hs4
      have HK6 := Lib.hid (HRk2.out.below HC6.out)
      have HN6 := Lib.hid (show Rd w6 1 (.slice na es.length nc) es.length ((endsF K).map intV) from Rd.below HRn.out HC6.out)
      have hKn := hel.out
      generalize hA : rs.length = n at *
      generalize hE : es.length = n' at *
      obtain rfl : n' = n := by omega
      have hfl' := hfl.out
      generalize hFL : (fileB K).length = lb at *
      rw [← hfl']
      have HKn := Lib.hid hKn
      have HLb := Lib.hid hfl'
      clear hKn hA hE hfl' hFL hfl hrl hel HRk2 HRn HRb hle
      have hn12 : n' ≤ 12 := hl12
      have q3 : ((lb : Int) != (lb : Int)) = false := by simp
      have q4 : ((n' : Int) != (n' : Int)) = false := by simp
      clear hKl
      go_wp2_with fail
      have HB7 := Lib.hid (show Below w6.heap.size w6 (w6.alloc (.cells #[.int .i64 (fsup.slot : Int), .int .i64 (fsup.gen : Int), .int .i64 (fsup.rev : Int)] 37)) from (Below.refl _ _).alloc (Nat.le_refl _) _)
      go_loopw [65] (fun iv W => ∃ i : Nat, iv = .int .i64 (i : Int) ∧ i ≤ n' ∧ Hid (Below w6.heap.size w6 W)) (fun iv _ => n' - (intOf iv).toNat)
      case atStart => exact ⟨0, rfl, Nat.zero_le _, HB7⟩
      case round =>
        obtain ⟨i, rfl, hi, HB⟩ := hrel
        by_cases hin : i < n'
        · have hiK : i < K.length := by have := HKn.out; omega
          obtain ⟨b1, o1, hla, hd1, c0, c1, c2, c3, c4⟩ := (HRr.out.below HB.out).at hin
          obtain ⟨b2, o2, hka, hd2, d0, d1, d2, d3⟩ := (HK6.out.below HB.out).at hin
          obtain ⟨b3, o3, hna, e0⟩ := rd_cell (Rd.below HN6.out HB.out) (i := i) (u := .int .i64 ((16 + nsum (K.take (i + 1)) : Nat) : Int)) (by rw [List.getElem?_map, endsF_at K i hiK]; rfl)
          subst hla hka hna
          have hx1 : (rat rs i).1 = ⟨((16 : Nat) : Int) + (nsum (K.take i) : Int), K.getD i nd0⟩ := by
            have hri : i < rs.length := by have := congrArg List.length HRs.out; rw [List.length_map, recsOf_length] at this; omega
            have := recsOf_at K 16 i hiK
            rw [← HRs.out, List.getElem?_map, List.getElem?_eq_getElem hri] at this
            unfold rat
            rw [List.getD_eq_getElem?_getD, List.getElem?_eq_getElem hri]
            simpa using this
          have hx2 : (nat' es i).1 = K.getD i nd0 := by
            have hei : i < es.length := by have := congrArg List.length HK.out; rw [List.length_map] at this; omega
            unfold nat'
            rw [← HK.out, List.getD_eq_getElem?_getD, List.getD_eq_getElem?_getD, List.getElem?_map, List.getElem?_eq_getElem hei]; rfl
          have hnx : nsum (K.take (i + 1)) = nsum (K.take i) + nsz (K.getD i nd0).data.length := by rw [take_snoc' hiK, nsum_snoc]
          have hox := (HOk.out (K.getD i nd0) (by rw [List.getD_eq_getElem?_getD, List.getElem?_eq_getElem hiK]; exact List.getElem_mem hiK)).1.1
          have hnb : 16 + nsum (K.take (i + 1)) ≤ 100000 := by
            have := nsum_le (k := K.take (i + 1)) (fun x hx => (HOk.out x (List.mem_of_mem_take hx)).1)
            rw [List.length_take] at this
            omega
          rw [hx1] at hd1 c0 c1 c2 c3
          rw [hx2] at hd2 d0 d1 d2
          dsimp only at hd1 c0 c1 c2 c3
          generalize (rat rs i).2 = v1 at *
          generalize (nat' es i).2 = v2 at *
          clear hx1 hx2
          generalize K.getD i nd0 = X at *
          rw [hnx] at e0 hnb
          rw [← Int.natCast_add] at c0
          rw [← Nat.add_assoc] at e0 hnb
          generalize 16 + nsum (K.take i) = o at *
          have HSame := Lib.hid (fun u : BelowBy wr => (rnsame_any X X v1 v2 u.w' (RdL.below hd1 u.h) (RdL.below hd2 u.h)))
          rw [show decide (X = X) = true from decide_eq_true rfl] at HSame
          have HSz := Lib.hid (fun u : BelowBy wr => (nsize_any X.data.length u.w' (by omega)).mono fun e w' (h : _ ∧ _) => (⟨h.1, h.2 ▸ Below.refl _ _⟩ : e = .returned (.int .i64 ((szN X.data.length : Nat) : Int)) ∧ Below u.w'.heap.size u.w' w'))
          rw [szN_of hox] at HSz
          obtain ⟨a1, k1, hv1, _, _⟩ := hd1.shape0
          obtain ⟨a2, k2, hv2, _, _⟩ := hd2.shape0
          subst hv1 hv2
          obtain ⟨xk, xc, xd, xl⟩ := X
          dsimp only at *
          generalize hxl : xl.length = l at *
          clear hd1 hd2 hnx hxl
          generalize nsz l = s at *
          have c0 := cell_by c0
          have c1 := cell_by c1
          have c2 := cell_by c2
          have c3 := cell_by c3
          have c4 := cell_by c4
          have d0 := cell_by d0
          have d1 := cell_by d1
          have d2 := cell_by d2
          have d3 := cell_by d3
          have j5 : IntKind.i64.wrap ((o : Int) + (s : Int)) = ((o + s : Nat) : Int) := (IntWalk.i64_in _ (by omega)).trans (by omega)
          generalize hos : o + s = e at *
          have e0 := cell_by e0
          have q5 : ((e : Int) != (e : Int)) = false := by simp
          have i1 : (i : Int) < (n' : Int) := by omega
          clear hos
          go_wp2_with fail
          refine wp_region_below (by kernel_rfl) (by kernel_rfl) ?_
          repeat (go_big_quiet_step ((first | exact calls_by (HSame.out _) | exact calls_by (HSz.out _))))
          refine wpQuiet_nil ?_
          intro _ hw'
          obtain ⟨u, hw'⟩ := hw'
          subst hw'
          have HBu := Lib.hid (bstep HB.out u.h)
          clear c0 c1 c2 c3 c4 d0 d1 d2 d3 e0
          go_wp2_with fail
          exact ⟨⟨i + 1, by go_num, by omega, HBu⟩, by simp [intOf]; omega⟩
        · obtain rfl : i = n' := by omega
          go_wp2_with fail
          refine (awake_any _).mono ?_; rintro e w9 ⟨rfl, hb9⟩
          have HX := Lib.hid (bstep (bstep HB6.out HB.out) hb9)
          clear hb9
          go_wp2_with fail
          go_ret
          exact ⟨rfl, HX.out⟩
end Go.Proofs.Ytecflhklpkjhcaa

namespace Go.Proofs.Ytecflhklpkjhcaa

/-- The place of the last needle of a key; -1 if there is none. -/
def lastZ (key : Nat) : List Nd → Nat → Int → Int
  | [], _, a => a
  | x :: K, i, a => lastZ key K (i + 1) (if x.key = key then (i : Int) else a)
theorem lastZ_snoc (key : Nat) : ∀ (K : List Nd) (x : Nd) (i : Nat) (a : Int), lastZ key (K ++ [x]) i a = if x.key = key then ((i + K.length : Nat) : Int) else lastZ key K i a
  | [], x, i, a => by simp [lastZ]
  | y :: K, x, i, a => by
    show lastZ key (K ++ [x]) (i + 1) _ = _
    rw [lastZ_snoc key K x (i + 1)]
    split
    · rw [List.length_cons]; congr 1; omega
    · rfl
def lastK (K : List Nd) (key : Nat) : Int := lastZ key K 0 (-1)
theorem lastK_succ {K : List Nd} {i : Nat} (h : i < K.length) (key : Nat) : lastK (K.take (i + 1)) key = if (K.getD i nd0).key = key then (i : Int) else lastK (K.take i) key := by
  unfold lastK
  rw [take_snoc' h, lastZ_snoc, List.length_take, Nat.zero_add, Nat.min_eq_left (by omega)]
theorem lastA_fst (key : Nat) : ∀ (l : List Rec) (K : List Nd) (i a : Nat) (z : Int), keysR l = K.map (·.key) → (lastZ key K i z = z ∧ lastA key (keysR l) i a = a ∧ ∀ x ∈ K, x.key ≠ key) ∨ ∃ j, j < K.length ∧ lastZ key K i z = ((i + j : Nat) : Int) ∧ lastA key (keysR l) i a = i + j ∧ (K.getD j nd0).key = key
  | [], [], _, _, _, _ => .inl ⟨rfl, rfl, fun x h => by cases h⟩
  | [], _ :: _, _, _, _, h => by simp [keysR] at h
  | _ :: _, [], _, _, _, h => by simp [keysR] at h
  | r :: l, x :: K, i, a, z, h => by
    have h' : r.nd.key = x.key ∧ keysR l = K.map (·.key) := by simpa [keysR] using h
    have ih := lastA_fst key l K (i + 1) (if r.nd.key = key then i else a) (if x.key = key then (i : Int) else z) h'.2
    show (lastZ key K (i + 1) (if x.key = key then (i : Int) else z) = z ∧ lastA key (keysR l) (i + 1) (if r.nd.key = key then i else a) = a ∧ _) ∨ ∃ j, j < K.length + 1 ∧ lastZ key K (i + 1) (if x.key = key then (i : Int) else z) = ((i + j : Nat) : Int) ∧ lastA key (keysR l) (i + 1) (if r.nd.key = key then i else a) = i + j ∧ _
    rw [h'.1] at ih ⊢
    rcases ih with ⟨h1, h2, h3⟩ | ⟨j, hj, h1, h2, h3⟩
    · by_cases e : x.key = key
      · refine .inr ⟨0, by omega, by rw [h1, if_pos e]; rfl, by rw [h2, if_pos e]; rfl, e⟩
      · refine .inl ⟨by rw [h1, if_neg e], by rw [h2, if_neg e], fun y hy => ?_⟩
        rcases List.mem_cons.1 hy with rfl | hy
        · exact e
        · exact h3 y hy
    · refine .inr ⟨j + 1, by omega, by rw [h1]; congr 1; omega, by rw [h2]; omega, h3⟩
def cntK (key : Nat) (T : List It) : Nat := (T.filter fun y => y.key == (key : Int)).length
theorem cntK_succ {T : List It} {i : Nat} (h : i < T.length) (key : Nat) : cntK key (T.take (i + 1)) = cntK key (T.take i) + if (iat T i).key = (key : Int) then 1 else 0 := by
  unfold cntK
  rw [take_snoc h, List.filter_append, List.length_append]
  by_cases e : (iat T i).key = (key : Int)
  · rw [if_pos e]; simp [List.filter_cons, e]
  · rw [if_neg e]; simp [List.filter_cons, e]
theorem cntK_none {T : List It} {key : Nat} (h : ∀ y ∈ T, y.key ≠ (key : Int)) : cntK key T = 0 := by
  unfold cntK
  rw [List.length_eq_zero_iff, List.filter_eq_nil_iff]
  intro y hy; simpa using h y hy
theorem cntK_le {T : List It} {key : Nat} (h : T.Pairwise fun a b => a.key < b.key) : cntK key T ≤ 1 := by
  induction T with
  | nil => simp [cntK]
  | cons x T ih =>
    rw [List.pairwise_cons] at h
    by_cases e : x.key = (key : Int)
    · have : cntK key T = 0 := cntK_none fun y hy e2 => by have := h.1 y hy; omega
      unfold cntK at *
      rw [List.filter_cons, if_pos (by simpa using e), List.length_cons, this]; omega
    · have := ih h.2
      unfold cntK at *
      rw [List.filter_cons, if_neg (by simpa using e)]; exact this
theorem cntK_mem {T : List It} {key : Nat} {y : It} (hy : y ∈ T) (e : y.key = (key : Int)) : 1 ≤ cntK key T := by
  unfold cntK
  exact List.length_pos_of_mem (List.mem_filter.2 ⟨hy, by simpa using e⟩)
theorem fnd_mem_asc {T : List It} (h : T.Pairwise fun a b => a.key < b.key) {y : It} (hy : y ∈ T) : fnd T y.key = some y := by
  induction T with
  | nil => cases hy
  | cons x T ih =>
    rw [List.pairwise_cons] at h
    rw [fnd_cons]
    rcases List.mem_cons.1 hy with rfl | hy
    · rw [if_pos rfl]
    · rw [if_neg (by have := h.1 y hy; omega)]; exact ih h.2 hy
/-- What the law asks of a key. -/
structure LastL (K : List Nd) (T : List It) (key : Nat) : Prop where
  no : lastK K key = -1 → cntK key T = 0 ∧ ∀ y ∈ T, y.key ≠ (key : Int)
  yes : lastK K key ≠ -1 → ∃ j, j < K.length ∧ lastK K key = (j : Int) ∧ (∀ y ∈ T, y.key = (key : Int) → y = itR ⟨((16 : Nat) : Int) + (nsum (K.take j) : Int), K.getD j nd0⟩) ∧ cntK key T = if (K.getD j nd0).del = true then 0 else 1
theorem last_law (K : List Nd) (key : Nat) : LastL K (itemsP (recsOf 16 K)) key := by
  have hkeys : keysR (recsOf 16 K) = K.map (·.key) := by
    have := congrArg (List.map (·.key)) (recsOf_nd K 16)
    rw [← this]; simp [keysR]
  have hT : (itemsP (recsOf 16 K)).Pairwise fun a b => a.key < b.key := ascR_pw ((ascR_iff _).2 (itemsP_asc _))
  have hf := fnd_itemsP (recsOf 16 K) (key : Int)
  rw [recsOf_length] at hf
  unfold hasF at hf
  rw [Int.toNat_natCast] at hf
  have hl := lastA_fst key (recsOf 16 K) K 0 0 (-1) hkeys
  have e1 : lastA key (keysR (recsOf 16 K)) 0 0 = lastI (keysR (recsOf 16 K)) key := rfl
  have e2 : lastZ key K 0 (-1) = lastK K key := rfl
  rw [e1, e2] at hl
  rcases hl with ⟨h1, h2, h3⟩ | ⟨j, hj, h1, h2, h3⟩
  · have hno : ∀ y ∈ itemsP (recsOf 16 K), y.key ≠ (key : Int) := fun y hy e => by
      have := fnd_mem_asc hT hy
      rw [e, hf] at this
      split at this
      · rename_i hlt
        rw [recsOf_at K 16 _ hlt] at this
        dsimp only at this
        split at this
        · rename_i hc
          rw [h2] at hc hlt
          exact h3 (K.getD 0 nd0) (by rw [List.getD_eq_getElem?_getD, List.getElem?_eq_getElem hlt]; exact List.getElem_mem hlt) (by have := hc.1; omega)
        · cases this
      · cases this
    exact ⟨fun _ => ⟨cntK_none hno, hno⟩, fun h => absurd h1 h⟩
  · rw [Nat.zero_add] at h1 h2
    refine ⟨fun h => by omega, fun _ => ⟨j, hj, h1, ?_⟩⟩
    rw [h2, if_pos hj, recsOf_at K 16 j hj] at hf
    dsimp only at hf
    refine ⟨fun y hy e => ?_, ?_⟩
    · have := fnd_mem_asc hT hy
      rw [e, hf] at this
      split at this
      · exact (Option.some.inj this).symm
      · cases this
    · by_cases hd : (K.getD j nd0).del = true
      · rw [if_pos hd]
        refine cntK_none fun y hy e => ?_
        have := fnd_mem_asc hT hy
        rw [e, hf, if_neg (by rw [hd]; simp)] at this
        cases this
      · rw [if_neg hd]
        rw [if_pos ⟨by rw [h3], by simpa using hd⟩] at hf
        obtain ⟨hm, hk⟩ := fnd_some_mem hf
        have h1 := cntK_le (key := key) hT
        have h2 := cntK_mem hm hk
        omega
end Go.Proofs.Ytecflhklpkjhcaa

namespace Go.Proofs.Ytecflhklpkjhcaa
open Go.RowKit

theorem needs_one (es : List (Nd × Value)) (w : World) (h : ∀ p ∈ es, RdB w p.2 p.1.data) : ∀ u ∈ needsC es, u.oneCell' = true := by
  intro u hu
  obtain ⟨p, hp, hu⟩ := List.mem_flatMap.1 hu
  obtain ⟨a, c, hv, _⟩ := (h p hp).shape0
  obtain ⟨r, v⟩ := p
  dsimp only at hv hu
  subst hv
  simp only [needC, List.mem_cons, List.not_mem_nil, or_false] at hu; rcases hu with h | h | h | h <;> rw [h] <;> rfl
set_option maxRecDepth 100000 in
set_option maxHeartbeats 8000000 in
theorem last_walk (v : Value) (key0 : Nat) (ns : List (Nd × Value)) (w : World) (h : RdN w v ns) (hwf : ∀ p ∈ ns, p.1.Wf) :
    Calls Try.prog 5 #[v, .int .u64 (key0 : Int)] w fun e w' => e = .returned (.bool true) ∧ Below w.heap.size w w' := by
  have HSm := Lib.hid (small_any v ns w h hwf)
  have HN := Lib.hid (show ∀ x ∈ ns.map (·.1), x.Wf from fun x hx => by obtain ⟨p, hp, rfl⟩ := List.mem_map.1 hx; exact hwf p hp)
  generalize ns.map (·.1) = N at *
  clear h hwf
  go_enter Try.func5, Try.ntmps5
  go_wp2_with fail
  refine HSm.out.mono ?_; rintro e w1 ⟨kv, es, rfl, hown1, hes, hdat, hb1⟩
  have HFl := Lib.hid (file_any kv es w1 (sms_rd hown1 hdat hb1) (sms_ok hes HN.out) (sms_len hes))
  have HOk := Lib.hid (show ∀ x ∈ es.map (·.1), x.ok ∧ x.Wf from fun x hx => by obtain ⟨p, hp, rfl⟩ := List.mem_map.1 hx; exact sms_ok hes HN.out p hp)
  have hl12 := sms_len hes
  have HB1 := Lib.hid hb1
  have HRk := Lib.hid (sms_rd hown1 hdat hb1)
  obtain ⟨ka, kc, hkv, _⟩ := own_form hown1
  subst hkv
  have hKl0 : (es.map (·.1)).length = es.length := by rw [List.length_map]
  have HKat := Lib.hid (show ∀ j, j < es.length → (nat' es j).1 = (es.map (·.1)).getD j nd0 from fun j hj => by
    unfold nat'
    rw [List.getD_eq_getElem?_getD, List.getD_eq_getElem?_getD, List.getElem?_map, List.getElem?_eq_getElem hj]; rfl)
  generalize es.map (·.1) = K at *
  clear hown1 hes hdat hb1 HSm HN
  go_wp2_with fail
  refine HFl.out.mono ?_; rintro e w2 ⟨bv, nv, rfl, hownb, hownn, hb2⟩
  have hle := nsum_le (k := K) (fun x hx => (HOk.out x hx).1)
  have hfl := fileB_length K
  have HTo := Lib.hid (open_any _ (fileB K) w2 hownb.rd (by omega))
  rw [open_whole K HOk.out] at HTo
  obtain ⟨ba, bc, hbv, _⟩ := own_form hownb
  obtain ⟨na, nc, hnv, _⟩ := own_form hownn
  subst hbv hnv
  have HB2 := Lib.hid (bstep HB1.out hb2)
  have HRk2 := Lib.hid (HRk.out.below hb2)
  clear hownb hownn hb2 HFl HRk HB1 hle hfl
  generalize (fileB K).length = lb at *
  have HKey := Lib.hid (fun es he => recs_keys (es := es) (K := K) (p := 16) he HOk.out)
  have HLen := Lib.hid (fun es he => recs_len (es := es) (K := K) (p := 16) he)
  have HLaw := Lib.hid (last_law K)
  have HRat := Lib.hid (fun i (h : i < K.length) => recsOf_at K 16 i h)
  have hTl : (itemsP (recsOf 16 K)).length ≤ 12 := Nat.le_trans (itemsP_length _) (by rw [recsOf_length]; omega)
  go_wp2_with fail
  refine HTo.out.mono ?_; rintro e w3 ⟨⟨lv, rs, rfl, hown3, hrs⟩, hb3⟩
  have HB3 := Lib.hid (bstep HB2.out hb3)
  have HBa := Lib.hid (show Below w3.heap.size w3 (w3.alloc (.cells #[.int .i64 (fsup.slot : Int), .int .i64 (fsup.gen : Int), .int .i64 (fsup.rev : Int)] 37)) from (Below.refl _ _).alloc (Nat.le_refl _) _)
  have HRr := Lib.hid (hown3.rd.below HBa.out)
  have hrn := HLen.out rs hrs
  have HIt := Lib.hid (items_any lv rs _ HRr.out (HKey.out rs hrs) (by omega))
  rw [hrs] at HIt
  have HRa := Lib.hid (show ∀ i, i < es.length → (rat rs i).1 = ⟨((16 : Nat) : Int) + (nsum (K.take i) : Int), K.getD i nd0⟩ from fun i hi => by
    have := HRat.out i (by omega)
    rw [← hrs, List.getElem?_map, List.getElem?_eq_getElem (show i < rs.length by omega)] at this
    unfold rat
    rw [List.getD_eq_getElem?_getD, List.getElem?_eq_getElem (show i < rs.length by omega)]
    simpa using this)
  generalize itemsP (recsOf 16 K) = T at *
  obtain ⟨la, lc, hlv, _⟩ := own_form hown3.row
  subst hlv
  have HRk3 := Lib.hid (HRk2.out.below hb3)
  clear hown3 hrs hb3 HTo HKey HLen HRat HRk2
  have hrn2 : rs.length = es.length := by omega
  rw [hrn2] at HRr HIt ⊢
  have HRn := Lib.hid hrn2
  have HKl := Lib.hid hKl0
  clear hrn hrn2 hKl0
  generalize hn : es.length = n at *
  have HEn := Lib.hid hn
  clear hn
  generalize nsum K = s at *
  have q1 : ((n : Int) != (n : Int)) = false := by simp
  go_wp2_with fail
  refine HIt.out.mono ?_; rintro e w4 ⟨tv, rfl, hown4, hb4⟩
  have HB34 := Lib.hid (bstep HBa.out hb4)
  have HRt := Lib.hid hown4.rd
  obtain ⟨ta, tc, htv, _⟩ := own_form hown4
  subst htv
  have HRr4 := Lib.hid (HRr.out.below hb4)
  have HRk4 := Lib.hid (HRk3.out.below HB34.out)
  have HB4 := Lib.hid (bstep HB3.out HB34.out)
  clear hown4 hb4 HIt HBa HRr HRk3 HB3 HB34
  have HOw := Lib.hid (World.ownsRow_lit (e := 31) (size := 4) w4 #[.int .u64 (key0 : Int), .int .u32 0, .bool false, .slice none 0 0] 1 (Nat.le_refl _) (by decide) rfl)
  have HAl := Lib.hid (show Below w4.heap.size w4 (w4.alloc (.cells #[.int .u64 (key0 : Int), .int .u32 0, .bool false, .slice none 0 0] 31)) from (Below.refl _ _).alloc (Nat.le_refl _) _)
  have HRkA := Lib.hid (show Rd _ 4 (.slice ka n kc) n (needsC es) from (by have := (HRk4.out.below HAl.out).row; rw [HEn.out] at this; exact this))
  have HOne := Lib.hid (needs_one es w4 HRk4.out.dat)
  go_wp2_with (at_builtin; refine wpList_app (n := 1) (m := n) rfl (.tmp 47) (.tmp 48) 22 rfl elemN w4.heap.size rfl HOw.out rfl HRkA.out HOne.out (by unfold maxLen; omega) (by omega) HAl.out.size ?_; intro v5 w5 hown5 hgr5 hv5; clear hv5; have HB5 := Lib.hid (own_below HAl.out HOw.out HAl.out.size hgr5); have HR5 := Lib.hid (own_rd hown5); obtain ⟨xa, xc, hv5, _⟩ := own_form hown5; subst hv5; clear hown5 hgr5)
  have HX5 := Lib.hid (show RdN w5 (.slice xa (1 + n) xc) ((⟨key0, 0, false, []⟩, .slice none 0 0) :: es) from ⟨by rw [List.length_cons, HEn.out, Nat.add_comm n 1]; exact HR5.out, fun p hp => by
    rcases List.mem_cons.1 hp with rfl | hp
    · exact RdB_nil _
    · exact RdL.below (HRk4.out.dat p hp) HB5.out⟩)
  have HRk5 := Lib.hid (HRk4.out.below HB5.out)
  have HRr5 := Lib.hid (HRr4.out.below HB5.out)
  have HRt5 := Lib.hid (HRt.out.below HB5.out)
  have HBB5 := Lib.hid (bstep HB4.out HB5.out)
  generalize (⟨key0, 0, false, []⟩, Value.slice none 0 0) :: es = xs at HX5
  clear HOw HAl HRkA HOne HR5 HRk4 HRr4 HRt HB4 HB5 HB2
  generalize hTn : T.length = tn at *
  have HTn := Lib.hid hTn
  clear hTn
  go_loopw [51] (fun iv W => ∃ i : Nat, iv = .int .i64 (i : Int) ∧ i ≤ 1 + n ∧ Hid (Below w5.heap.size w5 W)) (fun iv _ => 1 + n - (intOf iv).toNat)
  case atStart => exact ⟨0, rfl, by omega, Lib.hid (Below.refl _ _)⟩
  case round =>
    obtain ⟨i, rfl, hi, HB⟩ := hrel
    by_cases hin : i < 1 + n
    · obtain ⟨b1, o1, hxa, hd1, c0, c1, c2, c3⟩ := (HX5.out.below HB.out).at hin
      subst hxa
      have i1 : (i : Int) < 1 + (n : Int) := by omega
      generalize nat' xs i = x at *
      obtain ⟨⟨xk, xc', xd, xl⟩, xv⟩ := x
      dsimp only at *
      obtain ⟨da, dc, hdv, _, _⟩ := hd1.shape0
      subst hdv
      generalize xl.length = l at *
      obtain ⟨V, hV, HV, HV0⟩ : ∃ V, wr.alloc (.cells #[.int .u64 (xk : Int), .int .u32 (xc' : Int), .bool xd, .slice da l dc] 31) = V ∧ Hid (Below wr.heap.size wr V) ∧ Hid (V.cell? ⟨wr.heap.size, 0, none⟩ = some (.int .u64 (xk : Int))) := ⟨_, rfl, Lib.hid ((Below.refl _ _).alloc (Nat.le_refl _) _), Lib.hid (by simp)⟩
      have HVw := Lib.hid (show wr.heap.size < V.heap.size from World.block_lt_of_cell? _ _ HV0.out)
      have HLx := Lib.hid (HLaw.out xk)
      have HBV := Lib.hid (bstep HB.out HV.out)
      clear hd1
      go_wp2_with fail
      try rw [hV]
      clear hV c0 c1 c2 c3
      generalize hkb : wr.heap.size = kb at *
      clear hkb
      go_loopw [15, 57] (fun lz jv W => ∃ j : Nat, jv = .int .i64 (j : Int) ∧ j ≤ n ∧ lz = .int .i64 (lastK (K.take j) xk) ∧ Hid (Below V.heap.size V W)) (fun _ jv _ => n - (intOf jv).toNat)
      case atStart => exact ⟨0, rfl, by omega, rfl, Lib.hid (Below.refl _ _)⟩
      case round =>
        obtain ⟨j, rfl, hj, rfl, HBj⟩ := hrel
        by_cases hjn : j < n
        · obtain ⟨b2, o2, hka, hd2, d0, d1, d2, d3⟩ := (HRk5.out.below (bstep HBV.out HBj.out)).at hjn
          subst hka
          have hKj := HKat.out j hjn
          have hS := lastK_succ (K := K) (i := j) (by have := HKl.out; omega) xk
          rw [← hKj] at hS
          generalize nat' es j = y at *
          obtain ⟨⟨yk, yc, yd, yl⟩, yv⟩ := y
          dsimp only at *
          clear hKj hd2 d1 d2 d3
          have e0 := Below.keeps HBj.out _ _ HV0.out
          have i2 : (j : Int) < (n : Int) := by omega
          have HSj := Lib.hid hS
          clear hS
          by_cases hkk : yk = xk
          · have g1 : ((yk : Int) == (xk : Int)) = true := beq_iff_eq.2 (by omega)
            have HSk := Lib.hid (HSj.out.trans (if_pos hkk))
            clear hkk HSj
            have f0 := cell_by d0
            have f1 := cell_by e0
            go_wp2_with fail
            refine wp_region_below (by kernel_rfl) (by kernel_rfl) ?_
            repeat (go_big_quiet_step (fail))
            refine wpQuiet_nil ?_
            intro _ hw'
            obtain ⟨u, hw'⟩ := hw'
            subst hw'
            have HBu := Lib.hid (bstep HBj.out u.h)
            clear f0 f1 d0 e0
            go_wp2_with fail
            exact ⟨⟨j + 1, by go_num, by omega, by rw [HSk.out], HBu⟩, by simp [intOf]; omega⟩
          · have g1 : ((yk : Int) == (xk : Int)) = false := beq_eq_false_iff_ne.2 (by omega)
            have HSk := Lib.hid (HSj.out.trans (if_neg hkk))
            clear hkk HSj
            have f0 := cell_by d0
            have f1 := cell_by e0
            go_wp2_with fail
            refine wp_region_below (by kernel_rfl) (by kernel_rfl) ?_
            repeat (go_big_quiet_step (fail))
            refine wpQuiet_nil ?_
            intro _ hw'
            obtain ⟨u, hw'⟩ := hw'
            subst hw'
            have HBu := Lib.hid (bstep HBj.out u.h)
            clear f0 f1 d0 e0
            go_wp2_with fail
            exact ⟨⟨j + 1, by go_num, by omega, by rw [HSk.out], HBu⟩, by simp [intOf]; omega⟩
        · obtain rfl : j = n := by omega
          have hKt : K.take j = K := List.take_of_length_le (by have := HKl.out; omega)
          rw [hKt]
          have HBw := Lib.hid (bstep HBV.out HBj.out)
          have hx0 := Below.keeps HBj.out _ _ HV0.out
          have HX0 := Lib.hid hx0
          clear hKt HBj HBV HV HV0 HVw hx0
          generalize hwr : wr = V2 at *
          clear hwr
          go_wp2_with fail
          have HCs := Lib.hid (fun m (h : m < tn) => cntK_succ (T := T) (i := m) (by have := HTn.out; omega) xk)
          have HCe := Lib.hid (show cntK xk (T.take tn) = cntK xk T by rw [← HTn.out, List.take_length])
          have HTm := Lib.hid (fun m (h : m < tn) => iat_mem (l := T) (j := m) (by have := HTn.out; omega))
          have HCb := Lib.hid (show ∀ m, cntK xk (T.take m) ≤ 12 from fun m => Nat.le_trans (List.length_filter_le _ _) (by have := HTn.out; rw [List.length_take]; omega))
          generalize hZ : lastK K xk = Z at *
          have hZn := HLx.out.no
          have hZy := HLx.out.yes
          rw [hZ] at hZn hZy
          have HZn := Lib.hid hZn
          have HZy := Lib.hid hZy
          clear hZ hZn hZy HLx
          go_loopw [17, 72] (fun cv mv W => ∃ m : Nat, mv = .int .i64 (m : Int) ∧ m ≤ tn ∧ cv = .int .i64 (cntK xk (T.take m) : Int) ∧ Hid (Below V2.heap.size V2 W)) (fun _ mv _ => tn - (intOf mv).toNat)
          case atStart => exact ⟨0, rfl, by omega, rfl, Lib.hid (Below.refl _ _)⟩
          case round =>
            obtain ⟨m, rfl, hm, rfl, HBm⟩ := hrel
            by_cases hmn : m < tn
            · obtain ⟨b3, o3, hta, e0, e1, e2, e3⟩ := (HRt5.out.below (bstep HBw.out HBm.out)).at hmn
              subst hta
              have hCs := HCs.out m hmn
              have hTm := HTm.out m hmn
              have hCb := HCb.out m
              have x0 := Below.keeps HBm.out _ _ HX0.out
              have i3 : (m : Int) < (tn : Int) := by omega
              generalize iat T m = y at *
              obtain ⟨V3, hV3, HV3, y0, y1, y2, y3⟩ : ∃ V3, wr.alloc (.cells #[.int .u64 y.key, .int .u32 y.ck, .int .i64 y.off, .int .i64 y.size] 50) = V3 ∧ Hid (Below wr.heap.size wr V3) ∧ V3.cell? ⟨wr.heap.size, 0, none⟩ = some (.int .u64 y.key) ∧ V3.cell? ⟨wr.heap.size, 1, none⟩ = some (.int .u32 y.ck) ∧ V3.cell? ⟨wr.heap.size, 2, none⟩ = some (.int .i64 y.off) ∧ V3.cell? ⟨wr.heap.size, 3, none⟩ = some (.int .i64 y.size) := ⟨_, rfl, Lib.hid ((Below.refl _ _).alloc (Nat.le_refl _) _), by simp, by simp, by simp, by simp⟩
              have x0 := Below.keeps HV3.out _ _ x0
              have HB3 := Lib.hid (bstep HBm.out HV3.out)
              by_cases hyk : y.key = (xk : Int)
              · have hZne : Z ≠ -1 := fun e => (HZn.out e).2 y hTm hyk
                obtain ⟨jj, hjj, hZj, hyy, _⟩ := HZy.out hZne
                have hye := hyy y hTm hyk
                rw [if_pos hyk] at hCs
                have hjj : jj < j := by have := HKl.out; omega
                obtain ⟨b4, o4, hla, _, f0, _, _, _, _⟩ := (HRr5.out.below (bstep HBw.out HB3.out)).at hjj
                obtain ⟨b5, o5, hka, hd5, _, d1, _, d3⟩ := (HRk5.out.below (bstep HBw.out HB3.out)).at hjj
                subst hla hka
                rw [HRa.out jj hjj] at f0
                rw [HKat.out jj hjj] at hd5 d1
                dsimp only at f0
                rw [hye] at y0 y1 y2 y3 hV3 e0 e1 e2 e3
                generalize hof : ((16 : Nat) : Int) + (nsum (K.take jj) : Int) = of at *
                generalize K.getD jj nd0 = X at *
                obtain ⟨pk, pc, pd, pl⟩ := X
                generalize (nat' es jj).2 = pv at *
                obtain ⟨pa, pcap, hpv, _, _⟩ := hd5.shape0
                subst hpv
                simp only [itR] at y0 y1 y2 y3 hV3 e0 e1 e2 e3
                dsimp only at d1 d3 hd5
                have hpk : (pk : Int) = (xk : Int) := by have := hyk; rw [hye] at this; exact this
                obtain rfl : xk = pk := by omega
                clear hpk
                clear hye hyy hyk hof hd5 hTm
                generalize pl.length = ll at *
                have HC := Lib.hid hCs
                subst hZj
                have g1 : ((xk : Int) != (xk : Int)) = false := by simp
                have g2 : decide ((jj : Int) < 0) = false := by simp
                have g3 : (of != of) = false := by simp
                have g4 : ((ll : Int) != (ll : Int)) = false := by simp
                have g5 : ((pc : Int) != (pc : Int)) = false := by simp
                have i5 : (jj : Int) < (j : Int) := by omega
                have k1 : IntKind.i64.wrap ((cntK xk (T.take m) : Int) + 1) = ((cntK xk (T.take m) + 1 : Nat) : Int) := (IntWalk.i64_in _ (by omega)).trans (by omega)
                generalize cntK xk (T.take m) = c at *
                have b1 := cell_by y1
                have b2 := cell_by y2
                have b3' := cell_by y3
                have b4' := cell_by f0
                have b5' := cell_by d1
                have b6 := cell_by d3
                clear hCs
                go_wp2_with fail
                try rw [hV3]
                refine wp_region_below (by kernel_rfl) (by kernel_rfl) ?_
                repeat (go_big_quiet_step (fail))
                refine wpQuiet_nil ?_
                intro _ hw'
                obtain ⟨u, hw'⟩ := hw'
                subst hw'
                have HBu := Lib.hid (bstep HB3.out u.h)
                clear b1 b2 b3' b4' b5' b6 f0 d1 d3 y0 y1 y2 y3 hV3
                go_wp2_with fail
                exact ⟨⟨m + 1, by go_num, by omega, by rw [HC.out]; rfl, HBu⟩, by simp [intOf]; omega⟩
              · have g1 : (y.key != (xk : Int)) = true := bne_iff_ne.2 hyk
                rw [if_neg hyk, Nat.add_zero] at hCs
                have HC := Lib.hid hCs
                clear hCs hyk y1 y2 y3
                go_wp2_with fail
                exact ⟨⟨m + 1, by go_num, by omega, by rw [HC.out]; rfl, HB3⟩, by simp [intOf]; omega⟩
            · obtain rfl : m = tn := by omega
              rw [HCe.out]
              have HBz := Lib.hid (bstep HBw.out HBm.out)
              by_cases hZ : Z = -1
              · have hc := (HZn.out hZ).1
                rw [hc]
                subst hZ
                have g1 : decide ((0 : Int) ≤ -1) = false := by decide
                go_wp2_with fail
                exact ⟨⟨i + 1, by go_num, by omega, HBz⟩, by simp [intOf]; omega⟩
              · obtain ⟨jj, hjj, hZj, _, hc⟩ := HZy.out hZ
                have hjj : jj < j := by have := HKl.out; omega
                obtain ⟨b5, o5, hka, _, _, _, d2, _⟩ := (HRk5.out.below HBz.out).at hjj
                subst hka
                rw [HKat.out jj hjj] at d2
                generalize K.getD jj nd0 = X at *
                obtain ⟨pk, pc, pd, pl⟩ := X
                dsimp only at d2 hc
                rw [hc]
                subst hZj
                have g1 : decide ((0 : Int) ≤ (jj : Int)) = true := by simp
                have i5 : (jj : Int) < (j : Int) := by omega
                cases pd
                · rw [if_neg (by decide)]
                  go_wp2_with fail
                  exact ⟨⟨i + 1, by go_num, by omega, HBz⟩, by simp [intOf]; omega⟩
                · rw [if_pos rfl]
                  go_wp2_with fail
                  exact ⟨⟨i + 1, by go_num, by omega, HBz⟩, by simp [intOf]; omega⟩
    · obtain rfl : i = 1 + n := by omega
      go_wp2_with fail
      refine (awake_any _).mono ?_; rintro e w6 ⟨rfl, hb6⟩
      have HX := Lib.hid (bstep (bstep HBB5.out HB.out) hb6)
      clear hb6
      go_wp2_with fail
      go_ret
      exact ⟨rfl, HX.out⟩
end Go.Proofs.Ytecflhklpkjhcaa

namespace Go.Proofs.Ytecflhklpkjhcaa
open Go.RowKit Go.ChangeShapes Go.WideShapes Go.Deep

theorem structN : ∃ f0 f1 f2 f3, Try.prog.underlying 31 = some (.struct #[f0, f1, f2, f3]) ∧ (f0.offset = 0 ∧ f1.offset = 1 ∧ f2.offset = 2 ∧ f3.offset = 3) ∧ f0.type = 28 ∧ f1.type = 29 ∧ f2.type = 4 ∧ f3.type = 23 :=
  ⟨_, _, _, _, Try.underlying31, ⟨rfl, rfl, rfl, rfl⟩, rfl, rfl, rfl, rfl⟩
theorem cellsOfN : Try.prog.cellsOf 31 = 4 := by kernel_rfl
theorem cellsOf_bool : Try.prog.cellsOf 4 = 1 := by kernel_rfl
theorem cellsOf_bytes : Try.prog.cellsOf 23 = 1 := by kernel_rfl
section
variable {H : Type} {enc : TypeId × Value → H} {w : World}
theorem open_bytes {fuel : Nat} {cs : List Value} {x : DataW H × List MemPlace} (h : DataW.trod enc Try.prog w 0 (fun _ => true) true fuel 23 cs = some x) : ∃ (v : Value) (l : List UInt8), cs = [v] ∧ RdB w v l := by
  rcases open_ints Try.underlying23 Try.underlying5 (by kernel_rfl) h with ⟨hcs, _⟩ | ⟨x, l, c, zs, hcs, _, hl, hm, hz, _, hcell, hwz⟩
  · exact ⟨_, [], hcs, RdB_nil w⟩
  · obtain ⟨r, _, hr⟩ := isRow_bytes (w := w) (a := some x) (len := l) (cap := c) (zs := zs) (.inr ⟨_, rfl, hl, hm, by simpa using hz, hcell, hwz⟩)
    exact ⟨_, r, hcs, hr⟩
theorem open_need {fuel : Nat} {cs : List Value} {x : DataW H × List MemPlace} (h : DataW.trod enc Try.prog w 0 (fun _ => true) true fuel 31 cs = some x) : ∃ y : Nd × Value, cs = needC y ∧ y.1.Wf ∧ RdB w y.2 y.1.data := by
  obtain ⟨f0, f1, f2, f3, hs, ⟨o0, o1, o2, o3⟩, t0, t1, t2, t3⟩ := structN
  obtain ⟨xs, n, _, _, hlen, hxl, hf⟩ := DataW.trod_struct hs h
  rw [cellsOfN] at hlen
  have hx : xs.length = 4 := by simpa using hxl
  have g : ∀ j (hj : j < 4), xs[j]? = some (xs[j]'(by omega)) := fun j hj => List.getElem?_eq_getElem (by omega)
  have h0 := (hf 0 f0 rfl).trans (g 0 (by omega))
  have h1 := (hf 1 f1 rfl).trans (g 1 (by omega))
  have h2 := (hf 2 f2 rfl).trans (g 2 (by omega))
  have h3 := (hf 3 f3 rfl).trans (g 3 (by omega))
  rw [t0, o0, cellsOf_u64] at h0
  rw [t1, o1, cellsOf_u32] at h1
  rw [t2, o2, cellsOf_bool] at h2
  rw [t3, o3, cellsOf_bytes] at h3
  obtain ⟨k, e0, _, w0⟩ := DataW.trod_int Try.underlying28 h0
  obtain ⟨c, e1, _, w1⟩ := DataW.trod_int Try.underlying29 h1
  obtain ⟨d, e2, _⟩ := DataW.trod_bool Try.underlying4 h2
  obtain ⟨v, l, e3, hr⟩ := open_bytes h3
  have d0 := one_of e0
  have d1 := one_of e1
  have d2 := one_of e2
  have d3 := one_of e3
  have b0 := bounds_of_u64 w0
  have b1 := bounds_of_u32 w1
  obtain ⟨k, rfl⟩ := Int.eq_ofNat_of_zero_le b0.1
  obtain ⟨c, rfl⟩ := Int.eq_ofNat_of_zero_le b1.1
  refine ⟨(⟨k, c, d, l⟩, v), ?_, show k < 18446744073709551616 ∧ c < 4294967296 by omega, hr⟩
  match cs, hlen, d0, d1, d2, d3 with
  | [a, b, c', d], _, d0, d1, d2, d3 =>
    simp at d0 d1 d2 d3
    subst d0 d1 d2 d3
    rfl
theorem open_needs {a : Option Addr} {n cap : Nat} {d : DataW H} {p : List MemPlace} (h : DataW.Trod enc Try.prog w 0 (fun _ => true) true 22 (.slice a n cap) d p) :
    ∃ l : List (Nd × Value), RdN w (.slice a n cap) l ∧ ∀ x ∈ l, x.1.Wf := by
  obtain ⟨fuel, hf⟩ := h
  rcases open_slice Try.underlying22 hf with ⟨hcs, _⟩ | ⟨x, len, cap', m, k, D, Pl, hcs, _, hl, hm, hmm, _, hx⟩
  · simp [Value.cells] at hcs
    obtain ⟨rfl, rfl, rfl⟩ := hcs
    exact ⟨[], rdN_nil w, fun e he => by cases he⟩
  · simp [Value.cells] at hcs
    obtain ⟨rfl, rfl, rfl⟩ := hcs
    simp only [if_true] at hmm
    subst hmm
    rw [cellsOfN] at hx
    haveI : Inhabited (Nd × Value) := ⟨(nd0, .slice none 0 0)⟩
    have each : ∀ i, i < n → ∃ y : Nd × Value, (∀ j, j < 4 → w.cell? (x.add (i * 4 + j)) = (needC y)[j]?) ∧ y.1.Wf ∧ RdB w y.2 y.1.data := fun i hi => by
      obtain ⟨cs', h1, h2⟩ := hx i (by omega)
      obtain ⟨y, rfl, hy⟩ := open_need h2
      obtain ⟨_, _, hc⟩ := World.cells?_some h1
      exact ⟨y, fun j hj => by rw [← hc j hj, Go.Deep.add_add], hy⟩
    obtain ⟨E, hE⟩ := choose_lt each
    refine ⟨(List.range n).map E, ⟨?_, fun e he => ?_⟩, fun e he => ?_⟩
    · rw [List.length_map, List.length_range]
      refine ⟨by rw [needsC_length]; simp, some x, m, by simp, by simpa using hl, hm, fun h => by simp at h, fun hp => ?_⟩
      have hn : 0 < n := by
        rw [needsC_length] at hp; simp at hp; omega
      obtain ⟨b, off, spot⟩ := x
      have hspot : spot = none := by
        have h0 : w.cell? ((⟨b, off, spot⟩ : Addr).add (0 * 4 + 0)) = some (.int .u64 ((E 0).1.key : Int)) := ((hE 0 hn).1 0 (by omega)).trans rfl
        simpa [Addr.add] using World.cell?_spot h0
      subst hspot
      refine ⟨b, off, rfl, fun j u hj => ?_⟩
      have hjl : j < n * 4 := by
        have := (List.getElem?_eq_some_iff.1 hj).1
        rw [needsC_length] at this
        simpa using this
      have hat := flat_at 4 needC (nd0, .slice none 0 0) ((List.range n).map E) (fun _ _ => rfl) (j / 4) (j % 4) (by simp; omega) (by omega)
      rw [show j / 4 * 4 + j % 4 = j by omega] at hat
      have hg : ((List.range n).map E).getD (j / 4) (nd0, .slice none 0 0) = E (j / 4) := by
        rw [List.getD_eq_getElem?_getD, List.getElem?_map, List.getElem?_range (by omega)]; rfl
      rw [hg] at hat
      have hc := (hE (j / 4) (by omega)).1 (j % 4) (by omega)
      rw [show j / 4 * 4 + j % 4 = j by omega, addr_add] at hc
      rw [hc, ← hat]; exact hj
    · obtain ⟨i, hi, rfl⟩ := List.mem_map.1 he
      exact (hE i (List.mem_range.1 hi)).2.2
    · obtain ⟨i, hi, rfl⟩ := List.mem_map.1 he
      exact (hE i (List.mem_range.1 hi)).2.1
end
theorem reads_open (a : Option Addr) (n cap : Nat) (b : Option Addr) (k c : Nat) (zs : List Int) (w : World) (h : ∃ l, RdN w (.slice a n cap) l ∧ ∀ x ∈ l, x.1.Wf) (h2 : IsRow .u8 w b k c zs) :
    Calls Try.prog 3 #[.slice a n cap, .slice b k c] w fun e w' => e = .returned (.bool true) ∧ Below w.heap.size w w' := by
  obtain ⟨l, hl, hw⟩ := h
  obtain ⟨raw, hr, ht⟩ := isRow_bytes h2
  exact reads_walk _ _ l raw w hl hw ht
end Go.Proofs.Ytecflhklpkjhcaa

namespace Go.Proofs.Ytecflhklpkjhcaa
open Go.RowKit

theorem last_open (a : Option Addr) (n cap : Nat) (z : Int) (w : World) (h : ∃ l, RdN w (.slice a n cap) l ∧ ∀ x ∈ l, x.1.Wf) (h2 : (Lit.int .u64 z).wf = true) :
    Calls Try.prog 5 #[.slice a n cap, .int .u64 z] w fun e w' => e = .returned (.bool true) ∧ Below w.heap.size w w' := by
  obtain ⟨l, hl, hw⟩ := h
  have b := bounds_of_u64 h2
  obtain ⟨k, rfl⟩ := Int.eq_ofNat_of_zero_le b.1
  exact last_walk _ k l w hl hw
end Go.Proofs.Ytecflhklpkjhcaa
