/- Several texts in one, each over the last: The items and the bytes of records, in plain Lean: one record more. No program here. scan.Bytes: the walk; sizes of any number of bytes. ScanSums: the walk. Salvage: the program's and the reference's. The reference's Records and Open. The law's same and given: the walks. ScanOpens: the walk. ScanReads: the walk. What is known of a slice of needles that came in; ScanReads, from what the form gives. ScanOpens, from what the form gives of its arguments. -/
import Derived.Test.YtecflhklpkjhcaaIq
import Derived.Test.YtecflhklpkjhcaaPr
import Derived.Test.YtecflhklpkjhcaaPz
import Derived.Test.YtecflhklpkjhcaaOw
import Derived.Test.YtecflhklpkjhcaaOn
import Derived.Test.YtecflhklpkjhcaaNr
import Derived.Test.YtecflhklpkjhcaaSd
import Derived.Test.YtecflhklpkjhcaaNn
import Derived.Test.YtecflhklpkjhcaaOp
import Derived.Deep.Slices
import Derived.Deep.SlicePairs
import Derived.ChangeArms
namespace Go.Proofs.Ytecflhklpkjhcaa

/-- What a key has, f telling the place of its last record, of the records ahead of place n. -/
def hasF (f : Nat → Nat) (L : List Rec) (n : Nat) (k : Int) : Option It :=
  if f k.toNat < n then (match L[f k.toNat]? with
    | some r => if (r.nd.key : Int) = k ∧ r.nd.del = false then some (itR r) else none
    | none => none) else none
theorem hasF_zero (f : Nat → Nat) (L : List Rec) (k : Int) : hasF f L 0 k = none := by unfold hasF; rw [if_neg (by omega)]
theorem hasF_succ (f : Nat → Nat) (L : List Rec) (n : Nat) (r : Rec) (hr : L[n]? = some r) (k : Int) :
    hasF f L (n + 1) k = if f r.nd.key = n ∧ r.nd.del = false ∧ (r.nd.key : Int) = k then some (itR r) else hasF f L n k := by
  unfold hasF
  by_cases h : f k.toNat = n
  · rw [if_pos (by omega), if_neg (show ¬ f k.toNat < n by omega), h, hr]
    by_cases hk : (r.nd.key : Int) = k
    · have : k.toNat = r.nd.key := by omega
      rw [this] at h
      by_cases hd : r.nd.del = false
      · rw [if_pos ⟨h, hd, hk⟩]; simp [hk, hd]
      · rw [if_neg (fun e => hd e.2.1)]; simp [hd]
    · rw [if_neg (fun e => hk e.2.2)]; simp [hk]
  · rw [if_neg (show ¬ (f r.nd.key = n ∧ r.nd.del = false ∧ (r.nd.key : Int) = k) from fun e => h (by rw [← e.2.2]; exact e.1))]
    by_cases hl : f k.toNat < n
    · rw [if_pos (by omega), if_pos hl]
    · rw [if_neg (by omega), if_neg hl]
theorem fnd_ins' (s : List It) (x : It) (k : Int) : fnd (ins s x) k = if x.key = k then some x else fnd s k := by
  by_cases h : x.key = k
  · rw [if_pos h, ← h]; exact fnd_ins_self x s
  · rw [if_neg h]; exact fnd_ins_other x k (Ne.symm h) s
theorem fnd_drp' (s : List It) (key k : Int) : fnd (drp s key) k = if k = key then none else fnd s k := by
  by_cases h : k = key
  · rw [if_pos h, h]; exact fnd_drp_self s key
  · rw [if_neg h]; exact fnd_drp_other key k h s
theorem srt_snoc (u : List It) (x : It) : srt (u ++ [x]) = ins (srt u) x := by rw [srt_append]; rfl
theorem take_snocR {L : List Rec} {n : Nat} {r : Rec} (hr : L[n]? = some r) : L.take (n + 1) = L.take n ++ [r] := by
  rw [List.take_add_one, hr]; rfl
theorem liveT_take (f : Nat → Nat) (L : List Rec) (n : Nat) (r : Rec) (hr : L[n]? = some r) : liveT f (L.take (n + 1)) 0 = liveT f (L.take n) 0 ++ if f r.nd.key = n ∧ r.nd.del = false then [itR r] else [] := by
  have hn := (List.getElem?_eq_some_iff.1 hr).1
  rw [take_snocR hr, liveT_snoc, List.length_take, Nat.min_eq_left (by omega), Nat.zero_add]
theorem fnd_live (f : Nat → Nat) (L : List Rec) (k : Int) : ∀ n, n ≤ L.length → fnd (srt (liveT f (L.take n) 0)) k = hasF f L n k
  | 0, _ => by rw [hasF_zero]; rfl
  | n + 1, h => by
    obtain ⟨r, hr⟩ : ∃ r, L[n]? = some r := ⟨_, List.getElem?_eq_getElem (by omega)⟩
    have ih := fnd_live f L k n (by omega)
    rw [liveT_take f L n r hr, hasF_succ f L n r hr, ← ih]
    by_cases hc : f r.nd.key = n ∧ r.nd.del = false
    · rw [if_pos hc, srt_snoc, fnd_ins']
      show (if (r.nd.key : Int) = k then _ else _) = _
      by_cases hk : (r.nd.key : Int) = k
      · rw [if_pos hk, if_pos ⟨hc.1, hc.2, hk⟩]
      · rw [if_neg hk, if_neg (fun e => hk e.2.2)]
    · rw [if_neg hc, List.append_nil, if_neg (fun e => hc ⟨e.1, e.2.1⟩)]
theorem fnd_itemsP (L : List Rec) (k : Int) : fnd (itemsP L) k = hasF (lastI (keysR L)) L L.length k := by
  have := fnd_live (lastI (keysR L)) L k L.length (Nat.le_refl _)
  rwa [List.take_of_length_le (Nat.le_refl _)] at this
theorem hasF_snoc (L : List Rec) (r : Rec) (k : Int) : hasF (lastI (keysR (L ++ [r]))) (L ++ [r]) (L ++ [r]).length k = if (r.nd.key : Int) = k then (if r.nd.del = false then some (itR r) else none) else hasF (lastI (keysR L)) L L.length k := by
  have hl : ∀ key, lastI (keysR (L ++ [r])) key = if r.nd.key = key then L.length else lastI (keysR L) key := fun key => by
    have : keysR (L ++ [r]) = keysR L ++ [r.nd.key] := by simp [keysR]
    rw [this, lastI_snoc]; simp [keysR]
  have hN : (L ++ [r]).length = L.length + 1 := by simp
  rw [hN]
  unfold hasF
  rw [hl]
  by_cases hk : (r.nd.key : Int) = k
  · rw [if_pos hk, if_pos (show r.nd.key = k.toNat by omega), if_pos (by omega), List.getElem?_append_right (Nat.le_refl _)]
    simp [hk]
  · have hk2 : (¬ r.nd.key = k.toNat) ∨ k < 0 := by omega
    rw [if_neg hk]
    rcases hk2 with hk2 | hk2
    · rw [if_neg hk2]
      by_cases h1 : lastI (keysR L) k.toNat < L.length
      · rw [if_pos (by omega), if_pos h1, List.getElem?_append_left h1]
      · rw [if_neg h1]
        by_cases h2 : lastI (keysR L) k.toNat < L.length + 1
        · rw [if_pos h2, show lastI (keysR L) k.toNat = L.length by omega, List.getElem?_append_right (Nat.le_refl _)]
          simp [hk]
        · rw [if_neg h2]
    · have no : ∀ q : Rec, ¬ ((q.nd.key : Int) = k ∧ q.nd.del = false) := fun q e => by have := e.1; omega
      have a1 : ∀ (x : Nat) (M : List Rec) (n : Nat), (if x < n then (match M[x]? with | some r => if (r.nd.key : Int) = k ∧ r.nd.del = false then some (itR r) else none | none => none) else none) = none := fun x M n => by
        split
        · split
          · rw [if_neg (no _)]
          · rfl
        · rfl
      rw [a1, a1]
/-- The reference's Items: one record after the other. -/
def stepI (s : List It) (r : Rec) : List It := if r.nd.del = true then drp s (r.nd.key : Int) else ins s (itR r)
theorem itemsP_asc (L : List Rec) : Asc (itemsP L) := srt_asc _
theorem itemsP_snoc (L : List Rec) (r : Rec) : itemsP (L ++ [r]) = stepI (itemsP L) r := by
  have pw : ∀ {l : List It}, Asc l → l.Pairwise fun a b => a.key < b.key := fun h => ascR_pw ((ascR_iff _).2 h)
  refine asc_ext _ _ (pw (itemsP_asc _)) ?_ fun k => ?_
  · unfold stepI
    split
    · exact pw (drp_asc (itemsP_asc L) _)
    · exact ascR_pw (ins_asc _ _ ((ascR_iff _).2 (itemsP_asc L)))
  · rw [fnd_itemsP, hasF_snoc, ← fnd_itemsP]
    unfold stepI
    cases hd : r.nd.del
    · rw [if_neg (show ¬ (false = true) by decide), fnd_ins']
      show _ = if (r.nd.key : Int) = k then _ else _
      simp
    · rw [if_pos rfl, fnd_drp']
      by_cases hk : (r.nd.key : Int) = k
      · rw [if_pos hk, if_pos hk.symm]; simp
      · rw [if_neg hk, if_neg (Ne.symm hk)]
theorem itemsP_nil : itemsP [] = [] := rfl
theorem itemsP_length (L : List Rec) : (itemsP L).length ≤ L.length := Nat.le_trans (srt_length _) (liveT_length _ L 0)

/-! ### Bytes -/
def szR (r : Rec) : Nat := szN r.nd.data.length
def liveB (f : Nat → Nat) : List Rec → Nat → Nat
  | [], _ => 0
  | r :: l, i => (if f r.nd.key = i ∧ r.nd.del = false then szR r else 0) + liveB f l (i + 1)
def restB (f : Nat → Nat) : List Rec → Nat → Nat
  | [], _ => 0
  | r :: l, i => (if f r.nd.key = i ∧ r.nd.del = false then 0 else szR r) + restB f l (i + 1)
def allB (L : List Rec) : Nat := (L.map szR).sum
theorem liveB_snoc (f : Nat → Nat) : ∀ (l : List Rec) (r : Rec) (i : Nat), liveB f (l ++ [r]) i = liveB f l i + (if f r.nd.key = i + l.length ∧ r.nd.del = false then szR r else 0)
  | [], r, i => by simp [liveB]
  | x :: l, r, i => by
    show _ + liveB f (l ++ [r]) (i + 1) = _ + liveB f l (i + 1) + _
    rw [liveB_snoc f l r (i + 1), List.length_cons, show i + 1 + l.length = i + (l.length + 1) by omega, Nat.add_assoc]
theorem restB_snoc (f : Nat → Nat) : ∀ (l : List Rec) (r : Rec) (i : Nat), restB f (l ++ [r]) i = restB f l i + (if f r.nd.key = i + l.length ∧ r.nd.del = false then 0 else szR r)
  | [], r, i => by simp [restB]
  | x :: l, r, i => by
    show _ + restB f (l ++ [r]) (i + 1) = _ + restB f l (i + 1) + _
    rw [restB_snoc f l r (i + 1), List.length_cons, show i + 1 + l.length = i + (l.length + 1) by omega, Nat.add_assoc]
theorem live_rest (f : Nat → Nat) : ∀ (l : List Rec) (i : Nat), liveB f l i + restB f l i = allB l
  | [], _ => rfl
  | x :: l, i => by
    have ih := live_rest f l (i + 1)
    show (if _ then _ else _) + liveB f l (i + 1) + ((if _ then _ else _) + restB f l (i + 1)) = szR x + allB l
    split <;> omega
theorem allB_le (l : List Rec) : allB l ≤ l.length * 4127 := by
  induction l with
  | nil => exact Nat.le_refl _
  | cons x l ih =>
    have := szN_le x.nd.data.length
    show szR x + allB l ≤ _
    unfold szR
    rw [List.length_cons]; omega
def liveP (L : List Rec) : Nat := liveB (lastI (keysR L)) L 0
def restP (L : List Rec) : Nat := restB (lastI (keysR L)) L 0
def sumI (s : List It) : Nat := (s.map fun x => szN x.size.toNat).sum
theorem sumI_append (s t : List It) : sumI (s ++ t) = sumI s + sumI t := by simp [sumI]
theorem sumI_le (s : List It) : sumI s ≤ s.length * 4127 := by
  induction s with
  | nil => exact Nat.le_refl _
  | cons x l ih =>
    have := szN_le x.size.toNat
    show szN x.size.toNat + sumI l ≤ _
    rw [List.length_cons]; omega
theorem sumI_ins (x : It) : ∀ s : List It, fnd s x.key = none → sumI (ins s x) = sumI s + szN x.size.toNat
  | [], _ => by simp [ins, sumI]
  | y :: s, h => by
    rw [fnd_cons] at h
    by_cases e : y.key = x.key
    · rw [if_pos e] at h; cases h
    · rw [if_neg e] at h
      have ih := sumI_ins x s h
      simp only [ins]
      split
      · show szN y.size.toNat + sumI (ins s x) = szN y.size.toNat + sumI s + _
        omega
      · show szN x.size.toNat + (szN y.size.toNat + sumI s) = szN y.size.toNat + sumI s + _
        omega
theorem live_sum (f : Nat → Nat) (L : List Rec) : ∀ n, n ≤ L.length → sumI (srt (liveT f (L.take n) 0)) = liveB f (L.take n) 0
  | 0, _ => rfl
  | n + 1, h => by
    obtain ⟨r, hr⟩ : ∃ r, L[n]? = some r := ⟨_, List.getElem?_eq_getElem (by omega)⟩
    have ih := live_sum f L n (by omega)
    have hf := fnd_live f L (r.nd.key : Int) n (by omega)
    rw [liveT_take f L n r hr, take_snocR hr, liveB_snoc, List.length_take, Nat.min_eq_left (by omega), Nat.zero_add, ← ih]
    by_cases hc : f r.nd.key = n ∧ r.nd.del = false
    · rw [if_pos hc, if_pos hc, srt_snoc, sumI_ins]
      · rfl
      · show fnd _ (r.nd.key : Int) = none
        rw [hf]; unfold hasF; rw [if_neg (by rw [Int.toNat_natCast]; omega)]
    · rw [if_neg hc, if_neg hc, List.append_nil]; rfl
theorem sum_itemsP (L : List Rec) : sumI (itemsP L) = liveP L := by
  have := live_sum (lastI (keysR L)) L L.length (Nat.le_refl _)
  rwa [List.take_of_length_le (Nat.le_refl _)] at this
theorem live_all (L : List Rec) : liveP L + restP L = allB L := live_rest _ L 0
end Go.Proofs.Ytecflhklpkjhcaa

namespace Go.Proofs.Ytecflhklpkjhcaa
open Go.RowKit Go.Maps

theorem nsizeB (n : Nat) (w : World) : Calls Try.prog 16 #[.int .i64 (n : Int)] w fun e w' => e = .returned (.int .i64 ((szN n : Nat) : Int)) ∧ w = w' := by
  by_cases hn : n ≤ 4096
  · have HS := Lib.hid (show ((szN n : Nat) : Int) = (20 + (n : Int) + 4 + 8 - 1) / 8 * 8 by unfold szN nsz; rw [if_pos hn]; omega)
    have hd : decide ((4096 : Int) < (n : Int)) = false := by simp; omega
    have hd2 : decide ((n : Int) < 0) = false := by simp
    go_enter Try.func16, Try.ntmps16
    go_wp2_with fail
    go_ret
    exact ⟨ret_int (by rw [HS.out]), rfl⟩
  · have HS := Lib.hid (show szN n = 0 by unfold szN; rw [if_neg hn])
    have hd : decide ((4096 : Int) < (n : Int)) = true := by simp; omega
    have hd2 : decide ((n : Int) < 0) = false := by simp
    go_enter Try.func16, Try.ntmps16
    go_wp2_with fail
    go_ret
    exact ⟨ret_int (by rw [HS.out]; rfl), rfl⟩
theorem rsizeB (n : Nat) (w : World) : Calls Try.prog 39 #[.int .i64 (n : Int)] w fun e w' => e = .returned (.int .i64 ((szN n : Nat) : Int)) ∧ w = w' := by
  by_cases hn : n ≤ 4096
  · have HS := Lib.hid (show ((szN n : Nat) : Int) = (20 + (n : Int) + 4 + 8 - 1) / 8 * 8 by unfold szN nsz; rw [if_pos hn]; omega)
    have hd : decide ((4096 : Int) < (n : Int)) = false := by simp; omega
    have hd2 : decide ((n : Int) < 0) = false := by simp
    go_enter Try.func39, Try.ntmps39
    go_wp2_with fail
    go_ret
    exact ⟨ret_int (by rw [HS.out]; omega), rfl⟩
  · have HS := Lib.hid (show szN n = 0 by unfold szN; rw [if_neg hn])
    have hd : decide ((4096 : Int) < (n : Int)) = true := by simp; omega
    have hd2 : decide ((n : Int) < 0) = false := by simp
    go_enter Try.func39, Try.ntmps39
    go_wp2_with fail
    go_ret
    exact ⟨ret_int (by rw [HS.out]; rfl), rfl⟩
set_option maxRecDepth 100000 in
set_option maxHeartbeats 8000000 in
theorem bytes_any (v : Value) (es : List (Rec × Value)) (w : World) (h : RdR w v es) (hk : ∀ p ∈ es, p.1.nd.key < 18446744073709551616) (hs : es.length ≤ 50000) :
    Calls Try.prog 19 #[v] w fun e w' => e = .returned (.tuple #[.int .i64 (liveP (es.map (·.1)) : Int), .int .i64 (restP (es.map (·.1)) : Int)]) ∧ Below w.heap.size w w' := by
  obtain ⟨a, cap, rfl, h1, h2⟩ := h.shape
  have Hw0 := Lib.hid h
  have HK := Lib.hid hk
  have HLa := Lib.hid (last_any _ es w h hk (by omega))
  have HM := Lib.hid (show ∀ j, j < es.length → rat es j ∈ es from fun j => rat_mem)
  have hat0 : ∀ j, j < es.length → (es.map (·.1))[j]? = some (rat es j).1 := fun j hj => by
    unfold rat
    simp [List.getD_eq_getElem?_getD, List.getElem?_eq_getElem hj]
  have HLP := Lib.hid (show liveP (es.map (·.1)) = liveB (lastI (keysR (es.map (·.1)))) (es.map (·.1)) 0 ∧ restP (es.map (·.1)) = restB (lastI (keysR (es.map (·.1)))) (es.map (·.1)) 0 from ⟨rfl, rfl⟩)
  have HBd := Lib.hid (show ∀ j, j ≤ es.length → liveB (lastI (keysR (es.map (·.1)))) ((es.map (·.1)).take j) 0 + restB (lastI (keysR (es.map (·.1)))) ((es.map (·.1)).take j) 0 ≤ 206350000 from fun j hj => by
    rw [live_rest]
    have := allB_le ((es.map (·.1)).take j)
    rw [List.length_take] at this
    omega)
  generalize lastI (keysR (es.map (·.1))) = f at *
  have HS := Lib.hid (show ∀ j, j < es.length → liveB f ((es.map (·.1)).take (j + 1)) 0 = liveB f ((es.map (·.1)).take j) 0 + (if f (rat es j).1.nd.key = j ∧ (rat es j).1.nd.del = false then szR (rat es j).1 else 0) ∧
      restB f ((es.map (·.1)).take (j + 1)) 0 = restB f ((es.map (·.1)).take j) 0 + (if f (rat es j).1.nd.key = j ∧ (rat es j).1.nd.del = false then 0 else szR (rat es j).1) from fun j hj => by
    have hl : (es.map (·.1)).length = es.length := List.length_map ..
    rw [take_snocR (hat0 j hj), liveB_snoc, restB_snoc, List.length_take, Nat.min_eq_left (by omega), Nat.zero_add]
    exact ⟨rfl, rfl⟩)
  have HE := Lib.hid (show (es.map (·.1)).take es.length = es.map (·.1) from List.take_of_length_le (by simp))
  clear hat0
  generalize hn : es.length = n at *
  clear h hk hn
  generalize liveP (es.map (·.1)) = R1 at *
  generalize restP (es.map (·.1)) = R2 at *
  generalize es.map (·.1) = L at *
  go_enter Try.func19, Try.ntmps19
  go_wp2_with fail
  refine HLa.out.mono ?_; rintro e w1 ⟨rfl, hmp, hb1⟩
  have hlt1 : w.heap.size < w1.heap.size := by
    obtain ⟨D, ⟨es', c, hh, _⟩, _⟩ := hmp
    exact (Array.getElem?_eq_some_iff.1 hh).1
  have HMp := Lib.hid hmp
  have HB1 := Lib.hid hb1
  clear hmp hb1 HLa
  go_wp2_with fail
  go_loopw [2, 3, 12] (fun lv gv iv W => ∃ i p q : Nat, iv = .int .i64 (i : Int) ∧ lv = .int .i64 (p : Int) ∧ gv = .int .i64 (q : Int) ∧ i ≤ n ∧ p + q ≤ 206350000 ∧ Hid (p = liveB f (L.take i) 0 ∧ q = restB f (L.take i) 0) ∧ Hid (Below w1.heap.size w1 W)) (fun _ _ iv _ => n - (intOf iv).toNat)
  case atStart => exact ⟨0, 0, 0, by rfl, rfl, rfl, Nat.zero_le _, by omega, Lib.hid ⟨rfl, rfl⟩, Lib.hid (Below.refl _ _)⟩
  case round =>
    obtain ⟨i, p, q, rfl, rfl, rfl, hi, hpq, Hm, HB⟩ := hrel
    have hsz := HB.out.size
    by_cases hin : i < n
    · have hr := Hw0.out.below (bstep HB1.out HB.out)
      obtain ⟨pb, poff, rfl, hd, c0, c1, c2, c3, c4⟩ := hr.at hin
      have hkk := HK.out _ (HM.out i hin)
      have hSi := HS.out i hin
      have hBd := HBd.out (i + 1) (by omega)
      clear hr
      generalize rat es i = X at *
      obtain ⟨⟨off, x⟩, dv⟩ := X
      dsimp only at *
      obtain ⟨da, dc, hdv, _, _⟩ := hd.shape0
      subst hdv
      obtain ⟨D, hD, hat⟩ := HMp.out.below hlt1 HB.out
      have HD := Lib.hid hD
      have HAt := Lib.hid (hat x.key hkk)
      have i1 : (i : Int) < (n : Int) := by omega
      clear hd hD hat
      have hkey : keyOf Try.prog 28 (.int .u64 (x.key : Int)) = some (.int .u64 (x.key : Int)) := keyOf_int_mk Try.underlying28 (wf_key hkk)
      generalize hg : f x.key = g at *
      obtain ⟨xk, xc, xd, xl⟩ := x
      dsimp only at *
      have hzr : szR ⟨off, ⟨xk, xc, xd, xl⟩⟩ = szN xl.length := rfl
      rw [hzr] at hSi
      clear hzr
      generalize hl : xl.length = l at *
      have HZ := Lib.hid (fun W => nsizeB l W)
      have hz := szN_le l
      generalize szN l = z at *
      rw [hSi.1, hSi.2, ← Hm.out.1, ← Hm.out.2] at hBd
      have HSi := Lib.hid hSi
      clear hSi
      have hNB : Below w1.heap.size w1 (wr.alloc (.cells #[.int .i64 off, .int .u64 (xk : Int), .int .u32 (xc : Int), .bool xd, .slice da l dc] 43)) := HB.out.alloc hsz _
      have HNB := Lib.hid hNB
      clear hNB
      by_cases hgi : g = i
      · have q1 : ((g : Int) == (i : Int)) = true := beq_iff_eq.2 (by omega)
        cases xd
        · rw [if_pos ⟨hgi, rfl⟩, if_pos ⟨hgi, rfl⟩] at hBd
          have hN := HSi.out
          rw [if_pos ⟨hgi, rfl⟩, if_pos ⟨hgi, rfl⟩, ← Hm.out.1, ← Hm.out.2] at hN
          have HN := Lib.hid (show p + z = liveB f (L.take (i + 1)) 0 ∧ q = restB f (L.take (i + 1)) 0 from ⟨hN.1.symm, hN.2.symm⟩)
          have hpz : IntKind.i64.wrap ((p : Int) + (z : Int)) = ((p + z : Nat) : Int) := (IntWalk.i64_in _ (by omega)).trans (by omega)
          clear hl hg HSi hgi hN
          go_wp2_with fail
          refine (HZ.out _).mono ?_; rintro e w2 ⟨rfl, rfl⟩
          go_wp2_with (at_lookup; refine wpList_lookup_own_int _ rfl _ _ 83 rfl 28 3 .i64 lawK Try.underlying83 Try.underlying3 (zeroI _) w.heap.size n _ rfl (HD.out.alloc _) _ _ rfl hkey ?_; intro c hat hwc; have hc := hat.symm.trans HAt.out; injection hc with hc; injection hc with _ hc; subst hc; clear hat hwc)
          exact ⟨⟨i + 1, p + z, q, by go_num, rfl, rfl, by omega, by omega, HN, HNB⟩, by simp [intOf]; omega⟩
        · rw [if_neg (fun e => Bool.noConfusion e.2), if_neg (fun e => Bool.noConfusion e.2)] at hBd
          have hN := HSi.out
          rw [if_neg (fun e => Bool.noConfusion e.2), if_neg (fun e => Bool.noConfusion e.2), ← Hm.out.1, ← Hm.out.2] at hN
          have HN := Lib.hid (show p = liveB f (L.take (i + 1)) 0 ∧ q + z = restB f (L.take (i + 1)) 0 from ⟨hN.1.symm, hN.2.symm⟩)
          have hpz : IntKind.i64.wrap ((q : Int) + (z : Int)) = ((q + z : Nat) : Int) := (IntWalk.i64_in _ (by omega)).trans (by omega)
          clear hl hg HSi hgi hN
          go_wp2_with fail
          refine (HZ.out _).mono ?_; rintro e w2 ⟨rfl, rfl⟩
          go_wp2_with (at_lookup; refine wpList_lookup_own_int _ rfl _ _ 83 rfl 28 3 .i64 lawK Try.underlying83 Try.underlying3 (zeroI _) w.heap.size n _ rfl (HD.out.alloc _) _ _ rfl hkey ?_; intro c hat hwc; have hc := hat.symm.trans HAt.out; injection hc with hc; injection hc with _ hc; subst hc; clear hat hwc)
          exact ⟨⟨i + 1, p, q + z, by go_num, rfl, rfl, by omega, by omega, HN, HNB⟩, by simp [intOf]; omega⟩
      · have q1 : ((g : Int) == (i : Int)) = false := beq_eq_false_iff_ne.2 (by omega)
        rw [if_neg (fun e => hgi e.1), if_neg (fun e => hgi e.1)] at hBd
        have hN := HSi.out
        rw [if_neg (fun e => hgi e.1), if_neg (fun e => hgi e.1), ← Hm.out.1, ← Hm.out.2] at hN
        have HN := Lib.hid (show p = liveB f (L.take (i + 1)) 0 ∧ q + z = restB f (L.take (i + 1)) 0 from ⟨hN.1.symm, hN.2.symm⟩)
        have hpz : IntKind.i64.wrap ((q : Int) + (z : Int)) = ((q + z : Nat) : Int) := (IntWalk.i64_in _ (by omega)).trans (by omega)
        clear hl hg HSi hgi hN
        go_wp2_with fail
        refine (HZ.out _).mono ?_; rintro e w2 ⟨rfl, rfl⟩
        go_wp2_with (at_lookup; refine wpList_lookup_own_int _ rfl _ _ 83 rfl 28 3 .i64 lawK Try.underlying83 Try.underlying3 (zeroI _) w.heap.size n _ rfl (HD.out.alloc _) _ _ rfl hkey ?_; intro c hat hwc; have hc := hat.symm.trans HAt.out; injection hc with hc; injection hc with _ hc; subst hc; clear hat hwc)
        exact ⟨⟨i + 1, p, q + z, by go_num, rfl, rfl, by omega, by omega, HN, HNB⟩, by simp [intOf]; omega⟩
    · obtain rfl : i = n := by omega
      have hm := Hm.out
      rw [HE.out] at hm
      go_wp2_with fail
      exact bodyPost_ret (v := .tuple #[.int .i64 (p : Int), .int .i64 (q : Int)]) (by simp [results, Try.results19, go_sem]) rfl ⟨by rw [HLP.out.1, HLP.out.2, ← hm.1, ← hm.2], bstep HB1.out HB.out⟩
end Go.Proofs.Ytecflhklpkjhcaa

namespace Go.Proofs.Ytecflhklpkjhcaa
open Go.RowKit

theorem sms_rd {w w' : World} {lv : Value} {es : List (Nd × Value)} (h : w'.ownsRow w.heap.size 31 4 lv es.length (needsC es)) (hd : ∀ p ∈ es, RdB w p.2 p.1.data) (hb : Below w.heap.size w w') : RdN w' lv es :=
  ⟨own_rd h, fun p hp => RdL.below (hd p hp) hb⟩
theorem sms_ok {es : List (Nd × Value)} {N : List Nd} (h : es.map (·.1) = smallF N) (hN : ∀ x ∈ N, x.Wf) : ∀ p ∈ es, p.1.ok ∧ p.1.Wf := fun p hp => by
  have : p.1 ∈ smallF N := by rw [← h]; exact List.mem_map.2 ⟨p, hp, rfl⟩
  obtain ⟨x, hx, e⟩ := List.mem_map.1 this
  rw [← e]
  exact ⟨sm1_ok x, sm1_wf (hN x (List.mem_of_mem_take hx))⟩
theorem sms_len {es : List (Nd × Value)} {N : List Nd} (h : es.map (·.1) = smallF N) : es.length ≤ 12 := by
  have := congrArg List.length h
  rw [List.length_map] at this
  rw [this]; unfold smallF; rw [List.length_map, List.length_take]; omega
theorem allB_recsOf : ∀ (K : List Nd) (p : Nat), (∀ x ∈ K, x.ok) → allB (recsOf p K) = nsum K
  | [], _, _ => rfl
  | x :: K, p, h => by
    show szR ⟨p, x⟩ + allB (recsOf (p + nsz x.data.length) K) = _
    rw [allB_recsOf K _ (fun y hy => h y (by simp [hy])), nsum_cons]
    show szN x.data.length + _ = _
    rw [szN_of (h x (by simp)).1]
theorem open_whole (K : List Nd) (hk : ∀ x ∈ K, x.ok ∧ x.Wf) : openF (fileB K) = (0, fsup, recsOf 16 K, 16 + nsum K) := by
  have := open_file K [] hk ndec_nil
  rwa [List.append_nil] at this
theorem recs_keys {es : List (Rec × Value)} {K : List Nd} {p : Nat} (h : es.map (·.1) = recsOf p K) (hk : ∀ x ∈ K, x.ok ∧ x.Wf) : ∀ q ∈ es, q.1.nd.key < 18446744073709551616 := fun q hq => by
  have h1 : (es.map (·.1)).map (·.nd) = K := by rw [h]; exact recsOf_nd _ _
  have : q.1.nd ∈ K := by rw [← h1]; exact List.mem_map.2 ⟨_, List.mem_map.2 ⟨q, hq, rfl⟩, rfl⟩
  exact (hk _ this).2.1
theorem recs_len {es : List (Rec × Value)} {K : List Nd} {p : Nat} (h : es.map (·.1) = recsOf p K) : es.length = K.length := by
  have := congrArg List.length h
  rwa [List.length_map, recsOf_length] at this
set_option maxRecDepth 100000 in
set_option maxHeartbeats 2000000 in
theorem sums_walk (v : Value) (ns : List (Nd × Value)) (w : World) (h : RdN w v ns) (hwf : ∀ p ∈ ns, p.1.Wf) :
    Calls Try.prog 7 #[v] w fun e w' => e = .returned (.bool true) ∧ Below w.heap.size w w' := by
  have HSm := Lib.hid (small_any v ns w h hwf)
  have HN := Lib.hid (show ∀ x ∈ ns.map (·.1), x.Wf from fun x hx => by obtain ⟨p, hp, rfl⟩ := List.mem_map.1 hx; exact hwf p hp)
  generalize ns.map (·.1) = N at *
  clear h hwf
  go_enter Try.func7, Try.ntmps7
  go_wp2_with fail
  refine HSm.out.mono ?_; rintro e w1 ⟨kv, es, rfl, hown1, hes, hdat, hb1⟩
  have HFl := Lib.hid (file_any kv es w1 (sms_rd hown1 hdat hb1) (sms_ok hes HN.out) (sms_len hes))
  have HOk := Lib.hid (show ∀ x ∈ es.map (·.1), x.ok ∧ x.Wf from fun x hx => by obtain ⟨p, hp, rfl⟩ := List.mem_map.1 hx; exact sms_ok hes HN.out p hp)
  have hl12 := sms_len hes
  have HB1 := Lib.hid hb1
  have hKl0 : (es.map (·.1)).length ≤ 12 := by rw [List.length_map]; exact hl12
  generalize es.map (·.1) = K at *
  clear hown1 hes hdat hb1 HSm HN hl12
  go_wp2_with fail
  refine HFl.out.mono ?_; rintro e w2 ⟨bv, nv, rfl, hownb, hownn, hb2⟩
  have hle := nsum_le (k := K) (fun x hx => (HOk.out x hx).1)
  have hfl := fileB_length K
  have HTo := Lib.hid (open_any _ (fileB K) w2 hownb.rd (by omega))
  rw [open_whole K HOk.out] at HTo
  obtain ⟨ba, bc, hbv, _⟩ := own_form hownb
  obtain ⟨na, nc, hnv, _⟩ := own_form hownn
  subst hbv hnv
  have HB2 := Lib.hid (bstep HB1.out hb2)
  clear hownb hownn hb2 HFl
  generalize hLB : (fileB K).length = lb at *
  have HA := Lib.hid (allB_recsOf K 16 (fun x hx => (HOk.out x hx).1))
  have HKey := Lib.hid (fun es he => recs_keys (es := es) (K := K) (p := 16) he HOk.out)
  have HLen := Lib.hid (fun es he => recs_len (es := es) (K := K) (p := 16) he)
  have HLA := Lib.hid (live_all (recsOf 16 K))
  generalize recsOf 16 K = L at *
  generalize nsum K = s at *
  have HFl := Lib.hid hfl
  have HLe := Lib.hid hle
  clear HOk hLB hfl hle
  go_wp2_with fail
  refine HTo.out.mono ?_; rintro e w3 ⟨⟨lv, rs, rfl, hown3, hrs⟩, hb3⟩
  have HB3 := Lib.hid (bstep HB2.out hb3)
  have HBa := Lib.hid (HB3.out.alloc HB3.out.size (.cells #[.int .i64 (fsup.slot : Int), .int .i64 (fsup.gen : Int), .int .i64 (fsup.rev : Int)] 37))
  have HBy := Lib.hid (bytes_any lv rs _ (hown3.rd.below ((Below.refl _ _).alloc (Nat.le_refl _) (.cells #[.int .i64 (fsup.slot : Int), .int .i64 (fsup.gen : Int), .int .i64 (fsup.rev : Int)] 37))) (HKey.out rs hrs) (by have := HLen.out rs hrs; omega))
  rw [hrs] at HBy
  obtain ⟨la, lc, hlv, _⟩ := own_form hown3.row
  subst hlv
  clear hown3 hrs hb3 HTo HKey HLen
  go_wp2_with fail
  refine HBy.out.mono ?_; rintro e w4 ⟨rfl, hb4⟩
  have HB4 := Lib.hid (bstep HBa.out hb4)
  have hla := HLA.out
  rw [HA.out] at hla
  clear hb4 HBy HLA HA
  generalize liveP L = p at *
  generalize restP L = q at *
  clear HB3 HBa HB2 HB1
  have hfl := HFl.out
  have hle := HLe.out
  have j1 : IntKind.i64.wrap ((p : Int) + (q : Int)) = (p : Int) + (q : Int) := IntWalk.i64_in _ (by omega)
  have j2 : IntKind.i64.wrap ((p : Int) + (q : Int) + 16) = 16 + (s : Int) := (IntWalk.i64_in _ (by omega)).trans (by omega)
  have e1 : (q : Int) = (s : Int) - (p : Int) := by omega
  have g1 : decide ((0 : Int) ≤ (p : Int)) = true := by simp
  have g2 : decide ((0 : Int) ≤ (q : Int)) = true := by simp
  have g3 : ((16 : Int) + (s : Int) == 16 + (s : Int)) = true := by simp
  have g4 : ((16 : Int) + (s : Int) == (lb : Int)) = true := by rw [beq_iff_eq]; omega
  clear hla hfl hle HFl HLe e1
  go_wp2_with fail
  refine (awake_any _).mono ?_; rintro e w5 ⟨rfl, hb5⟩
  have HX := Lib.hid (bstep HB4.out hb5)
  clear hb5
  go_wp2_with fail
  go_ret
  exact ⟨rfl, HX.out⟩
end Go.Proofs.Ytecflhklpkjhcaa

namespace Go.Proofs.Ytecflhklpkjhcaa
open Go.RowKit

/-- What is salvaged of a file. -/
def salvF (b : List UInt8) : List Rec := salv (b.length + 1) b 16
/-- The search under way. -/
structure AccS (b : List UInt8) (L : List Rec) (es : List (Rec × Value)) (p : Nat) : Prop where
  ex : ∃ f, b.length < p + f ∧ es.map (·.1) ++ salv f b p = L
  le : p ≤ b.length + 16
  n : es.length * 24 ≤ p
theorem AccS.start (b : List UInt8) : AccS b (salvF b) [] 16 := ⟨⟨b.length + 1, by omega, rfl⟩, by omega, by simp⟩
theorem AccS.done {b : List UInt8} {L : List Rec} {p : Nat} {es : List (Rec × Value)} (h : AccS b L es p) (hd : b.length ≤ p) : es.map (·.1) = L := by
  obtain ⟨f, _, h1⟩ := h.ex
  rw [salv_end hd] at h1
  simpa using h1
theorem AccS.miss {b : List UInt8} {L : List Rec} {p : Nat} {es : List (Rec × Value)} (h : AccS b L es p) (hp : p < b.length) (hd : (ndec (b.drop p)).1 ≠ 0) : AccS b L es (p + 8) := by
  obtain ⟨f, h0, h1⟩ := h.ex
  obtain ⟨g, rfl⟩ : ∃ g, f = g + 1 := ⟨f - 1, by omega⟩
  rw [salv_miss hp hd] at h1
  exact ⟨⟨g, by omega, h1⟩, by omega, by have := h.n; omega⟩
theorem AccS.hit {b : List UInt8} {L : List Rec} {p : Nat} {es : List (Rec × Value)} (h : AccS b L es p) (hp : p < b.length) (hd : (ndec (b.drop p)).1 = 0) (v : Value) : AccS b L (es ++ [(⟨p, (ndec (b.drop p)).2.1⟩, v)]) (p + (ndec (b.drop p)).2.2) := by
  obtain ⟨f, h0, h1⟩ := h.ex
  have hs := ndec_size hd
  rw [List.length_drop] at hs
  have hn := h.n
  obtain ⟨g, rfl⟩ : ∃ g, f = g + 1 := ⟨f - 1, by omega⟩
  rw [salv_hit hp hd] at h1
  refine ⟨⟨g, by omega, ?_⟩, by omega, by rw [List.length_append]; simp; omega⟩
  rw [← h1]; simp
set_option maxRecDepth 100000 in
set_option maxHeartbeats 4000000 in
theorem salvage_any (v : Value) (b : List UInt8) (w : World) (h : RdB w v b) (hs : b.length ≤ 1000000) : Calls Try.prog 25 #[v] w fun e w' =>
    (∃ lv es, e = .returned lv ∧ OwnR w' w.heap.size 43 lv es ∧ es.map (·.1) = salvF b) ∧ Below w.heap.size w w' := by
  obtain ⟨a, cap, rfl, h1, h2⟩ := h.shape0
  have h3 := lt63 h1 h2
  have Hw0 := Lib.hid h
  clear h
  have HA := Lib.hid (AccS.start b)
  generalize salvF b = L at *
  go_enter Try.func25, Try.ntmps25
  go_wp2_with fail
  go_loopw [3, 4] (fun lv pv W => ∃ (es : List (Rec × Value)) (p : Nat), pv = .int .i64 (p : Int) ∧ Hid (OwnR W w.heap.size 43 lv es) ∧ Hid (AccS b L es p) ∧ Hid (Below w.heap.size w W)) (fun _ pv _ => b.length + 16 - (intOf pv).toNat)
  case atStart => exact ⟨[], 16, rfl, Lib.hid (OwnR.nil _ _ _), HA, Lib.hid (Below.refl _ _)⟩
  case round =>
    obtain ⟨es, p, rfl, HO, HAc, HBl⟩ := hrel
    by_cases hp : p < b.length
    · have i1 : (p : Int) < (b.length : Int) := by omega
      obtain ⟨x1, y1, g1, r1⟩ := RdL.from_ (P := Try.prog) elemB (RdL.below Hw0.out HBl.out) p (by omega)
      have HN := Lib.hid (ndecode_any _ _ _ r1 (by rw [List.length_drop]; omega))
      clear r1
      go_wp2_with fail
      refine HN.out.mono ?_; rintro e w2 ⟨⟨dv, rfl, hown⟩, hb2⟩
      have HO2 := Lib.hid (HO.out.keep hb2)
      have hs2 : w.heap.size ≤ w2.heap.size := Nat.le_trans HBl.out.size hb2.size
      have hsr : w.heap.size ≤ wr.heap.size := HBl.out.size
      have HBl2 := Lib.hid (bstep HBl.out hb2)
      have HSz := Lib.hid (fun h => ndec_size (b := b.drop p) h)
      clear HN HO HBl hb2
      by_cases hd : (ndec (b.drop p)).1 = 0
      · have HS := Lib.hid (HAc.out.hit hp hd)
        have hz := HSz.out hd
        rw [List.length_drop] at hz
        clear HSz
        have hn := HAc.out.n
        generalize ndec (b.drop p) = D at *
        obtain ⟨r, x, n⟩ := D
        dsimp only at hd hown hz HS
        subst hd
        obtain ⟨oa, oc, hv, _⟩ := own_form hown
        subst hv
        have HDt := Lib.hid (World.ownsRow.mono (show OwnB w2 wr.heap.size (.slice oa x.data.length oc) x.data from hown) hsr)
        have hpn : IntKind.i64.wrap ((p : Int) + (n : Int)) = ((p + n : Nat) : Int) := (IntWalk.i64_in _ (by omega)).trans (by omega)
        obtain ⟨la, lc, hv, _⟩ := own_form HO2.out.row
        subst hv
        clear hown
        have HBV := Lib.hid (show Below w2.heap.size w2 ((w2.alloc (.cells #[.int .u64 (x.key : Int), .int .u32 (x.ck : Int), .bool x.del, .slice oa x.data.length oc] 31)).alloc (.cells (recC (⟨(p : Int), x⟩, .slice oa x.data.length oc)).toArray 43)) from ((Below.refl _ _).alloc (Nat.le_refl _) _).alloc (by simp) _)
        go_wp2_with (at_builtin; go_must (refine wpList_app (m := 1) rfl (.tmp 24) (.tmp 28) 38 rfl elemR w.heap.size rfl (own_keep HO2.out.row (((Below.refl _ _).alloc (Nat.le_refl _) _).alloc (by simp) _)) (by rfl) (Rd.newK (w2.heap.size + 1) (w2.alloc (.cells #[.int .u64 (x.key : Int), .int .u32 (x.ck : Int), .bool x.del, .slice oa x.data.length oc] 31)) (by simp) 5 (recC (⟨p, x⟩, .slice oa x.data.length oc)) 43 1 rfl (by decide)) (rec_one _ _ _ _) (by unfold maxLen; omega) (by omega) (by simp; omega) ?_); intro v4 w4 hown4 hgr4 hv4; clear hv4)
        have HG := Lib.hid (show World.grownBy ((w2.alloc (.cells #[.int .u64 (x.key : Int), .int .u32 (x.ck : Int), .bool x.del, .slice oa x.data.length oc] 31)).alloc (.cells (recC (⟨(p : Int), x⟩, .slice oa x.data.length oc)).toArray 43)) w4 (Value.slice la es.length lc).ownBlock from hgr4)
        clear hgr4
        generalize (w2.alloc (.cells #[.int .u64 (x.key : Int), .int .u32 (x.ck : Int), .bool x.del, .slice oa x.data.length oc] 31)).alloc (.cells (recC (⟨(p : Int), x⟩, .slice oa x.data.length oc)).toArray 43) = V at HBV HG
        have hsV : w.heap.size ≤ V.heap.size := Nat.le_trans hs2 HBV.out.size
        have hb4 := own_below (Below.refl w.heap.size V) (HO2.out.keep HBV.out).row hsV HG.out
        have HBl4 := Lib.hid (HBl2.out.trans ((HBV.out.mono (by omega)).trans hb4))
        have HO4 := Lib.hid ((HO2.out.keep HBV.out).snoc (q := (⟨(p : Int), x⟩, .slice oa x.data.length oc)) (own_keep HDt.out HBV.out) (by decide) hown4 HG.out)
        have HAc4 := Lib.hid (HS.out (.slice oa x.data.length oc))
        clear hown4
        go_wp2_with fail
        exact ⟨⟨_, p + n, by rw [Int.natCast_add], HO4, HAc4, HBl4⟩, by simp [intOf]; omega⟩
      · have HAm := Lib.hid (HAc.out.miss hp hd)
        have hd' : ((ndec (b.drop p)).1 != 0) = true := bne_iff_ne.2 hd
        have hp8 : IntKind.i64.wrap ((p : Int) + 8) = ((p + 8 : Nat) : Int) := (IntWalk.i64_in _ (by omega)).trans (by omega)
        clear HSz
        generalize ndec (b.drop p) = D at *
        obtain ⟨r, x, n⟩ := D
        dsimp only at hd hown hd'
        obtain ⟨oa, oc, hv, _⟩ := own_form hown
        subst hv
        clear hown
        have HBV := Lib.hid (show Below w2.heap.size w2 (w2.alloc (.cells #[.int .u64 (x.key : Int), .int .u32 (x.ck : Int), .bool x.del, .slice oa x.data.length oc] 31)) from (Below.refl _ _).alloc (Nat.le_refl _) _)
        go_wp2_with fail
        exact ⟨⟨es, p + 8, by rw [Int.natCast_add]; rfl, Lib.hid (HO2.out.keep HBV.out), HAm, Lib.hid (bstep HBl2.out HBV.out)⟩, by simp [intOf]; omega⟩
    · have i1 : ¬ (p : Int) < (b.length : Int) := by omega
      have HL := Lib.hid (HAc.out.done (by omega))
      go_wp2_with fail
      go_ret
      exact ⟨⟨_, rfl, es, HO.out, HL.out⟩, HBl.out⟩
set_option maxRecDepth 100000 in
set_option maxHeartbeats 4000000 in
theorem rsalvage_any (v : Value) (b : List UInt8) (w : World) (h : RdB w v b) (hs : b.length ≤ 1000000) : Calls Try.prog 26 #[v] w fun e w' =>
    (∃ lv es, e = .returned lv ∧ OwnR w' w.heap.size 88 lv es ∧ es.map (·.1) = salvF b) ∧ Below w.heap.size w w' := by
  obtain ⟨a, cap, rfl, h1, h2⟩ := h.shape0
  have h3 := lt63 h1 h2
  have Hw0 := Lib.hid h
  clear h
  have HA := Lib.hid (AccS.start b)
  generalize salvF b = L at *
  go_enter Try.func26, Try.ntmps26
  go_wp2_with fail
  go_loopw [3, 4] (fun lv pv W => ∃ (es : List (Rec × Value)) (p : Nat), pv = .int .i64 (p : Int) ∧ Hid (OwnR W w.heap.size 88 lv es) ∧ Hid (AccS b L es p) ∧ Hid (Below w.heap.size w W)) (fun _ pv _ => b.length + 16 - (intOf pv).toNat)
  case atStart => exact ⟨[], 16, rfl, Lib.hid (OwnR.nil _ _ _), HA, Lib.hid (Below.refl _ _)⟩
  case round =>
    obtain ⟨es, p, rfl, HO, HAc, HBl⟩ := hrel
    by_cases hp : p < b.length
    · have i1 : (p : Int) < (b.length : Int) := by omega
      obtain ⟨x1, y1, g1, r1⟩ := RdL.from_ (P := Try.prog) elemB (RdL.below Hw0.out HBl.out) p (by omega)
      have HN := Lib.hid (rdecode_any _ _ _ r1 (by rw [List.length_drop]; omega))
      clear r1
      go_wp2_with fail
      refine HN.out.mono ?_; rintro e w2 ⟨⟨dv, rfl, hown⟩, hb2⟩
      have HO2 := Lib.hid (HO.out.keep hb2)
      have hs2 : w.heap.size ≤ w2.heap.size := Nat.le_trans HBl.out.size hb2.size
      have hsr : w.heap.size ≤ wr.heap.size := HBl.out.size
      have HBl2 := Lib.hid (bstep HBl.out hb2)
      have HSz := Lib.hid (fun h => ndec_size (b := b.drop p) h)
      clear HN HO HBl hb2
      by_cases hd : (ndec (b.drop p)).1 = 0
      · have HS := Lib.hid (HAc.out.hit hp hd)
        have hz := HSz.out hd
        rw [List.length_drop] at hz
        clear HSz
        have hn := HAc.out.n
        generalize ndec (b.drop p) = D at *
        obtain ⟨r, x, n⟩ := D
        dsimp only at hd hown hz HS
        subst hd
        obtain ⟨oa, oc, hv, _⟩ := own_form hown
        subst hv
        have HDt := Lib.hid (World.ownsRow.mono (show OwnB w2 wr.heap.size (.slice oa x.data.length oc) x.data from hown) hsr)
        have hpn : IntKind.i64.wrap ((p : Int) + (n : Int)) = ((p + n : Nat) : Int) := (IntWalk.i64_in _ (by omega)).trans (by omega)
        obtain ⟨la, lc, hv, _⟩ := own_form HO2.out.row
        subst hv
        clear hown
        have HBV := Lib.hid (show Below w2.heap.size w2 ((w2.alloc (.cells #[.int .u64 (x.key : Int), .int .u32 (x.ck : Int), .bool x.del, .slice oa x.data.length oc] 31)).alloc (.cells (recC (⟨(p : Int), x⟩, .slice oa x.data.length oc)).toArray 88)) from ((Below.refl _ _).alloc (Nat.le_refl _) _).alloc (by simp) _)
        go_wp2_with (at_builtin; go_must (refine wpList_app (m := 1) rfl (.tmp 24) (.tmp 28) 52 rfl elemRR w.heap.size rfl (own_keep HO2.out.row (((Below.refl _ _).alloc (Nat.le_refl _) _).alloc (by simp) _)) (by rfl) (Rd.newK (w2.heap.size + 1) (w2.alloc (.cells #[.int .u64 (x.key : Int), .int .u32 (x.ck : Int), .bool x.del, .slice oa x.data.length oc] 31)) (by simp) 5 (recC (⟨p, x⟩, .slice oa x.data.length oc)) 88 1 rfl (by decide)) (rec_one _ _ _ _) (by unfold maxLen; omega) (by omega) (by simp; omega) ?_); intro v4 w4 hown4 hgr4 hv4; clear hv4)
        have HG := Lib.hid (show World.grownBy ((w2.alloc (.cells #[.int .u64 (x.key : Int), .int .u32 (x.ck : Int), .bool x.del, .slice oa x.data.length oc] 31)).alloc (.cells (recC (⟨(p : Int), x⟩, .slice oa x.data.length oc)).toArray 88)) w4 (Value.slice la es.length lc).ownBlock from hgr4)
        clear hgr4
        generalize (w2.alloc (.cells #[.int .u64 (x.key : Int), .int .u32 (x.ck : Int), .bool x.del, .slice oa x.data.length oc] 31)).alloc (.cells (recC (⟨(p : Int), x⟩, .slice oa x.data.length oc)).toArray 88) = V at HBV HG
        have hsV : w.heap.size ≤ V.heap.size := Nat.le_trans hs2 HBV.out.size
        have hb4 := own_below (Below.refl w.heap.size V) (HO2.out.keep HBV.out).row hsV HG.out
        have HBl4 := Lib.hid (HBl2.out.trans ((HBV.out.mono (by omega)).trans hb4))
        have HO4 := Lib.hid ((HO2.out.keep HBV.out).snoc (q := (⟨(p : Int), x⟩, .slice oa x.data.length oc)) (own_keep HDt.out HBV.out) (by decide) hown4 HG.out)
        have HAc4 := Lib.hid (HS.out (.slice oa x.data.length oc))
        clear hown4
        go_wp2_with fail
        exact ⟨⟨_, p + n, by rw [Int.natCast_add], HO4, HAc4, HBl4⟩, by simp [intOf]; omega⟩
      · have HAm := Lib.hid (HAc.out.miss hp hd)
        have hd' : ((ndec (b.drop p)).1 != 0) = true := bne_iff_ne.2 hd
        have hp8 : IntKind.i64.wrap ((p : Int) + 8) = ((p + 8 : Nat) : Int) := (IntWalk.i64_in _ (by omega)).trans (by omega)
        clear HSz
        generalize ndec (b.drop p) = D at *
        obtain ⟨r, x, n⟩ := D
        dsimp only at hd hown hd'
        obtain ⟨oa, oc, hv, _⟩ := own_form hown
        subst hv
        clear hown
        have HBV := Lib.hid (show Below w2.heap.size w2 (w2.alloc (.cells #[.int .u64 (x.key : Int), .int .u32 (x.ck : Int), .bool x.del, .slice oa x.data.length oc] 31)) from (Below.refl _ _).alloc (Nat.le_refl _) _)
        go_wp2_with fail
        exact ⟨⟨es, p + 8, by rw [Int.natCast_add]; rfl, Lib.hid (HO2.out.keep HBV.out), HAm, Lib.hid (bstep HBl2.out HBV.out)⟩, by simp [intOf]; omega⟩
    · have i1 : ¬ (p : Int) < (b.length : Int) := by omega
      have HL := Lib.hid (HAc.out.done (by omega))
      go_wp2_with fail
      go_ret
      exact ⟨⟨_, rfl, es, HO.out, HL.out⟩, HBl.out⟩
end Go.Proofs.Ytecflhklpkjhcaa

namespace Go.Proofs.Ytecflhklpkjhcaa
open Go.RowKit

set_option maxRecDepth 100000 in
set_option maxHeartbeats 4000000 in
theorem records_any (v : Value) (b : List UInt8) (w : World) (h : RdB w v b) (hs : b.length ≤ 1000000) (h16 : 16 ≤ b.length) : Calls Try.prog 38 #[v, .int .i64 16] w fun e w' =>
    (∃ lv es, e = .returned (.tuple #[lv, .int .i64 ((recs (b.length + 1) b 16).2 : Int)]) ∧ OwnR w' w.heap.size 88 lv es ∧ es.map (·.1) = (recs (b.length + 1) b 16).1) ∧ Below w.heap.size w w' := by
  obtain ⟨a, cap, rfl, h1, h2⟩ := h.shape0
  have h3 := lt63 h1 h2
  have Hw0 := Lib.hid h
  clear h
  have HA := Lib.hid (Acc.start h16)
  generalize (recs (b.length + 1) b 16).1 = L at *
  generalize (recs (b.length + 1) b 16).2 = E at *
  go_enter Try.func38, Try.ntmps38
  go_wp2_with fail
  go_loopw [6, 1] (fun lv pv W => ∃ (es : List (Rec × Value)) (p : Nat), pv = .int .i64 (p : Int) ∧ Hid (OwnR W w.heap.size 88 lv es) ∧ Hid (Acc b L E es p) ∧ Hid (Below w.heap.size w W)) (fun _ pv _ => b.length + 1 - (intOf pv).toNat)
  case atStart => exact ⟨[], 16, rfl, Lib.hid (OwnR.nil _ _ _), HA, Lib.hid (Below.refl _ _)⟩
  case round =>
    obtain ⟨es, p, rfl, HO, HAc, HBl⟩ := hrel
    have hp := HAc.out.le
    have i1 : (p : Int) ≤ (b.length : Int) := by omega
    obtain ⟨x1, y1, g1, r1⟩ := RdL.from_ (P := Try.prog) elemB (RdL.below Hw0.out HBl.out) p (by omega)
    have HN := Lib.hid (rdecode_any _ _ _ r1 (by rw [List.length_drop]; omega))
    clear r1
    go_wp2_with fail
    refine HN.out.mono ?_; rintro e w2 ⟨⟨dv, rfl, hown⟩, hb2⟩
    have HO2 := Lib.hid (HO.out.keep hb2)
    have hs2 : w.heap.size ≤ w2.heap.size := Nat.le_trans HBl.out.size hb2.size
    have hsr : w.heap.size ≤ wr.heap.size := HBl.out.size
    have HBl2 := Lib.hid (bstep HBl.out hb2)
    have HSz := Lib.hid (fun h => ndec_size (b := b.drop p) h)
    clear HN HO HBl hb2
    by_cases hd : (ndec (b.drop p)).1 = 0
    · have HS := Lib.hid (HAc.out.step hd)
      have hz := HSz.out hd
      rw [List.length_drop] at hz
      clear HSz
      have hn := HAc.out.n
      generalize ndec (b.drop p) = D at *
      obtain ⟨r, x, n⟩ := D
      dsimp only at hd hown hz HS
      subst hd
      obtain ⟨oa, oc, hv, _⟩ := own_form hown
      subst hv
      have HDt := Lib.hid (World.ownsRow.mono (show OwnB w2 wr.heap.size (.slice oa x.data.length oc) x.data from hown) hsr)
      have hpn : IntKind.i64.wrap ((p : Int) + (n : Int)) = ((p + n : Nat) : Int) := (IntWalk.i64_in _ (by omega)).trans (by omega)
      obtain ⟨la, lc, hv, _⟩ := own_form HO2.out.row
      subst hv
      clear hown
      have HBV := Lib.hid (show Below w2.heap.size w2 ((w2.alloc (.cells #[.int .u64 (x.key : Int), .int .u32 (x.ck : Int), .bool x.del, .slice oa x.data.length oc] 31)).alloc (.cells (recC (⟨(p : Int), x⟩, .slice oa x.data.length oc)).toArray 88)) from ((Below.refl _ _).alloc (Nat.le_refl _) _).alloc (by simp) _)
      go_wp2_with (at_builtin; go_must (refine wpList_app (m := 1) rfl (.tmp 24) (.tmp 28) 52 rfl elemRR w.heap.size rfl (own_keep HO2.out.row (((Below.refl _ _).alloc (Nat.le_refl _) _).alloc (by simp) _)) (by rfl) (Rd.newK (w2.heap.size + 1) (w2.alloc (.cells #[.int .u64 (x.key : Int), .int .u32 (x.ck : Int), .bool x.del, .slice oa x.data.length oc] 31)) (by simp) 5 (recC (⟨p, x⟩, .slice oa x.data.length oc)) 88 1 rfl (by decide)) (rec_one _ _ _ _) (by unfold maxLen; omega) (by omega) (by simp; omega) ?_); intro v4 w4 hown4 hgr4 hv4; clear hv4)
      have HG := Lib.hid (show World.grownBy ((w2.alloc (.cells #[.int .u64 (x.key : Int), .int .u32 (x.ck : Int), .bool x.del, .slice oa x.data.length oc] 31)).alloc (.cells (recC (⟨(p : Int), x⟩, .slice oa x.data.length oc)).toArray 88)) w4 (Value.slice la es.length lc).ownBlock from hgr4)
      clear hgr4
      generalize (w2.alloc (.cells #[.int .u64 (x.key : Int), .int .u32 (x.ck : Int), .bool x.del, .slice oa x.data.length oc] 31)).alloc (.cells (recC (⟨(p : Int), x⟩, .slice oa x.data.length oc)).toArray 88) = V at HBV HG
      have hsV : w.heap.size ≤ V.heap.size := Nat.le_trans hs2 HBV.out.size
      have hb4 := own_below (Below.refl w.heap.size V) (HO2.out.keep HBV.out).row hsV HG.out
      have HBl4 := Lib.hid (HBl2.out.trans ((HBV.out.mono (by omega)).trans hb4))
      have HO4 := Lib.hid ((HO2.out.keep HBV.out).snoc (q := (⟨(p : Int), x⟩, .slice oa x.data.length oc)) (own_keep HDt.out HBV.out) (by decide) hown4 HG.out)
      have HAc4 := Lib.hid (HS.out (.slice oa x.data.length oc))
      clear hown4
      go_wp2_with fail
      exact ⟨⟨_, p + n, by rw [Int.natCast_add], HO4, HAc4, HBl4⟩, by simp [intOf]; omega⟩
    · obtain ⟨HL, HE⟩ := HAc.out.done hd
      have hd' : ((ndec (b.drop p)).1 != 0) = true := bne_iff_ne.2 hd
      clear HSz
      generalize ndec (b.drop p) = D at *
      obtain ⟨r, x, n⟩ := D
      dsimp only at hd hown hd'
      obtain ⟨oa, oc, hv, _⟩ := own_form hown
      subst hv
      clear hown
      have HBV := Lib.hid (show Below w2.heap.size w2 (w2.alloc (.cells #[.int .u64 (x.key : Int), .int .u32 (x.ck : Int), .bool x.del, .slice oa x.data.length oc] 31)) from (Below.refl _ _).alloc (Nat.le_refl _) _)
      have HL := Lib.hid HL
      subst HE
      go_wp2_with fail
      exact bodyPost_ret (v := .tuple #[u6, .int .i64 (p : Int)]) (by simp [results, Try.results38, go_sem]) rfl ⟨⟨_, es, rfl, HO2.out.keep HBV.out, HL.out⟩, bstep HBl2.out HBV.out⟩
set_option maxRecDepth 100000 in
set_option maxHeartbeats 4000000 in
theorem ropen_any (v : Value) (b : List UInt8) (w : World) (h : RdB w v b) (hs : b.length ≤ 1000000) : Calls Try.prog 18 #[v] w fun e w' =>
    (∃ lv es, e = .returned (.tuple #[supV (openF b).2.1, lv, .int .i64 ((openF b).2.2.2 : Int), .int .i64 (openF b).1]) ∧ OwnR w' w.heap.size 88 lv es ∧ es.map (·.1) = (openF b).2.2.1) ∧ Below w.heap.size w w' := by
  obtain ⟨a, cap, rfl, h1, h2⟩ := h.shape0
  have h3 := lt63 h1 h2
  have Hw0 := Lib.hid h
  have HBZ := Lib.hid (show Below w.heap.size w (w.alloc zeroS) from (Below.refl _ _).alloc (Nat.le_refl _) _)
  have HD := Lib.hid (fun W h => rsdecode_any (.slice a b.length cap) b W h hs)
  clear h
  by_cases h0 : (sdec b).1 = 0
  · have HF := Lib.hid (show openF b = (0, (sdec b).2, (recs (b.length + 1) b 16).1, (recs (b.length + 1) b 16).2) by unfold openF; rw [if_pos h0])
    have HR := Lib.hid (fun W h => records_any (.slice a b.length cap) b W h hs (sdec_long h0))
    generalize (recs (b.length + 1) b 16).1 = L at *
    generalize (recs (b.length + 1) b 16).2 = E at *
    go_enter Try.func18, Try.ntmps18
    go_wp2_with fail
    refine (HD.out _ (RdL.below Hw0.out HBZ.out)).mono ?_; rintro e w1 ⟨rfl, hb1⟩
    have Z0 : w1.cell? ⟨w.heap.size, 0, none⟩ = some (.int .i64 0) := Below.keeps hb1 _ _ (by simp)
    have Z1 : w1.cell? ⟨w.heap.size, 1, none⟩ = some (.int .i64 0) := Below.keeps hb1 _ _ (by simp)
    have Z2 : w1.cell? ⟨w.heap.size, 2, none⟩ = some (.int .i64 0) := Below.keeps hb1 _ _ (by simp)
    have ZF := fun i => (hb1.frozen (p := ⟨w.heap.size, i, none⟩) (by simp)).trans (show (w.alloc zeroS).frozen? ⟨w.heap.size, i, none⟩ = false by simp)
    have HBx := Lib.hid (show BoxS w1 w.heap.size sup0 from ⟨Z0, Z1, Z2, ZF⟩)
    have HB1 := Lib.hid (bstep HBZ.out hb1)
    have hk1 : w.heap.size < w1.heap.size := World.block_lt_of_cell? _ _ Z0
    clear hb1 Z0 Z1 Z2 ZF
    generalize sdec b = R at *
    obtain ⟨r, s⟩ := R
    dsimp only at h0 HF
    subst h0
    have HBa := Lib.hid (show Below w1.heap.size w1 (w1.alloc (.cells #[.int .i64 (s.slot : Int), .int .i64 (s.gen : Int), .int .i64 (s.rev : Int)] 37)) from (Below.refl _ _).alloc (Nat.le_refl _) _)
    have HR1 := Lib.hid (RdL.below Hw0.out (bstep HB1.out HBa.out))
    go_wp2_with fail
    refine (HR.out _ HR1.out).mono ?_; rintro e w2 ⟨⟨lv, es, rfl, hown, hes⟩, hb2⟩
    have HB2 := Lib.hid (bstep (bstep HB1.out HBa.out) hb2)
    have HO2 := Lib.hid (hown.lower (show w.heap.size + 1 ≤ _ from Nat.le_trans hk1 HBa.out.size))
    have HBx2 := Lib.hid ((HBx.out.keep hk1 HBa.out (Nat.le_refl _)).keep (Nat.lt_of_lt_of_le hk1 HBa.out.size) hb2 (Nat.le_refl _))
    have S0 : w2.cell? ⟨w1.heap.size, 0, none⟩ = some (.int .i64 (s.slot : Int)) := Below.keeps hb2 _ _ (by simp)
    have S1 : w2.cell? ⟨w1.heap.size, 1, none⟩ = some (.int .i64 (s.gen : Int)) := Below.keeps hb2 _ _ (by simp)
    have S2 : w2.cell? ⟨w1.heap.size, 2, none⟩ = some (.int .i64 (s.rev : Int)) := Below.keeps hb2 _ _ (by simp)
    have X0 := HBx2.out.c0
    have X1 := HBx2.out.c1
    have X2 := HBx2.out.c2
    have F0 := HBx2.out.f 0
    have F1 := HBx2.out.f 1
    have F2 := HBx2.out.f 2
    have Hes := Lib.hid hes
    clear hes hb2 hown HR HD
    obtain ⟨la, lc, hv, _⟩ := own_form HO2.out.row
    subst hv
    go_wp2_with fail
    have hby := HBx2.out.set s
    have Y0 := hby.c0
    have Y1 := hby.c1
    have Y2 := hby.c2
    have HRR := Lib.hid (((HO2.out.set (p := ⟨w.heap.size, 0, none⟩) (Nat.lt_succ_self _) (.int .i64 (s.slot : Int))).set (p := ⟨w.heap.size, 1, none⟩) (Nat.lt_succ_self _) (.int .i64 (s.gen : Int))).set (p := ⟨w.heap.size, 2, none⟩) (Nat.lt_succ_self _) (.int .i64 (s.rev : Int)))
    exact bodyPost_ret (v := .tuple #[supV s, .slice la es.length lc, .int .i64 (E : Int), .int .i64 0]) (by simp [results, Try.results18, go_sem, Y0, Y1, Y2]) rfl ⟨⟨_, es, by rw [HF.out], HRR.out.lower (Nat.le_succ _), Hes.out.trans (by rw [HF.out])⟩, ((HB2.out.setCell (Nat.le_refl _) _).setCell (Nat.le_refl _) _).setCell (Nat.le_refl _) _⟩
  · have HF := Lib.hid (show openF b = ((sdec b).1, sup0, [], 0) by unfold openF; rw [if_neg h0])
    have HS := Lib.hid (sdec_bad h0)
    generalize openF b = R at *
    have hd : ((sdec b).1 != 0) = true := bne_iff_ne.2 h0
    go_enter Try.func18, Try.ntmps18
    go_wp2_with fail
    refine (HD.out _ (RdL.below Hw0.out HBZ.out)).mono ?_; rintro e w1 ⟨rfl, hb1⟩
    have Z0 : w1.cell? ⟨w.heap.size, 0, none⟩ = some (.int .i64 0) := Below.keeps hb1 _ _ (by simp)
    have Z1 : w1.cell? ⟨w.heap.size, 1, none⟩ = some (.int .i64 0) := Below.keeps hb1 _ _ (by simp)
    have Z2 : w1.cell? ⟨w.heap.size, 2, none⟩ = some (.int .i64 0) := Below.keeps hb1 _ _ (by simp)
    have ZF := fun i => (hb1.frozen (p := ⟨w.heap.size, i, none⟩) (by simp)).trans (show (w.alloc zeroS).frozen? ⟨w.heap.size, i, none⟩ = false by simp)
    have HB1 := Lib.hid (bstep HBZ.out hb1)
    have HBx := Lib.hid (show BoxS w1 w.heap.size sup0 from ⟨Z0, Z1, Z2, ZF⟩)
    have hk1 : w.heap.size < w1.heap.size := World.block_lt_of_cell? _ _ Z0
    clear hb1 Z0 Z1 Z2 ZF
    generalize sdec b = R' at *
    obtain ⟨r, s⟩ := R'
    dsimp only at h0 hd HF HS
    obtain ⟨w2, hw2⟩ : ∃ w2, w1.alloc (.cells #[.int .i64 (s.slot : Int), .int .i64 (s.gen : Int), .int .i64 (s.rev : Int)] 37) = w2 := ⟨_, rfl⟩
    have HBa := Lib.hid (show Below w1.heap.size w1 w2 from hw2 ▸ (Below.refl _ _).alloc (Nat.le_refl _) _)
    have HBx2 := Lib.hid (HBx.out.keep hk1 HBa.out (Nat.le_refl _))
    have X0 := HBx2.out.c0
    have X1 := HBx2.out.c1
    have X2 := HBx2.out.c2
    have F0 := HBx2.out.f 0
    have F1 := HBx2.out.f 1
    have F2 := HBx2.out.f 2
    go_wp2_with fail
    have hby := HBx2.out.set sup0
    have Y0 := hby.c0
    have Y1 := hby.c1
    have Y2 := hby.c2
    simp only [sup0, show ((0 : Nat) : Int) = 0 from rfl] at Y0 Y1 Y2
    exact bodyPost_ret (v := .tuple #[supV sup0, .slice none 0 0, .int .i64 0, .int .i64 r]) (by simp [results, Try.results18, go_sem, sup0, Y0, Y1, Y2]) rfl ⟨⟨.slice none 0 0, [], by rw [HF.out]; rfl, OwnR.nil _ _ _, by rw [HF.out]; rfl⟩, (((bstep HB1.out HBa.out).setCell (Nat.le_refl _) _).setCell (Nat.le_refl _) _).setCell (Nat.le_refl _) _⟩
end Go.Proofs.Ytecflhklpkjhcaa

namespace Go.Proofs.Ytecflhklpkjhcaa
open Go.RowKit

theorem recsC_take (es : List (Rec × Value)) {j : Nat} (h : j < es.length) : recsC (es.take (j + 1)) = recsC (es.take j) ++ recC (rat es j) := by
  have : es.take (j + 1) = es.take j ++ [rat es j] := by
    rw [List.take_add_one, List.getElem?_eq_getElem h]; unfold rat; rw [List.getD_eq_getElem?_getD, List.getElem?_eq_getElem h]; rfl
  rw [this, recsC_snoc]
theorem recsC_one (es : List (Rec × Value)) (w : World) (h : ∀ p ∈ es, RdB w p.2 p.1.nd.data) : ∀ u ∈ recsC es, u.oneCell' = true := by
  intro u hu
  obtain ⟨p, hp, hu⟩ := List.mem_flatMap.1 hu
  obtain ⟨a, c, hv, _⟩ := (h p hp).shape0
  obtain ⟨r, v⟩ := p
  dsimp only at hv hu
  subst hv
  exact rec_one r _ _ _ u hu
theorem rat_eq {xs bs : List (Rec × Value)} (h : xs.map (·.1) = bs.map (·.1)) (j : Nat) : (rat xs j).1 = (rat bs j).1 := by
  have e : ∀ es : List (Rec × Value), (rat es j).1 = (es.map (·.1)).getD j ⟨0, nd0⟩ := fun es => by
    unfold rat
    rw [List.getD_eq_getElem?_getD, List.getD_eq_getElem?_getD, List.getElem?_map]
    cases es[j]? <;> rfl
  rw [e, e, h]
set_option maxRecDepth 100000 in
set_option maxHeartbeats 4000000 in
theorem srecs_any (va vb : Value) (xs bs : List (Rec × Value)) (w : World) (ha : RdR w va xs) (hb : RdR w vb bs) (he : xs.map (·.1) = bs.map (·.1)) :
    Calls Try.prog 24 #[va, vb] w fun e w' => e = .returned (.bool true) ∧ Below w.heap.size w w' := by
  obtain ⟨a, cap, rfl, h1, h2⟩ := ha.shape
  obtain ⟨b, cap', rfl, h3, h4⟩ := hb.shape
  have Ha := Lib.hid ha
  have Hb := Lib.hid hb
  have HQ := Lib.hid (fun j => rat_eq he j)
  have hl : xs.length = bs.length := by have := congrArg List.length he; simpa using this
  clear ha hb he
  generalize hm : bs.length = m at *
  generalize hn : xs.length = n at *
  subst hl
  clear hm hn
  have hn63 := lt63 h1 h2
  have q4 : ((n : Int) != (n : Int)) = false := by simp
  go_enter Try.func24, Try.ntmps24
  go_wp2_with fail
  go_loopw [13] (fun iv W => ∃ i : Nat, iv = .int .i64 (i : Int) ∧ i ≤ n ∧ Hid (Below w.heap.size w W)) (fun iv _ => n - (intOf iv).toNat)
  case atStart => exact ⟨0, by rfl, Nat.zero_le _, Lib.hid (Below.refl _ _)⟩
  case round =>
    obtain ⟨i, rfl, hi, HB⟩ := hrel
    by_cases hin : i < n
    · obtain ⟨b1, o1, hla, hd1, c0, c1, c2, c3, c4⟩ := (Ha.out.below HB.out).at hin
      obtain ⟨b2, o2, hka, hd2, d0, d1, d2, d3, d4⟩ := (Hb.out.below HB.out).at hin
      subst hla hka
      have hq := HQ.out i
      generalize rat xs i = A at *
      generalize rat bs i = B at *
      obtain ⟨A, v1⟩ := A
      obtain ⟨B, v2⟩ := B
      dsimp only at hq hd1 hd2 c0 c1 c2 c3 c4 d0 d1 d2 d3 d4
      subst hq
      obtain ⟨off, X⟩ := A
      dsimp only at *
      have HSame := Lib.hid (fun u : BelowBy wr => (rnsame_any X X v1 v2 u.w' (RdL.below hd1 u.h) (RdL.below hd2 u.h)))
      rw [show decide (X = X) = true from decide_eq_true rfl] at HSame
      obtain ⟨a1, k1, hv1, _, _⟩ := hd1.shape0
      obtain ⟨a2, k2, hv2, _, _⟩ := hd2.shape0
      subst hv1 hv2
      obtain ⟨xk, xc, xd, xl⟩ := X
      dsimp only at *
      generalize hxl : xl.length = l at *
      clear hd1 hd2 hxl
      have c0 := cell_by c0
      have c1 := cell_by c1
      have c2 := cell_by c2
      have c3 := cell_by c3
      have c4 := cell_by c4
      have d0 := cell_by d0
      have d1 := cell_by d1
      have d2 := cell_by d2
      have d3 := cell_by d3
      have d4 := cell_by d4
      have i1 : (i : Int) < (n : Int) := by omega
      have q5 : ((off : Int) != (off : Int)) = false := by simp
      go_wp2_with fail
      refine wp_region_below (by kernel_rfl) (by kernel_rfl) ?_
      repeat (go_big_quiet_step ((first | exact calls_by (HSame.out _))))
      refine wpQuiet_nil ?_
      intro _ hw'
      obtain ⟨u, hw'⟩ := hw'
      subst hw'
      have HBu := Lib.hid (bstep HB.out u.h)
      clear c0 c1 c2 c3 c4 d0 d1 d2 d3 d4
      go_wp2_with fail
      exact ⟨⟨i + 1, by go_num, by omega, HBu⟩, by simp [intOf]; omega⟩
    · obtain rfl : i = n := by omega
      go_wp2_with fail
      go_ret
      exact ⟨rfl, HB.out⟩
set_option maxRecDepth 100000 in
set_option maxHeartbeats 4000000 in
theorem given_any (v : Value) (es : List (Rec × Value)) (w : World) (h : RdR w v es) (hs : es.length ≤ 50000) :
    Calls Try.prog 20 #[v] w fun e w' => ∃ lv, e = .returned lv ∧ RdR w' lv es ∧ Below w.heap.size w w' := by
  obtain ⟨a, cap, rfl, h1, h2⟩ := h.shape
  have Hw0 := Lib.hid h
  have HT := Lib.hid (fun j (hj : j < es.length) => recsC_take es hj)
  have HE := Lib.hid (show es.take es.length = es from List.take_length)
  have HON := Lib.hid (fun j (hj : j < es.length) => show ∀ u ∈ recC (rat es j), u.oneCell' = true from fun u hu => recsC_one es w h.dat u (List.mem_flatMap.2 ⟨_, rat_mem hj, hu⟩))
  have HFin := Lib.hid (show ∀ lv W, Below w.heap.size w W → W.ownsRow w.heap.size 43 5 lv es.length (recsC es) → RdR W lv es from fun lv W hb ho => ⟨own_rd ho, fun p hp => RdL.below (h.dat p hp) hb⟩)
  generalize hn : es.length = n at *
  clear h hn
  go_enter Try.func20, Try.ntmps20
  go_wp2_with fail
  go_loopw [3, 7] (fun ov iv W => ∃ i : Nat, iv = .int .i64 (i : Int) ∧ i ≤ n ∧ Hid (W.ownsRow w.heap.size 43 5 ov i (recsC (es.take i))) ∧ Hid (Below w.heap.size w W)) (fun _ iv _ => n - (intOf iv).toNat)
  case atStart => exact ⟨0, by rfl, Nat.zero_le _, Lib.hid (World.ownsRow_nil _ _ _ _), Lib.hid (Below.refl _ _)⟩
  case round =>
    obtain ⟨i, rfl, hi, HO, HB⟩ := hrel
    have hsz := HB.out.size
    by_cases hin : i < n
    · obtain ⟨b1, o1, hla, hd1, c0, c1, c2, c3, c4⟩ := (Hw0.out.below HB.out).at hin
      subst hla
      have HTi := Lib.hid (HT.out i hin)
      have HOi := Lib.hid (HON.out i hin)
      generalize rat es i = A at *
      obtain ⟨⟨off, x⟩, v1⟩ := A
      dsimp only at *
      obtain ⟨a1, k1, hv1, _, _⟩ := hd1.shape0
      subst hv1
      obtain ⟨oa, oc, hov, _⟩ := own_form HO.out
      subst hov
      obtain ⟨xk, xc, xd, xl⟩ := x
      dsimp only at *
      have HC := Lib.hid (show recC (⟨off, ⟨xk, xc, xd, xl⟩⟩, .slice a1 xl.length k1) = [.int .i64 off, .int .u64 (xk : Int), .int .u32 (xc : Int), .bool xd, .slice a1 xl.length k1] from rfl)
      rw [HC.out] at HOi HTi
      clear HC hd1
      generalize xl.length = l at *
      have i1 : (i : Int) < (n : Int) := by omega
      go_wp2_with fail
      go_region_law ((refine step_app (n := i) (m := 1) (by rfl) (.tmp 10) (.tmp 22) 38 (by rfl) elemR w.heap.size (by rfl) ((HO.out.alloc _).drew) (by rfl) (Rd.drew (Rd.newK wr.heap.size wr rfl 5 [.int .i64 off, .int .u64 (xk : Int), .int .u32 (xc : Int), .bool xd, .slice a1 l k1] 43 1 rfl (by decide))) HOi.out (by unfold maxLen; omega) (by omega) (by simp; omega) ?_; intro v4 w4 hown4 hgr4 hv4; clear hv4))
      all_goals
        have HAl := Lib.hid (show Below wr.heap.size wr (wr.alloc (.cells ([.int .i64 off, .int .u64 (xk : Int), .int .u32 (xc : Int), .bool xd, .slice a1 l k1] : List Value).toArray 43)).drew from below_drew ((Below.refl _ _).alloc (Nat.le_refl _) _))
        have HB4 := Lib.hid (own_below (bstep HB.out HAl.out) (own_keep HO.out HAl.out) (Nat.le_trans hsz HAl.out.size) hgr4)
        rw [← HTi.out] at hown4
        have HO4 := Lib.hid hown4
        clear hown4 hgr4
        go_wp2_with fail
        exact ⟨⟨i + 1, by go_num, by omega, HO4, HB4⟩, by simp [intOf]; omega⟩
    · obtain rfl : i = n := by omega
      have HX := Lib.hid (HFin.out _ _ HB.out (by have := HO.out; rw [HE.out] at this; exact this))
      go_wp2_with fail
      go_ret
      exact ⟨_, rfl, HX.out, HB.out⟩
end Go.Proofs.Ytecflhklpkjhcaa

namespace Go.Proofs.Ytecflhklpkjhcaa
open Go.RowKit

theorem wrapB (a : Int) (L : Nat) (hL : 0 < L) (hs : L ≤ 1000000) : ∃ r : Int, a.tmod (L : Int) = r ∧ -1000000 ≤ r ∧ r ≤ 1000000 ∧ 0 ≤ r + (L : Int) ∧ ∃ k : Nat, k < L ∧ (r + (L : Int)) % (L : Int) = (k : Int) ∧ (r + (L : Int)).tmod (L : Int) = (k : Int) := by
  have h1 := Int.tmod_lt_of_pos a (show (0 : Int) < (L : Int) by omega)
  have h2 := Int.lt_tmod_of_pos a (show (0 : Int) < (L : Int) by omega)
  refine ⟨_, rfl, by omega, by omega, by omega, ((a.tmod (L : Int) + (L : Int)) % (L : Int)).toNat, ?_, ?_, ?_⟩
  · have := Int.emod_lt_of_pos (a.tmod (L : Int) + (L : Int)) (show (0 : Int) < (L : Int) by omega)
    omega
  · have := Int.emod_nonneg (a.tmod (L : Int) + (L : Int)) (show (L : Int) ≠ 0 by omega)
    omega
  · rw [Int.tmod_eq_emod_of_nonneg (by omega)]
    have := Int.emod_nonneg (a.tmod (L : Int) + (L : Int)) (show (L : Int) ≠ 0 by omega)
    omega
theorem madeK (B k : Nat) (w : World) (hk : w.heap.size = k) (hB : B ≤ k) : (w.alloc (.cells #[] 5)).ownsRow B 5 1 (.slice (some ⟨k, 0, none⟩) 0 0) 0 [] := by
  subst hk; exact World.ownsRow_made (size := 1) w #[] 0 hB (by decide) rfl
set_option maxRecDepth 100000 in
set_option maxHeartbeats 4000000 in
theorem opens_walk (rv v : Value) (raw0 : List UInt8) (ns : List (Nd × Value)) (at_ : Int) (cb : UInt8) (w : World) (hr : RdB w rv raw0) (h : RdN w v ns) (hwf : ∀ p ∈ ns, p.1.Wf) (_hz : (Lit.int .i64 at_).wf = true) :
    Calls Try.prog 8 #[rv, v, .int .i64 at_, .int .u8 (cb.toNat : Int)] w fun e w' => e = .returned (.bool true) ∧ Below w.heap.size w w' := by
  have HSm := Lib.hid (small_any v ns w h hwf)
  have HN := Lib.hid (show ∀ x ∈ ns.map (·.1), x.Wf from fun x hx => by obtain ⟨p, hp, rfl⟩ := List.mem_map.1 hx; exact hwf p hp)
  generalize ns.map (·.1) = N at *
  obtain ⟨ra, rc, rfl, hr1, hr2⟩ := hr.shape0
  have hr3 := lt63 hr1 hr2
  have Hll := Lib.hid (show (raw0.take 2000).length ≤ 2000 by rw [List.length_take]; omega)
  have Hto := Lib.hid (fun h40 : 2000 < raw0.length => (⟨RdL.take hr 2000 (Nat.le_of_lt h40), slice_to (P := Try.prog) elemB (a := ra) (n := raw0.length) (cap := rc) (RdL.spot hr (by omega)) 2000 (by omega)⟩ : _ ∧ _))
  have Hne := Lib.hid (fun h40 : raw0.length ≤ 2000 => show RdB w (.slice ra raw0.length rc) (raw0.take 2000) by rw [List.take_of_length_le h40]; exact hr)
  generalize hrn : raw0.length = rn at *
  generalize raw0.take 2000 = raw at *
  clear h hwf hr hrn
  go_enter Try.func8, Try.ntmps8
  go_upto_if 24 with fail
  go_cut [0] (fun s wx => (∃ a n c, s = .slice a n c ∧ RdB w (.slice a n c) raw) ∧ w = wx)
  case first =>
    by_cases h40 : 2000 < rn
    · have hd : decide ((2000 : Int) < (rn : Int)) = true := by simp; omega
      obtain ⟨hr, hto⟩ := Hto.out h40
      have HR := Lib.hid hr
      rw [show ((2000 : Nat) : Int) = 2000 from rfl] at hto
      clear hr
      go_wp2_with fail
      go_meet
      case rel => exact ⟨⟨_, _, _, rfl, HR.out⟩, rfl⟩
    · have hd : decide ((2000 : Int) < (rn : Int)) = false := by simp; omega
      have HR := Lib.hid (Hne.out (by omega))
      go_wp2_with fail
      go_meet
      case rel => exact ⟨⟨_, _, _, rfl, HR.out⟩, rfl⟩
  case rest =>
    obtain ⟨⟨qa, qn, qc, rfl, hq⟩, rfl⟩ := hcut
    have hqn : qn = raw.length := by obtain ⟨_, _, e, _, _⟩ := hq.shape0; injection e
    have Hqn := Lib.hid hqn
    have Hq := Lib.hid hq
    have hraw := Hll.out
    clear hq Hto Hne hqn Hll
    go_wp2_with fail
    refine HSm.out.mono ?_; rintro e w1 ⟨kv, es, rfl, hown1, hes, hdat, hb1⟩
    have HFl := Lib.hid (file_any kv es w1 (sms_rd hown1 hdat hb1) (sms_ok hes HN.out) (sms_len hes))
    have HOk := Lib.hid (show ∀ x ∈ es.map (·.1), x.ok ∧ x.Wf from fun x hx => by obtain ⟨p, hp, rfl⟩ := List.mem_map.1 hx; exact sms_ok hes HN.out p hp)
    have hl12 := sms_len hes
    have HB1 := Lib.hid hb1
    have hKl0 : (es.map (·.1)).length ≤ 12 := by rw [List.length_map]; exact hl12
    generalize es.map (·.1) = K at *
    clear hown1 hes hdat hb1 HSm HN hl12
    go_wp2_with fail
    refine HFl.out.mono ?_; rintro e w2 ⟨bv, nv, rfl, hownb, hownn, hb2⟩
    have hle := nsum_le (k := K) (fun x hx => (HOk.out x hx).1)
    have hfl := fileB_length K
    have hlb : (fileB K).length ≤ 60000 := by omega
    have hlb2 : 16 ≤ (fileB K).length := by omega
    obtain ⟨ba, bc, hbv, _⟩ := own_form hownb
    obtain ⟨na, nc, hnv, _⟩ := own_form hownn
    subst hbv hnv
    have HB2 := Lib.hid (bstep HB1.out hb2)
    have HRb := Lib.hid (show RdB w2 (.slice ba (fileB K).length bc) (fileB K) from hownb.rd)
    clear hownb hownn hb2 HFl hfl hle HOk hKl0
    generalize fileB K = FB at *
    generalize hLB : FB.length = lb at *
    have HLB := Lib.hid hLB
    clear hLB
    have HM2 := Lib.hid (madeK w2.heap.size w2.heap.size w2 rfl (Nat.le_refl _))
    have HA2 := Lib.hid (show Below w2.heap.size w2 (w2.alloc (.cells #[] 5)) from (Below.refl _ _).alloc (Nat.le_refl _) _)
    have HR2 := Lib.hid (show Rd _ 1 (.slice ba lb bc) lb (FB.map byteV) from (by have := RdL.below HRb.out HA2.out; unfold RdL at this; rw [HLB.out] at this; exact this))
    go_upto_region 5 with (at_builtin; refine wpList_app (n := 0) (m := lb) rfl (.tmp 33) (.tmp 34) 23 rfl elemB w2.heap.size rfl HM2.out rfl HR2.out (bytes_one _) (by unfold maxLen; omega) (by omega) HA2.out.size ?_; intro v4 w4 hown4 hgr4 hv4; clear hv4; have HO4 := Lib.hid (show w4.ownsRow w2.heap.size 5 1 v4 lb (FB.map byteV) from (by rw [Nat.zero_add] at hown4; exact hown4)); have HB4 := Lib.hid (own_below HA2.out HM2.out HA2.out.size hgr4); clear hown4 hgr4)
    obtain ⟨r, hr0, hr1, hr2, hr3, k, hk, hk1, hk2⟩ := wrapB at_ lb (by omega) (by omega)
    have hk3 : r % (lb : Int) = (k : Int) := by rw [← hk1]; simp
    have hpos : decide ((0 : Int) < (lb : Int)) = true := by simp; omega
    have n1 : ((lb : Int) == 0) = false := beq_eq_false_iff_ne.2 (by omega)
    obtain ⟨g, gc, rfl⟩ : ∃ g gc, v4 = .slice (some ⟨g, 0, none⟩) lb gc := by
      rcases HO4.out.2 with ⟨e, h0⟩ | ⟨g, _, _, e, _⟩
      · omega
      · exact ⟨g, _, e⟩
    have hgB := (HO4.out.lt g rfl).1
    have ck0 := HO4.out.cellAt k (by omega)
    have fk0 := HO4.out.frozenAt k
    obtain ⟨hst, hgr⟩ := HO4.out.stored k (.int .u8 (cb.toNat : Int))
    rw [show (Value.int .u8 (cb.toNat : Int)) = byteV cb from rfl, ← List.map_set] at hst
    have ck1 : (FB.map byteV)[k]? = some (.int .u8 ((bat FB k).toNat : Int)) := by
      rw [List.getElem?_map]
      unfold bat
      rw [List.getD_eq_getElem?_getD, List.getElem?_eq_getElem (by rw [HLB.out]; exact hk)]; rfl
    rw [ck1] at ck0
    have HO5 := Lib.hid (show (w4.setCell ⟨g, k, none⟩ (.int .u8 (cb.toNat : Int))).ownsRow w2.heap.size 5 1 (.slice (some ⟨g, 0, none⟩) lb gc) lb ((FB.set k cb).map byteV) from hst)
    have HB5 := Lib.hid (HB4.out.grown hgr HB4.out.size (by intro x hx; injection hx with hx; omega))
    have HL5 := Lib.hid (show (FB.set k cb).length = lb by rw [List.length_set]; exact HLB.out)
    clear hst hgr ck1 hk1 hk2 HA2 HM2 HR2 HO4 HB4
    generalize FB.set k cb = SP at *
    generalize bat FB k = old at *
    have j1 : IntKind.i64.wrap (r + (lb : Int)) = r + (lb : Int) := IntWalk.i64_in _ (by omega)
    go_upto_region 6 with fail
    obtain ⟨W5, hW5⟩ : ∃ W5, w4.setCell ⟨g, k, none⟩ (.int .u8 (cb.toNat : Int)) = W5 := ⟨_, rfl⟩
    rw [hW5] at HO5 HB5 ⊢
    clear hW5
    have HM6 := Lib.hid (madeK W5.heap.size W5.heap.size W5 rfl (Nat.le_refl _))
    have HA6 := Lib.hid (show Below W5.heap.size W5 (W5.alloc (.cells #[] 5)) from (Below.refl _ _).alloc (Nat.le_refl _) _)
    have HRb5 := Lib.hid (RdL.below HRb.out HB5.out)
    have HR6 := Lib.hid (show Rd _ 1 (.slice ba lb bc) lb (FB.map byteV) from (by have := RdL.below HRb5.out HA6.out; unfold RdL at this; rw [HLB.out] at this; exact this))
    have HqR := Lib.hid (fun W (hb : Below W5.heap.size W5 W) => show Rd W 1 (.slice qa qn qc) qn (raw.map byteV) from (by have := RdL.below Hq.out (bstep (bstep HB2.out HB5.out) hb); unfold RdL at this; rw [← Hqn.out] at this; exact this))
    have hqn2 : qn ≤ 2000 := by have := Hqn.out; omega
    go_wp2_with (first | (at_builtin; refine wpList_app (n := 0) (m := lb) rfl (.tmp 52) (.tmp 53) 23 rfl elemB W5.heap.size rfl HM6.out rfl HR6.out (bytes_one _) (by unfold maxLen; omega) (by omega) HA6.out.size ?_; intro v6 w6 hown6 hgr6 hv6; clear hv6; have HO6 := Lib.hid (show w6.ownsRow W5.heap.size 5 1 v6 lb (FB.map byteV) from (by rw [Nat.zero_add] at hown6; exact hown6)); have HB6 := Lib.hid (own_below HA6.out HM6.out HA6.out.size hgr6); have hs6 := HB6.out.size; have HR6q := Lib.hid (HqR.out _ HB6.out); clear hown6 hgr6) | (at_builtin; refine wpList_app (n := lb) (m := qn) rfl (.tmp 54) (.tmp 55) 23 rfl elemB W5.heap.size rfl HO6.out rfl HR6q.out (bytes_one _) (by unfold maxLen; omega) (by omega) hs6 ?_; intro v7 w7 hown7 hgr7 hv7; clear hv7; have HO7 := Lib.hid (show OwnB w7 W5.heap.size v7 (FB ++ raw) from ownB_of hown7 (by rw [List.map_append])); have HB7 := Lib.hid (own_below HB6.out HO6.out hs6 hgr7); obtain ⟨a7, c7, hv7, _⟩ := own_form hown7; subst hv7; clear hown7 hgr7))
    obtain ⟨W0, hW0, HW0, HZ0, HZ1, HZ2, HZ3⟩ : ∃ W0, w7.alloc (.cells #[.slice qa qn qc, .slice ba lb bc, .slice (some ⟨g, 0, none⟩) lb gc, .slice a7 (lb + qn) c7] 23) = W0 ∧ Hid (Below w7.heap.size w7 W0) ∧ Hid (W0.cell? ⟨w7.heap.size, 0, none⟩ = some (.slice qa qn qc)) ∧ Hid (W0.cell? ⟨w7.heap.size, 1, none⟩ = some (.slice ba lb bc)) ∧ Hid (W0.cell? ⟨w7.heap.size, 2, none⟩ = some (.slice (some ⟨g, 0, none⟩) lb gc)) ∧ Hid (W0.cell? ⟨w7.heap.size, 3, none⟩ = some (.slice a7 (lb + qn) c7)) :=
      ⟨_, rfl, Lib.hid ((Below.refl _ _).alloc (Nat.le_refl _) _), Lib.hid (by simp), Lib.hid (by simp), Lib.hid (by simp), Lib.hid (by simp)⟩
    rw [hW0]
    clear hW0
    have HB57 := Lib.hid (bstep HB7.out HW0.out)
    have HB0 := Lib.hid (bstep (bstep HB2.out HB5.out) HB57.out)
    have HXX := Lib.hid (show ∀ i, i < 4 → ∃ xa xn xc bs, (W0.cell? ⟨w7.heap.size, i, none⟩ = some (.slice xa xn xc)) ∧ RdB W0 (.slice xa xn xc) bs ∧ bs.length ≤ 100000 from fun i hi => by
      match i, hi with
      | 0, _ => exact ⟨qa, qn, qc, raw, HZ0.out, RdL.below Hq.out HB0.out, by omega⟩
      | 1, _ => exact ⟨ba, lb, bc, FB, HZ1.out, RdL.below HRb5.out HB57.out, by rw [HLB.out]; omega⟩
      | 2, _ => exact ⟨_, _, _, SP, HZ2.out, RdL.below (own_rdl HO5.out) HB57.out, by rw [HL5.out]; omega⟩
      | 3, _ => exact ⟨_, _, _, FB ++ raw, HZ3.out, RdL.below HO7.out.rd HW0.out, by rw [List.length_append, HLB.out]; omega⟩)
    clear HZ0 HZ1 HZ2 HZ3 Hq HRb HLB HO5 HRb5 HL5 HM6 HA6 HR6 HqR HO6 HB6 hs6 HR6q HO7 HB7 HB57 HB5 HB2 HB1 ck0 fk0 j1 hk3 n1 hpos hr0 Hqn
    go_loopw [59] (fun iv W => ∃ i : Nat, iv = .int .i64 (i : Int) ∧ i ≤ 4 ∧ Hid (Below W0.heap.size W0 W)) (fun iv _ => 4 - (intOf iv).toNat)
    case atStart => exact ⟨0, rfl, by omega, Lib.hid (Below.refl _ _)⟩
    case round =>
      obtain ⟨i, rfl, hi, HB⟩ := hrel
      by_cases hin : i < 4
      · obtain ⟨xa, xn, xc, bs, hcell, hrd, hlen⟩ := HXX.out i hin
        have hcell := Below.keeps HB.out _ _ hcell
        have HY := Lib.hid (RdL.below hrd HB.out)
        have i1 : (i : Int) < 4 := by omega
        clear hrd
        have HO1 := Lib.hid (open_any _ bs wr HY.out (by omega))
        have HR1 := Lib.hid (fun W h => ropen_any (.slice xa xn xc) bs W h (by omega))
        have HS1 := Lib.hid (fun W h => salvage_any (.slice xa xn xc) bs W h (by omega))
        have HS2 := Lib.hid (fun W h => rsalvage_any (.slice xa xn xc) bs W h (by omega))
        generalize openF bs = O at *
        obtain ⟨r1, s1, L1, e1⟩ := O
        dsimp only at HO1 HR1
        generalize salvF bs = S1 at *
        go_wp2_with fail
        refine HO1.out.mono ?_; rintro e w8 ⟨⟨lv, es8, rfl, hown8, hes8⟩, hb8⟩
        have HA8 := Lib.hid (show Below w8.heap.size w8 (w8.alloc (.cells #[.int .i64 (s1.slot : Int), .int .i64 (s1.gen : Int), .int .i64 (s1.rev : Int)] 37)) from (Below.refl _ _).alloc (Nat.le_refl _) _)
        have HC8 := Lib.hid (bstep hb8 HA8.out)
        have HRo := Lib.hid (HR1.out _ (RdL.below HY.out HC8.out))
        have HL8 := Lib.hid (hown8.rd.below HA8.out)
        have HE8 := Lib.hid hes8
        obtain ⟨la, lc, hlv, _⟩ := own_form hown8.row
        subst hlv
        clear hown8 hes8 hb8 HR1 HO1
        go_wp2_with fail
        refine HRo.out.mono ?_; rintro e w9 ⟨⟨mv, es9, rfl, hown9, hes9⟩, hb9⟩
        have S0 : w9.cell? ⟨w8.heap.size, 0, none⟩ = some (.int .i64 (s1.slot : Int)) := Below.keeps hb9 _ _ (by simp)
        have S1' : w9.cell? ⟨w8.heap.size, 1, none⟩ = some (.int .i64 (s1.gen : Int)) := Below.keeps hb9 _ _ (by simp)
        have S2 : w9.cell? ⟨w8.heap.size, 2, none⟩ = some (.int .i64 (s1.rev : Int)) := Below.keeps hb9 _ _ (by simp)
        obtain ⟨Wa, hWa, HA9⟩ : ∃ Wa, w9.alloc (.cells #[.int .i64 (s1.slot : Int), .int .i64 (s1.gen : Int), .int .i64 (s1.rev : Int)] 37) = Wa ∧ Hid (Below w9.heap.size w9 Wa) := ⟨_, rfl, Lib.hid ((Below.refl _ _).alloc (Nat.le_refl _) _)⟩
        have T0 : Wa.cell? ⟨w9.heap.size, 0, none⟩ = some (.int .i64 (s1.slot : Int)) := by rw [← hWa]; simp
        have T1 : Wa.cell? ⟨w9.heap.size, 1, none⟩ = some (.int .i64 (s1.gen : Int)) := by rw [← hWa]; simp
        have T2 : Wa.cell? ⟨w9.heap.size, 2, none⟩ = some (.int .i64 (s1.rev : Int)) := by rw [← hWa]; simp
        have S0 := Below.keeps HA9.out _ _ S0
        have S1' := Below.keeps HA9.out _ _ S1'
        have S2 := Below.keeps HA9.out _ _ S2
        have HCa := Lib.hid (bstep HC8.out (bstep hb9 HA9.out))
        have HLa := Lib.hid (HL8.out.below (bstep hb9 HA9.out))
        have HMa := Lib.hid (hown9.rd.below HA9.out)
        have HYa := Lib.hid (RdL.below HY.out HCa.out)
        have HSr := Lib.hid (srecs_any _ _ es8 es9 Wa HLa.out HMa.out (HE8.out.trans hes9.symm))
        obtain ⟨ma, mc, hmv, _⟩ := own_form hown9.row
        subst hmv
        clear hown9 hes9 hb9 HC8 HRo HL8 HE8 HY HA9 HLa HMa HA8
        go_upto_region 11 with fail
        try rw [hWa]
        clear hWa
        have q1 : ((e1 : Int) != (e1 : Int)) = false := by simp
        have q2 : ((r1 : Int) != (r1 : Int)) = false := by simp
        generalize hx0 : (s1.slot : Int) = x0 at *
        generalize hx1 : (s1.gen : Int) = x1 at *
        generalize hx2 : (s1.rev : Int) = x2 at *
        clear hx0 hx1 hx2
        go_wp2_with fail
        refine HSr.out.mono ?_; rintro e wb ⟨rfl, hbb⟩
        have HCb := Lib.hid (bstep HCa.out hbb)
        have HYb := Lib.hid (RdL.below HYa.out hbb)
        have HSb := Lib.hid (HS1.out _ HYb.out)
        clear hbb HSr HCa HYa HS1 S0 S1' S2 T0 T1 T2
        go_wp2_with fail
        refine HSb.out.mono ?_; rintro e wc ⟨⟨sv, esc, rfl, hownc, hesc⟩, hbc⟩
        have HCc := Lib.hid (bstep HCb.out hbc)
        have HYc := Lib.hid (RdL.below HYb.out hbc)
        have HRc := Lib.hid hownc.rd
        have HEc := Lib.hid hesc
        have HSc := Lib.hid (HS2.out _ HYc.out)
        obtain ⟨sa, sc, hsv, _⟩ := own_form hownc.row
        subst hsv
        clear hownc hesc hbc HSb HYb HCb HS2
        go_wp2_with fail
        refine HSc.out.mono ?_; rintro e wd ⟨⟨tv, esd, rfl, hownd, hesd⟩, hbd⟩
        have HCd := Lib.hid (bstep HCc.out hbd)
        have HSs := Lib.hid (srecs_any _ _ esc esd wd (HRc.out.below hbd) hownd.rd (HEc.out.trans hesd.symm))
        obtain ⟨ta, tc, htv, _⟩ := own_form hownd.row
        subst htv
        clear hownd hesd hbd HSc HRc HEc HCc HYc
        go_wp2_with fail
        refine HSs.out.mono ?_; rintro e we ⟨rfl, hbe⟩
        have HCe := Lib.hid (bstep HB.out (bstep HCd.out hbe))
        clear hbe HSs
        go_wp2_with fail
        exact ⟨⟨i + 1, by go_num, by omega, HCe⟩, by simp [intOf]; omega⟩
      · obtain rfl : i = 4 := by omega
        go_wp2_with fail
        refine (awake_any _).mono ?_; rintro e w5 ⟨rfl, hb5⟩
        have HX := Lib.hid (bstep (bstep HB0.out HB.out) hb5)
        clear hb5
        go_wp2_with fail
        go_ret
        exact ⟨rfl, HX.out⟩
end Go.Proofs.Ytecflhklpkjhcaa

namespace Go.Proofs.Ytecflhklpkjhcaa
open Go.RowKit

theorem recsOf_at : ∀ (K : List Nd) (p i : Nat), i < K.length → (recsOf p K)[i]? = some ⟨p + nsum (K.take i), K.getD i nd0⟩
  | [], _, _, h => by simp at h
  | x :: K, p, 0, _ => by simp [recsOf, nsum]
  | x :: K, p, i + 1, h => by
    have ih := recsOf_at K (p + nsz x.data.length) i (by simpa using h)
    show (recsOf (p + nsz x.data.length) K)[i]? = _
    rw [ih, List.take_succ_cons, nsum_cons]
    simp [Int.add_assoc]
theorem endsF_length (K : List Nd) : (endsF K).length = K.length := by simp [endsF]
theorem endsF_at (K : List Nd) (i : Nat) (h : i < K.length) : (endsF K)[i]? = some ((16 + nsum (K.take (i + 1)) : Nat) : Int) := by
  simp [endsF, h]
theorem take_snoc' {K : List Nd} {i : Nat} (h : i < K.length) : K.take (i + 1) = K.take i ++ [K.getD i nd0] := by
  rw [List.take_add_one, List.getElem?_eq_getElem h, List.getD_eq_getElem?_getD, List.getElem?_eq_getElem h]; rfl
theorem rd_cell {w : World} {a : Option Addr} {n cap : Nat} {cs : List Value} (h : Rd w 1 (.slice a n cap) n cs) {i : Nat} {u : Value} (hi : cs[i]? = some u) : ∃ b off, a = some ⟨b, off, none⟩ ∧ w.cell? ⟨b, off + i, none⟩ = some u := by
  obtain ⟨_, a', cap', e, _, _, _, hc⟩ := h
  injection e with e1
  obtain ⟨b, off, e2, hc⟩ := hc (by have := (List.getElem?_eq_some_iff.1 hi).1; omega)
  exact ⟨b, off, e1.trans e2, hc i u hi⟩
theorem made0 (B k : Nat) (w : World) (hk : w.heap.size = k) (hB : B ≤ k) : (w.alloc (.cells #[] 5)).ownsRow B 5 1 (.slice (some ⟨k, 0, none⟩) 0 0) 0 [] := by
  subst hk; exact World.ownsRow_made (size := 1) w #[] 0 hB (by decide) rfl
/-- The needles that small leaves, for reading. -/
theorem sm_rd {w w' : World} {lv : Value} {es : List (Nd × Value)} (h : w'.ownsRow w.heap.size 31 4 lv es.length (needsC es)) (hd : ∀ p ∈ es, RdB w p.2 p.1.data) (hb : Below w.heap.size w w') : RdN w' lv es :=
  ⟨own_rd h, fun p hp => RdL.below (hd p hp) hb⟩
theorem sm_ok {es : List (Nd × Value)} {N : List Nd} (h : es.map (·.1) = smallF N) (hN : ∀ x ∈ N, x.Wf) : ∀ p ∈ es, p.1.ok ∧ p.1.Wf := fun p hp => by
  have : p.1 ∈ smallF N := by rw [← h]; exact List.mem_map.2 ⟨p, hp, rfl⟩
  obtain ⟨x, hx, e⟩ := List.mem_map.1 this
  rw [← e]
  exact ⟨sm1_ok x, sm1_wf (hN x (List.mem_of_mem_take hx))⟩
theorem sm_len {es : List (Nd × Value)} {N : List Nd} (h : es.map (·.1) = smallF N) : es.length ≤ 12 := by
  have := congrArg List.length h
  rw [List.length_map] at this
  rw [this]; unfold smallF; rw [List.length_map, List.length_take]; omega
set_option maxRecDepth 100000 in
set_option maxHeartbeats 2000000 in
theorem reads_walk (v tv : Value) (ns : List (Nd × Value)) (tl : List UInt8) (w : World) (h : RdN w v ns) (hwf : ∀ p ∈ ns, p.1.Wf) (ht : RdB w tv tl) :
    Calls Try.prog 3 #[v, tv] w fun e w' => e = .returned (.bool true) ∧ Below w.heap.size w w' := by
  have HSm := Lib.hid (small_any v ns w h hwf)
  have HN := Lib.hid (show ∀ x ∈ ns.map (·.1), x.Wf from fun x hx => by obtain ⟨p, hp, rfl⟩ := List.mem_map.1 hx; exact hwf p hp)
  have HT := Lib.hid ht
  obtain ⟨ta, tc, rfl, ht1, ht2⟩ := ht.shape0
  have ht3 := lt63 ht1 ht2
  generalize ns.map (·.1) = N at *
  clear h hwf ht
  go_enter Try.func3, Try.ntmps3
  go_wp2_with fail
  refine HSm.out.mono ?_; rintro e w1 ⟨kv, es, rfl, hown1, hes, hdat, hb1⟩
  have HFl := Lib.hid (file_any kv es w1 (sm_rd hown1 hdat hb1) (sm_ok hes HN.out) (sm_len hes))
  have HOk := Lib.hid (show ∀ x ∈ es.map (·.1), x.ok ∧ x.Wf from fun x hx => by obtain ⟨p, hp, rfl⟩ := List.mem_map.1 hx; exact sm_ok hes HN.out p hp)
  have hl12 := sm_len hes
  have HRk := Lib.hid (sm_rd hown1 hdat hb1)
  obtain ⟨ka, kc, hkv, _⟩ := own_form hown1
  subst hkv
  have HB1 := Lib.hid hb1
  clear hown1 hes hdat hb1 HSm HN
  generalize hK : es.map (·.1) = K at *
  have HK := Lib.hid hK
  clear hK
  go_wp2_with fail
  refine HFl.out.mono ?_; rintro e w2 ⟨bv, nv, rfl, hownb, hownn, hb2⟩
  have hfl := Lib.hid (fileB_length K)
  have hle := nsum_le (k := K) (fun x hx => (HOk.out x hx).1)
  have hKl : K.length ≤ 12 := by have := congrArg List.length HK.out; rw [List.length_map] at this; omega
  have hlb : (fileB K).length ≤ 60000 := by rw [fileB_length]; omega
  have hel := Lib.hid (show es.length = K.length by have := congrArg List.length HK.out; rw [List.length_map] at this; exact this)
  obtain ⟨ba, bc, hbv, _⟩ := own_form hownb
  obtain ⟨na, nc, hnv, _⟩ := own_form hownn
  subst hbv hnv
  have HRb := Lib.hid (show RdB w2 (.slice ba (fileB K).length bc) (fileB K) from hownb.rd)
  have HRn := Lib.hid (own_rd hownn)
  have HB2 := Lib.hid (bstep HB1.out hb2)
  have HRk2 := Lib.hid (HRk.out.below hb2)
  clear hownb hownn hb2 HFl HRk
  have HDt := Lib.hid (ndecode_any _ tl w2 (RdL.below HT.out HB2.out) ht3)
  go_wp2_with fail
  refine HDt.out.mono ?_; rintro e w3 ⟨⟨dv, rfl, hownd⟩, hb3⟩
  obtain ⟨da, dc, hdv, _⟩ := own_form hownd
  subst hdv
  have HB23 := Lib.hid hb3
  have HDr := Lib.hid (show (ndec tl).1 ≠ 0 → (ndec tl).1 ≠ 0 from id)
  clear hownd hb3 HDt
  by_cases hr : (ndec tl).1 = 0
  · have q1 : ((ndec tl).1 == 0) = true := beq_iff_eq.2 hr
    clear HDr hr
    generalize ndec tl = D at *
    obtain ⟨r, x, m⟩ := D
    dsimp only at q1
    go_wp2_with fail
    refine (awake_any _).mono ?_; rintro e w4 ⟨rfl, hb4⟩
    have HX := Lib.hid (bstep ((bstep HB2.out HB23.out).alloc (bstep HB2.out HB23.out).size (.cells #[.int .u64 (x.key : Int), .int .u32 (x.ck : Int), .bool x.del, .slice da x.data.length dc] 31)) hb4)
    clear hb4
    go_wp2_with fail
    go_ret
    exact ⟨rfl, HX.out⟩
  · have q1 : ((ndec tl).1 == 0) = false := beq_eq_false_iff_ne.2 hr
    have HOpen := Lib.hid (fun V W (hV : RdB W V (fileB K ++ tl)) (hs : (fileB K ++ tl).length ≤ 1000000) => open_any V (fileB K ++ tl) W hV hs)
    rw [open_file K tl HOk.out hr] at HOpen
    clear HDr hr
    generalize ndec tl = D at *
    obtain ⟨r, x, m⟩ := D
    dsimp only at q1
    by_cases h500 : 500 < tl.length
    · have q2 : decide ((500 : Int) < (tl.length : Int)) = true := by simp; omega
      go_wp2_with fail
      refine (awake_any _).mono ?_; rintro e w4 ⟨rfl, hb4⟩
      have HX := Lib.hid (bstep ((bstep HB2.out HB23.out).alloc (bstep HB2.out HB23.out).size (.cells #[.int .u64 (x.key : Int), .int .u32 (x.ck : Int), .bool x.del, .slice da x.data.length dc] 31)) hb4)
      clear hb4
      go_wp2_with fail
      go_ret
      exact ⟨rfl, HX.out⟩
    · have q2 : decide ((500 : Int) < (tl.length : Int)) = false := by simp; omega
      have HB3 := Lib.hid (bstep HB2.out HB23.out)
      have HAl := Lib.hid (show Below w3.heap.size w3 ((w3.alloc (.cells #[.int .u64 (x.key : Int), .int .u32 (x.ck : Int), .bool x.del, .slice da x.data.length dc] 31)).alloc (.cells #[] 5)) from ((Below.refl _ _).alloc (Nat.le_refl _) _).alloc (by simp) _)
      have HM0 := Lib.hid (made0 w3.heap.size (w3.heap.size + 1) (w3.alloc (.cells #[.int .u64 (x.key : Int), .int .u32 (x.ck : Int), .bool x.del, .slice da x.data.length dc] 31)) (by simp) (Nat.le_succ _))
      have HRb3 := Lib.hid (show Rd _ 1 (.slice ba (fileB K).length bc) (fileB K).length ((fileB K).map byteV) from RdL.below (HRb.out.below HB23.out) HAl.out)
      have hs0 := HAl.out.size
      go_wp2_with (first | (at_builtin; refine wpList_app (n := 0) (m := (fileB K).length) rfl (.tmp 38) (.tmp 39) 23 rfl elemB w3.heap.size rfl HM0.out rfl HRb3.out (bytes_one _) (by unfold maxLen; omega) (by omega) hs0 ?_; intro v4 w4 hown4 hgr4 hv4; clear hv4; have HO4 := Lib.hid (show OwnB w4 w3.heap.size v4 (fileB K) from ownB_of hown4 (List.nil_append _)); have HB4 := Lib.hid (own_below HAl.out HM0.out hs0 hgr4); have hs4 := HB4.out.size; have HR4 := Lib.hid (show Rd w4 1 (.slice ta tl.length tc) tl.length (tl.map byteV) from RdL.below HT.out (bstep HB3.out HB4.out)); clear hown4 hgr4) | (at_builtin; refine wpList_app (n := (fileB K).length) (m := tl.length) rfl (.tmp 40) (.tmp 41) 23 rfl elemB w3.heap.size rfl HO4.out rfl HR4.out (bytes_one _) (by unfold maxLen; omega) (by omega) hs4 ?_; intro v5 w5 hown5 hgr5 hv5; clear hv5; have HO5 := Lib.hid (show OwnB w5 w3.heap.size v5 (fileB K ++ tl) from ownB_of hown5 (List.map_append ..).symm); have HB5 := Lib.hid (own_below HB4.out HO4.out hs4 hgr5); clear hown5 hgr5))
      refine (HOpen.out v5 w5 HO5.out.rd (by rw [List.length_append]; omega)).mono ?_; rintro e w6 ⟨⟨lv, rs, rfl, hown6, hrs⟩, hb6⟩
      have HB6 := Lib.hid (bstep HB3.out (bstep HB5.out hb6))
      have HC6 := Lib.hid (bstep (bstep HB23.out HB5.out) hb6)
      have hrl : rs.length = K.length := by have := congrArg List.length hrs; rw [List.length_map] at this; rw [this]; exact recsOf_length K 16
      obtain ⟨la, lc, hlv, _⟩ := own_form hown6.row
      subst hlv
      have HRr := Lib.hid hown6.rd
      have HRs := Lib.hid hrs
      clear hown6 hrs hb6 HAl HM0 HRb3 HO4 HB4 HR4 HO5 HB5 HOpen hs0 hs4
      have HK6 := Lib.hid (HRk2.out.below HC6.out)
      have HN6 := Lib.hid (show Rd w6 1 (.slice na es.length nc) es.length ((endsF K).map intV) from Rd.below HRn.out HC6.out)
      have hKn := hel.out
      generalize hA : rs.length = n at *
      generalize hE : es.length = n' at *
      obtain rfl : n' = n := by omega
      have hfl' := hfl.out
      generalize hFL : (fileB K).length = lb at *
      rw [← hfl']
      have HKn := Lib.hid hKn
      have HLb := Lib.hid hfl'
      clear hKn hA hE hfl' hFL hfl hrl hel HRk2 HRn HRb hle
      have hn12 : n' ≤ 12 := hl12
      have q3 : ((lb : Int) != (lb : Int)) = false := by simp
      have q4 : ((n' : Int) != (n' : Int)) = false := by simp
      clear hKl
      go_wp2_with fail
      have HB7 := Lib.hid (show Below w6.heap.size w6 (w6.alloc (.cells #[.int .i64 (fsup.slot : Int), .int .i64 (fsup.gen : Int), .int .i64 (fsup.rev : Int)] 37)) from (Below.refl _ _).alloc (Nat.le_refl _) _)
      go_loopw [65] (fun iv W => ∃ i : Nat, iv = .int .i64 (i : Int) ∧ i ≤ n' ∧ Hid (Below w6.heap.size w6 W)) (fun iv _ => n' - (intOf iv).toNat)
      case atStart => exact ⟨0, rfl, Nat.zero_le _, HB7⟩
      case round =>
        obtain ⟨i, rfl, hi, HB⟩ := hrel
        by_cases hin : i < n'
        · have hiK : i < K.length := by have := HKn.out; omega
          obtain ⟨b1, o1, hla, hd1, c0, c1, c2, c3, c4⟩ := (HRr.out.below HB.out).at hin
          obtain ⟨b2, o2, hka, hd2, d0, d1, d2, d3⟩ := (HK6.out.below HB.out).at hin
          obtain ⟨b3, o3, hna, e0⟩ := rd_cell (Rd.below HN6.out HB.out) (i := i) (u := .int .i64 ((16 + nsum (K.take (i + 1)) : Nat) : Int)) (by rw [List.getElem?_map, endsF_at K i hiK]; rfl)
          subst hla hka hna
          have hx1 : (rat rs i).1 = ⟨((16 : Nat) : Int) + (nsum (K.take i) : Int), K.getD i nd0⟩ := by
            have hri : i < rs.length := by have := congrArg List.length HRs.out; rw [List.length_map, recsOf_length] at this; omega
            have := recsOf_at K 16 i hiK
            rw [← HRs.out, List.getElem?_map, List.getElem?_eq_getElem hri] at this
            unfold rat
            rw [List.getD_eq_getElem?_getD, List.getElem?_eq_getElem hri]
            simpa using this
          have hx2 : (nat' es i).1 = K.getD i nd0 := by
            have hei : i < es.length := by have := congrArg List.length HK.out; rw [List.length_map] at this; omega
            unfold nat'
            rw [← HK.out, List.getD_eq_getElem?_getD, List.getD_eq_getElem?_getD, List.getElem?_map, List.getElem?_eq_getElem hei]; rfl
          have hnx : nsum (K.take (i + 1)) = nsum (K.take i) + nsz (K.getD i nd0).data.length := by rw [take_snoc' hiK, nsum_snoc]
          have hox := (HOk.out (K.getD i nd0) (by rw [List.getD_eq_getElem?_getD, List.getElem?_eq_getElem hiK]; exact List.getElem_mem hiK)).1.1
          have hnb : 16 + nsum (K.take (i + 1)) ≤ 100000 := by
            have := nsum_le (k := K.take (i + 1)) (fun x hx => (HOk.out x (List.mem_of_mem_take hx)).1)
            rw [List.length_take] at this
            omega
          rw [hx1] at hd1 c0 c1 c2 c3
          rw [hx2] at hd2 d0 d1 d2
          dsimp only at hd1 c0 c1 c2 c3
          generalize (rat rs i).2 = v1 at *
          generalize (nat' es i).2 = v2 at *
          clear hx1 hx2
          generalize K.getD i nd0 = X at *
          rw [hnx] at e0 hnb
          rw [← Int.natCast_add] at c0
          rw [← Nat.add_assoc] at e0 hnb
          generalize 16 + nsum (K.take i) = o at *
          have HSame := Lib.hid (fun u : BelowBy wr => (rnsame_any X X v1 v2 u.w' (RdL.below hd1 u.h) (RdL.below hd2 u.h)))
          rw [show decide (X = X) = true from decide_eq_true rfl] at HSame
          have HSz := Lib.hid (fun u : BelowBy wr => (nsize_any X.data.length u.w' (by omega)).mono fun e w' (h : _ ∧ _) => (⟨h.1, h.2 ▸ Below.refl _ _⟩ : e = .returned (.int .i64 ((szN X.data.length : Nat) : Int)) ∧ Below u.w'.heap.size u.w' w'))
          rw [szN_of hox] at HSz
          obtain ⟨a1, k1, hv1, _, _⟩ := hd1.shape0
          obtain ⟨a2, k2, hv2, _, _⟩ := hd2.shape0
          subst hv1 hv2
          obtain ⟨xk, xc, xd, xl⟩ := X
          dsimp only at *
          generalize hxl : xl.length = l at *
          clear hd1 hd2 hnx hxl
          generalize nsz l = s at *
          have c0 := cell_by c0
          have c1 := cell_by c1
          have c2 := cell_by c2
          have c3 := cell_by c3
          have c4 := cell_by c4
          have d0 := cell_by d0
          have d1 := cell_by d1
          have d2 := cell_by d2
          have d3 := cell_by d3
          have j5 : IntKind.i64.wrap ((o : Int) + (s : Int)) = ((o + s : Nat) : Int) := (IntWalk.i64_in _ (by omega)).trans (by omega)
          generalize hos : o + s = e at *
          have e0 := cell_by e0
          have q5 : ((e : Int) != (e : Int)) = false := by simp
          have i1 : (i : Int) < (n' : Int) := by omega
          clear hos
          go_wp2_with fail
          refine wp_region_below (by kernel_rfl) (by kernel_rfl) ?_
          repeat (go_big_quiet_step ((first | exact calls_by (HSame.out _) | exact calls_by (HSz.out _))))
          refine wpQuiet_nil ?_
          intro _ hw'
          obtain ⟨u, hw'⟩ := hw'
          subst hw'
          have HBu := Lib.hid (bstep HB.out u.h)
          clear c0 c1 c2 c3 c4 d0 d1 d2 d3 e0
          go_wp2_with fail
          exact ⟨⟨i + 1, by go_num, by omega, HBu⟩, by simp [intOf]; omega⟩
        · obtain rfl : i = n' := by omega
          go_wp2_with fail
          refine (awake_any _).mono ?_; rintro e w9 ⟨rfl, hb9⟩
          have HX := Lib.hid (bstep (bstep HB6.out HB.out) hb9)
          clear hb9
          go_wp2_with fail
          go_ret
          exact ⟨rfl, HX.out⟩
end Go.Proofs.Ytecflhklpkjhcaa

namespace Go.Proofs.Ytecflhklpkjhcaa
open Go.RowKit Go.ChangeShapes Go.WideShapes Go.Deep

theorem structN : ∃ f0 f1 f2 f3, Try.prog.underlying 31 = some (.struct #[f0, f1, f2, f3]) ∧ (f0.offset = 0 ∧ f1.offset = 1 ∧ f2.offset = 2 ∧ f3.offset = 3) ∧ f0.type = 28 ∧ f1.type = 29 ∧ f2.type = 4 ∧ f3.type = 23 :=
  ⟨_, _, _, _, Try.underlying31, ⟨rfl, rfl, rfl, rfl⟩, rfl, rfl, rfl, rfl⟩
theorem cellsOfN : Try.prog.cellsOf 31 = 4 := by kernel_rfl
theorem cellsOf_bool : Try.prog.cellsOf 4 = 1 := by kernel_rfl
theorem cellsOf_bytes : Try.prog.cellsOf 23 = 1 := by kernel_rfl
section
variable {H : Type} {enc : TypeId × Value → H} {w : World}
theorem open_bytes {fuel : Nat} {cs : List Value} {x : DataW H × List MemPlace} (h : DataW.trod enc Try.prog w 0 (fun _ => true) true fuel 23 cs = some x) : ∃ (v : Value) (l : List UInt8), cs = [v] ∧ RdB w v l := by
  rcases open_ints Try.underlying23 Try.underlying5 (by kernel_rfl) h with ⟨hcs, _⟩ | ⟨x, l, c, zs, hcs, _, hl, hm, hz, _, hcell, hwz⟩
  · exact ⟨_, [], hcs, RdB_nil w⟩
  · obtain ⟨r, _, hr⟩ := isRow_bytes (w := w) (a := some x) (len := l) (cap := c) (zs := zs) (.inr ⟨_, rfl, hl, hm, by simpa using hz, hcell, hwz⟩)
    exact ⟨_, r, hcs, hr⟩
theorem open_need {fuel : Nat} {cs : List Value} {x : DataW H × List MemPlace} (h : DataW.trod enc Try.prog w 0 (fun _ => true) true fuel 31 cs = some x) : ∃ y : Nd × Value, cs = needC y ∧ y.1.Wf ∧ RdB w y.2 y.1.data := by
  obtain ⟨f0, f1, f2, f3, hs, ⟨o0, o1, o2, o3⟩, t0, t1, t2, t3⟩ := structN
  obtain ⟨xs, n, _, _, hlen, hxl, hf⟩ := DataW.trod_struct hs h
  rw [cellsOfN] at hlen
  have hx : xs.length = 4 := by simpa using hxl
  have g : ∀ j (hj : j < 4), xs[j]? = some (xs[j]'(by omega)) := fun j hj => List.getElem?_eq_getElem (by omega)
  have h0 := (hf 0 f0 rfl).trans (g 0 (by omega))
  have h1 := (hf 1 f1 rfl).trans (g 1 (by omega))
  have h2 := (hf 2 f2 rfl).trans (g 2 (by omega))
  have h3 := (hf 3 f3 rfl).trans (g 3 (by omega))
  rw [t0, o0, cellsOf_u64] at h0
  rw [t1, o1, cellsOf_u32] at h1
  rw [t2, o2, cellsOf_bool] at h2
  rw [t3, o3, cellsOf_bytes] at h3
  obtain ⟨k, e0, _, w0⟩ := DataW.trod_int Try.underlying28 h0
  obtain ⟨c, e1, _, w1⟩ := DataW.trod_int Try.underlying29 h1
  obtain ⟨d, e2, _⟩ := DataW.trod_bool Try.underlying4 h2
  obtain ⟨v, l, e3, hr⟩ := open_bytes h3
  have d0 := one_of e0
  have d1 := one_of e1
  have d2 := one_of e2
  have d3 := one_of e3
  have b0 := bounds_of_u64 w0
  have b1 := bounds_of_u32 w1
  obtain ⟨k, rfl⟩ := Int.eq_ofNat_of_zero_le b0.1
  obtain ⟨c, rfl⟩ := Int.eq_ofNat_of_zero_le b1.1
  refine ⟨(⟨k, c, d, l⟩, v), ?_, show k < 18446744073709551616 ∧ c < 4294967296 by omega, hr⟩
  match cs, hlen, d0, d1, d2, d3 with
  | [a, b, c', d], _, d0, d1, d2, d3 =>
    simp at d0 d1 d2 d3
    subst d0 d1 d2 d3
    rfl
theorem open_needs {a : Option Addr} {n cap : Nat} {d : DataW H} {p : List MemPlace} (h : DataW.Trod enc Try.prog w 0 (fun _ => true) true 22 (.slice a n cap) d p) :
    ∃ l : List (Nd × Value), RdN w (.slice a n cap) l ∧ ∀ x ∈ l, x.1.Wf := by
  obtain ⟨fuel, hf⟩ := h
  rcases open_slice Try.underlying22 hf with ⟨hcs, _⟩ | ⟨x, len, cap', m, k, D, Pl, hcs, _, hl, hm, hmm, _, hx⟩
  · simp [Value.cells] at hcs
    obtain ⟨rfl, rfl, rfl⟩ := hcs
    exact ⟨[], rdN_nil w, fun e he => by cases he⟩
  · simp [Value.cells] at hcs
    obtain ⟨rfl, rfl, rfl⟩ := hcs
    simp only [if_true] at hmm
    subst hmm
    rw [cellsOfN] at hx
    haveI : Inhabited (Nd × Value) := ⟨(nd0, .slice none 0 0)⟩
    have each : ∀ i, i < n → ∃ y : Nd × Value, (∀ j, j < 4 → w.cell? (x.add (i * 4 + j)) = (needC y)[j]?) ∧ y.1.Wf ∧ RdB w y.2 y.1.data := fun i hi => by
      obtain ⟨cs', h1, h2⟩ := hx i (by omega)
      obtain ⟨y, rfl, hy⟩ := open_need h2
      obtain ⟨_, _, hc⟩ := World.cells?_some h1
      exact ⟨y, fun j hj => by rw [← hc j hj, Go.Deep.add_add], hy⟩
    obtain ⟨E, hE⟩ := choose_lt each
    refine ⟨(List.range n).map E, ⟨?_, fun e he => ?_⟩, fun e he => ?_⟩
    · rw [List.length_map, List.length_range]
      refine ⟨by rw [needsC_length]; simp, some x, m, by simp, by simpa using hl, hm, fun h => by simp at h, fun hp => ?_⟩
      have hn : 0 < n := by
        rw [needsC_length] at hp; simp at hp; omega
      obtain ⟨b, off, spot⟩ := x
      have hspot : spot = none := by
        have h0 : w.cell? ((⟨b, off, spot⟩ : Addr).add (0 * 4 + 0)) = some (.int .u64 ((E 0).1.key : Int)) := ((hE 0 hn).1 0 (by omega)).trans rfl
        simpa [Addr.add] using World.cell?_spot h0
      subst hspot
      refine ⟨b, off, rfl, fun j u hj => ?_⟩
      have hjl : j < n * 4 := by
        have := (List.getElem?_eq_some_iff.1 hj).1
        rw [needsC_length] at this
        simpa using this
      have hat := flat_at 4 needC (nd0, .slice none 0 0) ((List.range n).map E) (fun _ _ => rfl) (j / 4) (j % 4) (by simp; omega) (by omega)
      rw [show j / 4 * 4 + j % 4 = j by omega] at hat
      have hg : ((List.range n).map E).getD (j / 4) (nd0, .slice none 0 0) = E (j / 4) := by
        rw [List.getD_eq_getElem?_getD, List.getElem?_map, List.getElem?_range (by omega)]; rfl
      rw [hg] at hat
      have hc := (hE (j / 4) (by omega)).1 (j % 4) (by omega)
      rw [show j / 4 * 4 + j % 4 = j by omega, addr_add] at hc
      rw [hc, ← hat]; exact hj
    · obtain ⟨i, hi, rfl⟩ := List.mem_map.1 he
      exact (hE i (List.mem_range.1 hi)).2.2
    · obtain ⟨i, hi, rfl⟩ := List.mem_map.1 he
      exact (hE i (List.mem_range.1 hi)).2.1
end
theorem reads_open (a : Option Addr) (n cap : Nat) (b : Option Addr) (k c : Nat) (zs : List Int) (w : World) (h : ∃ l, RdN w (.slice a n cap) l ∧ ∀ x ∈ l, x.1.Wf) (h2 : IsRow .u8 w b k c zs) :
    Calls Try.prog 3 #[.slice a n cap, .slice b k c] w fun e w' => e = .returned (.bool true) ∧ Below w.heap.size w w' := by
  obtain ⟨l, hl, hw⟩ := h
  obtain ⟨raw, hr, ht⟩ := isRow_bytes h2
  exact reads_walk _ _ l raw w hl hw ht
end Go.Proofs.Ytecflhklpkjhcaa

namespace Go.Proofs.Ytecflhklpkjhcaa
open Go.RowKit

theorem opens_open (a : Option Addr) (n cap : Nat) (zs : List Int) (b : Option Addr) (m c : Nat) (z x : Int) (w : World) (h1 : IsRow .u8 w a n cap zs) (h2 : ∃ l, RdN w (.slice b m c) l ∧ ∀ x ∈ l, x.1.Wf) (h3 : (Lit.int .i64 z).wf = true) (h4 : (Lit.int .u8 x).wf = true) :
    Calls Try.prog 8 #[.slice a n cap, .slice b m c, .int .i64 z, .int .u8 x] w fun e w' => e = .returned (.bool true) ∧ Below w.heap.size w w' := by
  obtain ⟨raw, hr, ht⟩ := isRow_bytes h1
  obtain ⟨l, hl, hw⟩ := h2
  obtain ⟨cb, rfl⟩ := byte_of_u8 h4
  exact opens_walk _ _ raw l z cb w ht hl hw h3
end Go.Proofs.Ytecflhklpkjhcaa
