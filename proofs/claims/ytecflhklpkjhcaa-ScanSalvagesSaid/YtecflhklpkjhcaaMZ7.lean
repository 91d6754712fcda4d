/- Several texts in one, each over the last: The items and the bytes of records, in plain Lean: one record more. No program here. scan.Bytes: the walk; sizes of any number of bytes. ScanSums: the walk. ScanReads: the walk. Salvage: the program's and the reference's. A file with one damaged record, in plain Lean: what is salvaged. No program here. ScanSalvages: the walk. What is known of a slice of needles that came in; ScanReads, from what the form gives. ScanSalvages, from what the form gives of its arguments. -/
import Derived.Test.YtecflhklpkjhcaaGH
import Derived.Test.YtecflhklpkjhcaaPr
import Derived.Test.YtecflhklpkjhcaaPz
import Derived.Test.YtecflhklpkjhcaaOn
import Derived.Test.YtecflhklpkjhcaaNr
import Derived.Test.YtecflhklpkjhcaaPx
import Derived.Test.YtecflhklpkjhcaaOp
import Derived.Deep.Slices
import Derived.Deep.SlicePairs
import Derived.ChangeArms
namespace Go.Proofs.Ytecflhklpkjhcaa

/-- What a key has, f telling the place of its last record, of the records ahead of place n. -/
def hasF (f : Nat → Nat) (L : List Rec) (n : Nat) (k : Int) : Option It :=
  if f k.toNat < n then (match L[f k.toNat]? with
    | some r => if (r.nd.key : Int) = k ∧ r.nd.del = false then some (itR r) else none
    | none => none) else none
theorem hasF_zero (f : Nat → Nat) (L : List Rec) (k : Int) : hasF f L 0 k = none := by unfold hasF; rw [if_neg (by omega)]
theorem hasF_succ (f : Nat → Nat) (L : List Rec) (n : Nat) (r : Rec) (hr : L[n]? = some r) (k : Int) :
    hasF f L (n + 1) k = if f r.nd.key = n ∧ r.nd.del = false ∧ (r.nd.key : Int) = k then some (itR r) else hasF f L n k := by
  unfold hasF
  by_cases h : f k.toNat = n
  · rw [if_pos (by omega), if_neg (show ¬ f k.toNat < n by omega), h, hr]
    by_cases hk : (r.nd.key : Int) = k
    · have : k.toNat = r.nd.key := by omega
      rw [this] at h
      by_cases hd : r.nd.del = false
      · rw [if_pos ⟨h, hd, hk⟩]; simp [hk, hd]
      · rw [if_neg (fun e => hd e.2.1)]; simp [hd]
    · rw [if_neg (fun e => hk e.2.2)]; simp [hk]
  · rw [if_neg (show ¬ (f r.nd.key = n ∧ r.nd.del = false ∧ (r.nd.key : Int) = k) from fun e => h (by rw [← e.2.2]; exact e.1))]
    by_cases hl : f k.toNat < n
    · rw [if_pos (by omega), if_pos hl]
    · rw [if_neg (by omega), if_neg hl]
theorem fnd_ins' (s : List It) (x : It) (k : Int) : fnd (ins s x) k = if x.key = k then some x else fnd s k := by
  by_cases h : x.key = k
  · rw [if_pos h, ← h]; exact fnd_ins_self x s
  · rw [if_neg h]; exact fnd_ins_other x k (Ne.symm h) s
theorem fnd_drp' (s : List It) (key k : Int) : fnd (drp s key) k = if k = key then none else fnd s k := by
  by_cases h : k = key
  · rw [if_pos h, h]; exact fnd_drp_self s key
  · rw [if_neg h]; exact fnd_drp_other key k h s
theorem srt_snoc (u : List It) (x : It) : srt (u ++ [x]) = ins (srt u) x := by rw [srt_append]; rfl
theorem take_snocR {L : List Rec} {n : Nat} {r : Rec} (hr : L[n]? = some r) : L.take (n + 1) = L.take n ++ [r] := by
  rw [List.take_add_one, hr]; rfl
theorem liveT_take (f : Nat → Nat) (L : List Rec) (n : Nat) (r : Rec) (hr : L[n]? = some r) : liveT f (L.take (n + 1)) 0 = liveT f (L.take n) 0 ++ if f r.nd.key = n ∧ r.nd.del = false then [itR r] else [] := by
  have hn := (List.getElem?_eq_some_iff.1 hr).1
  rw [take_snocR hr, liveT_snoc, List.length_take, Nat.min_eq_left (by omega), Nat.zero_add]
theorem fnd_live (f : Nat → Nat) (L : List Rec) (k : Int) : ∀ n, n ≤ L.length → fnd (srt (liveT f (L.take n) 0)) k = hasF f L n k
  | 0, _ => by rw [hasF_zero]; rfl
  | n + 1, h => by
    obtain ⟨r, hr⟩ : ∃ r, L[n]? = some r := ⟨_, List.getElem?_eq_getElem (by omega)⟩
    have ih := fnd_live f L k n (by omega)
    rw [liveT_take f L n r hr, hasF_succ f L n r hr, ← ih]
    by_cases hc : f r.nd.key = n ∧ r.nd.del = false
    · rw [if_pos hc, srt_snoc, fnd_ins']
      show (if (r.nd.key : Int) = k then _ else _) = _
      by_cases hk : (r.nd.key : Int) = k
      · rw [if_pos hk, if_pos ⟨hc.1, hc.2, hk⟩]
      · rw [if_neg hk, if_neg (fun e => hk e.2.2)]
    · rw [if_neg hc, List.append_nil, if_neg (fun e => hc ⟨e.1, e.2.1⟩)]
theorem fnd_itemsP (L : List Rec) (k : Int) : fnd (itemsP L) k = hasF (lastI (keysR L)) L L.length k := by
  have := fnd_live (lastI (keysR L)) L k L.length (Nat.le_refl _)
  rwa [List.take_of_length_le (Nat.le_refl _)] at this
theorem hasF_snoc (L : List Rec) (r : Rec) (k : Int) : hasF (lastI (keysR (L ++ [r]))) (L ++ [r]) (L ++ [r]).length k = if (r.nd.key : Int) = k then (if r.nd.del = false then some (itR r) else none) else hasF (lastI (keysR L)) L L.length k := by
  have hl : ∀ key, lastI (keysR (L ++ [r])) key = if r.nd.key = key then L.length else lastI (keysR L) key := fun key => by
    have : keysR (L ++ [r]) = keysR L ++ [r.nd.key] := by simp [keysR]
    rw [this, lastI_snoc]; simp [keysR]
  have hN : (L ++ [r]).length = L.length + 1 := by simp
  rw [hN]
  unfold hasF
  rw [hl]
  by_cases hk : (r.nd.key : Int) = k
  · rw [if_pos hk, if_pos (show r.nd.key = k.toNat by omega), if_pos (by omega), List.getElem?_append_right (Nat.le_refl _)]
    simp [hk]
  · have hk2 : (¬ r.nd.key = k.toNat) ∨ k < 0 := by omega
    rw [if_neg hk]
    rcases hk2 with hk2 | hk2
    · rw [if_neg hk2]
      by_cases h1 : lastI (keysR L) k.toNat < L.length
      · rw [if_pos (by omega), if_pos h1, List.getElem?_append_left h1]
      · rw [if_neg h1]
        by_cases h2 : lastI (keysR L) k.toNat < L.length + 1
        · rw [if_pos h2, show lastI (keysR L) k.toNat = L.length by omega, List.getElem?_append_right (Nat.le_refl _)]
          simp [hk]
        · rw [if_neg h2]
    · have no : ∀ q : Rec, ¬ ((q.nd.key : Int) = k ∧ q.nd.del = false) := fun q e => by have := e.1; omega
      have a1 : ∀ (x : Nat) (M : List Rec) (n : Nat), (if x < n then (match M[x]? with | some r => if (r.nd.key : Int) = k ∧ r.nd.del = false then some (itR r) else none | none => none) else none) = none := fun x M n => by
        split
        · split
          · rw [if_neg (no _)]
          · rfl
        · rfl
      rw [a1, a1]
/-- The reference's Items: one record after the other. -/
def stepI (s : List It) (r : Rec) : List It := if r.nd.del = true then drp s (r.nd.key : Int) else ins s (itR r)
theorem itemsP_asc (L : List Rec) : Asc (itemsP L) := srt_asc _
theorem itemsP_snoc (L : List Rec) (r : Rec) : itemsP (L ++ [r]) = stepI (itemsP L) r := by
  have pw : ∀ {l : List It}, Asc l → l.Pairwise fun a b => a.key < b.key := fun h => ascR_pw ((ascR_iff _).2 h)
  refine asc_ext _ _ (pw (itemsP_asc _)) ?_ fun k => ?_
  · unfold stepI
    split
    · exact pw (drp_asc (itemsP_asc L) _)
    · exact ascR_pw (ins_asc _ _ ((ascR_iff _).2 (itemsP_asc L)))
  · rw [fnd_itemsP, hasF_snoc, ← fnd_itemsP]
    unfold stepI
    cases hd : r.nd.del
    · rw [if_neg (show ¬ (false = true) by decide), fnd_ins']
      show _ = if (r.nd.key : Int) = k then _ else _
      simp
    · rw [if_pos rfl, fnd_drp']
      by_cases hk : (r.nd.key : Int) = k
      · rw [if_pos hk, if_pos hk.symm]; simp
      · rw [if_neg hk, if_neg (Ne.symm hk)]
theorem itemsP_nil : itemsP [] = [] := rfl
theorem itemsP_length (L : List Rec) : (itemsP L).length ≤ L.length := Nat.le_trans (srt_length _) (liveT_length _ L 0)

/-! ### Bytes -/
def szR (r : Rec) : Nat := szN r.nd.data.length
def liveB (f : Nat → Nat) : List Rec → Nat → Nat
  | [], _ => 0
  | r :: l, i => (if f r.nd.key = i ∧ r.nd.del = false then szR r else 0) + liveB f l (i + 1)
def restB (f : Nat → Nat) : List Rec → Nat → Nat
  | [], _ => 0
  | r :: l, i => (if f r.nd.key = i ∧ r.nd.del = false then 0 else szR r) + restB f l (i + 1)
def allB (L : List Rec) : Nat := (L.map szR).sum
theorem liveB_snoc (f : Nat → Nat) : ∀ (l : List Rec) (r : Rec) (i : Nat), liveB f (l ++ [r]) i = liveB f l i + (if f r.nd.key = i + l.length ∧ r.nd.del = false then szR r else 0)
  | [], r, i => by simp [liveB]
  | x :: l, r, i => by
    show _ + liveB f (l ++ [r]) (i + 1) = _ + liveB f l (i + 1) + _
    rw [liveB_snoc f l r (i + 1), List.length_cons, show i + 1 + l.length = i + (l.length + 1) by omega, Nat.add_assoc]
theorem restB_snoc (f : Nat → Nat) : ∀ (l : List Rec) (r : Rec) (i : Nat), restB f (l ++ [r]) i = restB f l i + (if f r.nd.key = i + l.length ∧ r.nd.del = false then 0 else szR r)
  | [], r, i => by simp [restB]
  | x :: l, r, i => by
    show _ + restB f (l ++ [r]) (i + 1) = _ + restB f l (i + 1) + _
    rw [restB_snoc f l r (i + 1), List.length_cons, show i + 1 + l.length = i + (l.length + 1) by omega, Nat.add_assoc]
theorem live_rest (f : Nat → Nat) : ∀ (l : List Rec) (i : Nat), liveB f l i + restB f l i = allB l
  | [], _ => rfl
  | x :: l, i => by
    have ih := live_rest f l (i + 1)
    show (if _ then _ else _) + liveB f l (i + 1) + ((if _ then _ else _) + restB f l (i + 1)) = szR x + allB l
    split <;> omega
theorem allB_le (l : List Rec) : allB l ≤ l.length * 4127 := by
  induction l with
  | nil => exact Nat.le_refl _
  | cons x l ih =>
    have := szN_le x.nd.data.length
    show szR x + allB l ≤ _
    unfold szR
    rw [List.length_cons]; omega
def liveP (L : List Rec) : Nat := liveB (lastI (keysR L)) L 0
def restP (L : List Rec) : Nat := restB (lastI (keysR L)) L 0
def sumI (s : List It) : Nat := (s.map fun x => szN x.size.toNat).sum
theorem sumI_append (s t : List It) : sumI (s ++ t) = sumI s + sumI t := by simp [sumI]
theorem sumI_le (s : List It) : sumI s ≤ s.length * 4127 := by
  induction s with
  | nil => exact Nat.le_refl _
  | cons x l ih =>
    have := szN_le x.size.toNat
    show szN x.size.toNat + sumI l ≤ _
    rw [List.length_cons]; omega
theorem sumI_ins (x : It) : ∀ s : List It, fnd s x.key = none → sumI (ins s x) = sumI s + szN x.size.toNat
  | [], _ => by simp [ins, sumI]
  | y :: s, h => by
    rw [fnd_cons] at h
    by_cases e : y.key = x.key
    · rw [if_pos e] at h; cases h
    · rw [if_neg e] at h
      have ih := sumI_ins x s h
      simp only [ins]
      split
      · show szN y.size.toNat + sumI (ins s x) = szN y.size.toNat + sumI s + _
        omega
      · show szN x.size.toNat + (szN y.size.toNat + sumI s) = szN y.size.toNat + sumI s + _
        omega
theorem live_sum (f : Nat → Nat) (L : List Rec) : ∀ n, n ≤ L.length → sumI (srt (liveT f (L.take n) 0)) = liveB f (L.take n) 0
  | 0, _ => rfl
  | n + 1, h => by
    obtain ⟨r, hr⟩ : ∃ r, L[n]? = some r := ⟨_, List.getElem?_eq_getElem (by omega)⟩
    have ih := live_sum f L n (by omega)
    have hf := fnd_live f L (r.nd.key : Int) n (by omega)
    rw [liveT_take f L n r hr, take_snocR hr, liveB_snoc, List.length_take, Nat.min_eq_left (by omega), Nat.zero_add, ← ih]
    by_cases hc : f r.nd.key = n ∧ r.nd.del = false
    · rw [if_pos hc, if_pos hc, srt_snoc, sumI_ins]
      · rfl
      · show fnd _ (r.nd.key : Int) = none
        rw [hf]; unfold hasF; rw [if_neg (by rw [Int.toNat_natCast]; omega)]
    · rw [if_neg hc, if_neg hc, List.append_nil]; rfl
theorem sum_itemsP (L : List Rec) : sumI (itemsP L) = liveP L := by
  have := live_sum (lastI (keysR L)) L L.length (Nat.le_refl _)
  rwa [List.take_of_length_le (Nat.le_refl _)] at this
theorem live_all (L : List Rec) : liveP L + restP L = allB L := live_rest _ L 0
end Go.Proofs.Ytecflhklpkjhcaa

namespace Go.Proofs.Ytecflhklpkjhcaa
open Go.RowKit Go.Maps

theorem nsizeB (n : Nat) (w : World) : Calls Try.prog 16 #[.int .i64 (n : Int)] w fun e w' => e = .returned (.int .i64 ((szN n : Nat) : Int)) ∧ w = w' := by
  by_cases hn : n ≤ 4096
  · have HS := Lib.hid (show ((szN n : Nat) : Int) = (20 + (n : Int) + 4 + 8 - 1) / 8 * 8 by unfold szN nsz; rw [if_pos hn]; omega)
    have hd : decide ((4096 : Int) < (n : Int)) = false := by simp; omega
    have hd2 : decide ((n : Int) < 0) = false := by simp
    go_enter Try.func16, Try.ntmps16
    go_wp2_with fail
    go_ret
    exact ⟨ret_int (by rw [HS.out]), rfl⟩
  · have HS := Lib.hid (show szN n = 0 by unfold szN; rw [if_neg hn])
    have hd : decide ((4096 : Int) < (n : Int)) = true := by simp; omega
    have hd2 : decide ((n : Int) < 0) = false := by simp
    go_enter Try.func16, Try.ntmps16
    go_wp2_with fail
    go_ret
    exact ⟨ret_int (by rw [HS.out]; rfl), rfl⟩
theorem rsizeB (n : Nat) (w : World) : Calls Try.prog 39 #[.int .i64 (n : Int)] w fun e w' => e = .returned (.int .i64 ((szN n : Nat) : Int)) ∧ w = w' := by
  by_cases hn : n ≤ 4096
  · have HS := Lib.hid (show ((szN n : Nat) : Int) = (20 + (n : Int) + 4 + 8 - 1) / 8 * 8 by unfold szN nsz; rw [if_pos hn]; omega)
    have hd : decide ((4096 : Int) < (n : Int)) = false := by simp; omega
    have hd2 : decide ((n : Int) < 0) = false := by simp
    go_enter Try.func39, Try.ntmps39
    go_wp2_with fail
    go_ret
    exact ⟨ret_int (by rw [HS.out]; omega), rfl⟩
  · have HS := Lib.hid (show szN n = 0 by unfold szN; rw [if_neg hn])
    have hd : decide ((4096 : Int) < (n : Int)) = true := by simp; omega
    have hd2 : decide ((n : Int) < 0) = false := by simp
    go_enter Try.func39, Try.ntmps39
    go_wp2_with fail
    go_ret
    exact ⟨ret_int (by rw [HS.out]; rfl), rfl⟩
set_option maxRecDepth 100000 in
set_option maxHeartbeats 8000000 in
theorem bytes_any (v : Value) (es : List (Rec × Value)) (w : World) (h : RdR w v es) (hk : ∀ p ∈ es, p.1.nd.key < 18446744073709551616) (hs : es.length ≤ 50000) :
    Calls Try.prog 19 #[v] w fun e w' => e = .returned (.tuple #[.int .i64 (liveP (es.map (·.1)) : Int), .int .i64 (restP (es.map (·.1)) : Int)]) ∧ Below w.heap.size w w' := by
  obtain ⟨a, cap, rfl, h1, h2⟩ := h.shape
  have Hw0 := Lib.hid h
  have HK := Lib.hid hk
  have HLa := Lib.hid (last_any _ es w h hk (by omega))
  have HM := Lib.hid (show ∀ j, j < es.length → rat es j ∈ es from fun j => rat_mem)
  have hat0 : ∀ j, j < es.length → (es.map (·.1))[j]? = some (rat es j).1 := fun j hj => by
    unfold rat
    simp [List.getD_eq_getElem?_getD, List.getElem?_eq_getElem hj]
  have HLP := Lib.hid (show liveP (es.map (·.1)) = liveB (lastI (keysR (es.map (·.1)))) (es.map (·.1)) 0 ∧ restP (es.map (·.1)) = restB (lastI (keysR (es.map (·.1)))) (es.map (·.1)) 0 from ⟨rfl, rfl⟩)
  have HBd := Lib.hid (show ∀ j, j ≤ es.length → liveB (lastI (keysR (es.map (·.1)))) ((es.map (·.1)).take j) 0 + restB (lastI (keysR (es.map (·.1)))) ((es.map (·.1)).take j) 0 ≤ 206350000 from fun j hj => by
    rw [live_rest]
    have := allB_le ((es.map (·.1)).take j)
    rw [List.length_take] at this
    omega)
  generalize lastI (keysR (es.map (·.1))) = f at *
  have HS := Lib.hid (show ∀ j, j < es.length → liveB f ((es.map (·.1)).take (j + 1)) 0 = liveB f ((es.map (·.1)).take j) 0 + (if f (rat es j).1.nd.key = j ∧ (rat es j).1.nd.del = false then szR (rat es j).1 else 0) ∧
      restB f ((es.map (·.1)).take (j + 1)) 0 = restB f ((es.map (·.1)).take j) 0 + (if f (rat es j).1.nd.key = j ∧ (rat es j).1.nd.del = false then 0 else szR (rat es j).1) from fun j hj => by
    have hl : (es.map (·.1)).length = es.length := List.length_map ..
    rw [take_snocR (hat0 j hj), liveB_snoc, restB_snoc, List.length_take, Nat.min_eq_left (by omega), Nat.zero_add]
    exact ⟨rfl, rfl⟩)
  have HE := Lib.hid (show (es.map (·.1)).take es.length = es.map (·.1) from List.take_of_length_le (by simp))
  clear hat0
  generalize hn : es.length = n at *
  clear h hk hn
  generalize liveP (es.map (·.1)) = R1 at *
  generalize restP (es.map (·.1)) = R2 at *
  generalize es.map (·.1) = L at *
  go_enter Try.func19, Try.ntmps19
  go_wp2_with fail
  refine HLa.out.mono ?_; rintro e w1 ⟨rfl, hmp, hb1⟩
  have hlt1 : w.heap.size < w1.heap.size := by
    obtain ⟨D, ⟨es', c, hh, _⟩, _⟩ := hmp
    exact (Array.getElem?_eq_some_iff.1 hh).1
  have HMp := Lib.hid hmp
  have HB1 := Lib.hid hb1
  clear hmp hb1 HLa
  go_wp2_with fail
  go_loopw [2, 3, 12] (fun lv gv iv W => ∃ i p q : Nat, iv = .int .i64 (i : Int) ∧ lv = .int .i64 (p : Int) ∧ gv = .int .i64 (q : Int) ∧ i ≤ n ∧ p + q ≤ 206350000 ∧ Hid (p = liveB f (L.take i) 0 ∧ q = restB f (L.take i) 0) ∧ Hid (Below w1.heap.size w1 W)) (fun _ _ iv _ => n - (intOf iv).toNat)
  case atStart => exact ⟨0, 0, 0, by rfl, rfl, rfl, Nat.zero_le _, by omega, Lib.hid ⟨rfl, rfl⟩, Lib.hid (Below.refl _ _)⟩
  case round =>
    obtain ⟨i, p, q, rfl, rfl, rfl, hi, hpq, Hm, HB⟩ := hrel
    have hsz := HB.out.size
    by_cases hin : i < n
    · have hr := Hw0.out.below (bstep HB1.out HB.out)
      obtain ⟨pb, poff, rfl, hd, c0, c1, c2, c3, c4⟩ := hr.at hin
      have hkk := HK.out _ (HM.out i hin)
      have hSi := HS.out i hin
      have hBd := HBd.out (i + 1) (by omega)
      clear hr
      generalize rat es i = X at *
      obtain ⟨⟨off, x⟩, dv⟩ := X
      dsimp only at *
      obtain ⟨da, dc, hdv, _, _⟩ := hd.shape0
      subst hdv
      obtain ⟨D, hD, hat⟩ := HMp.out.below hlt1 HB.out
      have HD := Lib.hid hD
      have HAt := Lib.hid (hat x.key hkk)
      have i1 : (i : Int) < (n : Int) := by omega
      clear hd hD hat
      have hkey : keyOf Try.prog 28 (.int .u64 (x.key : Int)) = some (.int .u64 (x.key : Int)) := keyOf_int_mk Try.underlying28 (wf_key hkk)
      generalize hg : f x.key = g at *
      obtain ⟨xk, xc, xd, xl⟩ := x
      dsimp only at *
      have hzr : szR ⟨off, ⟨xk, xc, xd, xl⟩⟩ = szN xl.length := rfl
      rw [hzr] at hSi
      clear hzr
      generalize hl : xl.length = l at *
      have HZ := Lib.hid (fun W => nsizeB l W)
      have hz := szN_le l
      generalize szN l = z at *
      rw [hSi.1, hSi.2, ← Hm.out.1, ← Hm.out.2] at hBd
      have HSi := Lib.hid hSi
      clear hSi
      have hNB : Below w1.heap.size w1 (wr.alloc (.cells #[.int .i64 off, .int .u64 (xk : Int), .int .u32 (xc : Int), .bool xd, .slice da l dc] 43)) := HB.out.alloc hsz _
      have HNB := Lib.hid hNB
      clear hNB
      by_cases hgi : g = i
      · have q1 : ((g : Int) == (i : Int)) = true := beq_iff_eq.2 (by omega)
        cases xd
        · rw [if_pos ⟨hgi, rfl⟩, if_pos ⟨hgi, rfl⟩] at hBd
          have hN := HSi.out
          rw [if_pos ⟨hgi, rfl⟩, if_pos ⟨hgi, rfl⟩, ← Hm.out.1, ← Hm.out.2] at hN
          have HN := Lib.hid (show p + z = liveB f (L.take (i + 1)) 0 ∧ q = restB f (L.take (i + 1)) 0 from ⟨hN.1.symm, hN.2.symm⟩)
          have hpz : IntKind.i64.wrap ((p : Int) + (z : Int)) = ((p + z : Nat) : Int) := (IntWalk.i64_in _ (by omega)).trans (by omega)
          clear hl hg HSi hgi hN
          go_wp2_with fail
          refine (HZ.out _).mono ?_; rintro e w2 ⟨rfl, rfl⟩
          go_wp2_with (at_lookup; refine wpList_lookup_own_int _ rfl _ _ 83 rfl 28 3 .i64 lawK Try.underlying83 Try.underlying3 (zeroI _) w.heap.size n _ rfl (HD.out.alloc _) _ _ rfl hkey ?_; intro c hat hwc; have hc := hat.symm.trans HAt.out; injection hc with hc; injection hc with _ hc; subst hc; clear hat hwc)
          exact ⟨⟨i + 1, p + z, q, by go_num, rfl, rfl, by omega, by omega, HN, HNB⟩, by simp [intOf]; omega⟩
        · rw [if_neg (fun e => Bool.noConfusion e.2), if_neg (fun e => Bool.noConfusion e.2)] at hBd
          have hN := HSi.out
          rw [if_neg (fun e => Bool.noConfusion e.2), if_neg (fun e => Bool.noConfusion e.2), ← Hm.out.1, ← Hm.out.2] at hN
          have HN := Lib.hid (show p = liveB f (L.take (i + 1)) 0 ∧ q + z = restB f (L.take (i + 1)) 0 from ⟨hN.1.symm, hN.2.symm⟩)
          have hpz : IntKind.i64.wrap ((q : Int) + (z : Int)) = ((q + z : Nat) : Int) := (IntWalk.i64_in _ (by omega)).trans (by omega)
          clear hl hg HSi hgi hN
          go_wp2_with fail
          refine (HZ.out _).mono ?_; rintro e w2 ⟨rfl, rfl⟩
          go_wp2_with (at_lookup; refine wpList_lookup_own_int _ rfl _ _ 83 rfl 28 3 .i64 lawK Try.underlying83 Try.underlying3 (zeroI _) w.heap.size n _ rfl (HD.out.alloc _) _ _ rfl hkey ?_; intro c hat hwc; have hc := hat.symm.trans HAt.out; injection hc with hc; injection hc with _ hc; subst hc; clear hat hwc)
          exact ⟨⟨i + 1, p, q + z, by go_num, rfl, rfl, by omega, by omega, HN, HNB⟩, by simp [intOf]; omega⟩
      · have q1 : ((g : Int) == (i : Int)) = false := beq_eq_false_iff_ne.2 (by omega)
        rw [if_neg (fun e => hgi e.1), if_neg (fun e => hgi e.1)] at hBd
        have hN := HSi.out
        rw [if_neg (fun e => hgi e.1), if_neg (fun e => hgi e.1), ← Hm.out.1, ← Hm.out.2] at hN
        have HN := Lib.hid (show p = liveB f (L.take (i + 1)) 0 ∧ q + z = restB f (L.take (i + 1)) 0 from ⟨hN.1.symm, hN.2.symm⟩)
        have hpz : IntKind.i64.wrap ((q : Int) + (z : Int)) = ((q + z : Nat) : Int) := (IntWalk.i64_in _ (by omega)).trans (by omega)
        clear hl hg HSi hgi hN
        go_wp2_with fail
        refine (HZ.out _).mono ?_; rintro e w2 ⟨rfl, rfl⟩
        go_wp2_with (at_lookup; refine wpList_lookup_own_int _ rfl _ _ 83 rfl 28 3 .i64 lawK Try.underlying83 Try.underlying3 (zeroI _) w.heap.size n _ rfl (HD.out.alloc _) _ _ rfl hkey ?_; intro c hat hwc; have hc := hat.symm.trans HAt.out; injection hc with hc; injection hc with _ hc; subst hc; clear hat hwc)
        exact ⟨⟨i + 1, p, q + z, by go_num, rfl, rfl, by omega, by omega, HN, HNB⟩, by simp [intOf]; omega⟩
    · obtain rfl : i = n := by omega
      have hm := Hm.out
      rw [HE.out] at hm
      go_wp2_with fail
      exact bodyPost_ret (v := .tuple #[.int .i64 (p : Int), .int .i64 (q : Int)]) (by simp [results, Try.results19, go_sem]) rfl ⟨by rw [HLP.out.1, HLP.out.2, ← hm.1, ← hm.2], bstep HB1.out HB.out⟩
end Go.Proofs.Ytecflhklpkjhcaa

namespace Go.Proofs.Ytecflhklpkjhcaa
open Go.RowKit

theorem sms_rd {w w' : World} {lv : Value} {es : List (Nd × Value)} (h : w'.ownsRow w.heap.size 31 4 lv es.length (needsC es)) (hd : ∀ p ∈ es, RdB w p.2 p.1.data) (hb : Below w.heap.size w w') : RdN w' lv es :=
  ⟨own_rd h, fun p hp => RdL.below (hd p hp) hb⟩
theorem sms_ok {es : List (Nd × Value)} {N : List Nd} (h : es.map (·.1) = smallF N) (hN : ∀ x ∈ N, x.Wf) : ∀ p ∈ es, p.1.ok ∧ p.1.Wf := fun p hp => by
  have : p.1 ∈ smallF N := by rw [← h]; exact List.mem_map.2 ⟨p, hp, rfl⟩
  obtain ⟨x, hx, e⟩ := List.mem_map.1 this
  rw [← e]
  exact ⟨sm1_ok x, sm1_wf (hN x (List.mem_of_mem_take hx))⟩
theorem sms_len {es : List (Nd × Value)} {N : List Nd} (h : es.map (·.1) = smallF N) : es.length ≤ 12 := by
  have := congrArg List.length h
  rw [List.length_map] at this
  rw [this]; unfold smallF; rw [List.length_map, List.length_take]; omega
theorem allB_recsOf : ∀ (K : List Nd) (p : Nat), (∀ x ∈ K, x.ok) → allB (recsOf p K) = nsum K
  | [], _, _ => rfl
  | x :: K, p, h => by
    show szR ⟨p, x⟩ + allB (recsOf (p + nsz x.data.length) K) = _
    rw [allB_recsOf K _ (fun y hy => h y (by simp [hy])), nsum_cons]
    show szN x.data.length + _ = _
    rw [szN_of (h x (by simp)).1]
theorem open_whole (K : List Nd) (hk : ∀ x ∈ K, x.ok ∧ x.Wf) : openF (fileB K) = (0, fsup, recsOf 16 K, 16 + nsum K) := by
  have := open_file K [] hk ndec_nil
  rwa [List.append_nil] at this
theorem recs_keys {es : List (Rec × Value)} {K : List Nd} {p : Nat} (h : es.map (·.1) = recsOf p K) (hk : ∀ x ∈ K, x.ok ∧ x.Wf) : ∀ q ∈ es, q.1.nd.key < 18446744073709551616 := fun q hq => by
  have h1 : (es.map (·.1)).map (·.nd) = K := by rw [h]; exact recsOf_nd _ _
  have : q.1.nd ∈ K := by rw [← h1]; exact List.mem_map.2 ⟨_, List.mem_map.2 ⟨q, hq, rfl⟩, rfl⟩
  exact (hk _ this).2.1
theorem recs_len {es : List (Rec × Value)} {K : List Nd} {p : Nat} (h : es.map (·.1) = recsOf p K) : es.length = K.length := by
  have := congrArg List.length h
  rwa [List.length_map, recsOf_length] at this
set_option maxRecDepth 100000 in
set_option maxHeartbeats 2000000 in
theorem sums_walk (v : Value) (ns : List (Nd × Value)) (w : World) (h : RdN w v ns) (hwf : ∀ p ∈ ns, p.1.Wf) :
    Calls Try.prog 7 #[v] w fun e w' => e = .returned (.bool true) ∧ Below w.heap.size w w' := by
  have HSm := Lib.hid (small_any v ns w h hwf)
  have HN := Lib.hid (show ∀ x ∈ ns.map (·.1), x.Wf from fun x hx => by obtain ⟨p, hp, rfl⟩ := List.mem_map.1 hx; exact hwf p hp)
  generalize ns.map (·.1) = N at *
  clear h hwf
  go_enter Try.func7, Try.ntmps7
  go_wp2_with fail
  refine HSm.out.mono ?_; rintro e w1 ⟨kv, es, rfl, hown1, hes, hdat, hb1⟩
  have HFl := Lib.hid (file_any kv es w1 (sms_rd hown1 hdat hb1) (sms_ok hes HN.out) (sms_len hes))
  have HOk := Lib.hid (show ∀ x ∈ es.map (·.1), x.ok ∧ x.Wf from fun x hx => by obtain ⟨p, hp, rfl⟩ := List.mem_map.1 hx; exact sms_ok hes HN.out p hp)
  have hl12 := sms_len hes
  have HB1 := Lib.hid hb1
  have hKl0 : (es.map (·.1)).length ≤ 12 := by rw [List.length_map]; exact hl12
  generalize es.map (·.1) = K at *
  clear hown1 hes hdat hb1 HSm HN hl12
  go_wp2_with fail
  refine HFl.out.mono ?_; rintro e w2 ⟨bv, nv, rfl, hownb, hownn, hb2⟩
  have hle := nsum_le (k := K) (fun x hx => (HOk.out x hx).1)
  have hfl := fileB_length K
  have HTo := Lib.hid (open_any _ (fileB K) w2 hownb.rd (by omega))
  rw [open_whole K HOk.out] at HTo
  obtain ⟨ba, bc, hbv, _⟩ := own_form hownb
  obtain ⟨na, nc, hnv, _⟩ := own_form hownn
  subst hbv hnv
  have HB2 := Lib.hid (bstep HB1.out hb2)
  clear hownb hownn hb2 HFl
  generalize hLB : (fileB K).length = lb at *
  have HA := Lib.hid (allB_recsOf K 16 (fun x hx => (HOk.out x hx).1))
  have HKey := Lib.hid (fun es he => recs_keys (es := es) (K := K) (p := 16) he HOk.out)
  have HLen := Lib.hid (fun es he => recs_len (es := es) (K := K) (p := 16) he)
  have HLA := Lib.hid (live_all (recsOf 16 K))
  generalize recsOf 16 K = L at *
  generalize nsum K = s at *
  have HFl := Lib.hid hfl
  have HLe := Lib.hid hle
  clear HOk hLB hfl hle
  go_wp2_with fail
  refine HTo.out.mono ?_; rintro e w3 ⟨⟨lv, rs, rfl, hown3, hrs⟩, hb3⟩
  have HB3 := Lib.hid (bstep HB2.out hb3)
  have HBa := Lib.hid (HB3.out.alloc HB3.out.size (.cells #[.int .i64 (fsup.slot : Int), .int .i64 (fsup.gen : Int), .int .i64 (fsup.rev : Int)] 37))
  have HBy := Lib.hid (bytes_any lv rs _ (hown3.rd.below ((Below.refl _ _).alloc (Nat.le_refl _) (.cells #[.int .i64 (fsup.slot : Int), .int .i64 (fsup.gen : Int), .int .i64 (fsup.rev : Int)] 37))) (HKey.out rs hrs) (by have := HLen.out rs hrs; omega))
  rw [hrs] at HBy
  obtain ⟨la, lc, hlv, _⟩ := own_form hown3.row
  subst hlv
  clear hown3 hrs hb3 HTo HKey HLen
  go_wp2_with fail
  refine HBy.out.mono ?_; rintro e w4 ⟨rfl, hb4⟩
  have HB4 := Lib.hid (bstep HBa.out hb4)
  have hla := HLA.out
  rw [HA.out] at hla
  clear hb4 HBy HLA HA
  generalize liveP L = p at *
  generalize restP L = q at *
  clear HB3 HBa HB2 HB1
  have hfl := HFl.out
  have hle := HLe.out
  have j1 : IntKind.i64.wrap ((p : Int) + (q : Int)) = (p : Int) + (q : Int) := IntWalk.i64_in _ (by omega)
  have j2 : IntKind.i64.wrap ((p : Int) + (q : Int) + 16) = 16 + (s : Int) := (IntWalk.i64_in _ (by omega)).trans (by omega)
  have e1 : (q : Int) = (s : Int) - (p : Int) := by omega
  have g1 : decide ((0 : Int) ≤ (p : Int)) = true := by simp
  have g2 : decide ((0 : Int) ≤ (q : Int)) = true := by simp
  have g3 : ((16 : Int) + (s : Int) == 16 + (s : Int)) = true := by simp
  have g4 : ((16 : Int) + (s : Int) == (lb : Int)) = true := by rw [beq_iff_eq]; omega
  clear hla hfl hle HFl HLe e1
  go_wp2_with fail
  refine (awake_any _).mono ?_; rintro e w5 ⟨rfl, hb5⟩
  have HX := Lib.hid (bstep HB4.out hb5)
  clear hb5
  go_wp2_with fail
  go_ret
  exact ⟨rfl, HX.out⟩
end Go.Proofs.Ytecflhklpkjhcaa

namespace Go.Proofs.Ytecflhklpkjhcaa
open Go.RowKit

theorem recsOf_at : ∀ (K : List Nd) (p i : Nat), i < K.length → (recsOf p K)[i]? = some ⟨p + nsum (K.take i), K.getD i nd0⟩
  | [], _, _, h => by simp at h
  | x :: K, p, 0, _ => by simp [recsOf, nsum]
  | x :: K, p, i + 1, h => by
    have ih := recsOf_at K (p + nsz x.data.length) i (by simpa using h)
    show (recsOf (p + nsz x.data.length) K)[i]? = _
    rw [ih, List.take_succ_cons, nsum_cons]
    simp [Int.add_assoc]
theorem endsF_length (K : List Nd) : (endsF K).length = K.length := by simp [endsF]
theorem endsF_at (K : List Nd) (i : Nat) (h : i < K.length) : (endsF K)[i]? = some ((16 + nsum (K.take (i + 1)) : Nat) : Int) := by
  simp [endsF, h]
theorem take_snoc' {K : List Nd} {i : Nat} (h : i < K.length) : K.take (i + 1) = K.take i ++ [K.getD i nd0] := by
  rw [List.take_add_one, List.getElem?_eq_getElem h, List.getD_eq_getElem?_getD, List.getElem?_eq_getElem h]; rfl
theorem rd_cell {w : World} {a : Option Addr} {n cap : Nat} {cs : List Value} (h : Rd w 1 (.slice a n cap) n cs) {i : Nat} {u : Value} (hi : cs[i]? = some u) : ∃ b off, a = some ⟨b, off, none⟩ ∧ w.cell? ⟨b, off + i, none⟩ = some u := by
  obtain ⟨_, a', cap', e, _, _, _, hc⟩ := h
  injection e with e1
  obtain ⟨b, off, e2, hc⟩ := hc (by have := (List.getElem?_eq_some_iff.1 hi).1; omega)
  exact ⟨b, off, e1.trans e2, hc i u hi⟩
theorem made0 (B k : Nat) (w : World) (hk : w.heap.size = k) (hB : B ≤ k) : (w.alloc (.cells #[] 5)).ownsRow B 5 1 (.slice (some ⟨k, 0, none⟩) 0 0) 0 [] := by
  subst hk; exact World.ownsRow_made (size := 1) w #[] 0 hB (by decide) rfl
/-- The needles that small leaves, for reading. -/
theorem sm_rd {w w' : World} {lv : Value} {es : List (Nd × Value)} (h : w'.ownsRow w.heap.size 31 4 lv es.length (needsC es)) (hd : ∀ p ∈ es, RdB w p.2 p.1.data) (hb : Below w.heap.size w w') : RdN w' lv es :=
  ⟨own_rd h, fun p hp => RdL.below (hd p hp) hb⟩
theorem sm_ok {es : List (Nd × Value)} {N : List Nd} (h : es.map (·.1) = smallF N) (hN : ∀ x ∈ N, x.Wf) : ∀ p ∈ es, p.1.ok ∧ p.1.Wf := fun p hp => by
  have : p.1 ∈ smallF N := by rw [← h]; exact List.mem_map.2 ⟨p, hp, rfl⟩
  obtain ⟨x, hx, e⟩ := List.mem_map.1 this
  rw [← e]
  exact ⟨sm1_ok x, sm1_wf (hN x (List.mem_of_mem_take hx))⟩
theorem sm_len {es : List (Nd × Value)} {N : List Nd} (h : es.map (·.1) = smallF N) : es.length ≤ 12 := by
  have := congrArg List.length h
  rw [List.length_map] at this
  rw [this]; unfold smallF; rw [List.length_map, List.length_take]; omega
set_option maxRecDepth 100000 in
set_option maxHeartbeats 2000000 in
theorem reads_walk (v tv : Value) (ns : List (Nd × Value)) (tl : List UInt8) (w : World) (h : RdN w v ns) (hwf : ∀ p ∈ ns, p.1.Wf) (ht : RdB w tv tl) :
    Calls Try.prog 3 #[v, tv] w fun e w' => e = .returned (.bool true) ∧ Below w.heap.size w w' := by
  have HSm := Lib.hid (small_any v ns w h hwf)
  have HN := Lib.hid (show ∀ x ∈ ns.map (·.1), x.Wf from fun x hx => by obtain ⟨p, hp, rfl⟩ := List.mem_map.1 hx; exact hwf p hp)
  have HT := Lib.hid ht
  obtain ⟨ta, tc, rfl, ht1, ht2⟩ := ht.shape0
  have ht3 := lt63 ht1 ht2
  generalize ns.map (·.1) = N at *
  clear h hwf ht
  go_enter Try.func3, Try.ntmps3
  go_wp2_with fail
  refine HSm.out.mono ?_; rintro e w1 ⟨kv, es, rfl, hown1, hes, hdat, hb1⟩
  have HFl := Lib.hid (file_any kv es w1 (sm_rd hown1 hdat hb1) (sm_ok hes HN.out) (sm_len hes))
  have HOk := Lib.hid (show ∀ x ∈ es.map (·.1), x.ok ∧ x.Wf from fun x hx => by obtain ⟨p, hp, rfl⟩ := List.mem_map.1 hx; exact sm_ok hes HN.out p hp)
  have hl12 := sm_len hes
  have HRk := Lib.hid (sm_rd hown1 hdat hb1)
  obtain ⟨ka, kc, hkv, _⟩ := own_form hown1
  subst hkv
  have HB1 := Lib.hid hb1
  clear hown1 hes hdat hb1 HSm HN
  generalize hK : es.map (·.1) = K at *
  have HK := Lib.hid hK
  clear hK
  go_wp2_with fail
  refine HFl.out.mono ?_; rintro e w2 ⟨bv, nv, rfl, hownb, hownn, hb2⟩
  have hfl := Lib.hid (fileB_length K)
  have hle := nsum_le (k := K) (fun x hx => (HOk.out x hx).1)
  have hKl : K.length ≤ 12 := by have := congrArg List.length HK.out; rw [List.length_map] at this; omega
  have hlb : (fileB K).length ≤ 60000 := by rw [fileB_length]; omega
  have hel := Lib.hid (show es.length = K.length by have := congrArg List.length HK.out; rw [List.length_map] at this; exact this)
  obtain ⟨ba, bc, hbv, _⟩ := own_form hownb
  obtain ⟨na, nc, hnv, _⟩ := own_form hownn
  subst hbv hnv
  have HRb := Lib.hid (show RdB w2 (.slice ba (fileB K).length bc) (fileB K) from hownb.rd)
  have HRn := Lib.hid (own_rd hownn)
  have HB2 := Lib.hid (bstep HB1.out hb2)
  have HRk2 := Lib.hid (HRk.out.below hb2)
  clear hownb hownn hb2 HFl HRk
  have HDt := Lib.hid (ndecode_any _ tl w2 (RdL.below HT.out HB2.out) ht3)
  go_wp2_with fail
  refine HDt.out.mono ?_; rintro e w3 ⟨⟨dv, rfl, hownd⟩, hb3⟩
  obtain ⟨da, dc, hdv, _⟩ := own_form hownd
  subst hdv
  have HB23 := Lib.hid hb3
  have HDr := Lib.hid (show (ndec tl).1 ≠ 0 → (ndec tl).1 ≠ 0 from id)
  clear hownd hb3 HDt
  by_cases hr : (ndec tl).1 = 0
  · have q1 : ((ndec tl).1 == 0) = true := beq_iff_eq.2 hr
    clear HDr hr
    generalize ndec tl = D at *
    obtain ⟨r, x, m⟩ := D
    dsimp only at q1
    go_wp2_with fail
    refine (awake_any _).mono ?_; rintro e w4 ⟨rfl, hb4⟩
    have HX := Lib.hid (bstep ((bstep HB2.out HB23.out).alloc (bstep HB2.out HB23.out).size (.cells #[.int .u64 (x.key : Int), .int .u32 (x.ck : Int), .bool x.del, .slice da x.data.length dc] 31)) hb4)
    clear hb4
    go_wp2_with fail
    go_ret
    exact ⟨rfl, HX.out⟩
  · have q1 : ((ndec tl).1 == 0) = false := beq_eq_false_iff_ne.2 hr
    have HOpen := Lib.hid (fun V W (hV : RdB W V (fileB K ++ tl)) (hs : (fileB K ++ tl).length ≤ 1000000) => open_any V (fileB K ++ tl) W hV hs)
    rw [open_file K tl HOk.out hr] at HOpen
    clear HDr hr
    generalize ndec tl = D at *
    obtain ⟨r, x, m⟩ := D
    dsimp only at q1
    by_cases h500 : 500 < tl.length
    · have q2 : decide ((500 : Int) < (tl.length : Int)) = true := by simp; omega
      go_wp2_with fail
      refine (awake_any _).mono ?_; rintro e w4 ⟨rfl, hb4⟩
      have HX := Lib.hid (bstep ((bstep HB2.out HB23.out).alloc (bstep HB2.out HB23.out).size (.cells #[.int .u64 (x.key : Int), .int .u32 (x.ck : Int), .bool x.del, .slice da x.data.length dc] 31)) hb4)
      clear hb4
      go_wp2_with fail
      go_ret
      exact ⟨rfl, HX.out⟩
    · have q2 : decide ((500 : Int) < (tl.length : Int)) = false := by simp; omega
      have HB3 := Lib.hid (bstep HB2.out HB23.out)
      have HAl := Lib.hid (show Below w3.heap.size w3 ((w3.alloc (.cells #[.int .u64 (x.key : Int), .int .u32 (x.ck : Int), .bool x.del, .slice da x.data.length dc] 31)).alloc (.cells #[] 5)) from ((Below.refl _ _).alloc (Nat.le_refl _) _).alloc (by simp) _)
      have HM0 := Lib.hid (made0 w3.heap.size (w3.heap.size + 1) (w3.alloc (.cells #[.int .u64 (x.key : Int), .int .u32 (x.ck : Int), .bool x.del, .slice da x.data.length dc] 31)) (by simp) (Nat.le_succ _))
      have HRb3 := Lib.hid (show Rd _ 1 (.slice ba (fileB K).length bc) (fileB K).length ((fileB K).map byteV) from RdL.below (HRb.out.below HB23.out) HAl.out)
      have hs0 := HAl.out.size
      go_wp2_with (first | (at_builtin; refine wpList_app (n := 0) (m := (fileB K).length) rfl (.tmp 38) (.tmp 39) 23 rfl elemB w3.heap.size rfl HM0.out rfl HRb3.out (bytes_one _) (by unfold maxLen; omega) (by omega) hs0 ?_; intro v4 w4 hown4 hgr4 hv4; clear hv4; have HO4 := Lib.hid (show OwnB w4 w3.heap.size v4 (fileB K) from ownB_of hown4 (List.nil_append _)); have HB4 := Lib.hid (own_below HAl.out HM0.out hs0 hgr4); have hs4 := HB4.out.size; have HR4 := Lib.hid (show Rd w4 1 (.slice ta tl.length tc) tl.length (tl.map byteV) from RdL.below HT.out (bstep HB3.out HB4.out)); clear hown4 hgr4) | (at_builtin; refine wpList_app (n := (fileB K).length) (m := tl.length) rfl (.tmp 40) (.tmp 41) 23 rfl elemB w3.heap.size rfl HO4.out rfl HR4.out (bytes_one _) (by unfold maxLen; omega) (by omega) hs4 ?_; intro v5 w5 hown5 hgr5 hv5; clear hv5; have HO5 := Lib.hid (show OwnB w5 w3.heap.size v5 (fileB K ++ tl) from ownB_of hown5 (List.map_append ..).symm); have HB5 := Lib.hid (own_below HB4.out HO4.out hs4 hgr5); clear hown5 hgr5))
      refine (HOpen.out v5 w5 HO5.out.rd (by rw [List.length_append]; omega)).mono ?_; rintro e w6 ⟨⟨lv, rs, rfl, hown6, hrs⟩, hb6⟩
      have HB6 := Lib.hid (bstep HB3.out (bstep HB5.out hb6))
      have HC6 := Lib.hid (bstep (bstep HB23.out HB5.out) hb6)
      have hrl : rs.length = K.length := by have := congrArg List.length hrs; rw [List.length_map] at this; rw [this]; exact recsOf_length K 16
      obtain ⟨la, lc, hlv, _⟩ := own_form hown6.row
      subst hlv
      have HRr := Lib.hid hown6.rd
      have HRs := Lib.hid hrs
      clear hown6 hrs hb6 HAl HM0 HRb3 HO4 HB4 HR4 HO5 HB5 HOpen hs0 hs4
      have HK6 := Lib.hid (HRk2.out.below HC6.out)
      have HN6 := Lib.hid (show Rd w6 1 (.slice na es.length nc) es.length ((endsF K).map intV) from Rd.below HRn.out HC6.out)
      have hKn := hel.out
      generalize hA : rs.length = n at *
      generalize hE : es.length = n' at *
      obtain rfl : n' = n := by omega
      have hfl' := hfl.out
      generalize hFL : (fileB K).length = lb at *
      rw [← hfl']
      have HKn := Lib.hid hKn
      have HLb := Lib.hid hfl'
      clear hKn hA hE hfl' hFL hfl hrl hel HRk2 HRn HRb hle
      have hn12 : n' ≤ 12 := hl12
      have q3 : ((lb : Int) != (lb : Int)) = false := by simp
      have q4 : ((n' : Int) != (n' : Int)) = false := by simp
      clear hKl
      go_wp2_with fail
      have HB7 := Lib.hid (show Below w6.heap.size w6 (w6.alloc (.cells #[.int .i64 (fsup.slot : Int), .int .i64 (fsup.gen : Int), .int .i64 (fsup.rev : Int)] 37)) from (Below.refl _ _).alloc (Nat.le_refl _) _)
      go_loopw [65] (fun iv W => ∃ i : Nat, iv = .int .i64 (i : Int) ∧ i ≤ n' ∧ Hid (Below w6.heap.size w6 W)) (fun iv _ => n' - (intOf iv).toNat)
      case atStart => exact ⟨0, rfl, Nat.zero_le _, HB7⟩
      case round =>
        obtain ⟨i, rfl, hi, HB⟩ := hrel
        by_cases hin : i < n'
        · have hiK : i < K.length := by have := HKn.out; omega
          obtain ⟨b1, o1, hla, hd1, c0, c1, c2, c3, c4⟩ := (HRr.out.below HB.out).at hin
          obtain ⟨b2, o2, hka, hd2, d0, d1, d2, d3⟩ := (HK6.out.below HB.out).at hin
          obtain ⟨b3, o3, hna, e0⟩ := rd_cell (Rd.below HN6.out HB.out) (i := i) (u := .int .i64 ((16 + nsum (K.take (i + 1)) : Nat) : Int)) (by rw [List.getElem?_map, endsF_at K i hiK]; rfl)
          subst hla hka hna
          have hx1 : (rat rs i).1 = ⟨((16 : Nat) : Int) + (nsum (K.take i) : Int), K.getD i nd0⟩ := by
            have hri : i < rs.length := by have := congrArg List.length HRs.out; rw [List.length_map, recsOf_length] at this; omega
            have := recsOf_at K 16 i hiK
            rw [← HRs.out, List.getElem?_map, List.getElem?_eq_getElem hri] at this
            unfold rat
            rw [List.getD_eq_getElem?_getD, List.getElem?_eq_getElem hri]
            simpa using this
          have hx2 : (nat' es i).1 = K.getD i nd0 := by
            have hei : i < es.length := by have := congrArg List.length HK.out; rw [List.length_map] at this; omega
            unfold nat'
            rw [← HK.out, List.getD_eq_getElem?_getD, List.getD_eq_getElem?_getD, List.getElem?_map, List.getElem?_eq_getElem hei]; rfl
          have hnx : nsum (K.take (i + 1)) = nsum (K.take i) + nsz (K.getD i nd0).data.length := by rw [take_snoc' hiK, nsum_snoc]
          have hox := (HOk.out (K.getD i nd0) (by rw [List.getD_eq_getElem?_getD, List.getElem?_eq_getElem hiK]; exact List.getElem_mem hiK)).1.1
          have hnb : 16 + nsum (K.take (i + 1)) ≤ 100000 := by
            have := nsum_le (k := K.take (i + 1)) (fun x hx => (HOk.out x (List.mem_of_mem_take hx)).1)
            rw [List.length_take] at this
            omega
          rw [hx1] at hd1 c0 c1 c2 c3
          rw [hx2] at hd2 d0 d1 d2
          dsimp only at hd1 c0 c1 c2 c3
          generalize (rat rs i).2 = v1 at *
          generalize (nat' es i).2 = v2 at *
          clear hx1 hx2
          generalize K.getD i nd0 = X at *
          rw [hnx] at e0 hnb
          rw [← Int.natCast_add] at c0
          rw [← Nat.add_assoc] at e0 hnb
          generalize 16 + nsum (K.take i) = o at *
          have HSame := Lib.hid (fun u : BelowBy wr => (rnsame_any X X v1 v2 u.w' (RdL.below hd1 u.h) (RdL.below hd2 u.h)))
          rw [show decide (X = X) = true from decide_eq_true rfl] at HSame
          have HSz := Lib.hid (fun u : BelowBy wr => (nsize_any X.data.length u.w' (by omega)).mono fun e w' (h : _ ∧ _) => (⟨h.1, h.2 ▸ Below.refl _ _⟩ : e = .returned (.int .i64 ((szN X.data.length : Nat) : Int)) ∧ Below u.w'.heap.size u.w' w'))
          rw [szN_of hox] at HSz
          obtain ⟨a1, k1, hv1, _, _⟩ := hd1.shape0
          obtain ⟨a2, k2, hv2, _, _⟩ := hd2.shape0
          subst hv1 hv2
          obtain ⟨xk, xc, xd, xl⟩ := X
          dsimp only at *
          generalize hxl : xl.length = l at *
          clear hd1 hd2 hnx hxl
          generalize nsz l = s at *
          have c0 := cell_by c0
          have c1 := cell_by c1
          have c2 := cell_by c2
          have c3 := cell_by c3
          have c4 := cell_by c4
          have d0 := cell_by d0
          have d1 := cell_by d1
          have d2 := cell_by d2
          have d3 := cell_by d3
          have j5 : IntKind.i64.wrap ((o : Int) + (s : Int)) = ((o + s : Nat) : Int) := (IntWalk.i64_in _ (by omega)).trans (by omega)
          generalize hos : o + s = e at *
          have e0 := cell_by e0
          have q5 : ((e : Int) != (e : Int)) = false := by simp
          have i1 : (i : Int) < (n' : Int) := by omega
          clear hos
          go_wp2_with fail
          refine wp_region_below (by kernel_rfl) (by kernel_rfl) ?_
          repeat (go_big_quiet_step ((first | exact calls_by (HSame.out _) | exact calls_by (HSz.out _))))
          refine wpQuiet_nil ?_
          intro _ hw'
          obtain ⟨u, hw'⟩ := hw'
          subst hw'
          have HBu := Lib.hid (bstep HB.out u.h)
          clear c0 c1 c2 c3 c4 d0 d1 d2 d3 e0
          go_wp2_with fail
          exact ⟨⟨i + 1, by go_num, by omega, HBu⟩, by simp [intOf]; omega⟩
        · obtain rfl : i = n' := by omega
          go_wp2_with fail
          refine (awake_any _).mono ?_; rintro e w9 ⟨rfl, hb9⟩
          have HX := Lib.hid (bstep (bstep HB6.out HB.out) hb9)
          clear hb9
          go_wp2_with fail
          go_ret
          exact ⟨rfl, HX.out⟩
end Go.Proofs.Ytecflhklpkjhcaa

namespace Go.Proofs.Ytecflhklpkjhcaa
open Go.RowKit

/-- What is salvaged of a file. -/
def salvF (b : List UInt8) : List Rec := salv (b.length + 1) b 16
/-- The search under way. -/
structure AccS (b : List UInt8) (L : List Rec) (es : List (Rec × Value)) (p : Nat) : Prop where
  ex : ∃ f, b.length < p + f ∧ es.map (·.1) ++ salv f b p = L
  le : p ≤ b.length + 16
  n : es.length * 24 ≤ p
theorem AccS.start (b : List UInt8) : AccS b (salvF b) [] 16 := ⟨⟨b.length + 1, by omega, rfl⟩, by omega, by simp⟩
theorem AccS.done {b : List UInt8} {L : List Rec} {p : Nat} {es : List (Rec × Value)} (h : AccS b L es p) (hd : b.length ≤ p) : es.map (·.1) = L := by
  obtain ⟨f, _, h1⟩ := h.ex
  rw [salv_end hd] at h1
  simpa using h1
theorem AccS.miss {b : List UInt8} {L : List Rec} {p : Nat} {es : List (Rec × Value)} (h : AccS b L es p) (hp : p < b.length) (hd : (ndec (b.drop p)).1 ≠ 0) : AccS b L es (p + 8) := by
  obtain ⟨f, h0, h1⟩ := h.ex
  obtain ⟨g, rfl⟩ : ∃ g, f = g + 1 := ⟨f - 1, by omega⟩
  rw [salv_miss hp hd] at h1
  exact ⟨⟨g, by omega, h1⟩, by omega, by have := h.n; omega⟩
theorem AccS.hit {b : List UInt8} {L : List Rec} {p : Nat} {es : List (Rec × Value)} (h : AccS b L es p) (hp : p < b.length) (hd : (ndec (b.drop p)).1 = 0) (v : Value) : AccS b L (es ++ [(⟨p, (ndec (b.drop p)).2.1⟩, v)]) (p + (ndec (b.drop p)).2.2) := by
  obtain ⟨f, h0, h1⟩ := h.ex
  have hs := ndec_size hd
  rw [List.length_drop] at hs
  have hn := h.n
  obtain ⟨g, rfl⟩ : ∃ g, f = g + 1 := ⟨f - 1, by omega⟩
  rw [salv_hit hp hd] at h1
  refine ⟨⟨g, by omega, ?_⟩, by omega, by rw [List.length_append]; simp; omega⟩
  rw [← h1]; simp
set_option maxRecDepth 100000 in
set_option maxHeartbeats 4000000 in
theorem salvage_any (v : Value) (b : List UInt8) (w : World) (h : RdB w v b) (hs : b.length ≤ 1000000) : Calls Try.prog 25 #[v] w fun e w' =>
    (∃ lv es, e = .returned lv ∧ OwnR w' w.heap.size 43 lv es ∧ es.map (·.1) = salvF b) ∧ Below w.heap.size w w' := by
  obtain ⟨a, cap, rfl, h1, h2⟩ := h.shape0
  have h3 := lt63 h1 h2
  have Hw0 := Lib.hid h
  clear h
  have HA := Lib.hid (AccS.start b)
  generalize salvF b = L at *
  go_enter Try.func25, Try.ntmps25
  go_wp2_with fail
  go_loopw [3, 4] (fun lv pv W => ∃ (es : List (Rec × Value)) (p : Nat), pv = .int .i64 (p : Int) ∧ Hid (OwnR W w.heap.size 43 lv es) ∧ Hid (AccS b L es p) ∧ Hid (Below w.heap.size w W)) (fun _ pv _ => b.length + 16 - (intOf pv).toNat)
  case atStart => exact ⟨[], 16, rfl, Lib.hid (OwnR.nil _ _ _), HA, Lib.hid (Below.refl _ _)⟩
  case round =>
    obtain ⟨es, p, rfl, HO, HAc, HBl⟩ := hrel
    by_cases hp : p < b.length
    · have i1 : (p : Int) < (b.length : Int) := by omega
      obtain ⟨x1, y1, g1, r1⟩ := RdL.from_ (P := Try.prog) elemB (RdL.below Hw0.out HBl.out) p (by omega)
      have HN := Lib.hid (ndecode_any _ _ _ r1 (by rw [List.length_drop]; omega))
      clear r1
      go_wp2_with fail
      refine HN.out.mono ?_; rintro e w2 ⟨⟨dv, rfl, hown⟩, hb2⟩
      have HO2 := Lib.hid (HO.out.keep hb2)
      have hs2 : w.heap.size ≤ w2.heap.size := Nat.le_trans HBl.out.size hb2.size
      have hsr : w.heap.size ≤ wr.heap.size := HBl.out.size
      have HBl2 := Lib.hid (bstep HBl.out hb2)
      have HSz := Lib.hid (fun h => ndec_size (b := b.drop p) h)
      clear HN HO HBl hb2
      by_cases hd : (ndec (b.drop p)).1 = 0
      · have HS := Lib.hid (HAc.out.hit hp hd)
        have hz := HSz.out hd
        rw [List.length_drop] at hz
        clear HSz
        have hn := HAc.out.n
        generalize ndec (b.drop p) = D at *
        obtain ⟨r, x, n⟩ := D
        dsimp only at hd hown hz HS
        subst hd
        obtain ⟨oa, oc, hv, _⟩ := own_form hown
        subst hv
        have HDt := Lib.hid (World.ownsRow.mono (show OwnB w2 wr.heap.size (.slice oa x.data.length oc) x.data from hown) hsr)
        have hpn : IntKind.i64.wrap ((p : Int) + (n : Int)) = ((p + n : Nat) : Int) := (IntWalk.i64_in _ (by omega)).trans (by omega)
        obtain ⟨la, lc, hv, _⟩ := own_form HO2.out.row
        subst hv
        clear hown
        have HBV := Lib.hid (show Below w2.heap.size w2 ((w2.alloc (.cells #[.int .u64 (x.key : Int), .int .u32 (x.ck : Int), .bool x.del, .slice oa x.data.length oc] 31)).alloc (.cells (recC (⟨(p : Int), x⟩, .slice oa x.data.length oc)).toArray 43)) from ((Below.refl _ _).alloc (Nat.le_refl _) _).alloc (by simp) _)
        go_wp2_with (at_builtin; go_must (refine wpList_app (m := 1) rfl (.tmp 24) (.tmp 28) 38 rfl elemR w.heap.size rfl (own_keep HO2.out.row (((Below.refl _ _).alloc (Nat.le_refl _) _).alloc (by simp) _)) (by rfl) (Rd.newK (w2.heap.size + 1) (w2.alloc (.cells #[.int .u64 (x.key : Int), .int .u32 (x.ck : Int), .bool x.del, .slice oa x.data.length oc] 31)) (by simp) 5 (recC (⟨p, x⟩, .slice oa x.data.length oc)) 43 1 rfl (by decide)) (rec_one _ _ _ _) (by unfold maxLen; omega) (by omega) (by simp; omega) ?_); intro v4 w4 hown4 hgr4 hv4; clear hv4)
        have HG := Lib.hid (show World.grownBy ((w2.alloc (.cells #[.int .u64 (x.key : Int), .int .u32 (x.ck : Int), .bool x.del, .slice oa x.data.length oc] 31)).alloc (.cells (recC (⟨(p : Int), x⟩, .slice oa x.data.length oc)).toArray 43)) w4 (Value.slice la es.length lc).ownBlock from hgr4)
        clear hgr4
        generalize (w2.alloc (.cells #[.int .u64 (x.key : Int), .int .u32 (x.ck : Int), .bool x.del, .slice oa x.data.length oc] 31)).alloc (.cells (recC (⟨(p : Int), x⟩, .slice oa x.data.length oc)).toArray 43) = V at HBV HG
        have hsV : w.heap.size ≤ V.heap.size := Nat.le_trans hs2 HBV.out.size
        have hb4 := own_below (Below.refl w.heap.size V) (HO2.out.keep HBV.out).row hsV HG.out
        have HBl4 := Lib.hid (HBl2.out.trans ((HBV.out.mono (by omega)).trans hb4))
        have HO4 := Lib.hid ((HO2.out.keep HBV.out).snoc (q := (⟨(p : Int), x⟩, .slice oa x.data.length oc)) (own_keep HDt.out HBV.out) (by decide) hown4 HG.out)
        have HAc4 := Lib.hid (HS.out (.slice oa x.data.length oc))
        clear hown4
        go_wp2_with fail
        exact ⟨⟨_, p + n, by rw [Int.natCast_add], HO4, HAc4, HBl4⟩, by simp [intOf]; omega⟩
      · have HAm := Lib.hid (HAc.out.miss hp hd)
        have hd' : ((ndec (b.drop p)).1 != 0) = true := bne_iff_ne.2 hd
        have hp8 : IntKind.i64.wrap ((p : Int) + 8) = ((p + 8 : Nat) : Int) := (IntWalk.i64_in _ (by omega)).trans (by omega)
        clear HSz
        generalize ndec (b.drop p) = D at *
        obtain ⟨r, x, n⟩ := D
        dsimp only at hd hown hd'
        obtain ⟨oa, oc, hv, _⟩ := own_form hown
        subst hv
        clear hown
        have HBV := Lib.hid (show Below w2.heap.size w2 (w2.alloc (.cells #[.int .u64 (x.key : Int), .int .u32 (x.ck : Int), .bool x.del, .slice oa x.data.length oc] 31)) from (Below.refl _ _).alloc (Nat.le_refl _) _)
        go_wp2_with fail
        exact ⟨⟨es, p + 8, by rw [Int.natCast_add]; rfl, Lib.hid (HO2.out.keep HBV.out), HAm, Lib.hid (bstep HBl2.out HBV.out)⟩, by simp [intOf]; omega⟩
    · have i1 : ¬ (p : Int) < (b.length : Int) := by omega
      have HL := Lib.hid (HAc.out.done (by omega))
      go_wp2_with fail
      go_ret
      exact ⟨⟨_, rfl, es, HO.out, HL.out⟩, HBl.out⟩
set_option maxRecDepth 100000 in
set_option maxHeartbeats 4000000 in
theorem rsalvage_any (v : Value) (b : List UInt8) (w : World) (h : RdB w v b) (hs : b.length ≤ 1000000) : Calls Try.prog 26 #[v] w fun e w' =>
    (∃ lv es, e = .returned lv ∧ OwnR w' w.heap.size 88 lv es ∧ es.map (·.1) = salvF b) ∧ Below w.heap.size w w' := by
  obtain ⟨a, cap, rfl, h1, h2⟩ := h.shape0
  have h3 := lt63 h1 h2
  have Hw0 := Lib.hid h
  clear h
  have HA := Lib.hid (AccS.start b)
  generalize salvF b = L at *
  go_enter Try.func26, Try.ntmps26
  go_wp2_with fail
  go_loopw [3, 4] (fun lv pv W => ∃ (es : List (Rec × Value)) (p : Nat), pv = .int .i64 (p : Int) ∧ Hid (OwnR W w.heap.size 88 lv es) ∧ Hid (AccS b L es p) ∧ Hid (Below w.heap.size w W)) (fun _ pv _ => b.length + 16 - (intOf pv).toNat)
  case atStart => exact ⟨[], 16, rfl, Lib.hid (OwnR.nil _ _ _), HA, Lib.hid (Below.refl _ _)⟩
  case round =>
    obtain ⟨es, p, rfl, HO, HAc, HBl⟩ := hrel
    by_cases hp : p < b.length
    · have i1 : (p : Int) < (b.length : Int) := by omega
      obtain ⟨x1, y1, g1, r1⟩ := RdL.from_ (P := Try.prog) elemB (RdL.below Hw0.out HBl.out) p (by omega)
      have HN := Lib.hid (rdecode_any _ _ _ r1 (by rw [List.length_drop]; omega))
      clear r1
      go_wp2_with fail
      refine HN.out.mono ?_; rintro e w2 ⟨⟨dv, rfl, hown⟩, hb2⟩
      have HO2 := Lib.hid (HO.out.keep hb2)
      have hs2 : w.heap.size ≤ w2.heap.size := Nat.le_trans HBl.out.size hb2.size
      have hsr : w.heap.size ≤ wr.heap.size := HBl.out.size
      have HBl2 := Lib.hid (bstep HBl.out hb2)
      have HSz := Lib.hid (fun h => ndec_size (b := b.drop p) h)
      clear HN HO HBl hb2
      by_cases hd : (ndec (b.drop p)).1 = 0
      · have HS := Lib.hid (HAc.out.hit hp hd)
        have hz := HSz.out hd
        rw [List.length_drop] at hz
        clear HSz
        have hn := HAc.out.n
        generalize ndec (b.drop p) = D at *
        obtain ⟨r, x, n⟩ := D
        dsimp only at hd hown hz HS
        subst hd
        obtain ⟨oa, oc, hv, _⟩ := own_form hown
        subst hv
        have HDt := Lib.hid (World.ownsRow.mono (show OwnB w2 wr.heap.size (.slice oa x.data.length oc) x.data from hown) hsr)
        have hpn : IntKind.i64.wrap ((p : Int) + (n : Int)) = ((p + n : Nat) : Int) := (IntWalk.i64_in _ (by omega)).trans (by omega)
        obtain ⟨la, lc, hv, _⟩ := own_form HO2.out.row
        subst hv
        clear hown
        have HBV := Lib.hid (show Below w2.heap.size w2 ((w2.alloc (.cells #[.int .u64 (x.key : Int), .int .u32 (x.ck : Int), .bool x.del, .slice oa x.data.length oc] 31)).alloc (.cells (recC (⟨(p : Int), x⟩, .slice oa x.data.length oc)).toArray 88)) from ((Below.refl _ _).alloc (Nat.le_refl _) _).alloc (by simp) _)
        go_wp2_with (at_builtin; go_must (refine wpList_app (m := 1) rfl (.tmp 24) (.tmp 28) 52 rfl elemRR w.heap.size rfl (own_keep HO2.out.row (((Below.refl _ _).alloc (Nat.le_refl _) _).alloc (by simp) _)) (by rfl) (Rd.newK (w2.heap.size + 1) (w2.alloc (.cells #[.int .u64 (x.key : Int), .int .u32 (x.ck : Int), .bool x.del, .slice oa x.data.length oc] 31)) (by simp) 5 (recC (⟨p, x⟩, .slice oa x.data.length oc)) 88 1 rfl (by decide)) (rec_one _ _ _ _) (by unfold maxLen; omega) (by omega) (by simp; omega) ?_); intro v4 w4 hown4 hgr4 hv4; clear hv4)
        have HG := Lib.hid (show World.grownBy ((w2.alloc (.cells #[.int .u64 (x.key : Int), .int .u32 (x.ck : Int), .bool x.del, .slice oa x.data.length oc] 31)).alloc (.cells (recC (⟨(p : Int), x⟩, .slice oa x.data.length oc)).toArray 88)) w4 (Value.slice la es.length lc).ownBlock from hgr4)
        clear hgr4
        generalize (w2.alloc (.cells #[.int .u64 (x.key : Int), .int .u32 (x.ck : Int), .bool x.del, .slice oa x.data.length oc] 31)).alloc (.cells (recC (⟨(p : Int), x⟩, .slice oa x.data.length oc)).toArray 88) = V at HBV HG
        have hsV : w.heap.size ≤ V.heap.size := Nat.le_trans hs2 HBV.out.size
        have hb4 := own_below (Below.refl w.heap.size V) (HO2.out.keep HBV.out).row hsV HG.out
        have HBl4 := Lib.hid (HBl2.out.trans ((HBV.out.mono (by omega)).trans hb4))
        have HO4 := Lib.hid ((HO2.out.keep HBV.out).snoc (q := (⟨(p : Int), x⟩, .slice oa x.data.length oc)) (own_keep HDt.out HBV.out) (by decide) hown4 HG.out)
        have HAc4 := Lib.hid (HS.out (.slice oa x.data.length oc))
        clear hown4
        go_wp2_with fail
        exact ⟨⟨_, p + n, by rw [Int.natCast_add], HO4, HAc4, HBl4⟩, by simp [intOf]; omega⟩
      · have HAm := Lib.hid (HAc.out.miss hp hd)
        have hd' : ((ndec (b.drop p)).1 != 0) = true := bne_iff_ne.2 hd
        have hp8 : IntKind.i64.wrap ((p : Int) + 8) = ((p + 8 : Nat) : Int) := (IntWalk.i64_in _ (by omega)).trans (by omega)
        clear HSz
        generalize ndec (b.drop p) = D at *
        obtain ⟨r, x, n⟩ := D
        dsimp only at hd hown hd'
        obtain ⟨oa, oc, hv, _⟩ := own_form hown
        subst hv
        clear hown
        have HBV := Lib.hid (show Below w2.heap.size w2 (w2.alloc (.cells #[.int .u64 (x.key : Int), .int .u32 (x.ck : Int), .bool x.del, .slice oa x.data.length oc] 31)) from (Below.refl _ _).alloc (Nat.le_refl _) _)
        go_wp2_with fail
        exact ⟨⟨es, p + 8, by rw [Int.natCast_add]; rfl, Lib.hid (HO2.out.keep HBV.out), HAm, Lib.hid (bstep HBl2.out HBV.out)⟩, by simp [intOf]; omega⟩
    · have i1 : ¬ (p : Int) < (b.length : Int) := by omega
      have HL := Lib.hid (HAc.out.done (by omega))
      go_wp2_with fail
      go_ret
      exact ⟨⟨_, rfl, es, HO.out, HL.out⟩, HBl.out⟩
end Go.Proofs.Ytecflhklpkjhcaa

namespace Go.Proofs.Ytecflhklpkjhcaa
open Crc

theorem ck_set_ne (l : List UInt8) (j : Nat) (hj : j < l.length) (d : UInt8) (hd : d ≠ 0) : ck (l.set j (bat l j ^^^ d)) ≠ ck l := fun h => by
  have e := congrArg lv h
  unfold ck at e
  rw [lv_le4 _ (sum_lt _), lv_le4 _ (sum_lt _)] at e
  unfold sum at e
  have h1 := ext_lt' l (r := 4294967295) (by decide)
  have h2 := ext_lt' (l.set j (bat l j ^^^ d)) (r := 4294967295) (by decide)
  have e2 : ext 4294967295 (l.set j (bat l j ^^^ d)) = ext 4294967295 l := by omega
  rw [ext_lv, ext_lv, List.length_set, lv_set d l j hj, ← Nat.xor_assoc, stk_xor] at e2
  have h0 : stk (8 * l.length) (2 ^ (8 * j) * d.toNat) = 0 := by
    have := congrArg (fun z => stk (8 * l.length) (4294967295 ^^^ lv l) ^^^ z) e2
    simp only [← Nat.xor_assoc, Nat.xor_self, Nat.zero_xor] at this
    exact this
  rw [show 8 * l.length = (8 * l.length - 8 * j) + 8 * j by omega, stk_add, stk_shift] at h0
  have := stk_inj (by have := d.toNat_lt; omega) _ h0
  exact hd (UInt8.toNat_inj.1 (by simpa using this))
theorem xor_ne (a d : UInt8) (h : a ^^^ d = a) : d = 0 := by
  have := congrArg (fun z => a ^^^ z) h
  simpa [← UInt8.xor_assoc] using this
theorem bat_set_self {l : List UInt8} {j : Nat} (hj : j < l.length) (v : UInt8) : bat (l.set j v) j = v := by
  unfold bat
  rw [List.getD_eq_getElem?_getD, List.getElem?_set_self hj]; rfl
theorem bat_set_ne {l : List UInt8} {i j : Nat} (h : i ≠ j) (v : UInt8) : bat (l.set i v) j = bat l j := by
  unfold bat
  rw [List.getD_eq_getElem?_getD, List.getD_eq_getElem?_getD, List.getElem?_set_ne h]
theorem damaged {x : Nd} (hx : x.ok) {p : Nat} (hp : p < nsz x.data.length) (hh : ¬ (16 ≤ p ∧ p < 20)) {d : UInt8} (hd : d ≠ 0) (t : List UInt8) : ¬ NOk ((nenc x).set p (bat (nenc x) p ^^^ d) ++ t) := fun hn => by
  have hl := nenc_length x
  have hb := nsz_bounds x.data.length
  have hnb := nbody_length x
  generalize hv : bat (nenc x) p ^^^ d = v at hn
  have hcl : ((nenc x).set p v).length = nsz x.data.length := by rw [List.length_set, hl]
  have hnl0 : nlen (nenc x ++ t) = x.data.length := by rw [nenc_split]; exact hd_nlen hx.1 _
  have hnl : nlen ((nenc x).set p v ++ t) = x.data.length := by
    by_cases h16 : p < 16
    · have : ((nenc x).set p v ++ t).drop 16 = (nenc x ++ t).drop 16 := by
        rw [List.drop_append_of_le_length (by omega), List.drop_append_of_le_length (by omega), List.drop_set_of_lt h16]
      unfold nlen at hnl0 ⊢
      rw [this]; exact hnl0
    · have h20 : 20 ≤ p := by omega
      have : ((nenc x).set p v ++ t).take 20 = (nenc x ++ t).take 20 := by
        rw [List.take_append_of_le_length (by omega), List.take_append_of_le_length (by omega), List.take_set_of_le h20]
      rw [← nlen_take (k := 20) (Nat.le_refl _), this, nlen_take (Nat.le_refl _)]; exact hnl0
  have hs := hn.sum
  have hpad := hn.pad
  unfold npad at hpad
  rw [hnl] at hs hpad
  have hbody : (nenc x).take (20 + x.data.length) = nbody x := by
    rw [nenc, List.append_assoc, List.take_left' hnb]
  have hsum : (nenc x).drop (20 + x.data.length) = ck (nbody x) ++ zeros (nsz x.data.length - (24 + x.data.length)) := by
    rw [nenc, List.append_assoc, List.drop_left' hnb]
  rw [List.take_append_of_le_length (by omega), List.drop_append_of_le_length (by omega)] at hs
  by_cases h1 : p < 20 + x.data.length
  · have e1 : ((nenc x).set p v).take (20 + x.data.length) = (nbody x).set p (bat (nbody x) p ^^^ d) := by
      rw [List.take_set, hbody, ← hv, ← hbody, bat_take h1]
    have e2 : ((nenc x).set p v).drop (20 + x.data.length) = (nenc x).drop (20 + x.data.length) := List.drop_set_of_lt h1
    rw [e1, e2, hsum, List.append_assoc, List.take_left' (ck_length _)] at hs
    exact ck_set_ne (nbody x) p (by omega) d hd hs
  · have e1 : ((nenc x).set p v).take (20 + x.data.length) = nbody x := by rw [List.take_set_of_le (by omega), hbody]
    have e2 : ((nenc x).set p v).drop (20 + x.data.length) = (ck (nbody x) ++ zeros (nsz x.data.length - (24 + x.data.length))).set (p - (20 + x.data.length)) v := by
      rw [List.drop_set, if_neg (by omega), hsum]
    rw [e1, e2] at hs
    obtain ⟨q, hq⟩ : ∃ q, p = 20 + x.data.length + q := ⟨p - (20 + x.data.length), by omega⟩
    have hbq : bat (nenc x) p = bat (ck (nbody x) ++ zeros (nsz x.data.length - (24 + x.data.length))) q := by
      rw [← hsum, bat_drop, hq]
    have hq2 : p - (20 + x.data.length) = q := by omega
    rw [hq2] at hs
    by_cases h4 : q < 4
    · have e3 := congrArg (fun l => bat l q) hs
      rw [bat_take (show q < 4 from h4), bat_app_l (by rw [List.length_set, List.length_append, ck_length]; omega), bat_set_self (by rw [List.length_append, ck_length]; omega), ← hv, hbq, bat_app_l (by rw [ck_length]; exact h4)] at e3
      exact hd (xor_ne _ _ e3.symm)
    · rw [List.all_eq_true] at hpad
      have hz : bat (nenc x) p = 0 := by
        rw [hbq, bat_app_r (by rw [ck_length]; omega), ck_length]
        unfold bat zeros
        rw [List.getD_eq_getElem?_getD, List.getElem?_replicate]
        split <;> rfl
      have hm : v ∈ (((nenc x).set p v ++ t).drop (24 + x.data.length)).take (nsz x.data.length - (24 + x.data.length)) := by
        refine List.mem_of_getElem? (i := p - (24 + x.data.length)) ?_
        rw [List.getElem?_take_of_lt (by omega), List.getElem?_drop, show 24 + x.data.length + (p - (24 + x.data.length)) = p by omega, List.getElem?_append_left (by omega), List.getElem?_set_self (by omega)]
      have := hpad v hm
      rw [← hv, hz] at this
      simp at this
      exact hd this
/-- Salvaging from a place on finds L. -/
def Found (b : List UInt8) (p : Nat) (L : List Rec) : Prop := ∀ f, b.length < p + f → salv f b p = L
theorem Found.fin {b : List UInt8} {p : Nat} (h : b.length ≤ p) : Found b p [] := fun f _ => salv_end h f
theorem Found.hit {b : List UInt8} {p : Nat} {L : List Rec} (hp : p < b.length) (hd : (ndec (b.drop p)).1 = 0) (h : Found b (p + (ndec (b.drop p)).2.2) L) : Found b p (⟨p, (ndec (b.drop p)).2.1⟩ :: L) := fun f hf => by
  have hs := ndec_size hd
  obtain ⟨g, rfl⟩ : ∃ g, f = g + 1 := ⟨f - 1, by omega⟩
  rw [salv_hit hp hd, h g (by omega)]
theorem Found.miss {b : List UInt8} {p : Nat} {L : List Rec} (hp : p < b.length) (hd : (ndec (b.drop p)).1 ≠ 0) (h : Found b (p + 8) L) : Found b p L := fun f hf => by
  obtain ⟨g, rfl⟩ : ∃ g, f = g + 1 := ⟨f - 1, by omega⟩
  rw [salv_miss hp hd, h g (by omega)]
theorem Found.gap {b : List UInt8} {L : List Rec} : ∀ (k p : Nat), (∀ j, j < k → p + 8 * j < b.length ∧ (ndec (b.drop (p + 8 * j))).1 ≠ 0) → Found b (p + 8 * k) L → Found b p L
  | 0, _, _, h => h
  | k + 1, p, hm, h => by
    refine Found.miss (hm 0 (by omega)).1 (hm 0 (by omega)).2 (Found.gap k (p + 8) (fun j hj => ?_) ?_)
    · have := hm (j + 1) (by omega)
      rw [show p + 8 * (j + 1) = p + 8 + 8 * j by omega] at this
      exact this
    · rw [show p + 8 + 8 * k = p + 8 * (k + 1) by omega]; exact h
theorem Found.blk {L : List Rec} : ∀ (K : List Nd) (b pre tail : List UInt8), b = pre ++ (nencs K ++ tail) → (∀ x ∈ K, x.ok ∧ x.Wf) → Found b (pre.length + nsum K) L → Found b pre.length (recsOf pre.length K ++ L)
  | [], _, _, _, _, _, h => h
  | x :: K, b, pre, tail, hb, hk, h => by
    have hx := hk x (by simp)
    have e : b.drop pre.length = nenc x ++ (nencs K ++ tail) := by
      rw [hb, List.drop_left' rfl]; show nenc x ++ nencs K ++ tail = _; rw [List.append_assoc]
    have hd := ndec_enc hx.1 hx.2 (nencs K ++ tail)
    have ih := Found.blk (L := L) K b (pre ++ nenc x) tail (by rw [hb]; show pre ++ (nenc x ++ nencs K ++ tail) = _; simp) (fun y hy => hk y (by simp [hy])) (by
      rw [List.length_append, nenc_length]
      rw [nsum_cons] at h
      rw [Nat.add_assoc]; exact h)
    rw [List.length_append, nenc_length] at ih
    have hsz := nsz_bounds x.data.length
    have := Found.hit (b := b) (p := pre.length) (L := recsOf (pre.length + nsz x.data.length) K ++ L) (by rw [hb]; simp [nencs, nenc_length]; omega) (by rw [e, hd]) (by rw [e, hd]; exact ih)
    rw [e, hd] at this
    exact this
theorem bat_ne_form {b : List UInt8} (h : bat b 0 ≠ 78) : (ndec b).1 ≠ 0 := fun e => h (ndec_zero e).form.1
/-- All but the damaged one are found. -/
theorem salv_damaged (A C : List Nd) (x : Nd) (hk : ∀ y ∈ A ++ x :: C, y.ok ∧ y.Wf) (p : Nat) (hp : p < nsz x.data.length) (hh : ¬ (16 ≤ p ∧ p < 20)) (d : UInt8) (hd : d ≠ 0) (B : List UInt8)
    (hB : B = (fileB (A ++ x :: C)).set (16 + nsum A + p) (bat (fileB (A ++ x :: C)) (16 + nsum A + p) ^^^ d))
    (hno : ∀ j, 1 ≤ j → 8 * j < nsz x.data.length → bat B (16 + nsum A + 8 * j) ≠ 78) : (salvF B).map (·.nd) = A ++ C := by
  have hpre : (senc fsup ++ nencs A).length = 16 + nsum A := by rw [List.length_append, senc_length, nencs_length]
  have hfile : fileB (A ++ x :: C) = (senc fsup ++ nencs A) ++ (nenc x ++ nencs C) := by
    rw [fileB]; simp [nencs]
  have hxl := nenc_length x
  have hbat : bat (fileB (A ++ x :: C)) (16 + nsum A + p) = bat (nenc x) p := by
    rw [hfile, bat_app_r (by rw [hpre]; omega), hpre, Nat.add_sub_cancel_left, bat_app_l (by omega)]
  have hBe : B = (senc fsup ++ nencs A) ++ ((nenc x).set p (bat (nenc x) p ^^^ d) ++ nencs C) := by
    rw [hB, hbat, hfile, List.set_append_right _ _ (by rw [hpre]; omega), hpre, Nat.add_sub_cancel_left, List.set_append_left _ _ (by omega)]
  have hBl : B.length = 16 + nsum A + (nsz x.data.length + nsum C) := by
    rw [hBe, List.length_append, hpre, List.length_append, List.length_set, hxl, nencs_length]
  have hsz := nsz_bounds x.data.length
  have hx := hk x (by simp)
  -- behind the damaged one
  have f1 : Found B (16 + nsum A + nsz x.data.length) (recsOf (16 + nsum A + nsz x.data.length) C) := by
    have hl : ((senc fsup ++ nencs A) ++ (nenc x).set p (bat (nenc x) p ^^^ d)).length = 16 + nsum A + nsz x.data.length := by rw [List.length_append, hpre, List.length_set, hxl]
    have := Found.blk (L := []) C B ((senc fsup ++ nencs A) ++ (nenc x).set p (bat (nenc x) p ^^^ d)) [] (by rw [hBe]; simp) (fun y hy => hk y (by simp [hy])) (Found.fin (by rw [hl, hBl]; omega))
    rw [hl, List.append_nil] at this
    exact this
  -- the damaged one
  have f2 : Found B (16 + nsum A) (recsOf (16 + nsum A + nsz x.data.length) C) := by
    obtain ⟨k, hk8⟩ : ∃ k, nsz x.data.length = 8 * k := ⟨nsz x.data.length / 8, by omega⟩
    refine Found.gap k _ (fun j hj => ⟨by omega, ?_⟩) (by rw [← hk8]; exact f1)
    by_cases h0 : j = 0
    · subst h0
      rw [Nat.mul_zero, Nat.add_zero]
      have : B.drop (16 + nsum A) = (nenc x).set p (bat (nenc x) p ^^^ d) ++ nencs C := by rw [hBe, List.drop_left' hpre]
      rw [this]
      exact (ndec_bad (damaged hx.1 hp hh hd _)).1
    · refine bat_ne_form ?_
      rw [bat_drop, Nat.add_zero]
      exact hno j (by omega) (by omega)
  have f3 := Found.blk (L := recsOf (16 + nsum A + nsz x.data.length) C) A B (senc fsup) ((nenc x).set p (bat (nenc x) p ^^^ d) ++ nencs C) (by rw [hBe, List.append_assoc]) (fun y hy => hk y (by simp [hy])) (by rw [senc_length]; exact f2)
  rw [senc_length] at f3
  unfold salvF
  rw [f3 _ (by omega), List.map_append, recsOf_nd, recsOf_nd]
end Go.Proofs.Ytecflhklpkjhcaa

namespace Go.Proofs.Ytecflhklpkjhcaa
open Go.RowKit

theorem wrapC (a : Int) (L : Nat) (hL : 0 < L) (hs : L ≤ 1000000) : ∃ r : Int, a.tmod (L : Int) = r ∧ -1000000 ≤ r ∧ r ≤ 1000000 ∧ 0 ≤ r + (L : Int) ∧ ∃ k : Nat, k < L ∧ (r + (L : Int)) % (L : Int) = (k : Int) ∧ (r + (L : Int)).tmod (L : Int) = (k : Int) := by
  have h1 := Int.tmod_lt_of_pos a (show (0 : Int) < (L : Int) by omega)
  have h2 := Int.lt_tmod_of_pos a (show (0 : Int) < (L : Int) by omega)
  refine ⟨_, rfl, by omega, by omega, by omega, ((a.tmod (L : Int) + (L : Int)) % (L : Int)).toNat, ?_, ?_, ?_⟩
  · have := Int.emod_lt_of_pos (a.tmod (L : Int) + (L : Int)) (show (0 : Int) < (L : Int) by omega)
    omega
  · have := Int.emod_nonneg (a.tmod (L : Int) + (L : Int)) (show (L : Int) ≠ 0 by omega)
    omega
  · rw [Int.tmod_eq_emod_of_nonneg (by omega)]
    have := Int.emod_nonneg (a.tmod (L : Int) + (L : Int)) (show (L : Int) ≠ 0 by omega)
    omega
set_option maxRecDepth 100000 in
set_option maxHeartbeats 8000000 in
theorem salvages_walk (v : Value) (z1 z2 : Int) (d : UInt8) (ns : List (Nd × Value)) (w : World) (h : RdN w v ns) (hwf : ∀ p ∈ ns, p.1.Wf) :
    Calls Try.prog 9 #[v, .int .i64 z1, .int .i64 z2, .int .u8 (d.toNat : Int)] w fun e w' => e = .returned (.bool true) ∧ Below w.heap.size w w' := by
  have HSm := Lib.hid (small_any v ns w h hwf)
  have HN := Lib.hid (show ∀ x ∈ ns.map (·.1), x.Wf from fun x hx => by obtain ⟨p, hp, rfl⟩ := List.mem_map.1 hx; exact hwf p hp)
  generalize ns.map (·.1) = N at *
  clear h hwf
  go_enter Try.func9, Try.ntmps9
  go_wp2_with fail
  refine HSm.out.mono ?_; rintro e w1 ⟨kv, es, rfl, hown1, hes, hdat, hb1⟩
  have HFl := Lib.hid (file_any kv es w1 (sms_rd hown1 hdat hb1) (sms_ok hes HN.out) (sms_len hes))
  have HOk := Lib.hid (show ∀ x ∈ es.map (·.1), x.ok ∧ x.Wf from fun x hx => by obtain ⟨p, hp, rfl⟩ := List.mem_map.1 hx; exact sms_ok hes HN.out p hp)
  have hl12 := sms_len hes
  have HB1 := Lib.hid hb1
  have HRk := Lib.hid (sms_rd hown1 hdat hb1)
  obtain ⟨ka, kc, hkv, _⟩ := own_form hown1
  subst hkv
  have hKl0 : (es.map (·.1)).length = es.length := by rw [List.length_map]
  have HKat := Lib.hid (show ∀ j, j < es.length → (nat' es j).1 = (es.map (·.1)).getD j nd0 from fun j hj => by
    unfold nat'
    rw [List.getD_eq_getElem?_getD, List.getD_eq_getElem?_getD, List.getElem?_map, List.getElem?_eq_getElem hj]; rfl)
  generalize es.map (·.1) = K at *
  clear hown1 hes hdat hb1 HSm HN
  have HKl := Lib.hid hKl0
  clear hKl0
  generalize hn : es.length = n at *
  have HEn := Lib.hid hn
  clear hn
  by_cases hstop : n = 0 ∨ d = 0
  · have HST := Lib.hid (show ∀ W, Below w.heap.size w W → Below w.heap.size w W from fun _ h => h)
    by_cases hn0 : n = 0
    · subst hn0
      go_wp2_with fail
      refine (awake_any _).mono ?_; rintro e w9 ⟨rfl, hb9⟩
      have HX := Lib.hid (bstep HB1.out hb9)
      clear hb9
      go_wp2_with fail
      go_ret
      exact ⟨rfl, HX.out⟩
    · have hd0 : d = 0 := by rcases hstop with h | h; exact absurd h hn0; exact h
      subst hd0
      have g1 : ((n : Int) == 0) = false := beq_eq_false_iff_ne.2 (by omega)
      have g2 : (((0 : UInt8).toNat : Int) == 0) = true := rfl
      go_wp2_with fail
      refine (awake_any _).mono ?_; rintro e w9 ⟨rfl, hb9⟩
      have HX := Lib.hid (bstep HB1.out hb9)
      clear hb9
      go_wp2_with fail
      go_ret
      exact ⟨rfl, HX.out⟩
  · have hn0 : 0 < n := by omega
    have hd0 : d ≠ 0 := fun e => hstop (.inr e)
    have g1 : ((n : Int) == 0) = false := beq_eq_false_iff_ne.2 (by omega)
    have g2 : ((d.toNat : Int) == 0) = false := beq_eq_false_iff_ne.2 (fun e => hd0 (UInt8.toNat_inj.1 (by simpa using e)))
    have HD0 := Lib.hid hd0
    clear hstop hd0
    go_wp2_with fail
    refine HFl.out.mono ?_; rintro e w2 ⟨bv, nv, rfl, hownb, hownn, hb2⟩
    have HFlen := Lib.hid (fileB_length K)
    have hle := nsum_le (k := K) (fun x hx => (HOk.out x hx).1)
    have hlb : (fileB K).length ≤ 60000 := by have := HFlen.out; have := HKl.out; omega
    obtain ⟨na, nc, hnv, _⟩ := own_form hownn
    subst hnv
    have HB2 := Lib.hid (bstep HB1.out hb2)
    have HOb := Lib.hid (show OwnB w2 w1.heap.size bv (fileB K) from hownb)
    have HRn := Lib.hid (own_rd hownn)
    have HOn := Lib.hid hownn
    have HB12 := Lib.hid hb2
    have hs12 : w.heap.size ≤ w1.heap.size := HB1.out.size
    clear hownb hownn hb2 HFl HB1 hle
    obtain ⟨r, hr0, hr1, hr2, hr3, i, hi, hi1, hi2⟩ := wrapC z1 n hn0 (by omega)
    have hi3 : r % (n : Int) = (i : Int) := by rw [← hi1]; simp
    have j1 : IntKind.i64.wrap (r + (n : Int)) = r + (n : Int) := IntWalk.i64_in _ (by omega)
    have hiK : i < K.length := by have := HKl.out; omega
    obtain ⟨b3, o3, hna, e0⟩ := rd_cell HRn.out (i := i) (u := .int .i64 ((16 + nsum (K.take (i + 1)) : Nat) : Int)) (by rw [List.getElem?_map, endsF_at K i hiK]; rfl)
    subst hna
    have HEx := Lib.hid (show 0 < i → ∃ i', i = i' + 1 ∧ w2.cell? ⟨b3, o3 + i', none⟩ = some (.int .i64 ((16 + nsum (K.take i) : Nat) : Int)) from fun h => by
      obtain ⟨i', rfl⟩ : ∃ i', i = i' + 1 := ⟨i - 1, by omega⟩
      obtain ⟨b3', o3', hna, e0⟩ := rd_cell HRn.out (i := i') (u := .int .i64 ((16 + nsum (K.take (i' + 1)) : Nat) : Int)) (by rw [List.getElem?_map, endsF_at K i' (by omega)]; rfl)
      injection hna with hna
      injection hna with hb ho
      subst hb ho
      exact ⟨i', rfl, e0⟩)
    have hz0 : i = 0 → nsum (K.take i) = 0 := fun h => by subst h; rfl
    have hnx : nsum (K.take (i + 1)) = nsum (K.take i) + nsz (K.getD i nd0).data.length := by rw [take_snoc' hiK, nsum_snoc]
    have hnb := nsum_le (k := K.take (i + 1)) (fun x hx => (HOk.out x (List.mem_of_mem_take hx)).1)
    rw [List.length_take] at hnb
    rw [hnx] at e0 hnb
    have hzb := nsz_bounds (K.getD i nd0).data.length
    have HDam := Lib.hid (salv_damaged (K.take i) (K.drop (i + 1)) (K.getD i nd0))
    have hKs : K.take i ++ K.getD i nd0 :: K.drop (i + 1) = K := by
      rw [List.getD_eq_getElem?_getD, List.getElem?_eq_getElem hiK]
      show K.take i ++ K[i] :: K.drop (i + 1) = K
      rw [← List.drop_eq_getElem_cons hiK, List.take_append_drop]
    rw [hKs] at HDam
    have hsum : nsum K = nsum (K.take i) + (nsz (K.getD i nd0).data.length + nsum (K.drop (i + 1))) := by
      have : nsum (K.take i ++ K.getD i nd0 :: K.drop (i + 1)) = nsum K := by rw [hKs]
      rw [← this]
      unfold nsum
      rw [List.map_append, List.sum_append, List.map_cons, List.sum_cons]
    have hfl := HFlen.out
    rw [hsum] at hfl
    generalize hszz : nsz (K.getD i nd0).data.length = sz at *
    have HSzz := Lib.hid hszz
    clear hszz
    generalize hfr : nsum (K.take i) = fr at *
    have HFr := Lib.hid hfr
    clear hfr
    generalize nsum (K.drop (i + 1)) = re at *
    have HFl2 := Lib.hid hfl
    have HZ0 := Lib.hid hz0
    clear hnx hsum hKs hfl hz0 HFlen
    go_upto_if 46 with fail
    go_cut [13] (fun s wx => s = .int .i64 ((16 + fr : Nat) : Int) ∧ w2 = wx)
    case first =>
      by_cases hi0 : 0 < i
      · obtain ⟨i', hii, e1⟩ := HEx.out hi0
        have g3 : decide ((0 : Int) < (i : Int)) = true := by simp; omega
        have hsub : IntKind.i64.wrap ((i : Int) - 1) = (i' : Int) := (IntWalk.i64_in _ (by omega)).trans (by omega)
        have i1 : (i' : Int) < (n : Int) := by omega
        have hsub2 : (i : Int) - 1 = (i' : Int) := by omega
        clear HEx
        go_wp2_with fail
        go_meet
        case rel => exact ⟨by simp, rfl⟩
      · have g3 : decide ((0 : Int) < (i : Int)) = false := by simp; omega
        have hfr : fr = 0 := HZ0.out (by omega)
        subst hfr
        go_wp2_with fail
        go_meet
        case rel => exact ⟨rfl, rfl⟩
    case rest =>
      obtain ⟨rfl, rfl⟩ := hcut
      clear HEx HZ0
      have hen : 16 + (fr + sz) = (16 + fr) + sz := by omega
      rw [hen] at e0
      have hfl := HFl2.out
      rw [show 16 + (fr + (sz + re)) = (16 + fr) + sz + re by omega] at hfl
      have hF16 : 16 ≤ 16 + fr := by omega
      have HFF := Lib.hid (show 16 + fr = 16 + nsum (K.take i) from by rw [← HFr.out])
      generalize 16 + fr = F at *
      have HEN := Lib.hid (show F + sz = F + sz from rfl)
      generalize hE : F + sz = en at e0 hfl HEN
      have hb1 : F ≤ 60000 := by omega
      have hb2 : en ≤ 60000 := by omega
      have hb3 : sz ≤ 60000 := by omega
      have j2 : IntKind.i64.wrap ((en : Int) - (F : Int)) = (sz : Int) := (IntWalk.i64_in _ (by omega)).trans (by omega)
      have HE := Lib.hid hE
      have HFL := Lib.hid hfl
      clear hE hfl HFl2 hen hnb
      obtain ⟨r', hq0, hq1, hq2, hq3, p, hp, hp1, hp2⟩ := wrapC z2 sz (by omega) (by omega)
      have hp3 : r' % (sz : Int) = (p : Int) := by rw [← hp1]; simp
      have j3 : IntKind.i64.wrap (r' + (sz : Int)) = r' + (sz : Int) := IntWalk.i64_in _ (by omega)
      have n2 : ((sz : Int) == 0) = false := beq_eq_false_iff_ne.2 (by omega)
      have i2 : (i : Int) < (n : Int) := by omega
      by_cases hpp : 16 ≤ p ∧ p < 20
      · have g3 : decide ((16 : Int) ≤ (p : Int)) = true := by simp; omega
        have g4 : decide ((p : Int) < 20) = true := by simp; omega
        go_wp2_with fail
        refine (awake_any _).mono ?_; rintro e w9 ⟨rfl, hb9⟩
        have HX := Lib.hid (bstep HB2.out hb9)
        clear hb9
        go_wp2_with fail
        go_ret
        exact ⟨rfl, HX.out⟩
      · have HNP := Lib.hid hpp
        go_upto_region 11 with fail
        go_cut [70] (fun s wx => s = .bool false ∧ w2 = wx)
        case first =>
          by_cases h16 : 16 ≤ p
          · have g3 : decide ((16 : Int) ≤ (p : Int)) = true := by simp; omega
            have g4 : decide ((p : Int) < 20) = false := by simp; omega
            go_wp2_with fail
            go_meet
            case rel => exact ⟨rfl, rfl⟩
          · have g3 : decide ((16 : Int) ≤ (p : Int)) = false := by simp; omega
            go_wp2_with fail
            go_meet
            case rel => exact ⟨rfl, rfl⟩
        case rest =>
          obtain ⟨rfl, rfl⟩ := hcut
          clear hpp
          have hlbe := HFL.out
          obtain ⟨g, gc, rfl⟩ : ∃ g gc, bv = .slice (some ⟨g, 0, none⟩) (fileB K).length gc := by
            rcases HOb.out.2 with ⟨e, h0⟩ | ⟨g, _, _, e, _⟩
            · have := HE.out; omega
            · exact ⟨g, _, e⟩
          have hgB := (HOb.out.lt g rfl).1
          have hq : F + p < (fileB K).length := by have := HE.out; omega
          have ck0 := HOb.out.cellAt (F + p) (by omega)
          have fk0 := HOb.out.frozenAt (F + p)
          obtain ⟨hst, hgr⟩ := HOb.out.stored (F + p) (byteV (bat (fileB K) (F + p) ^^^ d))
          rw [← List.map_set] at hst
          have ck1 : ((fileB K).map byteV)[F + p]? = some (.int .u8 ((bat (fileB K) (F + p)).toNat : Int)) := by
            rw [List.getElem?_map]
            unfold bat
            rw [List.getD_eq_getElem?_getD, List.getElem?_eq_getElem hq]; rfl
          rw [ck1] at ck0
          have HB5 := Lib.hid (HB2.out.grown hgr (Nat.le_trans hs12 (Nat.le_trans hgB (Nat.le_of_lt (HOb.out.lt g rfl).2))) (by intro x hx; injection hx with hx; omega))
          have HRk5 := Lib.hid (HRk.out.below (HB12.out.grown hgr HB12.out.size (by intro x hx; injection hx with hx; omega)))
          have HOn5 := Lib.hid (HOn.out.kept hgr (own_ne HOn.out HOb.out (by decide)))
          have HO5 := Lib.hid (show (w2.setCell ⟨g, F + p, none⟩ (byteV (bat (fileB K) (F + p) ^^^ d))).ownsRow w1.heap.size 5 1 (.slice (some ⟨g, 0, none⟩) (fileB K).length gc) (fileB K).length (((fileB K).set (F + p) (bat (fileB K) (F + p) ^^^ d)).map byteV) from hst)
          clear hlbe
          have HDm := Lib.hid (HDam.out HOk.out p hp HNP.out d HD0.out _ rfl)
          have HSl := Lib.hid (show ((fileB K).set (F + p) (bat (fileB K) (F + p) ^^^ d)).length = (fileB K).length from List.length_set ..)
          have hxo := u8_xor_nat (bat (fileB K) (F + p)).toNat d.toNat (bat (fileB K) (F + p)).toNat_lt d.toNat_lt
          rw [← UInt8.toNat_xor] at hxo
          clear hst hgr ck1 HDam
          generalize (fileB K).set (F + p) (bat (fileB K) (F + p) ^^^ d) = BB at *
          generalize bat (fileB K) (F + p) = old at *
          rw [show byteV (old ^^^ d) = .int .u8 ((old ^^^ d).toNat : Int) from rfl] at HB5 HRk5 HOn5 HO5
          generalize (old ^^^ d).toNat = nb at *
          generalize hLb : (fileB K).length = lb at *
          clear hLb
          have j4 : IntKind.i64.wrap ((F : Int) + (p : Int)) = ((F + p : Nat) : Int) := (IntWalk.i64_in _ (by omega)).trans (by omega)
          have HQ := Lib.hid (show F + p = F + p from rfl)
          generalize hqq : F + p = q at *
          have HFq := Lib.hid hqq
          clear hqq HQ
          have i3 : (q : Int) < (lb : Int) := by omega
          go_upto_region 14 with fail
          obtain ⟨W5, hW5⟩ : ∃ W5, w2.setCell ⟨g, q, none⟩ (.int .u8 (nb : Int)) = W5 := ⟨_, rfl⟩
          rw [hW5] at HB5 HRk5 HOn5 HO5 ⊢
          clear hW5 ck0 fk0 hxo HOb HOn HRn e0 HRk HB12 HB2
          obtain ⟨b6, o6, hna, e05⟩ := rd_cell (own_rd HOn5.out) (i := i) (u := .int .i64 ((16 + nsum (K.take (i + 1)) : Nat) : Int)) (by rw [List.getElem?_map, endsF_at K i hiK]; rfl)
          injection hna with hna
          injection hna with hb ho
          subst hb ho
          have hen5 : 16 + nsum (K.take (i + 1)) = en := by
            rw [take_snoc' hiK, nsum_snoc]
            have := HFF.out
            have := HE.out
            have := HSzz.out
            omega
          rw [hen5] at e05
          have HE05 := Lib.hid e05
          have HCell := Lib.hid (fun j (h : j < lb) => show W5.cell? ⟨g, j, none⟩ = some (.int .u8 ((bat BB j).toNat : Int)) from by
            rw [HO5.out.cellAt j (by omega), List.getElem?_map]
            unfold bat
            rw [List.getD_eq_getElem?_getD, List.getElem?_eq_getElem (by have := HSl.out; omega)]; rfl)
          have HRB := Lib.hid (show RdB W5 (.slice (some ⟨g, 0, none⟩) lb gc) BB from own_rdl HO5.out)
          have j5 : IntKind.i64.wrap ((F : Int) + 8) = ((F + 8 : Nat) : Int) := (IntWalk.i64_in _ (by omega)).trans (by omega)
          clear e05 hen5 HO5 HOn5 j4 HFq i3 hq HEN
          go_wp2_with fail
          go_loopw [16] (fun pv W => ∃ j : Nat, 1 ≤ j ∧ pv = .int .i64 ((F + 8 * j : Nat) : Int) ∧ F + 8 * j ≤ en + 8 ∧ Hid (∀ j', 1 ≤ j' → j' < j → bat BB (F + 8 * j') ≠ 78) ∧ Hid (Below W5.heap.size W5 W)) (fun pv _ => en + 8 - (intOf pv).toNat)
          case atStart => exact ⟨1, by omega, rfl, by have := HE.out; omega, Lib.hid (fun j' h1 h2 => by omega), Lib.hid (Below.refl _ _)⟩
          case round =>
            obtain ⟨j, hj1, rfl, hje, HNo, HBj⟩ := hrel
            have e5 := Below.keeps HBj.out _ _ HE05.out
            have hlbe : en ≤ lb := by have := HFL.out; omega
            generalize hP : F + 8 * j = P at *
            have HP := Lib.hid hP
            clear hP
            by_cases hPe : P < en
            · have i4 : (P : Int) < (en : Int) := by omega
              have c5 := Below.keeps HBj.out _ _ (HCell.out P (by omega))
              have i5 : (P : Int) < (lb : Int) := by omega
              by_cases h78 : bat BB P = 78
              · have g5 : (((bat BB P).toNat : Int) == 78) = true := by rw [h78]; rfl
                go_wp2_with fail
                refine (awake_any _).mono ?_; rintro e w9 ⟨rfl, hb9⟩
                have HX := Lib.hid (bstep (bstep HB5.out HBj.out) hb9)
                clear hb9
                go_wp2_with fail
                go_ret
                exact ⟨rfl, HX.out⟩
              · have g5 : (((bat BB P).toNat : Int) == 78) = false := beq_eq_false_iff_ne.2 (fun e => h78 (UInt8.toNat_inj.1 (by show (bat BB P).toNat = 78; omega)))
                have HNo2 := Lib.hid (show ∀ j', 1 ≤ j' → j' < j + 1 → bat BB (F + 8 * j') ≠ 78 from fun j' h1 h2 => by
                  by_cases e : j' = j
                  · rw [e, HP.out]; exact h78
                  · exact HNo.out j' h1 (by omega))
                have j6 : IntKind.i64.wrap ((P : Int) + 8) = ((P + 8 : Nat) : Int) := (IntWalk.i64_in _ (by omega)).trans (by omega)
                clear h78
                generalize (bat BB P).toNat = bp at *
                go_wp2_with fail
                exact ⟨⟨j + 1, by omega, by rw [← HP.out]; rfl, by have := HP.out; omega, HNo2, HBj⟩, by simp [intOf]; omega⟩
            · have i4 : ¬ (P : Int) < (en : Int) := by omega
              have HM := Lib.hid (HDm.out (fun j' h1 h2 => HNo.out j' h1 (by have := HP.out; have := HE.out; omega)))
              have HSv := Lib.hid (salvage_any _ BB wr (RdL.below HRB.out HBj.out) (by have := HSl.out; omega))
              have HBw := Lib.hid (bstep HB5.out HBj.out)
              have HRk6 := Lib.hid (HRk5.out.below HBj.out)
              clear HDm HNo HRB HCell HSl
              generalize hwr : wr = V at *
              clear hwr
              go_wp2_with fail
              refine HSv.out.mono ?_; rintro e V2 ⟨⟨mv, ms, rfl, hownm, hms⟩, hbm⟩
              have HMs := Lib.hid (show (ms.map (·.1)).map (·.nd) = K.take i ++ K.drop (i + 1) by rw [hms]; exact HM.out)
              have HBv := Lib.hid (bstep HBw.out hbm)
              have HRm := Lib.hid hownm.rd
              have HRk7 := Lib.hid (HRk6.out.below hbm)
              obtain ⟨ma, mc, hmv, _⟩ := own_form hownm.row
              subst hmv
              have hml : ms.length = n - 1 := by
                have := congrArg List.length HMs.out
                rw [List.length_map, List.length_map, List.length_append, List.length_take, List.length_drop, HKl.out] at this
                omega
              clear hownm hms hbm HSv HM HBw HRk6 HBj e5
              rw [hml]
              rw [hml] at HRm
              have HMl := Lib.hid hml
              obtain ⟨n', hn'⟩ : ∃ n', n = n' + 1 := ⟨n - 1, by omega⟩
              have hN1 : n - 1 = n' := by omega
              rw [hN1] at HRm HMl ⊢
              have j7 : IntKind.i64.wrap ((n : Int) - 1) = (n' : Int) := (IntWalk.i64_in _ (by omega)).trans (by omega)
              have j8 : (n : Int) - 1 = (n' : Int) := by omega
              have q4 : ((n' : Int) != (n' : Int)) = false := by simp
              have HNN := Lib.hid hn'
              clear hml hn' hN1
              go_wp2_with fail
              have HWant := Lib.hid (show ∀ jj, jj < n' → (rat ms jj).1.nd = K.getD (if jj < i then jj else jj + 1) nd0 from fun jj hjj => by
                have hml : jj < ms.length := by have := HMl.out; omega
                have hkl : K.length = n' + 1 := by rw [HKl.out, HNN.out]
                have := congrArg (·[jj]?) HMs.out
                rw [List.getElem?_map, List.getElem?_map, List.getElem?_eq_getElem hml] at this
                have e : (K.take i ++ K.drop (i + 1))[jj]? = K[if jj < i then jj else jj + 1]? := by
                  by_cases hji : jj < i
                  · rw [if_pos hji, List.getElem?_append_left (by rw [List.length_take]; omega), List.getElem?_take_of_lt hji]
                  · rw [if_neg hji, List.getElem?_append_right (by rw [List.length_take]; omega), List.length_take, List.getElem?_drop, Nat.min_eq_left (by omega)]
                    congr 1; omega
                rw [e] at this
                rw [List.getD_eq_getElem?_getD, ← this]
                unfold rat
                rw [List.getD_eq_getElem?_getD, List.getElem?_eq_getElem hml]; rfl)
              go_loopw [107] (fun iv W => ∃ jj : Nat, iv = .int .i64 (jj : Int) ∧ jj ≤ n' ∧ Hid (Below V2.heap.size V2 W)) (fun iv _ => n' - (intOf iv).toNat)
              case atStart => exact ⟨0, rfl, Nat.zero_le _, Lib.hid (Below.refl _ _)⟩
              case round =>
                obtain ⟨jj, rfl, hjl, HB⟩ := hrel
                by_cases hjn : jj < n'
                · have hW := HWant.out jj hjn
                  have hwn : (if jj < i then jj else jj + 1) < n := by have := HNN.out; split <;> omega
                  have i6 : (jj : Int) < (n' : Int) := by omega
                  have HWc := Lib.hid (show (jj < i → (if jj < i then jj else jj + 1) = jj) ∧ (¬ jj < i → (if jj < i then jj else jj + 1) = jj + 1) from ⟨fun h => if_pos h, fun h => if_neg h⟩)
                  generalize (if jj < i then jj else jj + 1) = wn at *
                  go_upto_if 113 with fail
                  go_cut [19] (fun s wx => s = .int .i64 (wn : Int) ∧ wr = wx)
                  case first =>
                    by_cases hji : jj < i
                    · have g6 : decide ((i : Int) ≤ (jj : Int)) = false := by simp; omega
                      have hwe := HWc.out.1 hji
                      subst hwe
                      go_wp2_with fail
                      go_meet
                      case rel => exact ⟨rfl, rfl⟩
                    · have g6 : decide ((i : Int) ≤ (jj : Int)) = true := by simp; omega
                      have hwe := HWc.out.2 hji
                      subst hwe
                      have j9 : IntKind.i64.wrap ((jj : Int) + 1) = ((jj + 1 : Nat) : Int) := (IntWalk.i64_in _ (by omega)).trans (by omega)
                      go_wp2_with fail
                      go_meet
                      case rel => exact ⟨by simp, rfl⟩
                  case rest =>
                    obtain ⟨rfl, rfl⟩ := hcut
                    obtain ⟨c1b, c1o, hla, hd1, c0, c1, c2, c3, c4⟩ := (HRm.out.below HB.out).at hjn
                    obtain ⟨c2b, c2o, hka, hd2, d0, d1, d2, d3⟩ := (HRk7.out.below HB.out).at hwn
                    subst hla hka
                    rw [hW] at hd1 c1 c2 c3
                    rw [HKat.out wn hwn] at hd2 d0 d1 d2
                    generalize (rat ms jj).2 = v1 at *
                    generalize (nat' es wn).2 = v2 at *
                    clear hW c0
                    generalize K.getD wn nd0 = X at *
                    have HSame := Lib.hid (fun u : BelowBy wr => (rnsame_any X X v1 v2 u.w' (RdL.below hd1 u.h) (RdL.below hd2 u.h)))
                    rw [show decide (X = X) = true from decide_eq_true rfl] at HSame
                    obtain ⟨a1, k1, hv1, _, _⟩ := hd1.shape0
                    obtain ⟨a2, k2, hv2, _, _⟩ := hd2.shape0
                    subst hv1 hv2
                    obtain ⟨xk, xc, xd, xl⟩ := X
                    dsimp only at *
                    generalize hxl : xl.length = l at *
                    clear hd1 hd2 hxl
                    have c1 := cell_by c1
                    have c2 := cell_by c2
                    have c3 := cell_by c3
                    have c4 := cell_by c4
                    have d0 := cell_by d0
                    have d1 := cell_by d1
                    have d2 := cell_by d2
                    have d3 := cell_by d3
                    have i7 : (wn : Int) < (n : Int) := by omega
                    go_wp2_with fail
                    refine wp_region_below (by kernel_rfl) (by kernel_rfl) ?_
                    repeat (go_big_quiet_step ((first | exact calls_by (HSame.out _))))
                    refine wpQuiet_nil ?_
                    intro _ hw'
                    obtain ⟨u, hw'⟩ := hw'
                    subst hw'
                    have HBu := Lib.hid (bstep HB.out u.h)
                    clear c1 c2 c3 c4 d0 d1 d2 d3
                    go_wp2_with fail
                    exact ⟨⟨jj + 1, by go_num, by omega, HBu⟩, by simp [intOf]; omega⟩
                · obtain rfl : jj = n' := by omega
                  go_wp2_with fail
                  refine (awake_any _).mono ?_; rintro e w9 ⟨rfl, hb9⟩
                  have HX := Lib.hid (bstep (bstep HBv.out HB.out) hb9)
                  clear hb9
                  go_wp2_with fail
                  go_ret
                  exact ⟨rfl, HX.out⟩
end Go.Proofs.Ytecflhklpkjhcaa

namespace Go.Proofs.Ytecflhklpkjhcaa
open Go.RowKit Go.ChangeShapes Go.WideShapes Go.Deep

theorem structN : ∃ f0 f1 f2 f3, Try.prog.underlying 31 = some (.struct #[f0, f1, f2, f3]) ∧ (f0.offset = 0 ∧ f1.offset = 1 ∧ f2.offset = 2 ∧ f3.offset = 3) ∧ f0.type = 28 ∧ f1.type = 29 ∧ f2.type = 4 ∧ f3.type = 23 :=
  ⟨_, _, _, _, Try.underlying31, ⟨rfl, rfl, rfl, rfl⟩, rfl, rfl, rfl, rfl⟩
theorem cellsOfN : Try.prog.cellsOf 31 = 4 := by kernel_rfl
theorem cellsOf_bool : Try.prog.cellsOf 4 = 1 := by kernel_rfl
theorem cellsOf_bytes : Try.prog.cellsOf 23 = 1 := by kernel_rfl
section
variable {H : Type} {enc : TypeId × Value → H} {w : World}
theorem open_bytes {fuel : Nat} {cs : List Value} {x : DataW H × List MemPlace} (h : DataW.trod enc Try.prog w 0 (fun _ => true) true fuel 23 cs = some x) : ∃ (v : Value) (l : List UInt8), cs = [v] ∧ RdB w v l := by
  rcases open_ints Try.underlying23 Try.underlying5 (by kernel_rfl) h with ⟨hcs, _⟩ | ⟨x, l, c, zs, hcs, _, hl, hm, hz, _, hcell, hwz⟩
  · exact ⟨_, [], hcs, RdB_nil w⟩
  · obtain ⟨r, _, hr⟩ := isRow_bytes (w := w) (a := some x) (len := l) (cap := c) (zs := zs) (.inr ⟨_, rfl, hl, hm, by simpa using hz, hcell, hwz⟩)
    exact ⟨_, r, hcs, hr⟩
theorem open_need {fuel : Nat} {cs : List Value} {x : DataW H × List MemPlace} (h : DataW.trod enc Try.prog w 0 (fun _ => true) true fuel 31 cs = some x) : ∃ y : Nd × Value, cs = needC y ∧ y.1.Wf ∧ RdB w y.2 y.1.data := by
  obtain ⟨f0, f1, f2, f3, hs, ⟨o0, o1, o2, o3⟩, t0, t1, t2, t3⟩ := structN
  obtain ⟨xs, n, _, _, hlen, hxl, hf⟩ := DataW.trod_struct hs h
  rw [cellsOfN] at hlen
  have hx : xs.length = 4 := by simpa using hxl
  have g : ∀ j (hj : j < 4), xs[j]? = some (xs[j]'(by omega)) := fun j hj => List.getElem?_eq_getElem (by omega)
  have h0 := (hf 0 f0 rfl).trans (g 0 (by omega))
  have h1 := (hf 1 f1 rfl).trans (g 1 (by omega))
  have h2 := (hf 2 f2 rfl).trans (g 2 (by omega))
  have h3 := (hf 3 f3 rfl).trans (g 3 (by omega))
  rw [t0, o0, cellsOf_u64] at h0
  rw [t1, o1, cellsOf_u32] at h1
  rw [t2, o2, cellsOf_bool] at h2
  rw [t3, o3, cellsOf_bytes] at h3
  obtain ⟨k, e0, _, w0⟩ := DataW.trod_int Try.underlying28 h0
  obtain ⟨c, e1, _, w1⟩ := DataW.trod_int Try.underlying29 h1
  obtain ⟨d, e2, _⟩ := DataW.trod_bool Try.underlying4 h2
  obtain ⟨v, l, e3, hr⟩ := open_bytes h3
  have d0 := one_of e0
  have d1 := one_of e1
  have d2 := one_of e2
  have d3 := one_of e3
  have b0 := bounds_of_u64 w0
  have b1 := bounds_of_u32 w1
  obtain ⟨k, rfl⟩ := Int.eq_ofNat_of_zero_le b0.1
  obtain ⟨c, rfl⟩ := Int.eq_ofNat_of_zero_le b1.1
  refine ⟨(⟨k, c, d, l⟩, v), ?_, show k < 18446744073709551616 ∧ c < 4294967296 by omega, hr⟩
  match cs, hlen, d0, d1, d2, d3 with
  | [a, b, c', d], _, d0, d1, d2, d3 =>
    simp at d0 d1 d2 d3
    subst d0 d1 d2 d3
    rfl
theorem open_needs {a : Option Addr} {n cap : Nat} {d : DataW H} {p : List MemPlace} (h : DataW.Trod enc Try.prog w 0 (fun _ => true) true 22 (.slice a n cap) d p) :
    ∃ l : List (Nd × Value), RdN w (.slice a n cap) l ∧ ∀ x ∈ l, x.1.Wf := by
  obtain ⟨fuel, hf⟩ := h
  rcases open_slice Try.underlying22 hf with ⟨hcs, _⟩ | ⟨x, len, cap', m, k, D, Pl, hcs, _, hl, hm, hmm, _, hx⟩
  · simp [Value.cells] at hcs
    obtain ⟨rfl, rfl, rfl⟩ := hcs
    exact ⟨[], rdN_nil w, fun e he => by cases he⟩
  · simp [Value.cells] at hcs
    obtain ⟨rfl, rfl, rfl⟩ := hcs
    simp only [if_true] at hmm
    subst hmm
    rw [cellsOfN] at hx
    haveI : Inhabited (Nd × Value) := ⟨(nd0, .slice none 0 0)⟩
    have each : ∀ i, i < n → ∃ y : Nd × Value, (∀ j, j < 4 → w.cell? (x.add (i * 4 + j)) = (needC y)[j]?) ∧ y.1.Wf ∧ RdB w y.2 y.1.data := fun i hi => by
      obtain ⟨cs', h1, h2⟩ := hx i (by omega)
      obtain ⟨y, rfl, hy⟩ := open_need h2
      obtain ⟨_, _, hc⟩ := World.cells?_some h1
      exact ⟨y, fun j hj => by rw [← hc j hj, Go.Deep.add_add], hy⟩
    obtain ⟨E, hE⟩ := choose_lt each
    refine ⟨(List.range n).map E, ⟨?_, fun e he => ?_⟩, fun e he => ?_⟩
    · rw [List.length_map, List.length_range]
      refine ⟨by rw [needsC_length]; simp, some x, m, by simp, by simpa using hl, hm, fun h => by simp at h, fun hp => ?_⟩
      have hn : 0 < n := by
        rw [needsC_length] at hp; simp at hp; omega
      obtain ⟨b, off, spot⟩ := x
      have hspot : spot = none := by
        have h0 : w.cell? ((⟨b, off, spot⟩ : Addr).add (0 * 4 + 0)) = some (.int .u64 ((E 0).1.key : Int)) := ((hE 0 hn).1 0 (by omega)).trans rfl
        simpa [Addr.add] using World.cell?_spot h0
      subst hspot
      refine ⟨b, off, rfl, fun j u hj => ?_⟩
      have hjl : j < n * 4 := by
        have := (List.getElem?_eq_some_iff.1 hj).1
        rw [needsC_length] at this
        simpa using this
      have hat := flat_at 4 needC (nd0, .slice none 0 0) ((List.range n).map E) (fun _ _ => rfl) (j / 4) (j % 4) (by simp; omega) (by omega)
      rw [show j / 4 * 4 + j % 4 = j by omega] at hat
      have hg : ((List.range n).map E).getD (j / 4) (nd0, .slice none 0 0) = E (j / 4) := by
        rw [List.getD_eq_getElem?_getD, List.getElem?_map, List.getElem?_range (by omega)]; rfl
      rw [hg] at hat
      have hc := (hE (j / 4) (by omega)).1 (j % 4) (by omega)
      rw [show j / 4 * 4 + j % 4 = j by omega, addr_add] at hc
      rw [hc, ← hat]; exact hj
    · obtain ⟨i, hi, rfl⟩ := List.mem_map.1 he
      exact (hE i (List.mem_range.1 hi)).2.2
    · obtain ⟨i, hi, rfl⟩ := List.mem_map.1 he
      exact (hE i (List.mem_range.1 hi)).2.1
end
theorem reads_open (a : Option Addr) (n cap : Nat) (b : Option Addr) (k c : Nat) (zs : List Int) (w : World) (h : ∃ l, RdN w (.slice a n cap) l ∧ ∀ x ∈ l, x.1.Wf) (h2 : IsRow .u8 w b k c zs) :
    Calls Try.prog 3 #[.slice a n cap, .slice b k c] w fun e w' => e = .returned (.bool true) ∧ Below w.heap.size w w' := by
  obtain ⟨l, hl, hw⟩ := h
  obtain ⟨raw, hr, ht⟩ := isRow_bytes h2
  exact reads_walk _ _ l raw w hl hw ht
end Go.Proofs.Ytecflhklpkjhcaa

namespace Go.Proofs.Ytecflhklpkjhcaa
open Go.RowKit

theorem salvages_open (b : Option Addr) (m c : Nat) (z1 z2 x : Int) (w : World) (h2 : ∃ l, RdN w (.slice b m c) l ∧ ∀ x ∈ l, x.1.Wf) (_h3 : (Lit.int .i64 z1).wf = true) (_h3' : (Lit.int .i64 z2).wf = true) (h4 : (Lit.int .u8 x).wf = true) :
    Calls Try.prog 9 #[.slice b m c, .int .i64 z1, .int .i64 z2, .int .u8 x] w fun e w' => e = .returned (.bool true) ∧ Below w.heap.size w w' := by
  obtain ⟨l, hl, hw⟩ := h2
  obtain ⟨cb, rfl⟩ := byte_of_u8 h4
  exact salvages_walk _ z1 z2 cb l w hl hw
end Go.Proofs.Ytecflhklpkjhcaa
