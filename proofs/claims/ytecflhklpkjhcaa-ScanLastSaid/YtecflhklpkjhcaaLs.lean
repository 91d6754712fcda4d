/- scan.last: which record of a key is the last. -/
import Derived.Test.YtecflhklpkjhcaaFl
import Derived.Maps.OwnOps
import Derived.Maps.Views
import Derived.Maps.OwnSet
namespace Go.Proofs.Ytecflhklpkjhcaa
open Go.RowKit Go.Maps

/-- The place of the last that has the key; a, if there is none. -/
def lastA (key : Nat) : List Nat → Nat → Nat → Nat
  | [], _, a => a
  | x :: K, i, a => lastA key K (i + 1) (if x = key then i else a)
theorem lastA_snoc (key : Nat) : ∀ (K : List Nat) (x i a : Nat), lastA key (K ++ [x]) i a = if x = key then i + K.length else lastA key K i a
  | [], x, i, a => by simp [lastA]
  | y :: K, x, i, a => by
    show lastA key (K ++ [x]) (i + 1) _ = _
    rw [lastA_snoc key K x (i + 1)]
    split
    · simp; omega
    · rfl
def lastI (K : List Nat) (key : Nat) : Nat := lastA key K 0 0
theorem lastI_snoc (K : List Nat) (x key : Nat) : lastI (K ++ [x]) key = if x = key then K.length else lastI K key := by
  unfold lastI; rw [lastA_snoc, Nat.zero_add]
def keysR (l : List Rec) : List Nat := l.map fun r => r.nd.key
theorem lawK : Keyed Try.prog 28 := int_keyed Try.underlying28
theorem zeroI (w : World) : (zeroValue 3).run Try.prog w = .ok (.int .i64 0) w := by kernel_rfl
/-- Block B is a map that has f's answers. -/
def LastM (w : World) (B n : Nat) (f : Nat → Nat) : Prop := ∃ D : DataW Unit, w.ownsMap Try.prog 28 (plainElem Try.prog 3) B n D ∧ ∀ k : Nat, k < 18446744073709551616 → D.atKey (.int .u64 (k : Int)) (.lit (.int .i64 0)) = .lit (.int .i64 (f k : Int))
theorem LastM.below {w w' : World} {B n : Nat} {f : Nat → Nat} {C : Nat} (h : LastM w B n f) (hB : B < C) (hb : Below C w w') : LastM w' B n f := by
  obtain ⟨D, ⟨es, clock, h1, h2, h3, h4⟩, h5⟩ := h
  exact ⟨D, ⟨es, clock, (hb.block B hB).trans h1, h2, h3, h4⟩, h5⟩
theorem wf_key {k : Nat} (h : k < 18446744073709551616) : (Lit.int .u64 (k : Int)).wf = true := by
  exact WalkArith.wf_u64 (by omega)
theorem LastM.put {w : World} {B n : Nat} {f : Nat → Nat} {D : DataW Unit} {x i : Nat} (_hx : x < 18446744073709551616) (h1 : w.ownsMap Try.prog 28 (plainElem Try.prog 3) B n (D.put (.int .u64 (x : Int)) (.lit (.int .i64 (i : Int))))) (hD : IsMap D)
    (h2 : ∀ k : Nat, k < 18446744073709551616 → D.atKey (.int .u64 (k : Int)) (.lit (.int .i64 0)) = .lit (.int .i64 (f k : Int))) : LastM w B n (fun k => if x = k then i else f k) :=
  ⟨_, h1, fun k hk => by
    by_cases e : x = k
    · subst e
      rw [atKey_put_same hD (show WideAt.IsKeyLit (.int .u64 (x : Int)) from trivial)]; show _ = DataW.lit (.int .i64 ((if x = x then i else f x : Nat) : Int)); rw [if_pos rfl]
    · rw [atKey_put_other (by intro e'; injection e' with e1 e2; omega), h2 k hk]; show _ = DataW.lit (.int .i64 ((if x = k then i else f k : Nat) : Int)); rw [if_neg e]⟩
set_option maxRecDepth 100000 in
set_option maxHeartbeats 4000000 in
theorem last_any (v : Value) (es : List (Rec × Value)) (w : World) (h : RdR w v es) (hk : ∀ p ∈ es, p.1.nd.key < 18446744073709551616) (hs : es.length ≤ 1000000) :
    Calls Try.prog 35 #[v] w fun e w' => e = .returned (.map (some w.heap.size)) ∧ LastM w' w.heap.size es.length (lastI (keysR (es.map (·.1)))) ∧ Below w.heap.size w w' := by
  obtain ⟨a, cap, rfl, h1, h2⟩ := h.shape
  have Hw0 := Lib.hid h
  have HK := Lib.hid hk
  have HM := Lib.hid (show ∀ j, j < es.length → rat es j ∈ es from fun j => rat_mem)
  have HS := Lib.hid (show ∀ j, j < es.length → ∀ key, lastI ((keysR (es.map (·.1))).take (j + 1)) key = if (rat es j).1.nd.key = key then j else lastI ((keysR (es.map (·.1))).take j) key from fun j hj key => by
    have hl : (keysR (es.map (·.1))).length = es.length := by simp [keysR]
    rw [List.take_add_one, List.getElem?_eq_getElem (by omega), Option.toList_some, lastI_snoc, List.length_take, Nat.min_eq_left (by omega)]
    have : (keysR (es.map (·.1)))[j]'(by omega) = (rat es j).1.nd.key := by
      unfold rat
      simp [keysR, List.getD_eq_getElem?_getD, List.getElem?_eq_getElem hj]
    rw [this])
  have HE := Lib.hid (show (keysR (es.map (·.1))).take es.length = keysR (es.map (·.1)) from List.take_of_length_le (by simp [keysR]))
  generalize hn : es.length = n at *
  clear h hk hn
  generalize keysR (es.map (·.1)) = K at *
  have hmm := @run_makeMap Try.prog
  go_enter Try.func35, Try.ntmps35
  go_wp2_with fail
  go_loopw [9] (fun iv W => ∃ i : Nat, iv = .int .i64 (i : Int) ∧ i ≤ n ∧ Hid (LastM W w.heap.size i (lastI (K.take i))) ∧ Hid (Below w.heap.size w W) ∧ w.heap.size < W.heap.size) (fun iv _ => n - (intOf iv).toNat)
  case atStart => exact ⟨0, by rfl, Nat.zero_le _, Lib.hid ⟨_, World.ownsMap_made _ _ _ _, fun k _ => rfl⟩, Lib.hid ((Below.refl _ _).alloc (Nat.le_refl _) _), by simp⟩
  case round =>
    obtain ⟨i, rfl, hi, HMp, HB, hsz⟩ := hrel
    by_cases hin : i < n
    · have hr := Hw0.out.below HB.out
      obtain ⟨pb, poff, rfl, hd, c0, c1, c2, c3, c4⟩ := hr.at hin
      have hkk := HK.out _ (HM.out i hin)
      have HSi := Lib.hid (HS.out i hin)
      clear hr
      generalize rat es i = X at *
      obtain ⟨⟨off, x⟩, dv⟩ := X
      dsimp only at *
      obtain ⟨da, dc, hdv, _, _⟩ := hd.shape0
      subst hdv
      obtain ⟨D, hD, hat⟩ := HMp.out
      have HD := Lib.hid hD
      have HAt := Lib.hid hat
      have i1 : (i : Int) < (n : Int) := by omega
      clear hd hD hat
      have hkey : keyOf Try.prog 28 (.int .u64 (x.key : Int)) = some (.int .u64 (x.key : Int)) := keyOf_int_mk Try.underlying28 (wf_key hkk)
      go_wp2_with (at_mapUpdate; refine wpList_mapUpdate_own _ rfl _ _ _ 83 rfl 28 3 lawK Try.underlying83 _ w.heap.size i _ rfl (HD.out.alloc _) (by unfold maxLen; omega) _ _ _ rfl rfl hkey _ [] (plainElem_int Try.underlying3 (WalkArith.wf_i64 (by omega))) ?_; intro w1 hown1 hgrow1)
      have HAl := Lib.hid (HB.out.alloc (Nat.le_of_lt hsz) (.cells (recC (⟨off, x⟩, .slice da x.data.length dc)).toArray 43))
      have HG := Lib.hid (HAl.out.grown hgrow1 HAl.out.size (fun j hj => by cases hj; exact Nat.le_refl _))
      have HP := Lib.hid (LastM.put hkk hown1 (HD.out.tidy lawK).isMap HAt.out)
      have HF := Lib.hid (show (fun k => if x.key = k then i else lastI (K.take i) k) = lastI (K.take (i + 1)) from funext fun k => (HSi.out k).symm)
      rw [HF.out] at HP
      have hs1 : w.heap.size < w1.heap.size := Nat.lt_of_lt_of_le hsz (Nat.le_trans (by simp) hgrow1.size)
      clear hown1 hgrow1 HAl
      go_wp2_with fail
      exact ⟨⟨i + 1, by go_num, by omega, HP, HG, hs1⟩, by simp [intOf]; omega⟩
    · obtain rfl : i = n := by omega
      go_wp2_with fail
      go_ret
      exact ⟨rfl, by have := HMp.out; rw [HE.out] at this; exact this, HB.out⟩
end Go.Proofs.Ytecflhklpkjhcaa
