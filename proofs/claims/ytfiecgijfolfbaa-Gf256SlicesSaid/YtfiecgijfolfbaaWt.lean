/- The walk over gf256.tables: the tables of powers and logarithms. -/
import Derived.Test.YtfiecgijfolfbaaWr
namespace Go.Proofs.Ytfiecgijfolfbaa
open Go.RowKit
def Z41 : Array Value := Array.replicate 510 (.int .u8 0)
def Z42 : Array Value := Array.replicate 256 (.int .i64 0)
theorem zero41 (w : World) : (zeroValue 41).run Try.prog w = .ok (.agg Z41) w := by kernel_rfl
theorem zero42 (w : World) : (zeroValue 42).run Try.prog w = .ok (.agg Z42) w := by kernel_rfl
/-- The tables after n rounds. -/
def EA : Nat → Array Value
  | 0 => Z41
  | n + 1 => ((EA n).setIfInBounds n (.int .u8 (Gf.pw n : Nat))).setIfInBounds (n + 255) (.int .u8 (Gf.pw n : Nat))
def LA : Nat → Array Value
  | 0 => Z42
  | n + 1 => (LA n).setIfInBounds (Gf.pw n) (.int .i64 (n : Int))
theorem EA_size : ∀ n, (EA n).size = 510
  | 0 => by simp [EA, Z41]
  | n + 1 => by simp [EA, EA_size n]
theorem LA_size : ∀ n, (LA n).size = 256
  | 0 => by simp [LA, Z42]
  | n + 1 => by simp [LA, LA_size n]
def eAt (n i : Nat) : Nat := if i < n ∨ (255 ≤ i ∧ i < 255 + n) then Gf.pw i else 0
theorem EA_at : ∀ (n i : Nat), n ≤ 255 → i < 510 → (EA n)[i]? = some (.int .u8 (eAt n i : Nat))
  | 0, i, _, hi => by
    rw [show eAt 0 i = 0 from if_neg (by omega)]
    simp [EA, Z41, hi]
  | n + 1, i, hn, hi => by
    have ih := EA_at n i (by omega) hi
    unfold EA
    rw [Array.getElem?_setIfInBounds]
    by_cases h1 : n + 255 = i
    · subst h1
      rw [if_pos rfl, if_pos (by simp [EA_size]; omega)]
      rw [eAt, if_pos (by omega), Gf.pw_add_255]
    · rw [if_neg h1, Array.getElem?_setIfInBounds]
      by_cases h2 : n = i
      · subst h2
        rw [if_pos rfl, if_pos (by simp [EA_size]; omega), eAt, if_pos (by omega)]
      · rw [if_neg h2, ih]
        congr 3
        unfold eAt
        by_cases h3 : i < n ∨ (255 ≤ i ∧ i < 255 + n)
        · rw [if_pos h3, if_pos (by omega)]
        · rw [if_neg h3, if_neg (by omega)]
theorem EA_pw (n i : Nat) (hn : n = 255) (hi : i < 510) : (EA n)[i]? = some (.int .u8 (Gf.pw i : Nat)) := by
  rw [EA_at n i (by omega) hi, eAt, if_pos (by omega)]
def lAt : Nat → Nat → Nat
  | 0, _ => 0
  | n + 1, a => if Gf.pw n = a then n else lAt n a
theorem LA_at : ∀ (n a : Nat), a < 256 → (LA n)[a]? = some (.int .i64 (lAt n a : Nat))
  | 0, a, ha => by simp [LA, Z42, ha, lAt]
  | n + 1, a, ha => by
    have ih := LA_at n a ha
    unfold LA lAt
    rw [Array.getElem?_setIfInBounds]
    by_cases h : Gf.pw n = a
    · rw [if_pos h, if_pos h, if_pos (by rw [LA_size]; exact Gf.pw_lt n)]
    · rw [if_neg h, if_neg h, ih]
theorem lAt_pw (k : Nat) (hk : k < 255) : ∀ n, n ≤ 255 → k < n → lAt n (Gf.pw k) = k
  | 0, _, h => absurd h (Nat.not_lt_zero _)
  | n + 1, hn, h => by
    unfold lAt
    by_cases e : Gf.pw n = Gf.pw k
    · have h1 := Gf.lg_pw (show n < 255 by omega)
      rw [e, Gf.lg_pw hk] at h1
      rw [if_pos e, h1]
    · rw [if_neg e]
      have : k ≠ n := fun h' => e (by rw [h'])
      exact lAt_pw k hk n (by omega) (by omega)
theorem lAt_zero : ∀ n, lAt n 0 = 0
  | 0 => rfl
  | n + 1 => by
    unfold lAt
    rw [if_neg (by have := Gf.pw_pos n; omega), lAt_zero n]
theorem LA_lg (n a : Nat) (hn : n = 255) (ha : a < 256) : (LA n)[a]? = some (.int .i64 (Gf.lg a : Nat)) := by
  rw [LA_at n a ha]
  congr 3
  rcases Nat.eq_zero_or_pos a with h | h
  · subst h; rw [lAt_zero, Gf.lg_zero]
  · have := Gf.pw_lg h ha
    conv => lhs; rw [← this.1]
    exact lAt_pw _ this.2 n (Nat.le_of_eq hn) (by rw [hn]; exact this.2)

def tabRel (w : World) (iv xv : Value) (wr : World) : Prop :=
  ∃ n : Nat, n ≤ 255 ∧ iv = .int .i64 (n : Int) ∧ xv = .int .i64 (Gf.pw n : Nat) ∧ wr = (w.alloc (.cells (EA n) 41)).alloc (.cells (LA n) 42)

theorem ready_plain {P : Program} {md : Region.Mode} {ops : Array Oper} {Q : Exit → Act → World → Prop} {fuel : Nat} {listed : Array Bool} {a : Act} {w : World} {i : Nat} {o : Oper} {rs : List Nat} (ho : ops[i]? = some o) (hg : o.guard = none)
    (h : ∀ K' : Act → World → Prop, (∀ a w, wpAny P md ops Q fuel (listed.setIfInBounds i true) a w → K' a w) → Oper.wp P o a w K' Q)
    (hs : AllReady P md ops Q fuel listed a w rs) : AllReady P md ops Q fuel listed a w (i :: rs) :=
  AllReady.cons ho (fun K hK => by rw [if_pos (by simp [Region.wanted, hg])]; exact h K hK) hs
def ETab : Array Value := EA 255
def LTab : Array Value := LA 255
theorem ETab_size : ETab.size = 510 := EA_size _
theorem LTab_size : LTab.size = 256 := LA_size _
theorem ETab_at (i : Nat) (hi : i < 510) : ETab[i]? = some (.int .u8 (Gf.pw i : Nat)) := EA_pw _ i rfl hi
theorem LTab_at (a : Nat) (ha : a < 256) : LTab[a]? = some (.int .i64 (Gf.lg a : Nat)) := LA_lg _ a rfl ha
theorem EA_one (n : Nat) (hn : n ≤ 255) : (EA n).all (·.oneCell') = true := by
  rw [Array.all_eq_true]
  intro i hi
  have h := EA_at n i hn (by rw [EA_size] at hi; exact hi)
  rw [Array.getElem?_eq_getElem hi] at h
  rw [Option.some.inj h]; rfl
theorem LA_one (n : Nat) : (LA n).all (·.oneCell') = true := by
  rw [Array.all_eq_true]
  intro i hi
  have h := LA_at n i (by rw [LA_size] at hi; exact hi)
  rw [Array.getElem?_eq_getElem hi] at h
  rw [Option.some.inj h]; rfl
theorem info41 (n : Nat) : (Try.prog.info? 41).map (·.size) = some (EA n).size := by rw [EA_size]; kernel_rfl
theorem info42 (n : Nat) : (Try.prog.info? 42).map (·.size) = some (LA n).size := by rw [LA_size]; kernel_rfl
theorem heap_two (w : World) (A B : Obj) : ((w.alloc A).alloc B).drew.heap[w.heap.size]? = some A ∧ ((w.alloc A).alloc B).drew.heap[w.heap.size + 1]? = some B := by
  show ((w.heap.push A).push B)[w.heap.size]? = _ ∧ ((w.heap.push A).push B)[w.heap.size + 1]? = _
  constructor
  · simp only [Array.getElem?_push, Array.size_push]; rw [if_neg (by omega), if_pos trivial]
  · simp only [Array.getElem?_push, Array.size_push]; rw [if_pos trivial]

theorem tab_way (w : World) (n : Nat) (xv : Int) (t : Bool) (hlt : n < 255) (e : ((Gf.pw n : Int) * 2 / 256 == 1) = t)
    (hx : xv = if t then bits .xor .i64 ((Gf.pw n : Int) * 2) 285 else (Gf.pw n : Int) * 2) :
    tabRel w (.int .i64 ((n : Int) + 1)) (.int .i64 xv) ((w.alloc (.cells (EA (n + 1)) 41)).alloc (.cells (LA (n + 1)) 42)) ∧
      255 - (intOf (.int .i64 ((n : Int) + 1))).toNat < 255 - (intOf (.int .i64 (n : Int))).toNat := by
  have hp := Gf.pw_lt n
  refine ⟨⟨n + 1, by omega, by go_num, ?_, rfl⟩, by simp [intOf]; omega⟩
  rw [hx, ← e]
  show _ = Value.int .i64 ((Gf.dbl (Gf.pw n) : Nat) : Int)
  by_cases h : Gf.pw n * 2 / 256 = 1
  · rw [if_pos (by simp; omega), Gf.dbl_ge _ h]
    exact congrArg (Value.int .i64) (i64_xor_nat (Gf.pw n * 2) 285 (by omega) (by omega))
  · rw [if_neg (by simp; omega), Gf.dbl_lo _ h]; rfl

set_option maxRecDepth 100000 in
set_option maxHeartbeats 1000000 in
theorem tables_any (w : World) :
    Calls Try.prog 27 #[] w fun e w' => e = .returned (.tuple #[.agg ETab, .agg LTab]) ∧ Below w.heap.size w w' := by
  have z41 := zero41
  have z42 := zero42
  go_enter Try.func27, Try.ntmps27
  go_wp2_with fail
  go_loopw [4, 2] (fun i x wr => tabRel w i x wr) (fun i _ _ => 255 - (intOf i).toNat)
  case atStart => exact ⟨0, by decide, rfl, rfl, rfl⟩
  case round =>
    obtain ⟨n, hn, rfl, rfl, rfl⟩ := hrel
    clear z41 z42
    have hs1 := EA_size n
    have hs2 := LA_size n
    have hp := Gf.pw_lt n
    by_cases hlt : n < 255
    · have c1 : (EA n)[n]? = some (.int .u8 (eAt n n : Nat)) := EA_at n n hn (by omega)
      have c2 : (EA n)[n + 255]? = some (.int .u8 (eAt n (n + 255) : Nat)) := EA_at n (n + 255) hn (by omega)
      have c3 : (LA n)[Gf.pw n]? = some (.int .i64 (lAt n (Gf.pw n) : Nat)) := LA_at n _ hp
      go_wp2_with fail
      · exact tab_way w n _ true hlt ‹_› rfl
      · exact tab_way w n _ false hlt ‹_› rfl
    · go_wp2_with fail
      obtain ⟨g1, g2⟩ := heap_two w (.cells (EA n) 41) (.cells (LA n) 42)
      have hb : Below w.heap.size w ((w.alloc (.cells (EA n) 41)).alloc (.cells (LA n) 42)).drew := (((Below.refl _ _).alloc (Nat.le_refl _) _).alloc (by simp) _).drew
      have hn' : n = 255 := by omega
      refine wp_region_any (by kernel_rfl) ?_
      change wpAny _ _ _ _ _ _ _ (World.drew _)
      generalize ((w.alloc (.cells (EA n) 41)).alloc (.cells (LA n) 42)).drew = W at g1 g2 hb
      have s1 : W.setRow w.heap.size (EA n) = W := setRow_self W _ _ _ _ g1
      have s2 : W.setRow (w.heap.size + 1) (LA n) = W := setRow_self W _ _ _ _ g2
      have l1 : (loadVar 41 ⟨w.heap.size, 0, none⟩).run Try.prog W = .ok (.agg (EA n)) W := run_loadVar_row W _ 41 41 (EA n) (0, 0) _ g1 Try.underlying41 rfl (info41 n)
      have l2 : (loadVar 42 ⟨w.heap.size + 1, 0, none⟩).run Try.prog W = .ok (.agg (LA n)) W := run_loadVar_row W _ 42 42 (LA n) (0, 0) _ g2 Try.underlying42 rfl (info42 n)
      have hfin : ∀ a : Act, a.defers = [] → a.tmps.getD 0 undef = .pointer (some ⟨w.heap.size, 0, none⟩) → a.tmps.getD 1 undef = .pointer (some ⟨w.heap.size + 1, 0, none⟩) →
          bodyPost Try.prog Try.f27 (fun e w' => e = .returned (.tuple #[.agg ETab, .agg LTab]) ∧ Below w.heap.size w w') .ret a W := by
        intro a hd h0 h1
        have e1 : EA n = ETab := congrArg EA hn'
        have e2 : LA n = LTab := congrArg LA hn'
        rw [e1] at l1; rw [e2] at l2
        refine bodyPost_ret (v := .tuple #[.agg ETab, .agg LTab]) ?_ hd ⟨rfl, hb⟩
        simp only [Array.getD_eq_getD_getElem?] at h0 h1
        simp [results, Try.results27, h0, h1, asAddr, l1, l2]
      refine wpAny_ready (rs := [0, 1]) (by kernel_rfl) (by simp) ?_
      refine ready_plain rfl rfl (fun K hK => ?_) (ready_plain rfl rfl (fun K hK => ?_) (AllReady.nil))
      · refine wp_load_row 41 (.tmp 0) rfl w.heap.size rfl 41 (EA n) (0, 0) _ g1 Try.underlying41 rfl (info41 n) (hK _ _ ?_)
        refine wpAny_ready (rs := [1, 2]) (by kernel_rfl) (by simp) ?_
        refine ready_plain rfl rfl (fun K hK => ?_) (ready_plain rfl rfl (fun K hK => ?_) (AllReady.nil))
        · refine wp_load_row 42 (.tmp 1) rfl (w.heap.size + 1) rfl 42 (LA n) (0, 0) _ g2 Try.underlying42 rfl (info42 n) (hK _ _ ?_)
          refine wpAny_ready (rs := [2]) (by kernel_rfl) (by simp) ?_
          refine ready_plain rfl rfl (fun K hK => ?_) (AllReady.nil)
          refine wp_store_row 41 (.tmp 0) (.tmp 27) rfl w.heap.size (EA n) rfl rfl 41 (EA n) g1 (info41 n) rfl (EA_one n hn) ?_
          rw [s1]
          refine hK _ _ ?_
          refine wpAny_ready (rs := [3]) (by kernel_rfl) (by simp) ?_
          refine ready_plain rfl rfl (fun K hK => ?_) (AllReady.nil)
          refine wp_store_row 42 (.tmp 1) (.tmp 28) rfl (w.heap.size + 1) (LA n) rfl rfl 42 (LA n) g2 (info42 n) rfl (LA_one n) ?_
          rw [s2]
          refine hK _ _ ?_
          refine wpAny_done (by kernel_rfl) ?_ _
          (clear l1 l2 s1 s2 g1 g2 hK; have HF := Lib.hid hfin; clear hfin; go_wp2_with fail; exact HF.out _ rfl rfl rfl)
        · refine wp_store_row 41 (.tmp 0) (.tmp 27) rfl w.heap.size (EA n) rfl rfl 41 (EA n) g1 (info41 n) rfl (EA_one n hn) ?_
          rw [s1]
          refine hK _ _ ?_
          refine wpAny_ready (rs := [1]) (by kernel_rfl) (by simp) ?_
          refine ready_plain rfl rfl (fun K hK => ?_) (AllReady.nil)
          refine wp_load_row 42 (.tmp 1) rfl (w.heap.size + 1) rfl 42 (LA n) (0, 0) _ g2 Try.underlying42 rfl (info42 n) (hK _ _ ?_)
          refine wpAny_ready (rs := [3]) (by kernel_rfl) (by simp) ?_
          refine ready_plain rfl rfl (fun K hK => ?_) (AllReady.nil)
          refine wp_store_row 42 (.tmp 1) (.tmp 28) rfl (w.heap.size + 1) (LA n) rfl rfl 42 (LA n) g2 (info42 n) rfl (LA_one n) ?_
          rw [s2]
          refine hK _ _ ?_
          refine wpAny_done (by kernel_rfl) ?_ _
          (clear l1 l2 s1 s2 g1 g2 hK; have HF := Lib.hid hfin; clear hfin; go_wp2_with fail; exact HF.out _ rfl rfl rfl)
      · refine wp_load_row 42 (.tmp 1) rfl (w.heap.size + 1) rfl 42 (LA n) (0, 0) _ g2 Try.underlying42 rfl (info42 n) (hK _ _ ?_)
        refine wpAny_ready (rs := [0]) (by kernel_rfl) (by simp) ?_
        refine ready_plain rfl rfl (fun K hK => ?_) (AllReady.nil)
        refine wp_load_row 41 (.tmp 0) rfl w.heap.size rfl 41 (EA n) (0, 0) _ g1 Try.underlying41 rfl (info41 n) (hK _ _ ?_)
        refine wpAny_ready (rs := [2]) (by kernel_rfl) (by simp) ?_
        refine ready_plain rfl rfl (fun K hK => ?_) (AllReady.nil)
        refine wp_store_row 41 (.tmp 0) (.tmp 27) rfl w.heap.size (EA n) rfl rfl 41 (EA n) g1 (info41 n) rfl (EA_one n hn) ?_
        rw [s1]
        refine hK _ _ ?_
        refine wpAny_ready (rs := [3]) (by kernel_rfl) (by simp) ?_
        refine ready_plain rfl rfl (fun K hK => ?_) (AllReady.nil)
        refine wp_store_row 42 (.tmp 1) (.tmp 28) rfl (w.heap.size + 1) (LA n) rfl rfl 42 (LA n) g2 (info42 n) rfl (LA_one n) ?_
        rw [s2]
        refine hK _ _ ?_
        refine wpAny_done (by kernel_rfl) ?_ _
        (clear l1 l2 s1 s2 g1 g2 hK; have HF := Lib.hid hfin; clear hfin; go_wp2_with fail; exact HF.out _ rfl rfl rfl)
end Go.Proofs.Ytfiecgijfolfbaa
