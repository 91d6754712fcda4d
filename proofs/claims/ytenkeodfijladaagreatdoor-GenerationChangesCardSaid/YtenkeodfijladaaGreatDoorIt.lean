/- Items: lists of four numbers, as slices of structs; which items are valid; the walks over the functions of one item. -/
import Derived.Test.YtenkeodfijladaaGreatDoorRows
import Derived.Test.YtenkeodfijladaaGreatDoorBase
import Derived.Test.YtenkeodfijladaaGreatDoorPi
import Derived.BigQuiet
import Derived.Deep.QuietTactic
import Derived.Deep.RegionHeld3
namespace Go.Proofs.YtenkeodfijladaaGreatDoor
open Go.RowKit

def itC (x : It) : List Value := [.int .u64 x.key, .int .u32 x.ck, .int .i64 x.off, .int .i64 x.size]
abbrev itV (x : It) : Value := .agg #[.int .u64 x.key, .int .u32 x.ck, .int .i64 x.off, .int .i64 x.size]
abbrev RdT (w : World) (v : Value) (l : List It) : Prop := RdS 4 itC w v l
theorem itC_len (x : It) : (itC x).length = 4 := rfl

set_option maxHeartbeats 400000 in
theorem valid_any (k c o s : Int) (w : World) :
    Calls Tryz.prog 94 #[.agg #[.int .u64 k, .int .u32 c, .int .i64 o, .int .i64 s]] w fun e w' => e = .returned (.bool (okB ⟨k, c, o, s⟩)) ∧ Below w.heap.size w w' := by
  have HT := Lib.hid (show okP ⟨k, c, o, s⟩ → okB ⟨k, c, o, s⟩ = true from fun h => decide_eq_true h)
  have HF := Lib.hid (show ¬ okP ⟨k, c, o, s⟩ → okB ⟨k, c, o, s⟩ = false from fun h => decide_eq_false h)
  go_enter Tryz.func94, Tryz.ntmps94
  go_wp2_with fail
  · go_ret
    refine ⟨ret_bool ?_, (Below.refl _ _).alloc (Nat.le_refl _) _⟩
    by_cases hs : s ≤ 4096
    · rw [HT.out ⟨by assumption, by assumption, by assumption, by assumption, hs⟩]; exact decide_eq_true hs
    · rw [HF.out (fun h => hs h.2.2.2.2)]; exact decide_eq_false hs
  all_goals
    go_ret
    exact ⟨ret_bool (HF.out (fun h => by have h1 := h.1; have h2 := h.2.1; have h3 := h.2.2.1; have h4 := h.2.2.2.1; simp only [] at h1 h2 h3 h4; first | contradiction | omega)).symm, (Below.refl _ _).alloc (Nat.le_refl _) _⟩
set_option maxHeartbeats 400000 in
theorem rvalid1_any (k c o s : Int) (w : World) :
    Calls Tryz.prog 72 #[.agg #[.int .u64 k, .int .u32 c, .int .i64 o, .int .i64 s]] w fun e w' => e = .returned (.bool (okB ⟨k, c, o, s⟩)) ∧ Below w.heap.size w w' := by
  have HT := Lib.hid (show okP ⟨k, c, o, s⟩ → okB ⟨k, c, o, s⟩ = true from fun h => decide_eq_true h)
  have HF := Lib.hid (show ¬ okP ⟨k, c, o, s⟩ → okB ⟨k, c, o, s⟩ = false from fun h => decide_eq_false h)
  go_enter Tryz.func72, Tryz.ntmps72
  go_wp2_with fail
  · go_ret
    refine ⟨ret_bool ?_, (Below.refl _ _).alloc (Nat.le_refl _) _⟩
    by_cases hs : s ≤ 4096
    · rw [HT.out ⟨by assumption, by assumption, by assumption, by assumption, hs⟩]; exact decide_eq_true hs
    · rw [HF.out (fun h => hs h.2.2.2.2)]; exact decide_eq_false hs
  all_goals
    go_ret
    exact ⟨ret_bool (HF.out (fun h => by have h1 := h.1; have h2 := h.2.1; have h3 := h.2.2.1; have h4 := h.2.2.2.1; simp only [] at h1 h2 h3 h4; first | contradiction | omega)).symm, (Below.refl _ _).alloc (Nat.le_refl _) _⟩
set_option maxHeartbeats 400000 in
theorem notvalid_any (k c o s : Int) (w : World) :
    Calls Tryz.prog 93 #[.agg #[.int .u64 k, .int .u32 c, .int .i64 o, .int .i64 s]] w fun e w' => e = .returned (.bool (!okB ⟨k, c, o, s⟩)) ∧ Below w.heap.size w w' := by
  have H := Lib.hid fun w => valid_any k c o s w
  generalize okB ⟨k, c, o, s⟩ = r at *
  go_enter Tryz.func93, Tryz.ntmps93
  go_wp2_with fail
  refine (H.out _).mono ?_; rintro e w1 ⟨rfl, hb⟩
  go_wp2_with fail
  go_ret
  exact ⟨rfl, bstep ((Below.refl _ _).alloc (Nat.le_refl _) _) hb⟩

theorem RdT.below {w w' : World} {v : Value} {l : List It} (h : RdT w v l) (hb : Below w.heap.size w w') : RdT w' v l := RdS.below h hb
theorem RdT.shape {w : World} {v : Value} {l : List It} (h : RdT w v l) : ∃ a cap, v = .slice a l.length cap ∧ l.length ≤ cap ∧ cap ≤ maxLen := by
  obtain ⟨a, cap, h1, h2, h3, _⟩ := RdS.shape h (by decide) it0
  exact ⟨a, cap, h1, h2, h3⟩
theorem RdT.at {w : World} {a : Option Addr} {n cap : Nat} {l : List It} (h : RdT w (.slice a n cap) l) {j : Nat} (hj : j < n) : ∃ b off, a = some ⟨b, off, none⟩ ∧
    w.cell? ⟨b, off + j * 4, none⟩ = some (.int .u64 (iat l j).key) ∧ w.cell? ⟨b, off + j * 4 + 1, none⟩ = some (.int .u32 (iat l j).ck) ∧
    w.cell? ⟨b, off + j * 4 + 2, none⟩ = some (.int .i64 (iat l j).off) ∧ w.cell? ⟨b, off + j * 4 + 3, none⟩ = some (.int .i64 (iat l j).size) := by
  obtain ⟨a', cap', e, h2, h3, _, h5⟩ := RdS.shape h (by decide) it0
  injection e with e1 e2 e3
  subst e1 e2 e3
  obtain ⟨b, off, e, hc⟩ := h5 (by omega)
  refine ⟨b, off, e, ?_, ?_, ?_, ?_⟩
  · have := hc j hj 0 _ rfl; rwa [Nat.add_zero] at this
  · exact hc j hj 1 _ rfl
  · exact hc j hj 2 _ rfl
  · exact hc j hj 3 _ rfl
theorem infoT : (Tryz.prog.info? 77).map (fun i => (i.zero, i.size, i.bytes)) = some (some (.agg #[.int .u64 0, .int .u32 0, .int .i64 0, .int .i64 0]), 4, 32) := by kernel_rfl
theorem elemT : ElemT Tryz.prog 22 77 4 32 := by
  obtain ⟨i, h1, h2, h3, h4⟩ := info_parts infoT
  exact ⟨Tryz.underlying22, by decide, i, _, h1, h2, h3, h4, rfl⟩
def itsC (l : List It) : List Value := l.flatMap itC
theorem itsC_take (l : List It) (k : Nat) : itsC (l.take k) = (itsC l).take (k * 4) := flat_take 4 itC l itC_len k
theorem itsC_drop (l : List It) (k : Nat) : itsC (l.drop k) = (itsC l).drop (k * 4) := flat_drop 4 itC l itC_len k
theorem itsC_append (l m : List It) : itsC (l ++ m) = itsC l ++ itsC m := by simp [itsC]
theorem itsC_one (x : It) : itsC [x] = itC x := by simp [itsC]
theorem itsC_cons (x : It) (l : List It) : itsC (x :: l) = itC x ++ itsC l := rfl
theorem itsC_length (l : List It) : (itsC l).length = l.length * 4 := flat_length 4 itC l (fun x _ => itC_len x)
theorem itsC_one' (l : List It) : ∀ u ∈ itsC l, u.oneCell' = true := by
  intro u hu
  obtain ⟨x, _, hx⟩ := List.mem_flatMap.1 hu
  simp [itC] at hx
  rcases hx with rfl | rfl | rfl | rfl <;> rfl
theorem rdT_rd {w : World} {v : Value} {l : List It} (h : RdT w v l) : Rd w 4 v l.length (itsC l) := h.2
theorem rd_rdT {w : World} {v : Value} {l : List It} {n : Nat} (h : Rd w 4 v n (itsC l)) : RdT w v l := by
  have e : l.length = n := by
    have := h.1
    rw [itsC_length] at this
    omega
  refine ⟨fun x _ => itC_len x, ?_⟩
  rw [e]; exact h
/-- v is a slice of items of the call's own, in a block from base on. -/
abbrev OwnT (w : World) (base : Nat) (v : Value) (l : List It) : Prop := w.ownsRow base 77 4 v l.length (itsC l)
theorem ownT_of {w : World} {base n : Nat} {v : Value} {l : List It} {xs : List Value} (h : w.ownsRow base 77 4 v n xs) (e : xs = itsC l) : OwnT w base v l := by
  subst e
  have : l.length = n := by have := h.1; rw [itsC_length] at this; omega
  unfold OwnT; rw [this]; exact h
theorem OwnT.rd {w : World} {base : Nat} {v : Value} {l : List It} (h : OwnT w base v l) : RdT w v l := rd_rdT (own_rd h)
theorem lt63 {n cap : Nat} (h : n ≤ cap) (h' : cap ≤ maxLen) : n ≤ 9223372036854775807 := by unfold maxLen at h'; omega

set_option maxHeartbeats 400000 in
theorem asc_any (v : Value) (l : List It) (w : World) (h : RdT w v l) :
    Calls Tryz.prog 91 #[v] w fun e w' => e = .returned (.bool (ascB l)) ∧ Below w.heap.size w w' := by
  obtain ⟨a, cap, rfl, h1, h2⟩ := h.shape
  have HT := Lib.hid (show AscTo l l.length → ascB l = true from fun h => (asc_iff l).2 h)
  have HF := Lib.hid (show ∀ j, j + 1 < l.length → _ from fun j => ascB_false (l := l) (j := j))
  have hm := lt63 h1 h2
  generalize hn : l.length = n at *
  have Hr := Lib.hid h
  clear h h1 h2 hn
  go_enter Tryz.func91, Tryz.ntmps91
  go_wp2_with fail
  go_loopw [7] (fun i wr => ∃ k : Nat, k ≤ n ∧ i = .int .i64 (k : Int) ∧ AscTo l k ∧ Below w.heap.size w wr) (fun i _ => n - (intOf i).toNat)
  case atStart => exact ⟨0, Nat.zero_le _, rfl, fun j hj => absurd hj (by omega), Below.refl _ _⟩
  case round =>
    obtain ⟨k, hk, rfl, hasc, hb⟩ := hrel
    have Hasc := Lib.hid hasc
    have Hb := Lib.hid hb
    have hB := hb.size
    clear hasc hb
    by_cases hlt : k < n
    · have hr := Hr.out.below Hb.out
      obtain ⟨b, off, rfl, c0, c1, c2, c3⟩ := hr.at hlt
      by_cases h0 : k = 0
      · subst h0
        rw [Nat.zero_mul, Nat.add_zero] at c0 c1 c2 c3
        clear hr
        go_wp2_with fail
        go_quiet (fail)
        go_wp2_with fail
        exact ⟨⟨1, by omega, by go_num, fun j hj => absurd hj (by omega), below_drewN (Hb.out.alloc hB _) _⟩, by simp [intOf]; omega⟩
      · obtain ⟨j, rfl⟩ : ∃ j, k = j + 1 := ⟨k - 1, by omega⟩
        have hd : decide ((0 : Int) < ((j + 1 : Nat) : Int)) = true := by simp
        obtain ⟨_, _, e, d0, _⟩ := hr.at (show j < n by omega)
        injection e with e; injection e with e1 e2; subst e1 e2
        generalize e1 : (iat l (j + 1)).key = x at *
        generalize e2 : (iat l j).key = y at *
        generalize (iat l (j + 1)).ck = x1 at *
        generalize (iat l (j + 1)).off = x2 at *
        generalize (iat l (j + 1)).size = x3 at *
        have E := Lib.hid (And.intro e1 e2)
        clear e1 e2 h0 hr
        have hne : ∀ o n, ((wr.alloc o).drewN n).cell? ⟨b, off + j * 4, none⟩ = some (.int .u64 y) := fun o n => Below.keeps (below_drewN ((Below.refl _ _).alloc (Nat.le_refl _) o) n) _ _ d0
        have i1 : (j : Int) + 1 < (n : Int) := by omega
        have i2 : (j : Int) < (n : Int) := by omega
        have j1 : IntKind.i64.wrap (j : Int) = (j : Int) := IntWalk.i64_in _ (by omega)
        go_wp2_with fail
        go_quiet (fail)
        clear j1 i1 i2
        go_wp2_with fail
        · have hle : x ≤ y := by assumption
          go_ret
          exact ⟨ret_bool (HF.out j hlt (by rw [E.out.1, E.out.2]; exact hle)).symm, below_drewN (Hb.out.alloc hB _) _⟩
        · have hxy : y < x := by assumption
          refine ⟨⟨j + 1 + 1, by omega, by go_num, Hasc.out.succ (fun i e => ?_), below_drewN (Hb.out.alloc hB _) _⟩, by simp [intOf]; omega⟩
          obtain rfl : j = i := by omega
          rw [E.out.1, E.out.2]; exact hxy
    · obtain rfl : k = n := by omega
      go_wp2_with fail
      go_ret
      exact ⟨ret_bool (HT.out Hasc.out).symm, Hb.out⟩
end Go.Proofs.YtenkeodfijladaaGreatDoor
