/- The walks over sorted, of ascending lists, search and Find. -/
import Derived.Test.YtecflhklpkjhcaaMk
namespace Go.Proofs.Ytecflhklpkjhcaa
open Go.RowKit

set_option maxHeartbeats 400000 in
theorem clone_any (v : Value) (l : List It) (w : World) (h : RdT w v l) (hs : l.length ≤ 1000000) :
    Calls Try.prog 58 #[v] w fun e w' => ∃ v', e = .returned v' ∧ OwnT w' w.heap.size v' l ∧ Below w.heap.size w w' := by
  obtain ⟨a, cap, rfl, h1, h2⟩ := h.shape
  have q22 : ∀ (w : World) (a : Option Addr) (n c n' c' : Nat), (binOp .eql 47 (.slice a n c) (.slice none n' c')).run Try.prog w = .ok (.bool a.isNone) w := fun w a n c n' c' => Lib.run_eql_slice_nil w _ _ a n c n' c' Try.underlying47
  cases a with
  | none =>
    have h0 : l = [] := by
      obtain ⟨_, a', cap', e, _, _, h5, _⟩ := h.2
      injection e with e1 e2 e3
      have := h5 e1.symm
      exact List.length_eq_zero_iff.1 (by omega)
    subst h0
    clear h
    go_enter Try.func58, Try.ntmps58
    go_wp2_with fail
    go_ret
    exact ⟨_, rfl, World.ownsRow_nil _ _ _ _, Below.refl _ _⟩
  | some p =>
    have Hr := Lib.hid (rdT_rd h)
    generalize hn : l.length = n at *
    clear h
    go_enter Try.func58, Try.ntmps58
    go_wp2_with (at_builtin; go_must (refine wpList_app rfl (.tmp 5) (.tmp 6) 47 rfl elemT w.heap.size rfl (World.ownsRow_made (size := 4) _ #[] 0 (Nat.le_refl _) (by decide) rfl) rfl (Hr.out.alloc _) (itsC_one' _) (by unfold maxLen; omega) (by omega) (by simp) ?_); intro v3 w3 hown3 hgr3 hv3; clear hv3)
    have HB := Lib.hid (own_below ((Below.refl w.heap.size w).alloc (Nat.le_refl _) _) (World.ownsRow_made (e := 50) (size := 4) w #[] 0 (Nat.le_refl _) (by decide) rfl) (by simp) hgr3)
    have HO := Lib.hid (ownT_of hown3 (List.nil_append _))
    clear hown3 hgr3
    go_wp2_with fail
    go_ret
    exact ⟨_, rfl, HO.out, HB.out⟩
/-- sorted answers for the list l. -/
def SortedOk (l : List It) : Prop := ∀ (v : Value) (w : World), RdT w v l → Calls Try.prog 51 #[v] w fun e w' => ∃ v', e = .returned v' ∧ OwnT w' w.heap.size v' (srt l) ∧ Below w.heap.size w w'
set_option maxHeartbeats 400000 in
theorem sorted_asc (l : List It) (ha : Asc l) (hs : l.length ≤ 1000000) : SortedOk l := by
  intro v w h
  have HC := Lib.hid (clone_any v l w h hs)
  have HA := Lib.hid (fun v w h => asc_any v l w h)
  rw [(asc_iff l).2 ha] at HA
  have HS := Lib.hid (srt_of_asc ha)
  obtain ⟨a, cap, rfl, h1, h2⟩ := h.shape
  clear h ha
  go_enter Try.func51, Try.ntmps51
  go_wp2_with fail
  refine HC.out.mono ?_; rintro e w1 ⟨v1, rfl, hown1, hb1⟩
  have HO := Lib.hid hown1
  have HB := Lib.hid hb1
  clear hown1 hb1
  go_wp2_with fail
  refine (HA.out _ _ HO.out.rd).mono ?_; rintro e w2 ⟨rfl, hb2⟩
  have HO2 := Lib.hid (own_keep HO.out hb2)
  have HB2 := Lib.hid (bstep HB.out hb2)
  clear hb2
  go_wp2_with fail
  go_ret
  exact ⟨_, rfl, by rw [HS.out]; exact HO2.out, HB2.out⟩
/-- What search's closure has captured. -/
structure SrCtx (w : World) (lb kb : Nat) (a : Option Addr) (n cap : Nat) (l : List It) (key : Int) : Prop where
  lv : w.cell? ⟨lb, 0, none⟩ = some (.slice a n cap)
  kv : w.cell? ⟨kb, 0, none⟩ = some (.int .u64 key)
  rd : RdT w (.slice a n cap) l
theorem SrCtx.below {w w' : World} {lb kb : Nat} {a : Option Addr} {n cap : Nat} {l : List It} {key : Int} (h : SrCtx w lb kb a n cap l key) (hb : Below w.heap.size w w') : SrCtx w' lb kb a n cap l key :=
  ⟨Below.keeps hb _ _ h.lv, Below.keeps hb _ _ h.kv, h.rd.below hb⟩
end Go.Proofs.Ytecflhklpkjhcaa
