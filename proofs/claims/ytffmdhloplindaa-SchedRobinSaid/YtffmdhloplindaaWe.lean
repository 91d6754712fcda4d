/- The walks over sched's Waits, Worst, Fair. -/
import Derived.Test.YtffmdhloplindaaWd
import Derived.Test.YtffmdhloplindaaPw
namespace Go.Proofs.Ytffmdhloplindaa
open Go.RowKit Go.Maps

def AllWf (es : List En) : Prop := ∀ e ∈ es, ∀ x ∈ e.run, Wf x
def waitsV (es : List En) (t : Int) : Int := if validB es = true then (Pm.most es t : Int) else 0
def worstV (es : List En) : Int := if validB es = true then (Pm.worst es : Int) + 1 else 0
def fairB (es : List En) (b : Int) : Bool := validB es && decide ((Pm.worst es : Int) + 1 ≤ b)

theorem waitsF_no (v : Value) (es : List En) (t : Int) (w : World) (h : RdE w v es) (ht : Tiny es) (hv : validB es = false) :
    Calls Try.prog 22 #[v, .int .i64 t] w fun e w' => e = .returned (.int .i64 0) ∧ Below w.heap.size w w' := by
  have H := Lib.hid (valid_any v es w h ht.small)
  rw [hv] at H
  obtain ⟨a, cap, rfl, _⟩ := h.shape
  clear h hv
  go_enter Try.func22, Try.ntmps22
  go_wp2_with fail
  refine H.out.mono ?_; rintro e w1 ⟨rfl, hb⟩
  go_wp2_with fail
  go_ret
  exact ⟨rfl, hb⟩
set_option maxHeartbeats 400000 in
theorem waitsF_yes (v : Value) (es : List En) (t : Int) (w : World) (h : RdE w v es) (ht : Tiny es) (hv : validB es = true) (hw : AllWf es) (hwt : Wf t) :
    Calls Try.prog 22 #[v, .int .i64 t] w fun e w' => e = .returned (.int .i64 (Pm.most es t : Int)) ∧ Below w.heap.size w w' := by
  have H := Lib.hid (valid_any v es w h ht.small)
  have H2 := Lib.hid fun w1 (hb : Below w.heap.size w w1) => waits_any v es w1 (h.below hb) ht hv hw
  rw [hv] at H
  obtain ⟨a, cap, rfl, _⟩ := h.shape
  clear h hv
  generalize es.length = n at *
  go_enter Try.func22, Try.ntmps22
  go_wp2_with fail
  refine H.out.mono ?_; rintro e w1 ⟨rfl, hb⟩
  go_wp2_with fail
  refine (H2.out _ hb).mono ?_; rintro e w2 ⟨N, D, rfl, hm, hs, hb2⟩
  have Hs := Lib.hid hs
  have Hm := Lib.hid hm
  clear hs hm
  go_wp2_with (at_lookup; refine wpList_lookup_own_int _ rfl _ _ 42 rfl 3 3 .i64 law3 Try.underlying42 Try.underlying3 (zero3 _) w1.heap.size N D rfl Hm.out _ (key t) rfl (hkey hwt) ?_; intro c hat hwc; obtain rfl := Hs.out.look hwt hat; clear hat hwc)
  go_ret
  exact ⟨rfl, bstep hb hb2⟩
theorem waitsF_any (v : Value) (es : List En) (t : Int) (w : World) (h : RdE w v es) (ht : Tiny es) (hw : AllWf es) (hwt : Wf t) :
    Calls Try.prog 22 #[v, .int .i64 t] w fun e w' => e = .returned (.int .i64 (waitsV es t)) ∧ Below w.heap.size w w' := by
  unfold waitsV
  cases hv : validB es with
  | false => exact waitsF_no v es t w h ht hv
  | true => exact waitsF_yes v es t w h ht hv hw hwt

/-- The greatest element of those that have come. -/
def MaxRel (es : List En) (left : Lit → Bool) (m : Nat) : Prop := (∀ x, Wf x → left (key x) = false → Pm.most es x ≤ m) ∧ (m = 0 ∨ ∃ x, Pm.most es x = m)
theorem MaxRel.step {es : List En} {left : Lit → Bool} {m : Nat} (h : MaxRel es left m) (x : Int) {m' : Nat} (hm : m' = max m (Pm.most es x)) : MaxRel es (fun z => left z && !z.sameKey (key x)) m' := by
  refine ⟨fun y hy hl => ?_, ?_⟩
  · simp only [same_key] at hl
    by_cases e : y = x
    · rw [e]; omega
    · have : (y == x) = false := beq_eq_false_iff_ne.2 e
      rw [this] at hl
      have := h.1 y hy (by simpa using hl)
      omega
  · by_cases e : Pm.most es x ≤ m
    · rw [hm, Nat.max_eq_left e]; exact h.2
    · exact .inr ⟨x, by omega⟩
theorem MaxRel.worst {es : List En} {left : Lit → Bool} {m : Nat} (h : MaxRel es left m) (hl : ∀ z, left z = false) (hw : AllWf es) : Pm.worst es = m :=
  Pm.worst_eq (fun e he x hx => h.1 x (hw e he x hx) (hl _)) h.2
theorem worst_no (v : Value) (es : List En) (w : World) (h : RdE w v es) (ht : Tiny es) (hv : validB es = false) :
    Calls Try.prog 15 #[v] w fun e w' => e = .returned (.int .i64 0) ∧ Below w.heap.size w w' := by
  have H := Lib.hid (valid_any v es w h ht.small)
  rw [hv] at H
  obtain ⟨a, cap, rfl, _⟩ := h.shape
  clear h hv
  go_enter Try.func15, Try.ntmps15
  go_wp2_with fail
  refine H.out.mono ?_; rintro e w1 ⟨rfl, hb⟩
  go_wp2_with fail
  go_ret
  exact ⟨rfl, hb⟩
set_option maxHeartbeats 1000000 in
theorem worst_yes (v : Value) (es : List En) (w : World) (h : RdE w v es) (ht : Tiny es) (hv : validB es = true) (hw : AllWf es) :
    Calls Try.prog 15 #[v] w fun e w' => e = .returned (.int .i64 ((Pm.worst es : Int) + 1)) ∧ Below w.heap.size w w' := by
  have H := Lib.hid (valid_any v es w h ht.small)
  have H2 := Lib.hid fun w1 (hb : Below w.heap.size w w1) => waits_any v es w1 (h.below hb) ht hv hw
  have HB := Lib.hid (show ∀ x, Pm.most es x ≤ 1000 from fun x => Nat.le_trans (Pm.most_le es x) ht.1)
  have HW := Lib.hid hw
  rw [hv] at H
  obtain ⟨a, cap, rfl, _⟩ := h.shape
  clear h hv ht hw
  generalize es.length = n at *
  go_enter Try.func15, Try.ntmps15
  go_wp2_with fail
  refine H.out.mono ?_; rintro e w1 ⟨rfl, hb⟩
  go_wp2_with fail
  refine (H2.out _ hb).mono ?_; rintro e w2 ⟨N, D, rfl, hm, hs, hb2⟩
  have Hs := Lib.hid hs
  have Hb := Lib.hid (bstep hb hb2)
  have hlt := hm.lt
  go_wp2_with (at_range; refine wpList_range_own _ rfl _ 42 rfl 3 3 law3 Try.underlying42 _ w1.heap.size N D rfl hm ?_; intro w0 hrg0 hg0 hs0)
  go_frame
  have Hb0 := Lib.hid (Hb.out.grown hg0 Hb.out.size (by intro r hr; cases hr))
  have hsz2 : w.heap.size ≤ w2.heap.size := Hb.out.size
  have Hrg := Lib.hid hrg0
  clear hrg0 hg0 hm hs hb hb2
  generalize w1.heap.size = b1 at *
  generalize w2.heap.size = b2 at *
  go_loopw [3] (fun mv wr => ∃ m : Nat, mv = .int .i64 (m : Int) ∧ m ≤ 1000 ∧ ∃ left cnt, wr.ranges Try.prog 3 (plainElem Try.prog 3) b1 b2 N D left cnt ∧ MaxRel es left m ∧ Below w.heap.size w wr) (fun _ wr => wr.rangeLeft b1 b2)
  case atStart => exact ⟨0, rfl, by omega, _, _, Hrg.out, ⟨fun x hx hl => Nat.le_of_eq ((Hs.out.2 x hx).2 hl), .inl rfl⟩, Hb0.out⟩
  case round =>
    obtain ⟨m, rfl, hm, left, cnt, hrg, hmax, hbel⟩ := hrel
    go_wp2_with (at_next; refine wpList_next_ranges_ii _ rfl _ rfl 3 3 .i64 .i64 law3 Try.underlying3 Try.underlying3 b1 b2 N _ _ _ rfl hrg ?_ ?_)
    · intro _ hl0
      have HR := Lib.hid (hmax.worst hl0 HW.out)
      have HF := Lib.hid hbel
      clear hl0 hmax hrg hbel
      go_wp2_with fail
      go_ret
      exact ⟨by rw [HR.out]; rfl, HF.out⟩
    · intro x c w3 cnt1 hwx hwc hlx hat hrg1 hlt1 hg1 hs1 hen
      obtain rfl := Hs.out.look hwx (hat _)
      have HMx := Lib.hid hmax
      have HR1 := Lib.hid hrg1
      have HR := Lib.hid hrg.left_eq
      have HF := Lib.hid (hbel.grown hg1 hbel.size (by intro r hr; injection hr with hr; omega))
      have hb1 := HB.out x
      clear hat hlx hmax hrg1 hrg hbel hwc hg1
      generalize hc : Pm.most es x = c at *
      have HC := Lib.hid hc
      clear hc
      by_cases hle : c ≤ m
      · go_wp2_with fail
        refine ⟨⟨m, rfl, hm, _, _, HR1.out, HMx.out.step x (by rw [HC.out]; omega), HF.out⟩, ?_⟩
        rw [HR1.out.left_eq, HR.out]; exact hlt1
      · go_wp2_with fail
        refine ⟨⟨c, rfl, hb1, _, _, HR1.out, HMx.out.step x (by rw [HC.out]; omega), HF.out⟩, ?_⟩
        rw [HR1.out.left_eq, HR.out]; exact hlt1
theorem worst_any (v : Value) (es : List En) (w : World) (h : RdE w v es) (ht : Tiny es) (hw : AllWf es) :
    Calls Try.prog 15 #[v] w fun e w' => e = .returned (.int .i64 (worstV es)) ∧ Below w.heap.size w w' := by
  unfold worstV
  cases hv : validB es with
  | false => exact worst_no v es w h ht hv
  | true => exact worst_yes v es w h ht hv hw
theorem fair_any (v : Value) (es : List En) (b : Int) (w : World) (h : RdE w v es) (ht : Tiny es) (hw : AllWf es) :
    Calls Try.prog 16 #[v, .int .i64 b] w fun e w' => e = .returned (.bool (fairB es b)) ∧ Below w.heap.size w w' := by
  have H := Lib.hid (valid_any v es w h ht.small)
  unfold fairB
  cases hv : validB es with
  | false =>
    rw [hv] at H
    obtain ⟨a, cap, rfl, _⟩ := h.shape
    clear h hv
    go_enter Try.func16, Try.ntmps16
    go_wp2_with fail
    refine H.out.mono ?_; rintro e w1 ⟨rfl, hb⟩
    go_wp2_with fail
    go_ret
    exact ⟨rfl, hb⟩
  | true =>
    rw [hv] at H
    have H2 := Lib.hid fun w1 (hb : Below w.heap.size w w1) => worst_yes v es w1 (h.below hb) ht hv hw
    obtain ⟨a, cap, rfl, _⟩ := h.shape
    clear h hv
    go_enter Try.func16, Try.ntmps16
    go_wp2_with fail
    refine H.out.mono ?_; rintro e w1 ⟨rfl, hb⟩
    go_wp2_with fail
    refine (H2.out _ hb).mono ?_; rintro e w2 ⟨rfl, hb2⟩
    go_wp2_with fail
    go_ret
    exact ⟨rfl, bstep hb hb2⟩
end Go.Proofs.Ytffmdhloplindaa
