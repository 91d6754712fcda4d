/- SchedWorst: the walk. -/
import Derived.Test.YtffmdhloplindaaWl
namespace Go.Proofs.Ytffmdhloplindaa
open Go.RowKit Go.Maps

theorem tmod_bounds (a : Int) (L : Nat) : -(L : Int) ≤ a.tmod ((L : Int) + 1) ∧ a.tmod ((L : Int) + 1) ≤ (L : Int) := by
  have h1 := Int.tmod_lt_of_pos a (show (0 : Int) < (L : Int) + 1 by omega)
  have h2 := Int.lt_tmod_of_pos a (show (0 : Int) < (L : Int) + 1 by omega)
  omega
theorem tmod_nat (a : Int) (h : 0 ≤ a) (L : Nat) : ∃ i : Nat, a.tmod ((L : Int) + 1) = (i : Int) ∧ i ≤ L := by
  refine ⟨a.toNat % (L + 1), ?_, by have := Nat.mod_lt a.toNat (show 0 < L + 1 by omega); omega⟩
  obtain ⟨n, rfl⟩ := Int.eq_ofNat_of_zero_le h
  rfl

theorem Rd.part {w : World} {sz : Nat} {a : Option Addr} {L cap : Nat} {cs : List Value} (h : Rd w sz (.slice a L cap) L cs) (i c : Nat) (hic : i + c ≤ L) :
    Rd w sz (.slice (Option.map (fun x => x.add (i * sz)) a) c (cap - i)) c ((cs.drop (i * sz)).take (c * sz)) := by
  obtain ⟨h0, a', cap', e, h1, h2, h3, h4⟩ := h
  injection e with e1 e2 e3
  subst e1 e3
  have hm : (i + c) * sz ≤ L * sz := Nat.mul_le_mul_right _ hic
  rw [Nat.add_mul] at hm
  refine ⟨by rw [List.length_take, List.length_drop]; omega, _, _, rfl, by omega, by omega, fun h => ?_, fun hp => ?_⟩
  · have := h3 (by simpa using h); omega
  · have hp2 : 0 < cs.length := by rw [List.length_take, List.length_drop] at hp; omega
    obtain ⟨b, off, rfl, hc⟩ := h4 hp2
    refine ⟨b, off + i * sz, by simp [addr_add], fun j u hj => ?_⟩
    rw [List.getElem?_take] at hj
    split at hj
    · rw [List.getElem?_drop] at hj
      have := hc _ u hj
      rwa [Nat.add_assoc]
    · simp at hj
theorem flat_drop {α : Type} (sz : Nat) (f : α → List Value) : ∀ (l : List α) (i : Nat), (∀ x ∈ l, (f x).length = sz) → (l.drop i).flatMap f = (l.flatMap f).drop (i * sz)
  | l, 0, _ => by simp
  | [], i + 1, _ => by simp
  | x :: r, i + 1, h => by
    rw [List.drop_succ_cons, flat_drop sz f r i fun y hy => h y (List.mem_cons_of_mem _ hy), List.flatMap_cons, Nat.add_mul, Nat.one_mul, List.drop_append, h x List.mem_cons_self]
    have hx := h x List.mem_cons_self
    have e : List.drop (i * sz + sz) (f x) = [] := List.drop_eq_nil_of_le (by omega)
    rw [e, List.nil_append, show i * sz + sz - sz = i * sz by omega]
theorem flat_take {α : Type} (sz : Nat) (f : α → List Value) : ∀ (l : List α) (i : Nat), (∀ x ∈ l, (f x).length = sz) → (l.take i).flatMap f = (l.flatMap f).take (i * sz)
  | l, 0, _ => by simp
  | [], i + 1, _ => by simp
  | x :: r, i + 1, h => by
    rw [List.take_succ_cons, List.flatMap_cons, flat_take sz f r i fun y hy => h y (List.mem_cons_of_mem _ hy), List.flatMap_cons, Nat.add_mul, Nat.one_mul, List.take_append, h x List.mem_cons_self]
    have hx := h x List.mem_cons_self
    have e : List.take (i * sz + sz) (f x) = f x := List.take_of_length_le (by omega)
    rw [e, show i * sz + sz - sz = i * sz by omega]
theorem RdE.part {w : World} {a : Option Addr} {L cap : Nat} {es : List En} (h : RdE w (.slice a L cap) es) (hL : es.length = L) (i c : Nat) (hic : i + c ≤ L) :
    RdE w (.slice (Option.map (fun x => x.add (i * 2)) a) c (cap - i)) ((es.drop i).take c) := by
  obtain ⟨ps, rfl, ⟨h2, h2'⟩, h3⟩ := h
  rw [List.length_map] at hL
  rw [hL] at h2'
  have hsub : ∀ p ∈ (ps.drop i).take c, p ∈ ps := fun p hp => List.mem_of_mem_drop (List.mem_of_mem_take hp)
  refine ⟨(ps.drop i).take c, by rw [List.map_take, List.map_drop], ⟨fun p hp => h2 p (hsub p hp), ?_⟩, fun p hp => h3 p (hsub p hp)⟩
  have := Rd.part h2' i c hic
  rw [List.length_take, List.length_drop, show min c (ps.length - i) = c by omega, flat_take 2 _ _ _ fun x hx => h2 x (List.mem_of_mem_drop hx), flat_drop 2 _ _ _ h2]
  exact this
theorem RdE.part0 (w : World) (a : Option Addr) {L : Nat} (es : List En) (i c : Nat) (hic : i + c ≤ L) (hLi : L ≤ i) : RdE w (.slice a c 0) ((es.drop i).take c) := by
  obtain rfl : c = 0 := by omega
  rw [List.take_zero]
  exact ⟨[], rfl, ⟨fun _ h => (by cases h), ⟨by simp, a, 0, rfl, Nat.le_refl _, Nat.zero_le _, fun _ => rfl, fun h => by simp at h⟩⟩, fun _ h => (by cases h)⟩

/-! A part of a schedule waits no longer than the whole. -/
theorem pre_take : ∀ (l : List En) (k : Nat) (x : Int), Pm.pre (l.take k) x ≤ Pm.pre l x
  | _, 0, _ => by simp [Pm.pre]
  | [], _ + 1, _ => Nat.le_refl _
  | e :: r, k + 1, x => by
    rw [List.take_succ_cons]
    unfold Pm.pre
    have := pre_take r k x
    split <;> omega
theorem lw_take : ∀ (l : List En) (k : Nat) (x : Int), Pm.lw (l.take k) x ≤ Pm.lw l x
  | _, 0, _ => by simp [Pm.lw]
  | [], _ + 1, _ => Nat.le_refl _
  | e :: r, k + 1, x => by
    have h1 := pre_take (e :: r) (k + 1) x
    have h2 := lw_take r k x
    rw [List.take_succ_cons] at h1 ⊢
    unfold Pm.lw
    omega
theorem lw_drop : ∀ (l : List En) (i : Nat) (x : Int), Pm.lw (l.drop i) x ≤ Pm.lw l x
  | _, 0, _ => by simp
  | [], _ + 1, _ => Nat.le_refl _
  | e :: r, i + 1, x => by
    have h2 := lw_drop r i x
    rw [List.drop_succ_cons]
    have : Pm.lw r x ≤ Pm.lw (e :: r) x := by
      conv => rhs; unfold Pm.lw
      omega
    omega
theorem worst_part (es : List En) (i c : Nat) : Pm.worst ((es.drop i).take c) ≤ Pm.worst es := by
  refine Pm.worst_le fun e he x hx => ?_
  rw [Pm.most_lw]
  have h1 := lw_take (es.drop i) c x
  have h2 := lw_drop es i x
  have h3 := Pm.most_le_worst es x
  rw [Pm.most_lw] at h3
  omega
theorem Made.part {es : List En} (h : Made es) (i c : Nat) : Made ((es.drop i).take c) :=
  ⟨by rw [List.length_take, List.length_drop]; have := h.1; omega, fun e he => h.2 e (List.mem_of_mem_drop (List.mem_of_mem_take he))⟩

set_option maxHeartbeats 1000000 in
theorem worst_core (vm vp : Value) (ms qs : List UInt8) (b : Nat) (fr to : Int) (w : World) (hm : RdB w vm ms) (hp : RdB w vp qs) (hb : b < 256) :
    Calls Try.prog 5 #[vm, vp, .int .u8 (b : Int), .int .i64 fr, .int .i64 to] w fun e w' => e = .returned (.bool true) ∧ Below w.heap.size w w' := by
  have HM := Lib.hid (made_any vm vp ms qs w hm hp)
  clear hm hp
  go_enter Try.func5, Try.ntmps5
  go_wp2_with fail
  refine HM.out.mono ?_; rintro e w1 ⟨v1, es, rfl, hrd1, hmade, hb1⟩
  have htiny := hmade.tiny
  have hwf := hmade.wf
  have hval := hmade.valid
  have h40 := hmade.1
  have HG := Lib.hid (given_any v1 es w1 hrd1 (by omega))
  have HT := Lib.hid htiny
  have HW := Lib.hid hwf
  have HMd := Lib.hid hmade
  have HB1 := Lib.hid hb1
  clear hrd1 htiny hwf hb1 hmade
  go_wp2_with fail
  refine HG.out.mono ?_; rintro e w2 ⟨v2, rfl, hrd2, hb2⟩
  obtain ⟨a, cap, rfl, h1, h2, h3, h4⟩ := hrd2.shape
  have H2 := Lib.hid hrd2
  have HB2 := Lib.hid (bstep HB1.out hb2)
  clear hrd2 hb2 h4
  have HWo := Lib.hid (worst_any _ es w2 H2.out HT.out HW.out)
  have HFa := Lib.hid fun n w3 (hb : Below w2.heap.size w2 w3) => fair_any _ es n w3 (H2.out.below hb) HT.out HW.out
  have HVa := Lib.hid fun w3 (hb : Below w2.heap.size w2 w3) => valid_any _ es w3 (H2.out.below hb) HT.out.small
  have ewv : worstV es = (Pm.worst es : Int) + 1 := if_pos hval
  have hwl := Pm.worst_len es
  have efb : ∀ n, fairB es n = decide ((Pm.worst es : Int) + 1 ≤ n) := fun n => by unfold fairB; rw [hval, Bool.true_and]
  have HE := Lib.hid (And.intro ewv efb)
  rw [ewv] at HWo
  have HFa' : Hid (∀ n w3, Below w2.heap.size w2 w3 → Calls Try.prog 16 #[_, .int .i64 n] w3 fun e w' => e = .returned (.bool (decide ((Pm.worst es : Int) + 1 ≤ n))) ∧ Below w3.heap.size w3 w') := Lib.hid fun n w3 hb => by have := HFa.out n w3 hb; rw [efb] at this; exact this
  rw [hval] at HVa
  clear hval efb ewv HFa
  generalize hW : Pm.worst es = W at *
  generalize hL : es.length = L at *
  go_wp2_with fail
  refine HWo.out.mono ?_; rintro e w3 ⟨rfl, hb3⟩
  have HB3 := Lib.hid hb3
  clear hb3
  go_wp2_with fail
  refine (HFa'.out _ _ HB3.out).mono ?_; rintro e w4 ⟨rfl, hb4⟩
  have HB4 := Lib.hid (bstep HB3.out hb4)
  clear hb4
  have hds : (decide ((W : Int) + 1 ≤ (b : Int) % 50) != decide ((W : Int) + 1 ≤ (b : Int) % 50)) = false := bne_self_eq_false _
  have hdw : decide ((W : Int) + 1 < 1) = false := by simp; omega
  obtain ⟨r, hr⟩ : ∃ r, fr.tmod ((L : Int) + 1) = r := ⟨_, rfl⟩
  have hrb := tmod_bounds fr L
  rw [hr] at hrb
  obtain ⟨i, hi, hiL⟩ := tmod_nat (r + L + 1) (by omega) L
  obtain ⟨d, hd⟩ : ∃ d, d + i = L := ⟨L - i, by omega⟩
  have hLi : (L : Int) - (i : Int) + 1 = (d : Int) + 1 := by omega
  obtain ⟨r2, hr2⟩ : ∃ r, to.tmod ((d : Int) + 1) = r := ⟨_, rfl⟩
  have hrb2 := tmod_bounds to d
  rw [hr2] at hrb2
  obtain ⟨c, hc, hcd⟩ := tmod_nat (r2 + d + 1) (by omega) d
  have hr2' : to.tmod ((L : Int) - (i : Int) + 1) = r2 := by rw [hLi]; exact hr2
  have hc2 : (r2 + (L : Int) - (i : Int) + 1) % ((d : Int) + 1) = (c : Int) := by rw [← Int.tmod_eq_emod_of_nonneg (by omega), show r2 + (L : Int) - (i : Int) + 1 = r2 + d + 1 by omega]; exact hc
  have hc' : (r2 + (L : Int) - (i : Int) + 1).tmod ((L : Int) - (i : Int) + 1) = (c : Int) := by rw [show r2 + (L : Int) - (i : Int) + 1 = r2 + d + 1 by omega, hLi]; exact hc
  go_wp2_with fail
  refine (HVa.out _ HB4.out).mono ?_; rintro e w5 ⟨rfl, hb5⟩
  have HB5 := Lib.hid (bstep HB4.out hb5)
  clear hb5
  unfold maxLen at h2
  have hms := HMd.out.part i c
  have hwp := worst_part es i c
  rw [hW] at hwp
  have HF2 := Lib.hid fun v w' (hr : RdE w' v ((es.drop i).take c)) => fair_any v _ ((W : Int) + 1) w' hr hms.tiny hms.wf
  have HW2 := Lib.hid fun v w' (hr : RdE w' v ((es.drop i).take c)) => worst_any v _ w' hr hms.tiny hms.wf
  have e1 : fairB ((es.drop i).take c) ((W : Int) + 1) = true := by unfold fairB; rw [hms.valid, Bool.true_and, decide_eq_true_eq]; omega
  have e2 : worstV ((es.drop i).take c) = (Pm.worst ((es.drop i).take c) : Int) + 1 := if_pos hms.valid
  rw [e1] at HF2
  rw [e2] at HW2
  have H5 := Lib.hid (H2.out.below HB5.out)
  have hcap : i + c ≤ L := by omega
  have HP1 := Lib.hid (fun w' (hb : Below w2.heap.size w2 w') => (H2.out.below hb).part hL i c hcap)
  have HP0 := Lib.hid (fun (h0 : L ≤ i) w' => RdE.part0 w' a es i c hcap h0)
  clear e1 e2 hms
  generalize Pm.worst ((es.drop i).take c) = W2 at *
  have hwd : decide ((W2 : Int) + 1 ≤ (W : Int) + 1) = true := by simp; omega
  by_cases hci : cap = i
  · subst hci
    go_wp2_with fail
    refine (HF2.out _ _ (HP0.out h1 _)).mono ?_; rintro e w6 ⟨rfl, hb6⟩
    have HB6 := Lib.hid (bstep HB5.out hb6)
    clear hb6
    go_wp2_with fail
    refine (HW2.out _ _ (HP0.out h1 _)).mono ?_; rintro e w7 ⟨rfl, hb7⟩
    have HB7 := Lib.hid (bstep HB6.out hb7)
    clear hb7
    go_wp2_with fail
    refine (awake_any _).mono ?_; rintro e w8 ⟨rfl, hb8⟩
    go_wp2_with fail
    go_ret
    exact ⟨rfl, bstep (bstep HB2.out HB7.out) hb8⟩
  · go_wp2_with fail
    refine (HF2.out _ _ (HP1.out _ HB5.out)).mono ?_; rintro e w6 ⟨rfl, hb6⟩
    have HB6 := Lib.hid (bstep HB5.out hb6)
    clear hb6
    go_wp2_with fail
    refine (HW2.out _ _ (HP1.out _ HB6.out)).mono ?_; rintro e w7 ⟨rfl, hb7⟩
    have HB7 := Lib.hid (bstep HB6.out hb7)
    clear hb7
    go_wp2_with fail
    refine (awake_any _).mono ?_; rintro e w8 ⟨rfl, hb8⟩
    go_wp2_with fail
    go_ret
    exact ⟨rfl, bstep (bstep HB2.out HB7.out) hb8⟩

theorem worst_walk (a1 : Option Addr) (k1 c1 : Nat) (z1 : List Int) (a2 : Option Addr) (k2 c2 : Nat) (z2 : List Int) (b fr to : Int) (w : World) (h1 : IsRow .u8 w a1 k1 c1 z1) (h2 : IsRow .u8 w a2 k2 c2 z2)
    (hb : (Lit.int .u8 b).wf = true) (_hf : (Lit.int .i64 fr).wf = true) (_ht : (Lit.int .i64 to).wf = true) :
    Calls Try.prog 5 #[.slice a1 k1 c1, .slice a2 k2 c2, .int .u8 b, .int .i64 fr, .int .i64 to] w fun e w' => e = .returned (.bool true) ∧ Below w.heap.size w w' := by
  obtain ⟨m, rfl, hm⟩ := nat_of_u8 hb
  obtain ⟨l1, _, hr1⟩ := isRow_bytes h1
  obtain ⟨l2, _, hr2⟩ := isRow_bytes h2
  exact worst_core _ _ l1 l2 m fr to w hr1 hr2 hm
end Go.Proofs.Ytffmdhloplindaa
