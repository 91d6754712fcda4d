/- The walk over sched.waits. -/
import Derived.Test.YtffmdhloplindaaWc
import Derived.Maps.Own
import Derived.Maps.OwnOps
import Derived.Maps.OwnSet
import Derived.Maps.Views
import Derived.Maps.RangeWalk
import Derived.Deep.LoopGhost
namespace Go.Proofs.Ytffmdhloplindaa
open Go.RowKit Go.Maps

abbrev MapI (w : World) (b n : Nat) (D : DataW Unit) : Prop := w.ownsMap Try.prog 3 (plainElem Try.prog 3) b n D
theorem law3 : Keyed Try.prog 3 := int_keyed Try.underlying3
theorem zero3 (w : World) : (zeroValue 3).run Try.prog w = .ok (.int .i64 0) w := by kernel_rfl
abbrev key (x : Int) : Lit := .int .i64 x
def Wf (x : Int) : Prop := (Lit.int .i64 x).wf = true
theorem hkey {x : Int} (h : Wf x) : keyOf Try.prog 3 (.int .i64 x) = some (key x) := keyOf_int_mk Try.underlying3 h
/-- The map reads as f, 0 where there is no entry. -/
def Says (D : DataW Unit) (f : Int → Nat) : Prop := IsMap D ∧ ∀ x, Wf x → D.atKey (key x) (.lit (.int .i64 0)) = .lit (.int .i64 (f x : Int)) ∧ (Maps.has D (key x) = false → f x = 0)
theorem isKey (x : Int) : WideAt.IsKeyLit (key x) := by show True; trivial
theorem key_ne {x y : Int} (h : x ≠ y) : key x ≠ key y := fun e => h (by injection e)
theorem says_empty : Says (.map []) (fun _ => 0) := ⟨isMap_empty, fun _ _ => ⟨rfl, fun _ => rfl⟩⟩
theorem Says.congr {D : DataW Unit} {f g : Int → Nat} (h : Says D f) (e : ∀ x, Wf x → f x = g x) : Says D g :=
  ⟨h.1, fun x hx => ⟨by rw [← e x hx]; exact (h.2 x hx).1, fun h' => by rw [← e x hx]; exact (h.2 x hx).2 h'⟩⟩
theorem Says.look {D : DataW Unit} {f : Int → Nat} (h : Says D f) {x c : Int} (hx : Wf x) (hc : D.atKey (key x) (.lit (.int .i64 0)) = .lit (.int .i64 c)) : c = (f x : Int) := by
  rw [(h.2 x hx).1] at hc
  injection hc with e
  injection e with _ e2
  exact e2.symm
theorem Says.put {D : DataW Unit} {f : Int → Nat} (h : Says D f) (x : Int) (v : Int) (n : Nat) (hv : v = (n : Int)) : Says (D.put (key x) (.lit (.int .i64 v))) (fun y => if y = x then n else f y) := by
  subst hv
  refine ⟨h.1.put _ _, fun y hy => ?_⟩
  by_cases e : y = x
  · subst e
    exact ⟨(atKey_put_same h.1 (isKey y) _ _).trans (by simp), fun h' => by rw [has_put_same h.1 (isKey y)] at h'; exact absurd h' (by decide)⟩
  · simp only [if_neg e]
    rw [atKey_put_other (key_ne e), has_put_other (key_ne e)]
    exact h.2 y hy
theorem Says.del {D : DataW Unit} {f : Int → Nat} (h : Says D f) (x : Int) : Says (D.del (key x)) (fun y => if y = x then 0 else f y) := by
  refine ⟨h.1.del _, fun y hy => ?_⟩
  by_cases e : y = x
  · subst e
    exact ⟨(atKey_del_same _).trans (by simp), fun _ => if_pos rfl⟩
  · simp only [if_neg e]
    rw [atKey_del_other (key_ne e), has_del_other (key_ne e)]
    exact h.2 y hy
/-- While the tasks that are no longer runnable are struck: left: what is still to come. -/
def struck (run : List Int) (f : Int → Nat) (left : Lit → Bool) (x : Int) : Nat := if left (key x) = true then f x else Pm.base run f x
theorem struck_start {D : DataW Unit} {f : Int → Nat} (h : Says D f) (run : List Int) : Says D (struck run f (Maps.has D)) := by
  refine h.congr fun x hx => ?_
  unfold struck
  by_cases e : Maps.has D (key x) = true
  · rw [if_pos e]
  · rw [if_neg e]
    have := (h.2 x hx).2 (by simpa using e)
    have h2 := Pm.base_le run f x
    omega
theorem same_key (x y : Int) : (key x).sameKey (key y) = (x == y) := by
  show decide (IntKind.i64 = IntKind.i64 ∧ x = y) = _
  rw [Bool.eq_iff_iff]; simp
theorem struck_keep {D : DataW Unit} {run : List Int} {f : Int → Nat} {left : Lit → Bool} (h : Says D (struck run f left)) (x : Int) (hx : run.contains x = true) :
    Says D (struck run f fun z => left z && !z.sameKey (key x)) := by
  refine h.congr fun y _ => ?_
  unfold struck
  simp only [same_key]
  by_cases e : y = x
  · subst e
    simp only [beq_self_eq_true, Bool.not_true, Bool.and_false, Bool.false_eq_true, if_false]
    split
    · unfold Pm.base; rw [if_pos hx]
    · rfl
  · have : (y == x) = false := beq_eq_false_iff_ne.2 e
    rw [this]; simp
theorem struck_del {D : DataW Unit} {run : List Int} {f : Int → Nat} {left : Lit → Bool} (h : Says D (struck run f left)) (x : Int) (hx : run.contains x = false) :
    Says (D.del (key x)) (struck run f fun z => left z && !z.sameKey (key x)) := by
  refine (h.del x).congr fun y _ => ?_
  unfold struck
  simp only [same_key]
  by_cases e : y = x
  · subst e
    simp only [beq_self_eq_true, Bool.not_true, Bool.and_false, Bool.false_eq_true, if_false, if_true]
    unfold Pm.base
    rw [if_neg (by rw [hx]; decide)]
  · have : (y == x) = false := beq_eq_false_iff_ne.2 e
    rw [if_neg e, this]; simp
theorem struck_end {D : DataW Unit} {run : List Int} {f : Int → Nat} {left : Lit → Bool} (h : Says D (struck run f left)) (hl : ∀ z, left z = false) : Says D (Pm.base run f) :=
  h.congr fun x _ => by unfold struck; rw [hl]; simp

/-- The entry at hand lies in block xb, and nothing that was there when the call began has changed. -/
def Here (w : World) (xb : Nat) (sv : Value) (pick : Int) (ww : World) : Prop := ww.cell? ⟨xb, 0, none⟩ = some sv ∧ ww.cell? ⟨xb, 1, none⟩ = some (.int .i64 pick) ∧ Below w.heap.size w ww
theorem Here.grown {w : World} {xb : Nat} {sv : Value} {pick : Int} {ww ww' : World} {row : Option Nat} (h : Here w xb sv pick ww) (hg : ww.grownBy ww' row) (hr : ∀ r, row = some r → w.heap.size ≤ r ∧ r ≠ xb) : Here w xb sv pick ww' := by
  have hne : some xb ≠ row := fun e => (hr xb e.symm).2 rfl
  exact ⟨hg.cell h.1 hne, hg.cell h.2.1 hne, h.2.2.grown hg h.2.2.size fun r e => (hr r e).1⟩
/-- Behind j tasks of an entry. -/
def Rel3 (w : World) (xb : Nat) (sv : Value) (run : List Int) (pick : Int) (k : Nat) (f g : Int → Nat) (j : Nat) (w3 : World) : Prop := ∃ N1 N2 D1 D2, N1 ≤ k * 1000 + j ∧ N2 ≤ k * 1000 + j ∧ MapI w3 w.heap.size N1 D1 ∧ MapI w3 (w.heap.size + 1) N2 D2 ∧
  Says D1 (Pm.mostJ run pick f g j) ∧ Says D2 (Pm.nowJ run pick f j) ∧ Here w xb sv pick w3
/-- Behind k entries. -/
def WaitRel (w : World) (es : List En) (k : Nat) (wr : World) : Prop := ∃ N1 N2 D1 D2, N1 ≤ k * 1000 ∧ N2 ≤ k * 1000 ∧ MapI wr w.heap.size N1 D1 ∧ MapI wr (w.heap.size + 1) N2 D2 ∧
  Says D1 (Pm.most (es.take k)) ∧ Says D2 (Pm.now (es.take k)) ∧ Below w.heap.size w wr
set_option maxHeartbeats 2000000 in
theorem waits_any (v : Value) (es : List En) (w : World) (h : RdE w v es) (ht : Tiny es) (hv : validB es = true) (hwf : ∀ e ∈ es, ∀ x ∈ e.run, Wf x) :
    Calls Try.prog 27 #[v] w fun e w' => ∃ n D, e = .returned (.map (some w.heap.size)) ∧ MapI w' w.heap.size n D ∧ Says D (Pm.most es) ∧ Below w.heap.size w w' := by
  obtain ⟨a, cap, rfl, h1, h2, h3, h4⟩ := h.shape
  have HA := Lib.hid (show ∀ k, k < es.length → Pl.Asc (enAt es k).run from fun k hk => (Pl.asc_iff _).1 (valid_at hv hk).1)
  have HW := Lib.hid (show ∀ k, k < es.length → ∀ x ∈ (enAt es k).run, Wf x from fun k hk => hwf _ (enAt_mem hk))
  have HN := Lib.hid (show ∀ k, k < es.length → _ from fun k hk => Pm.nowJ_end (es := es) hk)
  have HM := Lib.hid (show ∀ k, k < es.length → _ from fun k hk => Pm.mostJ_end (es := es) hk)
  have HE := Lib.hid (show Pm.most (es.take es.length) = Pm.most es by rw [List.take_length])
  obtain ⟨t1, t2⟩ := ht
  generalize hn : es.length = n at *
  clear hn h hv hwf
  have hmm := @run_makeMap Try.prog
  go_enter Try.func27, Try.ntmps27
  go_wp2_with fail
  clear hmm
  have hinit : WaitRel w es 0 ((w.alloc (.map #[] 0)).alloc (.map #[] 0)) :=
    ⟨0, 0, .map [], .map [], Nat.zero_le _, Nat.zero_le _, (World.ownsMap_made w _ _ _).alloc _, by simpa using World.ownsMap_made (w.alloc (.map #[] 0)) Try.prog 3 (plainElem Try.prog 3), says_empty, says_empty, ((Below.refl _ _).alloc (Nat.le_refl _) _).alloc (by simp) _⟩
  have Hinit := Lib.hid hinit
  clear hinit
  go_loopw [14] (fun i wr => ∃ k : Nat, i = .int .i64 (k : Int) ∧ k ≤ n ∧ WaitRel w es k wr) (fun i _ => n - (intOf i).toNat)
  case atStart => exact ⟨0, rfl, Nat.zero_le _, Hinit.out⟩
  case round =>
    obtain ⟨k, rfl, hk, hrel⟩ := hrel
    by_cases hlt : k < n
    · obtain ⟨N1, N2, D1, D2, n1, n2, m1, m2, y1, y2, hbel⟩ := hrel
      obtain ⟨b, off, rfl, hc⟩ := h4 (by omega)
      obtain ⟨a', cap', c1', c2', c3'⟩ := hc k hlt
      have d1 := Below.keeps hbel _ _ c1'
      have d2 := Below.keeps hbel _ _ c2'
      have Hr := Lib.hid c3'
      have hA := HA.out k hlt
      have hW := HW.out k hlt
      have hN := HN.out k hlt
      have hM := HM.out k hlt
      have hT := t2 k hlt
      clear c1' c2' c3' hc h4
      generalize enAt es k = x at *
      obtain ⟨run, pick⟩ := x
      simp only [] at hN hM hA hW hT
      have Y1 := Lib.hid y1
      have Y2 := Lib.hid y2
      have Hb := Lib.hid hbel
      have HA' := Lib.hid hA
      have HW' := Lib.hid hW
      have HN' := Lib.hid hN
      have HM' := Lib.hid hM
      have M1 := Lib.hid m1
      have hB := hbel.size
      clear y1 y2 hbel hA hW hN hM m1
      go_wp2_with (at_range; refine wpList_range_own _ rfl _ 42 rfl 3 3 law3 Try.underlying42 _ (w.heap.size + 1) N2 D2 rfl (m2.alloc _) ?_; intro w0 hrg0 hg0 hs0)
      have hh0 : Here w wr.heap.size (.slice a' run.length cap') pick w0 := by
        refine Here.grown (ww := wr.alloc (.cells #[.slice a' run.length cap', .int .i64 pick] 37)) ⟨?_, ?_, Hb.out.alloc hB _⟩ hg0 (by intro r hr; cases hr)
        · simp
        · simp
      have M1' := Lib.hid ((M1.out.alloc _).kept hg0 (by simp))
      have HH0 := Lib.hid hh0
      have hsz : wr.heap.size + 1 < w0.heap.size := by rw [hs0]; simp
      have hb2 : w.heap.size + 1 < wr.heap.size := m2.lt
      clear hh0 hg0 m2 d1 d2
      have HF := Lib.hid (show ∀ x, Pm.now (es.take k) x ≤ 1000 from fun x => Nat.le_trans (Pm.now_le _ x) (by rw [List.length_take]; omega))
      have HG := Lib.hid (show ∀ x, Pm.most (es.take k) x ≤ 1000 from fun x => Nat.le_trans (Pm.most_le _ x) (by rw [List.length_take]; omega))
      generalize Pm.now (es.take k) = f at *
      generalize Pm.most (es.take k) = g at *
      have hrg : w0.ranges Try.prog 3 (plainElem Try.prog 3) (w.heap.size + 1) (wr.heap.size + 1) N2 D2 (Maps.has D2) (Maps.size D2) := by simpa using hrg0
      have Hrg := Lib.hid hrg
      clear hrg hrg0
      generalize wr.heap.size = xb at *
      go_loopw [7] (fun _ w2 => ∃ left cnt D, w2.ranges Try.prog 3 (plainElem Try.prog 3) (w.heap.size + 1) (xb + 1) N2 D left cnt ∧ Says D (struck run f left) ∧ MapI w2 w.heap.size N1 D1 ∧ Here w xb (.slice a' run.length cap') pick w2) (fun _ w2 => w2.rangeLeft (w.heap.size + 1) (xb + 1))
      case atStart => exact ⟨_, _, _, Hrg.out, struck_start Y2.out run, M1'.out, HH0.out⟩
      case round =>
        obtain ⟨left, cnt, D, hrg, hsays, hm1, hhere⟩ := hrel
        go_wp2_with (at_next; refine wpList_next_ranges_ii _ rfl _ rfl 3 3 .i64 .i64 law3 Try.underlying3 Try.underlying3 (w.heap.size + 1) (xb + 1) N2 _ _ _ rfl hrg ?_ ?_)
        · intro _ hl0
          have Hs := Lib.hid (struck_end hsays hl0)
          have Hm1 := Lib.hid hm1
          have Hm2 := Lib.hid hrg.owns
          obtain ⟨hc1, hc2, hbb⟩ := hhere
          have Hhere := Lib.hid (show Here w xb (.slice a' run.length cap') pick wr from ⟨hc1, hc2, hbb⟩)
          clear hsays hm1 hrg hl0 hbb
          have hf : ∀ x, f x ≤ 1000 := HF.out
          have hg : ∀ x, g x ≤ 1000 := HG.out
          have Hf := Lib.hid hf
          have Hg := Lib.hid hg
          clear hf hg
          go_wp2_with fail
          have hrel3 : Rel3 w xb (.slice a' run.length cap') run pick k f g 0 wr := ⟨N1, N2, D1, D, Nat.le_trans n1 (Nat.le_add_right _ _), Nat.le_trans n2 (Nat.le_add_right _ _), Hm1.out, Hm2.out, Y1.out.congr fun x _ => (Pm.mostJ_zero run pick f g x).symm, Hs.out, Hhere.out⟩
          have HR3 := Lib.hid hrel3
          clear hrel3 hc1 hc2
          obtain ⟨wo, ewo⟩ : ∃ wo : World, wo = wr := ⟨_, rfl⟩
          subst ewo
          go_loopw [34] (fun jv w3 => ∃ j : Nat, jv = .int .i64 (j : Int) ∧ j ≤ run.length ∧ Rel3 w xb (.slice a' run.length cap') run pick k f g j w3) (fun jv _ => run.length - (intOf jv).toNat)
          case atStart => exact ⟨0, rfl, Nat.zero_le _, HR3.out⟩
          case round =>
            obtain ⟨j, rfl, hj, hrel3⟩ := hrel
            obtain ⟨Q1, Q2, E1, E2, q1, q2, z1, z2, Z1, Z2, hhere⟩ := hrel3
            by_cases hjl : j < run.length
            · obtain ⟨_, _, ea, _, _, _, e4⟩ := RdI.shape0 Hr.out
              injection ea with ea1 ea2 ea3
              subst ea1 ea3
              obtain ⟨b', off', rfl, hcell⟩ := e4 (by omega)
              have c1 := Below.keeps hhere.2.2 _ _ (hcell j hjl)
              have hwt : Wf (Pl.at0 run j) := HW'.out _ (Pl.at0_mem hjl)
              have HNs := Lib.hid (Pm.nowJ_succ HA'.out pick f hjl)
              have HMs := Lib.hid (Pm.mostJ_succ HA'.out pick f g hjl)
              have nb := Pm.nowJ_le run pick f j (Pl.at0 run j)
              have mb := Pm.mostJ_le run pick f g j (Pl.at0 run j)
              have nb2 := Hf.out (Pl.at0 run j)
              have mb2 := Hg.out (Pl.at0 run j)
              have HZ1 := Lib.hid Z1
              have HZ2 := Lib.hid Z2
              have HZm := Lib.hid z1
              have HZn := Lib.hid z2
              have Hh := Lib.hid hhere
              obtain ⟨hc1, hc2, _⟩ := hhere
              clear hcell e4 Z1 Z2 z1 z2
              generalize Pl.at0 run j = t at *
              generalize hnj : Pm.nowJ run pick f j t = nj at *
              generalize hmj : Pm.mostJ run pick f g j t = mj at *
              have HNJ := Lib.hid hnj
              have HMJ := Lib.hid hmj
              clear hnj hmj
              by_cases htp : t = pick
              · have ht1 : (t == pick) = true := beq_iff_eq.2 htp
                have HTP := Lib.hid htp
                clear htp
                go_wp2_with (at_delete; refine wpList_delete_own _ rfl _ _ 42 3 rfl 3 law3 Try.underlying42 _ (w.heap.size + 1) Q2 E2 rfl HZn.out _ (key t) rfl (hkey hwt) ?_; intro w4 hown4 hturn4)
                refine ⟨⟨j + 1, by go_num, by omega, Q1, Q2, _, _, by omega, by omega, HZm.out.kept hturn4.grown (by intro e; injection e with e; omega), hown4, HZ1.out.congr fun x _ => ?_, (HZ2.out.del t).congr fun x _ => ?_, Hh.out.grown hturn4.grown (by intro r hr; injection hr with hr; omega)⟩, by simp [intOf]; omega⟩
                · rw [HMs.out x]
                  by_cases e : x = t
                  · rw [if_pos e, if_pos (by rw [e]; exact HTP.out), e, HMJ.out, ← HMJ.out]
                    unfold Pm.mostJ
                    rw [if_neg (fun h => h.2 HTP.out)]
                  · rw [if_neg e]
                · rw [HNs.out x]
                  by_cases e : x = t
                  · rw [if_pos e, if_pos e, if_pos (by rw [e]; exact HTP.out)]
                  · rw [if_neg e, if_neg e]
              · have ht1 : (t == pick) = false := beq_eq_false_iff_ne.2 htp
                have HTP := Lib.hid htp
                clear htp
                by_cases hmx : nj + 1 ≤ mj
                · go_wp2_with (first | (at_lookup; refine wpList_lookup_own_int _ rfl (.tmp 44) (.tmp 45) 42 rfl 3 3 .i64 law3 Try.underlying42 Try.underlying3 (zero3 _) (w.heap.size + 1) Q2 E2 rfl HZn.out _ (key t) rfl (hkey hwt) ?_; intro c1 hat1 hwc1; obtain rfl := (HZ2.out.look hwt hat1).trans (congrArg Nat.cast HNJ.out); clear hat1 hwc1) | (at_mapUpdate; refine wpList_mapUpdate_own _ rfl (.tmp 44) (.tmp 45) (.tmp 47) 42 rfl 3 3 law3 Try.underlying42 _ (w.heap.size + 1) Q2 E2 rfl HZn.out (by unfold maxLen; omega) _ _ (key t) rfl rfl (hkey hwt) _ [] (plainElem_int Try.underlying3 (WalkArith.wf_i64 (by omega))) ?_; intro w4 hown4 hg4) | (at_lookup; refine wpList_lookup_own_int _ rfl (.tmp 50) (.tmp 51) 42 rfl 3 3 .i64 law3 Try.underlying42 Try.underlying3 (zero3 _) w.heap.size Q1 E1 rfl (HZm.out.kept hg4 (by intro e; injection e with e; omega)) _ (key t) rfl (hkey hwt) ?_; intro c2 hat2 hwc2; obtain rfl := (HZ1.out.look hwt hat2).trans (congrArg Nat.cast HMJ.out); clear hat2 hwc2) | (at_lookup; refine wpList_lookup_own_int _ rfl (.tmp 53) (.tmp 54) 42 rfl 3 3 .i64 law3 Try.underlying42 Try.underlying3 (zero3 _) (w.heap.size + 1) (Q2 + 1) _ rfl hown4 _ (key t) rfl (hkey hwt) ?_; intro c3 hat3 hwc3; obtain rfl := ((HZ2.out.put t ((nj : Int) + 1) (nj + 1) rfl).look hwt hat3).trans (show _ = ((nj : Int) + 1) by simp); clear hat3 hwc3) | (at_mapUpdate; refine wpList_mapUpdate_own _ rfl (.tmp 48) (.tmp 49) (.tmp 56) 42 rfl 3 3 law3 Try.underlying42 _ w.heap.size Q1 E1 rfl (HZm.out.kept hg4 (by intro e; injection e with e; omega)) (by unfold maxLen; omega) _ _ (key t) rfl rfl (hkey hwt) _ [] (plainElem_int Try.underlying3 (WalkArith.wf_i64 (by omega))) ?_; intro w5 hown5 hg5))
                  go_roundw
                  case rel =>
                    refine ⟨j + 1, by go_num, by omega, Q1 + 1, Q2 + 1, _, _, by omega, by omega, hown5, hown4.kept hg5 (by intro e; injection e with e; omega), (HZ1.out.put t _ (max mj (nj + 1)) (by omega)).congr fun x _ => ?_, (HZ2.out.put t _ (nj + 1) rfl).congr fun x _ => ?_, (Hh.out.grown hg4 (by intro r hr; injection hr with hr; omega)).grown hg5 (by intro r hr; injection hr with hr; omega)⟩
                    · rw [HMs.out x]
                      by_cases e : x = t
                      · rw [if_pos e, if_pos e, if_neg (by rw [e]; exact HTP.out), e, HNs.out t, if_pos rfl, if_neg HTP.out, HMJ.out, HNJ.out]
                      · rw [if_neg e, if_neg e]
                    · rw [HNs.out x]
                      by_cases e : x = t
                      · rw [if_pos e, if_pos e, if_neg (by rw [e]; exact HTP.out), e, HNJ.out]
                      · rw [if_neg e, if_neg e]
                  case measure => simp [intOf]; omega
                · go_wp2_with (first | (at_lookup; refine wpList_lookup_own_int _ rfl (.tmp 44) (.tmp 45) 42 rfl 3 3 .i64 law3 Try.underlying42 Try.underlying3 (zero3 _) (w.heap.size + 1) Q2 E2 rfl HZn.out _ (key t) rfl (hkey hwt) ?_; intro c1 hat1 hwc1; obtain rfl := (HZ2.out.look hwt hat1).trans (congrArg Nat.cast HNJ.out); clear hat1 hwc1) | (at_mapUpdate; refine wpList_mapUpdate_own _ rfl (.tmp 44) (.tmp 45) (.tmp 47) 42 rfl 3 3 law3 Try.underlying42 _ (w.heap.size + 1) Q2 E2 rfl HZn.out (by unfold maxLen; omega) _ _ (key t) rfl rfl (hkey hwt) _ [] (plainElem_int Try.underlying3 (WalkArith.wf_i64 (by omega))) ?_; intro w4 hown4 hg4) | (at_lookup; refine wpList_lookup_own_int _ rfl (.tmp 50) (.tmp 51) 42 rfl 3 3 .i64 law3 Try.underlying42 Try.underlying3 (zero3 _) w.heap.size Q1 E1 rfl (HZm.out.kept hg4 (by intro e; injection e with e; omega)) _ (key t) rfl (hkey hwt) ?_; intro c2 hat2 hwc2; obtain rfl := (HZ1.out.look hwt hat2).trans (congrArg Nat.cast HMJ.out); clear hat2 hwc2) | (at_lookup; refine wpList_lookup_own_int _ rfl (.tmp 53) (.tmp 54) 42 rfl 3 3 .i64 law3 Try.underlying42 Try.underlying3 (zero3 _) (w.heap.size + 1) (Q2 + 1) _ rfl hown4 _ (key t) rfl (hkey hwt) ?_; intro c3 hat3 hwc3; obtain rfl := ((HZ2.out.put t ((nj : Int) + 1) (nj + 1) rfl).look hwt hat3).trans (show _ = ((nj : Int) + 1) by simp); clear hat3 hwc3) | (at_mapUpdate; refine wpList_mapUpdate_own _ rfl (.tmp 48) (.tmp 49) (.tmp 56) 42 rfl 3 3 law3 Try.underlying42 _ w.heap.size Q1 E1 rfl (HZm.out.kept hg4 (by intro e; injection e with e; omega)) (by unfold maxLen; omega) _ _ (key t) rfl rfl (hkey hwt) _ [] (plainElem_int Try.underlying3 (WalkArith.wf_i64 (by omega))) ?_; intro w5 hown5 hg5))
                  go_roundw
                  case rel =>
                    refine ⟨j + 1, by go_num, by omega, Q1 + 1, Q2 + 1, _, _, by omega, by omega, hown5, hown4.kept hg5 (by intro e; injection e with e; omega), (HZ1.out.put t _ (max mj (nj + 1)) (by omega)).congr fun x _ => ?_, (HZ2.out.put t _ (nj + 1) rfl).congr fun x _ => ?_, (Hh.out.grown hg4 (by intro r hr; injection hr with hr; omega)).grown hg5 (by intro r hr; injection hr with hr; omega)⟩
                    · rw [HMs.out x]
                      by_cases e : x = t
                      · rw [if_pos e, if_pos e, if_neg (by rw [e]; exact HTP.out), e, HNs.out t, if_pos rfl, if_neg HTP.out, HMJ.out, HNJ.out]
                      · rw [if_neg e, if_neg e]
                    · rw [HNs.out x]
                      by_cases e : x = t
                      · rw [if_pos e, if_pos e, if_neg (by rw [e]; exact HTP.out), e, HNJ.out]
                      · rw [if_neg e, if_neg e]
                  case measure => simp [intOf]; omega
            · obtain rfl : j = run.length := by omega
              have hw1 : WaitRel w es (k + 1) wr := ⟨Q1, Q2, E1, E2, by omega, by omega, z1, z2, Z1.congr fun x _ => HM'.out x, Z2.congr fun x _ => HN'.out x, hhere.2.2⟩
              have HW1 := Lib.hid hw1
              clear hw1 Z1 Z2 z1 z2 hhere
              go_wp2_with fail
              exact ⟨⟨k + 1, by go_num, by omega, HW1.out⟩, by simp [intOf]; omega⟩
        · intro x c w1 cnt1 hwx hwc hlx hat hrg1 hlt1 hg1 hs1 hen
          have hhere1 := hhere.grown hg1 (by intro r hr; injection hr with hr; omega)
          have hm1' := hm1.kept hg1 (by intro e; injection e with e; omega)
          have HC := Lib.hid (contains_any _ run x w1 (Hr.out.mono (Below.keeps hhere1.2.2)) (by omega))
          have e2 := hrg.left_eq
          have Hsays := Lib.hid hsays
          have Hrg1 := Lib.hid hrg1
          have Hhere1 := Lib.hid hhere1
          have Hm1 := Lib.hid hm1'
          obtain ⟨hc1, hc2, hbb⟩ := hhere1
          have E2 := Lib.hid e2
          clear hat hlx hwc hm1 hm1' hsays hrg hhere hg1 hbb e2
          cases hcon : run.contains x with
          | true =>
            rw [hcon] at HC
            have Hcon := Lib.hid hcon
            clear hcon
            go_wp2_with fail
            refine HC.out.mono ?_; rintro e w2 ⟨rfl, rfl⟩
            go_wp2_with fail
            refine ⟨⟨_, _, _, Hrg1.out, struck_keep Hsays.out x Hcon.out, Hm1.out, Hhere1.out⟩, ?_⟩
            rw [Hrg1.out.left_eq, E2.out]; exact hlt1
          | false =>
            rw [hcon] at HC
            have Hcon := Lib.hid hcon
            clear hcon
            go_wp2_with fail
            refine HC.out.mono ?_; rintro e w2 ⟨rfl, rfl⟩
            go_wp2_with (at_delete; refine wpList_delete_ranges _ rfl _ _ 42 3 rfl 3 law3 Try.underlying42 _ (w.heap.size + 1) (xb + 1) N2 _ _ _ rfl Hrg1.out _ (key x) rfl (hkey hwx) ?_; intro w2 cnt2 hrg2 hle hturn)
            go_frame
            rw [strike_twice] at hrg2
            go_roundw
            case rel => exact ⟨_, _, _, hrg2, struck_del Hsays.out x Hcon.out, Hm1.out.kept hturn.grown (by intro e; injection e with e; omega), Hhere1.out.grown hturn.grown (by intro r hr; injection hr with hr; omega)⟩
            case measure => rw [hrg2.left_eq, E2.out]; omega
    · obtain rfl : k = n := by omega
      obtain ⟨N1, N2, D1, D2, n1, n2, m1, m2, y1, y2, hbel⟩ := hrel
      rw [HE.out] at y1
      have HF := Lib.hid (And.intro m1 (And.intro y1 hbel))
      clear m1 m2 y1 y2 hbel
      go_wp2_with fail
      go_ret
      exact ⟨_, _, rfl, HF.out.1, HF.out.2.1, HF.out.2.2⟩
end Go.Proofs.Ytffmdhloplindaa
