/- The walks over DeleteFunc with Merge's closure, and over Merge. -/
import Derived.Test.YtenkeodfijladaaGreatDoorFi
import Derived.Deep.Onto
namespace Go.Proofs.YtenkeodfijladaaGreatDoor
open Go.RowKit

abbrev u64V (n : Int) : Value := .int .u64 n
abbrev RdU (w : World) (v : Value) (l : List Int) : Prop := RdL u64V w v l
def uat (l : List Int) (j : Nat) : Int := l.getD j 0
theorem RdU.shape0 {w : World} {v : Value} {l : List Int} (h : RdU w v l) : ∃ a cap, v = .slice a l.length cap ∧ l.length ≤ cap ∧ cap ≤ maxLen := by
  obtain ⟨a, cap, h1, h2, h3, _⟩ := RdL.shape h 0
  exact ⟨a, cap, h1, h2, h3⟩
theorem RdU.at {w : World} {a : Option Addr} {n cap : Nat} {l : List Int} (h : RdU w (.slice a n cap) l) {j : Nat} (hj : j < n) : ∃ b off, a = some ⟨b, off, none⟩ ∧ w.cell? ⟨b, off + j, none⟩ = some (.int .u64 (uat l j)) := by
  obtain ⟨a', cap', e, h2, h3, _, h5⟩ := RdL.shape h 0
  injection e with e1 e2 e3
  subst e1 e2 e3
  obtain ⟨b, off, e, hc⟩ := h5 (by omega)
  exact ⟨b, off, e, hc j hj⟩
theorem uat_mem {l : List Int} {j : Nat} (h : j < l.length) : uat l j ∈ l := by
  unfold uat
  rw [List.getD_eq_getElem?_getD, List.getElem?_eq_getElem h]; exact List.getElem_mem h
theorem contains_of {l : List Int} {x : Int} {j : Nat} (h : j < l.length) (h' : uat l j = x) : l.contains x = true := by
  rw [List.contains_iff_mem]; rw [← h']; exact uat_mem h
theorem contains_not {l : List Int} {x : Int} (h : ∀ j, j < l.length → uat l j ≠ x) : l.contains x = false := by
  cases e : l.contains x with
  | false => rfl
  | true =>
    rw [List.contains_iff_mem] at e
    obtain ⟨j, hj, e⟩ := List.mem_iff_getElem.1 e
    exact absurd (by simp [uat, List.getElem?_eq_getElem hj, e]) (h j hj)
set_option maxHeartbeats 400000 in
theorem uindex_any (v : Value) (l : List Int) (x : Int) (w : World) (h : RdU w v l) :
    Calls Tryz.prog 144 #[v, .int .u64 x] w fun e w' => (∃ k : Int, e = .returned (.int .i64 k) ∧ decide (0 ≤ k) = l.contains x) ∧ w = w' := by
  obtain ⟨a, cap, rfl, h1, h2⟩ := h.shape0
  have HT := Lib.hid (show (∀ j, j < l.length → uat l j ≠ x) → l.contains x = false from contains_not)
  have HF := Lib.hid (show ∀ j, j < l.length → uat l j = x → l.contains x = true from fun j => contains_of)
  have hm := lt63 h1 h2
  generalize l.contains x = r at *
  generalize hn : l.length = n at *
  have Hr := Lib.hid h
  clear h h1 h2 hn
  go_enter Tryz.func144, Tryz.ntmps144
  go_wp2_with fail
  go_loop [8] (fun i => ∃ k : Nat, k ≤ n ∧ i = .int .i64 (k : Int) ∧ (∀ j, j < k → uat l j ≠ x)) (fun i => n - (intOf i).toNat)
  case atStart => exact ⟨0, Nat.zero_le _, rfl, fun j hj => absurd hj (by omega)⟩
  case round =>
    obtain ⟨k, hk, rfl, hno⟩ := hrel
    have Hno := Lib.hid hno
    clear hno
    by_cases hlt : k < n
    · obtain ⟨b, off, rfl, c0⟩ := Hr.out.at hlt
      generalize hy : uat l k = y at *
      have HY := Lib.hid hy
      clear hy
      by_cases hxy : x = y
      · have hd : (x == y) = true := beq_iff_eq.2 hxy
        have HR := Lib.hid (HF.out k hlt (by rw [HY.out, hxy]))
        clear hxy
        go_wp2_with fail
        go_ret
        exact ⟨⟨k, rfl, by rw [HR.out]; simp⟩, rfl⟩
      · have hd : (x == y) = false := beq_eq_false_iff_ne.2 hxy
        have HXY := Lib.hid hxy
        clear hxy
        go_wp2_with fail
        refine ⟨⟨k + 1, by omega, by go_num, fun j hj => ?_⟩, by simp [intOf]; omega⟩
        by_cases e : j = k
        · rw [e, HY.out]; exact fun e => HXY.out e.symm
        · exact Hno.out j (by omega)
    · obtain rfl : k = n := by omega
      go_wp2_with fail
      go_ret
      exact ⟨⟨-1, rfl, by rw [HT.out Hno.out]; rfl⟩, rfl⟩
set_option maxHeartbeats 400000 in
theorem ucontains_any (v : Value) (l : List Int) (x : Int) (w : World) (h : RdU w v l) :
    Calls Tryz.prog 114 #[v, .int .u64 x] w fun e w' => e = .returned (.bool (l.contains x)) ∧ w = w' := by
  have HX := Lib.hid (uindex_any v l x w h)
  obtain ⟨a, cap, rfl, _, _⟩ := h.shape0
  generalize l.contains x = r at *
  clear h
  go_enter Tryz.func114, Tryz.ntmps114
  go_wp2_with fail
  refine HX.out.mono ?_; rintro e w1 ⟨⟨k, rfl, hk⟩, rfl⟩
  have HK := Lib.hid hk
  clear hk
  go_wp2_with fail
  go_ret
  exact ⟨ret_bool HK.out, rfl⟩
/-- What Merge's closure has captured: the keys that are gone. -/
def Gone (w : World) (gb : Nat) (gone : List Int) : Prop := ∃ a n cap, w.cell? ⟨gb, 0, none⟩ = some (.slice a n cap) ∧ RdU w (.slice a n cap) gone
theorem Gone.below {w w' : World} {gb : Nat} {gone : List Int} (h : Gone w gb gone) (hb : Below w.heap.size w w') : Gone w' gb gone := by
  obtain ⟨a, n, cap, h1, h2⟩ := h
  exact ⟨a, n, cap, Below.keeps hb _ _ h1, h2.below hb⟩
set_option maxHeartbeats 400000 in
theorem mg1_any (k c o s : Int) (gb : Nat) (gone : List Int) (w : World) (h : Gone w gb gone) :
    Calls Tryz.prog 113 #[.agg #[.int .u64 k, .int .u32 c, .int .i64 o, .int .i64 s], .pointer (some ⟨gb, 0, none⟩)] w fun e w' => e = .returned (.bool (gone.contains k)) ∧ Below w.heap.size w w' := by
  have HW := Lib.hid (show Below w.heap.size w (w.alloc (.cells #[.int .u64 k, .int .u32 c, .int .i64 o, .int .i64 s] 77)) from (Below.refl _ _).alloc (Nat.le_refl _) _)
  obtain ⟨a, n, cap, h1, h2⟩ := h
  have HC := Lib.hid (ucontains_any (.slice a n cap) gone k (w.alloc (.cells #[.int .u64 k, .int .u32 c, .int .i64 o, .int .i64 s] 77)) (h2.below HW.out))
  have h1' := Below.keeps HW.out _ _ h1
  generalize gone.contains k = r at *
  clear h2
  go_enter Tryz.func113, Tryz.ntmps113
  go_wp2_with fail
  refine HC.out.mono ?_; rintro e w1 ⟨rfl, rfl⟩
  go_wp2_with fail
  go_ret
  exact ⟨rfl, HW.out⟩
/-- What stays. -/
def kept (gone : List Int) (l : List It) : List It := l.filter fun x => !gone.contains x.key
theorem kept_snoc (gone : List Int) {l : List It} {j : Nat} (h : j < l.length) : kept gone (l.take (j + 1)) = kept gone (l.take j) ++ (if gone.contains (iat l j).key then [] else [iat l j]) := by
  unfold kept
  rw [take_snoc h, List.filter_append]
  congr 1
  cases e : gone.contains (iat l j).key <;> simp only [List.filter_cons, List.filter_nil, e] <;> rfl
theorem kept_all {gone : List Int} {l : List It} (h : ∀ j, j < l.length → gone.contains (iat l j).key = false) : kept gone l = l := by
  unfold kept
  rw [List.filter_eq_self]
  intro x hx
  obtain ⟨j, hj, rfl⟩ := mem_iat hx
  rw [h j hj]; rfl
theorem itsC_set4 (y : It) : ∀ (l : List It) (k : Nat), k < l.length → ((((itsC l).set (k * 4) (.int .u64 y.key)).set (k * 4 + 1) (.int .u32 y.ck)).set (k * 4 + 2) (.int .i64 y.off)).set (k * 4 + 3) (.int .i64 y.size) = itsC (l.set k y)
  | [], _, h => by simp at h
  | x :: r, 0, _ => rfl
  | x :: r, k + 1, h => by
    have ih := itsC_set4 y r k (by simpa using h)
    have e0 : (k + 1) * 4 = k * 4 + 1 + 1 + 1 + 1 := by omega
    have e1 : (k + 1) * 4 + 1 = k * 4 + 1 + 1 + 1 + 1 + 1 := by omega
    have e2 : (k + 1) * 4 + 2 = k * 4 + 2 + 1 + 1 + 1 + 1 := by omega
    have e3 : (k + 1) * 4 + 3 = k * 4 + 3 + 1 + 1 + 1 + 1 := by omega
    rw [e1, e2, e3, e0]
    show _ = itC x ++ itsC (r.set k y)
    rw [← ih]
    rfl
theorem own_set4 {w : World} {B g n cap : Nat} {l : List It} (h : w.ownsRow B 77 4 (.slice (some ⟨g, 0, none⟩) n cap) n (itsC l)) (k : Nat) (hk : k < l.length) (y : It) :
    ((((w.setCell ⟨g, k * 4, none⟩ (.int .u64 y.key)).setCell ⟨g, k * 4 + 1, none⟩ (.int .u32 y.ck)).setCell ⟨g, k * 4 + 2, none⟩ (.int .i64 y.off)).setCell ⟨g, k * 4 + 3, none⟩ (.int .i64 y.size)).ownsRow B 77 4 (.slice (some ⟨g, 0, none⟩) n cap) n (itsC (l.set k y)) := by
  rw [← itsC_set4 y l k hk]
  exact ((((h.stored _ _).1.stored _ _).1.stored _ _).1.stored _ _).1
theorem zeroT (w : World) : (zeroValue 77).run Tryz.prog w = .ok (itV it0) w := by kernel_rfl
theorem zeros_cells : ∀ m : Nat, (Builtin.zeroCells (itV it0).cells m).toList = itsC (List.replicate m it0)
  | 0 => by simp [Builtin.zeroCells, itsC]
  | m + 1 => by
    rw [List.replicate_succ', itsC_append, ← zeros_cells m, itsC_one]
    show (Array.map _ (Array.range ((m + 1) * 4))).toList = (Array.map _ (Array.range (m * 4))).toList ++ _
    have e : (m + 1) * 4 = m * 4 + 1 + 1 + 1 + 1 := by omega
    rw [e]
    simp only [Array.toList_map, Array.toList_range, List.range_succ, List.map_append, List.map_cons, List.map_nil, List.append_assoc]
    congr 1
    show _ = [Value.int .u64 0, .int .u32 0, .int .i64 0, .int .i64 0]
    have s4 : (itV it0).cells.size = 4 := rfl
    rw [s4]
    rw [show m * 4 % 4 = 0 by omega, show (m * 4 + 1) % 4 = 1 by omega, show (m * 4 + 1 + 1) % 4 = 2 by omega, show (m * 4 + 1 + 1 + 1) % 4 = 3 by omega]
    rfl
theorem clear_own {w : World} {B g n cap : Nat} {l : List It} (h : w.ownsRow B 77 4 (.slice (some ⟨g, 0, none⟩) n cap) n (itsC l)) (i : Nat) (hi : i < n) :
    ∃ w', (∀ ty c, (Builtin.clear_ #[22] ty #[.slice (some ⟨g, i * 4, none⟩) (n - i) c]).run Tryz.prog w = .ok (.tuple #[]) w') ∧ w'.ownsRow B 77 4 (.slice (some ⟨g, 0, none⟩) n cap) n (itsC (l.take i ++ List.replicate (n - i) it0)) ∧ w.grownBy w' (some g) := by
  have hl : l.length = n := by have := h.1; rw [itsC_length] at this; omega
  obtain ⟨w', h1, h2, h3⟩ := own_write (P := Tryz.prog) h (i * 4) (itsC (List.replicate (n - i) it0)) (by rw [itsC_length, List.length_replicate]; omega) (itsC_one' _)
  refine ⟨w', fun ty c => ?_, ?_, h3⟩
  · obtain ⟨m, hm⟩ : ∃ m, n - i = m + 1 := ⟨n - i - 1, by omega⟩
    rw [hm] at h1 ⊢
    simp only [Builtin.clear_]
    simp [run_underlying Tryz.underlying22]
    have hz := zeros_cells (m + 1)
    simp only [itV, it0] at hz
    rw [hz, show itsC (List.replicate (m + 1) ⟨0, 0, 0, 0⟩) = itsC (List.replicate (m + 1) it0) from rfl, h1]
    rfl
  · rw [itsC_append, itsC_take]
    rw [List.drop_of_length_le (by rw [itsC_length, itsC_length, List.length_replicate]; omega), List.append_nil] at h2
    exact h2
set_option maxHeartbeats 400000 in
theorem idxm_any (v : Value) (l : List It) (gb : Nat) (gone : List Int) (w : World) (h : RdT w v l) (hg : Gone w gb gone) :
    Calls Tryz.prog 121 #[v, .func (.func 113) #[] #[.pointer (some ⟨gb, 0, none⟩)]] w fun e w' =>
      ((e = .returned (.int .i64 (-1)) ∧ ∀ j, j < l.length → gone.contains (iat l j).key = false) ∨ ∃ k : Nat, k < l.length ∧ e = .returned (.int .i64 (k : Int)) ∧ gone.contains (iat l k).key = true ∧ ∀ j, j < k → gone.contains (iat l j).key = false) ∧ Below w.heap.size w w' := by
  obtain ⟨a, cap, rfl, h1, h2⟩ := h.shape
  have hm := lt63 h1 h2
  have Hg := Lib.hid hg
  generalize hn : l.length = n at *
  have Hr := Lib.hid h
  clear h h1 h2 hn hg
  go_enter Tryz.func121, Tryz.ntmps121
  go_wp2_with fail
  go_loopw [8] (fun i wr => ∃ k : Nat, k ≤ n ∧ i = .int .i64 (k : Int) ∧ (∀ j, j < k → gone.contains (iat l j).key = false) ∧ Below w.heap.size w wr) (fun i _ => n - (intOf i).toNat)
  case atStart => exact ⟨0, Nat.zero_le _, rfl, fun j hj => absurd hj (by omega), Below.refl _ _⟩
  case round =>
    obtain ⟨k, hk, rfl, hok, hb⟩ := hrel
    have Hok := Lib.hid hok
    have Hb := Lib.hid hb
    have hB := hb.size
    clear hok hb
    by_cases hlt : k < n
    · have hr := Hr.out.below Hb.out
      obtain ⟨b, off, rfl, c0, c1, c2, c3⟩ := hr.at hlt
      have HV := Lib.hid (mg1_any (iat l k).key (iat l k).ck (iat l k).off (iat l k).size gb gone wr (Hg.out.below Hb.out))
      generalize hx : iat l k = x at *
      have EX := Lib.hid hx
      clear hr hx
      go_wp2_with fail
      refine HV.out.mono ?_; rintro e w1 ⟨rfl, hb1⟩
      have Hb1 := Lib.hid (bstep Hb.out hb1)
      cases hx : gone.contains x.key
      · have HX := Lib.hid hx
        clear hb1 hx
        go_wp2_with fail
        refine ⟨⟨k + 1, by omega, by go_num, fun j hj => ?_, Hb1.out⟩, by simp [intOf]; omega⟩
        by_cases e : j = k
        · rw [e, EX.out]; exact HX.out
        · exact Hok.out j (by omega)
      · have HX := Lib.hid hx
        clear hb1 hx
        go_wp2_with fail
        go_ret
        exact ⟨.inr ⟨k, hlt, rfl, by rw [EX.out]; exact HX.out, Hok.out⟩, Hb1.out⟩
    · obtain rfl : k = n := by omega
      go_wp2_with fail
      go_ret
      exact ⟨.inl ⟨rfl, Hok.out⟩, Hb.out⟩
set_option maxHeartbeats 1000000 in
theorem df_any (v : Value) (l : List It) (gb : Nat) (gone : List Int) (B : Nat) (w : World) (hown : OwnT w B v l) (hB : B ≤ w.heap.size) (hg : ∀ W, Below B w W → Gone W gb gone) :
    Calls Tryz.prog 112 #[v, .func (.func 113) #[] #[.pointer (some ⟨gb, 0, none⟩)]] w fun e w' => ∃ v', e = .returned v' ∧ OwnT w' B v' (kept gone l) ∧ Below B w w' := by
  have HI := Lib.hid (idxm_any v l gb gone w hown.rd (hg w (Below.refl _ _)))
  have HG := Lib.hid hg
  have HKA := Lib.hid (show (∀ j, j < l.length → _) → _ from kept_all (gone := gone) (l := l))
  have HKS := Lib.hid (show ∀ j, j < l.length → _ from fun j hj => kept_snoc gone (l := l) (j := j) hj)
  have HKE := Lib.hid (show kept gone (l.take l.length) = kept gone l by rw [List.take_length])
  obtain ⟨oa, oc, rfl, ho1, ho2, ho3⟩ := own_form hown
  have hm := lt63 ho1 ho2
  have Hown := Lib.hid (show w.ownsRow B 77 4 _ l.length (itsC l) from hown)
  have Ho3 := Lib.hid ho3
  generalize hn : l.length = n at *
  have HN := Lib.hid hn
  clear hg ho3 hn hown
  go_enter Tryz.func112, Tryz.ntmps112
  go_wp2_with fail
  refine HI.out.mono ?_; rintro e w1 ⟨hres, hb1⟩
  have HB1 := Lib.hid (show Below B w w1 from hb1.mono hB)
  have HO1 := Lib.hid (own_keep Hown.out hb1)
  clear hb1
  rcases hres with ⟨rfl, hno⟩ | ⟨i0, hi0, rfl, hyes, hno⟩
  · have HK := Lib.hid (HKA.out hno)
    clear hno
    go_wp2_with fail
    go_ret
    exact ⟨_, rfl, ownT_of HO1.out (by rw [HK.out]), HB1.out⟩
  · have hneg : ((i0 : Int) == -1) = false := beq_eq_false_iff_ne.2 (by omega)
    have hk0 : kept gone (l.take (i0 + 1)) = l.take i0 := by
      rw [HKS.out i0 hi0, hyes]
      simp only [if_true, List.append_nil]
      refine kept_all fun j hj => ?_
      rw [List.length_take] at hj
      rw [iat_take (by omega)]
      exact hno j (by omega)
    have HK0 := Lib.hid hk0
    obtain ⟨g, rfl⟩ : ∃ g, oa = some ⟨g, 0, none⟩ := by
      rcases HO1.out.2 with ⟨e, h0⟩ | ⟨g, _, _, e, _⟩
      · omega
      · injection e with e; exact ⟨g, e⟩
    have hgB := (HO1.out.lt g rfl).1
    clear hyes hno hk0
    go_wp2_with fail
    go_loopw [5, 6] (fun iv jv wr => ∃ (i j : Nat) (a : List It), iv = .int .i64 (i : Int) ∧ jv = .int .i64 (j : Int) ∧ i < j ∧ j ≤ n ∧ a.length = n ∧ wr.ownsRow B 77 4 (.slice (some ⟨g, 0, none⟩) n oc) n (itsC a) ∧ a.take i = kept gone (l.take j) ∧ a.drop j = l.drop j ∧ Below B w wr) (fun _ jv _ => n - (intOf jv).toNat)
    case atStart => exact ⟨i0, i0 + 1, l, rfl, by go_num, by omega, by omega, HN.out, HO1.out, HK0.out.symm, rfl, HB1.out⟩
    case round =>
      obtain ⟨i, j, a, rfl, rfl, hij, hj, ha, hown, hti, hdj, hb⟩ := hrel
      have HA := Lib.hid ha
      have HO := Lib.hid hown
      have HT := Lib.hid hti
      have HD := Lib.hid hdj
      have Hb := Lib.hid hb
      have hBr : B ≤ wr.heap.size := Nat.le_trans hB hb.size
      have hgr := (hown.lt g rfl).2
      clear ha hown hti hdj hb
      by_cases hlt : j < n
      · obtain ⟨_, _, e, c0, c1, c2, c3⟩ := (rd_rdT (own_rd HO.out)).at hlt
        injection e with e; injection e with e1 e2; subst e1 e2
        simp only [Nat.zero_add] at c0 c1 c2 c3
        have hax : iat a j = iat l j := by
          have h1 := iat_drop a j 0
          rw [HD.out, iat_drop, Nat.add_zero] at h1
          exact h1.symm
        rw [hax] at c0 c1 c2 c3
        have HKj := Lib.hid (HKS.out j hlt)
        have HAX := Lib.hid hax
        clear hax
        generalize iat l j = x at *
        have HW0 := Lib.hid (show Below B w (wr.alloc (.cells #[.int .u64 x.key, .int .u32 x.ck, .int .i64 x.off, .int .i64 x.size] 77)) from Hb.out.alloc hBr _)
        have HM := Lib.hid (mg1_any x.key x.ck x.off x.size gb gone (wr.alloc (.cells #[.int .u64 x.key, .int .u32 x.ck, .int .i64 x.off, .int .i64 x.size] 77)) (HG.out _ HW0.out))
        go_wp2_with fail
        refine HM.out.mono ?_; rintro e w2 ⟨rfl, hb2⟩
        have HO2 := Lib.hid (own_keep (HO.out.alloc _) hb2)
        have HB2 := Lib.hid (show Below B w w2 from HW0.out.trans (hb2.mono (by simp; omega)))
        have d0 := Below.keeps hb2 ⟨wr.heap.size, 0, none⟩ (.int .u64 x.key) (by simp)
        have d1 := Below.keeps hb2 ⟨wr.heap.size, 1, none⟩ (.int .u32 x.ck) (by simp)
        have d2 := Below.keeps hb2 ⟨wr.heap.size, 2, none⟩ (.int .i64 x.off) (by simp)
        have d3 := Below.keeps hb2 ⟨wr.heap.size, 3, none⟩ (.int .i64 x.size) (by simp)
        have hs2 : B ≤ w2.heap.size := Nat.le_trans hB HB2.out.size
        clear hb2 c0 c1 c2 c3
        cases hr : gone.contains x.key
        · have HR := Lib.hid hr
          obtain ⟨_, _, e, c0, c1, c2, c3⟩ := (rd_rdT (own_rd HO2.out)).at (show i < n by omega)
          injection e with e; injection e with e1 e2; subst e1 e2
          simp only [Nat.zero_add] at c0 c1 c2 c3
          have f0 := HO2.out.frozenAt (i * 4)
          have f1 := HO2.out.frozenAt (i * 4 + 1)
          have f2 := HO2.out.frozenAt (i * 4 + 2)
          have f3 := HO2.out.frozenAt (i * 4 + 3)
          have HS := Lib.hid (own_set4 HO2.out i (by rw [HA.out]; omega) x)
          clear hr
          go_wp2_with fail
          have hdr : (a.set i x).drop (j + 1) = l.drop (j + 1) := by
            rw [List.drop_set_of_lt (by omega), ← List.drop_drop, HD.out, List.drop_drop]
          have htk : (a.set i x).take (i + 1) = kept gone (l.take (j + 1)) := by
            rw [HKj.out, HR.out, ← HT.out, set_take_succ a i x (by rw [HA.out]; omega)]
            rfl
          refine ⟨⟨i + 1, j + 1, a.set i x, by go_num, by go_num, by omega, by omega, by rw [List.length_set]; exact HA.out, HS.out, htk, hdr, ?_⟩, by simp [intOf]; omega⟩
          exact ((((HB2.out.setCell hgB _).setCell hgB _).setCell hgB _).setCell hgB _)
        · have HR := Lib.hid hr
          clear hr
          go_wp2_with fail
          have hdr : a.drop (j + 1) = l.drop (j + 1) := by
            rw [← List.drop_drop, HD.out, List.drop_drop]
          refine ⟨⟨i, j + 1, a, rfl, by go_num, by omega, by omega, HA.out, HO2.out, ?_, hdr, HB2.out⟩, by simp [intOf]; omega⟩
          rw [HKj.out, HR.out, HT.out]; simp
      · obtain rfl : j = n := by omega
        obtain ⟨w3, hcl, hown3, hgr3⟩ := clear_own HO.out i (by omega)
        have HO3 := Lib.hid (own_take hown3 i (by omega))
        have HB3 := Lib.hid (Hb.out.grown hgr3 hBr (by intro r hr; injection hr with hr; omega))
        have hto := slice_to (P := Tryz.prog) elemT (n := j) (cap := oc) Ho3.out i (by omega)
        clear hown3 hgr3
        go_wp2_with fail
        go_ret
        refine ⟨_, rfl, ownT_of HO3.out ?_, HB3.out⟩
        have hia : i ≤ a.length := by rw [HA.out]; omega
        rw [← itsC_take, List.take_append_of_le_length (by rw [List.length_take]; omega), List.take_take, Nat.min_self, HT.out, HKE.out]
/-- The merged list. -/
def mrg (old fresh : List It) (gone : List Int) : List It := srt (kept gone (srt old) ++ srt fresh)
theorem kept_length (gone : List Int) (l : List It) : (kept gone l).length ≤ l.length := List.length_filter_le _ _
set_option maxHeartbeats 1000000 in
theorem merge_any (vo vf vg : Value) (old fresh : List It) (gone : List Int) (w : World) (ho : RdT w vo old) (hf : RdT w vf fresh) (hg : RdU w vg gone)
    (so : SortedOk old) (sf : SortedOk fresh) (sm : SortedOk (kept gone (srt old) ++ srt fresh)) (h1 : old.length ≤ 100000) (h2 : fresh.length ≤ 100000) :
    Calls Tryz.prog 85 #[vo, vf, vg] w fun e w' => ∃ v', e = .returned v' ∧ OwnT w' w.heap.size v' (mrg old fresh gone) ∧ Below w.heap.size w w' := by
  have SO := Lib.hid (fun w h => so vo w h)
  have SF := Lib.hid (fun w h => sf vf w h)
  have SM := Lib.hid (fun v w h => sm v w h)
  have HM := Lib.hid (show mrg old fresh gone = srt (kept gone (srt old) ++ srt fresh) from rfl)
  obtain ⟨a1, c1, rfl, _, _⟩ := ho.shape
  obtain ⟨a2, c2, rfl, _, _⟩ := hf.shape
  obtain ⟨a3, c3, rfl, _, _⟩ := hg.shape0
  have l1 := srt_length old
  have l2 := srt_length fresh
  have l3 := kept_length gone (srt old)
  generalize srt old = s1 at *
  generalize srt fresh = s2 at *
  obtain ⟨W0, hW0⟩ : ∃ W0, W0 = w.alloc (.cells #[.slice a3 gone.length c3] 29) := ⟨_, rfl⟩
  have HW0 := Lib.hid hW0
  have HB0 := Lib.hid (show Below w.heap.size w W0 by rw [hW0]; exact (Below.refl _ _).alloc (Nat.le_refl _) _)
  have HG0 := Lib.hid (show Gone W0 w.heap.size gone from ⟨a3, gone.length, c3, by rw [hW0]; simp, hg.below HB0.out⟩)
  have hs0 : w.heap.size ≤ W0.heap.size := HB0.out.size
  have Ho := Lib.hid ho
  have Hf := Lib.hid hf
  have HDF := Lib.hid (fun v w' B (h : OwnT w' B v s1) hB hg => df_any v s1 w.heap.size gone B w' h hB hg)
  generalize hk : kept gone s1 = k1 at *
  have HK := Lib.hid hk
  clear ho hf hg so sf sm hW0 hk
  go_enter Tryz.func85, Tryz.ntmps85
  go_wp2_with fail
  rw [← HW0.out]
  refine (SO.out _ (Ho.out.below HB0.out)).mono ?_; rintro e w1 ⟨v1, rfl, hown1, hb1⟩
  have HO1 := Lib.hid hown1
  have HB1 := Lib.hid hb1
  clear hown1 hb1
  go_wp2_with fail
  refine (HDF.out v1 w1 W0.heap.size HO1.out HB1.out.size (fun W h => HG0.out.below (HB1.out.trans h))).mono ?_; rintro e w2 ⟨v2, rfl, hown2, hb2⟩
  have HO2 := Lib.hid hown2
  have HB2 := Lib.hid (HB1.out.trans hb2)
  have HC2 := Lib.hid (bup HB0.out hs0 (HB1.out.trans hb2))
  clear hown2 hb2
  go_wp2_with fail
  refine (SF.out _ (Hf.out.below HC2.out)).mono ?_; rintro e w3 ⟨v3, rfl, hown3, hb3⟩
  have HO3 := Lib.hid (own_keep HO2.out hb3)
  have HR3 := Lib.hid (rdT_rd hown3.rd)
  have HB3 := Lib.hid (HB2.out.trans (hb3.mono HB2.out.size))
  clear hown3 hb3
  go_wp2_with (at_builtin; go_must (refine wpList_app rfl (.tmp 13) (.tmp 15) 22 rfl elemT W0.heap.size rfl HO3.out rfl HR3.out (itsC_one' _) (by unfold maxLen; omega) (by omega) HB3.out.size ?_); intro v4 w4 hown4 hgr4 hv4; clear hv4)
  have HO4 := Lib.hid (ownT_of hown4 (itsC_append k1 s2).symm)
  have HB4 := Lib.hid (own_below HB3.out HO3.out HB3.out.size hgr4)
  clear hown4 hgr4
  go_wp2_with fail
  refine (SM.out _ _ HO4.out.rd).mono ?_; rintro e w5 ⟨v5, rfl, hown5, hb5⟩
  have HO5 := Lib.hid hown5
  have HB5 := Lib.hid (HB4.out.trans (hb5.mono HB4.out.size))
  clear hown5 hb5
  go_wp2_with fail
  go_ret
  refine ⟨_, rfl, ?_, HB0.out.trans (HB5.out.mono hs0)⟩
  rw [HM.out]
  exact HO5.out.mono (Nat.le_trans hs0 HB4.out.size)
end Go.Proofs.YtenkeodfijladaaGreatDoor
