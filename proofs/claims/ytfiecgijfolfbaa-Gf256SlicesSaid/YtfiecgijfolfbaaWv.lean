/- The walk over the law Gf256Slices. -/
import Derived.Test.YtfiecgijfolfbaaWu
namespace Go.Proofs.Ytfiecgijfolfbaa
open Go.RowKit

theorem ma_rd (vd vs : Value) (ds ss : List UInt8) (c : UInt8) (w : World) (hd : RdB w vd ds) (hs : RdB w vs ss) (hl : ds.length = ss.length) (hlt : ds.length < 1000000000) :
    Calls Try.prog 19 #[vd, vs, .int .u8 (c.toNat : Int)] w fun e w' => ∃ v, e = .returned (.tuple #[v, .int .i64 0]) ∧ RdB w' v (mas c ds ss) ∧ Below w.heap.size w w' :=
  (ma_ok vd vs ds ss c w hd hs hl hlt).mono fun _ _ ⟨v, h1, h2, h3⟩ => ⟨v, h1, by unfold RdB; rw [mas_length c hl]; exact own_rd h2, h3⟩
theorem rma_rd (vd vs : Value) (ds ss : List UInt8) (c : UInt8) (w : World) (hd : RdB w vd ds) (hs : RdB w vs ss) (hl : ds.length = ss.length) (hlt : ds.length < 1000000000) :
    Calls Try.prog 20 #[vd, vs, .int .u8 (c.toNat : Int)] w fun e w' => ∃ v, e = .returned (.tuple #[v, .int .i64 0]) ∧ RdB w' v (mas c ds ss) ∧ Below w.heap.size w w' :=
  (rma_ok vd vs ds ss c w hd hs hl hlt).mono fun _ _ ⟨v, h1, h2, h3⟩ => ⟨v, h1, by unfold RdB; rw [mas_length c hl]; exact own_rd h2, h3⟩
theorem ma_twice (c d s : UInt8) : ma c (ma c d s) s = d := by
  apply UInt8.toNat_inj.1
  rw [ma_nat, ma_nat, Nat.xor_assoc, Nat.xor_self, Nat.xor_zero]
theorem mas_twice (c : UInt8) : ∀ ds ss : List UInt8, ds.length = ss.length → mas c (mas c ds ss) ss = ds
  | [], [], _ => rfl
  | d :: ds, s :: ss, h => by
    have ih := mas_twice c ds ss (by simpa using h)
    unfold mas at *
    simp only [List.zipWith_cons_cons, ma_twice, ih]
  | [], _ :: _, h => by simp at h
  | _ :: _, [], h => by simp at h
theorem RdB_nil (w : World) : RdB w (.slice none 0 0) [] := Rd.nil w 1
theorem to_str {w : World} {v : Value} {l : List UInt8} (h : RdB w v l) : (convert 30 9 v).run Try.prog w = .ok (.string ⟨l.toArray⟩) w :=
  run_to_string 30 9 5 Try.underlying30 Try.underlying5 Try.underlying9 h

set_option maxRecDepth 100000 in
set_option maxHeartbeats 1000000 in
theorem slices_eq (a a' : Option Addr) (n cap cap' : Nat) (ds ss : List UInt8) (c : UInt8) (w : World) (hd : RdB w (.slice a n cap) ds) (hs : RdB w (.slice a' n cap') ss) (hn : ds.length = n) (hn' : ss.length = n) (h2 : n ≤ 2000) :
    Calls Try.prog 8 #[.slice a n cap, .slice a' n cap', .int .u8 (c.toNat : Int), .bool false] w fun e w' => e = .returned (.bool true) ∧ Below w.heap.size w w' := by
  have Hl := Lib.hid (show ds.length = ss.length by omega)
  have Hlt := Lib.hid (show ds.length < 1000000000 by omega)
  have HT := Lib.hid (mas_twice c ds ss Hl.out)
  have HL := Lib.hid (mas_length c Hl.out)
  have Hd := Lib.hid hd
  have Hs := Lib.hid hs
  clear hd hs hn hn'
  go_enter Try.func8, Try.ntmps8
  go_wp2_with fail
  refine (ma_rd _ _ ds ss c _ Hd.out Hs.out Hl.out Hlt.out).mono ?_; rintro e w1 ⟨v1, rfl, r1, hb1⟩
  have R1 := Lib.hid r1
  clear r1
  go_wp2_with fail
  refine (rma_rd _ _ ds ss c _ (Hd.out.below hb1) (Hs.out.below hb1) Hl.out Hlt.out).mono ?_; rintro e w2 ⟨v2, rfl, r2, hb2⟩
  have q1 := to_str (R1.out.below hb2)
  have q2 := to_str r2
  clear r2
  go_wp2_with fail
  refine (ma_rd _ _ (mas c ds ss) ss c _ (R1.out.below hb2) ((Hs.out.below hb1).below hb2) (HL.out.trans Hl.out) (by rw [HL.out]; exact Hlt.out)).mono ?_; rintro e w3 ⟨v3, rfl, r3, hb3⟩
  rw [HT.out] at r3
  have q3 := to_str r3
  have q4 := to_str (((Hd.out.below hb1).below hb2).below hb3)
  clear r3 q1 q2
  go_wp2_with fail
  refine (awake_any _).mono ?_; rintro e w4 ⟨rfl, hb4⟩
  go_wp2_with fail
  go_ret
  exact ⟨rfl, bstep (bstep (bstep hb1 hb2) hb3) hb4⟩
set_option maxRecDepth 100000 in
set_option maxHeartbeats 1000000 in
theorem slices_ne (a a' : Option Addr) (n n' cap cap' : Nat) (ds ss : List UInt8) (c : UInt8) (w : World) (hd : RdB w (.slice a n cap) ds) (hs : RdB w (.slice a' n' cap') ss) (hn : ds.length = n) (hn' : ss.length = n') (h2 : n ≤ 2000) (h3 : n' ≤ 2000) (hne : n ≠ n') :
    Calls Try.prog 8 #[.slice a n cap, .slice a' n' cap', .int .u8 (c.toNat : Int), .bool false] w fun e w' => e = .returned (.bool true) ∧ Below w.heap.size w w' := by
  have Hl := Lib.hid (show ds.length ≠ ss.length by omega)
  have Hd := Lib.hid hd
  have Hs := Lib.hid hs
  clear hd hs hn hn' hne
  go_enter Try.func8, Try.ntmps8
  go_wp2_with fail
  refine (ma_bad _ _ ds ss c _ Hd.out Hs.out Hl.out).mono ?_; rintro e w1 ⟨rfl, rfl⟩
  go_wp2_with fail
  refine (rma_bad _ _ ds ss c _ Hd.out Hs.out Hl.out).mono ?_; rintro e w1 ⟨rfl, rfl⟩
  have q1 := to_str (RdB_nil w)
  go_wp2_with fail
  refine (awake_any _).mono ?_; rintro e w4 ⟨rfl, hb4⟩
  go_wp2_with fail
  go_ret
  exact ⟨rfl, hb4⟩
set_option maxRecDepth 100000 in
set_option maxHeartbeats 1000000 in
theorem slices_big (a a' : Option Addr) (n n' cap cap' : Nat) (c : UInt8) (s : Bool) (w : World) (h : 2000 < n ∨ n ≤ 2000 ∧ 2000 < n') (h1 : n ≤ maxLen) (h2 : n' ≤ maxLen) :
    Calls Try.prog 8 #[.slice a n cap, .slice a' n' cap', .int .u8 (c.toNat : Int), .bool s] w fun e w' => e = .returned (.bool true) ∧ Below w.heap.size w w' := by
  unfold maxLen at h1 h2
  rcases h with h | ⟨h, h'⟩
  all_goals
    go_enter Try.func8, Try.ntmps8
    go_wp2_with fail
    refine (awake_any _).mono ?_; rintro e w4 ⟨rfl, hb4⟩
    go_wp2_with fail
    go_ret
    exact ⟨rfl, hb4⟩
set_option maxRecDepth 100000 in
set_option maxHeartbeats 1000000 in
theorem slices_min (a a' : Option Addr) (n n' m cap cap' : Nat) (ds ss : List UInt8) (c : UInt8) (w : World) (hd : RdB w (.slice a m cap) ds) (hs : RdB w (.slice a' m cap') ss) (hn : ds.length = m) (hn' : ss.length = m) (h2 : n ≤ 2000) (h3 : n' ≤ 2000) (hm : m = n ∧ n ≤ n' ∨ m = n' ∧ n' < n)
    (hc : n ≤ cap) (hc' : n' ≤ cap') (_hm1 : cap ≤ 9223372036854775807) (_hm2 : cap' ≤ 9223372036854775807) :
    Calls Try.prog 8 #[.slice a n cap, .slice a' n' cap', .int .u8 (c.toNat : Int), .bool true] w fun e w' => e = .returned (.bool true) ∧ Below w.heap.size w w' := by
  have Hl := Lib.hid (show ds.length = ss.length by omega)
  have Hlt := Lib.hid (show ds.length < 1000000000 by omega)
  have HT := Lib.hid (mas_twice c ds ss Hl.out)
  have HL := Lib.hid (mas_length c Hl.out)
  have Hd := Lib.hid hd
  have Hs := Lib.hid hs
  clear hd hs hn hn'
  rcases hm with ⟨rfl, hm⟩ | ⟨rfl, hm⟩
  · have f1 : (m : Int) ≤ (cap : Int) := by omega
    have f2 : (m : Int) ≤ (cap' : Int) := by omega
    go_enter Try.func8, Try.ntmps8
    go_wp2_with fail
    go_quiet (fail)
    have hW : Below w.heap.size w (w.drewN nq) := below_drewN (Below.refl _ _) nq
    go_wp2_with fail
    refine (ma_rd _ _ ds ss c _ (Hd.out.below hW) (Hs.out.below hW) Hl.out Hlt.out).mono ?_; rintro e w1 ⟨v1, rfl, r1, hb1⟩
    have R1 := Lib.hid r1
    clear r1
    go_wp2_with fail
    refine (rma_rd _ _ ds ss c _ ((Hd.out.below hW).below hb1) ((Hs.out.below hW).below hb1) Hl.out Hlt.out).mono ?_; rintro e w2 ⟨v2, rfl, r2, hb2⟩
    have q1 := to_str (R1.out.below hb2)
    have q2 := to_str r2
    clear r2
    go_wp2_with fail
    refine (ma_rd _ _ (mas c ds ss) ss c _ (R1.out.below hb2) (((Hs.out.below hW).below hb1).below hb2) (HL.out.trans Hl.out) (by rw [HL.out]; exact Hlt.out)).mono ?_; rintro e w3 ⟨v3, rfl, r3, hb3⟩
    rw [HT.out] at r3
    have q3 := to_str r3
    have q4 := to_str ((((Hd.out.below hW).below hb1).below hb2).below hb3)
    clear r3 q1 q2
    go_wp2_with fail
    refine (awake_any _).mono ?_; rintro e w4 ⟨rfl, hb4⟩
    go_wp2_with fail
    go_ret
    exact ⟨rfl, bstep (bstep (bstep (bstep hW hb1) hb2) hb3) hb4⟩
  · have f1 : (m : Int) ≤ (cap : Int) := by omega
    have f2 : (m : Int) ≤ (cap' : Int) := by omega
    go_enter Try.func8, Try.ntmps8
    go_wp2_with fail
    go_quiet (fail)
    have hW : Below w.heap.size w (w.drewN nq) := below_drewN (Below.refl _ _) nq
    go_wp2_with fail
    refine (ma_rd _ _ ds ss c _ (Hd.out.below hW) (Hs.out.below hW) Hl.out Hlt.out).mono ?_; rintro e w1 ⟨v1, rfl, r1, hb1⟩
    have R1 := Lib.hid r1
    clear r1
    go_wp2_with fail
    refine (rma_rd _ _ ds ss c _ ((Hd.out.below hW).below hb1) ((Hs.out.below hW).below hb1) Hl.out Hlt.out).mono ?_; rintro e w2 ⟨v2, rfl, r2, hb2⟩
    have q1 := to_str (R1.out.below hb2)
    have q2 := to_str r2
    clear r2
    go_wp2_with fail
    refine (ma_rd _ _ (mas c ds ss) ss c _ (R1.out.below hb2) (((Hs.out.below hW).below hb1).below hb2) (HL.out.trans Hl.out) (by rw [HL.out]; exact Hlt.out)).mono ?_; rintro e w3 ⟨v3, rfl, r3, hb3⟩
    rw [HT.out] at r3
    have q3 := to_str r3
    have q4 := to_str ((((Hd.out.below hW).below hb1).below hb2).below hb3)
    clear r3 q1 q2
    go_wp2_with fail
    refine (awake_any _).mono ?_; rintro e w4 ⟨rfl, hb4⟩
    go_wp2_with fail
    go_ret
    exact ⟨rfl, bstep (bstep (bstep (bstep hW hb1) hb2) hb3) hb4⟩

theorem RdB.bounds {w : World} {a : Option Addr} {n cap : Nat} {l : List UInt8} (h : RdB w (.slice a n cap) l) : l.length = n ∧ n ≤ cap ∧ cap ≤ maxLen := by
  obtain ⟨_, _, e, h1, h2, _⟩ := h.shape
  injection e with e1 e2 e3
  exact ⟨e2.symm, by omega, by omega⟩
theorem slices_walk (a : Option Addr) (n cap : Nat) (z : List Int) (a' : Option Addr) (n' cap' : Nat) (z' : List Int) (c0 : Int) (s : Bool) (w : World) (h : IsRow .u8 w a n cap z) (h' : IsRow .u8 w a' n' cap' z') (wc : (Lit.int .u8 c0).wf = true) :
    Calls Try.prog 8 #[.slice a n cap, .slice a' n' cap', .int .u8 c0, .bool s] w fun e w' => e = .returned (.bool true) ∧ Below w.heap.size w w' := by
  obtain ⟨ds, hn, hd⟩ := isRow_bytes h
  obtain ⟨ss, hn', hs⟩ := isRow_bytes h'
  obtain ⟨c1, rfl, hc⟩ := u8_of wc
  obtain ⟨c, rfl⟩ : ∃ c : UInt8, c1 = c.toNat := ⟨UInt8.ofNat c1, by rw [UInt8.toNat_ofNat', Nat.mod_eq_of_lt hc]⟩
  obtain ⟨_, x1, x2⟩ := hd.bounds
  obtain ⟨_, y1, y2⟩ := hs.bounds
  have x3 : cap ≤ 9223372036854775807 := by unfold maxLen at x2; omega
  have y3 : cap' ≤ 9223372036854775807 := by unfold maxLen at y2; omega
  by_cases h1 : n ≤ 2000
  · by_cases h2 : n' ≤ 2000
    · cases s with
      | false =>
        by_cases h3 : n = n'
        · subst h3; exact slices_eq a a' n cap cap' ds ss c w hd hs hn hn' h1
        · exact slices_ne a a' n n' cap cap' ds ss c w hd hs hn hn' h1 h2 h3
      | true =>
        by_cases h3 : n ≤ n'
        · exact slices_min a a' n n' n cap cap' ds (ss.take n) c w hd (hs.take n h3) hn (by rw [List.length_take]; omega) h1 h2 (.inl ⟨rfl, h3⟩) x1 y1 x3 y3
        · exact slices_min a a' n n' n' cap cap' (ds.take n') ss c w (hd.take n' (by omega)) hs (by rw [List.length_take]; omega) hn' h1 h2 (.inr ⟨rfl, by omega⟩) x1 y1 x3 y3
    · exact slices_big a a' n n' cap cap' c s w (.inr ⟨h1, by omega⟩) (by omega) (by omega)
  · exact slices_big a a' n n' cap cap' c s w (.inl (by omega)) (by omega) (by omega)
end Go.Proofs.Ytfiecgijfolfbaa
