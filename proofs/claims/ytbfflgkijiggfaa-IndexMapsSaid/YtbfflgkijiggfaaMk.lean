/- The walks over the law's cut and made. -/
import Derived.Test.YtbfflgkijiggfaaSo
import Derived.Laws.OwnMore
import Derived.Laws.Bits128
namespace Go.Proofs.Ytbfflgkijiggfaa
open Go.RowKit

theorem i64_and4095 (n : Int) : bits .and .i64 n 4095 = n % 4096 := by
  have hm : (BitVec.ofInt 64 4095).toNat = 2 ^ 12 - 1 := by decide
  have key : (BitVec.ofInt 64 n &&& BitVec.ofInt 64 4095).toNat = (n % ((2 ^ 64 : Nat) : Int)).toNat % 2 ^ 12 := by
    rw [BitVec.toNat_and, BitVec.toNat_ofInt, hm, Nat.and_two_pow_sub_one_eq_mod]
  show IntKind.i64.wrap ((BitVec.ofInt 64 n &&& BitVec.ofInt 64 4095).toNat : Nat) = n % 4096
  rw [key, IntKind.wrap_i64]
  omega
def mkIt (x : It) : It := ⟨x.key, x.ck, 16 + 8 * (x.off % 4096), x.size % 4096⟩
theorem mkIt_ok (x : It) : okP (mkIt x) := by
  unfold okP mkIt
  simp only []
  omega
def mk (l : List It) : List It := (srt (l.take 40)).map mkIt
theorem mk_length (l : List It) : (mk l).length ≤ 40 := by
  unfold mk
  have := srt_length (l.take 40)
  rw [List.length_map]
  rw [List.length_take] at this
  omega
theorem iat_map {l : List It} {j : Nat} (h : j < l.length) : iat (l.map mkIt) j = mkIt (iat l j) := by
  unfold iat
  rw [List.getD_eq_getElem?_getD, List.getD_eq_getElem?_getD, List.getElem?_map, List.getElem?_eq_getElem h]; rfl
theorem mk_valid (l : List It) : vldB (mk l) = true := by
  refine vldB_iff.2 ⟨fun j hj => ?_, fun x hx => ?_⟩
  · have hl : (mk l).length = (srt (l.take 40)).length := by simp [mk]
    unfold mk
    rw [iat_map (by omega), iat_map (by omega)]
    exact srt_asc _ j (by omega)
  · obtain ⟨y, _, rfl⟩ := List.mem_map.1 hx
    exact mkIt_ok y
theorem cut_any (v : Value) (l : List It) (w : World) (h : RdT w v l) :
    Calls Try.prog 11 #[v] w fun e w' => (∃ v', e = .returned v' ∧ RdT w' v' (l.take 40)) ∧ w = w' := by
  obtain ⟨a, cap, rfl, h1, h2⟩ := h.shape
  have hm := lt63 h1 h2
  have hr := Lib.hid (fun k (hk : k ≤ l.length) => RdS.take h k hk)
  by_cases hl : 40 < l.length
  · have hd : decide ((40 : Int) < (l.length : Int)) = true := by simp; omega
    have hto := slice_to (P := Try.prog) elemT (a := a) (n := l.length) (cap := cap) (fun x hx => by
      obtain ⟨b, off, e, _⟩ := h.at (show 0 < l.length by omega)
      exact ⟨b, off, Option.some.inj (hx.symm.trans e)⟩) 40 (by omega)
    rw [show ((40 : Nat) : Int) = 40 from rfl] at hto
    clear h
    go_enter Try.func11, Try.ntmps11
    go_wp2_with fail
    go_ret
    exact ⟨⟨_, rfl, hr.out 40 (by omega)⟩, rfl⟩
  · have hd : decide ((40 : Int) < (l.length : Int)) = false := by simp; omega
    have hr2 := Lib.hid (show RdT w (.slice a l.length cap) (l.take 40) by rw [List.take_of_length_le (by omega)]; exact h)
    clear h
    go_enter Try.func11, Try.ntmps11
    go_wp2_with fail
    go_ret
    exact ⟨⟨_, rfl, hr2.out⟩, rfl⟩
theorem itsC_set (o s : Int) : ∀ (l : List It) (k : Nat), k < l.length → ((itsC l).set (k * 4 + 2) (.int .i64 o)).set (k * 4 + 3) (.int .i64 s) = itsC (l.set k ⟨(iat l k).key, (iat l k).ck, o, s⟩)
  | [], _, h => by simp at h
  | x :: r, 0, _ => rfl
  | x :: r, k + 1, h => by
    have ih := itsC_set o s r k (by simpa using h)
    have e1 : (k + 1) * 4 + 2 = k * 4 + 2 + 1 + 1 + 1 + 1 := by omega
    have e2 : (k + 1) * 4 + 3 = k * 4 + 3 + 1 + 1 + 1 + 1 := by omega
    rw [e1, e2]
    show _ = itC x ++ itsC (r.set k ⟨(iat r k).key, (iat r k).ck, o, s⟩)
    rw [← ih]
    rfl
/-- The first k items made. -/
def upd (o : List It) (k : Nat) : List It := (o.take k).map mkIt ++ o.drop k
theorem upd_length (o : List It) (k : Nat) : (upd o k).length = o.length := by
  unfold upd
  rw [List.length_append, List.length_map, List.length_take, List.length_drop]; omega
theorem upd_at {o : List It} {k : Nat} (h : k < o.length) : iat (upd o k) k = iat o k := by
  unfold upd iat
  rw [List.getD_eq_getElem?_getD, List.getElem?_append_right (by simp [List.length_take]; omega), List.length_map, List.length_take, Nat.min_eq_left (by omega), Nat.sub_self, List.getElem?_drop, Nat.add_zero, ← List.getD_eq_getElem?_getD]
theorem upd_succ {o : List It} {k : Nat} (h : k < o.length) : (upd o k).set k (mkIt (iat o k)) = upd o (k + 1) := by
  unfold upd
  rw [take_snoc h, List.map_append, List.set_append_right _ _ (by simp [List.length_take]; omega), List.length_map, List.length_take, Nat.min_eq_left (by omega), Nat.sub_self]
  rw [List.drop_eq_getElem_cons h, List.set_cons_zero]
  simp
set_option maxHeartbeats 1000000 in
theorem made_any (v : Value) (l : List It) (w : World) (h : RdT w v l) :
    Calls Try.prog 14 #[v] w fun e w' => ∃ v', e = .returned v' ∧ OwnT w' w.heap.size v' (mk l) ∧ Below w.heap.size w w' := by
  have HC := Lib.hid (cut_any v l w h)
  have HS := Lib.hid (fun v' w' (h : RdT w' v' (l.take 40)) => rsort_any v' (l.take 40) w' h (by rw [List.length_take]; omega))
  have HM := Lib.hid (show mk l = upd (srt (l.take 40)) (srt (l.take 40)).length by unfold mk upd; rw [List.take_length, List.drop_length, List.append_nil])
  have hlen := srt_length (l.take 40)
  rw [List.length_take] at hlen
  obtain ⟨a, cap, rfl, _, _⟩ := h.shape
  clear h
  go_enter Try.func14, Try.ntmps14
  go_wp2_with fail
  refine HC.out.mono ?_; rintro e w0 ⟨⟨v1, rfl, hr1⟩, rfl⟩
  have HS1 := Lib.hid (HS.out _ _ hr1)
  clear hr1
  go_wp2_with fail
  refine HS1.out.mono ?_; rintro e w1 ⟨v2, rfl, hown, hb⟩
  generalize srt (l.take 40) = o at *
  obtain ⟨oa, oc, rfl, ho1, ho2, ho3⟩ := own_form hown
  have Hown := Lib.hid (show w1.ownsRow w.heap.size 36 4 _ o.length (itsC (upd o 0)) from hown)
  have Hb := Lib.hid hb
  have hul := Lib.hid (upd_length o)
  generalize hn : o.length = n at *
  have HN := Lib.hid hn
  clear hown hb ho3 hn
  go_wp2_with fail
  go_loopw [10] (fun iv wr => ∃ k : Nat, iv = .int .i64 (k : Int) ∧ k ≤ n ∧ wr.ownsRow w.heap.size 36 4 (.slice oa n oc) n (itsC (upd o k)) ∧ Below w.heap.size w wr) (fun iv _ => n - (intOf iv).toNat)
  case atStart => exact ⟨0, rfl, Nat.zero_le _, Hown.out, Hb.out⟩
  case round =>
    obtain ⟨k, rfl, hk, hown, hb⟩ := hrel
    have Hb := Lib.hid hb
    by_cases hlt : k < n
    · obtain ⟨b, off, rfl, c0, c1, c2, c3⟩ := (rd_rdT (own_rd hown)).at hlt
      rw [upd_at (by rw [HN.out]; exact hlt)] at c0 c1 c2 c3
      obtain ⟨rfl⟩ : off = 0 := by
        rcases hown.2 with ⟨e, _⟩ | ⟨g, cap', cur, e, _⟩
        · cases e
        · injection e with e; injection e with e; injection e
      simp only [Nat.zero_add] at c0 c1 c2 c3
      have f2 := hown.frozenAt (k * 4 + 2)
      have f3 := hown.frozenAt (k * 4 + 3)
      obtain ⟨s1, g1⟩ := hown.stored (k * 4 + 2) (.int .i64 (16 + 8 * ((iat o k).off % 4096)))
      obtain ⟨s2, g2⟩ := s1.stored (k * 4 + 3) (.int .i64 ((iat o k).size % 4096))
      have hB := hb.size
      have hgb := (hown.lt b rfl).1
      have HB2 := Lib.hid ((hb.grown g1 hB (by intro r hr; injection hr with hr; omega)).grown g2 (by simpa using hB) (by intro r hr; injection hr with hr; omega))
      rw [itsC_set _ _ _ _ (by rw [hul.out]; exact hlt), upd_at (by rw [HN.out]; exact hlt), show (⟨(iat o k).key, (iat o k).ck, 16 + 8 * ((iat o k).off % 4096), (iat o k).size % 4096⟩ : It) = mkIt (iat o k) from rfl, upd_succ (by rw [HN.out]; exact hlt)] at s2
      have HO2 := Lib.hid s2
      generalize (iat o k).off = xo at *
      generalize (iat o k).size = xs at *
      have b1 := i64_and4095 xo
      have b2 := i64_and4095 xs
      have b3 : 0 ≤ xo % 4096 ∧ xo % 4096 < 4096 := by omega
      clear s1 s2 g1 g2 hown hb
      go_wp2_with fail
      exact ⟨⟨k + 1, by go_num, by omega, HO2.out, HB2.out⟩, by simp [intOf]; omega⟩
    · obtain rfl : n = k := by omega
      have HF := Lib.hid hown
      clear hown hb
      go_wp2_with fail
      go_ret
      exact ⟨_, rfl, ownT_of HF.out (by rw [HM.out]), Hb.out⟩
end Go.Proofs.Ytbfflgkijiggfaa
