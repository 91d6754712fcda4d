/- The walks over slices.Equal of bytes and over Decode, the program's and the reference's. -/
import Derived.Test.YtecflhklpkjhcaaNu
import Derived.Test.YtecflhklpkjhcaaPd
import Derived.Test.YtecflhklpkjhcaaIv
import Derived.Deep.RegionLaw
import Derived.Deep.RegionWith
namespace Go.Proofs.Ytecflhklpkjhcaa
open Go.RowKit

theorem bat_ext {l m : List UInt8} (h : l.length = m.length) (h' : ∀ j, j < l.length → bat l j = bat m j) : l = m := by
  refine List.ext_getElem h fun j h1 h2 => ?_
  have := h' j h1
  unfold bat at this
  rwa [List.getD_eq_getElem?_getD, List.getD_eq_getElem?_getD, List.getElem?_eq_getElem h1, List.getElem?_eq_getElem h2] at this
set_option maxHeartbeats 400000 in
theorem eqb_any (va vb : Value) (l m : List UInt8) (w : World) (ha : RdB w va l) (hb : RdB w vb m) :
    Calls Try.prog 32 #[va, vb] w fun e w' => e = .returned (.bool (decide (l = m))) ∧ Below w.heap.size w w' := by
  obtain ⟨a1, c1, rfl, p1, p2⟩ := ha.shape0
  obtain ⟨a2, c2, rfl, _, _⟩ := hb.shape0
  have hm := lt63 p1 p2
  by_cases hl : l.length = m.length
  · have HT := Lib.hid (show (∀ j, j < l.length → bat l j = bat m j) → l = m from bat_ext hl)
    have hne : ((l.length : Int) != (m.length : Int)) = false := by rw [hl]; simp
    rw [← hl] at hb ⊢
    generalize hn : l.length = n at *
    have Ha := Lib.hid ha
    have Hb := Lib.hid hb
    have hnn : ((n : Int) != (n : Int)) = false := by simp
    clear ha hb hl hn hne p1 p2
    go_enter Try.func32, Try.ntmps32
    go_wp2_with fail
    clear hnn
    go_loopw [13] (fun kv wr => ∃ k : Nat, kv = .int .i64 (k : Int) ∧ k ≤ n ∧ (∀ j, j < k → bat l j = bat m j) ∧ Below w.heap.size w wr) (fun kv _ => n - (intOf kv).toNat)
    case atStart => exact ⟨0, rfl, by omega, fun j hj => absurd hj (by omega), Below.refl _ _⟩
    case round =>
      obtain ⟨k, rfl, hk, heq, hbel⟩ := hrel
      have Heq := Lib.hid heq
      have Hbel := Lib.hid hbel
      clear heq hbel
      by_cases hlt : k < n
      · obtain ⟨b1, o1, rfl, x0⟩ := RdB.at (RdL.below Ha.out Hbel.out) hlt
        obtain ⟨b2, o2, rfl, y0⟩ := RdB.at (RdL.below Hb.out Hbel.out) hlt
        generalize hx : bat l k = x at *
        generalize hy : bat m k = y at *
        have HX := Lib.hid hx
        have HY := Lib.hid hy
        have i1 : (k : Int) < (n : Int) := by omega
        clear hx hy
        by_cases hxy : x = y
        · subst hxy
          have hd : ((x.toNat : Int) != (x.toNat : Int)) = false := by simp
          go_wp2_with fail
          go_quiet (fail)
          clear i1 hd
          go_wp2_with fail
          refine ⟨⟨k + 1, by go_num, by omega, fun j hj => ?_, below_drewN Hbel.out _⟩, by simp [intOf]; omega⟩
          by_cases e : j = k
          · rw [e, HX.out, HY.out]
          · exact Heq.out j (by omega)
        · have hd : ((x.toNat : Int) != (y.toNat : Int)) = true := by
            rw [bne_iff_ne]; intro e; exact hxy (UInt8.toNat_inj.1 (by omega))
          have HN := Lib.hid (show decide (l = m) = false from decide_eq_false fun e => hxy (by rw [← HX.out, ← HY.out, e]))
          clear hxy
          go_wp2_with fail
          go_quiet (fail)
          clear i1 hd
          go_wp2_with fail
          go_ret
          exact ⟨ret_bool HN.out.symm, below_drewN Hbel.out _⟩
      · obtain rfl : k = n := by omega
        have HN := Lib.hid (show decide (l = m) = true from decide_eq_true (HT.out Heq.out))
        go_wp2_with fail
        go_ret
        exact ⟨ret_bool HN.out.symm, Hbel.out⟩
  · have hne : ((l.length : Int) != (m.length : Int)) = true := by rw [bne_iff_ne]; omega
    have HN := Lib.hid (show decide (l = m) = false from decide_eq_false fun e => hl (by rw [e]))
    clear hl ha hb
    go_enter Try.func32, Try.ntmps32
    go_wp2_with fail
    go_ret
    exact ⟨ret_bool HN.out.symm, Below.refl _ _⟩
theorem ckl (l : List UInt8) : (ck l).length = 4 := rfl
def slen : Value → Nat
  | .slice _ n _ => n
  | _ => 0
end Go.Proofs.Ytecflhklpkjhcaa
