/- The law's file. -/
import Derived.Test.YtecflhklpkjhcaaSl
namespace Go.Proofs.Ytecflhklpkjhcaa
open Go.RowKit

theorem elemI6 : ElemT Try.prog 25 2 1 8 := by
  obtain ⟨i, hi, hz, hs, hb⟩ := info_parts (P := Try.prog) (e := 2) (z := .int .i64 0) (size := 1) (bytes := 8) (by kernel_rfl)
  exact ⟨Try.underlying25, by decide, i, _, hi, hz, hs, hb, rfl⟩
def fsup : Sup := ⟨0, 1, 0⟩
theorem fsup_ok : svld fsup := by unfold svld fsup; decide
/-- The bytes of a file. -/
def fileB (k : List Nd) : List UInt8 := senc fsup ++ nencs k
/-- Where the records end. -/
def endsF (k : List Nd) : List Int := (List.range k.length).map fun i => ((16 + nsum (k.take (i + 1)) : Nat) : Int)
theorem fileB_length (k : List Nd) : (fileB k).length = 16 + nsum k := by rw [fileB, List.length_append, senc_length, nencs_length]
theorem nsum_snoc (k : List Nd) (x : Nd) : nsum (k ++ [x]) = nsum k + nsz x.data.length := by simp [nsum]
theorem nencs_snoc (k : List Nd) (x : Nd) : nencs (k ++ [x]) = nencs k ++ nenc x := by simp [nencs]
theorem nsum_le : ∀ {k : List Nd}, (∀ x ∈ k, x.ok) → nsum k ≤ 4128 * k.length
  | [], _ => by simp [nsum]
  | x :: k, h => by
    have h1 := nsum_le (k := k) fun y hy => h y (by simp [hy])
    have h2 := (h x (by simp)).1
    have h3 := nsz_bounds x.data.length
    rw [nsum_cons, List.length_cons]; omega
theorem endsF_snoc {k : List Nd} {i : Nat} (h : i < k.length) : endsF (k.take (i + 1)) = endsF (k.take i) ++ [((16 + nsum (k.take (i + 1)) : Nat) : Int)] := by
  unfold endsF
  rw [List.length_take, List.length_take, Nat.min_eq_left (by omega), Nat.min_eq_left (by omega), List.range_succ, List.map_append]
  congr 1
  · refine List.map_congr_left fun j hj => ?_
    rw [List.mem_range] at hj
    rw [List.take_take, List.take_take, Nat.min_eq_left (by omega), Nat.min_eq_left (by omega)]
  · simp [List.take_take]
theorem map_snoc' {es : List (Nd × Value)} {i : Nat} (h : i < es.length) : (es.map (·.1)).take (i + 1) = (es.map (·.1)).take i ++ [(nat' es i).1] := by
  unfold nat'
  rw [List.take_add_one, List.getElem?_map, List.getElem?_eq_getElem h, List.getD_eq_getElem?_getD, List.getElem?_eq_getElem h]; rfl
theorem rd_int (w : World) (x : Int) (e : TypeId) : Rd (w.alloc (.cells #[.int .i64 x] e)) 1 (.slice (some ⟨w.heap.size, 0, none⟩) 1 1) 1 ([x].map intV) := Rd.new w 1 _ e 1 rfl (by decide)
set_option maxRecDepth 100000 in
set_option maxHeartbeats 8000000 in
theorem file_any (v : Value) (es : List (Nd × Value)) (w : World) (h : RdN w v es) (hok : ∀ p ∈ es, p.1.ok ∧ p.1.Wf) (hs : es.length ≤ 12) :
    Calls Try.prog 11 #[v] w fun e w' => ∃ bv nv, e = .returned (.tuple #[bv, nv]) ∧ OwnB w' w.heap.size bv (fileB (es.map (·.1))) ∧ w'.ownsRow w.heap.size 2 1 nv es.length ((endsF (es.map (·.1))).map intV) ∧ Below w.heap.size w w' := by
  obtain ⟨a, cap, rfl, h1, h2⟩ := h.shape
  have Hw0 := Lib.hid h
  have HK := Lib.hid hok
  have HM := Lib.hid (show ∀ j, j < es.length → nat' es j ∈ es from fun j => nat'_mem)
  have HS := Lib.hid (show ∀ j, j < es.length → fileB ((es.map (·.1)).take (j + 1)) = fileB ((es.map (·.1)).take j) ++ nenc (nat' es j).1 ∧ endsF ((es.map (·.1)).take (j + 1)) = endsF ((es.map (·.1)).take j) ++ [((fileB ((es.map (·.1)).take (j + 1))).length : Int)] from fun j hj => by
    have hj' : j < (es.map (·.1)).length := by rw [List.length_map]; exact hj
    refine ⟨by rw [map_snoc' hj, fileB, fileB, nencs_snoc, List.append_assoc], ?_⟩
    rw [endsF_snoc hj', fileB_length])
  have HLe := Lib.hid (show ∀ j, (fileB ((es.map (·.1)).take j)).length ≤ 60000 from fun j => by
    have := nsum_le (k := (es.map (·.1)).take j) (fun x hx => by
      obtain ⟨p, hp, rfl⟩ := List.mem_map.1 (List.mem_of_mem_take hx)
      exact (hok p hp).1)
    rw [List.length_take, List.length_map] at this
    rw [fileB_length]
    have : min j es.length ≤ 12 := by omega
    omega)
  have HE := Lib.hid (show (es.map (·.1)).take es.length = es.map (·.1) from List.take_of_length_le (by rw [List.length_map]; exact Nat.le_refl _))
  have H0 := Lib.hid (show fileB ((es.map (·.1)).take 0) = senc fsup by simp [fileB, nencs])
  have HEnc := Lib.hid (rsenc_any fsup w fsup_ok)
  generalize hn : es.length = n at *
  clear h hok hn
  generalize es.map (·.1) = K at *
  go_enter Try.func11, Try.ntmps11
  go_wp2_with fail
  refine HEnc.out.mono ?_; rintro e w1 ⟨v1, rfl, hown, hb⟩
  have HO1 := Lib.hid hown
  have HB1 := Lib.hid hb
  clear hown hb HEnc
  go_wp2_with fail
  go_loopw [4, 6, 17] (fun bv nv iv W => ∃ (i m : Nat), iv = .int .i64 (i : Int) ∧ i ≤ n ∧ m ≤ 60000 ∧ Hid (m = (fileB (K.take i)).length) ∧ Hid (W.ownsRow w.heap.size 5 1 bv m ((fileB (K.take i)).map byteV)) ∧ Hid (W.ownsRow w.heap.size 2 1 nv i ((endsF (K.take i)).map intV)) ∧ Hid (Below w.heap.size w W)) (fun _ _ iv _ => n - (intOf iv).toNat)
  case atStart => exact ⟨0, _, rfl, Nat.zero_le _, HLe.out 0, Lib.hid rfl, Lib.hid (by rw [H0.out]; exact HO1.out), Lib.hid (World.ownsRow_nil _ _ _ _), HB1⟩
  case round =>
    obtain ⟨i, m, rfl, hi, hm, HmE, HOb, HOn, HB⟩ := hrel
    have hsz := HB.out.size
    by_cases hin : i < n
    · have hr := Hw0.out.below HB.out
      obtain ⟨pb, poff, rfl, hx, c0, c1, c2, c3⟩ := hr.at hin
      obtain ⟨hko, hkw⟩ := HK.out _ (HM.out i hin)
      obtain ⟨HS1, HS2⟩ := HS.out i hin
      have HS1 := Lib.hid HS1
      have HS2 := Lib.hid HS2
      clear hr
      generalize nat' es i = X at *
      obtain ⟨x, dv⟩ := X
      dsimp only at *
      have HEn := Lib.hid (rnenc_any x dv wr hko hkw hx)
      have hbd := nsz_bounds x.data.length
      have hx1 := hko.1
      have HNl := Lib.hid (nenc_length x)
      obtain ⟨_, _, hdv, _, _⟩ := hx.shape0
      subst hdv
      have i1 : (i : Int) < (n : Int) := by omega
      clear hx hko hkw
      go_wp2_with fail
      refine HEn.out.mono ?_; rintro e w2 ⟨v2, rfl, hown2, hb2⟩
      have HOb2 := Lib.hid (own_keep HOb.out hb2)
      have HOn2 := Lib.hid (own_keep HOn.out hb2)
      have HB2 := Lib.hid (bup HB.out hsz hb2)
      have hs2 := HB2.out.size
      generalize hN : nsz x.data.length = s at *
      have HR2 := Lib.hid (show Rd w2 1 v2 s ((nenc x).map byteV) by have := hown2.rd; unfold RdB RdL at this; rw [HNl.out] at this; exact this)
      clear hown2 hb2 c0 c1 c2 c3 HEn hN
      go_wp2_with (first | (at_builtin; refine wpList_app (n := m) (m := s) rfl (.tmp 28) (.tmp 29) 23 rfl elemB w.heap.size rfl HOb2.out rfl HR2.out (bytes_one _) (by unfold maxLen; omega) (by omega) hs2 ?_; intro v3 w3 hown3 hgr3 hv3; clear hv3; have HOb3 := Lib.hid (show w3.ownsRow w.heap.size 5 1 v3 (m + s) ((fileB (K.take (i + 1))).map byteV) by (rw [HS1.out, List.map_append]; exact hown3)); have HB3 := Lib.hid (own_below HB2.out HOb2.out hs2 hgr3); have HOn3 := Lib.hid (HOn2.out.kept hgr3 (own_ne HOn2.out HOb2.out (by decide))); have hs3 := HB3.out.size; obtain ⟨oa3, oc3, hv3, _⟩ := own_form HOb3.out; subst hv3; clear hown3 hgr3) | (at_builtin; go_must (refine wpList_app (n := i) (m := 1) rfl (.tmp 31) (.tmp 34) 25 rfl elemI6 w.heap.size rfl (own_keep HOn3.out ((Below.refl _ _).alloc (Nat.le_refl _) _)) rfl (rd_int _ ((m : Int) + (s : Int)) 2) (one_map intV (fun _ => rfl) _) (by unfold maxLen; omega) (by omega) (by simp; omega) ?_); intro v4 w4 hown4 hgr4 hv4; clear hv4))
      have HSz := Lib.hid (show (fileB (K.take (i + 1))).length = m + s by rw [HS1.out, List.length_append, HNl.out, ← HmE.out])
      have hm3 : m + s ≤ 60000 := by have := HLe.out (i + 1); rw [HSz.out] at this; exact this
      have HOn4 := Lib.hid (show w4.ownsRow w.heap.size 2 1 v4 (i + 1) ((endsF (K.take (i + 1))).map intV) by rw [HS2.out, HSz.out, List.map_append, Int.natCast_add]; exact hown4)
      have HAl := Lib.hid (show Below w3.heap.size w3 (w3.alloc (.cells #[.int .i64 ((m : Int) + (s : Int))] 2)) from (Below.refl _ _).alloc (Nat.le_refl _) _)
      have HB4 := Lib.hid (own_below (bup HB3.out hs3 HAl.out) (own_keep HOn3.out HAl.out) (Nat.le_trans hs3 HAl.out.size) hgr4)
      have HOb4 := Lib.hid ((own_keep HOb3.out HAl.out).kept hgr4 (own_ne (own_keep HOb3.out HAl.out) (own_keep HOn3.out HAl.out) (by decide)))
      clear hown4 hgr4
      go_wp2_with fail
      exact ⟨⟨i + 1, m + s, by go_num, by omega, hm3, Lib.hid HSz.out.symm, HOb4, HOn4, HB4⟩, by simp [intOf]; omega⟩
    · obtain rfl : i = n := by omega
      go_wp2_with fail
      go_ret2
      exact ⟨_, _, rfl, by have := HOb.out; rw [HE.out] at this; exact ownB_of this rfl, by have := HOn.out; rw [HE.out] at this; exact this, HB.out⟩
end Go.Proofs.Ytecflhklpkjhcaa
