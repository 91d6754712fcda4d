/- scan.Items: the walk. -/
import Derived.Test.YtecflhklpkjhcaaLs
import Derived.Test.YtecflhklpkjhcaaPm
import Derived.Test.YtecflhklpkjhcaaSv
namespace Go.Proofs.Ytecflhklpkjhcaa
open Go.RowKit Go.Maps

def itR (r : Rec) : It := ⟨(r.nd.key : Int), (r.nd.ck : Int), r.off, (r.nd.data.length : Int)⟩
/-- The items of the records that are live, f telling which record of a key is the last. -/
def liveT (f : Nat → Nat) : List Rec → Nat → List It
  | [], _ => []
  | r :: l, i => (if f r.nd.key = i ∧ r.nd.del = false then [itR r] else []) ++ liveT f l (i + 1)
theorem liveT_snoc (f : Nat → Nat) : ∀ (l : List Rec) (r : Rec) (i : Nat), liveT f (l ++ [r]) i = liveT f l i ++ (if f r.nd.key = i + l.length ∧ r.nd.del = false then [itR r] else [])
  | [], r, i => by simp [liveT]
  | x :: l, r, i => by
    show _ ++ liveT f (l ++ [r]) (i + 1) = _
    rw [liveT_snoc f l r (i + 1), List.length_cons, show i + 1 + l.length = i + (l.length + 1) by omega]
    show _ = _ ++ liveT f l (i + 1) ++ _
    rw [List.append_assoc]
theorem liveT_length (f : Nat → Nat) : ∀ (l : List Rec) (i : Nat), (liveT f l i).length ≤ l.length
  | [], _ => Nat.le_refl _
  | x :: l, i => by
    have := liveT_length f l (i + 1)
    show (_ ++ liveT f l (i + 1)).length ≤ _
    rw [List.length_append, List.length_cons]
    split <;> simp <;> omega
/-- The items of records. -/
def itemsP (l : List Rec) : List It := srt (liveT (lastI (keysR l)) l 0)
theorem mrg_nil (l : List It) : mrg [] l [] = srt l := by
  unfold mrg
  rw [srt_nil]
  show srt ([] ++ srt l) = _
  rw [List.nil_append, srt_of_asc (srt_asc l)]
theorem itsC_of1 (r : Rec) : itsC [itR r] = [.int .u64 (r.nd.key : Int), .int .u32 (r.nd.ck : Int), .int .i64 r.off, .int .i64 (r.nd.data.length : Int)] := rfl
set_option maxRecDepth 100000 in
set_option maxHeartbeats 8000000 in
theorem items_any (v : Value) (es : List (Rec × Value)) (w : World) (h : RdR w v es) (hk : ∀ p ∈ es, p.1.nd.key < 18446744073709551616) (hs : es.length ≤ 50000) :
    Calls Try.prog 17 #[v] w fun e w' => ∃ lv, e = .returned lv ∧ OwnT w' w.heap.size lv (itemsP (es.map (·.1))) ∧ Below w.heap.size w w' := by
  obtain ⟨a, cap, rfl, h1, h2⟩ := h.shape
  have Hw0 := Lib.hid h
  have HK := Lib.hid hk
  have HLa := Lib.hid (last_any _ es w h hk (by omega))
  have HM := Lib.hid (show ∀ j, j < es.length → rat es j ∈ es from fun j => rat_mem)
  have HIP := Lib.hid (show itemsP (es.map (·.1)) = srt (liveT (lastI (keysR (es.map (·.1)))) (es.map (·.1)) 0) from rfl)
  generalize lastI (keysR (es.map (·.1))) = f at *
  have HS := Lib.hid (show ∀ j, j < es.length → liveT f ((es.map (·.1)).take (j + 1)) 0 = liveT f ((es.map (·.1)).take j) 0 ++ (if f (rat es j).1.nd.key = j ∧ (rat es j).1.nd.del = false then [itR (rat es j).1] else []) from fun j hj => by
    have hl : (es.map (·.1)).length = es.length := List.length_map ..
    rw [List.take_add_one, List.getElem?_eq_getElem (by omega), Option.toList_some, liveT_snoc, List.length_take, Nat.min_eq_left (by omega), Nat.zero_add]
    have : (es.map (·.1))[j]'(by omega) = (rat es j).1 := by
      unfold rat
      simp [List.getD_eq_getElem?_getD, List.getElem?_eq_getElem hj]
    rw [this])
  have HE := Lib.hid (show (es.map (·.1)).take es.length = es.map (·.1) from List.take_of_length_le (by simp))
  have HLn := Lib.hid (show ∀ j, (liveT f ((es.map (·.1)).take j) 0).length ≤ j from fun j => Nat.le_trans (liveT_length f _ 0) (by rw [List.length_take]; omega))
  generalize hn : es.length = n at *
  clear h hk hn
  generalize itemsP (es.map (·.1)) = R at *
  generalize es.map (·.1) = L at *
  go_enter Try.func17, Try.ntmps17
  go_wp2_with fail
  refine HLa.out.mono ?_; rintro e w1 ⟨rfl, hmp, hb1⟩
  have hlt1 : w.heap.size < w1.heap.size := by
    obtain ⟨D, ⟨es', c, hh, _⟩, _⟩ := hmp
    exact (Array.getElem?_eq_some_iff.1 hh).1
  have HMp := Lib.hid hmp
  have HB1 := Lib.hid hb1
  clear hmp hb1 HLa
  go_wp2_with fail
  go_loopw [4, 12] (fun ov iv W => ∃ i m : Nat, iv = .int .i64 (i : Int) ∧ i ≤ n ∧ m ≤ i ∧ Hid (m = (liveT f (L.take i) 0).length) ∧ Hid (W.ownsRow w1.heap.size 50 4 ov m (itsC (liveT f (L.take i) 0))) ∧ Hid (Below w1.heap.size w1 W)) (fun _ iv _ => n - (intOf iv).toNat)
  case atStart => exact ⟨0, 0, by rfl, Nat.zero_le _, Nat.le_refl _, Lib.hid rfl, Lib.hid (World.ownsRow_nil _ _ _ _), Lib.hid (Below.refl _ _)⟩
  case round =>
    obtain ⟨i, m, rfl, hi, hmi, Hm, HO, HB⟩ := hrel
    have hsz := HB.out.size
    by_cases hin : i < n
    · have hr := Hw0.out.below (bstep HB1.out HB.out)
      obtain ⟨pb, poff, rfl, hd, c0, c1, c2, c3, c4⟩ := hr.at hin
      have hkk := HK.out _ (HM.out i hin)
      have HSi := Lib.hid (HS.out i hin)
      clear hr
      generalize rat es i = X at *
      obtain ⟨⟨off, x⟩, dv⟩ := X
      dsimp only at *
      obtain ⟨da, dc, hdv, _, _⟩ := hd.shape0
      subst hdv
      obtain ⟨D, hD, hat⟩ := HMp.out.below hlt1 HB.out
      have HD := Lib.hid hD
      have HAt := Lib.hid (hat x.key hkk)
      have i1 : (i : Int) < (n : Int) := by omega
      clear hd hD hat
      have hkey : keyOf Try.prog 28 (.int .u64 (x.key : Int)) = some (.int .u64 (x.key : Int)) := keyOf_int_mk Try.underlying28 (wf_key hkk)
      generalize hg : f x.key = g at *
      obtain ⟨xk, xc, xd, xl⟩ := x
      dsimp only at *
      generalize hl : xl.length = l at *
      by_cases hgi : g = i
      · have q1 : ((g : Int) == (i : Int)) = true := beq_iff_eq.2 (by omega)
        cases xd
        · have HN := Lib.hid (show liveT f (L.take (i + 1)) 0 = liveT f (L.take i) 0 ++ [itR ⟨off, ⟨xk, xc, false, xl⟩⟩] by rw [HSi.out, if_pos ⟨hgi, rfl⟩])
          have HIt := Lib.hid (show itsC [itR ⟨off, ⟨xk, xc, false, xl⟩⟩] = [.int .u64 (xk : Int), .int .u32 (xc : Int), .int .i64 off, .int .i64 (l : Int)] by rw [← hl]; rfl)
          have HBa := Lib.hid (show Below wr.heap.size wr ((wr.alloc (.cells #[.int .i64 off, .int .u64 (xk : Int), .int .u32 (xc : Int), .bool false, .slice da l dc] 43)).alloc (.cells #[.int .u64 (xk : Int), .int .u32 (xc : Int), .bool false, .slice da l dc] 31)) from ((Below.refl _ _).alloc (Nat.le_refl _) _).alloc (by simp) _)
          have hnlen : (([.int .u64 (xk : Int), .int .u32 (xc : Int), .int .i64 off, .int .i64 (l : Int)] : List Value)).length = 1 * 4 := rfl
          have HON := Lib.hid (show ∀ u ∈ ([.int .u64 (xk : Int), .int .u32 (xc : Int), .int .i64 off, .int .i64 (l : Int)] : List Value), u.oneCell' = true by rw [← HIt.out]; exact itsC_one' _)
          clear hl hg HSi hgi
          go_wp2_with (first | (at_lookup; refine wpList_lookup_own_int _ rfl _ _ 83 rfl 28 3 .i64 lawK Try.underlying83 Try.underlying3 (zeroI _) w.heap.size n _ rfl ((HD.out.alloc _).alloc _) _ _ rfl hkey ?_; intro c hat hwc; have hc := hat.symm.trans HAt.out; injection hc with hc; injection hc with _ hc; subst hc; clear hat hwc) | (at_builtin; go_must (refine wpList_app (n := m) (m := 1) rfl (.tmp 30) (.tmp 41) 47 rfl elemT w1.heap.size rfl (own_keep HO.out (HBa.out.alloc (by simp; omega) _)) (by rfl) (Rd.newK (wr.heap.size + 1 + 1) ((wr.alloc (.cells #[.int .i64 off, .int .u64 (xk : Int), .int .u32 (xc : Int), .bool false, .slice da l dc] 43)).alloc (.cells #[.int .u64 (xk : Int), .int .u32 (xc : Int), .bool false, .slice da l dc] 31)) (by simp) 4 _ 50 1 hnlen (by decide)) HON.out (by unfold maxLen; omega) (by omega) (by simp; omega) ?_); intro v4 w4 hown4 hgr4 hv4; clear hv4))
          have HAl := Lib.hid (HBa.out.alloc (by simp; omega) (.cells ([.int .u64 (xk : Int), .int .u32 (xc : Int), .int .i64 off, .int .i64 (l : Int)] : List Value).toArray 50))
          have hs8 := Nat.le_trans hsz HAl.out.size
          have HB4 := Lib.hid (own_below (bup HB.out hsz HAl.out) (own_keep HO.out HAl.out) hs8 hgr4)
          have HO4 := Lib.hid (show w4.ownsRow w1.heap.size 50 4 v4 (m + 1) (itsC (liveT f (L.take (i + 1)) 0)) by rw [HN.out, itsC_append, HIt.out]; exact hown4)
          clear hown4 hgr4
          go_wp2_with fail
          exact ⟨⟨i + 1, m + 1, by go_num, by omega, by omega, Lib.hid (by rw [HN.out, List.length_append, ← Hm.out]; rfl), HO4, HB4⟩, by simp [intOf]; omega⟩
        · have HN := Lib.hid (show liveT f (L.take (i + 1)) 0 = liveT f (L.take i) 0 by rw [HSi.out, if_neg (by simp), List.append_nil])
          have HBa := Lib.hid (show Below wr.heap.size wr ((wr.alloc (.cells #[.int .i64 off, .int .u64 (xk : Int), .int .u32 (xc : Int), .bool true, .slice da l dc] 43)).alloc (.cells #[.int .u64 (xk : Int), .int .u32 (xc : Int), .bool true, .slice da l dc] 31)) from ((Below.refl _ _).alloc (Nat.le_refl _) _).alloc (by simp) _)
          clear hl hg HSi hgi
          go_wp2_with (first | (at_lookup; refine wpList_lookup_own_int _ rfl _ _ 83 rfl 28 3 .i64 lawK Try.underlying83 Try.underlying3 (zeroI _) w.heap.size n _ rfl ((HD.out.alloc _).alloc _) _ _ rfl hkey ?_; intro c hat hwc; have hc := hat.symm.trans HAt.out; injection hc with hc; injection hc with _ hc; subst hc; clear hat hwc))
          exact ⟨⟨i + 1, m, by go_num, by omega, by omega, Lib.hid (by rw [HN.out]; exact Hm.out), Lib.hid (by rw [HN.out]; exact own_keep HO.out HBa.out), Lib.hid (bup HB.out hsz HBa.out)⟩, by simp [intOf]; omega⟩
      · have q1 : ((g : Int) == (i : Int)) = false := beq_eq_false_iff_ne.2 (by omega)
        have HN := Lib.hid (show liveT f (L.take (i + 1)) 0 = liveT f (L.take i) 0 by rw [HSi.out, if_neg (fun e => hgi e.1), List.append_nil])
        have HBa := Lib.hid (show Below wr.heap.size wr ((wr.alloc (.cells #[.int .i64 off, .int .u64 (xk : Int), .int .u32 (xc : Int), .bool xd, .slice da l dc] 43)).alloc (.cells #[.int .u64 (xk : Int), .int .u32 (xc : Int), .bool xd, .slice da l dc] 31)) from ((Below.refl _ _).alloc (Nat.le_refl _) _).alloc (by simp) _)
        clear hl hg HSi hgi
        go_wp2_with (first | (at_lookup; refine wpList_lookup_own_int _ rfl _ _ 83 rfl 28 3 .i64 lawK Try.underlying83 Try.underlying3 (zeroI _) w.heap.size n _ rfl ((HD.out.alloc _).alloc _) _ _ rfl hkey ?_; intro c hat hwc; have hc := hat.symm.trans HAt.out; injection hc with hc; injection hc with _ hc; subst hc; clear hat hwc))
        exact ⟨⟨i + 1, m, by go_num, by omega, by omega, Lib.hid (by rw [HN.out]; exact Hm.out), Lib.hid (by rw [HN.out]; exact own_keep HO.out HBa.out), Lib.hid (bup HB.out hsz HBa.out)⟩, by simp [intOf]; omega⟩
    · obtain rfl : i = n := by omega
      have HF := Lib.hid (show OwnT wr w1.heap.size u4 (liveT f L 0) by have := HO.out; rw [HE.out] at this; exact ownT_of this rfl)
      have hll := HLn.out i
      rw [HE.out] at hll
      have HMg := Lib.hid (merge_any (.slice none 0 0) u4 (.slice none 0 0) [] (liveT f L 0) [] wr (rd_rdT (own_rd (World.ownsRow_nil wr 0 50 4))) HF.out.rd (own_rdl (World.ownsRow_nil wr 0 28 1)) (sorted_all _ (by simp)) (sorted_all _ (by omega)) (sorted_all _ (by have := srt_length (liveT f L 0); rw [List.length_append]; have h0 := kept_length [] (srt []); rw [srt_nil] at h0 ⊢; simp at h0; simp [h0]; omega)) (by simp) (by omega))
      rw [mrg_nil, ← HIP.out] at HMg
      go_wp2_with fail
      refine HMg.out.mono ?_; rintro e w5 ⟨v5, rfl, hown5, hb5⟩
      have HO5 := Lib.hid (hown5.mono (show w.heap.size ≤ wr.heap.size by omega))
      have HB5 := Lib.hid (bstep (bstep HB1.out HB.out) hb5)
      clear hown5 hb5
      go_wp2_with fail
      go_ret
      exact ⟨_, rfl, HO5.out, HB5.out⟩
end Go.Proofs.Ytecflhklpkjhcaa
