/- The walks over sorted, of ascending lists, search and Find. -/
import Derived.Test.YtenkeodfijladaaGreatDoorMk
namespace Go.Proofs.YtenkeodfijladaaGreatDoor
open Go.RowKit

set_option maxHeartbeats 400000 in
theorem clone_any (v : Value) (l : List It) (w : World) (h : RdT w v l) (hs : l.length ≤ 1000000) :
    Calls Tryz.prog 87 #[v] w fun e w' => ∃ v', e = .returned v' ∧ OwnT w' w.heap.size v' l ∧ Below w.heap.size w w' := by
  obtain ⟨a, cap, rfl, h1, h2⟩ := h.shape
  have q22 : ∀ (w : World) (a : Option Addr) (n c n' c' : Nat), (binOp .eql 22 (.slice a n c) (.slice none n' c')).run Tryz.prog w = .ok (.bool a.isNone) w := fun w a n c n' c' => Lib.run_eql_slice_nil w _ _ a n c n' c' Tryz.underlying22
  cases a with
  | none =>
    have h0 : l = [] := by
      obtain ⟨_, a', cap', e, _, _, h5, _⟩ := h.2
      injection e with e1 e2 e3
      have := h5 e1.symm
      exact List.length_eq_zero_iff.1 (by omega)
    subst h0
    clear h
    go_enter Tryz.func87, Tryz.ntmps87
    go_wp2_with fail
    go_ret
    exact ⟨_, rfl, World.ownsRow_nil _ _ _ _, Below.refl _ _⟩
  | some p =>
    have Hr := Lib.hid (rdT_rd h)
    generalize hn : l.length = n at *
    clear h
    go_enter Tryz.func87, Tryz.ntmps87
    go_wp2_with (at_builtin; go_must (refine wpList_app rfl (.tmp 5) (.tmp 6) 22 rfl elemT w.heap.size rfl (World.ownsRow_made (size := 4) _ #[] 0 (Nat.le_refl _) (by decide) rfl) rfl (Hr.out.alloc _) (itsC_one' _) (by unfold maxLen; omega) (by omega) (by simp) ?_); intro v3 w3 hown3 hgr3 hv3; clear hv3)
    have HB := Lib.hid (own_below ((Below.refl w.heap.size w).alloc (Nat.le_refl _) _) (World.ownsRow_made (e := 77) (size := 4) w #[] 0 (Nat.le_refl _) (by decide) rfl) (by simp) hgr3)
    have HO := Lib.hid (ownT_of hown3 (List.nil_append _))
    clear hown3 hgr3
    go_wp2_with fail
    go_ret
    exact ⟨_, rfl, HO.out, HB.out⟩
/-- sorted answers for the list l. -/
def SortedOk (l : List It) : Prop := ∀ (v : Value) (w : World), RdT w v l → Calls Tryz.prog 88 #[v] w fun e w' => ∃ v', e = .returned v' ∧ OwnT w' w.heap.size v' (srt l) ∧ Below w.heap.size w w'
set_option maxHeartbeats 400000 in
theorem sorted_asc (l : List It) (ha : Asc l) (hs : l.length ≤ 1000000) : SortedOk l := by
  intro v w h
  have HC := Lib.hid (clone_any v l w h hs)
  have HA := Lib.hid (fun v w h => asc_any v l w h)
  rw [(asc_iff l).2 ha] at HA
  have HS := Lib.hid (srt_of_asc ha)
  obtain ⟨a, cap, rfl, h1, h2⟩ := h.shape
  clear h ha
  go_enter Tryz.func88, Tryz.ntmps88
  go_wp2_with fail
  refine HC.out.mono ?_; rintro e w1 ⟨v1, rfl, hown1, hb1⟩
  have HO := Lib.hid hown1
  have HB := Lib.hid hb1
  clear hown1 hb1
  go_wp2_with fail
  refine (HA.out _ _ HO.out.rd).mono ?_; rintro e w2 ⟨rfl, hb2⟩
  have HO2 := Lib.hid (own_keep HO.out hb2)
  have HB2 := Lib.hid (bstep HB.out hb2)
  clear hb2
  go_wp2_with fail
  go_ret
  exact ⟨_, rfl, by rw [HS.out]; exact HO2.out, HB2.out⟩
/-- What search's closure has captured. -/
structure SrCtx (w : World) (lb kb : Nat) (a : Option Addr) (n cap : Nat) (l : List It) (key : Int) : Prop where
  lv : w.cell? ⟨lb, 0, none⟩ = some (.slice a n cap)
  kv : w.cell? ⟨kb, 0, none⟩ = some (.int .u64 key)
  rd : RdT w (.slice a n cap) l
theorem SrCtx.below {w w' : World} {lb kb : Nat} {a : Option Addr} {n cap : Nat} {l : List It} {key : Int} (h : SrCtx w lb kb a n cap l key) (hb : Below w.heap.size w w') : SrCtx w' lb kb a n cap l key :=
  ⟨Below.keeps hb _ _ h.lv, Below.keeps hb _ _ h.kv, h.rd.below hb⟩
set_option maxHeartbeats 400000 in
theorem sr1_any (i lb kb : Nat) (a : Option Addr) (n cap : Nat) (l : List It) (key : Int) (w : World) (h : SrCtx w lb kb a n cap l key) (hi : i < n) (_hn : n ≤ 1000000) :
    Calls Tryz.prog 120 #[.int .i64 (i : Int), .pointer (some ⟨lb, 0, none⟩), .pointer (some ⟨kb, 0, none⟩)] w fun e w' => e = .returned (.bool (decide (key ≤ (iat l i).key))) ∧ Below w.heap.size w w' := by
  obtain ⟨h1, h2, h3⟩ := h
  obtain ⟨b, off, rfl, c0, _⟩ := h3.at hi
  generalize (iat l i).key = x at *
  have i1 : (i : Int) < (n : Int) := by omega
  clear h3
  go_enter Tryz.func120, Tryz.ntmps120
  go_wp2_with fail
  go_quiet (fail)
  go_wp2_with fail
  go_ret
  exact ⟨rfl, below_drewN (Below.refl _ _) _⟩
set_option maxHeartbeats 400000 in
theorem ssearch_any (lb kb : Nat) (a : Option Addr) (n cap : Nat) (l : List It) (key : Int) (w : World) (h : SrCtx w lb kb a n cap l key) (hn : n ≤ 1000000) :
    Calls Tryz.prog 119 #[.int .i64 (n : Int), .func (.func 120) #[] #[.pointer (some ⟨lb, 0, none⟩), .pointer (some ⟨kb, 0, none⟩)]] w fun e w' =>
      (∃ r : Nat, e = .returned (.int .i64 (r : Int)) ∧ r ≤ n ∧ (∀ j, r = j + 1 → (iat l j).key < key) ∧ (r < n → key ≤ (iat l r).key)) ∧ Below w.heap.size w w' := by
  have H := Lib.hid h
  clear h
  go_enter Tryz.func119, Tryz.ntmps119
  go_wp2_with fail
  go_loopw [5, 6] (fun iv jv wr => ∃ i j : Nat, iv = .int .i64 (i : Int) ∧ jv = .int .i64 (j : Int) ∧ i ≤ j ∧ j ≤ n ∧ (∀ k, i = k + 1 → (iat l k).key < key) ∧ (j < n → key ≤ (iat l j).key) ∧ Below w.heap.size w wr) (fun iv jv _ => (intOf jv - intOf iv).toNat)
  case atStart => exact ⟨0, n, rfl, rfl, Nat.zero_le _, Nat.le_refl _, fun k hk => by omega, fun h => by omega, Below.refl _ _⟩
  case round =>
    obtain ⟨i, j, rfl, rfl, hij, hj, hlo, hhi, hb⟩ := hrel
    have HL := Lib.hid hlo
    have HH := Lib.hid hhi
    have Hb := Lib.hid hb
    clear hlo hhi hb
    by_cases hlt : i < j
    · obtain ⟨m, hm, hm1, hm2⟩ : ∃ m : Nat, (i + j) / 2 = m ∧ i ≤ m ∧ m < j := ⟨(i + j) / 2, rfl, by omega, by omega⟩
      have HC := Lib.hid (fun W hW => sr1_any m lb kb a n cap l key W (H.out.below hW) (by omega) hn)
      have hmi : ((i : Int) + (j : Int)) / 2 = (m : Int) := by omega
      have HMi := Lib.hid hm
      clear hm
      generalize hq : decide (key ≤ (iat l m).key) = q at *
      have HQ := Lib.hid hq
      clear hq
      go_wp2_with fail
      refine (HC.out _ Hb.out).mono ?_; rintro e w1 ⟨rfl, hb1⟩
      have Hb1 := Lib.hid (bstep Hb.out hb1)
      clear hb1
      cases q
      · go_wp2_with fail
        refine ⟨⟨m + 1, j, by go_num, rfl, by omega, hj, fun k hk => ?_, HH.out, Hb1.out⟩, by simp [intOf]; omega⟩
        obtain rfl : m = k := by omega
        have := of_decide_eq_false HQ.out
        omega
      · go_wp2_with fail
        exact ⟨⟨i, m, rfl, rfl, hm1, by omega, HL.out, fun _ => of_decide_eq_true HQ.out, Hb1.out⟩, by simp [intOf]; omega⟩
    · obtain rfl : i = j := by omega
      go_wp2_with fail
      go_ret
      exact ⟨⟨i, rfl, hj, HL.out, HH.out⟩, Hb.out⟩
set_option maxHeartbeats 400000 in
theorem search_any (v : Value) (l : List It) (key : Int) (w : World) (h : RdT w v l) (hs : l.length ≤ 1000000) :
    Calls Tryz.prog 89 #[v, .int .u64 key] w fun e w' => (∃ r : Nat, Place l key r ∧ e = .returned (.tuple #[.int .i64 (r : Int), .bool (decide (r < l.length ∧ (iat l r).key = key))])) ∧ Below w.heap.size w w' := by
  obtain ⟨a, cap, rfl, h1, h2⟩ := h.shape
  have HP := Lib.hid (show ∀ r, r ≤ l.length → (∀ j, r = j + 1 → (iat l j).key < key) → (r < l.length → key ≤ (iat l r).key) → Place l key r from fun r a b c => ⟨a, b, c⟩)
  generalize hn : l.length = n at *
  have Hr := Lib.hid h
  have HW := Lib.hid (show Below w.heap.size w ((w.alloc (.cells #[.slice a n cap] 22)).alloc (.cells #[.int .u64 key] 32)) from ((Below.refl _ _).alloc (Nat.le_refl _) _).alloc (by simp) _)
  have HC := Lib.hid (ssearch_any w.heap.size (w.heap.size + 1) a n cap l key ((w.alloc (.cells #[.slice a n cap] 22)).alloc (.cells #[.int .u64 key] 32)) ⟨by simp, by simp, Hr.out.below HW.out⟩ hs)
  have HX := Lib.hid (show SrCtx ((w.alloc (.cells #[.slice a n cap] 22)).alloc (.cells #[.int .u64 key] 32)) w.heap.size (w.heap.size + 1) a n cap l key from ⟨by simp, by simp, Hr.out.below HW.out⟩)
  clear h hn h1 h2
  go_enter Tryz.func89, Tryz.ntmps89
  go_wp2_with fail
  refine HC.out.mono ?_; rintro e w1 ⟨⟨r, rfl, r1, r2, r3⟩, hb1⟩
  have HR := Lib.hid (HP.out r r1 r2 r3)
  obtain ⟨x1, x2, x3⟩ := HX.out.below hb1
  have Hb1 := Lib.hid (bstep HW.out hb1)
  clear hb1 r2 r3
  by_cases hrn : r < n
  · obtain ⟨b, off, rfl, c0, _⟩ := x3.at hrn
    have i1 : (r : Int) < (n : Int) := by omega
    have HE := Lib.hid (show ((iat l r).key == key) = decide (r < n ∧ (iat l r).key = key) by rw [Bool.eq_iff_iff]; simp [hrn])
    generalize hy : (iat l r).key = y at *
    have HY := Lib.hid hy
    clear x3 hy
    go_wp2_with fail
    go_quiet (fail)
    go_wp2_with fail
    go_ret2
    exact ⟨⟨r, HR.out, ret_ib (by rw [HY.out]; exact HE.out)⟩, below_drewN Hb1.out _⟩
  · obtain rfl : r = n := by omega
    have HE := Lib.hid (show false = decide (r < r ∧ (iat l r).key = key) by simp)
    clear x3
    go_wp2_with fail
    go_quiet (fail)
    go_wp2_with fail
    go_ret2
    exact ⟨⟨r, HR.out, ret_ib HE.out⟩, below_drewN Hb1.out _⟩
set_option maxHeartbeats 400000 in
theorem find_any (v : Value) (l : List It) (key : Int) (w : World) (h : RdT w v l) (hk : SortedOk l) (hs : l.length ≤ 1000000) :
    Calls Tryz.prog 64 #[v, .int .u64 key] w fun e w' => e = .returned (.tuple #[itV ((fnd (srt l) key).getD it0), .bool (fnd (srt l) key).isSome]) ∧ Below w.heap.size w w' := by
  have HS := Lib.hid (fun w h => hk v w h)
  have hlen := srt_length l
  have HA := Lib.hid (srt_asc l)
  have HF := Lib.hid (fun v w h => search_any v (srt l) key w h (by omega))
  have Hr := Lib.hid h
  obtain ⟨a, cap, rfl, _, _⟩ := h.shape
  generalize srt l = s at *
  have HW := Lib.hid (show Below w.heap.size w (w.alloc (.cells #[.int .u64 0, .int .u32 0, .int .i64 0, .int .i64 0] 77)) from (Below.refl _ _).alloc (Nat.le_refl _) _)
  have hW : (w.alloc (.cells #[.int .u64 0, .int .u32 0, .int .i64 0, .int .i64 0] 77)).heap.size = w.heap.size + 1 := by simp
  clear h hk
  go_enter Tryz.func64, Tryz.ntmps64
  go_wp2_with fail
  refine (HS.out _ (Hr.out.below HW.out)).mono ?_; rintro e w1 ⟨v1, rfl, hown1, hb1⟩
  have HO := Lib.hid hown1
  have HB := Lib.hid hb1
  clear hown1 hb1
  go_wp2_with fail
  refine (HF.out _ _ HO.out.rd).mono ?_; rintro e w2 ⟨⟨r, hp, rfl⟩, hb2⟩
  have HB2 := Lib.hid (HB.out.trans (hb2.mono HB.out.size))
  have g : ∀ i u, (w.alloc (.cells #[.int .u64 0, .int .u32 0, .int .i64 0, .int .i64 0] 77)).cell? ⟨w.heap.size, i, none⟩ = some u → w2.cell? ⟨w.heap.size, i, none⟩ = some u := fun i u hu => (HB2.out.cell (p := ⟨w.heap.size, i, none⟩) (by simp)).trans hu
  have f : ∀ i, w2.frozen? ⟨w.heap.size, i, none⟩ = false := fun i => (HB2.out.frozen (p := ⟨w.heap.size, i, none⟩) (by simp)).trans (by simp)
  have g0 := g 0 _ (by simp; rfl)
  have g1 := g 1 _ (by simp; rfl)
  have g2 := g 2 _ (by simp; rfl)
  have g3 := g 3 _ (by simp; rfl)
  have f0 := f 0
  have f1 := f 1
  have f2 := f 2
  have f3 := f 3
  have hs2 : w.heap.size < w2.heap.size := by have := HB2.out.size; omega
  have HD2 := Lib.hid (show Below w.heap.size w w2 from HW.out.trans (HB2.out.mono (by omega)))
  have HRs := Lib.hid (HO.out.rd.below hb2)
  have HP := Lib.hid hp
  clear g f hb2 hp hW
  by_cases hy : r < s.length ∧ (iat s r).key = key
  · have HFd := Lib.hid (HP.out.found HA.out hy.1 hy.2)
    rw [decide_eq_true hy]
    obtain ⟨_, cv, rfl, _, _⟩ := HRs.out.shape
    obtain ⟨b, off, rfl, c0, c1, c2, c3⟩ := HRs.out.at hy.1
    have hrl := hy.1
    generalize hx : iat s r = x at *
    have HX := Lib.hid hx
    clear hx hy
    go_wp2_with fail
    exact bodyPost_ret (v := .tuple #[itV x, .bool true]) (by simp [results, Tryz.results64, go_sem, g0, g1, g2, g3]) rfl ⟨by rw [HFd.out]; rfl, ((((HD2.out.setCell (Nat.le_refl _) _).setCell (Nat.le_refl _) _).setCell (Nat.le_refl _) _).setCell (Nat.le_refl _) _)⟩
  · have HFd := Lib.hid (HP.out.not HA.out (fun h h' => hy ⟨h, h'⟩))
    rw [decide_eq_false hy]
    clear hy
    go_wp2_with fail
    exact bodyPost_ret (v := .tuple #[itV it0, .bool false]) (by simp [results, Tryz.results64, go_sem, g0, g1, g2, g3, it0]) rfl ⟨by rw [HFd.out]; rfl, ((((HD2.out.setCell (Nat.le_refl _) _).setCell (Nat.le_refl _) _).setCell (Nat.le_refl _) _).setCell (Nat.le_refl _) _)⟩
end Go.Proofs.YtenkeodfijladaaGreatDoor
