/- Several texts in one, each over the last: Generations stay valid, plain. No program here. The law's small, told, light, made; the reference's Same: the walks. Printed by genHo.py. A region that draws its order, by what each operation leaves, where one operation of the head may come behind the first of the tail: `x, e := f(..)` where x is a cell: the second extract may come behind the store. Boxes with their types, beside maps of the call's own; what operations of a drawn region leave. -/
import Derived.Test.YtenkeodfijladaaGreatDoorGN
import Derived.Test.YtenkeodfijladaaGreatDoorGC
import Derived.Test.YtenkeodfijladaaGreatDoorGL
import Derived.Laws.Bits128
import Derived.Test.YtenkeodfijladaaGreatDoorGI
import Derived.OneCell
namespace Go.Proofs.YtenkeodfijladaaGreatDoor

theorem mem_itemsM {M : Mp} (_ : VldM M) {y : It} : y ∈ itemsM M ↔ getM M y.key = some y := by
  have ha := itemsM_asc M
  rw [← fnd_itemsM, srt_of_asc ha]
  refine ⟨fun hy => fnd_mem' ha hy, fun hf => List.mem_of_find?_eq_some hf⟩
theorem pw_forall {R : It → It → Prop} (hs : ∀ a b, R a b → R b a) : ∀ {l : List It}, l.Pairwise R → ∀ x ∈ l, ∀ y ∈ l, x ≠ y → R x y
  | [], _, x, hx, _, _, _ => by cases hx
  | a :: l, h, x, hx, y, hy, hne => by
    rw [List.pairwise_cons] at h
    rcases List.mem_cons.1 hx with e1 | hx
    · rcases List.mem_cons.1 hy with e2 | hy
      · exact absurd (e1.trans e2.symm) hne
      · rw [e1]; exact h.1 y hy
    · rcases List.mem_cons.1 hy with e2 | hy
      · rw [e2]; exact hs _ _ (h.1 x hx)
      · exact pw_forall hs h.2 x hx y hy hne
theorem endsP_mem {l : List It} (h : Asc l) (size : Int) : endsP l size ↔ (∀ x ∈ l, ∀ y ∈ l, x.key ≠ y.key → disj x y) ∧ ∀ x ∈ l, endI x ≤ size := by
  unfold endsP
  have hp := pw_of h
  refine ⟨fun ⟨h1, h2⟩ => ⟨fun x hx y hy hne => ?_, h2⟩, fun ⟨h1, h2⟩ => ⟨?_, h2⟩⟩
  · exact pw_forall (fun _ _ h => disj_symm h) h1 x hx y hy (fun e => hne (by rw [e]))
  · refine List.Pairwise.imp_of_mem ?_ hp
    intro a b ha hb hlt
    exact h1 a ha b hb (by omega)
theorem nsz8 (n : Nat) : nsz n % 8 = 0 := by unfold nsz; omega
theorem szN8 (n : Nat) : szN n % 8 = 0 := by
  unfold szN
  split
  · exact nsz8 n
  · rfl
theorem VldG.small {g : Gn} (h : VldG g) : 0 ≤ g.m.live ∧ 0 ≤ g.m.garb ∧ g.m.live ≤ 1048576 ∧ g.m.garb ≤ 1048576 := by
  have h1 := (vldM_iff _).1 h.m
  have h2 := h1.live0
  have h3 := h1.g0
  have h4 := h.sum
  have h5 := h.size
  omega
/-- Less items, more room: the ends still hold. -/
theorem ends_less {M M' : Mp} (hm : VldM M) (hm' : VldM M') {z z' : Int} (h : endsB (itemsM M) z = true) (hz : z ≤ z') (hg : ∀ k y, getM M' k = some y → getM M k = some y) : endsB (itemsM M') z' = true := by
  have h1 := (endsP_mem (itemsM_asc M) z).1 (of_decide_eq_true h)
  refine decide_eq_true ((endsP_mem (itemsM_asc M') z').2 ⟨fun x hx y hy hne => ?_, fun x hx => ?_⟩)
  · exact h1.1 x ((mem_itemsM hm).2 (hg _ _ ((mem_itemsM hm').1 hx))) y ((mem_itemsM hm).2 (hg _ _ ((mem_itemsM hm').1 hy))) hne
  · have := h1.2 x ((mem_itemsM hm).2 (hg _ _ ((mem_itemsM hm').1 hx)))
    omega
theorem ends_add {M : Mp} (hm : VldM M) {x : It} (hx : okB x = true) (hgb : M.garb + (szO (getM M x.key) : Int) ≤ 1099511627776) (h : endsB (itemsM M) x.off = true) : endsB (itemsM (insM M x)) (endI x) = true := by
  have h1 := (endsP_mem (itemsM_asc M) x.off).1 (of_decide_eq_true h)
  have hm' := hm.ins hx hgb
  have hlt := endI_gt (of_decide_eq_true hx)
  have hmem : ∀ y, y ∈ itemsM (insM M x) → y = x ∨ y ∈ itemsM M := fun y hy => by
    have := (mem_itemsM hm').1 hy
    rw [getM_ins hm hx hgb] at this
    by_cases e : x.key = y.key
    · rw [if_pos e] at this
      injection this with e2
      exact .inl e2.symm
    · rw [if_neg e] at this
      exact .inr ((mem_itemsM hm).2 this)
  refine decide_eq_true ((endsP_mem (itemsM_asc _) _).2 ⟨fun y hy z hz hne => ?_, fun y hy => ?_⟩)
  · rcases hmem y hy with rfl | hy'
    · rcases hmem z hz with rfl | hz'
      · exact absurd rfl hne
      · exact .inr (h1.2 z hz')
    · rcases hmem z hz with rfl | hz'
      · exact .inl (h1.2 y hy')
      · exact h1.1 y hy' z hz' hne
  · rcases hmem y hy with rfl | hy'
    · exact Int.le_refl _
    · have := h1.2 y hy'
      omega
theorem itA_ok {g : Gn} (hg : VldG g) {x : Nd} (hx : x.ok) : okB (itA g x) = true := by
  have h1 := hg.size
  have h2 : x.data.length ≤ 4096 := hx.1
  refine decide_eq_true ⟨?_, ?_, ?_, ?_, ?_⟩
  · exact h1.1
  · exact h1.2.1
  · exact h1.2.2
  · show (0 : Int) ≤ (x.data.length : Int); omega
  · show (x.data.length : Int) ≤ 4096; omega
theorem addOne_vld {g : Gn} (hg : VldG g) {x : Nd} (hx : x.ok) (hz : g.size + (szN x.data.length : Int) ≤ 1048576) : VldG (addOne g x) := by
  have hm := (vldM_iff _).1 hg.m
  have hs := hg.small
  have h8 := szN8 x.data.length
  have hsz := hg.size
  have hsum := hg.sum
  have hxl := szN_le x.data.length
  refine ⟨hg.num, hg.rev, hg.mode, ⟨?_, hz, ?_⟩, ?_, ?_, ?_⟩
  · show 16 ≤ g.size + (szN x.data.length : Int); omega
  · show (g.size + (szN x.data.length : Int)) % 8 = 0; omega
  all_goals
    unfold addOne
    dsimp only
    split
    next hd =>
      have h1 : g.m.garb + (szO (getM g.m x.key) : Int) ≤ 1099511627776 := by have := szO_le (getM g.m x.key); omega
      have hd1 := hm.del h1
      have hds := delM_sum hm h1
      have hdl := hd1.live0
      have h2 : (delM g.m x.key).garb + (szN x.data.length : Int) ≤ 1099511627776 := by omega
      have hw := hd1.waste (n := (szN x.data.length : Int)) (by omega) h2
      first
        | exact (vldM_iff _).2 hw
        | (refine ends_less hm hw hg.ends (by omega) ?_
           intro k y hy
           rw [getM_of hw, wasteM_st, ← getM_of hd1, getM_del hm h1] at hy
           split at hy
           · cases hy
           · exact hy)
        | (rw [wasteM_of hd1 (by omega) h2]
           dsimp only
           omega)
    next hd =>
      have hok := itA_ok hg hx
      have h1 : g.m.garb + (szO (getM g.m (itA g x).key) : Int) ≤ 1099511627776 := by have := szO_le (getM g.m (itA g x).key); omega
      have hi := hm.ins hok h1
      have his := insM_sum hm hok h1
      have he : lenO (itA g x) = szN x.data.length := by unfold lenO itA; dsimp only; rw [Int.toNat_natCast]
      first
        | exact (vldM_iff _).2 hi
        | (have h3 := ends_add hm hok h1 hg.ends
           have h4 : endI (itA g x) = g.size + (szN x.data.length : Int) := by unfold endI itA; dsimp only; rw [Int.toNat_natCast]
           rwa [h4] at h3)
        | (rw [he] at his
           omega)
theorem addAll_vld : ∀ (l : List Nd) {g : Gn}, VldG g → (∀ x ∈ l, x.ok) → g.size + (szL l : Int) ≤ 1048576 → VldG (addAll g l)
  | [], _, h, _, _ => h
  | x :: r, g, h, hok, hz => by
    rw [szL_cons] at hz
    have h1 := addOne_vld h (hok x (by simp)) (by omega)
    have := addAll_vld r h1 (fun y hy => hok y (by simp [hy])) (by rw [addOne_size]; omega)
    exact this
theorem VldG.turn {g : Gn} (h : VldG g) (hm : g.mode ≤ 2) : VldG { g with mode := g.mode + 1 } := ⟨h.num, h.rev, ⟨by show 1 ≤ g.mode + 1; have := h.mode; omega, by show g.mode + 1 ≤ 3; omega⟩, h.size, h.m, h.ends, h.sum⟩
/-- What adding at once answers for needles that fit. -/
theorem addG_ok {g : Gn} (h : VldG g) (hm : g.mode = 1) {l : List Nd} (hok : ∀ x ∈ l, x.ok) (hz : g.size + (szL l : Int) ≤ 1048576) : addG g l = (0, addAll g l) := by
  unfold addG
  rw [if_pos ⟨(vldG_iff g).2 h, (okLB_iff l).2 hok⟩, if_pos hm, if_pos hz]
/-! ### The laws' needles and generations -/
/-- The law's small: at most ten needles of eight keys, with at most forty bytes. -/
def smN (x : Nd) : Nd := ⟨x.key % 8, x.ck, x.del, if x.del then [] else x.data.take 40⟩
def smL (l : List Nd) : List Nd := (l.take 10).map smN
theorem smN_ok (x : Nd) : (smN x).ok := by
  unfold smN Nd.ok
  dsimp only
  split
  · exact ⟨by simp, fun _ => rfl⟩
  · exact ⟨by rw [List.length_take]; omega, fun h => by simp_all⟩
theorem smN_len (x : Nd) : (smN x).data.length ≤ 40 := by
  unfold smN
  dsimp only
  split
  · simp
  · rw [List.length_take]; omega
theorem smL_ok (l : List Nd) : ∀ x ∈ smL l, x.ok := fun x hx => by
  obtain ⟨y, _, rfl⟩ := List.mem_map.1 hx
  exact smN_ok y
theorem smL_len (l : List Nd) : (smL l).length ≤ 10 := by unfold smL; rw [List.length_map, List.length_take]; omega
theorem smL_dlen (l : List Nd) : ∀ x ∈ smL l, x.data.length ≤ 40 := fun x hx => by
  obtain ⟨y, _, rfl⟩ := List.mem_map.1 hx
  exact smN_len y
theorem szL_smL (l : List Nd) : szL (smL l) ≤ 41270 := Nat.le_trans (szL_le _) (by have := smL_len l; omega)
/-- The law's made, b: the mode's bits. -/
def madeM (num : Int) (md : Int) (l : List Nd) : Gn := { addAll (fresh num) (smL l) with mode := md }
theorem fresh_vld' {num : Int} (h : 1 ≤ num ∧ num ≤ 8) : VldG (fresh num) := (fresh_vld num).2 h
theorem madeM_vld {num md : Int} (h : 1 ≤ num ∧ num ≤ 8) (hm : 1 ≤ md ∧ md ≤ 3) (l : List Nd) : VldG (madeM num md l) := by
  have h1 := addAll_vld (smL l) (fresh_vld' h) (smL_ok l) (by have := szL_smL l; show (16 : Int) + _ ≤ _; omega)
  exact ⟨h1.num, h1.rev, hm, h1.size, h1.m, h1.ends, h1.sum⟩
theorem madeM_one (num : Int) (l : List Nd) : madeM num 1 l = addAll (fresh num) (smL l) := by
  have := (addAll_num (smL l) (fresh num)).2.2
  unfold madeM
  rw [show (1 : Int) = (addAll (fresh num) (smL l)).mode from this.symm]
theorem madeM_len (num md : Int) (l : List Nd) : ∀ i, i < 8 → ((madeM num md l).m.st i).length ≤ 10 := fun i hi => by
  have h := addAll_len (smL l) (fresh num) (n := 0) (fun _ _ => Nat.le_refl _) i hi
  have h2 := smL_len l
  exact Nat.le_trans h (by omega)
theorem madeM_size (num md : Int) (l : List Nd) : (madeM num md l).size = 16 + (szL (smL l) : Int) := addAll_size _ _
end Go.Proofs.YtenkeodfijladaaGreatDoor

namespace Go.Proofs.YtenkeodfijladaaGreatDoor
open Go.RowKit

theorem i64_and7 (n : Int) : bits .and .i64 n 7 = n % 8 := by
  have hm : (BitVec.ofInt 64 7).toNat = 2 ^ 3 - 1 := by decide
  have key : (BitVec.ofInt 64 n &&& BitVec.ofInt 64 7).toNat = (n % ((2 ^ 64 : Nat) : Int)).toNat % 2 ^ 3 := by
    rw [BitVec.toNat_and, BitVec.toNat_ofInt, hm, Nat.and_two_pow_sub_one_eq_mod]
  show IntKind.i64.wrap ((BitVec.ofInt 64 n &&& BitVec.ofInt 64 7).toNat : Nat) = n % 8
  rw [key, IntKind.wrap_i64]
  omega
theorem and24_nat : ∀ j, j < 32 → (j &&& 24 = 0 ∨ j &&& 24 = 8 ∨ j &&& 24 = 16 ∨ j &&& 24 = 24) := by decide
theorem i64_and24 (n : Int) : bits .and .i64 n 24 = 0 ∨ bits .and .i64 n 24 = 8 ∨ bits .and .i64 n 24 = 16 ∨ bits .and .i64 n 24 = 24 := by
  have hm : (BitVec.ofInt 64 24).toNat = 24 := by decide
  obtain ⟨k, hk⟩ : ∃ k, (BitVec.ofInt 64 n).toNat = k := ⟨_, rfl⟩
  have h1 : k &&& 24 = (k % 32) &&& 24 := by
    rw [show (32 : Nat) = 2 ^ 5 from rfl, ← Nat.and_two_pow_sub_one_eq_mod, Nat.and_assoc]; rfl
  have h2 := and24_nat (k % 32) (by omega)
  show IntKind.i64.wrap ((BitVec.ofInt 64 n &&& BitVec.ofInt 64 24).toNat : Nat) = 0 ∨ IntKind.i64.wrap ((BitVec.ofInt 64 n &&& BitVec.ofInt 64 24).toNat : Nat) = 8 ∨ IntKind.i64.wrap ((BitVec.ofInt 64 n &&& BitVec.ofInt 64 24).toNat : Nat) = 16 ∨ IntKind.i64.wrap ((BitVec.ofInt 64 n &&& BitVec.ofInt 64 24).toNat : Nat) = 24
  rw [BitVec.toNat_and, hm, hk, h1]
  rcases h2 with h | h | h | h <;> rw [h]
  · exact .inl rfl
  · exact .inr (.inl rfl)
  · exact .inr (.inr (.inl rfl))
  · exact .inr (.inr (.inr rfl))
theorem key7' (k : Nat) (h : k < 18446744073709551616) : bits .and .u64 (k : Int) 7 = ((k % 8 : Nat) : Int) := by
  have := u64_and_nat k 7 h (by decide)
  rw [show ((7 : Nat) : Int) = 7 from rfl] at this
  rw [this, show (7 : Nat) = 2 ^ 3 - 1 from rfl, Nat.and_two_pow_sub_one_eq_mod]
theorem Rd.newK' (k : Nat) (w : World) (hk : w.heap.size = k) (sz : Nat) (cs : List Value) (e : TypeId) (n : Nat) (hn : cs.length = n * sz) (hm : n ≤ maxLen) : Rd (w.alloc (.cells cs.toArray e)) sz (.slice (some ⟨k, 0, none⟩) n n) n cs := by
  subst hk; exact Rd.new w sz cs e n hn hm
/-- What small leaves: needles in a row of the call's own, whose data lie where they lay. -/
def SmRes (w0 : World) (ns : List (Nd × Value)) (e : Ending) (w' : World) : Prop :=
  ∃ lv es, e = .returned lv ∧ w'.ownsRow w0.heap.size 36 4 lv es.length (needsC es) ∧ es.map (·.1) = smL (ns.map (·.1)) ∧ (∀ p ∈ es, ∀ W, (∀ q ∈ ns, RdB W q.2 q.1.data) → RdB W p.2 p.1.data) ∧ Below w0.heap.size w0 w'
theorem SmRes.rd {w0 : World} {v : Value} {ns : List (Nd × Value)} {e : Ending} {w' : World} (h : SmRes w0 ns e w') (hN : RdN w0 v ns) : ∃ lv es, e = .returned lv ∧ RdN w' lv es ∧ es.map (·.1) = smL (ns.map (·.1)) ∧ Below w0.heap.size w0 w' := by
  obtain ⟨lv, es, h1, h2, h3, h4, h5⟩ := h
  exact ⟨lv, es, h1, ⟨own_rd h2, fun p hp => RdL.below (h4 p hp w0 hN.dat) h5⟩, h3, h5⟩
/-- What a call that answers needles hands back. -/
abbrev NdR (w0 : World) (L : List Nd) (e : Ending) (w' : World) : Prop := ∃ a n c es, e = .returned (.slice a n c) ∧ RdN w' (.slice a n c) es ∧ es.map (·.1) = L ∧ Below w0.heap.size w0 w'
theorem SmRes.nd {w0 : World} {v : Value} {ns : List (Nd × Value)} {e : Ending} {w' : World} (h : SmRes w0 ns e w') (hN : RdN w0 v ns) : NdR w0 (smL (ns.map (·.1))) e w' := by
  obtain ⟨lv, es, h1, h2, h3, h4⟩ := h.rd hN
  obtain ⟨a, c, rfl, _⟩ := h2.shape
  exact ⟨a, _, c, es, h1, h2, h3, h4⟩
set_option maxRecDepth 100000 in
set_option maxHeartbeats 8000000 in
theorem gsmall_any (v : Value) (ns : List (Nd × Value)) (w : World) (h : RdN w v ns) (hwf : ∀ p ∈ ns, p.1.Wf) :
    Calls Tryz.prog 7 #[v] w (SmRes w ns) := by
  obtain ⟨a, cap, rfl, h1, h2⟩ := h.shape
  have Hw0 := Lib.hid h
  have HW := Lib.hid hwf
  have HM := Lib.hid (show ∀ j, j < ns.length → nat' ns j ∈ ns from fun j => nat'_mem)
  have HS := Lib.hid (show ∀ j, j < ns.length → j < 10 → smL ((ns.map (·.1)).take (j + 1)) = smL ((ns.map (·.1)).take j) ++ [smN (nat' ns j).1] from fun j hj h12 => by
    unfold smL nat'
    rw [List.take_take, List.take_take, Nat.min_eq_right (by omega), Nat.min_eq_right (by omega), List.take_add_one, List.getElem?_map, List.getElem?_eq_getElem hj, List.map_append, List.getD_eq_getElem?_getD, List.getElem?_eq_getElem hj]
    rfl)
  have HE := Lib.hid (show ∀ j, j ≤ 10 → (j = ns.length ∨ j = 10) → smL ((ns.map (·.1)).take j) = smL (ns.map (·.1)) from fun j hj h12 => by
    unfold smL
    rw [List.take_take]
    rcases h12 with h12 | h12
    · rw [List.take_of_length_le (by rw [List.length_map, h12, Nat.min_def]; split <;> omega), List.take_of_length_le (by rw [List.length_map]; omega)]
    · rw [h12, Nat.min_self])
  generalize hn : ns.length = n at *
  clear h hwf hn
  generalize hN0 : ns.map (·.1) = N at *
  have HN0 := Lib.hid hN0
  clear hN0
  go_enter Tryz.func7, Tryz.ntmps7
  go_wp2_with fail
  go_loopw [3, 4] (fun ov iv W => ∃ (i : Nat) (es : List (Nd × Value)), iv = .int .i64 (i : Int) ∧ i ≤ n ∧ i ≤ 10 ∧ es.length = i ∧ Hid (W.ownsRow w.heap.size 36 4 ov i (needsC es)) ∧ Hid (es.map (·.1) = smL (N.take i)) ∧ Hid (∀ p ∈ es, ∀ W, (∀ q ∈ ns, RdB W q.2 q.1.data) → RdB W p.2 p.1.data) ∧ Hid (Below w.heap.size w W)) (fun _ iv _ => n - (intOf iv).toNat)
  case atStart => exact ⟨0, [], rfl, Nat.zero_le _, by omega, rfl, Lib.hid (World.ownsRow_nil _ _ _ _), Lib.hid rfl, Lib.hid (fun p hp => by cases hp), Lib.hid (Below.refl _ _)⟩
  case round =>
    obtain ⟨i, es, rfl, hi, hi2, hl, HO, HEs, HDt, HB⟩ := hrel
    have hsz := HB.out.size
    by_cases hin : i < n
    · by_cases h12 : i < 10
      · have q1 : decide (i < n) = true := decide_eq_true hin
        have q2 : decide ((i : Int) < 10) = true := decide_eq_true (by omega)
        have hr := Hw0.out.below HB.out
        obtain ⟨pb, poff, rfl, _, c0, c1, c2, c3⟩ := hr.at hin
        have Hx := Lib.hid (Hw0.out.dat _ (HM.out i hin))
        have HxW := Lib.hid (show ∀ W, (∀ q ∈ ns, RdB W q.2 q.1.data) → RdB W (nat' ns i).2 (nat' ns i).1.data from fun W hW => hW _ (HM.out i hin))
        have HSi := Lib.hid (HS.out i hin h12)
        have hkw := (HW.out _ (HM.out i hin)).1
        clear hr
        generalize nat' ns i = X at *
        obtain ⟨⟨k, c, d, l⟩, dv⟩ := X
        dsimp only at *
        obtain ⟨xa, xc, rfl, hx1, hx2⟩ := Hx.out.shape0
        have hk7 := key7' k hkw
        have i1 : (i : Int) < (n : Int) := by omega
        generalize hm : l.length = m at *
        have HmL := Lib.hid hm
        clear hm
        cases d
        · by_cases b60 : 40 < m
          · have hto := fun W kh => slice_to (P := Tryz.prog) elemB (a := xa) (n := m) (cap := xc) (RdL.spot Hx.out (by omega)) 40 (by omega) W kh
            rw [show ((40 : Nat) : Int) = 40 from rfl] at hto
            have f60 : decide ((40 : Int) < (m : Int)) = true := by simp; omega
            have HEl := Lib.hid (show smN ⟨k, c, false, l⟩ = ⟨k % 8, c, false, l.take 40⟩ by unfold smN; dsimp only; rw [if_neg (by simp)])
            go_wp2_with (at_builtin; go_must (refine wpList_app (n := i) (m := 1) rfl (.tmp 35) (.tmp 37) 28 rfl elemN w.heap.size rfl (own_keep HO.out (((Below.refl _ _).alloc (Nat.le_refl _) _).alloc (by simp) _)) (by rfl) (Rd.newK' (wr.heap.size + 1) (wr.alloc (.cells #[.int .u64 ((k % 8 : Nat) : Int), .int .u32 (c : Int), .bool false, .slice xa 40 xc] 36)) (by simp) 4 (needC (⟨k % 8, c, false, l.take 40⟩, .slice xa 40 xc)) 36 1 rfl (by decide)) (need_one _ _ _ _) (by unfold maxLen; omega) (by omega) (by simp; omega) ?_); intro v4 w4 hown4 hgr4 hv4; clear hv4)
            have HG := Lib.hid (own_below ((HB.out.alloc hsz (.cells #[.int .u64 ((k % 8 : Nat) : Int), .int .u32 (c : Int), .bool false, .slice xa 40 xc] 36)).alloc (by simp; omega) (.cells (needC (⟨k % 8, c, false, l.take 40⟩, .slice xa 40 xc)).toArray 36)) (own_keep HO.out (((Below.refl _ _).alloc (Nat.le_refl _) _).alloc (by simp) _)) (by simp; omega) hgr4)
            have HO4 := Lib.hid (show w4.ownsRow w.heap.size 36 4 v4 (i + 1) (needsC (es ++ [(⟨k % 8, c, false, l.take 40⟩, .slice xa 40 xc)])) by rw [needsC_snoc]; exact hown4)
            have HE4 := Lib.hid (show (es ++ [((⟨k % 8, c, false, l.take 40⟩ : Nd), (.slice xa 40 xc : Value))]).map (·.1) = smL (N.take (i + 1)) by rw [List.map_append, HEs.out, HSi.out, HEl.out]; rfl)
            have HD4 := Lib.hid (show ∀ p ∈ es ++ [((⟨k % 8, c, false, l.take 40⟩ : Nd), (.slice xa 40 xc : Value))], ∀ W, (∀ q ∈ ns, RdB W q.2 q.1.data) → RdB W p.2 p.1.data from fun p hp W hW => by
              rcases List.mem_append.1 hp with hp | hp
              · exact HDt.out p hp W hW
              · rw [List.mem_singleton.1 hp]; exact RdL.take (HxW.out W hW) 40 (by omega))
            have hl4 : (es ++ [((⟨k % 8, c, false, l.take 40⟩ : Nd), (.slice xa 40 xc : Value))]).length = i + 1 := by rw [List.length_append, hl]; rfl
            clear hown4 hgr4
            go_wp2_with fail
            exact ⟨⟨i + 1, _, by go_num, by omega, by omega, hl4, HO4, HE4, HD4, HG⟩, by simp [intOf]; omega⟩
          · have f60 : decide ((40 : Int) < (m : Int)) = false := by simp; omega
            have HEl := Lib.hid (show smN ⟨k, c, false, l⟩ = ⟨k % 8, c, false, l⟩ by unfold smN; dsimp only; rw [if_neg (by simp)]; rw [List.take_of_length_le (by rw [HmL.out]; omega)])
            go_wp2_with (at_builtin; go_must (refine wpList_app (n := i) (m := 1) rfl (.tmp 35) (.tmp 37) 28 rfl elemN w.heap.size rfl (own_keep HO.out (((Below.refl _ _).alloc (Nat.le_refl _) _).alloc (by simp) _)) (by rfl) (Rd.newK' (wr.heap.size + 1) (wr.alloc (.cells #[.int .u64 ((k % 8 : Nat) : Int), .int .u32 (c : Int), .bool false, .slice xa m xc] 36)) (by simp) 4 (needC (⟨k % 8, c, false, l⟩, .slice xa m xc)) 36 1 rfl (by decide)) (need_one _ _ _ _) (by unfold maxLen; omega) (by omega) (by simp; omega) ?_); intro v4 w4 hown4 hgr4 hv4; clear hv4)
            have HG := Lib.hid (own_below ((HB.out.alloc hsz (.cells #[.int .u64 ((k % 8 : Nat) : Int), .int .u32 (c : Int), .bool false, .slice xa m xc] 36)).alloc (by simp; omega) (.cells (needC (⟨k % 8, c, false, l⟩, .slice xa m xc)).toArray 36)) (own_keep HO.out (((Below.refl _ _).alloc (Nat.le_refl _) _).alloc (by simp) _)) (by simp; omega) hgr4)
            have HO4 := Lib.hid (show w4.ownsRow w.heap.size 36 4 v4 (i + 1) (needsC (es ++ [(⟨k % 8, c, false, l⟩, .slice xa m xc)])) by rw [needsC_snoc]; exact hown4)
            have HE4 := Lib.hid (show (es ++ [((⟨k % 8, c, false, l⟩ : Nd), (.slice xa m xc : Value))]).map (·.1) = smL (N.take (i + 1)) by rw [List.map_append, HEs.out, HSi.out, HEl.out]; rfl)
            have HD4 := Lib.hid (show ∀ p ∈ es ++ [((⟨k % 8, c, false, l⟩ : Nd), (.slice xa m xc : Value))], ∀ W, (∀ q ∈ ns, RdB W q.2 q.1.data) → RdB W p.2 p.1.data from fun p hp W hW => by
              rcases List.mem_append.1 hp with hp | hp
              · exact HDt.out p hp W hW
              · rw [List.mem_singleton.1 hp]; exact HxW.out W hW)
            have hl4 : (es ++ [((⟨k % 8, c, false, l⟩ : Nd), (.slice xa m xc : Value))]).length = i + 1 := by rw [List.length_append, hl]; rfl
            clear hown4 hgr4
            go_wp2_with fail
            exact ⟨⟨i + 1, _, by go_num, by omega, by omega, hl4, HO4, HE4, HD4, HG⟩, by simp [intOf]; omega⟩
        · have HEl := Lib.hid (show smN ⟨k, c, true, l⟩ = ⟨k % 8, c, true, []⟩ by unfold smN; dsimp only; rw [if_pos rfl])
          by_cases b60 : 40 < m
          · have hto := fun W kh => slice_to (P := Tryz.prog) elemB (a := xa) (n := m) (cap := xc) (RdL.spot Hx.out (by omega)) 40 (by omega) W kh
            rw [show ((40 : Nat) : Int) = 40 from rfl] at hto
            have f60 : decide ((40 : Int) < (m : Int)) = true := by simp; omega
            go_wp2_with (at_builtin; go_must (refine wpList_app (n := i) (m := 1) rfl (.tmp 35) (.tmp 37) 28 rfl elemN w.heap.size rfl (own_keep HO.out (((Below.refl _ _).alloc (Nat.le_refl _) _).alloc (by simp) _)) (by rfl) (Rd.newK' (wr.heap.size + 1) (wr.alloc (.cells #[.int .u64 ((k % 8 : Nat) : Int), .int .u32 (c : Int), .bool true, .slice none 0 0] 36)) (by simp) 4 (needC (⟨k % 8, c, true, []⟩, .slice none 0 0)) 36 1 rfl (by decide)) (need_one _ _ _ _) (by unfold maxLen; omega) (by omega) (by simp; omega) ?_); intro v4 w4 hown4 hgr4 hv4; clear hv4)
            have HG := Lib.hid (own_below ((HB.out.alloc hsz (.cells #[.int .u64 ((k % 8 : Nat) : Int), .int .u32 (c : Int), .bool true, .slice none 0 0] 36)).alloc (by simp; omega) (.cells (needC (⟨k % 8, c, true, []⟩, .slice none 0 0)).toArray 36)) (own_keep HO.out (((Below.refl _ _).alloc (Nat.le_refl _) _).alloc (by simp) _)) (by simp; omega) hgr4)
            have HO4 := Lib.hid (show w4.ownsRow w.heap.size 36 4 v4 (i + 1) (needsC (es ++ [(⟨k % 8, c, true, []⟩, .slice none 0 0)])) by rw [needsC_snoc]; exact hown4)
            have HE4 := Lib.hid (show (es ++ [((⟨k % 8, c, true, []⟩ : Nd), (.slice none 0 0 : Value))]).map (·.1) = smL (N.take (i + 1)) by rw [List.map_append, HEs.out, HSi.out, HEl.out]; rfl)
            have HD4 := Lib.hid (show ∀ p ∈ es ++ [((⟨k % 8, c, true, []⟩ : Nd), (.slice none 0 0 : Value))], ∀ W, (∀ q ∈ ns, RdB W q.2 q.1.data) → RdB W p.2 p.1.data from fun p hp W hW => by
              rcases List.mem_append.1 hp with hp | hp
              · exact HDt.out p hp W hW
              · rw [List.mem_singleton.1 hp]; exact RdB_nil W)
            have hl4 : (es ++ [((⟨k % 8, c, true, []⟩ : Nd), (.slice none 0 0 : Value))]).length = i + 1 := by rw [List.length_append, hl]; rfl
            clear hown4 hgr4
            go_wp2_with fail
            exact ⟨⟨i + 1, _, by go_num, by omega, by omega, hl4, HO4, HE4, HD4, HG⟩, by simp [intOf]; omega⟩
          · have f60 : decide ((40 : Int) < (m : Int)) = false := by simp; omega
            go_wp2_with (at_builtin; go_must (refine wpList_app (n := i) (m := 1) rfl (.tmp 35) (.tmp 37) 28 rfl elemN w.heap.size rfl (own_keep HO.out (((Below.refl _ _).alloc (Nat.le_refl _) _).alloc (by simp) _)) (by rfl) (Rd.newK' (wr.heap.size + 1) (wr.alloc (.cells #[.int .u64 ((k % 8 : Nat) : Int), .int .u32 (c : Int), .bool true, .slice none 0 0] 36)) (by simp) 4 (needC (⟨k % 8, c, true, []⟩, .slice none 0 0)) 36 1 rfl (by decide)) (need_one _ _ _ _) (by unfold maxLen; omega) (by omega) (by simp; omega) ?_); intro v4 w4 hown4 hgr4 hv4; clear hv4)
            have HG := Lib.hid (own_below ((HB.out.alloc hsz (.cells #[.int .u64 ((k % 8 : Nat) : Int), .int .u32 (c : Int), .bool true, .slice none 0 0] 36)).alloc (by simp; omega) (.cells (needC (⟨k % 8, c, true, []⟩, .slice none 0 0)).toArray 36)) (own_keep HO.out (((Below.refl _ _).alloc (Nat.le_refl _) _).alloc (by simp) _)) (by simp; omega) hgr4)
            have HO4 := Lib.hid (show w4.ownsRow w.heap.size 36 4 v4 (i + 1) (needsC (es ++ [(⟨k % 8, c, true, []⟩, .slice none 0 0)])) by rw [needsC_snoc]; exact hown4)
            have HE4 := Lib.hid (show (es ++ [((⟨k % 8, c, true, []⟩ : Nd), (.slice none 0 0 : Value))]).map (·.1) = smL (N.take (i + 1)) by rw [List.map_append, HEs.out, HSi.out, HEl.out]; rfl)
            have HD4 := Lib.hid (show ∀ p ∈ es ++ [((⟨k % 8, c, true, []⟩ : Nd), (.slice none 0 0 : Value))], ∀ W, (∀ q ∈ ns, RdB W q.2 q.1.data) → RdB W p.2 p.1.data from fun p hp W hW => by
              rcases List.mem_append.1 hp with hp | hp
              · exact HDt.out p hp W hW
              · rw [List.mem_singleton.1 hp]; exact RdB_nil W)
            have hl4 : (es ++ [((⟨k % 8, c, true, []⟩ : Nd), (.slice none 0 0 : Value))]).length = i + 1 := by rw [List.length_append, hl]; rfl
            clear hown4 hgr4
            go_wp2_with fail
            exact ⟨⟨i + 1, _, by go_num, by omega, by omega, hl4, HO4, HE4, HD4, HG⟩, by simp [intOf]; omega⟩
      · have q1 : decide (i < n) = true := decide_eq_true hin
        have q2 : decide ((i : Int) < 10) = false := decide_eq_false (by omega)
        have hj : i = 10 := by omega
        have i1 : (i : Int) < (n : Int) := by omega
        have HEn := Lib.hid (HE.out i hi2 (.inr hj))
        go_wp2_with fail
        go_ret
        exact ⟨_, es, rfl, by rw [hl]; exact HO.out, by rw [HN0.out]; exact HEs.out.trans HEn.out, HDt.out, HB.out⟩
    · have hj : i = n := by omega
      have i1 : ¬ (i : Int) < (n : Int) := by omega
      have HEn := Lib.hid (HE.out i hi2 (.inl hj))
      go_wp2_with fail
      go_ret
      exact ⟨_, es, rfl, by rw [hl]; exact HO.out, by rw [HN0.out]; exact HEs.out.trans HEn.out, HDt.out, HB.out⟩
/-- The law's light. -/
def lightG (f : Nat → List It) : Bool := (List.range 8).all fun i => decide ((f i).length ≤ 8)
theorem lightG_no {f : Nat → List It} {i : Nat} (hi : i < 8) (h : ¬ (f i).length ≤ 8) : lightG f = false := by
  unfold lightG
  rw [List.all_eq_false]
  exact ⟨i, List.mem_range.2 hi, by simpa using h⟩
theorem lightG_yes {f : Nat → List It} (h : ∀ i, i < 8 → (f i).length ≤ 8) : lightG f = true := List.all_eq_true.2 fun i hi => decide_eq_true (h i (List.mem_range.1 hi))
theorem lightG_iff {f : Nat → List It} (h : lightG f = true) : ∀ i, i < 8 → (f i).length ≤ 8 := fun i hi => of_decide_eq_true (List.all_eq_true.1 h i (List.mem_range.2 hi))
set_option maxRecDepth 100000 in
set_option maxHeartbeats 1000000 in
theorem glight_any (a b c d : Int) (s : Sl) (L G : Int) (f : Nat → List It) (w : World) (h : RdM w s f) : Calls Tryz.prog 4 #[genV a b c d s L G] w fun e w' => e = .returned (.bool (lightG f)) ∧ Below w.heap.size w w' := by
  have HL := Lib.hid (fun i (hi : i < 8) => h.n hi)
  obtain ⟨W0, hW0⟩ : ∃ W0, w.alloc (.cells (genC a b c d s L G) 27) = W0 := ⟨_, rfl⟩
  have HX := Lib.hid (show BoxG W0 w.heap.size a b c d s L G from hW0 ▸ BoxG.new w a b c d s L G 27)
  have HB := Lib.hid (show Below w.heap.size w W0 from hW0 ▸ below_gen w a b c d s L G 27)
  have HNo := Lib.hid (fun i (hi : i < 8) (h : ¬ (f i).length ≤ 8) => lightG_no hi h)
  have HYes := Lib.hid (fun h => lightG_yes (f := f) h)
  clear h
  go_enter Tryz.func4, Tryz.ntmps4
  go_upto_region 1 with fail
  clear hW0
  go_wp2_with fail
  go_loop [4] (fun iv => ∃ i : Nat, iv = .int .i64 (i : Int) ∧ i ≤ 8 ∧ Hid (∀ j, j < i → (f j).length ≤ 8)) (fun iv => 8 - (intOf iv).toNat)
  case atStart => exact ⟨0, rfl, Nat.zero_le _, Lib.hid (fun j hj => by omega)⟩
  case round =>
    obtain ⟨i, rfl, hi, Hok⟩ := hrel
    by_cases hin : i < 8
    · have i1 : (i : Int) < 8 := by omega
      have ci := HX.out.c i hin
      rw [show s.v i = .slice (s.a i) (s.n i) (s.c i) from rfl, HL.out i hin] at ci
      have HNi := Lib.hid (HNo.out i hin)
      by_cases hl : (f i).length ≤ 8
      · have hl1 : ((f i).length : Int) ≤ 8 := by omega
        have HOk2 := Lib.hid (show ∀ j, j < i + 1 → (f j).length ≤ 8 from fun j hj => by
          by_cases e : j = i
          · rw [e]; exact hl
          · exact Hok.out j (by omega))
        generalize (f i).length = n at *
        go_wp2_with fail
        exact ⟨⟨i + 1, by go_num, by omega, HOk2⟩, by simp [intOf]; omega⟩
      · have hl1 : ¬ ((f i).length : Int) ≤ 8 := by omega
        have HF := Lib.hid (HNi.out hl)
        generalize (f i).length = n at *
        go_wp2_with fail
        go_ret
        exact ⟨ret_bool HF.out.symm, HB.out⟩
    · obtain rfl : i = 8 := by omega
      have HF := Lib.hid (HYes.out Hok.out)
      go_wp2_with fail
      go_ret
      exact ⟨ret_bool HF.out.symm, HB.out⟩
set_option maxRecDepth 100000 in
set_option maxHeartbeats 4000000 in
theorem gtold_any (n r md z : Int) (s : Sl) (L G : Int) (w : World) : Calls Tryz.prog 12 #[genV n r md z s L G] w fun e w' => e = .returned (genV n r md z s L G) ∧ Below w.heap.size w w' := by
  obtain ⟨W0, hW0⟩ : ∃ W, w.alloc (.cells (genC n r md z s L G) 43) = W := ⟨_, rfl⟩
  have HX0 := Lib.hid (show BoxG W0 w.heap.size n r md z s L G from hW0 ▸ BoxG.new w n r md z s L G 43)
  have HB0 := Lib.hid (show Below w.heap.size w W0 from hW0 ▸ below_gen w n r md z s L G 43)
  have HR := Lib.hid (BoxG.new W0 0 0 0 0 Sl.nil 0 0 27)
  have HX := Lib.hid (HX0.out.below (below_gen W0 0 0 0 0 Sl.nil 0 0 27))
  have HB := Lib.hid (bstep HB0.out (below_gen W0 0 0 0 0 Sl.nil 0 0 27))
  have hlz : w.heap.size ≤ W0.heap.size := HB0.out.size
  have hz0 : W0.heap.size = w.heap.size + 1 := by rw [← hW0]; simp
  go_enter Tryz.func12, Tryz.ntmps12
  go_upto_region 1 with fail
  change Code.wp _ _ _ _ (W0.alloc (.cells (genC 0 0 0 0 Sl.nil 0 0) 27))
  clear hW0 HX0 HB0
  obtain ⟨W, hW⟩ : ∃ W, W0.alloc (.cells (genC 0 0 0 0 Sl.nil 0 0) 27) = W := ⟨_, rfl⟩
  rw [hW] at HX HB HR ⊢
  clear hW
  rw [hz0] at HR
  clear hz0
  have x0 := HX.out.n0
  have x1 := HX.out.n1
  have x2 := HX.out.n2
  have x3 := HX.out.n3
  have x4 := HX.out.c0
  have x5 := HX.out.c1
  have x6 := HX.out.c2
  have x7 := HX.out.c3
  have x8 := HX.out.c4
  have x9 := HX.out.c5
  have x10 := HX.out.c6
  have x11 := HX.out.c7
  have x12 := HX.out.cl
  have x13 := HX.out.cg
  have r0 := HR.out.n0
  have r1 := HR.out.n1
  have r2 := HR.out.n2
  have r3 := HR.out.n3
  have r4 := HR.out.c0
  have r5 := HR.out.c1
  have r6 := HR.out.c2
  have r7 := HR.out.c3
  have r8 := HR.out.c4
  have r9 := HR.out.c5
  have r10 := HR.out.c6
  have r11 := HR.out.c7
  have r12 := HR.out.cl
  have r13 := HR.out.cg
  have rf := HR.out.f
  go_wp2_with fail
  change bodyPost _ _ _ _ _ (pts W (w.heap.size + 1) (genL n r md z s L G))
  have hby := HR.out.all n r md z s L G
  have HBz := Lib.hid (pts_below (B := w.heap.size) (b := w.heap.size + 1) (by omega) (genL n r md z s L G) HB.out)
  generalize pts W (w.heap.size + 1) (genL n r md z s L G) = V at *
  exact bodyPost_ret (v := genV n r md z s L G) (by simp [results, Tryz.results12, go_sem, hby.n0, hby.n1, hby.n2, hby.n3, hby.c0, hby.c1, hby.c2, hby.c3, hby.c4, hby.c5, hby.c6, hby.c7, hby.cl, hby.cg]) rfl ⟨rfl, HBz.out⟩
theorem sameM_self (M : Mp) : sameM M M = true := by
  rw [sameM_st (fun _ _ => rfl)]
  simp
set_option maxRecDepth 100000 in
set_option maxHeartbeats 4000000 in
theorem gsame_any (g : Gn) (s t : Sl) (w : World) (h : RdM w s g.m.st) (h2 : RdM w t g.m.st) :
    Calls Tryz.prog 11 #[genV g.num g.rev g.mode g.size s g.m.live g.m.garb, genV g.num g.rev g.mode g.size t g.m.live g.m.garb] w fun e w' => e = .returned (.bool true) ∧ Below w.heap.size w w' := by
  have HS := Lib.hid (fun W (hb : Below w.heap.size w W) => sameM_any s t g.m g.m W (h.below hb) (h2.below hb))
  rw [sameM_self] at HS
  obtain ⟨n, r, md, z, ⟨f, L, G⟩⟩ := g
  dsimp only at *
  clear h h2
  obtain ⟨W0, hW0⟩ : ∃ W0, w.alloc (.cells (genC n r md z s L G) 27) = W0 := ⟨_, rfl⟩
  have HX0 := Lib.hid (show BoxG W0 w.heap.size n r md z s L G from hW0 ▸ BoxG.new w n r md z s L G 27)
  have HB0 := Lib.hid (show Below w.heap.size w W0 from hW0 ▸ below_gen w n r md z s L G 27)
  have HY := Lib.hid (BoxG.new W0 n r md z t L G 27)
  have HX := Lib.hid (HX0.out.below (below_gen W0 n r md z t L G 27))
  have HB := Lib.hid (bstep HB0.out (below_gen W0 n r md z t L G 27))
  have hz0 : W0.heap.size = w.heap.size + 1 := by rw [← hW0]; simp
  go_enter Tryz.func11, Tryz.ntmps11
  go_upto_region 1 with fail
  change Code.wp _ _ _ _ (W0.alloc (.cells (genC n r md z t L G) 27))
  clear hW0 HX0 HB0
  obtain ⟨W, hW⟩ : ∃ W, W0.alloc (.cells (genC n r md z t L G) 27) = W := ⟨_, rfl⟩
  rw [hW] at HX HB HY ⊢
  clear hW
  rw [hz0] at HY
  clear hz0
  have x0 := HX.out.n0
  have x1 := HX.out.n1
  have x2 := HX.out.n2
  have x3 := HX.out.n3
  have x4 := HX.out.c0
  have x5 := HX.out.c1
  have x6 := HX.out.c2
  have x7 := HX.out.c3
  have x8 := HX.out.c4
  have x9 := HX.out.c5
  have x10 := HX.out.c6
  have x11 := HX.out.c7
  have x12 := HX.out.cl
  have x13 := HX.out.cg
  have y0 := HY.out.n0
  have y1 := HY.out.n1
  have y2 := HY.out.n2
  have y3 := HY.out.n3
  have y4 := HY.out.c0
  have y5 := HY.out.c1
  have y6 := HY.out.c2
  have y7 := HY.out.c3
  have y8 := HY.out.c4
  have y9 := HY.out.c5
  have y10 := HY.out.c6
  have y11 := HY.out.c7
  have y12 := HY.out.cl
  have y13 := HY.out.cg
  go_wp2_with fail
  refine (HS.out _ HB.out).mono ?_
  rintro e w1 ⟨rfl, hb1⟩
  have HB1 := Lib.hid (bstep HB.out hb1)
  clear hb1
  go_wp2_with fail
  go_ret
  exact ⟨rfl, HB1.out⟩
set_option maxRecDepth 100000 in
set_option maxHeartbeats 4000000 in
theorem rfresh_nil (n : Int) (hn : 1 ≤ n ∧ n ≤ 8) (w : World) : Calls Tryz.prog 24 #[.int .i64 n] w fun e w' => e = .returned (.tuple #[genV n 0 1 16 Sl.nil 0 0, .int .i64 0]) ∧ Below w.heap.size w w' := by
  have HR := Lib.hid (BoxG.new w 0 0 0 0 Sl.nil 0 0 27)
  have HB := Lib.hid (below_gen w 0 0 0 0 Sl.nil 0 0 27)
  have e1 : decide (n < 1) = false := decide_eq_false (by omega)
  have e2 : decide (8 < n) = false := decide_eq_false (by omega)
  clear hn
  go_enter Tryz.func24, Tryz.ntmps24
  go_upto_region 1 with fail
  obtain ⟨W, hW⟩ : ∃ W, w.alloc (.cells (genC 0 0 0 0 Sl.nil 0 0) 27) = W := ⟨_, rfl⟩
  change Code.wp _ _ _ _ (w.alloc (.cells (genC 0 0 0 0 Sl.nil 0 0) 27))
  rw [hW] at HR HB ⊢
  clear hW
  have r0 := HR.out.n0
  have r1 := HR.out.n1
  have r2 := HR.out.n2
  have r3 := HR.out.n3
  have r4 := HR.out.c0
  have r5 := HR.out.c1
  have r6 := HR.out.c2
  have r7 := HR.out.c3
  have r8 := HR.out.c4
  have r9 := HR.out.c5
  have r10 := HR.out.c6
  have r11 := HR.out.c7
  have r12 := HR.out.cl
  have r13 := HR.out.cg
  have rf := HR.out.f
  go_wp2_with fail
  change bodyPost _ _ _ _ _ (pts W w.heap.size (genL n 0 1 16 Sl.nil 0 0))
  have hby := HR.out.all n 0 1 16 Sl.nil 0 0
  have HBz := Lib.hid (pts_below (B := w.heap.size) (b := w.heap.size) (by omega) (genL n 0 1 16 Sl.nil 0 0) HB.out)
  generalize pts W w.heap.size (genL n 0 1 16 Sl.nil 0 0) = V at *
  exact bodyPost_ret (v := .tuple #[genV n 0 1 16 Sl.nil 0 0, .int .i64 0]) (by simp [results, Tryz.results24, go_sem, hby.n0, hby.n1, hby.n2, hby.n3, hby.c0, hby.c1, hby.c2, hby.c3, hby.c4, hby.c5, hby.c6, hby.c7, hby.cl, hby.cg]) rfl ⟨rfl, HBz.out⟩
/-- A generation whose map is of the call's own. -/
def MRes (w0 : World) (g : Gn) (e : Ending) (w' : World) : Prop := (∃ s, e = .returned (genV g.num g.rev g.mode g.size s g.m.live g.m.garb) ∧ OwnM w' w0.heap.size s g.m.st) ∧ Below w0.heap.size w0 w'
def mdOf (mode : Int) : Int := if bits .and .i64 mode 24 = 16 then 2 else if bits .and .i64 mode 24 = 24 then 3 else 1
def madeG (l : List Nd) (mode : Int) : Gn := madeM (1 + mode % 8) (mdOf mode) l
theorem mdOf_b (mode : Int) : 1 ≤ mdOf mode ∧ mdOf mode ≤ 3 := by unfold mdOf; split <;> (try split) <;> omega
theorem madeG_vld (l : List Nd) (mode : Int) : VldG (madeG l mode) := madeM_vld (by omega) (mdOf_b mode) l
theorem oldNil {w : World} {B : Nat} {s : Sl} {f : Nat → List It} (h : OldOwn w B Sl.nil (fun _ => []) s f) : OwnM w B s f := by
  rcases h with ⟨rfl, hf⟩ | h
  · exact (OwnM.nil w B).eqM hf
  · exact h
theorem turn_made (num : Int) (hn : 1 ≤ num ∧ num ≤ 8) (md : Int) (hm : 1 ≤ md ∧ md ≤ 3) (l : List Nd) : turnG (madeM num md l) md = (0, madeM num (md + 1) l) := by
  unfold turnG
  rw [if_pos ((vldG_iff _).2 (madeM_vld hn hm l)), if_pos (show (madeM num md l).mode = md from rfl)]
  rfl
set_option maxRecDepth 100000 in
set_option maxHeartbeats 8000000 in
theorem made_any (v : Value) (ns : List (Nd × Value)) (mode : Int) (w : World) (h : RdN w v ns) (hwf : ∀ p ∈ ns, p.1.Wf) :
    Calls Tryz.prog 6 #[v, .int .i64 mode] w (MRes w (madeG (ns.map (·.1)) mode)) := by
  have hm8 : 0 ≤ mode % 8 ∧ mode % 8 < 8 := by omega
  have hnum : 1 ≤ 1 + mode % 8 ∧ 1 + mode % 8 ≤ 8 := by omega
  have h7 := i64_and7 mode
  have h24 := i64_and24 mode
  have HFr := Lib.hid (fun W => rfresh_nil (1 + mode % 8) hnum W)
  have HSm := Lib.hid (fun W (hb : Below w.heap.size w W) => (gsmall_any v ns W (h.below hb) hwf).mono fun e w' hq => SmRes.nd hq (h.below hb))
  have HAd := Lib.hid (show ∀ lv es W, RdN W lv es → es.map (·.1) = smL (ns.map (·.1)) → Calls Tryz.prog 10 #[genV (1 + mode % 8) 0 1 16 Sl.nil 0 0, lv] W (fun e w' => ∃ s, e = .returned (.tuple #[genV (madeM (1 + mode % 8) 1 (ns.map (·.1))).num (madeM (1 + mode % 8) 1 (ns.map (·.1))).rev (madeM (1 + mode % 8) 1 (ns.map (·.1))).mode (madeM (1 + mode % 8) 1 (ns.map (·.1))).size s (madeM (1 + mode % 8) 1 (ns.map (·.1))).m.live (madeM (1 + mode % 8) 1 (ns.map (·.1))).m.garb, .int .i64 0]) ∧ OwnM w' W.heap.size s (madeM (1 + mode % 8) 1 (ns.map (·.1))).m.st ∧ Below W.heap.size W w') from fun lv es W h1 h2 => by
    have hle : es.length ≤ 10 := by have := congrArg List.length h2; rw [List.length_map] at this; have := smL_len (ns.map (·.1)); omega
    have := radd_any (fresh (1 + mode % 8)) Sl.nil lv es 0 W (rdM_nil W) (fun _ _ => Nat.le_refl _) h1 (by omega) (fun p hp => by have := smL_dlen (ns.map (·.1)) p.1 (h2 ▸ List.mem_map_of_mem hp); omega)
    rw [h2, addG_ok (fresh_vld' hnum) rfl (smL_ok _) (by have := szL_smL (ns.map (·.1)); show (16 : Int) + _ ≤ _; omega), ← madeM_one] at this
    refine this.mono ?_
    rintro e w' ⟨⟨s, rfl, ho⟩, hb⟩
    exact ⟨s, rfl, oldNil ho, hb⟩)
  have HNm := Lib.hid (show (madeM (1 + mode % 8) 1 (ns.map (·.1))).num = 1 + mode % 8 ∧ (madeM (1 + mode % 8) 1 (ns.map (·.1))).rev = 0 from by
    rw [madeM_one]; exact ⟨(addAll_num _ _).1, (addAll_num _ _).2.1⟩)
  have HFz := Lib.hid (fun s W (h : RdM W s (madeM (1 + mode % 8) 1 (ns.map (·.1))).m.st) => rfreeze_any (madeM (1 + mode % 8) 1 (ns.map (·.1))) s W h (fun i hi => Nat.le_trans (madeM_len _ _ _ i hi) (by decide)))
  have HSe := Lib.hid (fun s W (h : RdM W s (madeM (1 + mode % 8) 2 (ns.map (·.1))).m.st) => rseal_any (madeM (1 + mode % 8) 2 (ns.map (·.1))) s W h (fun i hi => Nat.le_trans (madeM_len _ _ _ i hi) (by decide)))
  rw [turn_made _ hnum 1 (by decide), show (1 : Int) + 1 = 2 from rfl] at HFz
  rw [turn_made _ hnum 2 (by decide), show (2 : Int) + 1 = 3 from rfl] at HSe
  have HG := Lib.hid (show madeG (ns.map (·.1)) mode = madeM (1 + mode % 8) (mdOf mode) (ns.map (·.1)) from rfl)
  have HMd := Lib.hid (show mdOf mode = if bits .and .i64 mode 24 = 16 then 2 else if bits .and .i64 mode 24 = 24 then 3 else 1 from rfl)
  obtain ⟨va, vc, rfl, hv1, hv2⟩ := h.shape
  generalize mdOf mode = md at *
  generalize madeG (ns.map (·.1)) mode = TG at *
  have Hr := Lib.hid h
  clear h hwf
  obtain ⟨gA, hgA⟩ : ∃ gA : Gn, madeM (1 + mode % 8) 1 (ns.map (·.1)) = gA := ⟨_, rfl⟩
  have HG1 := Lib.hid (show md = 1 → TG = gA from fun e => by rw [HG.out, e, hgA])
  have HG2 := Lib.hid (show ∀ m', md = m' → TG = { gA with mode := m' } from fun m' e => by rw [HG.out, e, ← hgA]; rfl)
  have hm2 : madeM (1 + mode % 8) 2 (ns.map (·.1)) = { gA with mode := 2 } := by rw [← hgA]; rfl
  have hm3 : madeM (1 + mode % 8) 3 (ns.map (·.1)) = { gA with mode := 3 } := by rw [← hgA]; rfl
  have hmo : gA.mode = 1 := by rw [← hgA]; rfl
  rw [hm2, hgA] at HFz
  rw [hm2, hm3] at HSe
  rw [hgA] at HAd HNm
  clear hgA hm2 hm3 HG
  obtain ⟨an, ar, am, az, ⟨af, aL, aG⟩⟩ := gA
  dsimp only at *
  subst hmo
  generalize hN : ns.map (·.1) = N at *
  clear hN
  generalize hnl : ns.length = n at *
  clear hnl
  obtain ⟨W0, hW0⟩ : ∃ W0, w.alloc (.cells (genC 0 0 0 0 Sl.nil 0 0) 27) = W0 := ⟨_, rfl⟩
  have HR := Lib.hid (show BoxG W0 w.heap.size 0 0 0 0 Sl.nil 0 0 from hW0 ▸ BoxG.new w 0 0 0 0 Sl.nil 0 0 27)
  have HB := Lib.hid (show Below w.heap.size w W0 from hW0 ▸ below_gen w 0 0 0 0 Sl.nil 0 0 27)
  go_enter Tryz.func6, Tryz.ntmps6
  go_upto_region 1 with fail
  change Code.wp _ _ _ _ (w.alloc (.cells (genC 0 0 0 0 Sl.nil 0 0) 27))
  rw [hW0]
  clear hW0
  go_wp2_with fail
  refine (HFr.out _).mono ?_
  rintro e w1 ⟨rfl, hb1⟩
  have HR1 := Lib.hid (HR.out.below hb1)
  have HB1 := Lib.hid (bstep HB.out hb1)
  have hc0 := HR1.out.lt
  clear hb1 HR HB
  generalize 1 + mode % 8 = num at *
  go_upto_region 2 with fail
  change Code.wp _ _ _ _ (w1.alloc (.cells (genC num 0 1 16 Sl.nil 0 0) 27))
  have HX2 := Lib.hid (BoxG.new w1 num 0 1 16 Sl.nil 0 0 27)
  have HR2 := Lib.hid (HR1.out.below (below_gen w1 num 0 1 16 Sl.nil 0 0 27))
  have HB2 := Lib.hid (bstep HB1.out (below_gen w1 num 0 1 16 Sl.nil 0 0 27))
  generalize w1.alloc (.cells (genC num 0 1 16 Sl.nil 0 0) 27) = w2 at *
  generalize w1.heap.size = c at *
  clear HR1 HB1
  have x0 := HX2.out.n0
  have x1 := HX2.out.n1
  have x2 := HX2.out.n2
  have x3 := HX2.out.n3
  have x4 := HX2.out.c0
  have x5 := HX2.out.c1
  have x6 := HX2.out.c2
  have x7 := HX2.out.c3
  have x8 := HX2.out.c4
  have x9 := HX2.out.c5
  have x10 := HX2.out.c6
  have x11 := HX2.out.c7
  have x12 := HX2.out.cl
  have x13 := HX2.out.cg
  have xf := HX2.out.f
  go_cut [14] (fun _ wx => ∃ s3, Hid (BoxG wx c an ar 1 az s3 aL aG) ∧ Hid (OwnM wx (c + 1) s3 af) ∧ Hid (BoxG wx w.heap.size 0 0 0 0 Sl.nil 0 0) ∧ Hid (Below w.heap.size w wx))
  case first =>
    have hbx : Below w.heap.size w w2.drew := bstep HB2.out (below_drew (Below.refl _ _))
    go_region_with (first | (go_at_call 7; (with_reducible refine (HSm.out _ hbx).mono ?_); rintro e w3 ⟨la, ln, lc, es, rfl, hrd, hes, hb3⟩; have hx3 := HX2.out.below (bstep (below_drew (Below.refl _ _)) hb3); have y0 := hx3.n0; have y1 := hx3.n1; have y2 := hx3.n2; have y3 := hx3.n3; have y4 := hx3.c0; have y5 := hx3.c1; have y6 := hx3.c2; have y7 := hx3.c3; have y8 := hx3.c4; have y9 := hx3.c5; have y10 := hx3.c6; have y11 := hx3.c7; have y12 := hx3.cl; have y13 := hx3.cg) | (go_at_call 10; (refine (HAd.out _ _ _ hrd hes).mono ?_); rintro e w4 ⟨s3, rfl, ho, hb4⟩; have hx4 := hx3.below hb4; have z0 := hx4.n0; have z1 := hx4.n1; have z2 := hx4.n2; have z3 := hx4.n3; have z4 := hx4.c0; have z5 := hx4.c1; have z6 := hx4.c2; have z7 := hx4.c3; have z8 := hx4.c4; have z9 := hx4.c5; have z10 := hx4.c6; have z11 := hx4.c7; have z12 := hx4.cl; have z13 := hx4.cg; have zf := hx4.f))
    all_goals
      have hlt3 := hx3.lt
      have r1 := hx4.all an ar 1 az s3 aL aG
      have r2 := (ho.mono (show c + 1 ≤ w3.heap.size by omega)).pts (show c < c + 1 by omega) (genL an ar 1 az s3 aL aG)
      have hbz := bstep (bstep (bstep HB2.out (below_drew (Below.refl _ _))) hb3) hb4
      have r3 := (((HR2.out.below (below_drew (Below.refl _ _))).below hb3).below hb4).pts_ne (show w.heap.size ≠ c by omega) (genL an ar 1 az s3 aL aG)
      have r4 := pts_below (B := w.heap.size) (b := c) (by omega) (genL an ar 1 az s3 aL aG) hbz
      go_wp2_with fail
      go_meet
      case rel => exact ⟨s3, Lib.hid r1, Lib.hid r2, Lib.hid r3, Lib.hid r4⟩
  case rest =>
    obtain ⟨s3, HX3, HO3, HR3, HB3⟩ := hcut
    clear HX2 HR2 HB2
    clear x0 x1 x2 x3 x4 x5 x6 x7 x8 x9 x10 x11 x12 x13 xf
    generalize hV6 : wc = w3 at *
    clear hV6
    rcases h24 with h0 | h0 | h0 | h0
    · have HE := Lib.hid (HG1.out (by rw [HMd.out, h0]; rfl))
      clear HMd HG1 HG2
      have x0 := HX3.out.n0
      have x1 := HX3.out.n1
      have x2 := HX3.out.n2
      have x3 := HX3.out.n3
      have x4 := HX3.out.c0
      have x5 := HX3.out.c1
      have x6 := HX3.out.c2
      have x7 := HX3.out.c3
      have x8 := HX3.out.c4
      have x9 := HX3.out.c5
      have x10 := HX3.out.c6
      have x11 := HX3.out.c7
      have x12 := HX3.out.cl
      have x13 := HX3.out.cg
      have r0 := HR3.out.n0
      have r1 := HR3.out.n1
      have r2 := HR3.out.n2
      have r3 := HR3.out.n3
      have r4 := HR3.out.c0
      have r5 := HR3.out.c1
      have r6 := HR3.out.c2
      have r7 := HR3.out.c3
      have r8 := HR3.out.c4
      have r9 := HR3.out.c5
      have r10 := HR3.out.c6
      have r11 := HR3.out.c7
      have r12 := HR3.out.cl
      have r13 := HR3.out.cg
      have rf := HR3.out.f
      go_wp2_with fail
      change bodyPost _ _ _ _ _ (pts w3 w.heap.size (genL an ar 1 az s3 aL aG))
      have hby := HR3.out.all an ar 1 az s3 aL aG
      have HBz := Lib.hid (pts_below (B := w.heap.size) (b := w.heap.size) (Nat.le_refl _) (genL an ar 1 az s3 aL aG) HB3.out)
      have hrd := (HO3.out.pts (show w.heap.size < c + 1 by omega) (genL an ar 1 az s3 aL aG)).mono (show w.heap.size ≤ c + 1 by omega)
      rw [HE.out]
      generalize pts w3 w.heap.size (genL an ar 1 az s3 aL aG) = V at *
      exact bodyPost_ret (v := genV an ar 1 az s3 aL aG) (by simp [results, Tryz.results6, go_sem, hby.n0, hby.n1, hby.n2, hby.n3, hby.c0, hby.c1, hby.c2, hby.c3, hby.c4, hby.c5, hby.c6, hby.c7, hby.cl, hby.cg]) rfl ⟨⟨_, rfl, hrd⟩, HBz.out⟩
    · have HE := Lib.hid (HG1.out (by rw [HMd.out, h0]; rfl))
      clear HMd HG1 HG2
      have x0 := HX3.out.n0
      have x1 := HX3.out.n1
      have x2 := HX3.out.n2
      have x3 := HX3.out.n3
      have x4 := HX3.out.c0
      have x5 := HX3.out.c1
      have x6 := HX3.out.c2
      have x7 := HX3.out.c3
      have x8 := HX3.out.c4
      have x9 := HX3.out.c5
      have x10 := HX3.out.c6
      have x11 := HX3.out.c7
      have x12 := HX3.out.cl
      have x13 := HX3.out.cg
      have r0 := HR3.out.n0
      have r1 := HR3.out.n1
      have r2 := HR3.out.n2
      have r3 := HR3.out.n3
      have r4 := HR3.out.c0
      have r5 := HR3.out.c1
      have r6 := HR3.out.c2
      have r7 := HR3.out.c3
      have r8 := HR3.out.c4
      have r9 := HR3.out.c5
      have r10 := HR3.out.c6
      have r11 := HR3.out.c7
      have r12 := HR3.out.cl
      have r13 := HR3.out.cg
      have rf := HR3.out.f
      go_wp2_with fail
      change bodyPost _ _ _ _ _ (pts w3 w.heap.size (genL an ar 1 az s3 aL aG))
      have hby := HR3.out.all an ar 1 az s3 aL aG
      have HBz := Lib.hid (pts_below (B := w.heap.size) (b := w.heap.size) (Nat.le_refl _) (genL an ar 1 az s3 aL aG) HB3.out)
      have hrd := (HO3.out.pts (show w.heap.size < c + 1 by omega) (genL an ar 1 az s3 aL aG)).mono (show w.heap.size ≤ c + 1 by omega)
      rw [HE.out]
      generalize pts w3 w.heap.size (genL an ar 1 az s3 aL aG) = V at *
      exact bodyPost_ret (v := genV an ar 1 az s3 aL aG) (by simp [results, Tryz.results6, go_sem, hby.n0, hby.n1, hby.n2, hby.n3, hby.c0, hby.c1, hby.c2, hby.c3, hby.c4, hby.c5, hby.c6, hby.c7, hby.cl, hby.cg]) rfl ⟨⟨_, rfl, hrd⟩, HBz.out⟩
    · have HE := Lib.hid (HG2.out 2 (by rw [HMd.out, h0]; rfl))
      clear HMd HG1 HG2
      have x0 := HX3.out.n0
      have x1 := HX3.out.n1
      have x2 := HX3.out.n2
      have x3 := HX3.out.n3
      have x4 := HX3.out.c0
      have x5 := HX3.out.c1
      have x6 := HX3.out.c2
      have x7 := HX3.out.c3
      have x8 := HX3.out.c4
      have x9 := HX3.out.c5
      have x10 := HX3.out.c6
      have x11 := HX3.out.c7
      have x12 := HX3.out.cl
      have x13 := HX3.out.cg
      have xf := HX3.out.f
      go_wp2_with fail
      refine (HFz.out s3 w3 HO3.out.rd).mono ?_
      rintro e w5 ⟨⟨s4, rfl, ho⟩, hb5⟩
      have HO5 := Lib.hid (show OwnM w5 (c + 1) s4 af from by
        rcases ho with ⟨rfl, hf⟩ | ho
        · exact HO3.out.keep hb5
        · exact ho.mono (by have := HX3.out.lt; omega))
      have HX5 := Lib.hid (HX3.out.below hb5)
      have HR5 := Lib.hid (HR3.out.below hb5)
      have HB5 := Lib.hid (bstep HB3.out hb5)
      clear hb5 ho HX3 HO3 HR3 HB3
      clear x0 x1 x2 x3 x4 x5 x6 x7 x8 x9 x10 x11 x12 x13 xf
      have x0 := HX5.out.n0
      have x1 := HX5.out.n1
      have x2 := HX5.out.n2
      have x3 := HX5.out.n3
      have x4 := HX5.out.c0
      have x5 := HX5.out.c1
      have x6 := HX5.out.c2
      have x7 := HX5.out.c3
      have x8 := HX5.out.c4
      have x9 := HX5.out.c5
      have x10 := HX5.out.c6
      have x11 := HX5.out.c7
      have x12 := HX5.out.cl
      have x13 := HX5.out.cg
      have xf := HX5.out.f
      go_upto_region 5 with fail
      change Code.wp _ _ _ _ (pts w5 c (genL an ar 2 az s4 aL aG))
      have HX4 := Lib.hid (HX5.out.all an ar 2 az s4 aL aG)
      have HR4 := Lib.hid (HR5.out.pts_ne (show w.heap.size ≠ c by omega) (genL an ar 2 az s4 aL aG))
      have HB4 := Lib.hid (pts_below (B := w.heap.size) (b := c) (by omega) (genL an ar 2 az s4 aL aG) HB5.out)
      have HO4 := Lib.hid (HO5.out.pts (show c < c + 1 by omega) (genL an ar 2 az s4 aL aG))
      generalize pts w5 c (genL an ar 2 az s4 aL aG) = w4 at *
      clear HX5 HR5 HB5 HO5
      clear x0 x1 x2 x3 x4 x5 x6 x7 x8 x9 x10 x11 x12 x13 xf
      have x0 := HX4.out.n0
      have x1 := HX4.out.n1
      have x2 := HX4.out.n2
      have x3 := HX4.out.n3
      have x4 := HX4.out.c0
      have x5 := HX4.out.c1
      have x6 := HX4.out.c2
      have x7 := HX4.out.c3
      have x8 := HX4.out.c4
      have x9 := HX4.out.c5
      have x10 := HX4.out.c6
      have x11 := HX4.out.c7
      have x12 := HX4.out.cl
      have x13 := HX4.out.cg
      have r0 := HR4.out.n0
      have r1 := HR4.out.n1
      have r2 := HR4.out.n2
      have r3 := HR4.out.n3
      have r4 := HR4.out.c0
      have r5 := HR4.out.c1
      have r6 := HR4.out.c2
      have r7 := HR4.out.c3
      have r8 := HR4.out.c4
      have r9 := HR4.out.c5
      have r10 := HR4.out.c6
      have r11 := HR4.out.c7
      have r12 := HR4.out.cl
      have r13 := HR4.out.cg
      have rf := HR4.out.f
      go_wp2_with fail
      change bodyPost _ _ _ _ _ (pts w4 w.heap.size (genL an ar 2 az s4 aL aG))
      have hby := HR4.out.all an ar 2 az s4 aL aG
      have HBz := Lib.hid (pts_below (B := w.heap.size) (b := w.heap.size) (Nat.le_refl _) (genL an ar 2 az s4 aL aG) HB4.out)
      have hrd := (HO4.out.pts (show w.heap.size < c + 1 by omega) (genL an ar 2 az s4 aL aG)).mono (show w.heap.size ≤ c + 1 by omega)
      rw [HE.out]
      generalize pts w4 w.heap.size (genL an ar 2 az s4 aL aG) = V at *
      exact bodyPost_ret (v := genV an ar 2 az s4 aL aG) (by simp [results, Tryz.results6, go_sem, hby.n0, hby.n1, hby.n2, hby.n3, hby.c0, hby.c1, hby.c2, hby.c3, hby.c4, hby.c5, hby.c6, hby.c7, hby.cl, hby.cg]) rfl ⟨⟨_, rfl, hrd⟩, HBz.out⟩
    · have HE := Lib.hid (HG2.out 3 (by rw [HMd.out, h0]; rfl))
      clear HMd HG1 HG2
      have x0 := HX3.out.n0
      have x1 := HX3.out.n1
      have x2 := HX3.out.n2
      have x3 := HX3.out.n3
      have x4 := HX3.out.c0
      have x5 := HX3.out.c1
      have x6 := HX3.out.c2
      have x7 := HX3.out.c3
      have x8 := HX3.out.c4
      have x9 := HX3.out.c5
      have x10 := HX3.out.c6
      have x11 := HX3.out.c7
      have x12 := HX3.out.cl
      have x13 := HX3.out.cg
      have xf := HX3.out.f
      go_wp2_with fail
      refine (HFz.out s3 w3 HO3.out.rd).mono ?_
      rintro e w5 ⟨⟨s4, rfl, ho⟩, hb5⟩
      have HO5 := Lib.hid (show OwnM w5 (c + 1) s4 af from by
        rcases ho with ⟨rfl, hf⟩ | ho
        · exact HO3.out.keep hb5
        · exact ho.mono (by have := HX3.out.lt; omega))
      have HX5 := Lib.hid (HX3.out.below hb5)
      have HR5 := Lib.hid (HR3.out.below hb5)
      have HB5 := Lib.hid (bstep HB3.out hb5)
      clear hb5 ho HX3 HO3 HR3 HB3
      clear x0 x1 x2 x3 x4 x5 x6 x7 x8 x9 x10 x11 x12 x13 xf
      have x0 := HX5.out.n0
      have x1 := HX5.out.n1
      have x2 := HX5.out.n2
      have x3 := HX5.out.n3
      have x4 := HX5.out.c0
      have x5 := HX5.out.c1
      have x6 := HX5.out.c2
      have x7 := HX5.out.c3
      have x8 := HX5.out.c4
      have x9 := HX5.out.c5
      have x10 := HX5.out.c6
      have x11 := HX5.out.c7
      have x12 := HX5.out.cl
      have x13 := HX5.out.cg
      have xf := HX5.out.f
      go_upto_region 5 with fail
      change Code.wp _ _ _ _ (pts w5 c (genL an ar 2 az s4 aL aG))
      have HX4 := Lib.hid (HX5.out.all an ar 2 az s4 aL aG)
      have HR4 := Lib.hid (HR5.out.pts_ne (show w.heap.size ≠ c by omega) (genL an ar 2 az s4 aL aG))
      have HB4 := Lib.hid (pts_below (B := w.heap.size) (b := c) (by omega) (genL an ar 2 az s4 aL aG) HB5.out)
      have HO4 := Lib.hid (HO5.out.pts (show c < c + 1 by omega) (genL an ar 2 az s4 aL aG))
      generalize pts w5 c (genL an ar 2 az s4 aL aG) = w4 at *
      clear HX5 HR5 HB5 HO5
      clear x0 x1 x2 x3 x4 x5 x6 x7 x8 x9 x10 x11 x12 x13 xf
      have x0 := HX4.out.n0
      have x1 := HX4.out.n1
      have x2 := HX4.out.n2
      have x3 := HX4.out.n3
      have x4 := HX4.out.c0
      have x5 := HX4.out.c1
      have x6 := HX4.out.c2
      have x7 := HX4.out.c3
      have x8 := HX4.out.c4
      have x9 := HX4.out.c5
      have x10 := HX4.out.c6
      have x11 := HX4.out.c7
      have x12 := HX4.out.cl
      have x13 := HX4.out.cg
      have xf := HX4.out.f
      go_wp2_with fail
      refine (HSe.out s4 w4 HO4.out.rd).mono ?_
      rintro e w5 ⟨⟨s6, rfl, ho⟩, hb5⟩
      have HO5 := Lib.hid (show OwnM w5 (c + 1) s6 af from by
        rcases ho with ⟨rfl, hf⟩ | ho
        · exact HO4.out.keep hb5
        · exact ho.mono (by have := HX4.out.lt; omega))
      have HX5 := Lib.hid (HX4.out.below hb5)
      have HR5 := Lib.hid (HR4.out.below hb5)
      have HB5 := Lib.hid (bstep HB4.out hb5)
      clear hb5 ho HX4 HO4 HR4 HB4
      clear x0 x1 x2 x3 x4 x5 x6 x7 x8 x9 x10 x11 x12 x13 xf
      have x0 := HX5.out.n0
      have x1 := HX5.out.n1
      have x2 := HX5.out.n2
      have x3 := HX5.out.n3
      have x4 := HX5.out.c0
      have x5 := HX5.out.c1
      have x6 := HX5.out.c2
      have x7 := HX5.out.c3
      have x8 := HX5.out.c4
      have x9 := HX5.out.c5
      have x10 := HX5.out.c6
      have x11 := HX5.out.c7
      have x12 := HX5.out.cl
      have x13 := HX5.out.cg
      have xf := HX5.out.f
      go_upto_region 7 with fail
      change Code.wp _ _ _ _ (pts w5 c (genL an ar 3 az s6 aL aG))
      have HX6 := Lib.hid (HX5.out.all an ar 3 az s6 aL aG)
      have HR6 := Lib.hid (HR5.out.pts_ne (show w.heap.size ≠ c by omega) (genL an ar 3 az s6 aL aG))
      have HB6 := Lib.hid (pts_below (B := w.heap.size) (b := c) (by omega) (genL an ar 3 az s6 aL aG) HB5.out)
      have HO6 := Lib.hid (HO5.out.pts (show c < c + 1 by omega) (genL an ar 3 az s6 aL aG))
      generalize pts w5 c (genL an ar 3 az s6 aL aG) = w6 at *
      clear HX5 HR5 HB5 HO5
      clear x0 x1 x2 x3 x4 x5 x6 x7 x8 x9 x10 x11 x12 x13 xf
      have x0 := HX6.out.n0
      have x1 := HX6.out.n1
      have x2 := HX6.out.n2
      have x3 := HX6.out.n3
      have x4 := HX6.out.c0
      have x5 := HX6.out.c1
      have x6 := HX6.out.c2
      have x7 := HX6.out.c3
      have x8 := HX6.out.c4
      have x9 := HX6.out.c5
      have x10 := HX6.out.c6
      have x11 := HX6.out.c7
      have x12 := HX6.out.cl
      have x13 := HX6.out.cg
      have r0 := HR6.out.n0
      have r1 := HR6.out.n1
      have r2 := HR6.out.n2
      have r3 := HR6.out.n3
      have r4 := HR6.out.c0
      have r5 := HR6.out.c1
      have r6 := HR6.out.c2
      have r7 := HR6.out.c3
      have r8 := HR6.out.c4
      have r9 := HR6.out.c5
      have r10 := HR6.out.c6
      have r11 := HR6.out.c7
      have r12 := HR6.out.cl
      have r13 := HR6.out.cg
      have rf := HR6.out.f
      go_wp2_with fail
      change bodyPost _ _ _ _ _ (pts w6 w.heap.size (genL an ar 3 az s6 aL aG))
      have hby := HR6.out.all an ar 3 az s6 aL aG
      have HBz := Lib.hid (pts_below (B := w.heap.size) (b := w.heap.size) (Nat.le_refl _) (genL an ar 3 az s6 aL aG) HB6.out)
      have hrd := (HO6.out.pts (show w.heap.size < c + 1 by omega) (genL an ar 3 az s6 aL aG)).mono (show w.heap.size ≤ c + 1 by omega)
      rw [HE.out]
      generalize pts w6 w.heap.size (genL an ar 3 az s6 aL aG) = V at *
      exact bodyPost_ret (v := genV an ar 3 az s6 aL aG) (by simp [results, Tryz.results6, go_sem, hby.n0, hby.n1, hby.n2, hby.n3, hby.c0, hby.c1, hby.c2, hby.c3, hby.c4, hby.c5, hby.c6, hby.c7, hby.cl, hby.cg]) rfl ⟨⟨_, rfl, hrd⟩, HBz.out⟩
end Go.Proofs.YtenkeodfijladaaGreatDoor

namespace Go.Proofs.YtenkeodfijladaaGreatDoor
open Go Go.RowKit

section
variable {P : Program} {ops : Array Oper} {md : Region.Mode}
/-- Number k is the late one: everything else of the head is waited for by the tail. -/
def lateB (md : Region.Mode) (ops : Array Oper) (n k : Nat) : Bool :=
  decide (n < ops.size) && decide (k < n) &&
  ((List.range n).all fun i => decide (i = k) || (List.range (n + 1)).any fun j => decide (i < j) && decide (j ≠ k) && Region.waitsFor md ops j i) && Region.chainB md ops n &&
  ((List.range n).all fun i => ((ops[i]?).map fun o => o.dst.isSome && o.after.all fun e => !Region.binds md e || decide (e.on < i)).getD false) &&
  ((List.range n).all fun i => (List.range n).all fun j => decide (i = j) || decide (dstOf ops i ≠ dstOf ops j)) &&
  Region.seqB md ops (ops.size - n) n ((List.range ops.size).map fun j => decide (j < n)).toArray &&
  decide (Region.ready md ops ((List.range ops.size).map fun j => decide (j ≤ n ∧ j ≠ k)).toArray = [k]) &&
  Region.seqB md ops (ops.size - (n + 1)) (n + 1) ((List.range ops.size).map fun j => decide (j ≤ n)).toArray
theorem late_last {n t : Nat} {listed : Array Bool} {ot : Oper} (hc : Region.chainB md ops n = true) (inv : HeadInv md ops n listed) (ht : n ≤ t) (htn : t ≠ n) (hot : ops[t]? = some ot)
    (hall : ∀ e ∈ ot.after, Region.binds md e = true → listed.getD e.on false = true) (htlt : t < ops.size) : False := by
  have h1 := List.all_eq_true.1 hc t (List.mem_range.2 htlt)
  simp only [Bool.or_eq_true, decide_eq_true_eq] at h1
  rcases h1 with h1 | h1
  · omega
  · obtain ⟨o', ho', e, he, hb, hon⟩ := Region.waitsFor_spec h1
    have : o' = ot := Option.some.inj (ho'.symm.trans hot)
    subst this
    have h2 := hall e he hb
    rw [hon, getD_both (inv.tail (t - 1) (by omega) (by omega))] at h2
    cases h2
theorem late_waits {n k : Nat} {listed : Array Bool} (hs : ∀ i, i < n → i ≠ k → ∃ j, j ≤ n ∧ i < j ∧ j ≠ k ∧ Region.waitsFor md ops j i = true) (hc : Region.chainB md ops n = true) (hn : n < ops.size) (inv : HeadInv md ops n listed) :
    ∀ (d i : Nat), n - i = d → i < n → i ≠ k → listed.getD i true = false → ∀ t, n ≤ t → t ∉ Region.ready md ops listed := by
  intro d
  induction d using Nat.strongRecOn with
  | _ d ih =>
    intro i hd hi hik hun t ht hr
    obtain ⟨_, ot, hot, hall⟩ := mem_ready.1 hr
    have htlt : t < ops.size := (Array.getElem?_eq_some_iff.1 hot).1
    by_cases htn : t = n
    · subst htn
      obtain ⟨j, hjle, hij, hjk, hw⟩ := hs i hi hik
      obtain ⟨oj, hoj, e, he, hb, hon⟩ := Region.waitsFor_spec hw
      by_cases hjt : j = t
      · subst hjt
        have : oj = ot := Option.some.inj (hoj.symm.trans hot)
        subst this
        have h2 := hall e he hb
        rw [hon, getD_both hun] at h2
        cases h2
      · cases hl : listed.getD j false with
        | true =>
          have h2 := inv.closed j oj hoj hl e he hb
          rw [hon, getD_both hun] at h2
          cases h2
        | false =>
          have hjs : j < listed.size := by rw [inv.size]; omega
          exact ih (t - j) (by omega) j rfl (by omega) hjk (getD_in hjs hl) t (Nat.le_refl _) hr
    · exact late_last hc inv ht htn hot hall htlt
variable {Q : Exit → Act → World → Prop}
theorem late_any {n k : Nat} {a0 : Act} {w0 : World} {Φ : Nat → Value → World → Prop} {F : Nat → Prop} {l : List Oper} {on ok : Oper} (hl : ops = l.toArray) (hB : lateB md ops n k = true) (hon : ops[n]? = some on) (hok : ops[k]? = some ok) (hkF : ¬ F k) (hN : ∀ i, i < n → ∀ t, dstOf ops i = some t → t < a0.tmps.size)
    (mono : ∀ j, j < n → ∀ v w1 w2, Below w1.heap.size w1 w2 → Φ j v w1 → Φ j v w2)
    (head : ∀ i o, i < n → ops[i]? = some o → ∀ f w1, Below w0.heap.size w0 w1 → (∀ e ∈ o.after, Region.binds md e = true → Φ e.on (f e.on) w1) →
      wpList P ops (Exit.then (RelPost (Φ i) (F i) (frm ops a0 f n).defers o.dst w1) Q) [o] (frm ops a0 f n) w1)
    (tail : ∀ f w1, Below w0.heap.size w0 w1 → (∀ j, j < n → Φ j (f j) w1) → (∀ j k, j < n → k < n → j ≠ k → F j → F k → blk (f j) ≠ blk (f k)) → wpList P ops Q (l.drop n) (frm ops a0 f n) w1)
    (tail2 : ∀ f w1, Below w0.heap.size w0 w1 → (∀ j, j < n → j ≠ k → Φ j (f j) w1) → (∀ j k, j < n → k < n → j ≠ k → F j → F k → blk (f j) ≠ blk (f k)) → wpList P ops Q (on :: ok :: l.drop (n + 1)) (frm ops a0 f n) w1) :
    ∀ (fuel : Nat) (T : List Nat) (s : Array Bool) (f : Nat → Value) (w : World), T.Nodup → T.length = fuel → (∀ j, j < n → (s.getD j false = false ↔ j ∈ T)) → (∀ j ∈ T, j < n) → HeadInv md ops n s → Below w0.heap.size w0 w →
      (∀ j, j < n → s.getD j false = true → Φ j (f j) w) → (∀ j, j < n → s.getD j false = true → F j → blk (f j) < w.heap.size) →
      (∀ j k, j < n → k < n → j ≠ k → s.getD j false = true → s.getD k false = true → F j → F k → blk (f j) ≠ blk (f k)) → wpAny P md ops Q (fuel + (ops.size - n)) s (frm ops a0 f n) w := by
  simp only [lateB, Bool.and_eq_true, decide_eq_true_eq] at hB
  obtain ⟨⟨⟨⟨⟨⟨⟨⟨hn, hkn⟩, hs0⟩, hc⟩, hfw⟩, hdd⟩, hsq⟩, hrk⟩, hsq2⟩ := hB
  have hs : ∀ i, i < n → i ≠ k → ∃ j, j ≤ n ∧ i < j ∧ j ≠ k ∧ Region.waitsFor md ops j i = true := fun i hi hik => by
    have h1 := List.all_eq_true.1 hs0 i (List.mem_range.2 hi)
    rw [Bool.or_eq_true, decide_eq_true_eq] at h1
    rcases h1 with h1 | h1
    · exact absurd h1 hik
    · obtain ⟨j, hj, h2⟩ := List.any_eq_true.1 h1
      simp only [Bool.and_eq_true, decide_eq_true_eq] at h2
      exact ⟨j, by have := List.mem_range.1 hj; omega, h2.1.1, h2.1.2, h2.2⟩
  have hfw' : ∀ i o, i < n → ops[i]? = some o → o.dst.isSome = true ∧ ∀ e ∈ o.after, Region.binds md e = true → e.on < i := fun i o hi ho => by
    have := List.all_eq_true.1 hfw i (List.mem_range.2 hi)
    rw [ho] at this
    simp only [Option.map_some, Option.getD_some, Bool.and_eq_true] at this
    refine ⟨this.1, fun e he hb => ?_⟩
    have h2 := Array.all_eq_true_iff_forall_mem.1 this.2 e he
    rw [hb] at h2
    simpa using h2
  have hdd' : ∀ i j, i < n → j < n → i ≠ j → dstOf ops i ≠ dstOf ops j := fun i j hi hj hij => by
    have := List.all_eq_true.1 (List.all_eq_true.1 hdd i (List.mem_range.2 hi)) j (List.mem_range.2 hj)
    simpa [hij] using this
  intro fuel
  induction fuel with
  | zero =>
    intro T s f w hT hlen hsT hTn inv hb hΦ hF hFF
    have hT0 : T = [] := List.length_eq_zero_iff.1 hlen
    subst hT0
    have hall : ∀ j, j < n → s.getD j false = true := fun j hj => by
      cases h : s.getD j false with
      | true => rfl
      | false => exact absurd ((hsT j hj).1 h) (by simp)
    have hse : s = ((List.range ops.size).map fun j => decide (j < n)).toArray := by
      apply Array.ext
      · simp [inv.size]
      · intro j h1 h2
        have hjs : j < ops.size := by rw [← inv.size]; exact h1
        simp only [List.getElem_toArray, List.getElem_map, List.getElem_range]
        by_cases e : j < n
        · have := hall j e
          rw [Array.getD_eq_getD_getElem?, Array.getElem?_eq_getElem h1] at this
          simp only [Option.getD_some] at this
          rw [this]; simp [e]
        · have := inv.tail j (by omega) hjs
          rw [Array.getD_eq_getD_getElem?, Array.getElem?_eq_getElem h1] at this
          simp only [Option.getD_some] at this
          rw [this]; simp [e]
    rw [Nat.zero_add]
    have hdl : (l.drop n).length = ops.size - n := by rw [hl]; simp
    have h3 := wpAny_of_seq (P := P) (md := md) (ops := ops) (Q' := Q) (l.drop n) n s (frm ops a0 f n) w (fun j => by rw [hl]; simp [List.getElem?_drop]) (by rw [hdl, hse]; exact hsq) (tail f w hb (fun j hj => hΦ j hj (hall j hj)) fun j k hj hk hjk => hFF j k hj hk hjk (hall j hj) (hall k hk))
    rwa [hdl] at h3
  | succ fuel ih =>
    intro T s f w hT hlen hsT hTn inv hb hΦ hF hFF
    have hTne : T ≠ [] := fun e => by rw [e] at hlen; cases hlen
    obtain ⟨m, hm, hle⟩ := least_of hTne
    have hmn := hTn m hm
    have hun : s.getD m false = false := (hsT m hmn).2 hm
    have hms : m < s.size := by rw [inv.size]; omega
    obtain ⟨om, hom⟩ : ∃ o, ops[m]? = some o := ⟨_, Array.getElem?_eq_getElem (by omega)⟩
    have hready : m ∈ Region.ready md ops s := mem_ready.2 ⟨getD_in hms hun, om, hom, fun e he hbnd => by
      have h1 := (hfw' m om hmn hom).2 e he hbnd
      cases h2 : s.getD e.on false with
      | true => rfl
      | false =>
        have := hle _ ((hsT e.on (by omega)).1 h2)
        omega⟩
    rw [show fuel + 1 + (ops.size - n) = (fuel + (ops.size - n)) + 1 by omega]
    refine ⟨fun e => absurd hready (by rw [e]; simp), fun i hi => ?_⟩
    obtain ⟨hiu, oi, hoi, hdeps⟩ := mem_ready.1 hi
    by_cases hin0 : n ≤ i
    · -- the late one alone is left, and the tail's first comes ahead of it
      have his : i < ops.size := (Array.getElem?_eq_some_iff.1 hoi).1
      have hine : i = n := Classical.byContradiction fun e => late_last hc inv hin0 e hoi hdeps his
      subst hine
      have hallk : ∀ j, j < i → j ≠ k → s.getD j false = true := fun j hj hjk => by
        cases h : s.getD j false with
        | true => rfl
        | false => exact absurd hi (late_waits hs hc hn inv _ j rfl hj hjk (getD_in (by rw [inv.size]; omega) h) i (Nat.le_refl _))
      have hku : s.getD k false = false := by
        cases h : s.getD k false with
        | false => rfl
        | true =>
          have : s.getD m false = true := by
            by_cases e : m = k
            · rw [e]; exact h
            · exact hallk m hmn e
          rw [this] at hun; cases hun
      have hf0 : fuel = 0 := by
        have h1 : ∀ j ∈ T, j = k := fun j hj => by
          refine Classical.byContradiction fun e => ?_
          have h2 := (hsT j (hTn j hj)).2 hj
          rw [hallk j (hTn j hj) e] at h2
          cases h2
        match T, hT, hlen, h1 with
        | [x], _, hlen, _ => simpa using hlen.symm
        | x :: y :: r, hT, _, h1 =>
          have e1 := h1 x (by simp)
          have e2 := h1 y (by simp)
          rw [e1, e2] at hT
          simp at hT
      subst hf0
      have hss : s.setIfInBounds i true = ((List.range ops.size).map fun j => decide (j ≤ i ∧ j ≠ k)).toArray := by
        apply Array.ext
        · simp [inv.size]
        · intro j h1 h2
          have hjs : j < ops.size := by simpa [inv.size] using h1
          have hjs2 : j < s.size := by rw [inv.size]; exact hjs
          simp only [List.getElem_toArray, List.getElem_map, List.getElem_range]
          rw [Array.getElem_setIfInBounds hjs2]
          by_cases e : i = j
          · rw [if_pos e]; simp only [← e]; simp; omega
          · rw [if_neg e]
            by_cases e2 : j < i
            · by_cases e3 : j = k
              · have hkk := hku
                rw [← e3, Array.getD_eq_getD_getElem?, Array.getElem?_eq_getElem hjs2] at hkk
                simp only [Option.getD_some] at hkk
                rw [hkk]; simp [e3]
              · have := hallk j e2 e3
                rw [Array.getD_eq_getD_getElem?, Array.getElem?_eq_getElem hjs2] at this
                simp only [Option.getD_some] at this
                rw [this]; simp [e3]; omega
            · have := inv.tail j (by omega) hjs
              rw [Array.getD_eq_getD_getElem?, Array.getElem?_eq_getElem hjs2] at this
              simp only [Option.getD_some] at this
              rw [this]; simp; omega
      have hss2 : (s.setIfInBounds i true).setIfInBounds k true = ((List.range ops.size).map fun j => decide (j ≤ i)).toArray := by
        rw [hss]
        apply Array.ext
        · simp
        · intro j h1 h2
          have hjs : j < ops.size := by simpa using h1
          rw [Array.getElem_setIfInBounds (by simpa using h1)]
          simp only [List.getElem_toArray, List.getElem_map, List.getElem_range]
          by_cases e : k = j
          · rw [if_pos e]; subst e; simp; omega
          · rw [if_neg e]
            have e' : ¬ j = k := fun e2 => e e2.symm
            simp [e']
      have ht2 := tail2 f w hb (fun j hj hjk => hΦ j hj (hallk j hj hjk)) fun j k' hj hk' hjk hFj hFk => by
        have a1 : j ≠ k := fun e => hkF (e ▸ hFj)
        have a2 : k' ≠ k := fun e => hkF (e ▸ hFk)
        exact hFF j k' hj hk' hjk (hallk j hj a1) (hallk k' hk' a2) hFj hFk
      have hw1 : wpOp P ops Q i (wpList P ops Q (ok :: l.drop (i + 1))) (frm ops a0 f i) w := by unfold wpOp; simp only [hon]; exact ht2
      have hg : 0 + (ops.size - i) = (ops.size - (i + 1)) + 1 := by omega
      rw [hg]
      refine wpOp_mono (fun a' w' h' => ?_) hw1
      refine ⟨fun e => ?_, fun j hj => ?_⟩
      · rw [hss, hrk] at e; cases e
      · rw [hss, hrk] at hj
        have hjk : j = k := by simpa using hj
        subst hjk
        have hw2 : wpOp P ops Q j (wpList P ops Q (l.drop (i + 1))) a' w' := by unfold wpOp; simp only [hok]; exact h'
        refine wpOp_mono (fun a'' w'' h'' => ?_) hw2
        rw [hss2]
        have hdl : (l.drop (i + 1)).length = ops.size - (i + 1) := by rw [hl]; simp
        have h3 := wpAny_of_seq (P := P) (md := md) (ops := ops) (Q' := Q) (l.drop (i + 1)) (i + 1) _ a'' w'' (fun j => by rw [hl]; simp [List.getElem?_drop]) (by rw [hdl]; exact hsq2) h''
        rwa [hdl] at h3
    have hin : i < n := Nat.lt_of_not_le hin0
    have hiT : i ∈ T := (hsT i hin).1 (getD_both hiu)
    have hfi := hfw' i oi hin hoi
    have hdo : dstOf ops i = oi.dst := by unfold dstOf; rw [hoi]; rfl
    unfold wpOp
    rw [hoi]
    simp only []
    have hh := head i oi hin hoi f w hb fun e he hbnd => hΦ e.on (by have := hfi.2 e he hbnd; omega) (hdeps e he hbnd)
    refine rel_one hh (fun v w' hR => ?_) (fun d v w' hR => ?_)
    · obtain ⟨_, hbw, hv⟩ := hR
      have hval : ∀ i, i < n → oi.dst.isSome = true → dstOf ops i = oi.dst → (∀ t, oi.dst = some t → Φ i (((frm ops a0 f n).put oi.dst v).tmps.getD t undef) w' ∧ (F i → w.heap.size ≤ blk (((frm ops a0 f n).put oi.dst v).tmps.getD t undef) ∧ blk (((frm ops a0 f n).put oi.dst v).tmps.getD t undef) < w'.heap.size)) → Φ i v w' ∧ (F i → w.heap.size ≤ blk v ∧ blk v < w'.heap.size) := fun i hi h1 hdo h => by
        obtain ⟨t, ht⟩ := Option.isSome_iff_exists.1 h1
        have h4 := h t ht
        have h5 : t < (frm ops a0 f n).tmps.size := by rw [frm_size]; exact hN i hi t (by rw [hdo, ht])
        rw [ht] at h4
        simpa [Act.put, h5] using h4
      rw [← hdo, frm_put ops a0 f i v n hin fun j hj hji => .inr (hdd' i j hin hj (Ne.symm hji))]
      refine ih (T.erase i) _ _ w' (hT.erase i) (by rw [List.length_erase_of_mem hiT]; omega) (fun j hj => ?_) (fun j hj => hTn j (List.mem_of_mem_erase hj)) (inv.set hi hin) (bstep hb hbw) (fun j hj hjs => ?_) (fun j hj hjs hFj => ?_) (fun j k hj hk hjk hjs hks hFj hFk => ?_)
      · rw [hT.mem_erase_iff]
        by_cases e : j = i
        · subst e
          have hjs : j < s.size := by rw [inv.size]; omega
          simp [Array.getD_eq_getD_getElem?, hjs]
        · rw [getD_set_ne false (Ne.symm e), hsT j hj]
          simp [e]
      · by_cases e : j = i
        · subst e
          have : updF f j v j = v := if_pos rfl
          rw [this]
          exact (hval j hj hfi.1 hdo hv).1
        · have : updF f i v j = f j := if_neg e
          rw [this]
          rw [getD_set_ne false (Ne.symm e)] at hjs
          exact mono j hj _ _ _ hbw (hΦ j hj hjs)
      · by_cases e : j = i
        · subst e
          have : updF f j v j = v := if_pos rfl
          rw [this]
          exact ((hval j hj hfi.1 hdo hv).2 hFj).2
        · have : updF f i v j = f j := if_neg e
          rw [this]
          rw [getD_set_ne false (Ne.symm e)] at hjs
          exact Nat.lt_of_lt_of_le (hF j hj hjs hFj) hbw.size
      · by_cases e : j = i
        · subst e
          have e1 : updF f j v j = v := if_pos rfl
          have e2 : updF f j v k = f k := if_neg (Ne.symm hjk)
          rw [e1, e2]
          rw [getD_set_ne false hjk] at hks
          have h1 := ((hval j hj hfi.1 hdo hv).2 hFj).1
          have h2 := hF k hk hks hFk
          omega
        · have e1 : updF f i v j = f j := if_neg e
          rw [e1]
          rw [getD_set_ne false (Ne.symm e)] at hjs
          by_cases e3 : k = i
          · subst e3
            have e2 : updF f k v k = v := if_pos rfl
            rw [e2]
            have h1 := ((hval k hk hfi.1 hdo hv).2 hFk).1
            have h2 := hF j hj hjs hFj
            omega
          · have e2 : updF f i v k = f k := if_neg e3
            rw [e2]
            rw [getD_set_ne false (Ne.symm e3)] at hks
            exact hFF j k hj hk hjk hjs hks hFj hFk
    · have h1 := hR.1
      have h2 := congrArg List.length h1
      cases hod : oi.dst <;> simp [Act.put, hod] at h2
theorem wp_region_late {id : Nat} {a0 : Act} {w : World} {l : List Oper} (L : List Sta) (F : List Nat) (N k : Nat) {on ok : Oper} (hm : P.follows .mixedOrders = true) (hB : lateB .any l.toArray L.length k = true) (hon : l.toArray[L.length]? = some on) (hok : l.toArray[k]? = some ok) (hkF : k ∉ F)
    (hsz : a0.tmps.size = N) (hN : dstLtB l.toArray L.length N = true) {fr : (Nat → Value) → Act} (hfr : ∀ f, frm l.toArray a0 f L.length = fr f)
    (head : HeadL P Q l.toArray L F fr w l L 0)
    (tail : ∀ f w1, Below w.heap.size w w1 → (∀ j, j < L.length → (stA L j).p (f j) w1) → (∀ j k, j < L.length → k < L.length → j ≠ k → j ∈ F → k ∈ F → blk (f j) ≠ blk (f k)) → wpList P l.toArray Q (l.drop L.length) (fr f) w1)
    (tail2 : ∀ f w1, Below w.heap.size w w1 → (∀ j, j < L.length → j ≠ k → (stA L j).p (f j) w1) → (∀ j k, j < L.length → k < L.length → j ≠ k → j ∈ F → k ∈ F → blk (f j) ≠ blk (f k)) → wpList P l.toArray Q (on :: ok :: l.drop (L.length + 1)) (fr f) w1) : (Code.region id l.toArray true).wp P Q a0 w := by
  have hn : L.length < l.toArray.size := by
    simp only [lateB, Bool.and_eq_true, decide_eq_true_eq] at hB
    exact hB.1.1.1.1.1.1.1.1
  refine wp_region_any hm ?_
  have h := late_any (k := k) (md := .any) (Q := Q) (P := P) (n := L.length) (a0 := a0) (w0 := w) (Φ := fun j => (stA L j).p) (F := fun j => j ∈ F) rfl hB hon hok hkF
    (fun i hi t ht => by
      have h1 := List.all_eq_true.1 hN i (List.mem_range.2 hi)
      rw [ht] at h1
      rw [hsz]
      simpa using h1)
    (fun j _ v w1 w2 hb h => (stA L j).m v w1 w2 hb h)
    (fun i o hi ho f w1 hb hd => by
      rw [hfr]
      have hS : L[i]? = some (stA L i) := by
        unfold stA
        rw [List.getD_eq_getElem?_getD, List.getElem?_eq_getElem hi]; rfl
      have h2 := headL_at l L 0 head i o (stA L i) (by simpa using ho) hS f w1 hb (fun j hj => by
        unfold depB at hj
        obtain ⟨e, he, h3⟩ := Array.any_eq_true'.1 hj
        simp only [Bool.and_eq_true, beq_iff_eq] at h3
        rw [← h3.2]
        exact hd e he h3.1)
      rwa [Nat.zero_add] at h2)
    (fun f w1 hb hΦ hFF => by rw [hfr]; exact tail f w1 hb hΦ hFF)
    (fun f w1 hb hΦ hFF => by rw [hfr]; exact tail2 f w1 hb hΦ hFF)
    L.length (List.range L.length) (Array.replicate l.toArray.size false) (fun j => match dstOf l.toArray j with | some d => a0.tmps.getD d undef | none => undef) w.drew
    List.nodup_range (by simp) (fun j hj => by rw [getD_replicate_false]; simp [hj]) (fun j hj => by simpa using hj)
    ⟨by simp, fun j oj _ hl => (by rw [getD_replicate_false] at hl; cases hl), fun t _ ht => getD_in (by simpa using ht) (getD_replicate_false _ _)⟩
    (below_drew (Below.refl _ _)) (fun j _ hl => by rw [getD_replicate_false] at hl; cases hl) (fun j _ hl => by rw [getD_replicate_false] at hl; cases hl) (fun j k _ _ _ hl => by rw [getD_replicate_false] at hl; cases hl)
  have e0 : frm l.toArray a0 (fun j => match dstOf l.toArray j with | some d => a0.tmps.getD d undef | none => undef) L.length = a0 := frm_id _ _ _
  rw [e0, show L.length + (l.toArray.size - L.length) = l.toArray.size by omega] at h
  exact h
end
end Go.Proofs.YtenkeodfijladaaGreatDoor

namespace Go.Proofs.YtenkeodfijladaaGreatDoor
open Go.RowKit

theorem own_pts_neG {B b : Nat} {e : TypeId} {sz n : Nat} {v : Value} {xs : List Value} (hne : v.ownBlock ≠ some b) : ∀ (vs : List (Nat × Value)) (w : World), w.ownsRow B e sz v n xs → (pts w b vs).ownsRow B e sz v n xs
  | [], _, h => h
  | (i, u) :: r, _, h => own_pts_neG hne r _ (ownsRow_setCell_other (a := ⟨b, i, none⟩) h hne u)
theorem OwnM.pts_neG {w : World} {B b : Nat} {s : Sl} {f : Nat → List It} (h : OwnM w B s f) (hne : ∀ i, i < 8 → (s.v i).ownBlock ≠ some b) (vs : List (Nat × Value)) : OwnM (Go.Proofs.YtenkeodfijladaaGreatDoor.pts w b vs) B s f := fun i hi => own_pts_neG (hne i hi) vs w (h i hi)
/-- A block of cells, with its type. -/
def BlkT (t : TypeId) (w : World) (b : Nat) : Prop := ∃ cs, w.heap[b]? = some (.cells cs t (0, 0))
theorem BlkT.lt {t : TypeId} {w : World} {b : Nat} (h : BlkT t w b) : b < w.heap.size := by
  obtain ⟨cs, h⟩ := h
  exact (Array.getElem?_eq_some_iff.1 h).1
theorem BlkT.below {t : TypeId} {w w' : World} {b : Nat} (h : BlkT t w b) (hb : Below w.heap.size w w') : BlkT t w' b := by
  have hl := h.lt
  obtain ⟨cs, h⟩ := h
  exact ⟨cs, by rw [hb.block b hl]; exact h⟩
theorem BlkT.new (t : TypeId) (w : World) (cs : Array Value) : BlkT t (w.alloc (.cells cs t)) w.heap.size := ⟨cs, heap_alloc_new w _⟩
theorem BlkT.ne {t : TypeId} {w : World} {b B : Nat} {s : Sl} {f : Nat → List It} (h : BlkT t w b) (ht : t ≠ 77) (ho : OwnM w B s f) : ∀ i, i < 8 → (s.v i).ownBlock ≠ some b := fun i hi e => by
  obtain ⟨cs, h⟩ := h
  obtain ⟨c, fz, h1⟩ := Lib.ownsRow_kind (ho i hi) b e
  rw [h1] at h
  injection h with h
  injection h with _ h2
  exact ht h2.symm
theorem BlkT.set {t : TypeId} {w : World} {b : Nat} (h : BlkT t w b) (c i : Nat) (u : Value) : BlkT t (w.setCell ⟨c, i, none⟩ u) b := by
  have hl := h.lt
  obtain ⟨cs, h⟩ := h
  by_cases e : b = c
  · subst e
    refine ⟨cs.setIfInBounds i u, ?_⟩
    have hk := (Array.getElem?_eq_some_iff.1 h).2
    show (w.heap.modify b _)[b]? = _
    rw [Array.getElem?_eq_getElem (by rw [Array.size_modify]; exact hl), Array.getElem_modify_self, hk]
    rfl
  · exact ⟨cs, by rw [Below.heap_setCell w ⟨c, i, none⟩ u b e]; exact h⟩
theorem BlkT.pts {t : TypeId} {b c : Nat} : ∀ (vs : List (Nat × Value)) {w : World}, BlkT t w b → BlkT t (Go.Proofs.YtenkeodfijladaaGreatDoor.pts w c vs) b
  | [], _, h => h
  | (i, u) :: r, _, h => BlkT.pts r (h.set c i u)
/-! ### What operations leave -/
/-- Needles that can be read. -/
def needL (L : List Nd) : Sta := ⟨fun v w => ∃ a n c es, v = .slice a n c ∧ RdN w (.slice a n c) es ∧ es.map (·.1) = L, fun _ _ _ hb ⟨a, n, c, es, h1, h2, h3⟩ => ⟨a, n, c, es, h1, h2.below hb, h3⟩⟩
/-- A generation and its error; a generation; a generation's box. -/
def tupS (c a b md z : Int) (f : Nat → List It) (L G : Int) : Sta := ⟨fun v w => ∃ s, v = .tuple #[genV a b md z s L G, .int .i64 c] ∧ OwnM w 0 s f, fun _ _ _ hb ⟨s, h1, h2⟩ => ⟨s, h1, h2.keep hb⟩⟩
def genS (a b md z : Int) (f : Nat → List It) (L G : Int) : Sta := ⟨fun v w => ∃ s, v = genV a b md z s L G ∧ OwnM w 0 s f, fun _ _ _ hb ⟨s, h1, h2⟩ => ⟨s, h1, h2.keep hb⟩⟩
def boxGS (t : TypeId) (B : Nat) : Sta := ⟨fun v w => ∃ b, v = .pointer (some ⟨b, 0, none⟩) ∧ B ≤ b ∧ BoxG w b 0 0 0 0 Sl.nil 0 0 ∧ BlkT t w b, fun _ _ _ hb ⟨b, h1, h2, h3, h4⟩ => ⟨b, h1, h2, h3.below hb, h4.below hb⟩⟩
/-- What a change hands back, its parts by name. -/
abbrev GR (w0 : World) (c a b md z : Int) (f : Nat → List It) (L G : Int) (e : Ending) (w' : World) : Prop := (∃ s, e = .returned (.tuple #[genV a b md z s L G, .int .i64 c]) ∧ OwnM w' w0.heap.size s f) ∧ Below w0.heap.size w0 w'
end Go.Proofs.YtenkeodfijladaaGreatDoor
