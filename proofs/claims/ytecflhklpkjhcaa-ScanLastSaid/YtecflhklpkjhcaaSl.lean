/- Needles in memory, and the law's small. -/
import Derived.Test.YtecflhklpkjhcaaNo
namespace Go.Proofs.Ytecflhklpkjhcaa
open Go.RowKit

def needC (p : Nd × Value) : List Value := [.int .u64 (p.1.key : Int), .int .u32 (p.1.ck : Int), .bool p.1.del, p.2]
theorem needC_len (p : Nd × Value) : (needC p).length = 4 := rfl
def needsC (es : List (Nd × Value)) : List Value := es.flatMap needC
theorem needsC_length (es : List (Nd × Value)) : (needsC es).length = es.length * 4 := flat_length 4 needC es fun x _ => needC_len x
theorem needsC_snoc (es : List (Nd × Value)) (p : Nd × Value) : needsC (es ++ [p]) = needsC es ++ needC p := by simp [needsC]
theorem need_one (x : Nd) (a : Option Addr) (n c : Nat) : ∀ u ∈ needC (x, .slice a n c), u.oneCell' = true := by
  intro u hu; simp only [needC, List.mem_cons, List.not_mem_nil, or_false] at hu; rcases hu with h | h | h | h <;> rw [h] <;> rfl
theorem elemN : ElemT Try.prog 22 31 4 40 := by
  obtain ⟨i, hi, hz, hs, hb⟩ := info_parts (P := Try.prog) (e := 31) (z := .agg #[.int .u64 0, .int .u32 0, .bool false, .slice none 0 0]) (size := 4) (bytes := 40) (by kernel_rfl)
  exact ⟨Try.underlying22, by decide, i, _, hi, hz, hs, hb, rfl⟩
/-- Reading of needles: the cells, and each one's data. -/
structure RdN (w : World) (v : Value) (es : List (Nd × Value)) : Prop where
  row : Rd w 4 v es.length (needsC es)
  dat : ∀ p ∈ es, RdB w p.2 p.1.data
theorem RdN.below {w w' : World} {v : Value} {es : List (Nd × Value)} (h : RdN w v es) (hb : Below w.heap.size w w') : RdN w' v es := ⟨h.row.below hb, fun p hp => RdL.below (h.dat p hp) hb⟩
def nat' (es : List (Nd × Value)) (j : Nat) : Nd × Value := es.getD j (nd0, .slice none 0 0)
theorem nat'_mem {es : List (Nd × Value)} {j : Nat} (h : j < es.length) : nat' es j ∈ es := by
  unfold nat'; rw [List.getD_eq_getElem?_getD, List.getElem?_eq_getElem h]; exact List.getElem_mem h
theorem RdN.shape {w : World} {v : Value} {es : List (Nd × Value)} (h : RdN w v es) : ∃ a cap, v = .slice a es.length cap ∧ es.length ≤ cap ∧ cap ≤ maxLen := by
  obtain ⟨_, a, cap, h1, h2, h3, _⟩ := h.row
  exact ⟨a, cap, h1, h2, h3⟩
theorem RdN.at {w : World} {a : Option Addr} {n cap : Nat} {es : List (Nd × Value)} (h : RdN w (.slice a n cap) es) {j : Nat} (hj : j < n) : ∃ b off, a = some ⟨b, off, none⟩ ∧ RdB w (nat' es j).2 (nat' es j).1.data ∧
    w.cell? ⟨b, off + j * 4, none⟩ = some (.int .u64 ((nat' es j).1.key : Int)) ∧ w.cell? ⟨b, off + j * 4 + 1, none⟩ = some (.int .u32 ((nat' es j).1.ck : Int)) ∧
    w.cell? ⟨b, off + j * 4 + 2, none⟩ = some (.bool (nat' es j).1.del) ∧ w.cell? ⟨b, off + j * 4 + 3, none⟩ = some (nat' es j).2 := by
  have hn : n = es.length := by
    obtain ⟨_, _, _, e, _⟩ := h.row
    injection e
  subst hn
  obtain ⟨_, a', cap', e, _, _, _, hc⟩ := h.row
  injection e with e1
  obtain ⟨b, off, e2, hc⟩ := hc (by rw [needsC_length]; omega)
  refine ⟨b, off, e1.trans e2, h.dat _ (nat'_mem hj), ?_⟩
  have hat : ∀ i, i < 4 → ∀ u, (needC (nat' es j))[i]? = some u → w.cell? ⟨b, off + (j * 4 + i), none⟩ = some u := fun i hi u hu => hc (j * 4 + i) u (by
    rw [show needsC es = es.flatMap needC from rfl, flat_at 4 needC (nd0, .slice none 0 0) es (fun _ _ => rfl) j i hj hi]; exact hu)
  exact ⟨hat 0 (by omega) _ rfl, hat 1 (by omega) _ rfl, hat 2 (by omega) _ rfl, hat 3 (by omega) _ rfl⟩
/-- A needle made small. -/
def sm1 (x : Nd) : Nd := ⟨if 1000 < x.key then x.key % 8 else x.key, x.ck, x.del, if x.del then [] else x.data.take 60⟩
def smallF (l : List Nd) : List Nd := (l.take 12).map sm1
theorem sm1_ok (x : Nd) : (sm1 x).ok := by
  unfold sm1 Nd.ok
  dsimp only
  cases hd : x.del
  · exact ⟨by rw [if_neg (by simp)]; rw [List.length_take]; omega, fun h => by cases h⟩
  · exact ⟨by rw [if_pos rfl]; exact Nat.zero_le _, fun _ => by rw [if_pos rfl]⟩
theorem sm1_wf {x : Nd} (h : x.Wf) : (sm1 x).Wf := by
  obtain ⟨h1, h2⟩ := h
  refine ⟨?_, h2⟩
  unfold sm1
  dsimp only
  split <;> omega
theorem sm1_len (x : Nd) : (sm1 x).data.length ≤ 60 := by
  unfold sm1; dsimp only
  split
  · exact Nat.zero_le _
  · rw [List.length_take]; omega
theorem key7 (k : Nat) (h : k < 18446744073709551616) : bits .and .u64 (k : Int) 7 = ((k % 8 : Nat) : Int) := by
  have := u64_and_nat k 7 h (by decide)
  rw [show ((7 : Nat) : Int) = 7 from rfl] at this
  rw [this, show (7 : Nat) = 2 ^ 3 - 1 from rfl, Nat.and_two_pow_sub_one_eq_mod]
/-- What small leaves: needles in a row of the call's own, whose data lie where they lay. -/
def SmRes (w0 : World) (ns : List Nd) (e : Ending) (w' : World) : Prop :=
  ∃ lv es, e = .returned lv ∧ w'.ownsRow w0.heap.size 31 4 lv es.length (needsC es) ∧ es.map (·.1) = smallF ns ∧ (∀ p ∈ es, RdB w0 p.2 p.1.data) ∧ Below w0.heap.size w0 w'
theorem RdB_nil (w : World) : RdB w (.slice none 0 0) [] := own_rdl (World.ownsRow_nil w 0 5 1)
set_option maxRecDepth 100000 in
set_option maxHeartbeats 8000000 in
theorem small_any (v : Value) (ns : List (Nd × Value)) (w : World) (h : RdN w v ns) (hwf : ∀ p ∈ ns, p.1.Wf) :
    Calls Try.prog 10 #[v] w (SmRes w (ns.map (·.1))) := by
  obtain ⟨a, cap, rfl, h1, h2⟩ := h.shape
  have Hw0 := Lib.hid h
  have HW := Lib.hid hwf
  have HM := Lib.hid (show ∀ j, j < ns.length → nat' ns j ∈ ns from fun j => nat'_mem)
  have HS := Lib.hid (show ∀ j, j < ns.length → j < 12 → smallF ((ns.map (·.1)).take (j + 1)) = smallF ((ns.map (·.1)).take j) ++ [sm1 (nat' ns j).1] from fun j hj h12 => by
    unfold smallF nat'
    rw [List.take_take, List.take_take, Nat.min_eq_right (by omega), Nat.min_eq_right (by omega), List.take_add_one, List.getElem?_map, List.getElem?_eq_getElem hj, List.map_append, List.getD_eq_getElem?_getD, List.getElem?_eq_getElem hj]
    rfl)
  have HE := Lib.hid (show ∀ j, j ≤ 12 → (j = ns.length ∨ j = 12) → smallF ((ns.map (·.1)).take j) = smallF (ns.map (·.1)) from fun j hj h12 => by
    unfold smallF
    rw [List.take_take]
    rcases h12 with h12 | h12
    · rw [List.take_of_length_le (by rw [List.length_map, h12, Nat.min_def]; split <;> omega), List.take_of_length_le (by rw [List.length_map]; omega)]
    · rw [h12, Nat.min_self])
  generalize hn : ns.length = n at *
  clear h hwf hn
  generalize ns.map (·.1) = N at *
  go_enter Try.func10, Try.ntmps10
  go_wp2_with fail
  go_loopw [3, 4] (fun ov iv W => ∃ (i : Nat) (es : List (Nd × Value)), iv = .int .i64 (i : Int) ∧ i ≤ n ∧ i ≤ 12 ∧ es.length = i ∧ Hid (W.ownsRow w.heap.size 31 4 ov i (needsC es)) ∧ Hid (es.map (·.1) = smallF (N.take i)) ∧ Hid (∀ p ∈ es, RdB w p.2 p.1.data) ∧ Hid (Below w.heap.size w W)) (fun _ iv _ => n - (intOf iv).toNat)
  case atStart => exact ⟨0, [], rfl, Nat.zero_le _, by omega, rfl, Lib.hid (World.ownsRow_nil _ _ _ _), Lib.hid rfl, Lib.hid (fun p hp => by cases hp), Lib.hid (Below.refl _ _)⟩
  case round =>
    obtain ⟨i, es, rfl, hi, hi2, hl, HO, HEs, HDt, HB⟩ := hrel
    have hsz := HB.out.size
    by_cases hin : i < n
    · by_cases h12 : i < 12
      · have q1 : decide (i < n) = true := decide_eq_true hin
        have q2 : decide ((i : Int) < 12) = true := decide_eq_true (by omega)
        have hr := Hw0.out.below HB.out
        obtain ⟨pb, poff, rfl, _, c0, c1, c2, c3⟩ := hr.at hin
        have Hx := Lib.hid (Hw0.out.dat _ (HM.out i hin))
        have HSi := Lib.hid (HS.out i hin h12)
        have hkw := (HW.out _ (HM.out i hin)).1
        clear hr
        generalize nat' ns i = X at *
        obtain ⟨⟨k, c, d, l⟩, dv⟩ := X
        dsimp only at *
        obtain ⟨xa, xc, rfl, hx1, hx2⟩ := Hx.out.shape0
        have hk7 := key7 k hkw
        have i1 : (i : Int) < (n : Int) := by omega
        generalize hm : l.length = m at *
        have HmL := Lib.hid hm
        clear hm
        cases d
        · by_cases b60 : 60 < m
          · have hto := fun W kh => slice_to (P := Try.prog) elemB (a := xa) (n := m) (cap := xc) (RdL.spot Hx.out (by omega)) 60 (by omega) W kh
            rw [show ((60 : Nat) : Int) = 60 from rfl] at hto
            by_cases bk : 1000 < k
            · have f60 : decide ((60 : Int) < (m : Int)) = true := by simp; omega
              have fk : decide ((1000 : Int) < (k : Int)) = true := by simp; omega
              have HEl := Lib.hid (show sm1 ⟨k, c, false, l⟩ = ⟨k % 8, c, false, l.take 60⟩ by unfold sm1; dsimp only; rw [if_pos (by omega), if_neg (by simp)])
              go_wp2_with (at_builtin; go_must (refine wpList_app (n := i) (m := 1) rfl (.tmp 38) (.tmp 40) 22 rfl elemN w.heap.size rfl (own_keep HO.out (((Below.refl _ _).alloc (Nat.le_refl _) _).alloc (by simp) _)) (by rfl) (Rd.newK (wr.heap.size + 1) (wr.alloc (.cells #[.int .u64 ((k % 8 : Nat) : Int), .int .u32 (c : Int), .bool false, .slice xa 60 xc] 31)) (by simp) 4 (needC (⟨k % 8, c, false, l.take 60⟩, .slice xa 60 xc)) 31 1 rfl (by decide)) (need_one _ _ _ _) (by unfold maxLen; omega) (by omega) (by simp; omega) ?_); intro v4 w4 hown4 hgr4 hv4; clear hv4)
              have HG := Lib.hid (own_below ((HB.out.alloc hsz (.cells #[.int .u64 ((k % 8 : Nat) : Int), .int .u32 (c : Int), .bool false, .slice xa 60 xc] 31)).alloc (by simp; omega) (.cells (needC (⟨k % 8, c, false, l.take 60⟩, .slice xa 60 xc)).toArray 31)) (own_keep HO.out (((Below.refl _ _).alloc (Nat.le_refl _) _).alloc (by simp) _)) (by simp; omega) hgr4)
              have HO4 := Lib.hid (show w4.ownsRow w.heap.size 31 4 v4 (i + 1) (needsC (es ++ [(⟨k % 8, c, false, l.take 60⟩, .slice xa 60 xc)])) by rw [needsC_snoc]; exact hown4)
              have HE4 := Lib.hid (show (es ++ [((⟨k % 8, c, false, l.take 60⟩ : Nd), (.slice xa 60 xc : Value))]).map (·.1) = smallF (N.take (i + 1)) by rw [List.map_append, HEs.out, HSi.out, HEl.out]; rfl)
              have HD4 := Lib.hid (show ∀ p ∈ es ++ [((⟨k % 8, c, false, l.take 60⟩ : Nd), (.slice xa 60 xc : Value))], RdB w p.2 p.1.data from fun p hp => by
                rcases List.mem_append.1 hp with hp | hp
                · exact HDt.out p hp
                · rw [List.mem_singleton.1 hp]; exact RdL.take Hx.out 60 (by omega))
              have hl4 : (es ++ [((⟨k % 8, c, false, l.take 60⟩ : Nd), (.slice xa 60 xc : Value))]).length = i + 1 := by rw [List.length_append, hl]; rfl
              clear hown4 hgr4
              go_wp2_with fail
              exact ⟨⟨i + 1, _, by go_num, by omega, by omega, hl4, HO4, HE4, HD4, HG⟩, by simp [intOf]; omega⟩
            · have f60 : decide ((60 : Int) < (m : Int)) = true := by simp; omega
              have fk : decide ((1000 : Int) < (k : Int)) = false := by simp; omega
              have HEl := Lib.hid (show sm1 ⟨k, c, false, l⟩ = ⟨k, c, false, l.take 60⟩ by unfold sm1; dsimp only; rw [if_neg (by omega), if_neg (by simp)])
              go_wp2_with (at_builtin; go_must (refine wpList_app (n := i) (m := 1) rfl (.tmp 38) (.tmp 40) 22 rfl elemN w.heap.size rfl (own_keep HO.out (((Below.refl _ _).alloc (Nat.le_refl _) _).alloc (by simp) _)) (by rfl) (Rd.newK (wr.heap.size + 1) (wr.alloc (.cells #[.int .u64 (k : Int), .int .u32 (c : Int), .bool false, .slice xa 60 xc] 31)) (by simp) 4 (needC (⟨k, c, false, l.take 60⟩, .slice xa 60 xc)) 31 1 rfl (by decide)) (need_one _ _ _ _) (by unfold maxLen; omega) (by omega) (by simp; omega) ?_); intro v4 w4 hown4 hgr4 hv4; clear hv4)
              have HG := Lib.hid (own_below ((HB.out.alloc hsz (.cells #[.int .u64 (k : Int), .int .u32 (c : Int), .bool false, .slice xa 60 xc] 31)).alloc (by simp; omega) (.cells (needC (⟨k, c, false, l.take 60⟩, .slice xa 60 xc)).toArray 31)) (own_keep HO.out (((Below.refl _ _).alloc (Nat.le_refl _) _).alloc (by simp) _)) (by simp; omega) hgr4)
              have HO4 := Lib.hid (show w4.ownsRow w.heap.size 31 4 v4 (i + 1) (needsC (es ++ [(⟨k, c, false, l.take 60⟩, .slice xa 60 xc)])) by rw [needsC_snoc]; exact hown4)
              have HE4 := Lib.hid (show (es ++ [((⟨k, c, false, l.take 60⟩ : Nd), (.slice xa 60 xc : Value))]).map (·.1) = smallF (N.take (i + 1)) by rw [List.map_append, HEs.out, HSi.out, HEl.out]; rfl)
              have HD4 := Lib.hid (show ∀ p ∈ es ++ [((⟨k, c, false, l.take 60⟩ : Nd), (.slice xa 60 xc : Value))], RdB w p.2 p.1.data from fun p hp => by
                rcases List.mem_append.1 hp with hp | hp
                · exact HDt.out p hp
                · rw [List.mem_singleton.1 hp]; exact RdL.take Hx.out 60 (by omega))
              have hl4 : (es ++ [((⟨k, c, false, l.take 60⟩ : Nd), (.slice xa 60 xc : Value))]).length = i + 1 := by rw [List.length_append, hl]; rfl
              clear hown4 hgr4
              go_wp2_with fail
              exact ⟨⟨i + 1, _, by go_num, by omega, by omega, hl4, HO4, HE4, HD4, HG⟩, by simp [intOf]; omega⟩
          · by_cases bk : 1000 < k
            · have f60 : decide ((60 : Int) < (m : Int)) = false := by simp; omega
              have fk : decide ((1000 : Int) < (k : Int)) = true := by simp; omega
              have HEl := Lib.hid (show sm1 ⟨k, c, false, l⟩ = ⟨k % 8, c, false, l⟩ by unfold sm1; dsimp only; rw [if_pos (by omega), if_neg (by simp)]; rw [List.take_of_length_le (by rw [HmL.out]; omega)])
              go_wp2_with (at_builtin; go_must (refine wpList_app (n := i) (m := 1) rfl (.tmp 38) (.tmp 40) 22 rfl elemN w.heap.size rfl (own_keep HO.out (((Below.refl _ _).alloc (Nat.le_refl _) _).alloc (by simp) _)) (by rfl) (Rd.newK (wr.heap.size + 1) (wr.alloc (.cells #[.int .u64 ((k % 8 : Nat) : Int), .int .u32 (c : Int), .bool false, .slice xa m xc] 31)) (by simp) 4 (needC (⟨k % 8, c, false, l⟩, .slice xa m xc)) 31 1 rfl (by decide)) (need_one _ _ _ _) (by unfold maxLen; omega) (by omega) (by simp; omega) ?_); intro v4 w4 hown4 hgr4 hv4; clear hv4)
              have HG := Lib.hid (own_below ((HB.out.alloc hsz (.cells #[.int .u64 ((k % 8 : Nat) : Int), .int .u32 (c : Int), .bool false, .slice xa m xc] 31)).alloc (by simp; omega) (.cells (needC (⟨k % 8, c, false, l⟩, .slice xa m xc)).toArray 31)) (own_keep HO.out (((Below.refl _ _).alloc (Nat.le_refl _) _).alloc (by simp) _)) (by simp; omega) hgr4)
              have HO4 := Lib.hid (show w4.ownsRow w.heap.size 31 4 v4 (i + 1) (needsC (es ++ [(⟨k % 8, c, false, l⟩, .slice xa m xc)])) by rw [needsC_snoc]; exact hown4)
              have HE4 := Lib.hid (show (es ++ [((⟨k % 8, c, false, l⟩ : Nd), (.slice xa m xc : Value))]).map (·.1) = smallF (N.take (i + 1)) by rw [List.map_append, HEs.out, HSi.out, HEl.out]; rfl)
              have HD4 := Lib.hid (show ∀ p ∈ es ++ [((⟨k % 8, c, false, l⟩ : Nd), (.slice xa m xc : Value))], RdB w p.2 p.1.data from fun p hp => by
                rcases List.mem_append.1 hp with hp | hp
                · exact HDt.out p hp
                · rw [List.mem_singleton.1 hp]; exact Hx.out)
              have hl4 : (es ++ [((⟨k % 8, c, false, l⟩ : Nd), (.slice xa m xc : Value))]).length = i + 1 := by rw [List.length_append, hl]; rfl
              clear hown4 hgr4
              go_wp2_with fail
              exact ⟨⟨i + 1, _, by go_num, by omega, by omega, hl4, HO4, HE4, HD4, HG⟩, by simp [intOf]; omega⟩
            · have f60 : decide ((60 : Int) < (m : Int)) = false := by simp; omega
              have fk : decide ((1000 : Int) < (k : Int)) = false := by simp; omega
              have HEl := Lib.hid (show sm1 ⟨k, c, false, l⟩ = ⟨k, c, false, l⟩ by unfold sm1; dsimp only; rw [if_neg (by omega), if_neg (by simp)]; rw [List.take_of_length_le (by rw [HmL.out]; omega)])
              go_wp2_with (at_builtin; go_must (refine wpList_app (n := i) (m := 1) rfl (.tmp 38) (.tmp 40) 22 rfl elemN w.heap.size rfl (own_keep HO.out (((Below.refl _ _).alloc (Nat.le_refl _) _).alloc (by simp) _)) (by rfl) (Rd.newK (wr.heap.size + 1) (wr.alloc (.cells #[.int .u64 (k : Int), .int .u32 (c : Int), .bool false, .slice xa m xc] 31)) (by simp) 4 (needC (⟨k, c, false, l⟩, .slice xa m xc)) 31 1 rfl (by decide)) (need_one _ _ _ _) (by unfold maxLen; omega) (by omega) (by simp; omega) ?_); intro v4 w4 hown4 hgr4 hv4; clear hv4)
              have HG := Lib.hid (own_below ((HB.out.alloc hsz (.cells #[.int .u64 (k : Int), .int .u32 (c : Int), .bool false, .slice xa m xc] 31)).alloc (by simp; omega) (.cells (needC (⟨k, c, false, l⟩, .slice xa m xc)).toArray 31)) (own_keep HO.out (((Below.refl _ _).alloc (Nat.le_refl _) _).alloc (by simp) _)) (by simp; omega) hgr4)
              have HO4 := Lib.hid (show w4.ownsRow w.heap.size 31 4 v4 (i + 1) (needsC (es ++ [(⟨k, c, false, l⟩, .slice xa m xc)])) by rw [needsC_snoc]; exact hown4)
              have HE4 := Lib.hid (show (es ++ [((⟨k, c, false, l⟩ : Nd), (.slice xa m xc : Value))]).map (·.1) = smallF (N.take (i + 1)) by rw [List.map_append, HEs.out, HSi.out, HEl.out]; rfl)
              have HD4 := Lib.hid (show ∀ p ∈ es ++ [((⟨k, c, false, l⟩ : Nd), (.slice xa m xc : Value))], RdB w p.2 p.1.data from fun p hp => by
                rcases List.mem_append.1 hp with hp | hp
                · exact HDt.out p hp
                · rw [List.mem_singleton.1 hp]; exact Hx.out)
              have hl4 : (es ++ [((⟨k, c, false, l⟩ : Nd), (.slice xa m xc : Value))]).length = i + 1 := by rw [List.length_append, hl]; rfl
              clear hown4 hgr4
              go_wp2_with fail
              exact ⟨⟨i + 1, _, by go_num, by omega, by omega, hl4, HO4, HE4, HD4, HG⟩, by simp [intOf]; omega⟩
        · by_cases b60 : 60 < m
          · have hto := fun W kh => slice_to (P := Try.prog) elemB (a := xa) (n := m) (cap := xc) (RdL.spot Hx.out (by omega)) 60 (by omega) W kh
            rw [show ((60 : Nat) : Int) = 60 from rfl] at hto
            by_cases bk : 1000 < k
            · have f60 : decide ((60 : Int) < (m : Int)) = true := by simp; omega
              have fk : decide ((1000 : Int) < (k : Int)) = true := by simp; omega
              have HEl := Lib.hid (show sm1 ⟨k, c, true, l⟩ = ⟨k % 8, c, true, []⟩ by unfold sm1; dsimp only; rw [if_pos (by omega), if_pos rfl])
              go_wp2_with (at_builtin; go_must (refine wpList_app (n := i) (m := 1) rfl (.tmp 38) (.tmp 40) 22 rfl elemN w.heap.size rfl (own_keep HO.out (((Below.refl _ _).alloc (Nat.le_refl _) _).alloc (by simp) _)) (by rfl) (Rd.newK (wr.heap.size + 1) (wr.alloc (.cells #[.int .u64 ((k % 8 : Nat) : Int), .int .u32 (c : Int), .bool true, .slice none 0 0] 31)) (by simp) 4 (needC (⟨k % 8, c, true, []⟩, .slice none 0 0)) 31 1 rfl (by decide)) (need_one _ _ _ _) (by unfold maxLen; omega) (by omega) (by simp; omega) ?_); intro v4 w4 hown4 hgr4 hv4; clear hv4)
              have HG := Lib.hid (own_below ((HB.out.alloc hsz (.cells #[.int .u64 ((k % 8 : Nat) : Int), .int .u32 (c : Int), .bool true, .slice none 0 0] 31)).alloc (by simp; omega) (.cells (needC (⟨k % 8, c, true, []⟩, .slice none 0 0)).toArray 31)) (own_keep HO.out (((Below.refl _ _).alloc (Nat.le_refl _) _).alloc (by simp) _)) (by simp; omega) hgr4)
              have HO4 := Lib.hid (show w4.ownsRow w.heap.size 31 4 v4 (i + 1) (needsC (es ++ [(⟨k % 8, c, true, []⟩, .slice none 0 0)])) by rw [needsC_snoc]; exact hown4)
              have HE4 := Lib.hid (show (es ++ [((⟨k % 8, c, true, []⟩ : Nd), (.slice none 0 0 : Value))]).map (·.1) = smallF (N.take (i + 1)) by rw [List.map_append, HEs.out, HSi.out, HEl.out]; rfl)
              have HD4 := Lib.hid (show ∀ p ∈ es ++ [((⟨k % 8, c, true, []⟩ : Nd), (.slice none 0 0 : Value))], RdB w p.2 p.1.data from fun p hp => by
                rcases List.mem_append.1 hp with hp | hp
                · exact HDt.out p hp
                · rw [List.mem_singleton.1 hp]; exact RdB_nil w)
              have hl4 : (es ++ [((⟨k % 8, c, true, []⟩ : Nd), (.slice none 0 0 : Value))]).length = i + 1 := by rw [List.length_append, hl]; rfl
              clear hown4 hgr4
              go_wp2_with fail
              exact ⟨⟨i + 1, _, by go_num, by omega, by omega, hl4, HO4, HE4, HD4, HG⟩, by simp [intOf]; omega⟩
            · have f60 : decide ((60 : Int) < (m : Int)) = true := by simp; omega
              have fk : decide ((1000 : Int) < (k : Int)) = false := by simp; omega
              have HEl := Lib.hid (show sm1 ⟨k, c, true, l⟩ = ⟨k, c, true, []⟩ by unfold sm1; dsimp only; rw [if_neg (by omega), if_pos rfl])
              go_wp2_with (at_builtin; go_must (refine wpList_app (n := i) (m := 1) rfl (.tmp 38) (.tmp 40) 22 rfl elemN w.heap.size rfl (own_keep HO.out (((Below.refl _ _).alloc (Nat.le_refl _) _).alloc (by simp) _)) (by rfl) (Rd.newK (wr.heap.size + 1) (wr.alloc (.cells #[.int .u64 (k : Int), .int .u32 (c : Int), .bool true, .slice none 0 0] 31)) (by simp) 4 (needC (⟨k, c, true, []⟩, .slice none 0 0)) 31 1 rfl (by decide)) (need_one _ _ _ _) (by unfold maxLen; omega) (by omega) (by simp; omega) ?_); intro v4 w4 hown4 hgr4 hv4; clear hv4)
              have HG := Lib.hid (own_below ((HB.out.alloc hsz (.cells #[.int .u64 (k : Int), .int .u32 (c : Int), .bool true, .slice none 0 0] 31)).alloc (by simp; omega) (.cells (needC (⟨k, c, true, []⟩, .slice none 0 0)).toArray 31)) (own_keep HO.out (((Below.refl _ _).alloc (Nat.le_refl _) _).alloc (by simp) _)) (by simp; omega) hgr4)
              have HO4 := Lib.hid (show w4.ownsRow w.heap.size 31 4 v4 (i + 1) (needsC (es ++ [(⟨k, c, true, []⟩, .slice none 0 0)])) by rw [needsC_snoc]; exact hown4)
              have HE4 := Lib.hid (show (es ++ [((⟨k, c, true, []⟩ : Nd), (.slice none 0 0 : Value))]).map (·.1) = smallF (N.take (i + 1)) by rw [List.map_append, HEs.out, HSi.out, HEl.out]; rfl)
              have HD4 := Lib.hid (show ∀ p ∈ es ++ [((⟨k, c, true, []⟩ : Nd), (.slice none 0 0 : Value))], RdB w p.2 p.1.data from fun p hp => by
                rcases List.mem_append.1 hp with hp | hp
                · exact HDt.out p hp
                · rw [List.mem_singleton.1 hp]; exact RdB_nil w)
              have hl4 : (es ++ [((⟨k, c, true, []⟩ : Nd), (.slice none 0 0 : Value))]).length = i + 1 := by rw [List.length_append, hl]; rfl
              clear hown4 hgr4
              go_wp2_with fail
              exact ⟨⟨i + 1, _, by go_num, by omega, by omega, hl4, HO4, HE4, HD4, HG⟩, by simp [intOf]; omega⟩
          · by_cases bk : 1000 < k
            · have f60 : decide ((60 : Int) < (m : Int)) = false := by simp; omega
              have fk : decide ((1000 : Int) < (k : Int)) = true := by simp; omega
              have HEl := Lib.hid (show sm1 ⟨k, c, true, l⟩ = ⟨k % 8, c, true, []⟩ by unfold sm1; dsimp only; rw [if_pos (by omega), if_pos rfl])
              go_wp2_with (at_builtin; go_must (refine wpList_app (n := i) (m := 1) rfl (.tmp 38) (.tmp 40) 22 rfl elemN w.heap.size rfl (own_keep HO.out (((Below.refl _ _).alloc (Nat.le_refl _) _).alloc (by simp) _)) (by rfl) (Rd.newK (wr.heap.size + 1) (wr.alloc (.cells #[.int .u64 ((k % 8 : Nat) : Int), .int .u32 (c : Int), .bool true, .slice none 0 0] 31)) (by simp) 4 (needC (⟨k % 8, c, true, []⟩, .slice none 0 0)) 31 1 rfl (by decide)) (need_one _ _ _ _) (by unfold maxLen; omega) (by omega) (by simp; omega) ?_); intro v4 w4 hown4 hgr4 hv4; clear hv4)
              have HG := Lib.hid (own_below ((HB.out.alloc hsz (.cells #[.int .u64 ((k % 8 : Nat) : Int), .int .u32 (c : Int), .bool true, .slice none 0 0] 31)).alloc (by simp; omega) (.cells (needC (⟨k % 8, c, true, []⟩, .slice none 0 0)).toArray 31)) (own_keep HO.out (((Below.refl _ _).alloc (Nat.le_refl _) _).alloc (by simp) _)) (by simp; omega) hgr4)
              have HO4 := Lib.hid (show w4.ownsRow w.heap.size 31 4 v4 (i + 1) (needsC (es ++ [(⟨k % 8, c, true, []⟩, .slice none 0 0)])) by rw [needsC_snoc]; exact hown4)
              have HE4 := Lib.hid (show (es ++ [((⟨k % 8, c, true, []⟩ : Nd), (.slice none 0 0 : Value))]).map (·.1) = smallF (N.take (i + 1)) by rw [List.map_append, HEs.out, HSi.out, HEl.out]; rfl)
              have HD4 := Lib.hid (show ∀ p ∈ es ++ [((⟨k % 8, c, true, []⟩ : Nd), (.slice none 0 0 : Value))], RdB w p.2 p.1.data from fun p hp => by
                rcases List.mem_append.1 hp with hp | hp
                · exact HDt.out p hp
                · rw [List.mem_singleton.1 hp]; exact RdB_nil w)
              have hl4 : (es ++ [((⟨k % 8, c, true, []⟩ : Nd), (.slice none 0 0 : Value))]).length = i + 1 := by rw [List.length_append, hl]; rfl
              clear hown4 hgr4
              go_wp2_with fail
              exact ⟨⟨i + 1, _, by go_num, by omega, by omega, hl4, HO4, HE4, HD4, HG⟩, by simp [intOf]; omega⟩
            · have f60 : decide ((60 : Int) < (m : Int)) = false := by simp; omega
              have fk : decide ((1000 : Int) < (k : Int)) = false := by simp; omega
              have HEl := Lib.hid (show sm1 ⟨k, c, true, l⟩ = ⟨k, c, true, []⟩ by unfold sm1; dsimp only; rw [if_neg (by omega), if_pos rfl])
              go_wp2_with (at_builtin; go_must (refine wpList_app (n := i) (m := 1) rfl (.tmp 38) (.tmp 40) 22 rfl elemN w.heap.size rfl (own_keep HO.out (((Below.refl _ _).alloc (Nat.le_refl _) _).alloc (by simp) _)) (by rfl) (Rd.newK (wr.heap.size + 1) (wr.alloc (.cells #[.int .u64 (k : Int), .int .u32 (c : Int), .bool true, .slice none 0 0] 31)) (by simp) 4 (needC (⟨k, c, true, []⟩, .slice none 0 0)) 31 1 rfl (by decide)) (need_one _ _ _ _) (by unfold maxLen; omega) (by omega) (by simp; omega) ?_); intro v4 w4 hown4 hgr4 hv4; clear hv4)
              have HG := Lib.hid (own_below ((HB.out.alloc hsz (.cells #[.int .u64 (k : Int), .int .u32 (c : Int), .bool true, .slice none 0 0] 31)).alloc (by simp; omega) (.cells (needC (⟨k, c, true, []⟩, .slice none 0 0)).toArray 31)) (own_keep HO.out (((Below.refl _ _).alloc (Nat.le_refl _) _).alloc (by simp) _)) (by simp; omega) hgr4)
              have HO4 := Lib.hid (show w4.ownsRow w.heap.size 31 4 v4 (i + 1) (needsC (es ++ [(⟨k, c, true, []⟩, .slice none 0 0)])) by rw [needsC_snoc]; exact hown4)
              have HE4 := Lib.hid (show (es ++ [((⟨k, c, true, []⟩ : Nd), (.slice none 0 0 : Value))]).map (·.1) = smallF (N.take (i + 1)) by rw [List.map_append, HEs.out, HSi.out, HEl.out]; rfl)
              have HD4 := Lib.hid (show ∀ p ∈ es ++ [((⟨k, c, true, []⟩ : Nd), (.slice none 0 0 : Value))], RdB w p.2 p.1.data from fun p hp => by
                rcases List.mem_append.1 hp with hp | hp
                · exact HDt.out p hp
                · rw [List.mem_singleton.1 hp]; exact RdB_nil w)
              have hl4 : (es ++ [((⟨k, c, true, []⟩ : Nd), (.slice none 0 0 : Value))]).length = i + 1 := by rw [List.length_append, hl]; rfl
              clear hown4 hgr4
              go_wp2_with fail
              exact ⟨⟨i + 1, _, by go_num, by omega, by omega, hl4, HO4, HE4, HD4, HG⟩, by simp [intOf]; omega⟩
      · have q1 : decide (i < n) = true := decide_eq_true hin
        have q2 : decide ((i : Int) < 12) = false := decide_eq_false (by omega)
        have HF := Lib.hid (HEs.out.trans (HE.out i hi2 (.inr (by omega))))
        go_wp2_with fail
        go_ret
        exact ⟨_, es, rfl, by rw [hl]; exact HO.out, HF.out, HDt.out, HB.out⟩
    · have q1 : decide (i < n) = false := decide_eq_false hin
      have HF := Lib.hid (HEs.out.trans (HE.out i hi2 (.inl (by omega))))
      go_wp2_with fail
      go_ret
      exact ⟨_, es, rfl, by rw [hl]; exact HO.out, HF.out, HDt.out, HB.out⟩
end Go.Proofs.Ytecflhklpkjhcaa
