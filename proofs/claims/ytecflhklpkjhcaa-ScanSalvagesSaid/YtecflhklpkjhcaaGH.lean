/- Several texts in one, each over the last: Needles in memory, and the law's small. The law's file. scan.last: which record of a key is the last. scan.Items: the walk. The law's awake, and what opening a written file gives. -/
import Derived.Test.YtecflhklpkjhcaaNo
import Derived.Maps.OwnOps
import Derived.Maps.Views
import Derived.Maps.OwnSet
import Derived.Test.YtecflhklpkjhcaaPm
import Derived.Test.YtecflhklpkjhcaaSv
namespace Go.Proofs.Ytecflhklpkjhcaa
open Go.RowKit

def needC (p : Nd × Value) : List Value := [.int .u64 (p.1.key : Int), .int .u32 (p.1.ck : Int), .bool p.1.del, p.2]
theorem needC_len (p : Nd × Value) : (needC p).length = 4 := rfl
def needsC (es : List (Nd × Value)) : List Value := es.flatMap needC
theorem needsC_length (es : List (Nd × Value)) : (needsC es).length = es.length * 4 := flat_length 4 needC es fun x _ => needC_len x
theorem needsC_snoc (es : List (Nd × Value)) (p : Nd × Value) : needsC (es ++ [p]) = needsC es ++ needC p := by simp [needsC]
theorem need_one (x : Nd) (a : Option Addr) (n c : Nat) : ∀ u ∈ needC (x, .slice a n c), u.oneCell' = true := by
  intro u hu; simp only [needC, List.mem_cons, List.not_mem_nil, or_false] at hu; rcases hu with h | h | h | h <;> rw [h] <;> rfl
theorem elemN : ElemT Try.prog 22 31 4 40 := by
  obtain ⟨i, hi, hz, hs, hb⟩ := info_parts (P := Try.prog) (e := 31) (z := .agg #[.int .u64 0, .int .u32 0, .bool false, .slice none 0 0]) (size := 4) (bytes := 40) (by kernel_rfl)
  exact ⟨Try.underlying22, by decide, i, _, hi, hz, hs, hb, rfl⟩
/-- Reading of needles: the cells, and each one's data. -/
structure RdN (w : World) (v : Value) (es : List (Nd × Value)) : Prop where
  row : Rd w 4 v es.length (needsC es)
  dat : ∀ p ∈ es, RdB w p.2 p.1.data
theorem RdN.below {w w' : World} {v : Value} {es : List (Nd × Value)} (h : RdN w v es) (hb : Below w.heap.size w w') : RdN w' v es := ⟨h.row.below hb, fun p hp => RdL.below (h.dat p hp) hb⟩
def nat' (es : List (Nd × Value)) (j : Nat) : Nd × Value := es.getD j (nd0, .slice none 0 0)
theorem nat'_mem {es : List (Nd × Value)} {j : Nat} (h : j < es.length) : nat' es j ∈ es := by
  unfold nat'; rw [List.getD_eq_getElem?_getD, List.getElem?_eq_getElem h]; exact List.getElem_mem h
theorem RdN.shape {w : World} {v : Value} {es : List (Nd × Value)} (h : RdN w v es) : ∃ a cap, v = .slice a es.length cap ∧ es.length ≤ cap ∧ cap ≤ maxLen := by
  obtain ⟨_, a, cap, h1, h2, h3, _⟩ := h.row
  exact ⟨a, cap, h1, h2, h3⟩
theorem RdN.at {w : World} {a : Option Addr} {n cap : Nat} {es : List (Nd × Value)} (h : RdN w (.slice a n cap) es) {j : Nat} (hj : j < n) : ∃ b off, a = some ⟨b, off, none⟩ ∧ RdB w (nat' es j).2 (nat' es j).1.data ∧
    w.cell? ⟨b, off + j * 4, none⟩ = some (.int .u64 ((nat' es j).1.key : Int)) ∧ w.cell? ⟨b, off + j * 4 + 1, none⟩ = some (.int .u32 ((nat' es j).1.ck : Int)) ∧
    w.cell? ⟨b, off + j * 4 + 2, none⟩ = some (.bool (nat' es j).1.del) ∧ w.cell? ⟨b, off + j * 4 + 3, none⟩ = some (nat' es j).2 := by
  have hn : n = es.length := by
    obtain ⟨_, _, _, e, _⟩ := h.row
    injection e
  subst hn
  obtain ⟨_, a', cap', e, _, _, _, hc⟩ := h.row
  injection e with e1
  obtain ⟨b, off, e2, hc⟩ := hc (by rw [needsC_length]; omega)
  refine ⟨b, off, e1.trans e2, h.dat _ (nat'_mem hj), ?_⟩
  have hat : ∀ i, i < 4 → ∀ u, (needC (nat' es j))[i]? = some u → w.cell? ⟨b, off + (j * 4 + i), none⟩ = some u := fun i hi u hu => hc (j * 4 + i) u (by
    rw [show needsC es = es.flatMap needC from rfl, flat_at 4 needC (nd0, .slice none 0 0) es (fun _ _ => rfl) j i hj hi]; exact hu)
  exact ⟨hat 0 (by omega) _ rfl, hat 1 (by omega) _ rfl, hat 2 (by omega) _ rfl, hat 3 (by omega) _ rfl⟩
/-- A needle made small. -/
def sm1 (x : Nd) : Nd := ⟨if 1000 < x.key then x.key % 8 else x.key, x.ck, x.del, if x.del then [] else x.data.take 60⟩
def smallF (l : List Nd) : List Nd := (l.take 12).map sm1
theorem sm1_ok (x : Nd) : (sm1 x).ok := by
  unfold sm1 Nd.ok
  dsimp only
  cases hd : x.del
  · exact ⟨by rw [if_neg (by simp)]; rw [List.length_take]; omega, fun h => by cases h⟩
  · exact ⟨by rw [if_pos rfl]; exact Nat.zero_le _, fun _ => by rw [if_pos rfl]⟩
theorem sm1_wf {x : Nd} (h : x.Wf) : (sm1 x).Wf := by
  obtain ⟨h1, h2⟩ := h
  refine ⟨?_, h2⟩
  unfold sm1
  dsimp only
  split <;> omega
theorem sm1_len (x : Nd) : (sm1 x).data.length ≤ 60 := by
  unfold sm1; dsimp only
  split
  · exact Nat.zero_le _
  · rw [List.length_take]; omega
theorem key7 (k : Nat) (h : k < 18446744073709551616) : bits .and .u64 (k : Int) 7 = ((k % 8 : Nat) : Int) := by
  have := u64_and_nat k 7 h (by decide)
  rw [show ((7 : Nat) : Int) = 7 from rfl] at this
  rw [this, show (7 : Nat) = 2 ^ 3 - 1 from rfl, Nat.and_two_pow_sub_one_eq_mod]
/-- What small leaves: needles in a row of the call's own, whose data lie where they lay. -/
def SmRes (w0 : World) (ns : List Nd) (e : Ending) (w' : World) : Prop :=
  ∃ lv es, e = .returned lv ∧ w'.ownsRow w0.heap.size 31 4 lv es.length (needsC es) ∧ es.map (·.1) = smallF ns ∧ (∀ p ∈ es, RdB w0 p.2 p.1.data) ∧ Below w0.heap.size w0 w'
theorem RdB_nil (w : World) : RdB w (.slice none 0 0) [] := own_rdl (World.ownsRow_nil w 0 5 1)
set_option maxRecDepth 100000 in
set_option maxHeartbeats 8000000 in
theorem small_any (v : Value) (ns : List (Nd × Value)) (w : World) (h : RdN w v ns) (hwf : ∀ p ∈ ns, p.1.Wf) :
    Calls Try.prog 10 #[v] w (SmRes w (ns.map (·.1))) := by
  obtain ⟨a, cap, rfl, h1, h2⟩ := h.shape
  have Hw0 := Lib.hid h
  have HW := Lib.hid hwf
  have HM := Lib.hid (show ∀ j, j < ns.length → nat' ns j ∈ ns from fun j => nat'_mem)
  have HS := Lib.hid (show ∀ j, j < ns.length → j < 12 → smallF ((ns.map (·.1)).take (j + 1)) = smallF ((ns.map (·.1)).take j) ++ [sm1 (nat' ns j).1] from fun j hj h12 => by
    unfold smallF nat'
    rw [List.take_take, List.take_take, Nat.min_eq_right (by omega), Nat.min_eq_right (by omega), List.take_add_one, List.getElem?_map, List.getElem?_eq_getElem hj, List.map_append, List.getD_eq_getElem?_getD, List.getElem?_eq_getElem hj]
    rfl)
  have HE := Lib.hid (show ∀ j, j ≤ 12 → (j = ns.length ∨ j = 12) → smallF ((ns.map (·.1)).take j) = smallF (ns.map (·.1)) from fun j hj h12 => by
    unfold smallF
    rw [List.take_take]
    rcases h12 with h12 | h12
    · rw [List.take_of_length_le (by rw [List.length_map, h12, Nat.min_def]; split <;> omega), List.take_of_length_le (by rw [List.length_map]; omega)]
    · rw [h12, Nat.min_self])
  generalize hn : ns.length = n at *
  clear h hwf hn
  generalize ns.map (·.1) = N at *
  go_enter Try.func10, Try.ntmps10
  go_wp2_with fail
  go_loopw [3, 4] (fun ov iv W => ∃ (i : Nat) (es : List (Nd × Value)), iv = .int .i64 (i : Int) ∧ i ≤ n ∧ i ≤ 12 ∧ es.length = i ∧ Hid (W.ownsRow w.heap.size 31 4 ov i (needsC es)) ∧ Hid (es.map (·.1) = smallF (N.take i)) ∧ Hid (∀ p ∈ es, RdB w p.2 p.1.data) ∧ Hid (Below w.heap.size w W)) (fun _ iv _ => n - (intOf iv).toNat)
  case atStart => exact ⟨0, [], rfl, Nat.zero_le _, by omega, rfl, Lib.hid (World.ownsRow_nil _ _ _ _), Lib.hid rfl, Lib.hid (fun p hp => by cases hp), Lib.hid (Below.refl _ _)⟩
  case round =>
    obtain ⟨i, es, rfl, hi, hi2, hl, HO, HEs, HDt, HB⟩ := hrel
    have hsz := HB.out.size
    by_cases hin : i < n
    · by_cases h12 : i < 12
      · have q1 : decide (i < n) = true := decide_eq_true hin
        have q2 : decide ((i : Int) < 12) = true := decide_eq_true (by omega)
        have hr := Hw0.out.below HB.out
        obtain ⟨pb, poff, rfl, _, c0, c1, c2, c3⟩ := hr.at hin
        have Hx := Lib.hid (Hw0.out.dat _ (HM.out i hin))
        have HSi := Lib.hid (HS.out i hin h12)
        have hkw := (HW.out _ (HM.out i hin)).1
        clear hr
        generalize nat' ns i = X at *
        obtain ⟨⟨k, c, d, l⟩, dv⟩ := X
        dsimp only at *
        obtain ⟨xa, xc, rfl, hx1, hx2⟩ := Hx.out.shape0
        have hk7 := key7 k hkw
        have i1 : (i : Int) < (n : Int) := by omega
        generalize hm : l.length = m at *
        have HmL := Lib.hid hm
        clear hm
        cases d
        · by_cases b60 : 60 < m
          · have hto := fun W kh => slice_to (P := Try.prog) elemB (a := xa) (n := m) (cap := xc) (RdL.spot Hx.out (by omega)) 60 (by omega) W kh
            rw [show ((60 : Nat) : Int) = 60 from rfl] at hto
            by_cases bk : 1000 < k
            · have f60 : decide ((60 : Int) < (m : Int)) = true := by simp; omega
              have fk : decide ((1000 : Int) < (k : Int)) = true := by simp; omega
              have HEl := Lib.hid (show sm1 ⟨k, c, false, l⟩ = ⟨k % 8, c, false, l.take 60⟩ by unfold sm1; dsimp only; rw [if_pos (by omega), if_neg (by simp)])
              go_wp2_with (at_builtin; go_must (refine wpList_app (n := i) (m := 1) rfl (.tmp 38) (.tmp 40) 22 rfl elemN w.heap.size rfl (own_keep HO.out (((Below.refl _ _).alloc (Nat.le_refl _) _).alloc (by simp) _)) (by rfl) (Rd.newK (wr.heap.size + 1) (wr.alloc (.cells #[.int .u64 ((k % 8 : Nat) : Int), .int .u32 (c : Int), .bool false, .slice xa 60 xc] 31)) (by simp) 4 (needC (⟨k % 8, c, false, l.take 60⟩, .slice xa 60 xc)) 31 1 rfl (by decide)) (need_one _ _ _ _) (by unfold maxLen; omega) (by omega) (by simp; omega) ?_); intro v4 w4 hown4 hgr4 hv4; clear hv4)
              have HG := Lib.hid (own_below ((HB.out.alloc hsz (.cells #[.int .u64 ((k % 8 : Nat) : Int), .int .u32 (c : Int), .bool false, .slice xa 60 xc] 31)).alloc (by simp; omega) (.cells (needC (⟨k % 8, c, false, l.take 60⟩, .slice xa 60 xc)).toArray 31)) (own_keep HO.out (((Below.refl _ _).alloc (Nat.le_refl _) _).alloc (by simp) _)) (by simp; omega) hgr4)
              have HO4 := Lib.hid (show w4.ownsRow w.heap.size 31 4 v4 (i + 1) (needsC (es ++ [(⟨k % 8, c, false, l.take 60⟩, .slice xa 60 xc)])) by rw [needsC_snoc]; exact hown4)
              have HE4 := Lib.hid (show (es ++ [((⟨k % 8, c, false, l.take 60⟩ : Nd), (.slice xa 60 xc : Value))]).map (·.1) = smallF (N.take (i + 1)) by rw [List.map_append, HEs.out, HSi.out, HEl.out]; rfl)
              have HD4 := Lib.hid (show ∀ p ∈ es ++ [((⟨k % 8, c, false, l.take 60⟩ : Nd), (.slice xa 60 xc : Value))], RdB w p.2 p.1.data from fun p hp => by
                rcases List.mem_append.1 hp with hp | hp
                · exact HDt.out p hp
                · rw [List.mem_singleton.1 hp]; exact RdL.take Hx.out 60 (by omega))
              have hl4 : (es ++ [((⟨k % 8, c, false, l.take 60⟩ : Nd), (.slice xa 60 xc : Value))]).length = i + 1 := by rw [List.length_append, hl]; rfl
              clear hown4 hgr4
              go_wp2_with fail
              exact ⟨⟨i + 1, _, by go_num, by omega, by omega, hl4, HO4, HE4, HD4, HG⟩, by simp [intOf]; omega⟩
            · have f60 : decide ((60 : Int) < (m : Int)) = true := by simp; omega
              have fk : decide ((1000 : Int) < (k : Int)) = false := by simp; omega
              have HEl := Lib.hid (show sm1 ⟨k, c, false, l⟩ = ⟨k, c, false, l.take 60⟩ by unfold sm1; dsimp only; rw [if_neg (by omega), if_neg (by simp)])
              go_wp2_with (at_builtin; go_must (refine wpList_app (n := i) (m := 1) rfl (.tmp 38) (.tmp 40) 22 rfl elemN w.heap.size rfl (own_keep HO.out (((Below.refl _ _).alloc (Nat.le_refl _) _).alloc (by simp) _)) (by rfl) (Rd.newK (wr.heap.size + 1) (wr.alloc (.cells #[.int .u64 (k : Int), .int .u32 (c : Int), .bool false, .slice xa 60 xc] 31)) (by simp) 4 (needC (⟨k, c, false, l.take 60⟩, .slice xa 60 xc)) 31 1 rfl (by decide)) (need_one _ _ _ _) (by unfold maxLen; omega) (by omega) (by simp; omega) ?_); intro v4 w4 hown4 hgr4 hv4; clear hv4)
              have HG := Lib.hid (own_below ((HB.out.alloc hsz (.cells #[.int .u64 (k : Int), .int .u32 (c : Int), .bool false, .slice xa 60 xc] 31)).alloc (by simp; omega) (.cells (needC (⟨k, c, false, l.take 60⟩, .slice xa 60 xc)).toArray 31)) (own_keep HO.out (((Below.refl _ _).alloc (Nat.le_refl _) _).alloc (by simp) _)) (by simp; omega) hgr4)
              have HO4 := Lib.hid (show w4.ownsRow w.heap.size 31 4 v4 (i + 1) (needsC (es ++ [(⟨k, c, false, l.take 60⟩, .slice xa 60 xc)])) by rw [needsC_snoc]; exact hown4)
              have HE4 := Lib.hid (show (es ++ [((⟨k, c, false, l.take 60⟩ : Nd), (.slice xa 60 xc : Value))]).map (·.1) = smallF (N.take (i + 1)) by rw [List.map_append, HEs.out, HSi.out, HEl.out]; rfl)
              have HD4 := Lib.hid (show ∀ p ∈ es ++ [((⟨k, c, false, l.take 60⟩ : Nd), (.slice xa 60 xc : Value))], RdB w p.2 p.1.data from fun p hp => by
                rcases List.mem_append.1 hp with hp | hp
                · exact HDt.out p hp
                · rw [List.mem_singleton.1 hp]; exact RdL.take Hx.out 60 (by omega))
              have hl4 : (es ++ [((⟨k, c, false, l.take 60⟩ : Nd), (.slice xa 60 xc : Value))]).length = i + 1 := by rw [List.length_append, hl]; rfl
              clear hown4 hgr4
              go_wp2_with fail
              exact ⟨⟨i + 1, _, by go_num, by omega, by omega, hl4, HO4, HE4, HD4, HG⟩, by simp [intOf]; omega⟩
          · by_cases bk : 1000 < k
            · have f60 : decide ((60 : Int) < (m : Int)) = false := by simp; omega
              have fk : decide ((1000 : Int) < (k : Int)) = true := by simp; omega
              have HEl := Lib.hid (show sm1 ⟨k, c, false, l⟩ = ⟨k % 8, c, false, l⟩ by unfold sm1; dsimp only; rw [if_pos (by omega), if_neg (by simp)]; rw [List.take_of_length_le (by rw [HmL.out]; omega)])
              go_wp2_with (at_builtin; go_must (refine wpList_app (n := i) (m := 1) rfl (.tmp 38) (.tmp 40) 22 rfl elemN w.heap.size rfl (own_keep HO.out (((Below.refl _ _).alloc (Nat.le_refl _) _).alloc (by simp) _)) (by rfl) (Rd.newK (wr.heap.size + 1) (wr.alloc (.cells #[.int .u64 ((k % 8 : Nat) : Int), .int .u32 (c : Int), .bool false, .slice xa m xc] 31)) (by simp) 4 (needC (⟨k % 8, c, false, l⟩, .slice xa m xc)) 31 1 rfl (by decide)) (need_one _ _ _ _) (by unfold maxLen; omega) (by omega) (by simp; omega) ?_); intro v4 w4 hown4 hgr4 hv4; clear hv4)
              have HG := Lib.hid (own_below ((HB.out.alloc hsz (.cells #[.int .u64 ((k % 8 : Nat) : Int), .int .u32 (c : Int), .bool false, .slice xa m xc] 31)).alloc (by simp; omega) (.cells (needC (⟨k % 8, c, false, l⟩, .slice xa m xc)).toArray 31)) (own_keep HO.out (((Below.refl _ _).alloc (Nat.le_refl _) _).alloc (by simp) _)) (by simp; omega) hgr4)
              have HO4 := Lib.hid (show w4.ownsRow w.heap.size 31 4 v4 (i + 1) (needsC (es ++ [(⟨k % 8, c, false, l⟩, .slice xa m xc)])) by rw [needsC_snoc]; exact hown4)
              have HE4 := Lib.hid (show (es ++ [((⟨k % 8, c, false, l⟩ : Nd), (.slice xa m xc : Value))]).map (·.1) = smallF (N.take (i + 1)) by rw [List.map_append, HEs.out, HSi.out, HEl.out]; rfl)
              have HD4 := Lib.hid (show ∀ p ∈ es ++ [((⟨k % 8, c, false, l⟩ : Nd), (.slice xa m xc : Value))], RdB w p.2 p.1.data from fun p hp => by
                rcases List.mem_append.1 hp with hp | hp
                · exact HDt.out p hp
                · rw [List.mem_singleton.1 hp]; exact Hx.out)
              have hl4 : (es ++ [((⟨k % 8, c, false, l⟩ : Nd), (.slice xa m xc : Value))]).length = i + 1 := by rw [List.length_append, hl]; rfl
              clear hown4 hgr4
              go_wp2_with fail
              exact ⟨⟨i + 1, _, by go_num, by omega, by omega, hl4, HO4, HE4, HD4, HG⟩, by simp [intOf]; omega⟩
            · have f60 : decide ((60 : Int) < (m : Int)) = false := by simp; omega
              have fk : decide ((1000 : Int) < (k : Int)) = false := by simp; omega
              have HEl := Lib.hid (show sm1 ⟨k, c, false, l⟩ = ⟨k, c, false, l⟩ by unfold sm1; dsimp only; rw [if_neg (by omega), if_neg (by simp)]; rw [List.take_of_length_le (by rw [HmL.out]; omega)])
              go_wp2_with (at_builtin; go_must (refine wpList_app (n := i) (m := 1) rfl (.tmp 38) (.tmp 40) 22 rfl elemN w.heap.size rfl (own_keep HO.out (((Below.refl _ _).alloc (Nat.le_refl _) _).alloc (by simp) _)) (by rfl) (Rd.newK (wr.heap.size + 1) (wr.alloc (.cells #[.int .u64 (k : Int), .int .u32 (c : Int), .bool false, .slice xa m xc] 31)) (by simp) 4 (needC (⟨k, c, false, l⟩, .slice xa m xc)) 31 1 rfl (by decide)) (need_one _ _ _ _) (by unfold maxLen; omega) (by omega) (by simp; omega) ?_); intro v4 w4 hown4 hgr4 hv4; clear hv4)
              have HG := Lib.hid (own_below ((HB.out.alloc hsz (.cells #[.int .u64 (k : Int), .int .u32 (c : Int), .bool false, .slice xa m xc] 31)).alloc (by simp; omega) (.cells (needC (⟨k, c, false, l⟩, .slice xa m xc)).toArray 31)) (own_keep HO.out (((Below.refl _ _).alloc (Nat.le_refl _) _).alloc (by simp) _)) (by simp; omega) hgr4)
              have HO4 := Lib.hid (show w4.ownsRow w.heap.size 31 4 v4 (i + 1) (needsC (es ++ [(⟨k, c, false, l⟩, .slice xa m xc)])) by rw [needsC_snoc]; exact hown4)
              have HE4 := Lib.hid (show (es ++ [((⟨k, c, false, l⟩ : Nd), (.slice xa m xc : Value))]).map (·.1) = smallF (N.take (i + 1)) by rw [List.map_append, HEs.out, HSi.out, HEl.out]; rfl)
              have HD4 := Lib.hid (show ∀ p ∈ es ++ [((⟨k, c, false, l⟩ : Nd), (.slice xa m xc : Value))], RdB w p.2 p.1.data from fun p hp => by
                rcases List.mem_append.1 hp with hp | hp
                · exact HDt.out p hp
                · rw [List.mem_singleton.1 hp]; exact Hx.out)
              have hl4 : (es ++ [((⟨k, c, false, l⟩ : Nd), (.slice xa m xc : Value))]).length = i + 1 := by rw [List.length_append, hl]; rfl
              clear hown4 hgr4
              go_wp2_with fail
              exact ⟨⟨i + 1, _, by go_num, by omega, by omega, hl4, HO4, HE4, HD4, HG⟩, by simp [intOf]; omega⟩
        · by_cases b60 : 60 < m
          · have hto := fun W kh => slice_to (P := Try.prog) elemB (a := xa) (n := m) (cap := xc) (RdL.spot Hx.out (by omega)) 60 (by omega) W kh
            rw [show ((60 : Nat) : Int) = 60 from rfl] at hto
            by_cases bk : 1000 < k
            · have f60 : decide ((60 : Int) < (m : Int)) = true := by simp; omega
              have fk : decide ((1000 : Int) < (k : Int)) = true := by simp; omega
              have HEl := Lib.hid (show sm1 ⟨k, c, true, l⟩ = ⟨k % 8, c, true, []⟩ by unfold sm1; dsimp only; rw [if_pos (by omega), if_pos rfl])
              go_wp2_with (at_builtin; go_must (refine wpList_app (n := i) (m := 1) rfl (.tmp 38) (.tmp 40) 22 rfl elemN w.heap.size rfl (own_keep HO.out (((Below.refl _ _).alloc (Nat.le_refl _) _).alloc (by simp) _)) (by rfl) (Rd.newK (wr.heap.size + 1) (wr.alloc (.cells #[.int .u64 ((k % 8 : Nat) : Int), .int .u32 (c : Int), .bool true, .slice none 0 0] 31)) (by simp) 4 (needC (⟨k % 8, c, true, []⟩, .slice none 0 0)) 31 1 rfl (by decide)) (need_one _ _ _ _) (by unfold maxLen; omega) (by omega) (by simp; omega) ?_); intro v4 w4 hown4 hgr4 hv4; clear hv4)
              have HG := Lib.hid (own_below ((HB.out.alloc hsz (.cells #[.int .u64 ((k % 8 : Nat) : Int), .int .u32 (c : Int), .bool true, .slice none 0 0] 31)).alloc (by simp; omega) (.cells (needC (⟨k % 8, c, true, []⟩, .slice none 0 0)).toArray 31)) (own_keep HO.out (((Below.refl _ _).alloc (Nat.le_refl _) _).alloc (by simp) _)) (by simp; omega) hgr4)
              have HO4 := Lib.hid (show w4.ownsRow w.heap.size 31 4 v4 (i + 1) (needsC (es ++ [(⟨k % 8, c, true, []⟩, .slice none 0 0)])) by rw [needsC_snoc]; exact hown4)
              have HE4 := Lib.hid (show (es ++ [((⟨k % 8, c, true, []⟩ : Nd), (.slice none 0 0 : Value))]).map (·.1) = smallF (N.take (i + 1)) by rw [List.map_append, HEs.out, HSi.out, HEl.out]; rfl)
              have HD4 := Lib.hid (show ∀ p ∈ es ++ [((⟨k % 8, c, true, []⟩ : Nd), (.slice none 0 0 : Value))], RdB w p.2 p.1.data from fun p hp => by
                rcases List.mem_append.1 hp with hp | hp
                · exact HDt.out p hp
                · rw [List.mem_singleton.1 hp]; exact RdB_nil w)
              have hl4 : (es ++ [((⟨k % 8, c, true, []⟩ : Nd), (.slice none 0 0 : Value))]).length = i + 1 := by rw [List.length_append, hl]; rfl
              clear hown4 hgr4
              go_wp2_with fail
              exact ⟨⟨i + 1, _, by go_num, by omega, by omega, hl4, HO4, HE4, HD4, HG⟩, by simp [intOf]; omega⟩
            · have f60 : decide ((60 : Int) < (m : Int)) = true := by simp; omega
              have fk : decide ((1000 : Int) < (k : Int)) = false := by simp; omega
              have HEl := Lib.hid (show sm1 ⟨k, c, true, l⟩ = ⟨k, c, true, []⟩ by unfold sm1; dsimp only; rw [if_neg (by omega), if_pos rfl])
              go_wp2_with (at_builtin; go_must (refine wpList_app (n := i) (m := 1) rfl (.tmp 38) (.tmp 40) 22 rfl elemN w.heap.size rfl (own_keep HO.out (((Below.refl _ _).alloc (Nat.le_refl _) _).alloc (by simp) _)) (by rfl) (Rd.newK (wr.heap.size + 1) (wr.alloc (.cells #[.int .u64 (k : Int), .int .u32 (c : Int), .bool true, .slice none 0 0] 31)) (by simp) 4 (needC (⟨k, c, true, []⟩, .slice none 0 0)) 31 1 rfl (by decide)) (need_one _ _ _ _) (by unfold maxLen; omega) (by omega) (by simp; omega) ?_); intro v4 w4 hown4 hgr4 hv4; clear hv4)
              have HG := Lib.hid (own_below ((HB.out.alloc hsz (.cells #[.int .u64 (k : Int), .int .u32 (c : Int), .bool true, .slice none 0 0] 31)).alloc (by simp; omega) (.cells (needC (⟨k, c, true, []⟩, .slice none 0 0)).toArray 31)) (own_keep HO.out (((Below.refl _ _).alloc (Nat.le_refl _) _).alloc (by simp) _)) (by simp; omega) hgr4)
              have HO4 := Lib.hid (show w4.ownsRow w.heap.size 31 4 v4 (i + 1) (needsC (es ++ [(⟨k, c, true, []⟩, .slice none 0 0)])) by rw [needsC_snoc]; exact hown4)
              have HE4 := Lib.hid (show (es ++ [((⟨k, c, true, []⟩ : Nd), (.slice none 0 0 : Value))]).map (·.1) = smallF (N.take (i + 1)) by rw [List.map_append, HEs.out, HSi.out, HEl.out]; rfl)
              have HD4 := Lib.hid (show ∀ p ∈ es ++ [((⟨k, c, true, []⟩ : Nd), (.slice none 0 0 : Value))], RdB w p.2 p.1.data from fun p hp => by
                rcases List.mem_append.1 hp with hp | hp
                · exact HDt.out p hp
                · rw [List.mem_singleton.1 hp]; exact RdB_nil w)
              have hl4 : (es ++ [((⟨k, c, true, []⟩ : Nd), (.slice none 0 0 : Value))]).length = i + 1 := by rw [List.length_append, hl]; rfl
              clear hown4 hgr4
              go_wp2_with fail
              exact ⟨⟨i + 1, _, by go_num, by omega, by omega, hl4, HO4, HE4, HD4, HG⟩, by simp [intOf]; omega⟩
          · by_cases bk : 1000 < k
            · have f60 : decide ((60 : Int) < (m : Int)) = false := by simp; omega
              have fk : decide ((1000 : Int) < (k : Int)) = true := by simp; omega
              have HEl := Lib.hid (show sm1 ⟨k, c, true, l⟩ = ⟨k % 8, c, true, []⟩ by unfold sm1; dsimp only; rw [if_pos (by omega), if_pos rfl])
              go_wp2_with (at_builtin; go_must (refine wpList_app (n := i) (m := 1) rfl (.tmp 38) (.tmp 40) 22 rfl elemN w.heap.size rfl (own_keep HO.out (((Below.refl _ _).alloc (Nat.le_refl _) _).alloc (by simp) _)) (by rfl) (Rd.newK (wr.heap.size + 1) (wr.alloc (.cells #[.int .u64 ((k % 8 : Nat) : Int), .int .u32 (c : Int), .bool true, .slice none 0 0] 31)) (by simp) 4 (needC (⟨k % 8, c, true, []⟩, .slice none 0 0)) 31 1 rfl (by decide)) (need_one _ _ _ _) (by unfold maxLen; omega) (by omega) (by simp; omega) ?_); intro v4 w4 hown4 hgr4 hv4; clear hv4)
              have HG := Lib.hid (own_below ((HB.out.alloc hsz (.cells #[.int .u64 ((k % 8 : Nat) : Int), .int .u32 (c : Int), .bool true, .slice none 0 0] 31)).alloc (by simp; omega) (.cells (needC (⟨k % 8, c, true, []⟩, .slice none 0 0)).toArray 31)) (own_keep HO.out (((Below.refl _ _).alloc (Nat.le_refl _) _).alloc (by simp) _)) (by simp; omega) hgr4)
              have HO4 := Lib.hid (show w4.ownsRow w.heap.size 31 4 v4 (i + 1) (needsC (es ++ [(⟨k % 8, c, true, []⟩, .slice none 0 0)])) by rw [needsC_snoc]; exact hown4)
              have HE4 := Lib.hid (show (es ++ [((⟨k % 8, c, true, []⟩ : Nd), (.slice none 0 0 : Value))]).map (·.1) = smallF (N.take (i + 1)) by rw [List.map_append, HEs.out, HSi.out, HEl.out]; rfl)
              have HD4 := Lib.hid (show ∀ p ∈ es ++ [((⟨k % 8, c, true, []⟩ : Nd), (.slice none 0 0 : Value))], RdB w p.2 p.1.data from fun p hp => by
                rcases List.mem_append.1 hp with hp | hp
                · exact HDt.out p hp
                · rw [List.mem_singleton.1 hp]; exact RdB_nil w)
              have hl4 : (es ++ [((⟨k % 8, c, true, []⟩ : Nd), (.slice none 0 0 : Value))]).length = i + 1 := by rw [List.length_append, hl]; rfl
              clear hown4 hgr4
              go_wp2_with fail
              exact ⟨⟨i + 1, _, by go_num, by omega, by omega, hl4, HO4, HE4, HD4, HG⟩, by simp [intOf]; omega⟩
            · have f60 : decide ((60 : Int) < (m : Int)) = false := by simp; omega
              have fk : decide ((1000 : Int) < (k : Int)) = false := by simp; omega
              have HEl := Lib.hid (show sm1 ⟨k, c, true, l⟩ = ⟨k, c, true, []⟩ by unfold sm1; dsimp only; rw [if_neg (by omega), if_pos rfl])
              go_wp2_with (at_builtin; go_must (refine wpList_app (n := i) (m := 1) rfl (.tmp 38) (.tmp 40) 22 rfl elemN w.heap.size rfl (own_keep HO.out (((Below.refl _ _).alloc (Nat.le_refl _) _).alloc (by simp) _)) (by rfl) (Rd.newK (wr.heap.size + 1) (wr.alloc (.cells #[.int .u64 (k : Int), .int .u32 (c : Int), .bool true, .slice none 0 0] 31)) (by simp) 4 (needC (⟨k, c, true, []⟩, .slice none 0 0)) 31 1 rfl (by decide)) (need_one _ _ _ _) (by unfold maxLen; omega) (by omega) (by simp; omega) ?_); intro v4 w4 hown4 hgr4 hv4; clear hv4)
              have HG := Lib.hid (own_below ((HB.out.alloc hsz (.cells #[.int .u64 (k : Int), .int .u32 (c : Int), .bool true, .slice none 0 0] 31)).alloc (by simp; omega) (.cells (needC (⟨k, c, true, []⟩, .slice none 0 0)).toArray 31)) (own_keep HO.out (((Below.refl _ _).alloc (Nat.le_refl _) _).alloc (by simp) _)) (by simp; omega) hgr4)
              have HO4 := Lib.hid (show w4.ownsRow w.heap.size 31 4 v4 (i + 1) (needsC (es ++ [(⟨k, c, true, []⟩, .slice none 0 0)])) by rw [needsC_snoc]; exact hown4)
              have HE4 := Lib.hid (show (es ++ [((⟨k, c, true, []⟩ : Nd), (.slice none 0 0 : Value))]).map (·.1) = smallF (N.take (i + 1)) by rw [List.map_append, HEs.out, HSi.out, HEl.out]; rfl)
              have HD4 := Lib.hid (show ∀ p ∈ es ++ [((⟨k, c, true, []⟩ : Nd), (.slice none 0 0 : Value))], RdB w p.2 p.1.data from fun p hp => by
                rcases List.mem_append.1 hp with hp | hp
                · exact HDt.out p hp
                · rw [List.mem_singleton.1 hp]; exact RdB_nil w)
              have hl4 : (es ++ [((⟨k, c, true, []⟩ : Nd), (.slice none 0 0 : Value))]).length = i + 1 := by rw [List.length_append, hl]; rfl
              clear hown4 hgr4
              go_wp2_with fail
              exact ⟨⟨i + 1, _, by go_num, by omega, by omega, hl4, HO4, HE4, HD4, HG⟩, by simp [intOf]; omega⟩
      · have q1 : decide (i < n) = true := decide_eq_true hin
        have q2 : decide ((i : Int) < 12) = false := decide_eq_false (by omega)
        have HF := Lib.hid (HEs.out.trans (HE.out i hi2 (.inr (by omega))))
        go_wp2_with fail
        go_ret
        exact ⟨_, es, rfl, by rw [hl]; exact HO.out, HF.out, HDt.out, HB.out⟩
    · have q1 : decide (i < n) = false := decide_eq_false hin
      have HF := Lib.hid (HEs.out.trans (HE.out i hi2 (.inl (by omega))))
      go_wp2_with fail
      go_ret
      exact ⟨_, es, rfl, by rw [hl]; exact HO.out, HF.out, HDt.out, HB.out⟩
end Go.Proofs.Ytecflhklpkjhcaa

namespace Go.Proofs.Ytecflhklpkjhcaa
open Go.RowKit

theorem elemI6 : ElemT Try.prog 25 2 1 8 := by
  obtain ⟨i, hi, hz, hs, hb⟩ := info_parts (P := Try.prog) (e := 2) (z := .int .i64 0) (size := 1) (bytes := 8) (by kernel_rfl)
  exact ⟨Try.underlying25, by decide, i, _, hi, hz, hs, hb, rfl⟩
def fsup : Sup := ⟨0, 1, 0⟩
theorem fsup_ok : svld fsup := by unfold svld fsup; decide
/-- The bytes of a file. -/
def fileB (k : List Nd) : List UInt8 := senc fsup ++ nencs k
/-- Where the records end. -/
def endsF (k : List Nd) : List Int := (List.range k.length).map fun i => ((16 + nsum (k.take (i + 1)) : Nat) : Int)
theorem fileB_length (k : List Nd) : (fileB k).length = 16 + nsum k := by rw [fileB, List.length_append, senc_length, nencs_length]
theorem nsum_snoc (k : List Nd) (x : Nd) : nsum (k ++ [x]) = nsum k + nsz x.data.length := by simp [nsum]
theorem nencs_snoc (k : List Nd) (x : Nd) : nencs (k ++ [x]) = nencs k ++ nenc x := by simp [nencs]
theorem nsum_le : ∀ {k : List Nd}, (∀ x ∈ k, x.ok) → nsum k ≤ 4128 * k.length
  | [], _ => by simp [nsum]
  | x :: k, h => by
    have h1 := nsum_le (k := k) fun y hy => h y (by simp [hy])
    have h2 := (h x (by simp)).1
    have h3 := nsz_bounds x.data.length
    rw [nsum_cons, List.length_cons]; omega
theorem endsF_snoc {k : List Nd} {i : Nat} (h : i < k.length) : endsF (k.take (i + 1)) = endsF (k.take i) ++ [((16 + nsum (k.take (i + 1)) : Nat) : Int)] := by
  unfold endsF
  rw [List.length_take, List.length_take, Nat.min_eq_left (by omega), Nat.min_eq_left (by omega), List.range_succ, List.map_append]
  congr 1
  · refine List.map_congr_left fun j hj => ?_
    rw [List.mem_range] at hj
    rw [List.take_take, List.take_take, Nat.min_eq_left (by omega), Nat.min_eq_left (by omega)]
  · simp [List.take_take]
theorem map_snoc' {es : List (Nd × Value)} {i : Nat} (h : i < es.length) : (es.map (·.1)).take (i + 1) = (es.map (·.1)).take i ++ [(nat' es i).1] := by
  unfold nat'
  rw [List.take_add_one, List.getElem?_map, List.getElem?_eq_getElem h, List.getD_eq_getElem?_getD, List.getElem?_eq_getElem h]; rfl
theorem rd_int (w : World) (x : Int) (e : TypeId) : Rd (w.alloc (.cells #[.int .i64 x] e)) 1 (.slice (some ⟨w.heap.size, 0, none⟩) 1 1) 1 ([x].map intV) := Rd.new w 1 _ e 1 rfl (by decide)
set_option maxRecDepth 100000 in
set_option maxHeartbeats 8000000 in
theorem file_any (v : Value) (es : List (Nd × Value)) (w : World) (h : RdN w v es) (hok : ∀ p ∈ es, p.1.ok ∧ p.1.Wf) (hs : es.length ≤ 12) :
    Calls Try.prog 11 #[v] w fun e w' => ∃ bv nv, e = .returned (.tuple #[bv, nv]) ∧ OwnB w' w.heap.size bv (fileB (es.map (·.1))) ∧ w'.ownsRow w.heap.size 2 1 nv es.length ((endsF (es.map (·.1))).map intV) ∧ Below w.heap.size w w' := by
  obtain ⟨a, cap, rfl, h1, h2⟩ := h.shape
  have Hw0 := Lib.hid h
  have HK := Lib.hid hok
  have HM := Lib.hid (show ∀ j, j < es.length → nat' es j ∈ es from fun j => nat'_mem)
  have HS := Lib.hid (show ∀ j, j < es.length → fileB ((es.map (·.1)).take (j + 1)) = fileB ((es.map (·.1)).take j) ++ nenc (nat' es j).1 ∧ endsF ((es.map (·.1)).take (j + 1)) = endsF ((es.map (·.1)).take j) ++ [((fileB ((es.map (·.1)).take (j + 1))).length : Int)] from fun j hj => by
    have hj' : j < (es.map (·.1)).length := by rw [List.length_map]; exact hj
    refine ⟨by rw [map_snoc' hj, fileB, fileB, nencs_snoc, List.append_assoc], ?_⟩
    rw [endsF_snoc hj', fileB_length])
  have HLe := Lib.hid (show ∀ j, (fileB ((es.map (·.1)).take j)).length ≤ 60000 from fun j => by
    have := nsum_le (k := (es.map (·.1)).take j) (fun x hx => by
      obtain ⟨p, hp, rfl⟩ := List.mem_map.1 (List.mem_of_mem_take hx)
      exact (hok p hp).1)
    rw [List.length_take, List.length_map] at this
    rw [fileB_length]
    have : min j es.length ≤ 12 := by omega
    omega)
  have HE := Lib.hid (show (es.map (·.1)).take es.length = es.map (·.1) from List.take_of_length_le (by rw [List.length_map]; exact Nat.le_refl _))
  have H0 := Lib.hid (show fileB ((es.map (·.1)).take 0) = senc fsup by simp [fileB, nencs])
  have HEnc := Lib.hid (rsenc_any fsup w fsup_ok)
  generalize hn : es.length = n at *
  clear h hok hn
  generalize es.map (·.1) = K at *
  go_enter Try.func11, Try.ntmps11
  go_wp2_with fail
  refine HEnc.out.mono ?_; rintro e w1 ⟨v1, rfl, hown, hb⟩
  have HO1 := Lib.hid hown
  have HB1 := Lib.hid hb
  clear hown hb HEnc
  go_wp2_with fail
  go_loopw [4, 6, 17] (fun bv nv iv W => ∃ (i m : Nat), iv = .int .i64 (i : Int) ∧ i ≤ n ∧ m ≤ 60000 ∧ Hid (m = (fileB (K.take i)).length) ∧ Hid (W.ownsRow w.heap.size 5 1 bv m ((fileB (K.take i)).map byteV)) ∧ Hid (W.ownsRow w.heap.size 2 1 nv i ((endsF (K.take i)).map intV)) ∧ Hid (Below w.heap.size w W)) (fun _ _ iv _ => n - (intOf iv).toNat)
  case atStart => exact ⟨0, _, rfl, Nat.zero_le _, HLe.out 0, Lib.hid rfl, Lib.hid (by rw [H0.out]; exact HO1.out), Lib.hid (World.ownsRow_nil _ _ _ _), HB1⟩
  case round =>
    obtain ⟨i, m, rfl, hi, hm, HmE, HOb, HOn, HB⟩ := hrel
    have hsz := HB.out.size
    by_cases hin : i < n
    · have hr := Hw0.out.below HB.out
      obtain ⟨pb, poff, rfl, hx, c0, c1, c2, c3⟩ := hr.at hin
      obtain ⟨hko, hkw⟩ := HK.out _ (HM.out i hin)
      obtain ⟨HS1, HS2⟩ := HS.out i hin
      have HS1 := Lib.hid HS1
      have HS2 := Lib.hid HS2
      clear hr
      generalize nat' es i = X at *
      obtain ⟨x, dv⟩ := X
      dsimp only at *
      have HEn := Lib.hid (rnenc_any x dv wr hko hkw hx)
      have hbd := nsz_bounds x.data.length
      have hx1 := hko.1
      have HNl := Lib.hid (nenc_length x)
      obtain ⟨_, _, hdv, _, _⟩ := hx.shape0
      subst hdv
      have i1 : (i : Int) < (n : Int) := by omega
      clear hx hko hkw
      go_wp2_with fail
      refine HEn.out.mono ?_; rintro e w2 ⟨v2, rfl, hown2, hb2⟩
      have HOb2 := Lib.hid (own_keep HOb.out hb2)
      have HOn2 := Lib.hid (own_keep HOn.out hb2)
      have HB2 := Lib.hid (bup HB.out hsz hb2)
      have hs2 := HB2.out.size
      generalize hN : nsz x.data.length = s at *
      have HR2 := Lib.hid (show Rd w2 1 v2 s ((nenc x).map byteV) by have := hown2.rd; unfold RdB RdL at this; rw [HNl.out] at this; exact this)
      clear hown2 hb2 c0 c1 c2 c3 HEn hN
      go_wp2_with (first | (at_builtin; refine wpList_app (n := m) (m := s) rfl (.tmp 28) (.tmp 29) 23 rfl elemB w.heap.size rfl HOb2.out rfl HR2.out (bytes_one _) (by unfold maxLen; omega) (by omega) hs2 ?_; intro v3 w3 hown3 hgr3 hv3; clear hv3; have HOb3 := Lib.hid (show w3.ownsRow w.heap.size 5 1 v3 (m + s) ((fileB (K.take (i + 1))).map byteV) by (rw [HS1.out, List.map_append]; exact hown3)); have HB3 := Lib.hid (own_below HB2.out HOb2.out hs2 hgr3); have HOn3 := Lib.hid (HOn2.out.kept hgr3 (own_ne HOn2.out HOb2.out (by decide))); have hs3 := HB3.out.size; obtain ⟨oa3, oc3, hv3, _⟩ := own_form HOb3.out; subst hv3; clear hown3 hgr3) | (at_builtin; go_must (refine wpList_app (n := i) (m := 1) rfl (.tmp 31) (.tmp 34) 25 rfl elemI6 w.heap.size rfl (own_keep HOn3.out ((Below.refl _ _).alloc (Nat.le_refl _) _)) rfl (rd_int _ ((m : Int) + (s : Int)) 2) (one_map intV (fun _ => rfl) _) (by unfold maxLen; omega) (by omega) (by simp; omega) ?_); intro v4 w4 hown4 hgr4 hv4; clear hv4))
      have HSz := Lib.hid (show (fileB (K.take (i + 1))).length = m + s by rw [HS1.out, List.length_append, HNl.out, ← HmE.out])
      have hm3 : m + s ≤ 60000 := by have := HLe.out (i + 1); rw [HSz.out] at this; exact this
      have HOn4 := Lib.hid (show w4.ownsRow w.heap.size 2 1 v4 (i + 1) ((endsF (K.take (i + 1))).map intV) by rw [HS2.out, HSz.out, List.map_append, Int.natCast_add]; exact hown4)
      have HAl := Lib.hid (show Below w3.heap.size w3 (w3.alloc (.cells #[.int .i64 ((m : Int) + (s : Int))] 2)) from (Below.refl _ _).alloc (Nat.le_refl _) _)
      have HB4 := Lib.hid (own_below (bup HB3.out hs3 HAl.out) (own_keep HOn3.out HAl.out) (Nat.le_trans hs3 HAl.out.size) hgr4)
      have HOb4 := Lib.hid ((own_keep HOb3.out HAl.out).kept hgr4 (own_ne (own_keep HOb3.out HAl.out) (own_keep HOn3.out HAl.out) (by decide)))
      clear hown4 hgr4
      go_wp2_with fail
      exact ⟨⟨i + 1, m + s, by go_num, by omega, hm3, Lib.hid HSz.out.symm, HOb4, HOn4, HB4⟩, by simp [intOf]; omega⟩
    · obtain rfl : i = n := by omega
      go_wp2_with fail
      go_ret2
      exact ⟨_, _, rfl, by have := HOb.out; rw [HE.out] at this; exact ownB_of this rfl, by have := HOn.out; rw [HE.out] at this; exact this, HB.out⟩
end Go.Proofs.Ytecflhklpkjhcaa

namespace Go.Proofs.Ytecflhklpkjhcaa
open Go.RowKit Go.Maps

/-- The place of the last that has the key; a, if there is none. -/
def lastA (key : Nat) : List Nat → Nat → Nat → Nat
  | [], _, a => a
  | x :: K, i, a => lastA key K (i + 1) (if x = key then i else a)
theorem lastA_snoc (key : Nat) : ∀ (K : List Nat) (x i a : Nat), lastA key (K ++ [x]) i a = if x = key then i + K.length else lastA key K i a
  | [], x, i, a => by simp [lastA]
  | y :: K, x, i, a => by
    show lastA key (K ++ [x]) (i + 1) _ = _
    rw [lastA_snoc key K x (i + 1)]
    split
    · simp; omega
    · rfl
def lastI (K : List Nat) (key : Nat) : Nat := lastA key K 0 0
theorem lastI_snoc (K : List Nat) (x key : Nat) : lastI (K ++ [x]) key = if x = key then K.length else lastI K key := by
  unfold lastI; rw [lastA_snoc, Nat.zero_add]
def keysR (l : List Rec) : List Nat := l.map fun r => r.nd.key
theorem lawK : Keyed Try.prog 28 := int_keyed Try.underlying28
theorem zeroI (w : World) : (zeroValue 3).run Try.prog w = .ok (.int .i64 0) w := by kernel_rfl
/-- Block B is a map that has f's answers. -/
def LastM (w : World) (B n : Nat) (f : Nat → Nat) : Prop := ∃ D : DataW Unit, w.ownsMap Try.prog 28 (plainElem Try.prog 3) B n D ∧ ∀ k : Nat, k < 18446744073709551616 → D.atKey (.int .u64 (k : Int)) (.lit (.int .i64 0)) = .lit (.int .i64 (f k : Int))
theorem LastM.below {w w' : World} {B n : Nat} {f : Nat → Nat} {C : Nat} (h : LastM w B n f) (hB : B < C) (hb : Below C w w') : LastM w' B n f := by
  obtain ⟨D, ⟨es, clock, h1, h2, h3, h4⟩, h5⟩ := h
  exact ⟨D, ⟨es, clock, (hb.block B hB).trans h1, h2, h3, h4⟩, h5⟩
theorem wf_key {k : Nat} (h : k < 18446744073709551616) : (Lit.int .u64 (k : Int)).wf = true := by
  exact WalkArith.wf_u64 (by omega)
theorem LastM.put {w : World} {B n : Nat} {f : Nat → Nat} {D : DataW Unit} {x i : Nat} (_hx : x < 18446744073709551616) (h1 : w.ownsMap Try.prog 28 (plainElem Try.prog 3) B n (D.put (.int .u64 (x : Int)) (.lit (.int .i64 (i : Int))))) (hD : IsMap D)
    (h2 : ∀ k : Nat, k < 18446744073709551616 → D.atKey (.int .u64 (k : Int)) (.lit (.int .i64 0)) = .lit (.int .i64 (f k : Int))) : LastM w B n (fun k => if x = k then i else f k) :=
  ⟨_, h1, fun k hk => by
    by_cases e : x = k
    · subst e
      rw [atKey_put_same hD (show WideAt.IsKeyLit (.int .u64 (x : Int)) from trivial)]; show _ = DataW.lit (.int .i64 ((if x = x then i else f x : Nat) : Int)); rw [if_pos rfl]
    · rw [atKey_put_other (by intro e'; injection e' with e1 e2; omega), h2 k hk]; show _ = DataW.lit (.int .i64 ((if x = k then i else f k : Nat) : Int)); rw [if_neg e]⟩
set_option maxRecDepth 100000 in
set_option maxHeartbeats 4000000 in
theorem last_any (v : Value) (es : List (Rec × Value)) (w : World) (h : RdR w v es) (hk : ∀ p ∈ es, p.1.nd.key < 18446744073709551616) (hs : es.length ≤ 1000000) :
    Calls Try.prog 35 #[v] w fun e w' => e = .returned (.map (some w.heap.size)) ∧ LastM w' w.heap.size es.length (lastI (keysR (es.map (·.1)))) ∧ Below w.heap.size w w' := by
  obtain ⟨a, cap, rfl, h1, h2⟩ := h.shape
  have Hw0 := Lib.hid h
  have HK := Lib.hid hk
  have HM := Lib.hid (show ∀ j, j < es.length → rat es j ∈ es from fun j => rat_mem)
  have HS := Lib.hid (show ∀ j, j < es.length → ∀ key, lastI ((keysR (es.map (·.1))).take (j + 1)) key = if (rat es j).1.nd.key = key then j else lastI ((keysR (es.map (·.1))).take j) key from fun j hj key => by
    have hl : (keysR (es.map (·.1))).length = es.length := by simp [keysR]
    rw [List.take_add_one, List.getElem?_eq_getElem (by omega), Option.toList_some, lastI_snoc, List.length_take, Nat.min_eq_left (by omega)]
    have : (keysR (es.map (·.1)))[j]'(by omega) = (rat es j).1.nd.key := by
      unfold rat
      simp [keysR, List.getD_eq_getElem?_getD, List.getElem?_eq_getElem hj]
    rw [this])
  have HE := Lib.hid (show (keysR (es.map (·.1))).take es.length = keysR (es.map (·.1)) from List.take_of_length_le (by simp [keysR]))
  generalize hn : es.length = n at *
  clear h hk hn
  generalize keysR (es.map (·.1)) = K at *
  have hmm := @run_makeMap Try.prog
  go_enter Try.func35, Try.ntmps35
  go_wp2_with fail
  go_loopw [9] (fun iv W => ∃ i : Nat, iv = .int .i64 (i : Int) ∧ i ≤ n ∧ Hid (LastM W w.heap.size i (lastI (K.take i))) ∧ Hid (Below w.heap.size w W) ∧ w.heap.size < W.heap.size) (fun iv _ => n - (intOf iv).toNat)
  case atStart => exact ⟨0, by rfl, Nat.zero_le _, Lib.hid ⟨_, World.ownsMap_made _ _ _ _, fun k _ => rfl⟩, Lib.hid ((Below.refl _ _).alloc (Nat.le_refl _) _), by simp⟩
  case round =>
    obtain ⟨i, rfl, hi, HMp, HB, hsz⟩ := hrel
    by_cases hin : i < n
    · have hr := Hw0.out.below HB.out
      obtain ⟨pb, poff, rfl, hd, c0, c1, c2, c3, c4⟩ := hr.at hin
      have hkk := HK.out _ (HM.out i hin)
      have HSi := Lib.hid (HS.out i hin)
      clear hr
      generalize rat es i = X at *
      obtain ⟨⟨off, x⟩, dv⟩ := X
      dsimp only at *
      obtain ⟨da, dc, hdv, _, _⟩ := hd.shape0
      subst hdv
      obtain ⟨D, hD, hat⟩ := HMp.out
      have HD := Lib.hid hD
      have HAt := Lib.hid hat
      have i1 : (i : Int) < (n : Int) := by omega
      clear hd hD hat
      have hkey : keyOf Try.prog 28 (.int .u64 (x.key : Int)) = some (.int .u64 (x.key : Int)) := keyOf_int_mk Try.underlying28 (wf_key hkk)
      go_wp2_with (at_mapUpdate; refine wpList_mapUpdate_own _ rfl _ _ _ 83 rfl 28 3 lawK Try.underlying83 _ w.heap.size i _ rfl (HD.out.alloc _) (by unfold maxLen; omega) _ _ _ rfl rfl hkey _ [] (plainElem_int Try.underlying3 (WalkArith.wf_i64 (by omega))) ?_; intro w1 hown1 hgrow1)
      have HAl := Lib.hid (HB.out.alloc (Nat.le_of_lt hsz) (.cells (recC (⟨off, x⟩, .slice da x.data.length dc)).toArray 43))
      have HG := Lib.hid (HAl.out.grown hgrow1 HAl.out.size (fun j hj => by cases hj; exact Nat.le_refl _))
      have HP := Lib.hid (LastM.put hkk hown1 (HD.out.tidy lawK).isMap HAt.out)
      have HF := Lib.hid (show (fun k => if x.key = k then i else lastI (K.take i) k) = lastI (K.take (i + 1)) from funext fun k => (HSi.out k).symm)
      rw [HF.out] at HP
      have hs1 : w.heap.size < w1.heap.size := Nat.lt_of_lt_of_le hsz (Nat.le_trans (by simp) hgrow1.size)
      clear hown1 hgrow1 HAl
      go_wp2_with fail
      exact ⟨⟨i + 1, by go_num, by omega, HP, HG, hs1⟩, by simp [intOf]; omega⟩
    · obtain rfl : i = n := by omega
      go_wp2_with fail
      go_ret
      exact ⟨rfl, by have := HMp.out; rw [HE.out] at this; exact this, HB.out⟩
end Go.Proofs.Ytecflhklpkjhcaa

namespace Go.Proofs.Ytecflhklpkjhcaa
open Go.RowKit Go.Maps

def itR (r : Rec) : It := ⟨(r.nd.key : Int), (r.nd.ck : Int), r.off, (r.nd.data.length : Int)⟩
/-- The items of the records that are live, f telling which record of a key is the last. -/
def liveT (f : Nat → Nat) : List Rec → Nat → List It
  | [], _ => []
  | r :: l, i => (if f r.nd.key = i ∧ r.nd.del = false then [itR r] else []) ++ liveT f l (i + 1)
theorem liveT_snoc (f : Nat → Nat) : ∀ (l : List Rec) (r : Rec) (i : Nat), liveT f (l ++ [r]) i = liveT f l i ++ (if f r.nd.key = i + l.length ∧ r.nd.del = false then [itR r] else [])
  | [], r, i => by simp [liveT]
  | x :: l, r, i => by
    show _ ++ liveT f (l ++ [r]) (i + 1) = _
    rw [liveT_snoc f l r (i + 1), List.length_cons, show i + 1 + l.length = i + (l.length + 1) by omega]
    show _ = _ ++ liveT f l (i + 1) ++ _
    rw [List.append_assoc]
theorem liveT_length (f : Nat → Nat) : ∀ (l : List Rec) (i : Nat), (liveT f l i).length ≤ l.length
  | [], _ => Nat.le_refl _
  | x :: l, i => by
    have := liveT_length f l (i + 1)
    show (_ ++ liveT f l (i + 1)).length ≤ _
    rw [List.length_append, List.length_cons]
    split <;> simp <;> omega
/-- The items of records. -/
def itemsP (l : List Rec) : List It := srt (liveT (lastI (keysR l)) l 0)
theorem mrg_nil (l : List It) : mrg [] l [] = srt l := by
  unfold mrg
  rw [srt_nil]
  show srt ([] ++ srt l) = _
  rw [List.nil_append, srt_of_asc (srt_asc l)]
theorem itsC_of1 (r : Rec) : itsC [itR r] = [.int .u64 (r.nd.key : Int), .int .u32 (r.nd.ck : Int), .int .i64 r.off, .int .i64 (r.nd.data.length : Int)] := rfl
set_option maxRecDepth 100000 in
set_option maxHeartbeats 8000000 in
theorem items_any (v : Value) (es : List (Rec × Value)) (w : World) (h : RdR w v es) (hk : ∀ p ∈ es, p.1.nd.key < 18446744073709551616) (hs : es.length ≤ 50000) :
    Calls Try.prog 17 #[v] w fun e w' => ∃ lv, e = .returned lv ∧ OwnT w' w.heap.size lv (itemsP (es.map (·.1))) ∧ Below w.heap.size w w' := by
  obtain ⟨a, cap, rfl, h1, h2⟩ := h.shape
  have Hw0 := Lib.hid h
  have HK := Lib.hid hk
  have HLa := Lib.hid (last_any _ es w h hk (by omega))
  have HM := Lib.hid (show ∀ j, j < es.length → rat es j ∈ es from fun j => rat_mem)
  have HIP := Lib.hid (show itemsP (es.map (·.1)) = srt (liveT (lastI (keysR (es.map (·.1)))) (es.map (·.1)) 0) from rfl)
  generalize lastI (keysR (es.map (·.1))) = f at *
  have HS := Lib.hid (show ∀ j, j < es.length → liveT f ((es.map (·.1)).take (j + 1)) 0 = liveT f ((es.map (·.1)).take j) 0 ++ (if f (rat es j).1.nd.key = j ∧ (rat es j).1.nd.del = false then [itR (rat es j).1] else []) from fun j hj => by
    have hl : (es.map (·.1)).length = es.length := List.length_map ..
    rw [List.take_add_one, List.getElem?_eq_getElem (by omega), Option.toList_some, liveT_snoc, List.length_take, Nat.min_eq_left (by omega), Nat.zero_add]
    have : (es.map (·.1))[j]'(by omega) = (rat es j).1 := by
      unfold rat
      simp [List.getD_eq_getElem?_getD, List.getElem?_eq_getElem hj]
    rw [this])
  have HE := Lib.hid (show (es.map (·.1)).take es.length = es.map (·.1) from List.take_of_length_le (by simp))
  have HLn := Lib.hid (show ∀ j, (liveT f ((es.map (·.1)).take j) 0).length ≤ j from fun j => Nat.le_trans (liveT_length f _ 0) (by rw [List.length_take]; omega))
  generalize hn : es.length = n at *
  clear h hk hn
  generalize itemsP (es.map (·.1)) = R at *
  generalize es.map (·.1) = L at *
  go_enter Try.func17, Try.ntmps17
  go_wp2_with fail
  refine HLa.out.mono ?_; rintro e w1 ⟨rfl, hmp, hb1⟩
  have hlt1 : w.heap.size < w1.heap.size := by
    obtain ⟨D, ⟨es', c, hh, _⟩, _⟩ := hmp
    exact (Array.getElem?_eq_some_iff.1 hh).1
  have HMp := Lib.hid hmp
  have HB1 := Lib.hid hb1
  clear hmp hb1 HLa
  go_wp2_with fail
  go_loopw [4, 12] (fun ov iv W => ∃ i m : Nat, iv = .int .i64 (i : Int) ∧ i ≤ n ∧ m ≤ i ∧ Hid (m = (liveT f (L.take i) 0).length) ∧ Hid (W.ownsRow w1.heap.size 50 4 ov m (itsC (liveT f (L.take i) 0))) ∧ Hid (Below w1.heap.size w1 W)) (fun _ iv _ => n - (intOf iv).toNat)
  case atStart => exact ⟨0, 0, by rfl, Nat.zero_le _, Nat.le_refl _, Lib.hid rfl, Lib.hid (World.ownsRow_nil _ _ _ _), Lib.hid (Below.refl _ _)⟩
  case round =>
    obtain ⟨i, m, rfl, hi, hmi, Hm, HO, HB⟩ := hrel
    have hsz := HB.out.size
    by_cases hin : i < n
    · have hr := Hw0.out.below (bstep HB1.out HB.out)
      obtain ⟨pb, poff, rfl, hd, c0, c1, c2, c3, c4⟩ := hr.at hin
      have hkk := HK.out _ (HM.out i hin)
      have HSi := Lib.hid (HS.out i hin)
      clear hr
      generalize rat es i = X at *
      obtain ⟨⟨off, x⟩, dv⟩ := X
      dsimp only at *
      obtain ⟨da, dc, hdv, _, _⟩ := hd.shape0
      subst hdv
      obtain ⟨D, hD, hat⟩ := HMp.out.below hlt1 HB.out
      have HD := Lib.hid hD
      have HAt := Lib.hid (hat x.key hkk)
      have i1 : (i : Int) < (n : Int) := by omega
      clear hd hD hat
      have hkey : keyOf Try.prog 28 (.int .u64 (x.key : Int)) = some (.int .u64 (x.key : Int)) := keyOf_int_mk Try.underlying28 (wf_key hkk)
      generalize hg : f x.key = g at *
      obtain ⟨xk, xc, xd, xl⟩ := x
      dsimp only at *
      generalize hl : xl.length = l at *
      by_cases hgi : g = i
      · have q1 : ((g : Int) == (i : Int)) = true := beq_iff_eq.2 (by omega)
        cases xd
        · have HN := Lib.hid (show liveT f (L.take (i + 1)) 0 = liveT f (L.take i) 0 ++ [itR ⟨off, ⟨xk, xc, false, xl⟩⟩] by rw [HSi.out, if_pos ⟨hgi, rfl⟩])
          have HIt := Lib.hid (show itsC [itR ⟨off, ⟨xk, xc, false, xl⟩⟩] = [.int .u64 (xk : Int), .int .u32 (xc : Int), .int .i64 off, .int .i64 (l : Int)] by rw [← hl]; rfl)
          have HBa := Lib.hid (show Below wr.heap.size wr ((wr.alloc (.cells #[.int .i64 off, .int .u64 (xk : Int), .int .u32 (xc : Int), .bool false, .slice da l dc] 43)).alloc (.cells #[.int .u64 (xk : Int), .int .u32 (xc : Int), .bool false, .slice da l dc] 31)) from ((Below.refl _ _).alloc (Nat.le_refl _) _).alloc (by simp) _)
          have hnlen : (([.int .u64 (xk : Int), .int .u32 (xc : Int), .int .i64 off, .int .i64 (l : Int)] : List Value)).length = 1 * 4 := rfl
          have HON := Lib.hid (show ∀ u ∈ ([.int .u64 (xk : Int), .int .u32 (xc : Int), .int .i64 off, .int .i64 (l : Int)] : List Value), u.oneCell' = true by rw [← HIt.out]; exact itsC_one' _)
          clear hl hg HSi hgi
          go_wp2_with (first | (at_lookup; refine wpList_lookup_own_int _ rfl _ _ 83 rfl 28 3 .i64 lawK Try.underlying83 Try.underlying3 (zeroI _) w.heap.size n _ rfl ((HD.out.alloc _).alloc _) _ _ rfl hkey ?_; intro c hat hwc; have hc := hat.symm.trans HAt.out; injection hc with hc; injection hc with _ hc; subst hc; clear hat hwc) | (at_builtin; go_must (refine wpList_app (n := m) (m := 1) rfl (.tmp 30) (.tmp 41) 47 rfl elemT w1.heap.size rfl (own_keep HO.out (HBa.out.alloc (by simp; omega) _)) (by rfl) (Rd.newK (wr.heap.size + 1 + 1) ((wr.alloc (.cells #[.int .i64 off, .int .u64 (xk : Int), .int .u32 (xc : Int), .bool false, .slice da l dc] 43)).alloc (.cells #[.int .u64 (xk : Int), .int .u32 (xc : Int), .bool false, .slice da l dc] 31)) (by simp) 4 _ 50 1 hnlen (by decide)) HON.out (by unfold maxLen; omega) (by omega) (by simp; omega) ?_); intro v4 w4 hown4 hgr4 hv4; clear hv4))
          have HAl := Lib.hid (HBa.out.alloc (by simp; omega) (.cells ([.int .u64 (xk : Int), .int .u32 (xc : Int), .int .i64 off, .int .i64 (l : Int)] : List Value).toArray 50))
          have hs8 := Nat.le_trans hsz HAl.out.size
          have HB4 := Lib.hid (own_below (bup HB.out hsz HAl.out) (own_keep HO.out HAl.out) hs8 hgr4)
          have HO4 := Lib.hid (show w4.ownsRow w1.heap.size 50 4 v4 (m + 1) (itsC (liveT f (L.take (i + 1)) 0)) by rw [HN.out, itsC_append, HIt.out]; exact hown4)
          clear hown4 hgr4
          go_wp2_with fail
          exact ⟨⟨i + 1, m + 1, by go_num, by omega, by omega, Lib.hid (by rw [HN.out, List.length_append, ← Hm.out]; rfl), HO4, HB4⟩, by simp [intOf]; omega⟩
        · have HN := Lib.hid (show liveT f (L.take (i + 1)) 0 = liveT f (L.take i) 0 by rw [HSi.out, if_neg (by simp), List.append_nil])
          have HBa := Lib.hid (show Below wr.heap.size wr ((wr.alloc (.cells #[.int .i64 off, .int .u64 (xk : Int), .int .u32 (xc : Int), .bool true, .slice da l dc] 43)).alloc (.cells #[.int .u64 (xk : Int), .int .u32 (xc : Int), .bool true, .slice da l dc] 31)) from ((Below.refl _ _).alloc (Nat.le_refl _) _).alloc (by simp) _)
          clear hl hg HSi hgi
          go_wp2_with (first | (at_lookup; refine wpList_lookup_own_int _ rfl _ _ 83 rfl 28 3 .i64 lawK Try.underlying83 Try.underlying3 (zeroI _) w.heap.size n _ rfl ((HD.out.alloc _).alloc _) _ _ rfl hkey ?_; intro c hat hwc; have hc := hat.symm.trans HAt.out; injection hc with hc; injection hc with _ hc; subst hc; clear hat hwc))
          exact ⟨⟨i + 1, m, by go_num, by omega, by omega, Lib.hid (by rw [HN.out]; exact Hm.out), Lib.hid (by rw [HN.out]; exact own_keep HO.out HBa.out), Lib.hid (bup HB.out hsz HBa.out)⟩, by simp [intOf]; omega⟩
      · have q1 : ((g : Int) == (i : Int)) = false := beq_eq_false_iff_ne.2 (by omega)
        have HN := Lib.hid (show liveT f (L.take (i + 1)) 0 = liveT f (L.take i) 0 by rw [HSi.out, if_neg (fun e => hgi e.1), List.append_nil])
        have HBa := Lib.hid (show Below wr.heap.size wr ((wr.alloc (.cells #[.int .i64 off, .int .u64 (xk : Int), .int .u32 (xc : Int), .bool xd, .slice da l dc] 43)).alloc (.cells #[.int .u64 (xk : Int), .int .u32 (xc : Int), .bool xd, .slice da l dc] 31)) from ((Below.refl _ _).alloc (Nat.le_refl _) _).alloc (by simp) _)
        clear hl hg HSi hgi
        go_wp2_with (first | (at_lookup; refine wpList_lookup_own_int _ rfl _ _ 83 rfl 28 3 .i64 lawK Try.underlying83 Try.underlying3 (zeroI _) w.heap.size n _ rfl ((HD.out.alloc _).alloc _) _ _ rfl hkey ?_; intro c hat hwc; have hc := hat.symm.trans HAt.out; injection hc with hc; injection hc with _ hc; subst hc; clear hat hwc))
        exact ⟨⟨i + 1, m, by go_num, by omega, by omega, Lib.hid (by rw [HN.out]; exact Hm.out), Lib.hid (by rw [HN.out]; exact own_keep HO.out HBa.out), Lib.hid (bup HB.out hsz HBa.out)⟩, by simp [intOf]; omega⟩
    · obtain rfl : i = n := by omega
      have HF := Lib.hid (show OwnT wr w1.heap.size u4 (liveT f L 0) by have := HO.out; rw [HE.out] at this; exact ownT_of this rfl)
      have hll := HLn.out i
      rw [HE.out] at hll
      have HMg := Lib.hid (merge_any (.slice none 0 0) u4 (.slice none 0 0) [] (liveT f L 0) [] wr (rd_rdT (own_rd (World.ownsRow_nil wr 0 50 4))) HF.out.rd (own_rdl (World.ownsRow_nil wr 0 28 1)) (sorted_all _ (by simp)) (sorted_all _ (by omega)) (sorted_all _ (by have := srt_length (liveT f L 0); rw [List.length_append]; have h0 := kept_length [] (srt []); rw [srt_nil] at h0 ⊢; simp at h0; simp [h0]; omega)) (by simp) (by omega))
      rw [mrg_nil, ← HIP.out] at HMg
      go_wp2_with fail
      refine HMg.out.mono ?_; rintro e w5 ⟨v5, rfl, hown5, hb5⟩
      have HO5 := Lib.hid (hown5.mono (show w.heap.size ≤ wr.heap.size by omega))
      have HB5 := Lib.hid (bstep (bstep HB1.out HB.out) hb5)
      clear hown5 hb5
      go_wp2_with fail
      go_ret
      exact ⟨_, rfl, HO5.out, HB5.out⟩
end Go.Proofs.Ytecflhklpkjhcaa

namespace Go.Proofs.Ytecflhklpkjhcaa
open Go.RowKit

theorem fileB_app (k : List Nd) (t : List UInt8) : fileB k ++ t = senc fsup ++ (nencs k ++ t) := by rw [fileB, List.append_assoc]
theorem nsum_ge : ∀ k : List Nd, 24 * k.length ≤ nsum k
  | [] => by simp [nsum]
  | x :: k => by
    have h1 := nsum_ge k
    have h2 := nsz_bounds x.data.length
    rw [nsum_cons, List.length_cons]; omega
theorem open_file (k : List Nd) (t : List UInt8) (hk : ∀ x ∈ k, x.ok ∧ x.Wf) (ht : (ndec t).1 ≠ 0) : openF (fileB k ++ t) = (0, fsup, recsOf 16 k, 16 + nsum k) := by
  have hd : sdec (fileB k ++ t) = (0, fsup) := by rw [fileB_app]; exact sdec_enc fsup_ok _
  have hr := recs_enc k ((fileB k ++ t).length + 1) (fileB k ++ t) (senc fsup) t (fileB_app k t) (by have := nsum_ge k; rw [List.length_append, fileB_length]; omega) hk ht
  rw [senc_length] at hr
  unfold openF
  rw [hd, if_pos rfl, hr]
theorem ndec_nil : (ndec []).1 ≠ 0 := by
  intro h
  have := (ndec_size h).2.1
  have := (ndec_size h).1
  simp at *; omega
theorem open_empty : openF [] = (4, sup0, [], 0) := by
  have : sdec [] = (4, sup0) := rfl
  unfold openF; rw [this, if_neg (by decide)]
def aw1 : List (Rec × Value) := [(⟨16, ⟨1, 0, false, []⟩⟩, .slice none 0 0), (⟨40, ⟨1, 0, true, []⟩⟩, .slice none 0 0)]
def aw2 : List (Rec × Value) := [(⟨16, ⟨1, 0, false, []⟩⟩, .slice none 0 0)]
theorem aw1_items : (itemsP (aw1.map (·.1))).length = 0 := rfl
theorem aw2_items : (itemsP (aw2.map (·.1))).length = 1 := rfl
theorem aw1_rd (k : Nat) (w : World) (hk : w.heap.size = k) : RdR (w.alloc (.cells #[.int .i64 16, .int .u64 1, .int .u32 0, .bool false, .slice none 0 0, .int .i64 40, .int .u64 1, .int .u32 0, .bool true, .slice none 0 0] 43)) (.slice (some ⟨k, 0, none⟩) 2 2) aw1 :=
  ⟨Rd.newK k w hk 5 [.int .i64 16, .int .u64 1, .int .u32 0, .bool false, .slice none 0 0, .int .i64 40, .int .u64 1, .int .u32 0, .bool true, .slice none 0 0] 43 2 rfl (by decide), fun p hp => by
    simp only [aw1, List.mem_cons, List.not_mem_nil, or_false] at hp
    rcases hp with rfl | rfl <;> exact RdB_nil _⟩
theorem aw2_rd (w : World) : RdR (w.alloc (.cells #[.int .i64 16, .int .u64 1, .int .u32 0, .bool false, .slice none 0 0] 43)) (.slice (some ⟨w.heap.size, 0, none⟩) 1 1) aw2 :=
  ⟨Rd.new w 5 [.int .i64 16, .int .u64 1, .int .u32 0, .bool false, .slice none 0 0] 43 1 rfl (by decide), fun p hp => by
    simp only [aw2, List.mem_cons, List.not_mem_nil, or_false] at hp
    rcases hp with rfl; exact RdB_nil _⟩
theorem rdN_nil (w : World) : RdN w (.slice none 0 0) [] := ⟨own_rd (World.ownsRow_nil w 0 31 4), fun p hp => by cases hp⟩
set_option maxRecDepth 100000 in
set_option maxHeartbeats 1000000 in
theorem awake_any (w : World) : Calls Try.prog 13 #[] w fun e w' => e = .returned (.bool true) ∧ Below w.heap.size w w' := by
  have HFl := Lib.hid (file_any (.slice none 0 0) [] w (rdN_nil w) (fun p hp => by cases hp) (by simp))
  have HO1 := Lib.hid (fun v W (h : RdB W v (fileB [])) => open_any v (fileB []) W h (by rw [fileB_length]; simp [nsum]))
  have HF1 := Lib.hid (show openF (fileB []) = (0, fsup, [], 16) by have := open_file [] [] (fun x hx => by cases hx) ndec_nil; rw [List.append_nil] at this; exact this)
  have HO2 := Lib.hid (fun W => open_any (.slice none 0 0) [] W (RdB_nil W) (by simp))
  have HI1 := Lib.hid (fun k W hk => items_any _ aw1 _ (aw1_rd k W hk) (fun p hp => by simp only [aw1, List.mem_cons, List.not_mem_nil, or_false] at hp; rcases hp with rfl | rfl <;> decide) (by decide))
  have HI2 := Lib.hid (fun W => items_any _ aw2 _ (aw2_rd W) (fun p hp => by simp only [aw2, List.mem_cons, List.not_mem_nil, or_false] at hp; rcases hp with rfl; decide) (by decide))
  go_enter Try.func13, Try.ntmps13
  go_wp2_with fail
  refine HFl.out.mono ?_; rintro e w1 ⟨bv, nv, rfl, hown, _, hb1⟩
  have HB1 := Lib.hid hb1
  have HR1 := Lib.hid (show RdB w1 bv (fileB []) from hown.rd)
  clear hown hb1
  go_wp2_with fail
  refine (HO1.out bv w1 HR1.out).mono ?_; rintro e w2 ⟨⟨lv, es, rfl, hown, hes⟩, hb2⟩
  rw [HF1.out] at hes
  have hes0 : es = [] := List.map_eq_nil_iff.1 hes
  subst hes0
  obtain ⟨oa, oc, hlv, _⟩ := own_form hown.row
  subst hlv
  have HB2 := Lib.hid (bstep HB1.out hb2)
  rw [HF1.out]
  clear hown hes hb2
  go_wp2_with fail
  have HB2a := Lib.hid (show Below w.heap.size w (w2.alloc (.cells #[.int .i64 (fsup.slot : Int), .int .i64 (fsup.gen : Int), .int .i64 (fsup.rev : Int)] 37)) from HB2.out.alloc HB2.out.size _)
  refine (HO2.out _).mono ?_; rintro e w3 ⟨⟨lv, es, rfl, hown, hes⟩, hb3⟩
  have HB3 := Lib.hid (bstep HB2a.out hb3)
  rw [open_empty]
  obtain ⟨oa', oc', hlv, _⟩ := own_form hown.row
  subst hlv
  clear hown hes hb3
  go_wp2_with fail
  have HB3a := Lib.hid (show Below w.heap.size w (w3.alloc (.cells #[.int .i64 (sup0.slot : Int), .int .i64 (sup0.gen : Int), .int .i64 (sup0.rev : Int)] 37)) from HB3.out.alloc HB3.out.size _)
  have hs4 : (w3.alloc (.cells #[.int .i64 (sup0.slot : Int), .int .i64 (sup0.gen : Int), .int .i64 (sup0.rev : Int)] 37)).heap.size = w3.heap.size + 1 := by simp
  generalize hW4 : w3.alloc (.cells #[.int .i64 (sup0.slot : Int), .int .i64 (sup0.gen : Int), .int .i64 (sup0.rev : Int)] 37) = w4 at *
  have HBa := Lib.hid (HB3a.out.alloc HB3a.out.size (.cells #[.int .i64 16, .int .u64 1, .int .u32 0, .bool false, .slice none 0 0, .int .i64 40, .int .u64 1, .int .u32 0, .bool true, .slice none 0 0] 43))
  clear hW4
  refine (HI1.out (w3.heap.size + 1) w4 hs4).mono ?_; rintro e w5 ⟨lv5, rfl, hown5, hb5⟩
  have HB5 := Lib.hid (bstep HBa.out hb5)
  obtain ⟨a5, c5, hlv, _⟩ := own_form hown5
  subst hlv
  rw [aw1_items]
  clear hown5 hb5
  go_wp2_with fail
  have HBb := Lib.hid (HB5.out.alloc HB5.out.size (.cells #[.int .i64 16, .int .u64 1, .int .u32 0, .bool false, .slice none 0 0] 43))
  refine (HI2.out w5).mono ?_; rintro e w6 ⟨lv6, rfl, hown6, hb6⟩
  have HB6 := Lib.hid (bstep HBb.out hb6)
  obtain ⟨a6, c6, hlv, _⟩ := own_form hown6
  subst hlv
  rw [aw2_items]
  clear hown6 hb6
  go_wp2_with fail
  go_ret
  exact ⟨rfl, HB6.out⟩
end Go.Proofs.Ytecflhklpkjhcaa
