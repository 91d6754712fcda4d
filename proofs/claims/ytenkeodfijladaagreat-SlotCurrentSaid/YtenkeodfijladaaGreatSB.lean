/- Several texts in one, each over the last: CanRotate and Top of the reference's slots: the walks. Printed by mkSlb.py. small of the law of slots: the walk. Made out of XHk and XHo. The law's made: a slot after some steps, in plain Lean. Rows of generations of the call's own; what a change of a slot hands back. New of the reference's slots, of a valid limit: the walk. Made out of XVy. New of slots, of any numbers, of the program and of the reference. Printed by mkSkc.py. light of the law of slots: the walk. Printed by mkSll.py. slot.Fits, of any slot and any number: the walk. Printed by mkSlf.py. Fits of the reference's slots: the walk. Printed by mkSlg.py. Same of the reference's slots on equal slots: the walk. Printed by mkSle.py. Older of the reference's slots: the walk. Printed by mkSlo.py. -/
import Derived.Test.YtenkeodfijladaaGreatSA
import Derived.Test.YtenkeodfijladaaGreatSlv
import Derived.Test.YtenkeodfijladaaGreatGR
import Derived.Test.YtenkeodfijladaaGreatVA
import Derived.Test.YtenkeodfijladaaGreatGE
namespace Go.Proofs.YtenkeodfijladaaGreat
open Go.RowKit

set_option maxRecDepth 100000 in
set_option maxHeartbeats 4000000 in
theorem rcanrot_any (i l : Int) (r : Bool) (a : Option Addr) (n c : Nat) (L : List GP) (w : World) (h : RdG w (.slice a n c) L) (hs : ∀ p ∈ L, ∀ j, j < 8 → (p.1.m.st j).length ≤ 10000) :
    Calls Tryz.prog 99 #[sloV i l r a n c] w fun e w' => e = .returned (.bool (canS ⟨i, l, r, gns L⟩)) ∧ Below w.heap.size w w' := by
  have HSv := Lib.hid (fun W (hb : Below w.heap.size w W) => rsvalid_any i l r a n c L W (h.below hb) hs)
  have HBx := Lib.hid (BoxV.new w i l r a n c 24)
  have HB0 := Lib.hid (below_slo w i l r a n c 24)
  have hcs : canS ⟨i, l, r, gns L⟩ = (vldSl ⟨i, l, r, gns L⟩ && decide ((topG ⟨i, l, r, gns L⟩).num < 8)) := rfl
  rw [hcs]
  clear hcs
  cases hv : vldSl ⟨i, l, r, gns L⟩
  · rw [hv] at HSv
    clear h hs hv
    go_enter Tryz.func99, Tryz.ntmps99
    go_upto_region 1 with fail
    obtain ⟨W, hW⟩ : ∃ W, w.alloc (.cells (sloC i l r a n c) 24) = W := ⟨_, rfl⟩
    change Code.wp _ _ _ _ (w.alloc (.cells (sloC i l r a n c) 24))
    rw [hW] at HBx HB0 ⊢
    clear hW
    have hlw := HBx.out.lt
    have k0 := HBx.out.c0
    have k1 := HBx.out.c1
    have k2 := HBx.out.c2
    have k3 := HBx.out.c3
    go_wp2_with fail
    refine (HSv.out _ HB0.out).mono ?_
    rintro e w1 ⟨rfl, hb1⟩
    have HB1 := Lib.hid (bstep HB0.out hb1)
    clear k0 k1 k2 k3 hb1
    go_wp2_with fail
    go_ret
    exact ⟨rfl, HB1.out⟩
  · rw [hv] at HSv
    have hV := (vldSl_iff _).1 hv
    have hLn : L.length = n := by
      obtain ⟨_, _, e, _⟩ := h.shape
      injection e with _ e _; exact e.symm
    have hl : (gns L).length = n := by rw [gns_len, hLn]
    have hn : 1 ≤ n ∧ n ≤ 8 := by have := hV.len; simp only [hl] at this; exact this
    obtain ⟨j, rfl⟩ : ∃ j, n = j + 1 := ⟨n - 1, by omega⟩
    rw [topG_pat hLn]
    have HR := Lib.hid h
    clear hV hLn hl hv h hs
    obtain ⟨b, off, rfl, hg⟩ := HR.out.at (show j < j + 1 by omega)
    have HG := Lib.hid hg
    clear hg HR
    generalize pat L j = p at *
    obtain ⟨⟨num, rev, md, sz, f, LV, GA⟩, s⟩ := p
    dsimp only at *
    go_enter Tryz.func99, Tryz.ntmps99
    go_upto_region 1 with fail
    obtain ⟨W, hW⟩ : ∃ W, w.alloc (.cells (sloC i l r (some ⟨b, off, none⟩) (j + 1) c) 24) = W := ⟨_, rfl⟩
    change Code.wp _ _ _ _ (w.alloc (.cells (sloC i l r (some ⟨b, off, none⟩) (j + 1) c) 24))
    rw [hW] at HBx HB0 ⊢
    clear hW
    have hlw := HBx.out.lt
    have k0 := HBx.out.c0
    have k1 := HBx.out.c1
    have k2 := HBx.out.c2
    have k3 := HBx.out.c3
    go_wp2_with fail
    refine (HSv.out _ HB0.out).mono ?_
    rintro e w1 ⟨rfl, hb1⟩
    clear k0 k1 k2 k3
    have HB1 := Lib.hid (bstep HB0.out hb1)
    have HX1 := Lib.hid (HBx.out.below hb1)
    have HG1 := Lib.hid (HG.out.below HB1.out)
    clear hb1 HB0 HBx HG HSv
    have j3 : IntKind.i64.wrap (j : Int) = (j : Int) := IntWalk.i64_in _ (by omega)
    have i2 : (j : Int) < ((j + 1 : Nat) : Int) := by omega
    have v3 := HX1.out.c3
    have g0 := HG1.out.n0
    dsimp only at g0
    go_wp2_with fail
    go_ret
    exact ⟨by simp, HB1.out⟩
end Go.Proofs.YtenkeodfijladaaGreat

namespace Go.Proofs.YtenkeodfijladaaGreat
open Go.RowKit

def sm6N (x : Nd) : Nd := ⟨x.key % 8, x.ck, x.del, if x.del then [] else x.data.take 30⟩
def sm6L (l : List Nd) : List Nd := (l.take 6).map sm6N
theorem sm6N_ok (x : Nd) : (sm6N x).ok := by
  unfold sm6N Nd.ok
  dsimp only
  split
  · exact ⟨by simp, fun _ => rfl⟩
  · exact ⟨by rw [List.length_take]; omega, fun h => by simp_all⟩
theorem sm6N_len (x : Nd) : (sm6N x).data.length ≤ 30 := by
  unfold sm6N
  dsimp only
  split
  · simp
  · rw [List.length_take]; omega
theorem sm6L_ok (l : List Nd) : ∀ x ∈ sm6L l, x.ok := fun x hx => by
  obtain ⟨y, _, rfl⟩ := List.mem_map.1 hx
  exact sm6N_ok y
theorem sm6L_len (l : List Nd) : (sm6L l).length ≤ 6 := by unfold sm6L; rw [List.length_map, List.length_take]; omega
theorem sm6L_dlen (l : List Nd) : ∀ x ∈ sm6L l, x.data.length ≤ 30 := fun x hx => by
  obtain ⟨y, _, rfl⟩ := List.mem_map.1 hx
  exact sm6N_len y
theorem szL_sm6L (l : List Nd) : szL (sm6L l) ≤ 24762 := Nat.le_trans (szL_le _) (by have := sm6L_len l; omega)
def Sm6R (w0 : World) (ns : List (Nd × Value)) (e : Ending) (w' : World) : Prop :=
  ∃ lv es, e = .returned lv ∧ w'.ownsRow w0.heap.size 72 4 lv es.length (needsC es) ∧ es.map (·.1) = sm6L (ns.map (·.1)) ∧ (∀ p ∈ es, ∀ W, (∀ q ∈ ns, RdB W q.2 q.1.data) → RdB W p.2 p.1.data) ∧ Below w0.heap.size w0 w'
theorem Sm6R.rd {w0 : World} {v : Value} {ns : List (Nd × Value)} {e : Ending} {w' : World} (h : Sm6R w0 ns e w') (hN : RdN w0 v ns) : ∃ lv es, e = .returned lv ∧ RdN w' lv es ∧ es.map (·.1) = sm6L (ns.map (·.1)) ∧ Below w0.heap.size w0 w' := by
  obtain ⟨lv, es, h1, h2, h3, h4, h5⟩ := h
  exact ⟨lv, es, h1, ⟨own_rd h2, fun p hp => RdL.below (h4 p hp w0 hN.dat) h5⟩, h3, h5⟩
/-- What a call that answers needles hands back. -/
theorem Sm6R.nd {w0 : World} {v : Value} {ns : List (Nd × Value)} {e : Ending} {w' : World} (h : Sm6R w0 ns e w') (hN : RdN w0 v ns) : NdR w0 (sm6L (ns.map (·.1))) e w' := by
  obtain ⟨lv, es, h1, h2, h3, h4⟩ := h.rd hN
  obtain ⟨a, c, rfl, _⟩ := h2.shape
  exact ⟨a, _, c, es, h1, h2, h3, h4⟩
set_option maxRecDepth 100000 in
set_option maxHeartbeats 8000000 in
theorem ssmall_any (v : Value) (ns : List (Nd × Value)) (w : World) (h : RdN w v ns) (hwf : ∀ p ∈ ns, p.1.Wf) :
    Calls Tryz.prog 26 #[v] w (Sm6R w ns) := by
  obtain ⟨a, cap, rfl, h1, h2⟩ := h.shape
  have Hw0 := Lib.hid h
  have HW := Lib.hid hwf
  have HM := Lib.hid (show ∀ j, j < ns.length → nat' ns j ∈ ns from fun j => nat'_mem)
  have HS := Lib.hid (show ∀ j, j < ns.length → j < 6 → sm6L ((ns.map (·.1)).take (j + 1)) = sm6L ((ns.map (·.1)).take j) ++ [sm6N (nat' ns j).1] from fun j hj h12 => by
    unfold sm6L nat'
    rw [List.take_take, List.take_take, Nat.min_eq_right (by omega), Nat.min_eq_right (by omega), List.take_add_one, List.getElem?_map, List.getElem?_eq_getElem hj, List.map_append, List.getD_eq_getElem?_getD, List.getElem?_eq_getElem hj]
    rfl)
  have HE := Lib.hid (show ∀ j, j ≤ 6 → (j = ns.length ∨ j = 6) → sm6L ((ns.map (·.1)).take j) = sm6L (ns.map (·.1)) from fun j hj h12 => by
    unfold sm6L
    rw [List.take_take]
    rcases h12 with h12 | h12
    · rw [List.take_of_length_le (by rw [List.length_map, h12, Nat.min_def]; split <;> omega), List.take_of_length_le (by rw [List.length_map]; omega)]
    · rw [h12, Nat.min_self])
  generalize hn : ns.length = n at *
  clear h hwf hn
  generalize hN0 : ns.map (·.1) = N at *
  have HN0 := Lib.hid hN0
  clear hN0
  go_enter Tryz.func26, Tryz.ntmps26
  go_wp2_with fail
  go_loopw [3, 4] (fun ov iv W => ∃ (i : Nat) (es : List (Nd × Value)), iv = .int .i64 (i : Int) ∧ i ≤ n ∧ i ≤ 6 ∧ es.length = i ∧ Hid (W.ownsRow w.heap.size 72 4 ov i (needsC es)) ∧ Hid (es.map (·.1) = sm6L (N.take i)) ∧ Hid (∀ p ∈ es, ∀ W, (∀ q ∈ ns, RdB W q.2 q.1.data) → RdB W p.2 p.1.data) ∧ Hid (Below w.heap.size w W)) (fun _ iv _ => n - (intOf iv).toNat)
  case atStart => exact ⟨0, [], rfl, Nat.zero_le _, by omega, rfl, Lib.hid (World.ownsRow_nil _ _ _ _), Lib.hid rfl, Lib.hid (fun p hp => by cases hp), Lib.hid (Below.refl _ _)⟩
  case round =>
    obtain ⟨i, es, rfl, hi, hi2, hl, HO, HEs, HDt, HB⟩ := hrel
    have hsz := HB.out.size
    by_cases hin : i < n
    · by_cases h12 : i < 6
      · have q1 : decide (i < n) = true := decide_eq_true hin
        have q2 : decide ((i : Int) < 6) = true := decide_eq_true (by omega)
        have hr := Hw0.out.below HB.out
        obtain ⟨pb, poff, rfl, _, c0, c1, c2, c3⟩ := hr.at hin
        have Hx := Lib.hid (Hw0.out.dat _ (HM.out i hin))
        have HxW := Lib.hid (show ∀ W, (∀ q ∈ ns, RdB W q.2 q.1.data) → RdB W (nat' ns i).2 (nat' ns i).1.data from fun W hW => hW _ (HM.out i hin))
        have HSi := Lib.hid (HS.out i hin h12)
        have hkw := (HW.out _ (HM.out i hin)).1
        clear hr
        generalize nat' ns i = X at *
        obtain ⟨⟨k, c, d, l⟩, dv⟩ := X
        dsimp only at *
        obtain ⟨xa, xc, rfl, hx1, hx2⟩ := Hx.out.shape0
        have hk7 := key7' k hkw
        have i1 : (i : Int) < (n : Int) := by omega
        generalize hm : l.length = m at *
        have HmL := Lib.hid hm
        clear hm
        cases d
        · by_cases b60 : 30 < m
          · have hto := fun W kh => slice_to (P := Tryz.prog) elemB (a := xa) (n := m) (cap := xc) (RdL.spot Hx.out (by omega)) 30 (by omega) W kh
            rw [show ((30 : Nat) : Int) = 30 from rfl] at hto
            have f60 : decide ((30 : Int) < (m : Int)) = true := by simp; omega
            have HEl := Lib.hid (show sm6N ⟨k, c, false, l⟩ = ⟨k % 8, c, false, l.take 30⟩ by unfold sm6N; dsimp only; rw [if_neg (by simp)])
            go_wp2_with (at_builtin; go_must (refine wpList_app (n := i) (m := 1) rfl (.tmp 35) (.tmp 37) 65 rfl elemN w.heap.size rfl (own_keep HO.out (((Below.refl _ _).alloc (Nat.le_refl _) _).alloc (by simp) _)) (by rfl) (Rd.newK' (wr.heap.size + 1) (wr.alloc (.cells #[.int .u64 ((k % 8 : Nat) : Int), .int .u32 (c : Int), .bool false, .slice xa 30 xc] 72)) (by simp) 4 (needC (⟨k % 8, c, false, l.take 30⟩, .slice xa 30 xc)) 72 1 rfl (by decide)) (need_one _ _ _ _) (by unfold maxLen; omega) (by omega) (by simp; omega) ?_); intro v4 w4 hown4 hgr4 hv4; clear hv4)
            have HG := Lib.hid (own_below ((HB.out.alloc hsz (.cells #[.int .u64 ((k % 8 : Nat) : Int), .int .u32 (c : Int), .bool false, .slice xa 30 xc] 72)).alloc (by simp; omega) (.cells (needC (⟨k % 8, c, false, l.take 30⟩, .slice xa 30 xc)).toArray 72)) (own_keep HO.out (((Below.refl _ _).alloc (Nat.le_refl _) _).alloc (by simp) _)) (by simp; omega) hgr4)
            have HO4 := Lib.hid (show w4.ownsRow w.heap.size 72 4 v4 (i + 1) (needsC (es ++ [(⟨k % 8, c, false, l.take 30⟩, .slice xa 30 xc)])) by rw [needsC_snoc]; exact hown4)
            have HE4 := Lib.hid (show (es ++ [((⟨k % 8, c, false, l.take 30⟩ : Nd), (.slice xa 30 xc : Value))]).map (·.1) = sm6L (N.take (i + 1)) by rw [List.map_append, HEs.out, HSi.out, HEl.out]; rfl)
            have HD4 := Lib.hid (show ∀ p ∈ es ++ [((⟨k % 8, c, false, l.take 30⟩ : Nd), (.slice xa 30 xc : Value))], ∀ W, (∀ q ∈ ns, RdB W q.2 q.1.data) → RdB W p.2 p.1.data from fun p hp W hW => by
              rcases List.mem_append.1 hp with hp | hp
              · exact HDt.out p hp W hW
              · rw [List.mem_singleton.1 hp]; exact RdL.take (HxW.out W hW) 30 (by omega))
            have hl4 : (es ++ [((⟨k % 8, c, false, l.take 30⟩ : Nd), (.slice xa 30 xc : Value))]).length = i + 1 := by rw [List.length_append, hl]; rfl
            clear hown4 hgr4
            go_wp2_with fail
            exact ⟨⟨i + 1, _, by go_num, by omega, by omega, hl4, HO4, HE4, HD4, HG⟩, by simp [intOf]; omega⟩
          · have f60 : decide ((30 : Int) < (m : Int)) = false := by simp; omega
            have HEl := Lib.hid (show sm6N ⟨k, c, false, l⟩ = ⟨k % 8, c, false, l⟩ by unfold sm6N; dsimp only; rw [if_neg (by simp)]; rw [List.take_of_length_le (by rw [HmL.out]; omega)])
            go_wp2_with (at_builtin; go_must (refine wpList_app (n := i) (m := 1) rfl (.tmp 35) (.tmp 37) 65 rfl elemN w.heap.size rfl (own_keep HO.out (((Below.refl _ _).alloc (Nat.le_refl _) _).alloc (by simp) _)) (by rfl) (Rd.newK' (wr.heap.size + 1) (wr.alloc (.cells #[.int .u64 ((k % 8 : Nat) : Int), .int .u32 (c : Int), .bool false, .slice xa m xc] 72)) (by simp) 4 (needC (⟨k % 8, c, false, l⟩, .slice xa m xc)) 72 1 rfl (by decide)) (need_one _ _ _ _) (by unfold maxLen; omega) (by omega) (by simp; omega) ?_); intro v4 w4 hown4 hgr4 hv4; clear hv4)
            have HG := Lib.hid (own_below ((HB.out.alloc hsz (.cells #[.int .u64 ((k % 8 : Nat) : Int), .int .u32 (c : Int), .bool false, .slice xa m xc] 72)).alloc (by simp; omega) (.cells (needC (⟨k % 8, c, false, l⟩, .slice xa m xc)).toArray 72)) (own_keep HO.out (((Below.refl _ _).alloc (Nat.le_refl _) _).alloc (by simp) _)) (by simp; omega) hgr4)
            have HO4 := Lib.hid (show w4.ownsRow w.heap.size 72 4 v4 (i + 1) (needsC (es ++ [(⟨k % 8, c, false, l⟩, .slice xa m xc)])) by rw [needsC_snoc]; exact hown4)
            have HE4 := Lib.hid (show (es ++ [((⟨k % 8, c, false, l⟩ : Nd), (.slice xa m xc : Value))]).map (·.1) = sm6L (N.take (i + 1)) by rw [List.map_append, HEs.out, HSi.out, HEl.out]; rfl)
            have HD4 := Lib.hid (show ∀ p ∈ es ++ [((⟨k % 8, c, false, l⟩ : Nd), (.slice xa m xc : Value))], ∀ W, (∀ q ∈ ns, RdB W q.2 q.1.data) → RdB W p.2 p.1.data from fun p hp W hW => by
              rcases List.mem_append.1 hp with hp | hp
              · exact HDt.out p hp W hW
              · rw [List.mem_singleton.1 hp]; exact HxW.out W hW)
            have hl4 : (es ++ [((⟨k % 8, c, false, l⟩ : Nd), (.slice xa m xc : Value))]).length = i + 1 := by rw [List.length_append, hl]; rfl
            clear hown4 hgr4
            go_wp2_with fail
            exact ⟨⟨i + 1, _, by go_num, by omega, by omega, hl4, HO4, HE4, HD4, HG⟩, by simp [intOf]; omega⟩
        · have HEl := Lib.hid (show sm6N ⟨k, c, true, l⟩ = ⟨k % 8, c, true, []⟩ by unfold sm6N; dsimp only; rw [if_pos rfl])
          by_cases b60 : 30 < m
          · have hto := fun W kh => slice_to (P := Tryz.prog) elemB (a := xa) (n := m) (cap := xc) (RdL.spot Hx.out (by omega)) 30 (by omega) W kh
            rw [show ((30 : Nat) : Int) = 30 from rfl] at hto
            have f60 : decide ((30 : Int) < (m : Int)) = true := by simp; omega
            go_wp2_with (at_builtin; go_must (refine wpList_app (n := i) (m := 1) rfl (.tmp 35) (.tmp 37) 65 rfl elemN w.heap.size rfl (own_keep HO.out (((Below.refl _ _).alloc (Nat.le_refl _) _).alloc (by simp) _)) (by rfl) (Rd.newK' (wr.heap.size + 1) (wr.alloc (.cells #[.int .u64 ((k % 8 : Nat) : Int), .int .u32 (c : Int), .bool true, .slice none 0 0] 72)) (by simp) 4 (needC (⟨k % 8, c, true, []⟩, .slice none 0 0)) 72 1 rfl (by decide)) (need_one _ _ _ _) (by unfold maxLen; omega) (by omega) (by simp; omega) ?_); intro v4 w4 hown4 hgr4 hv4; clear hv4)
            have HG := Lib.hid (own_below ((HB.out.alloc hsz (.cells #[.int .u64 ((k % 8 : Nat) : Int), .int .u32 (c : Int), .bool true, .slice none 0 0] 72)).alloc (by simp; omega) (.cells (needC (⟨k % 8, c, true, []⟩, .slice none 0 0)).toArray 72)) (own_keep HO.out (((Below.refl _ _).alloc (Nat.le_refl _) _).alloc (by simp) _)) (by simp; omega) hgr4)
            have HO4 := Lib.hid (show w4.ownsRow w.heap.size 72 4 v4 (i + 1) (needsC (es ++ [(⟨k % 8, c, true, []⟩, .slice none 0 0)])) by rw [needsC_snoc]; exact hown4)
            have HE4 := Lib.hid (show (es ++ [((⟨k % 8, c, true, []⟩ : Nd), (.slice none 0 0 : Value))]).map (·.1) = sm6L (N.take (i + 1)) by rw [List.map_append, HEs.out, HSi.out, HEl.out]; rfl)
            have HD4 := Lib.hid (show ∀ p ∈ es ++ [((⟨k % 8, c, true, []⟩ : Nd), (.slice none 0 0 : Value))], ∀ W, (∀ q ∈ ns, RdB W q.2 q.1.data) → RdB W p.2 p.1.data from fun p hp W hW => by
              rcases List.mem_append.1 hp with hp | hp
              · exact HDt.out p hp W hW
              · rw [List.mem_singleton.1 hp]; exact RdB_nil W)
            have hl4 : (es ++ [((⟨k % 8, c, true, []⟩ : Nd), (.slice none 0 0 : Value))]).length = i + 1 := by rw [List.length_append, hl]; rfl
            clear hown4 hgr4
            go_wp2_with fail
            exact ⟨⟨i + 1, _, by go_num, by omega, by omega, hl4, HO4, HE4, HD4, HG⟩, by simp [intOf]; omega⟩
          · have f60 : decide ((30 : Int) < (m : Int)) = false := by simp; omega
            go_wp2_with (at_builtin; go_must (refine wpList_app (n := i) (m := 1) rfl (.tmp 35) (.tmp 37) 65 rfl elemN w.heap.size rfl (own_keep HO.out (((Below.refl _ _).alloc (Nat.le_refl _) _).alloc (by simp) _)) (by rfl) (Rd.newK' (wr.heap.size + 1) (wr.alloc (.cells #[.int .u64 ((k % 8 : Nat) : Int), .int .u32 (c : Int), .bool true, .slice none 0 0] 72)) (by simp) 4 (needC (⟨k % 8, c, true, []⟩, .slice none 0 0)) 72 1 rfl (by decide)) (need_one _ _ _ _) (by unfold maxLen; omega) (by omega) (by simp; omega) ?_); intro v4 w4 hown4 hgr4 hv4; clear hv4)
            have HG := Lib.hid (own_below ((HB.out.alloc hsz (.cells #[.int .u64 ((k % 8 : Nat) : Int), .int .u32 (c : Int), .bool true, .slice none 0 0] 72)).alloc (by simp; omega) (.cells (needC (⟨k % 8, c, true, []⟩, .slice none 0 0)).toArray 72)) (own_keep HO.out (((Below.refl _ _).alloc (Nat.le_refl _) _).alloc (by simp) _)) (by simp; omega) hgr4)
            have HO4 := Lib.hid (show w4.ownsRow w.heap.size 72 4 v4 (i + 1) (needsC (es ++ [(⟨k % 8, c, true, []⟩, .slice none 0 0)])) by rw [needsC_snoc]; exact hown4)
            have HE4 := Lib.hid (show (es ++ [((⟨k % 8, c, true, []⟩ : Nd), (.slice none 0 0 : Value))]).map (·.1) = sm6L (N.take (i + 1)) by rw [List.map_append, HEs.out, HSi.out, HEl.out]; rfl)
            have HD4 := Lib.hid (show ∀ p ∈ es ++ [((⟨k % 8, c, true, []⟩ : Nd), (.slice none 0 0 : Value))], ∀ W, (∀ q ∈ ns, RdB W q.2 q.1.data) → RdB W p.2 p.1.data from fun p hp W hW => by
              rcases List.mem_append.1 hp with hp | hp
              · exact HDt.out p hp W hW
              · rw [List.mem_singleton.1 hp]; exact RdB_nil W)
            have hl4 : (es ++ [((⟨k % 8, c, true, []⟩ : Nd), (.slice none 0 0 : Value))]).length = i + 1 := by rw [List.length_append, hl]; rfl
            clear hown4 hgr4
            go_wp2_with fail
            exact ⟨⟨i + 1, _, by go_num, by omega, by omega, hl4, HO4, HE4, HD4, HG⟩, by simp [intOf]; omega⟩
      · have q1 : decide (i < n) = true := decide_eq_true hin
        have q2 : decide ((i : Int) < 6) = false := decide_eq_false (by omega)
        have hj : i = 6 := by omega
        have i1 : (i : Int) < (n : Int) := by omega
        have HEn := Lib.hid (HE.out i hi2 (.inr hj))
        go_wp2_with fail
        go_ret
        exact ⟨_, es, rfl, by rw [hl]; exact HO.out, by rw [HN0.out]; exact HEs.out.trans HEn.out, HDt.out, HB.out⟩
    · have hj : i = n := by omega
      have i1 : ¬ (i : Int) < (n : Int) := by omega
      have HEn := Lib.hid (HE.out i hi2 (.inl hj))
      go_wp2_with fail
      go_ret
      exact ⟨_, es, rfl, by rw [hl]; exact HO.out, by rw [HN0.out]; exact HEs.out.trans HEn.out, HDt.out, HB.out⟩
end Go.Proofs.YtenkeodfijladaaGreat

namespace Go.Proofs.YtenkeodfijladaaGreat
open Go.RowKit

/-- A step in the life of a slot, and where its needles and keys lie. -/
structure AcP where
  kind : Int
  lv : Value
  l : List (Nd × Value)
  gen : Int
  kv : Value
  keys : List Int
def acP0 : AcP := ⟨0, .slice none 0 0, [], 0, .slice none 0 0, []⟩
instance : Inhabited AcP := ⟨acP0⟩
def acC (x : AcP) : List Value := [.int .i64 x.kind, x.lv, .int .i64 x.gen, x.kv]
theorem acC_len (x : AcP) : (acC x).length = 4 := rfl
def acAt (l : List AcP) (i : Nat) : AcP := l.getD i acP0
theorem acAt_mem {l : List AcP} {i : Nat} (h : i < l.length) : acAt l i ∈ l := by
  unfold acAt
  rw [List.getD_eq_getElem?_getD, List.getElem?_eq_getElem h]; exact List.getElem_mem h
/-- The slot with a generation changed, if that can be. -/
noncomputable def chgOr (s : Slt) (r : Int × Gn) : Slt := if r.1 = 0 ∧ (chgS s r.2).2 = 0 then (chgS s r.2).1 else s
noncomputable def stepK (s : Slt) (kd : Int) (ns : List Nd) (gen : Int) (keys : List Int) : Slt :=
  if kd = 2 then (if (rotS s).2 = 0 then (rotS s).1 else s)
  else if kd = 3 then chgOr s (killG (gat s.gens (gen % (s.gens.length : Int)).toNat) (keys.take 8))
  else chgOr s (addG (topG s) (sm6L ns))
noncomputable def stepS (s : Slt) (x : AcP) : Slt := stepK s (bits .and .i64 x.kind 3) (x.l.map (·.1)) x.gen x.keys
def sl0 : Slt := ⟨1, 9000, false, [fresh 1]⟩
noncomputable def stepsS (s : Slt) (l : List AcP) : Slt := l.foldl stepS s
noncomputable def madeS (l : List AcP) : Slt := stepsS sl0 (l.take 8)
theorem stepsS_snoc (l : List AcP) (i : Nat) (h : i < l.length) : stepsS sl0 (l.take (i + 1)) = stepS (stepsS sl0 (l.take i)) (acAt l i) := by
  unfold stepsS acAt
  rw [List.take_add_one, List.getD_eq_getElem?_getD, List.getElem?_eq_getElem h, List.foldl_append]
  rfl
theorem gat_mem {l : List Gn} {i : Nat} (h : i < l.length) : gat l i ∈ l := by
  unfold gat
  rw [List.getD_eq_getElem?_getD, List.getElem?_eq_getElem h]; exact List.getElem_mem h
def LenS (k : Nat) (l : List Gn) : Prop := ∀ g ∈ l, ∀ i, i < 8 → (g.m.st i).length ≤ k
def SizS (k : Int) (l : List Gn) : Prop := ∀ g ∈ l, g.size ≤ k
theorem LenS.mono {k k' : Nat} {l : List Gn} (h : LenS k l) (hk : k ≤ k') : LenS k' l := fun g hg i hi => Nat.le_trans (h g hg i hi) hk
theorem putG_mem {l : List Gn} {g x : Gn} (h : x ∈ putG l g) : x ∈ l ∨ x = g := by
  obtain ⟨y, hy, e⟩ := List.mem_map.1 h
  by_cases c : y.num = g.num
  · rw [if_pos c] at e; exact .inr e.symm
  · rw [if_neg c] at e; exact .inl (e ▸ hy)
theorem chgS_ok {s : Slt} {g : Gn} (h : (chgS s g).2 = 0) : (chgS s g).1 = ⟨s.id, s.lim, s.ro, putG s.gens g⟩ := by
  unfold chgS at h ⊢
  by_cases hv : vldSl s = true
  · rw [if_pos hv] at h ⊢
    by_cases hn : (s.gens.any fun x => decide (x.num = g.num)) = true
    · rw [if_pos hn] at h ⊢
      by_cases hw : vldSl ⟨s.id, s.lim, s.ro, putG s.gens g⟩ = true
      · rw [if_pos hw]
      · rw [if_neg hw] at h; cases h
    · rw [if_neg hn] at h; cases h
  · rw [if_neg hv] at h; cases h
theorem rotS_ok {s : Slt} (h : (rotS s).2 = 0) : (rotS s).1 = ⟨s.id, s.lim, s.ro, s.gens.take (s.gens.length - 1) ++ [{ topG s with mode := 2 }, fresh ((topG s).num + 1)]⟩ := by
  unfold rotS at h ⊢
  by_cases hv : vldSl s = true
  · rw [if_pos hv] at h ⊢
    by_cases hn : (topG s).num < 8
    · rw [if_pos hn]
    · rw [if_neg hn] at h; cases h
  · rw [if_neg hv] at h; cases h
theorem topG_mem {s : Slt} (h : VldSl s) : topG s ∈ s.gens := gat_mem (by have := h.len; omega)
theorem szL_sm6 (l : List Nd) : szL (sm6L l) ≤ 400 := by
  have key : ∀ k : List Nd, (∀ x ∈ k, x.data.length ≤ 30) → szL k ≤ k.length * 56 := by
    intro k
    induction k with
    | nil => intro _; exact Nat.zero_le _
    | cons x r ih =>
      intro h
      have h1 := ih fun y hy => h y (by simp [hy])
      have h2 := h x (by simp)
      have h3 : szN x.data.length ≤ 56 := by rw [szN_of (by omega)]; unfold nsz; omega
      rw [szL_cons, List.length_cons]; omega
  have h1 := key _ (sm6L_dlen l)
  have h2 := sm6L_len l
  omega
theorem addG_got {g : Gn} {l : List Nd} (h : (addG g l).1 = 0) : (addG g l).2 = addAll g l := by
  unfold addG at h ⊢
  split
  · rename_i h1
    rw [if_pos h1] at h
    split
    · rename_i h2
      rw [if_pos h2] at h
      split
      · rfl
      · rename_i h3; rw [if_neg h3] at h; cases h
    · rename_i h2; rw [if_neg h2] at h; cases h
  · rename_i h1; rw [if_neg h1] at h; cases h
theorem killG_got {g : Gn} {l : List Int} (h : (killG g l).1 = 0) : (killG g l).2 = { g with m := l.foldl delM g.m } := by
  unfold killG at h ⊢
  split
  · rename_i h1
    rw [if_pos h1] at h
    split
    · rename_i h2; rw [if_pos h2] at h; cases h
    · rfl
  · rename_i h1; rw [if_neg h1] at h; cases h
structure MadeI (n : Nat) (s : Slt) : Prop where
  v : VldSl s
  id : s.id = 1
  lim : s.lim = 9000
  ro : s.ro = false
  len : LenS (6 * n) s.gens
  siz : SizS (16 + 400 * (n : Int)) s.gens
theorem madeI_zero : MadeI 0 sl0 := by
  refine ⟨(vldSl_iff _).1 (new_vld 1 9000 false (by decide)), rfl, rfl, rfl, fun g hg i _ => ?_, fun g hg => ?_⟩
  · obtain rfl := List.mem_singleton.1 hg
    exact Nat.zero_le _
  · obtain rfl := List.mem_singleton.1 hg
    show (16 : Int) ≤ _
    omega
theorem MadeI.up {n : Nat} {s : Slt} (h : MadeI n s) : MadeI (n + 1) s := ⟨h.v, h.id, h.lim, h.ro, h.len.mono (by omega), fun g hg => by have := h.siz g hg; omega⟩
theorem MadeI.chg {n : Nat} {s : Slt} (h : MadeI n s) {g : Gn} (hc : (chgS s g).2 = 0) (hl : ∀ i, i < 8 → (g.m.st i).length ≤ 6 * (n + 1)) (hz : g.size ≤ 16 + 400 * ((n + 1 : Nat) : Int)) : MadeI (n + 1) (chgS s g).1 := by
  have hv := chgS_vld hc
  rw [chgS_ok hc] at hv ⊢
  refine ⟨hv, h.id, h.lim, h.ro, fun x hx i hi => ?_, fun x hx => ?_⟩
  · rcases putG_mem hx with hx | rfl
    · exact Nat.le_trans (h.len x hx i hi) (by omega)
    · exact hl i hi
  · rcases putG_mem hx with hx | rfl
    · have := h.siz x hx; omega
    · exact hz
theorem stepK_inv {n : Nat} {s : Slt} (h : MadeI n s) (kd : Int) (ns : List Nd) (gen : Int) (keys : List Int) : MadeI (n + 1) (stepK s kd ns gen keys) := by
  unfold stepK
  split
  · split
    · rename_i hr
      have hv := rotS_vld hr
      rw [rotS_ok hr] at hv ⊢
      refine ⟨hv, h.id, h.lim, h.ro, fun x hx i hi => ?_, fun x hx => ?_⟩
      · rcases List.mem_append.1 hx with hx | hx
        · exact Nat.le_trans (h.len x (List.mem_of_mem_take hx) i hi) (by omega)
        · simp only [List.mem_cons, List.not_mem_nil, or_false] at hx
          rcases hx with rfl | rfl
          · exact Nat.le_trans (h.len _ (topG_mem h.v) i hi) (by omega)
          · exact Nat.zero_le _
      · rcases List.mem_append.1 hx with hx | hx
        · have := h.siz x (List.mem_of_mem_take hx); omega
        · simp only [List.mem_cons, List.not_mem_nil, or_false] at hx
          rcases hx with rfl | rfl
          · have := h.siz _ (topG_mem h.v); dsimp only; omega
          · show (16 : Int) ≤ _; omega
    · exact h.up
  · split
    · unfold chgOr
      split
      · rename_i hr
        obtain ⟨h1, h2⟩ := hr
        have hg : gat s.gens (gen % (s.gens.length : Int)).toNat ∈ s.gens := gat_mem (by
          have h1 := h.v.len
          have h2 := Int.emod_lt_of_pos gen (show (0 : Int) < (s.gens.length : Int) by omega)
          have h3 := Int.emod_nonneg gen (show (s.gens.length : Int) ≠ 0 by omega)
          omega)
        refine h.chg h2 ?_ ?_
        · rw [killG_got h1]
          intro i hi
          exact Nat.le_trans (delAll_len _ _ (h.len _ hg) i hi) (by omega)
        · rw [killG_got h1]
          have := h.siz _ hg
          dsimp only; omega
      · exact h.up
    · unfold chgOr
      split
      · rename_i hr
        obtain ⟨h1, h2⟩ := hr
        have hg := topG_mem h.v
        refine h.chg h2 ?_ ?_
        · rw [addG_got h1]
          intro i hi
          have := addAll_len (sm6L ns) _ (h.len _ hg) i hi
          have := sm6L_len ns
          omega
        · rw [addG_got h1, addAll_size]
          have := h.siz _ hg
          have := szL_sm6 ns
          omega
      · exact h.up
theorem stepsS_inv (l : List AcP) : ∀ i, i ≤ l.length → MadeI i (stepsS sl0 (l.take i))
  | 0, _ => madeI_zero
  | i + 1, h => by
    rw [stepsS_snoc l i (by omega)]
    exact stepK_inv (stepsS_inv l i (by omega)) _ _ _ _
theorem madeS_inv (l : List AcP) : MadeI 8 (madeS l) := by
  have h1 : ∀ i j, i ≤ j → ∀ s, MadeI i s → MadeI j s := by
    intro i j hij
    obtain ⟨d, rfl⟩ : ∃ d, j = i + d := ⟨j - i, by omega⟩
    clear hij
    induction d with
    | zero => exact fun s h => h
    | succ d ih => exact fun s h => (ih s h).up
  have h2 := stepsS_inv (l.take 8) (l.take 8).length (Nat.le_refl _)
  rw [List.take_of_length_le (Nat.le_refl _)] at h2
  exact h1 _ 8 (by rw [List.length_take]; omega) _ h2
end Go.Proofs.YtenkeodfijladaaGreat

namespace Go.Proofs.YtenkeodfijladaaGreat
open Go.RowKit

def offL (o : Nat) : List Value → List (Nat × Value)
  | [] => []
  | v :: r => (o, v) :: offL (o + 1) r
def setL (xs : List Value) (o : Nat) : List Value → List Value
  | [] => xs
  | v :: r => setL (xs.set o v) (o + 1) r
theorem setL_mid : ∀ (vs m a b : List Value), m.length = vs.length → setL (a ++ (m ++ b)) a.length vs = a ++ (vs ++ b)
  | [], m, a, b, h => by
    obtain rfl := List.length_eq_zero_iff.1 h
    rfl
  | v :: r, [], a, b, h => by cases h
  | v :: r, x :: m, a, b, h => by
    show setL ((a ++ (x :: m ++ b)).set a.length v) (a.length + 1) r = _
    have e : (a ++ (x :: m ++ b)).set a.length v = (a ++ [v]) ++ (m ++ b) := by simp
    have := setL_mid r m (a ++ [v]) b (by simpa using h)
    rw [e]
    rw [List.length_append] at this
    simpa using this
theorem setL_flat {α : Type} (sz : Nat) (f : α → List Value) (hf : ∀ x, (f x).length = sz) (es : List α) (k : Nat) (hk : k < es.length) (y : α) : setL (es.flatMap f) (k * sz) (f y) = (es.set k y).flatMap f := by
  have e0 : es = es.take k ++ es[k] :: es.drop (k + 1) := by
    rw [← List.drop_eq_getElem_cons hk, List.take_append_drop]
  have e1 : es.flatMap f = (es.take k).flatMap f ++ (f es[k] ++ (es.drop (k + 1)).flatMap f) := by
    have h1 : es.flatMap f = (es.take k ++ es[k] :: es.drop (k + 1)).flatMap f := by rw [← e0]
    rw [h1, List.flatMap_append, List.flatMap_cons]
  have e2 : ((es.take k).flatMap f).length = k * sz := by
    rw [flat_length sz f _ (fun x _ => hf x), List.length_take, Nat.min_eq_left (by omega)]
  rw [e1, ← e2, setL_mid _ _ _ _ (by rw [hf, hf]), List.set_eq_take_append_cons_drop, if_pos hk]
  simp
theorem own_sets {B g n cap sz : Nat} {T : TypeId} : ∀ (vs : List Value) (o : Nat) (xs : List Value) (W : World), W.ownsRow B T sz (.slice (some ⟨g, 0, none⟩) n cap) n xs →
    (pts W g (offL o vs)).ownsRow B T sz (.slice (some ⟨g, 0, none⟩) n cap) n (setL xs o vs) ∧ W.grownBy (pts W g (offL o vs)) (some g)
  | [], _, _, W, h => ⟨h, rfl, rfl, rfl, Nat.le_refl _, fun _ _ _ => rfl⟩
  | v :: r, o, xs, W, h => by
    have h1 := h.stored o v
    have h2 := own_sets r (o + 1) _ _ h1.1
    exact ⟨h2.1, grown_tr h1.2 h2.2⟩
/-- The cells of a generation in a row, stored one after the other. -/
abbrev gpL (o : Nat) (n r md z : Int) (s : Sl) (l g : Int) : List (Nat × Value) := [(o, .int .i64 n), (o + 1, .int .i64 r), (o + 2, .int .i64 md), (o + 3, .int .i64 z), (o + 4, .slice (s.a 0) (s.n 0) (s.c 0)), (o + 5, .slice (s.a 1) (s.n 1) (s.c 1)), (o + 6, .slice (s.a 2) (s.n 2) (s.c 2)), (o + 7, .slice (s.a 3) (s.n 3) (s.c 3)), (o + 8, .slice (s.a 4) (s.n 4) (s.c 4)), (o + 9, .slice (s.a 5) (s.n 5) (s.c 5)), (o + 10, .slice (s.a 6) (s.n 6) (s.c 6)), (o + 11, .slice (s.a 7) (s.n 7) (s.c 7)), (o + 12, .int .i64 l), (o + 13, .int .i64 g)]
theorem offL_gp (o : Nat) (x : GP) : offL o (gpC x) = gpL o x.1.num x.1.rev x.1.mode x.1.size x.2 x.1.m.live x.1.m.garb := rfl
theorem own_set14 {W : World} {B g n cap : Nat} {T : TypeId} {L : List GP} (h : W.ownsRow B T 14 (.slice (some ⟨g, 0, none⟩) n cap) n (L.flatMap gpC)) (k : Nat) (hk : k < L.length) (y : GP) :
    (pts W g (gpL (k * 14) y.1.num y.1.rev y.1.mode y.1.size y.2 y.1.m.live y.1.m.garb)).ownsRow B T 14 (.slice (some ⟨g, 0, none⟩) n cap) n ((L.set k y).flatMap gpC) ∧
    W.grownBy (pts W g (gpL (k * 14) y.1.num y.1.rev y.1.mode y.1.size y.2 y.1.m.live y.1.m.garb)) (some g) := by
  have h1 := own_sets (gpC y) (k * 14) _ W h
  rw [setL_flat 14 gpC gpC_len L k hk y, offL_gp] at h1
  exact h1
theorem rowG_some {w : World} {B : Nat} {e : TypeId} {sz n cap : Nat} {a : Option Addr} {xs : List Value} (h : w.ownsRow B e sz (.slice a n cap) n xs) (hn : 0 < n) : ∃ g, a = some ⟨g, 0, none⟩ ∧ B ≤ g ∧ g < w.heap.size := by
  rcases h.2 with ⟨e, h0⟩ | ⟨g, _, cur, e, hb, hg, _⟩
  · omega
  · injection e with e _ _
    exact ⟨g, e, hb, (Array.getElem?_eq_some_iff.1 hg).1⟩
theorem rowG_frozen {w : World} {B : Nat} {e : TypeId} {sz n cap g : Nat} {xs : List Value} (h : w.ownsRow B e sz (.slice (some ⟨g, 0, none⟩) n cap) n xs) (i : Nat) : w.frozen? ⟨g, i, none⟩ = false := by
  rcases h.2 with ⟨e, _⟩ | ⟨g', c2, cur, h', hb, hg, _⟩
  · cases e
  · injection h' with h' _ _
    injection h' with h'
    injection h' with h'
    subst h'
    unfold World.frozen?
    rw [hg]
    simp
/-- The cells of a row of the call's own. -/
theorem rowG_at {w : World} {B n cap g : Nat} {T : TypeId} {L : List GP} (h : w.ownsRow B T 14 (.slice (some ⟨g, 0, none⟩) n cap) n (L.flatMap gpC)) (hn : n = L.length) {k : Nat} (hk : k < n) : GAt w g (k * 14) (pat L k) := by
  subst hn
  have hS : RdS 14 gpC w _ L := own_rds (fun x _ => gpC_len x) (by decide) h
  obtain ⟨_, _, e, _, _, _, hc⟩ := hS.shape (by decide) gp0
  injection e with e1 e2 e3
  obtain ⟨b, off, e4, hc⟩ := hc (by omega)
  rw [← e1] at e4
  injection e4 with e4
  injection e4 with e5 e6
  subst e5 e6
  have c := hc k hk
  simp only [Nat.zero_add] at c
  refine ⟨?_, c 1 _ rfl, c 2 _ rfl, c 3 _ rfl, c 4 _ rfl, c 5 _ rfl, c 6 _ rfl, c 7 _ rfl, c 8 _ rfl, c 9 _ rfl, c 10 _ rfl, c 11 _ rfl, c 12 _ rfl, c 13 _ rfl⟩
  have := c 0 _ rfl; rwa [Nat.add_zero] at this
/-- What a store into one block leaves of another's cells. -/
theorem BoxG.grownR {W W' : World} {b g : Nat} {n r md z : Int} {s : Sl} {l q : Int} (h : BoxG W b n r md z s l q) (hg : W.grownBy W' (some g)) (hne : b ≠ g) : BoxG W' b n r md z s l q := by
  have k : ∀ i u, W.cell? ⟨b, i, none⟩ = some u → W'.cell? ⟨b, i, none⟩ = some u := fun i u hu => hg.cell hu (fun e => hne (by injection e))
  refine ⟨k _ _ h.n0, k _ _ h.n1, k _ _ h.n2, k _ _ h.n3, fun j hj => k _ _ (h.c j hj), k _ _ h.cl, k _ _ h.cg, fun i => ?_⟩
  have e := hg.block b h.lt (fun e => hne (by injection e))
  rw [← h.f i]; unfold World.frozen?; rw [e]
theorem BoxV.grownR {W W' : World} {b g : Nat} {i l : Int} {r : Bool} {a : Option Addr} {n c : Nat} (h : BoxV W b i l r a n c) (hg : W.grownBy W' (some g)) (hne : b ≠ g) : BoxV W' b i l r a n c := by
  have k : ∀ i u, W.cell? ⟨b, i, none⟩ = some u → W'.cell? ⟨b, i, none⟩ = some u := fun i u hu => hg.cell hu (fun e => hne (by injection e))
  refine ⟨k _ _ h.c0, k _ _ h.c1, k _ _ h.c2, k _ _ h.c3, fun i => ?_⟩
  have e := hg.block b h.lt (fun e => hne (by injection e))
  rw [← h.f i]; unfold World.frozen?; rw [e]
/-- What a function that answers a slot and an error hands back. -/
def SRes (w0 : World) (p : Slt × Int) (e : Ending) (w' : World) : Prop := (∃ a n c L, e = .returned (.tuple #[sloV p.1.id p.1.lim p.1.ro a n c, .int .i64 p.2]) ∧ RdG w' (.slice a n c) L ∧ gns L = p.1.gens) ∧ Below w0.heap.size w0 w'
theorem RdG.nil (w : World) : RdG w (.slice none 0 0) [] := ⟨RdS.nil 14 gpC w, fun p hp => by cases hp⟩
theorem SRes.no {w0 w : World} {c : Int} (h : Below w0.heap.size w0 w) : SRes w0 (slt0, c) (.returned (.tuple #[sloV 0 0 false Option.none 0 0, .int .i64 c])) w := ⟨⟨Option.none, 0, 0, [], rfl, RdG.nil _, rfl⟩, h⟩
theorem len_gns {L : List GP} {k : Nat} (h : LenS k (gns L)) (hk : k ≤ 10000) : ∀ p ∈ L, ∀ j, j < 8 → (p.1.m.st j).length ≤ 10000 := fun p hp j hj => Nat.le_trans (h p.1 (List.mem_map_of_mem hp) j hj) hk
theorem gns_take (L : List GP) (k : Nat) : gns (L.take k) = (gns L).take k := List.map_take ..
theorem gns_append (L M : List GP) : gns (L ++ M) = gns L ++ gns M := List.map_append ..
theorem pat_set {L : List GP} {k : Nat} (hk : k < L.length) (y : GP) (j : Nat) : pat (L.set k y) j = if j = k then y else pat L j := by
  unfold pat
  rw [List.getD_eq_getElem?_getD, List.getElem?_set]
  by_cases e : k = j
  · subst e; simp [hk]
  · rw [if_neg e, if_neg (fun e' => e e'.symm), List.getD_eq_getElem?_getD]
theorem own_rdG {w : World} {B n : Nat} {v : Value} {T : TypeId} {L : List GP} (h : w.ownsRow B T 14 v n (L.flatMap gpC)) (hn : n = L.length) (hm : ∀ p ∈ L, RdM w p.2 p.1.m.st) : RdG w v L := by
  subst hn
  exact ⟨own_rds (fun x _ => gpC_len x) (by decide) h, hm⟩
/-- The generation that is changed, in place. -/
def putP (L : List GP) (y : GP) : List GP := L.map fun x => if x.1.num = y.1.num then y else x
theorem putP_gns (L : List GP) (y : GP) : gns (putP L y) = putG (gns L) y.1 := by
  unfold putP putG gns
  rw [List.map_map, List.map_map]
  refine List.map_congr_left fun x _ => ?_
  simp only [Function.comp_apply]
  split <;> rfl
theorem putP_mem {L : List GP} {y p : GP} (h : p ∈ putP L y) : p ∈ L ∨ p = y := by
  obtain ⟨x, hx, e⟩ := List.mem_map.1 h
  by_cases c : x.1.num = y.1.num
  · rw [if_pos c] at e; exact .inr e.symm
  · rw [if_neg c] at e; exact .inl (e ▸ hx)
theorem putP_len (L : List GP) (y : GP) : (putP L y).length = L.length := List.length_map ..
/-- The first k of them are done. -/
def putK (L : List GP) (y : GP) (k : Nat) : List GP := putP (L.take k) y ++ L.drop k
theorem putK_zero (L : List GP) (y : GP) : putK L y 0 = L := rfl
theorem putK_all (L : List GP) (y : GP) (k : Nat) (hk : k = L.length) : putK L y k = putP L y := by
  subst hk
  unfold putK
  rw [List.take_of_length_le (Nat.le_refl _), List.drop_of_length_le (Nat.le_refl _), List.append_nil]
theorem putK_len (L : List GP) (y : GP) (k : Nat) : (putK L y k).length = L.length := by
  unfold putK
  rw [List.length_append, putP_len, List.length_take, List.length_drop]; omega
theorem putK_at {L : List GP} {k : Nat} (hk : k < L.length) (y : GP) : pat (putK L y k) k = pat L k := by
  unfold pat putK
  rw [List.getD_eq_getElem?_getD, List.getElem?_append_right (by rw [putP_len, List.length_take]; omega), putP_len, List.length_take, List.getElem?_drop, List.getD_eq_getElem?_getD]
  congr 2; omega
theorem putK_succ {L : List GP} {k : Nat} (hk : k < L.length) (y : GP) : putK L y (k + 1) = (putK L y k).set k (if (pat L k).1.num = y.1.num then y else pat L k) := by
  have e0 : L.drop k = pat L k :: L.drop (k + 1) := by
    rw [List.drop_eq_getElem_cons hk]
    unfold pat
    rw [List.getD_eq_getElem?_getD, List.getElem?_eq_getElem hk]; rfl
  have e1 : L.take (k + 1) = L.take k ++ [pat L k] := by
    rw [List.take_add_one, List.getElem?_eq_getElem hk]
    unfold pat
    rw [List.getD_eq_getElem?_getD, List.getElem?_eq_getElem hk]; rfl
  unfold putK
  have hl : (putP (L.take k) y).length = k := by rw [putP_len, List.length_take]; omega
  rw [e0, e1, List.set_append_right _ _ (by omega), hl, Nat.sub_self]
  unfold putP
  rw [List.map_append, List.append_assoc]
  rfl
theorem putK_same {L : List GP} {k : Nat} (hk : k < L.length) (y : GP) (h : (pat L k).1.num ≠ y.1.num) : putK L y (k + 1) = putK L y k := by
  rw [putK_succ hk, if_neg h]
  apply List.ext_getElem?
  intro i
  rw [List.getElem?_set]
  by_cases e : k = i
  · subst e
    have hk2 : k < (putK L y k).length := by rw [putK_len]; exact hk
    have h1 := putK_at hk y
    have h2 : pat (putK L y k) k = (putK L y k)[k] := by
      unfold pat
      rw [List.getD_eq_getElem?_getD, List.getElem?_eq_getElem hk2]; rfl
    simp only [hk2, if_true, List.getElem?_eq_getElem hk2]
    rw [← h2, h1]
  · rw [if_neg e]
theorem putK_mem {L : List GP} {y p : GP} {k : Nat} (h : p ∈ putK L y k) : p ∈ L ∨ p = y := by
  rcases List.mem_append.1 h with h | h
  · rcases putP_mem h with h | h
    · exact .inl (List.mem_of_mem_take h)
    · exact .inr h
  · exact .inl (List.mem_of_mem_drop h)
/-- Whether one of the first k is met. -/
def metK (L : List GP) (num : Int) (k : Nat) : Bool := (L.take k).any fun x => decide (x.1.num = num)
theorem metK_succ {L : List GP} {k : Nat} (hk : k < L.length) (num : Int) : metK L num (k + 1) = (metK L num k || decide ((pat L k).1.num = num)) := by
  unfold metK pat
  rw [List.take_add_one, List.getElem?_eq_getElem hk, List.any_append, List.getD_eq_getElem?_getD, List.getElem?_eq_getElem hk]
  simp
theorem metK_all (L : List GP) (num : Int) (k : Nat) (hk : k = L.length) : metK L num k = (gns L).any fun x => decide (x.num = num) := by
  subst hk
  unfold metK gns
  rw [List.take_of_length_le (Nat.le_refl _), List.any_map]
  rfl
end Go.Proofs.YtenkeodfijladaaGreat

namespace Go.Proofs.YtenkeodfijladaaGreat
open Go.RowKit

set_option maxRecDepth 100000 in
set_option maxHeartbeats 4000000 in
theorem rnew_slot (i l : Int) (hA : 0 ≤ i ∧ i < 4 ∧ 4136 ≤ l ∧ l ≤ 262144) (w : World) : Calls Tryz.prog 52 #[.int .i64 i, .int .i64 l] w fun e w' => ∃ b, e = .returned (.tuple #[sloV i l false (some ⟨b, 0, none⟩) 1 1, .int .i64 0]) ∧ w.heap.size ≤ b ∧ GAt w' b 0 (fresh 1, Sl.nil) ∧ Below w.heap.size w w' := by
  have HF := Lib.hid (fun W => rfresh_nil 1 (by decide) W)
  have HV := Lib.hid (fun b W (h : GAt W b 0 (fresh 1, Sl.nil)) => rsvalid_any i l false (some ⟨b, 0, none⟩) 1 1 newL W (newL_rd h) (fun p hp j _ => by
    have : p = (fresh 1, Sl.nil) := by simpa [newL] using hp
    subst this
    exact Nat.zero_le _))
  rw [new_vld i l false hA] at HV
  have HB := Lib.hid (below_slo w 0 0 false none 0 0 24)
  have HR := Lib.hid (BoxV.new w 0 0 false none 0 0 24)
  clear hA
  go_enter Tryz.func52, Tryz.ntmps52
  go_wp2_with fail
  refine (HF.out _).mono ?_
  rintro e w1 ⟨rfl, hb1⟩
  obtain ⟨W0, hW0⟩ : ∃ W0, w.alloc (.cells (sloC 0 0 false none 0 0) 24) = W0 := ⟨_, rfl⟩
  have hb1' : Below (w.alloc (.cells (sloC 0 0 false none 0 0) 24)).heap.size (w.alloc (.cells (sloC 0 0 false none 0 0) 24)) w1 := hb1
  rw [hW0] at hb1' HB HR
  have HB1 := Lib.hid (bstep HB.out hb1')
  have HR1 := Lib.hid (HR.out.below hb1')
  clear hb1 hb1' HB HR hW0 HF
  have hlR := HR1.out.lt
  generalize hb0 : w.heap.size = b0 at *
  have E0 := Lib.hid hb0
  clear hb0
  generalize hnil : Sl.nil = s0 at *
  have HNil := Lib.hid hnil
  clear hnil
  go_upto_region 2 with fail
  obtain ⟨W, hW⟩ : ∃ W, w1.alloc (.cells (genC 1 0 1 16 s0 0 0) 124) = W := ⟨_, rfl⟩
  have HX := Lib.hid (BoxG.new w1 1 0 1 16 s0 0 0 124)
  have HBx := Lib.hid (below_gen w1 1 0 1 16 s0 0 0 124)
  change Code.wp _ _ _ _ (w1.alloc (.cells (genC 1 0 1 16 s0 0 0) 124))
  rw [hW] at HX HBx ⊢
  clear hW
  have HR2 := Lib.hid (HR1.out.below HBx.out)
  have HB2 := Lib.hid (bup HB1.out (Nat.le_of_lt hlR) HBx.out)
  have hlX := HX.out.lt
  have m0 := HX.out.n0
  have m1 := HX.out.n1
  have m2 := HX.out.n2
  have m3 := HX.out.n3
  have m4 := HX.out.c0
  have m5 := HX.out.c1
  have m6 := HX.out.c2
  have m7 := HX.out.c3
  have m8 := HX.out.c4
  have m9 := HX.out.c5
  have m10 := HX.out.c6
  have m11 := HX.out.c7
  have m12 := HX.out.cl
  have m13 := HX.out.cg
  go_upto_region 3 with fail
  change Code.wp _ _ _ _ ((W.alloc (.cells (genC 1 0 1 16 s0 0 0) 124)).alloc (.cells (sloC i l false (some ⟨W.heap.size, 0, none⟩) 1 1) 24))
  obtain ⟨W2, hW2⟩ : ∃ W2, W.alloc (.cells (genC 1 0 1 16 s0 0 0) 124) = W2 := ⟨_, rfl⟩
  have hz2 : W2.heap.size = W.heap.size + 1 := by rw [← hW2]; simp
  have HG2 := Lib.hid (show GAt W2 W.heap.size 0 (fresh 1, s0) from hW2 ▸ GAt.of_box (g := fresh 1) (BoxG.new W 1 0 1 16 s0 0 0 124))
  have HBa := Lib.hid (show Below W.heap.size W W2 from hW2 ▸ below_gen W 1 0 1 16 s0 0 0 124)
  rw [hW2]
  clear hW2
  obtain ⟨W3, hW3⟩ : ∃ W3, W2.alloc (.cells (sloC i l false (some ⟨W.heap.size, 0, none⟩) 1 1) 24) = W3 := ⟨_, rfl⟩
  have HS3 := Lib.hid (show BoxV W3 (W.heap.size + 1) i l false (some ⟨W.heap.size, 0, none⟩) 1 1 from hz2 ▸ hW3 ▸ BoxV.new W2 i l false (some ⟨W.heap.size, 0, none⟩) 1 1 24)
  have HBb := Lib.hid (show Below W2.heap.size W2 W3 from hW3 ▸ below_slo W2 i l false (some ⟨W.heap.size, 0, none⟩) 1 1 24)
  rw [hW3]
  clear hW3
  have HG3 := Lib.hid (HG2.out.below HBb.out)
  have hab := bstep HBa.out HBb.out
  have HR3 := Lib.hid (HR2.out.below hab)
  have HB3 := Lib.hid (bup HB2.out (Nat.le_of_lt HR2.out.lt) hab)
  have hl3 := HS3.out.lt
  have hbW : b0 < W.heap.size := HR2.out.lt
  clear m0 m1 m2 m3 m4 m5 m6 m7 m8 m9 m10 m11 m12 m13 HX HBx HR2 HB2 HG2 HBa HBb hab HR1 HB1 hlX hlR
  have x0 := HS3.out.c0
  have x1 := HS3.out.c1
  have x2 := HS3.out.c2
  have x3 := HS3.out.c3
  generalize hgb : W.heap.size = gb at *
  clear hgb
  go_wp2_with fail
  refine (HV.out _ _ HG3.out).mono ?_
  rintro e w4 ⟨rfl, hb4⟩
  have HG4 := Lib.hid (HG3.out.below hb4)
  have HR4 := Lib.hid (HR3.out.below hb4)
  have HS4 := Lib.hid (HS3.out.below hb4)
  have HB4 := Lib.hid (bup HB3.out (Nat.le_of_lt HR3.out.lt) hb4)
  have hl4 := HS4.out.lt
  have hlr4 := HR4.out.lt
  clear x0 x1 x2 x3 hb4 HG3 HR3 HS3 HB3 HV hl3
  have x0 := HS4.out.c0
  have x1 := HS4.out.c1
  have x2 := HS4.out.c2
  have x3 := HS4.out.c3
  have d0 := HR4.out.c0
  have d1 := HR4.out.c1
  have d2 := HR4.out.c2
  have d3 := HR4.out.c3
  have F := HR4.out.f
  have hne : b0 ≠ gb + 1 := by omega
  go_wp2_with fail
  change bodyPost _ _ _ _ _ (pts w4 b0 (sloL i l false (some ⟨gb, 0, none⟩) 1 1))
  have hby := HR4.out.all i l false (some ⟨gb, 0, none⟩) 1 1
  have HBz := Lib.hid (pts_below (B := b0) (Nat.le_refl _) (sloL i l false (some ⟨gb, 0, none⟩) 1 1) HB4.out)
  have HGz := Lib.hid (HG4.out.pts_ne (show gb ≠ b0 by omega) (sloL i l false (some ⟨gb, 0, none⟩) 1 1))
  generalize pts w4 b0 (sloL i l false (some ⟨gb, 0, none⟩) 1 1) = V at *
  exact bodyPost_ret (v := .tuple #[sloV i l false (some ⟨gb, 0, none⟩) 1 1, .int .i64 0]) (by simp [results, Tryz.results52, go_sem, hby.c0, hby.c1, hby.c2, hby.c3]) rfl ⟨gb, rfl, by rw [E0.out]; omega, by rw [HNil.out]; exact HGz.out, by rw [E0.out]; exact HBz.out⟩
end Go.Proofs.YtenkeodfijladaaGreat

namespace Go.Proofs.YtenkeodfijladaaGreat
open Go.RowKit

set_option maxRecDepth 100000 in
set_option maxHeartbeats 4000000 in
theorem new_no (i l : Int) (hA : vldSl ⟨i, l, false, gns newL⟩ = false) (w : World) : Calls Tryz.prog 50 #[.int .i64 i, .int .i64 l] w (SRes w (slt0, 1)) := by
  have HF := Lib.hid (fun W => fresh_any 1 (by decide) W)
  have HV := Lib.hid (fun b W (h : GAt W b 0 (fresh 1, Sl.nil)) => svalid_any i l false (some ⟨b, 0, none⟩) 1 1 newL W (newL_rd h) (fun p hp j _ => by
    have : p = (fresh 1, Sl.nil) := by simpa [newL] using hp
    subst this
    exact Nat.zero_le _))
  rw [hA] at HV
  have HB := Lib.hid (below_slo w 0 0 false none 0 0 41)
  have HR := Lib.hid (BoxV.new w 0 0 false none 0 0 41)
  clear hA
  go_enter Tryz.func50, Tryz.ntmps50
  go_wp2_with fail
  refine (HF.out _).mono ?_
  rintro e w1 ⟨rfl, hb1⟩
  obtain ⟨W0, hW0⟩ : ∃ W0, w.alloc (.cells (sloC 0 0 false none 0 0) 41) = W0 := ⟨_, rfl⟩
  have hb1' : Below (w.alloc (.cells (sloC 0 0 false none 0 0) 41)).heap.size (w.alloc (.cells (sloC 0 0 false none 0 0) 41)) w1 := hb1
  rw [hW0] at hb1' HB HR
  have HB1 := Lib.hid (bstep HB.out hb1')
  have HR1 := Lib.hid (HR.out.below hb1')
  clear hb1 hb1' HB HR hW0 HF
  have hlR := HR1.out.lt
  generalize hb0 : w.heap.size = b0 at *
  have E0 := Lib.hid hb0
  clear hb0
  generalize hnil : Sl.nil = s0 at *
  have HNil := Lib.hid hnil
  clear hnil
  go_upto_region 2 with fail
  obtain ⟨W, hW⟩ : ∃ W, w1.alloc (.cells (genC 1 0 1 16 s0 0 0) 58) = W := ⟨_, rfl⟩
  have HX := Lib.hid (BoxG.new w1 1 0 1 16 s0 0 0 58)
  have HBx := Lib.hid (below_gen w1 1 0 1 16 s0 0 0 58)
  change Code.wp _ _ _ _ (w1.alloc (.cells (genC 1 0 1 16 s0 0 0) 58))
  rw [hW] at HX HBx ⊢
  clear hW
  have HR2 := Lib.hid (HR1.out.below HBx.out)
  have HB2 := Lib.hid (bup HB1.out (Nat.le_of_lt hlR) HBx.out)
  have hlX := HX.out.lt
  have m0 := HX.out.n0
  have m1 := HX.out.n1
  have m2 := HX.out.n2
  have m3 := HX.out.n3
  have m4 := HX.out.c0
  have m5 := HX.out.c1
  have m6 := HX.out.c2
  have m7 := HX.out.c3
  have m8 := HX.out.c4
  have m9 := HX.out.c5
  have m10 := HX.out.c6
  have m11 := HX.out.c7
  have m12 := HX.out.cl
  have m13 := HX.out.cg
  go_upto_region 3 with fail
  change Code.wp _ _ _ _ ((W.alloc (.cells (genC 1 0 1 16 s0 0 0) 58)).alloc (.cells (sloC i l false (some ⟨W.heap.size, 0, none⟩) 1 1) 41))
  obtain ⟨W2, hW2⟩ : ∃ W2, W.alloc (.cells (genC 1 0 1 16 s0 0 0) 58) = W2 := ⟨_, rfl⟩
  have hz2 : W2.heap.size = W.heap.size + 1 := by rw [← hW2]; simp
  have HG2 := Lib.hid (show GAt W2 W.heap.size 0 (fresh 1, s0) from hW2 ▸ GAt.of_box (g := fresh 1) (BoxG.new W 1 0 1 16 s0 0 0 58))
  have HBa := Lib.hid (show Below W.heap.size W W2 from hW2 ▸ below_gen W 1 0 1 16 s0 0 0 58)
  rw [hW2]
  clear hW2
  obtain ⟨W3, hW3⟩ : ∃ W3, W2.alloc (.cells (sloC i l false (some ⟨W.heap.size, 0, none⟩) 1 1) 41) = W3 := ⟨_, rfl⟩
  have HS3 := Lib.hid (show BoxV W3 (W.heap.size + 1) i l false (some ⟨W.heap.size, 0, none⟩) 1 1 from hz2 ▸ hW3 ▸ BoxV.new W2 i l false (some ⟨W.heap.size, 0, none⟩) 1 1 41)
  have HBb := Lib.hid (show Below W2.heap.size W2 W3 from hW3 ▸ below_slo W2 i l false (some ⟨W.heap.size, 0, none⟩) 1 1 41)
  rw [hW3]
  clear hW3
  have HG3 := Lib.hid (HG2.out.below HBb.out)
  have hab := bstep HBa.out HBb.out
  have HR3 := Lib.hid (HR2.out.below hab)
  have HB3 := Lib.hid (bup HB2.out (Nat.le_of_lt HR2.out.lt) hab)
  have hl3 := HS3.out.lt
  have hbW : b0 < W.heap.size := HR2.out.lt
  clear m0 m1 m2 m3 m4 m5 m6 m7 m8 m9 m10 m11 m12 m13 HX HBx HR2 HB2 HG2 HBa HBb hab HR1 HB1 hlX hlR
  have x0 := HS3.out.c0
  have x1 := HS3.out.c1
  have x2 := HS3.out.c2
  have x3 := HS3.out.c3
  generalize hgb : W.heap.size = gb at *
  clear hgb
  go_wp2_with fail
  refine (HV.out _ _ HG3.out).mono ?_
  rintro e w4 ⟨rfl, hb4⟩
  have HG4 := Lib.hid (HG3.out.below hb4)
  have HR4 := Lib.hid (HR3.out.below hb4)
  have HS4 := Lib.hid (HS3.out.below hb4)
  have HB4 := Lib.hid (bup HB3.out (Nat.le_of_lt HR3.out.lt) hb4)
  have hl4 := HS4.out.lt
  have hlr4 := HR4.out.lt
  clear x0 x1 x2 x3 hb4 HG3 HR3 HS3 HB3 HV hl3
  have x0 := HS4.out.c0
  have x1 := HS4.out.c1
  have x2 := HS4.out.c2
  have x3 := HS4.out.c3
  have d0 := HR4.out.c0
  have d1 := HR4.out.c1
  have d2 := HR4.out.c2
  have d3 := HR4.out.c3
  have F := HR4.out.f
  have hne : b0 ≠ gb + 1 := by omega
  go_wp2_with fail
  change bodyPost _ _ _ _ _ (pts w4 b0 (sloL 0 0 false none 0 0))
  have hby := HR4.out.all 0 0 false none 0 0
  have HBz := Lib.hid (pts_below (B := b0) (Nat.le_refl _) (sloL 0 0 false none 0 0) HB4.out)
  generalize pts w4 b0 (sloL 0 0 false none 0 0) = V at *
  have e0 := E0.out
  exact bodyPost_ret (v := .tuple #[sloV 0 0 false none 0 0, .int .i64 1]) (by simp [results, Tryz.results50, go_sem, hby.c0, hby.c1, hby.c2, hby.c3]) rfl (SRes.no (by rw [e0]; exact HBz.out))
theorem snew_any (i l : Int) (w : World) : Calls Tryz.prog 50 #[.int .i64 i, .int .i64 l] w (SRes w (newS i l)) := by
  by_cases hv : vldSl ⟨i, l, false, gns newL⟩ = true
  · have hV := (vldSl_iff _).1 hv
    refine (new_slot i l ⟨hV.id.1, hV.id.2, hV.lim.1, hV.lim.2⟩ w).mono ?_
    rintro e w' ⟨b, rfl, _, hg, hb⟩
    have e0 : newS i l = (⟨i, l, false, [fresh 1]⟩, 0) := if_pos hv
    rw [e0]
    exact ⟨⟨_, 1, 1, newL, rfl, newL_rd hg, rfl⟩, hb⟩
  · have e0 : newS i l = (slt0, 1) := if_neg hv
    rw [e0]
    exact new_no i l (by simpa using hv) w
set_option maxRecDepth 100000 in
set_option maxHeartbeats 4000000 in
theorem rnew_no (i l : Int) (hA : vldSl ⟨i, l, false, gns newL⟩ = false) (w : World) : Calls Tryz.prog 52 #[.int .i64 i, .int .i64 l] w (SRes w (slt0, 1)) := by
  have HF := Lib.hid (fun W => rfresh_nil 1 (by decide) W)
  have HV := Lib.hid (fun b W (h : GAt W b 0 (fresh 1, Sl.nil)) => rsvalid_any i l false (some ⟨b, 0, none⟩) 1 1 newL W (newL_rd h) (fun p hp j _ => by
    have : p = (fresh 1, Sl.nil) := by simpa [newL] using hp
    subst this
    exact Nat.zero_le _))
  rw [hA] at HV
  have HB := Lib.hid (below_slo w 0 0 false none 0 0 24)
  have HR := Lib.hid (BoxV.new w 0 0 false none 0 0 24)
  clear hA
  go_enter Tryz.func52, Tryz.ntmps52
  go_wp2_with fail
  refine (HF.out _).mono ?_
  rintro e w1 ⟨rfl, hb1⟩
  obtain ⟨W0, hW0⟩ : ∃ W0, w.alloc (.cells (sloC 0 0 false none 0 0) 24) = W0 := ⟨_, rfl⟩
  have hb1' : Below (w.alloc (.cells (sloC 0 0 false none 0 0) 24)).heap.size (w.alloc (.cells (sloC 0 0 false none 0 0) 24)) w1 := hb1
  rw [hW0] at hb1' HB HR
  have HB1 := Lib.hid (bstep HB.out hb1')
  have HR1 := Lib.hid (HR.out.below hb1')
  clear hb1 hb1' HB HR hW0 HF
  have hlR := HR1.out.lt
  generalize hb0 : w.heap.size = b0 at *
  have E0 := Lib.hid hb0
  clear hb0
  generalize hnil : Sl.nil = s0 at *
  have HNil := Lib.hid hnil
  clear hnil
  go_upto_region 2 with fail
  obtain ⟨W, hW⟩ : ∃ W, w1.alloc (.cells (genC 1 0 1 16 s0 0 0) 124) = W := ⟨_, rfl⟩
  have HX := Lib.hid (BoxG.new w1 1 0 1 16 s0 0 0 124)
  have HBx := Lib.hid (below_gen w1 1 0 1 16 s0 0 0 124)
  change Code.wp _ _ _ _ (w1.alloc (.cells (genC 1 0 1 16 s0 0 0) 124))
  rw [hW] at HX HBx ⊢
  clear hW
  have HR2 := Lib.hid (HR1.out.below HBx.out)
  have HB2 := Lib.hid (bup HB1.out (Nat.le_of_lt hlR) HBx.out)
  have hlX := HX.out.lt
  have m0 := HX.out.n0
  have m1 := HX.out.n1
  have m2 := HX.out.n2
  have m3 := HX.out.n3
  have m4 := HX.out.c0
  have m5 := HX.out.c1
  have m6 := HX.out.c2
  have m7 := HX.out.c3
  have m8 := HX.out.c4
  have m9 := HX.out.c5
  have m10 := HX.out.c6
  have m11 := HX.out.c7
  have m12 := HX.out.cl
  have m13 := HX.out.cg
  go_upto_region 3 with fail
  change Code.wp _ _ _ _ ((W.alloc (.cells (genC 1 0 1 16 s0 0 0) 124)).alloc (.cells (sloC i l false (some ⟨W.heap.size, 0, none⟩) 1 1) 24))
  obtain ⟨W2, hW2⟩ : ∃ W2, W.alloc (.cells (genC 1 0 1 16 s0 0 0) 124) = W2 := ⟨_, rfl⟩
  have hz2 : W2.heap.size = W.heap.size + 1 := by rw [← hW2]; simp
  have HG2 := Lib.hid (show GAt W2 W.heap.size 0 (fresh 1, s0) from hW2 ▸ GAt.of_box (g := fresh 1) (BoxG.new W 1 0 1 16 s0 0 0 124))
  have HBa := Lib.hid (show Below W.heap.size W W2 from hW2 ▸ below_gen W 1 0 1 16 s0 0 0 124)
  rw [hW2]
  clear hW2
  obtain ⟨W3, hW3⟩ : ∃ W3, W2.alloc (.cells (sloC i l false (some ⟨W.heap.size, 0, none⟩) 1 1) 24) = W3 := ⟨_, rfl⟩
  have HS3 := Lib.hid (show BoxV W3 (W.heap.size + 1) i l false (some ⟨W.heap.size, 0, none⟩) 1 1 from hz2 ▸ hW3 ▸ BoxV.new W2 i l false (some ⟨W.heap.size, 0, none⟩) 1 1 24)
  have HBb := Lib.hid (show Below W2.heap.size W2 W3 from hW3 ▸ below_slo W2 i l false (some ⟨W.heap.size, 0, none⟩) 1 1 24)
  rw [hW3]
  clear hW3
  have HG3 := Lib.hid (HG2.out.below HBb.out)
  have hab := bstep HBa.out HBb.out
  have HR3 := Lib.hid (HR2.out.below hab)
  have HB3 := Lib.hid (bup HB2.out (Nat.le_of_lt HR2.out.lt) hab)
  have hl3 := HS3.out.lt
  have hbW : b0 < W.heap.size := HR2.out.lt
  clear m0 m1 m2 m3 m4 m5 m6 m7 m8 m9 m10 m11 m12 m13 HX HBx HR2 HB2 HG2 HBa HBb hab HR1 HB1 hlX hlR
  have x0 := HS3.out.c0
  have x1 := HS3.out.c1
  have x2 := HS3.out.c2
  have x3 := HS3.out.c3
  generalize hgb : W.heap.size = gb at *
  clear hgb
  go_wp2_with fail
  refine (HV.out _ _ HG3.out).mono ?_
  rintro e w4 ⟨rfl, hb4⟩
  have HG4 := Lib.hid (HG3.out.below hb4)
  have HR4 := Lib.hid (HR3.out.below hb4)
  have HS4 := Lib.hid (HS3.out.below hb4)
  have HB4 := Lib.hid (bup HB3.out (Nat.le_of_lt HR3.out.lt) hb4)
  have hl4 := HS4.out.lt
  have hlr4 := HR4.out.lt
  clear x0 x1 x2 x3 hb4 HG3 HR3 HS3 HB3 HV hl3
  have x0 := HS4.out.c0
  have x1 := HS4.out.c1
  have x2 := HS4.out.c2
  have x3 := HS4.out.c3
  have d0 := HR4.out.c0
  have d1 := HR4.out.c1
  have d2 := HR4.out.c2
  have d3 := HR4.out.c3
  have F := HR4.out.f
  have hne : b0 ≠ gb + 1 := by omega
  go_wp2_with fail
  change bodyPost _ _ _ _ _ (pts w4 b0 (sloL 0 0 false none 0 0))
  have hby := HR4.out.all 0 0 false none 0 0
  have HBz := Lib.hid (pts_below (B := b0) (Nat.le_refl _) (sloL 0 0 false none 0 0) HB4.out)
  generalize pts w4 b0 (sloL 0 0 false none 0 0) = V at *
  have e0 := E0.out
  exact bodyPost_ret (v := .tuple #[sloV 0 0 false none 0 0, .int .i64 1]) (by simp [results, Tryz.results52, go_sem, hby.c0, hby.c1, hby.c2, hby.c3]) rfl (SRes.no (by rw [e0]; exact HBz.out))
theorem rnew_any (i l : Int) (w : World) : Calls Tryz.prog 52 #[.int .i64 i, .int .i64 l] w (SRes w (newS i l)) := by
  by_cases hv : vldSl ⟨i, l, false, gns newL⟩ = true
  · have hV := (vldSl_iff _).1 hv
    refine (rnew_slot i l ⟨hV.id.1, hV.id.2, hV.lim.1, hV.lim.2⟩ w).mono ?_
    rintro e w' ⟨b, rfl, _, hg, hb⟩
    have e0 : newS i l = (⟨i, l, false, [fresh 1]⟩, 0) := if_pos hv
    rw [e0]
    exact ⟨⟨_, 1, 1, newL, rfl, newL_rd hg, rfl⟩, hb⟩
  · have e0 : newS i l = (slt0, 1) := if_neg hv
    rw [e0]
    exact rnew_no i l (by simpa using hv) w
end Go.Proofs.YtenkeodfijladaaGreat

namespace Go.Proofs.YtenkeodfijladaaGreat
open Go.RowKit

end Go.Proofs.YtenkeodfijladaaGreat

namespace Go.Proofs.YtenkeodfijladaaGreat
open Go.RowKit

end Go.Proofs.YtenkeodfijladaaGreat

namespace Go.Proofs.YtenkeodfijladaaGreat
open Go.RowKit

set_option maxRecDepth 100000 in
set_option maxHeartbeats 8000000 in
theorem rfits_any (i l : Int) (r : Bool) (a : Option Addr) (n c : Nat) (L : List GP) (w : World) (h : RdG w (.slice a n c) L) (hs : ∀ p ∈ L, ∀ j, j < 8 → (p.1.m.st j).length ≤ 10000) (m : Int) :
    Calls Tryz.prog 178 #[sloV i l r a n c, .int .i64 m] w fun e w' => e = .returned (.bool (fitsS ⟨i, l, r, gns L⟩ m)) ∧ Below w.heap.size w w' := by
  have HSv := Lib.hid (fun W (hb : Below w.heap.size w W) => rsvalid_any i l r a n c L W (h.below hb) hs)
  have HZ := Lib.hid (fun W => (rsizeB m.toNat W).mono (R' := fun e w' => e = .returned (.int .i64 ((szN m.toNat : Nat) : Int)) ∧ Below W.heap.size W w') fun _ _ ⟨he, hw⟩ => ⟨he, hw ▸ Below.refl _ _⟩)
  have HBx := Lib.hid (BoxV.new w i l r a n c 24)
  have HB0 := Lib.hid (below_slo w i l r a n c 24)
  have hcs : fitsS ⟨i, l, r, gns L⟩ m = (vldSl ⟨i, l, r, gns L⟩ && (decide (0 ≤ m) && decide (m ≤ 4096)) && decide ((topG ⟨i, l, r, gns L⟩).size + (szN m.toNat : Nat) ≤ l)) := rfl
  cases hv : vldSl ⟨i, l, r, gns L⟩
  · rw [hv] at HSv hcs
    have HF := Lib.hid (show fitsS ⟨i, l, r, gns L⟩ m = false by rw [hcs]; rfl)
    clear h hs hv hcs
    generalize fitsS ⟨i, l, r, gns L⟩ m = F at *
    go_enter Tryz.func178, Tryz.ntmps178
    go_upto_region 1 with fail
    obtain ⟨W, hW⟩ : ∃ W, w.alloc (.cells (sloC i l r a n c) 24) = W := ⟨_, rfl⟩
    change Code.wp _ _ _ _ (w.alloc (.cells (sloC i l r a n c) 24))
    rw [hW] at HBx HB0 ⊢
    clear hW
    have hlw := HBx.out.lt
    have k0 := cell_by HBx.out.c0
    have k1 := cell_by HBx.out.c1
    have k2 := cell_by HBx.out.c2
    have k3 := cell_by HBx.out.c3
    have HVW := Lib.hid (fun W' (hb : Below W.heap.size W W') => HSv.out W' (bstep HB0.out hb))
    refine wp_region_below (by kernel_rfl) (by kernel_rfl) ?_
    repeat (go_big_quiet_step ((first | exact calls_by (HVW.out _ (BelowBy.h _)) | exact calls_by (HZ.out _))))
    refine wpQuiet_nil ?_
    intro _ hw'
    obtain ⟨q, hw'⟩ := hw'
    subst hw'
    have HQ := Lib.hid (bstep HB0.out q.h)
    clear k0 k1 k2 k3
    go_wp2_with fail
    go_ret
    exact ⟨by rw [HF.out]; rfl, HQ.out⟩
  · by_cases h1 : m < 0
    · rw [hv] at HSv hcs
      have HF := Lib.hid (show fitsS ⟨i, l, r, gns L⟩ m = false by rw [hcs, show decide (0 ≤ m) = false by simp; omega]; rfl)
      have e1 : decide (0 ≤ m) = false := by simp; omega
      clear h hs hv hcs
      generalize fitsS ⟨i, l, r, gns L⟩ m = F at *
      go_enter Tryz.func178, Tryz.ntmps178
      go_upto_region 1 with fail
      obtain ⟨W, hW⟩ : ∃ W, w.alloc (.cells (sloC i l r a n c) 24) = W := ⟨_, rfl⟩
      change Code.wp _ _ _ _ (w.alloc (.cells (sloC i l r a n c) 24))
      rw [hW] at HBx HB0 ⊢
      clear hW
      have hlw := HBx.out.lt
      have k0 := cell_by HBx.out.c0
      have k1 := cell_by HBx.out.c1
      have k2 := cell_by HBx.out.c2
      have k3 := cell_by HBx.out.c3
      have HVW := Lib.hid (fun W' (hb : Below W.heap.size W W') => HSv.out W' (bstep HB0.out hb))
      refine wp_region_below (by kernel_rfl) (by kernel_rfl) ?_
      repeat (go_big_quiet_step ((first | exact calls_by (HVW.out _ (BelowBy.h _)) | exact calls_by (HZ.out _))))
      refine wpQuiet_nil ?_
      intro _ hw'
      obtain ⟨q, hw'⟩ := hw'
      subst hw'
      have HQ := Lib.hid (bstep HB0.out q.h)
      clear k0 k1 k2 k3
      go_wp2_with fail
      go_ret
      exact ⟨by rw [HF.out]; rfl, HQ.out⟩
    · by_cases h2 : 4096 < m
      · rw [hv] at HSv hcs
        have HF := Lib.hid (show fitsS ⟨i, l, r, gns L⟩ m = false by rw [hcs, show decide (m ≤ 4096) = false by simp; omega]; simp)
        have e1 : decide (0 ≤ m) = true := by simp; omega
        have e2 : decide (m ≤ 4096) = false := by simp; omega
        clear h hs hv hcs
        generalize fitsS ⟨i, l, r, gns L⟩ m = F at *
        go_enter Tryz.func178, Tryz.ntmps178
        go_upto_region 1 with fail
        obtain ⟨W, hW⟩ : ∃ W, w.alloc (.cells (sloC i l r a n c) 24) = W := ⟨_, rfl⟩
        change Code.wp _ _ _ _ (w.alloc (.cells (sloC i l r a n c) 24))
        rw [hW] at HBx HB0 ⊢
        clear hW
        have hlw := HBx.out.lt
        have k0 := cell_by HBx.out.c0
        have k1 := cell_by HBx.out.c1
        have k2 := cell_by HBx.out.c2
        have k3 := cell_by HBx.out.c3
        have HVW := Lib.hid (fun W' (hb : Below W.heap.size W W') => HSv.out W' (bstep HB0.out hb))
        refine wp_region_below (by kernel_rfl) (by kernel_rfl) ?_
        repeat (go_big_quiet_step ((first | exact calls_by (HVW.out _ (BelowBy.h _)) | exact calls_by (HZ.out _))))
        refine wpQuiet_nil ?_
        intro _ hw'
        obtain ⟨q, hw'⟩ := hw'
        subst hw'
        have HQ := Lib.hid (bstep HB0.out q.h)
        clear k0 k1 k2 k3
        go_wp2_with fail
        go_ret
        exact ⟨by rw [HF.out]; rfl, HQ.out⟩
      · have hLn : L.length = n := by
          obtain ⟨_, _, e, _⟩ := h.shape
          injection e with _ e _; exact e.symm
        have hV := (vldSl_iff _).1 hv
        have hn : 1 ≤ n ∧ n ≤ 8 := by have := hV.len; simp only [gns_len, hLn] at this; exact this
        obtain ⟨j, rfl⟩ : ∃ j, n = j + 1 := ⟨n - 1, by omega⟩
        have hg := hV.vg (i := j) (by show j < (gns L).length; rw [gns_len]; omega)
        simp only [gat_gns] at hg
        have hz1 := hg.size.1
        have hz2 := hg.size.2.1
        rw [hv] at HSv hcs
        rw [topG_pat hLn, show decide (0 ≤ m) = true by simp; omega, show decide (m ≤ 4096) = true by simp; omega] at hcs
        have HF := Lib.hid (show fitsS ⟨i, l, r, gns L⟩ m = decide ((pat L j).1.size + (szN m.toNat : Nat) ≤ l) by rw [hcs]; simp)
        obtain ⟨k, rfl⟩ : ∃ k : Nat, m = (k : Int) := ⟨m.toNat, by omega⟩
        rw [Int.toNat_natCast] at HF HZ
        have hszm : szN k ≤ 4127 := szN_le k
        have e1 : decide ((0 : Int) ≤ (k : Int)) = true := by simp
        have e2 : decide ((k : Int) ≤ 4096) = true := by simp; omega
        have HR := Lib.hid h
        clear h hs hv hcs hV hLn hg
        generalize fitsS ⟨i, l, r, gns L⟩ (k : Int) = F at *
        generalize szN k = z at *
        obtain ⟨b, off, rfl, hg⟩ := HR.out.at (show j < j + 1 by omega)
        have HG := Lib.hid hg
        clear hg HR
        generalize pat L j = p at *
        obtain ⟨⟨num, rev, md, sz, f, LV, GA⟩, s⟩ := p
        dsimp only at *
        have j3 : IntKind.i64.wrap (j : Int) = (j : Int) := IntWalk.i64_in _ (by omega)
        have i2 : (j : Int) < ((j + 1 : Nat) : Int) := by omega
        have j5 : IntKind.i64.wrap (sz + (z : Int)) = sz + (z : Int) := IntWalk.i64_in _ (by omega)
        go_enter Tryz.func178, Tryz.ntmps178
        go_upto_region 1 with fail
        obtain ⟨W, hW⟩ : ∃ W, w.alloc (.cells (sloC i l r (some ⟨b, off, none⟩) (j + 1) c) 24) = W := ⟨_, rfl⟩
        change Code.wp _ _ _ _ (w.alloc (.cells (sloC i l r (some ⟨b, off, none⟩) (j + 1) c) 24))
        rw [hW] at HBx HB0 ⊢
        clear hW
        have hlw := HBx.out.lt
        have k0 := cell_by HBx.out.c0
        have k1 := cell_by HBx.out.c1
        have k2 := cell_by HBx.out.c2
        have k3 := cell_by HBx.out.c3
        have HVW := Lib.hid (fun W' (hb : Below W.heap.size W W') => HSv.out W' (bstep HB0.out hb))
        have g3 := cell_by (HG.out.below HB0.out).n3
        dsimp only at g3
        refine wp_region_below (by kernel_rfl) (by kernel_rfl) ?_
        repeat (go_big_quiet_step ((first | exact calls_by (HVW.out _ (BelowBy.h _)) | exact calls_by (HZ.out _))))
        refine wpQuiet_nil ?_
        intro _ hw'
        obtain ⟨q, hw'⟩ := hw'
        subst hw'
        have HQ := Lib.hid (bstep HB0.out q.h)
        clear k0 k1 k2 k3 g3
        go_wp2_with fail
        go_ret
        exact ⟨by rw [HF.out]; rfl, HQ.out⟩
end Go.Proofs.YtenkeodfijladaaGreat

namespace Go.Proofs.YtenkeodfijladaaGreat
open Go.RowKit

end Go.Proofs.YtenkeodfijladaaGreat

namespace Go.Proofs.YtenkeodfijladaaGreat
open Go.RowKit

def intC (z : Int) : Value := .int .i64 z
def OwnI (w : World) (B : Nat) (v : Value) (l : List Int) : Prop := w.ownsRow B 3 1 v l.length (l.map intC)
theorem OwnI.nil (w : World) (B : Nat) : OwnI w B (.slice none 0 0) [] := World.ownsRow_nil w B 3 1
end Go.Proofs.YtenkeodfijladaaGreat
