/- Several texts in one, each over the last: Find of the reference's slots: the walk. Printed by mkSku.py. The statement SlotFinds: the walk. Made by mkSfd.py after XSkd (clean). SlotFinds, from what the form gives of its arguments. -/
import Derived.Test.YtenkeodfijladaaGreatSB
import Derived.Test.YtenkeodfijladaaGreatGR
import Derived.Test.YtenkeodfijladaaGreatVB
import Derived.Laws.Tables
import Derived.Test.YtenkeodfijladaaGreatSC
import Derived.Test.YtenkeodfijladaaGreatSD
import Derived.Test.YtenkeodfijladaaGreatSF
import Derived.Test.YtenkeodfijladaaGreatOP
namespace Go.Proofs.YtenkeodfijladaaGreat
open Go.RowKit

set_option maxRecDepth 100000 in
theorem built_pl (g m r k c o z : Int) : Tryz.prog.built 43 [(0, .int .i64 g), (1, .int .i64 m), (2, .int .i64 r), (3, .agg #[.int .u64 k, .int .u32 c, .int .i64 o, .int .i64 z])] = some #[.int .i64 g, .int .i64 m, .int .i64 r, .int .u64 k, .int .u32 c, .int .i64 o, .int .i64 z] := by kernel_rfl
theorem infoPl : (Tryz.prog.info? 43).map (·.size) = some 7 := by kernel_rfl
theorem plC_all (x : Fnd) : (plC x).all (·.oneCell') = true := all_oneCell_toArray (cs := [.int .i64 x.gen, .int .i64 x.mode, .int .i64 x.rev, .int .u64 x.it.key, .int .u32 x.it.ck, .int .i64 x.it.off, .int .i64 x.it.size]) (fun v hv => by
  simp only [List.mem_cons, List.not_mem_nil, or_false] at hv
  rcases hv with h | h | h | h | h | h | h <;> rw [h] <;> rfl)
theorem store_pl (W : World) (g : Nat) (x : Fnd) : W.setCells g 0 (plC x).toList = pts W g (plL x) := setCells_pts g _ 0 W
theorem BoxP.there {W : World} {b : Nat} {x : Fnd} (h : BoxP W b x) : W.there b 0 7 := fun j hj => by
  refine ⟨?_, h.f _⟩
  rcases (show j = 0 ∨ j = 1 ∨ j = 2 ∨ j = 3 ∨ j = 4 ∨ j = 5 ∨ j = 6 by omega) with e | e | e | e | e | e | e <;> subst e
  · rw [h.c0]; rfl
  · rw [h.c1]; rfl
  · rw [h.c2]; rfl
  · rw [h.c3]; rfl
  · rw [h.c4]; rfl
  · rw [h.c5]; rfl
  · rw [h.c6]; rfl
theorem wpList_build2 {P : Program} {ops : Array Oper} {rest : List Oper} {o : Oper} {a : Act} {w : World} {Q : Exit → Act → World → Prop} (hg : o.guard = none) (t : TypeId) (parts : Array (Nat × Operand)) (ho : o.op = .build t parts) (vs : List (Nat × Value)) (cells : Array Value)
    (hv : (parts.map fun (i, x) => (i, a.eval x)).toList = vs) (hb : P.built t vs = some cells) (h : wpList P ops Q rest (a.put o.dst (.agg cells)) w) : wpList P ops Q (o :: rest) a w :=
  wpList_build hg t parts ho (by rw [hv, hb]; rfl) (by rw [hv, hb]; exact h)
theorem res_find (ts : Array Value) (W : World) (b : Nat) (g m r k c o z : Int) (bo : Bool) (h4 : ts[4]?.getD undef = .pointer (some ⟨b, 0, none⟩)) (h5 : ts[5]?.getD undef = .bool bo)
    (c0 : W.cell? ⟨b, 0, none⟩ = some (.int .i64 g)) (c1 : W.cell? ⟨b, 1, none⟩ = some (.int .i64 m)) (c2 : W.cell? ⟨b, 2, none⟩ = some (.int .i64 r)) (c3 : W.cell? ⟨b, 3, none⟩ = some (.int .u64 k)) (c4 : W.cell? ⟨b, 4, none⟩ = some (.int .u32 c)) (c5 : W.cell? ⟨b, 5, none⟩ = some (.int .i64 o)) (c6 : W.cell? ⟨b, 6, none⟩ = some (.int .i64 z)) :
    Sem.run Tryz.prog (results Tryz.f16 ts) W = .ok (.tuple #[.agg #[.int .i64 g, .int .i64 m, .int .i64 r, .int .u64 k, .int .u32 c, .int .i64 o, .int .i64 z], .bool bo]) W := by
  simp [results, Tryz.results16, go_sem, h4, h5, c0, c1, c2, c3, c4, c5, c6]
set_option maxRecDepth 100000 in
set_option maxHeartbeats 8000000 in
theorem srfind_no (i l : Int) (r : Bool) (a : Option Addr) (n c : Nat) (L : List GP) (w : World) (h : RdG w (.slice a n c) L) (hs : ∀ p ∈ L, ∀ j, j < 8 → (p.1.m.st j).length ≤ 10000) (hv : vldSl ⟨i, l, r, gns L⟩ = false) (key : Int) :
    Calls Tryz.prog 16 #[sloV i l r a n c, .int .u64 key] w fun e w' => e = .returned (.tuple #[plV ((allSl ⟨i, l, r, gns L⟩ key).headD fnd0), .bool (!(allSl ⟨i, l, r, gns L⟩ key).isEmpty)]) ∧ Below w.heap.size w w' := by
  have HSv := Lib.hid (fun W (hb : Below w.heap.size w W) => rsvalid_any i l r a n c L W (h.below hb) hs)
  rw [hv] at HSv
  rw [allSl_no hv]
  have HBx := Lib.hid (BoxV.new w i l r a n c 24)
  have HB0 := Lib.hid (below_slo w i l r a n c 24)
  have hcap : n ≤ 9223372036854775807 := by
    show n ≤ maxLen
    obtain ⟨_, _, e, h1, h2⟩ := h.shape
    injection e with _ e _
    rw [e]; exact Nat.le_trans h1 h2
  clear h hs hv
  go_enter Tryz.func16, Tryz.ntmps16
  go_upto_region 1 with fail
  obtain ⟨W, hW⟩ : ∃ W, w.alloc (.cells (sloC i l r a n c) 24) = W := ⟨_, rfl⟩
  change Code.wp _ _ _ _ ((w.alloc (.cells (sloC i l r a n c) 24)).alloc _)
  have hsz : W.heap.size = w.heap.size + 1 := by rw [← hW]; simp
  rw [hW] at HBx HB0 ⊢
  clear hW
  have hlw := HBx.out.lt
  have HP0 := Lib.hid (show BoxP (W.alloc (.cells #[.int .i64 0, .int .i64 0, .int .i64 0, .int .u64 0, .int .u32 0, .int .i64 0, .int .i64 0] 43)) (w.heap.size + 1) fnd0 by rw [← hsz]; exact ⟨by simp [fnd0, it0], by simp [fnd0, it0], by simp [fnd0, it0], by simp [fnd0, it0], by simp [fnd0, it0], by simp [fnd0, it0], by simp [fnd0, it0], fun i => by simp⟩)
  have HB1 := Lib.hid (HB0.out.alloc HB0.out.size (.cells #[.int .i64 0, .int .i64 0, .int .i64 0, .int .u64 0, .int .u32 0, .int .i64 0, .int .i64 0] 43))
  have HX1 := Lib.hid (HBx.out.below ((Below.refl _ W).alloc (Nat.le_refl _) (.cells #[.int .i64 0, .int .i64 0, .int .i64 0, .int .u64 0, .int .u32 0, .int .i64 0, .int .i64 0] 43)))
  clear HBx HB0
  generalize W.alloc (.cells #[.int .i64 0, .int .i64 0, .int .i64 0, .int .u64 0, .int .u32 0, .int .i64 0, .int .i64 0] 43) = W1 at *
  clear hsz hlw
  have k0 := HX1.out.c0
  have k1 := HX1.out.c1
  have k2 := HX1.out.c2
  have k3 := HX1.out.c3
  have z0 := HP0.out.c0
  have z1 := HP0.out.c1
  have z2 := HP0.out.c2
  have z3 := HP0.out.c3
  have z4 := HP0.out.c4
  have z5 := HP0.out.c5
  have z6 := HP0.out.c6
  have hf := HP0.out.f
  have hlz : w.heap.size + 1 < W1.heap.size := HP0.out.lt
  by_cases h1 : 1 ≤ n
  · have i1 : (0 : Int) ≤ (n : Int) - 1 := by omega
    have i2 : ¬ (n : Int) - 1 < 0 := by omega
    go_wp2_with fail
    go_loopw [6] (fun iv V => iv = .int .i64 ((n : Int) - 1) ∧ V = W1) (fun _ _ => 0)
    case atStart => exact ⟨rfl, rfl⟩
    case round =>
      obtain ⟨rfl, rfl⟩ := hrel
      go_wp2_with fail
      refine (HSv.out _ HB1.out).mono ?_
      rintro e w1 ⟨rfl, hb1⟩
      have HBe := Lib.hid (bstep HB1.out hb1)
      have HP := Lib.hid (HP0.out.below hb1)
      clear k0 k1 k2 k3 hb1 z0 z1 z2 z3 z4 z5 z6 hf
      have z0 := HP.out.c0
      have z1 := HP.out.c1
      have z2 := HP.out.c2
      have z3 := HP.out.c3
      have z4 := HP.out.c4
      have z5 := HP.out.c5
      have z6 := HP.out.c6
      have hf := HP.out.f
      have hlz : w.heap.size + 1 < w1.heap.size := HP.out.lt
      go_wp2_with fail
      change bodyPost _ _ _ _ _ (pts w1 (w.heap.size + 1) (plL fnd0))
      have hby := HP.out.all fnd0
      have HBz := Lib.hid (pts_below (B := w.heap.size) (b := w.heap.size + 1) (by omega) (plL fnd0) HBe.out)
      generalize pts w1 (w.heap.size + 1) (plL fnd0) = V at *
      refine bodyPost_ret (v := .tuple #[plV fnd0, .bool false]) (by simp [results, Tryz.results16, go_sem, hby.c0, hby.c1, hby.c2, hby.c3, hby.c4, hby.c5, hby.c6]) rfl ⟨rfl, HBz.out⟩
  · have i1 : ¬ (0 : Int) ≤ (n : Int) - 1 := by omega
    have i2 : (n : Int) - 1 < 0 := by omega
    go_wp2_with fail
    go_loopw [6] (fun iv V => iv = .int .i64 ((n : Int) - 1) ∧ V = W1) (fun _ _ => 0)
    case atStart => exact ⟨rfl, rfl⟩
    case round =>
      obtain ⟨rfl, rfl⟩ := hrel
      go_wp2_with fail
      change bodyPost _ _ _ _ _ (pts wr (w.heap.size + 1) (plL fnd0))
      have hby := HP0.out.all fnd0
      have HBz := Lib.hid (pts_below (B := w.heap.size) (b := w.heap.size + 1) (by omega) (plL fnd0) HB1.out)
      generalize pts wr (w.heap.size + 1) (plL fnd0) = V at *
      refine bodyPost_ret (v := .tuple #[plV fnd0, .bool false]) (by simp [results, Tryz.results16, go_sem, hby.c0, hby.c1, hby.c2, hby.c3, hby.c4, hby.c5, hby.c6]) rfl ⟨rfl, HBz.out⟩
set_option maxRecDepth 100000 in
set_option maxHeartbeats 8000000 in
theorem srfind_yes (i l : Int) (r : Bool) (a : Option Addr) (n c : Nat) (L : List GP) (w : World) (h : RdG w (.slice a n c) L) (hs : ∀ p ∈ L, ∀ j, j < 8 → (p.1.m.st j).length ≤ 10000) (hv : vldSl ⟨i, l, r, gns L⟩ = true) (key : Int) :
    Calls Tryz.prog 16 #[sloV i l r a n c, .int .u64 key] w fun e w' => e = .returned (.tuple #[plV ((allSl ⟨i, l, r, gns L⟩ key).headD fnd0), .bool (!(allSl ⟨i, l, r, gns L⟩ key).isEmpty)]) ∧ Below w.heap.size w w' := by
  have HSv := Lib.hid (fun W (hb : Below w.heap.size w W) => rsvalid_any i l r a n c L W (h.below hb) hs)
  rw [hv] at HSv
  have hLn : L.length = n := by
    obtain ⟨_, _, e, _⟩ := h.shape
    injection e with _ e _; exact e.symm
  rw [allSl_of hLn.symm hv]
  have hV := (vldSl_iff _).1 hv
  have hn : 1 ≤ n ∧ n ≤ 8 := by have := hV.len; simp only [gns_len, hLn] at this; exact this
  have HR := Lib.hid h
  have HMm := Lib.hid (show ∀ k, k < n → pat L k ∈ L from fun k hk => pat_mem (by omega))
  have HSs := Lib.hid hs
  have HON := Lib.hid (show ∀ k, allF (gns L) key (k + 1) = (match getM (pat L k).1.m key with | some x => [⟨(pat L k).1.num, (pat L k).1.mode, (pat L k).1.rev, x, k⟩] | none => []) ++ allF (gns L) key k from fun k => by rw [← gat_gns]; rfl)
  have HBx := Lib.hid (BoxV.new w i l r a n c 24)
  have HB0 := Lib.hid (below_slo w i l r a n c 24)
  clear h hs hv hV hLn
  obtain ⟨F, HF⟩ : ∃ F, Hid (allF (gns L) key n = F) := ⟨_, Lib.hid rfl⟩
  rw [HF.out]
  go_enter Tryz.func16, Tryz.ntmps16
  go_upto_region 1 with fail
  obtain ⟨W, hW⟩ : ∃ W, w.alloc (.cells (sloC i l r a n c) 24) = W := ⟨_, rfl⟩
  change Code.wp _ _ _ _ ((w.alloc (.cells (sloC i l r a n c) 24)).alloc _)
  have hsz : W.heap.size = w.heap.size + 1 := by rw [← hW]; simp
  rw [hW] at HBx HB0 ⊢
  clear hW
  have hlw := HBx.out.lt
  have HP0 := Lib.hid (show BoxP (W.alloc (.cells #[.int .i64 0, .int .i64 0, .int .i64 0, .int .u64 0, .int .u32 0, .int .i64 0, .int .i64 0] 43)) (w.heap.size + 1) fnd0 by rw [← hsz]; exact ⟨by simp [fnd0, it0], by simp [fnd0, it0], by simp [fnd0, it0], by simp [fnd0, it0], by simp [fnd0, it0], by simp [fnd0, it0], by simp [fnd0, it0], fun i => by simp⟩)
  have HB1 := Lib.hid (HB0.out.alloc HB0.out.size (.cells #[.int .i64 0, .int .i64 0, .int .i64 0, .int .u64 0, .int .u32 0, .int .i64 0, .int .i64 0] 43))
  have HX1 := Lib.hid (HBx.out.below ((Below.refl _ W).alloc (Nat.le_refl _) (.cells #[.int .i64 0, .int .i64 0, .int .i64 0, .int .u64 0, .int .u32 0, .int .i64 0, .int .i64 0] 43)))
  clear HBx HB0
  generalize W.alloc (.cells #[.int .i64 0, .int .i64 0, .int .i64 0, .int .u64 0, .int .u32 0, .int .i64 0, .int .i64 0] 43) = W1 at *
  clear hsz hlw
  have k0 := HX1.out.c0
  have k1 := HX1.out.c1
  have k2 := HX1.out.c2
  have k3 := HX1.out.c3
  go_wp2_with fail
  go_loopw [6] (fun iv V => ∃ k : Nat, iv = .int .i64 ((k : Int) - 1) ∧ k ≤ n ∧ Hid (allF (gns L) key k = F) ∧ Hid (Below W1.heap.size W1 V)) (fun iv _ => (intOf iv + 1).toNat)
  case atStart => exact ⟨n, rfl, Nat.le_refl _, HF, Lib.hid (Below.refl _ _)⟩
  case round =>
    obtain ⟨k, rfl, hk, HFk, HB⟩ := hrel
    have HBw := Lib.hid (bstep HB1.out HB.out)
    have hx := HX1.out.below HB.out
    clear k0 k1 k2 k3
    have k0 := hx.c0
    have k1 := hx.c1
    have k2 := hx.c2
    have k3 := hx.c3
    clear hx
    by_cases hlk : 0 < k
    · obtain ⟨m, rfl⟩ : ∃ m, k = m + 1 := ⟨k - 1, by omega⟩
      have em : ((m + 1 : Nat) : Int) - 1 = (m : Int) := by omega
      rw [em]
      clear em
      as_aux_lemma =>
      have i1 : (0 : Int) ≤ (m : Int) := by omega
      have i2 : ¬ (m : Int) < 0 := by omega
      have i3 : (m : Int) < (n : Int) := by omega
      have i4 : m < n := by omega
      go_wp2_with fail
      refine (HSv.out _ HBw.out).mono ?_
      rintro e w1 ⟨rfl, hb1⟩
      have HBb := Lib.hid (HB.out.trans (hb1.mono HB.out.size))
      clear k0 k1 k2 k3 hb1 HB HBw
      have HBv := Lib.hid (bstep HB1.out HBb.out)
      have HP := Lib.hid (HP0.out.below HBb.out)
      have k3 := (HX1.out.below HBb.out).c3
      have hR := HR.out.below HBv.out
      obtain ⟨b, off, rfl, hg⟩ := hR.at (show m < n by omega)
      have HG1 := Lib.hid hg
      have HMp := Lib.hid (hR.m _ (HMm.out m (by omega)))
      have HSk := Lib.hid (HSs.out _ (HMm.out m (by omega)))
      have hon := HON.out m
      rw [HFk.out] at hon
      clear hR hg HFk
      generalize pat L m = p at *
      obtain ⟨⟨num, rev, md, sz, ⟨f, LV, GA⟩⟩, s⟩ := p
      dsimp only at *
      have HGt := Lib.hid (rgetM_any s ⟨f, LV, GA⟩ key w1 HMp.out HSk.out)
      clear HMp HSk
      have g0 := HG1.out.n0
      have g1 := HG1.out.n1
      have g2 := HG1.out.n2
      have g3 := HG1.out.n3
      have g4 := HG1.out.c0
      have g5 := HG1.out.c1
      have g6 := HG1.out.c2
      have g7 := HG1.out.c3
      have g8 := HG1.out.c4
      have g9 := HG1.out.c5
      have g10 := HG1.out.c6
      have g11 := HG1.out.c7
      have g12 := HG1.out.cl
      have g13 := HG1.out.cg
      dsimp only at g0 g1 g2 g3 g4 g5 g6 g7 g8 g9 g10 g11 g12 g13
      cases hgm : getM ⟨f, LV, GA⟩ key with
      | none =>
        rw [hgm] at HGt hon
        have HE1 := Lib.hid (show allF (gns L) key m = F from hon.symm)
        clear hgm hon
        have HGu := Lib.hid (show Calls Tryz.prog 60 #[mapV s LV GA, .int .u64 key] w1 fun e w' => e = .returned (.tuple #[.agg #[.int .u64 0, .int .u32 0, .int .i64 0, .int .i64 0], .bool false]) ∧ Below w1.heap.size w1 w' from HGt.out)
        clear HGt
        go_wp2_with fail
        refine HGu.out.mono ?_
        rintro e w2 ⟨rfl, hb2⟩
        have hA := (Below.refl w2.heap.size w2).alloc (Nat.le_refl _) (.cells #[.int .u64 0, .int .u32 0, .int .i64 0, .int .i64 0] 34)
        have hb3 := hb2.trans (hA.mono hb2.size)
        have HB2 := Lib.hid (HBb.out.trans (hb3.mono HBb.out.size))
        clear hA hb3 hb2 g0 g1 g2 g3 g4 g5 g6 g7 g8 g9 g10 g11 g12 g13 k3
        go_wp2_with fail
        exact ⟨⟨m, by go_num, by omega, HE1, HB2⟩, by simp [intOf]⟩
      | some x =>
        rw [hgm] at HGt hon
        obtain ⟨xk, xc, xo, xz⟩ := x
        have HE1 := Lib.hid (show F = ⟨num, md, rev, ⟨xk, xc, xo, xz⟩, m⟩ :: allF (gns L) key m from hon)
        clear hgm hon
        have HGu := Lib.hid (show Calls Tryz.prog 60 #[mapV s LV GA, .int .u64 key] w1 fun e w' => e = .returned (.tuple #[.agg #[.int .u64 xk, .int .u32 xc, .int .i64 xo, .int .i64 xz], .bool true]) ∧ Below w1.heap.size w1 w' from HGt.out)
        clear HGt
        go_wp2_with fail
        refine HGu.out.mono ?_
        rintro e w2 ⟨rfl, hb2⟩
        have hA := (Below.refl w2.heap.size w2).alloc (Nat.le_refl _) (.cells #[.int .u64 xk, .int .u32 xc, .int .i64 xo, .int .i64 xz] 34)
        have hb3 := hb2.trans (hA.mono hb2.size)
        have HB2 := Lib.hid (HBv.out.trans (hb3.mono HBv.out.size))
        have HP2 := Lib.hid (HP.out.below hb3)
        have g0' := Below.keeps hb3 _ _ g0
        have g1' := Below.keeps hb3 _ _ g1
        have g2' := Below.keeps hb3 _ _ g2
        have k3' := Below.keeps hb3 _ _ k3
        have x0 : (w2.alloc (.cells #[.int .u64 xk, .int .u32 xc, .int .i64 xo, .int .i64 xz] 34)).cell? ⟨w2.heap.size, 0, none⟩ = some (.int .u64 xk) := by simp
        have x1 : (w2.alloc (.cells #[.int .u64 xk, .int .u32 xc, .int .i64 xo, .int .i64 xz] 34)).cell? ⟨w2.heap.size, 1, none⟩ = some (.int .u32 xc) := by simp
        have x2 : (w2.alloc (.cells #[.int .u64 xk, .int .u32 xc, .int .i64 xo, .int .i64 xz] 34)).cell? ⟨w2.heap.size, 2, none⟩ = some (.int .i64 xo) := by simp
        have x3 : (w2.alloc (.cells #[.int .u64 xk, .int .u32 xc, .int .i64 xo, .int .i64 xz] 34)).cell? ⟨w2.heap.size, 3, none⟩ = some (.int .i64 xz) := by simp
        clear hA hb3 hb2 g0 g1 g2 g3 g4 g5 g6 g7 g8 g9 g10 g11 g12 g13 k3
        go_upto_region 6 with fail
        generalize w2.alloc (.cells #[.int .u64 xk, .int .u32 xc, .int .i64 xo, .int .i64 xz] 34) = w3 at *
        have z0 := HP2.out.c0
        have z1 := HP2.out.c1
        have z2 := HP2.out.c2
        have z3 := HP2.out.c3
        have z4 := HP2.out.c4
        have z5 := HP2.out.c5
        have z6 := HP2.out.c6
        have hf := HP2.out.f
        have hlz : w.heap.size + 1 < w3.heap.size := HP2.out.lt
        have HPd := Lib.hid (HP2.out.below (below_drew (Below.refl _ _)))
        have HBd := Lib.hid (below_drew HB2.out)
        have hdr := below_drew (Below.refl w3.heap.size w3)
        replace g0' := Below.keeps hdr _ _ g0'
        replace g1' := Below.keeps hdr _ _ g1'
        replace g2' := Below.keeps hdr _ _ g2'
        replace k3' := Below.keeps hdr _ _ k3'
        replace x0 := Below.keeps hdr _ _ x0
        replace x1 := Below.keeps hdr _ _ x1
        replace x2 := Below.keeps hdr _ _ x2
        replace x3 := Below.keeps hdr _ _ x3
        clear hdr z0 z1 z2 z3 z4 z5 z6 hf
        have z0 := HPd.out.c0
        have z1 := HPd.out.c1
        have z2 := HPd.out.c2
        have z3 := HPd.out.c3
        have z4 := HPd.out.c4
        have z5 := HPd.out.c5
        have z6 := HPd.out.c6
        have hf := HPd.out.f
        refine wp_region_still_tail 19 (by kernel_rfl) (by kernel_rfl) ?_
        simp only [List.take_succ_cons, List.take_zero, List.drop_succ_cons, List.drop_zero]
        change wpStill Tryz.prog _ (World.drew _) _ _ _
        iterate 19 still_step
        refine wpStill_nil ?_
        change wpList _ _ _ _ _ (World.drew _)
        clear HP2 HB2
        clear hlz
        have hlz : w.heap.size + 1 < (World.drew w3).heap.size := HPd.out.lt
        generalize World.drew w3 = w9 at *
        clear g0' g1' g2' k3' x0 x1 x2 x3 HG1 HGu
        refine wpList_build2 rfl 43 #[(0, .tmp 38), (1, .tmp 44), (2, .tmp 50), (3, .tmp 51)] rfl [(0, .int .i64 num), (1, .int .i64 md), (2, .int .i64 rev), (3, .agg #[.int .u64 xk, .int .u32 xc, .int .i64 xo, .int .i64 xz])] #[.int .i64 num, .int .i64 md, .int .i64 rev, .int .u64 xk, .int .u32 xc, .int .i64 xo, .int .i64 xz] (by first | (simp [go_sem]; done) | (simp [Act.eval]; done)) (built_pl _ _ _ _ _ _ _) ?_
        have HTh := Lib.hid HPd.out.there
        clear z0 z1 z2 z3 z4 z5 z6 hf
        refine wpList_store_mid rfl 43 (.tmp 4) (.tmp 52) rfl (w.heap.size + 1) 0 (plC (⟨num, md, rev, ⟨xk, xc, xo, xz⟩, m⟩ : Fnd)) rfl rfl HTh.out infoPl (plC_all _) ?_
        rw [store_pl]
        have hlz2 := hlz
        have hby := HPd.out.all (⟨num, md, rev, ⟨xk, xc, xo, xz⟩, m⟩ : Fnd)
        have HBz := Lib.hid (pts_below (B := w.heap.size) (b := w.heap.size + 1) (by omega) (plL (⟨num, md, rev, ⟨xk, xc, xo, xz⟩, m⟩ : Fnd)) HBd.out)
        generalize pts w9 (w.heap.size + 1) (plL (⟨num, md, rev, ⟨xk, xc, xo, xz⟩, m⟩ : Fnd)) = wq at *
        clear HTh HPd HBd HP HP0 HB1 HX1 HBb HBv HR HSv hlz hlz2
        have c0 : wq.cell? ⟨w.heap.size + 1, 0, none⟩ = some (.int .i64 num) := hby.c0
        have c1 : wq.cell? ⟨w.heap.size + 1, 1, none⟩ = some (.int .i64 md) := hby.c1
        have c2 : wq.cell? ⟨w.heap.size + 1, 2, none⟩ = some (.int .i64 rev) := hby.c2
        have c3 : wq.cell? ⟨w.heap.size + 1, 3, none⟩ = some (.int .u64 xk) := hby.c3
        have c4 : wq.cell? ⟨w.heap.size + 1, 4, none⟩ = some (.int .u32 xc) := hby.c4
        have c5 : wq.cell? ⟨w.heap.size + 1, 5, none⟩ = some (.int .i64 xo) := hby.c5
        have c6 : wq.cell? ⟨w.heap.size + 1, 6, none⟩ = some (.int .i64 xz) := hby.c6
        clear hby
        go_wp2_with fail

        have hend := Lib.hid (show Ending.returned (.tuple #[.agg #[.int .i64 num, .int .i64 md, .int .i64 rev, .int .u64 xk, .int .u32 xc, .int .i64 xo, .int .i64 xz], .bool true]) = .returned (.tuple #[plV (F.headD fnd0), .bool (!F.isEmpty)]) by
          rw [HE1.out]; rfl)
        clear HE1
        have hBz := HBz.out
        exact bodyPost_ret (v := .tuple #[.agg #[.int .i64 num, .int .i64 md, .int .i64 rev, .int .u64 xk, .int .u32 xc, .int .i64 xo, .int .i64 xz], .bool true]) (res_find _ _ _ _ _ _ _ _ _ _ _ rfl rfl c0 c1 c2 c3 c4 c5 c6) rfl ⟨hend.out, hBz⟩
    · obtain rfl : k = 0 := by omega
      have i1 : ¬ (0 : Int) ≤ ((0 : Nat) : Int) - 1 := by omega
      have i2 : ((0 : Nat) : Int) - 1 < 0 := by omega
      have HE1 := Lib.hid (show F = [] from HFk.out.symm)
      have HP := Lib.hid (HP0.out.below HB.out)
      clear HFk
      have z0 := HP.out.c0
      have z1 := HP.out.c1
      have z2 := HP.out.c2
      have z3 := HP.out.c3
      have z4 := HP.out.c4
      have z5 := HP.out.c5
      have z6 := HP.out.c6
      have hf := HP.out.f
      have hlz : w.heap.size + 1 < wr.heap.size := HP.out.lt
      go_wp2_with fail
      rw [HE1.out]
      change bodyPost _ _ _ _ _ (pts wr (w.heap.size + 1) (plL fnd0))
      have hby := HP.out.all fnd0
      have HBz := Lib.hid (pts_below (B := w.heap.size) (b := w.heap.size + 1) (by omega) (plL fnd0) HBw.out)
      generalize pts wr (w.heap.size + 1) (plL fnd0) = V at *
      refine bodyPost_ret (v := .tuple #[plV fnd0, .bool false]) (by simp [results, Tryz.results16, go_sem, hby.c0, hby.c1, hby.c2, hby.c3, hby.c4, hby.c5, hby.c6]) rfl ⟨rfl, HBz.out⟩
theorem srfind_any (i l : Int) (r : Bool) (a : Option Addr) (n c : Nat) (L : List GP) (w : World) (h : RdG w (.slice a n c) L) (hs : ∀ p ∈ L, ∀ j, j < 8 → (p.1.m.st j).length ≤ 10000) (key : Int) :
    Calls Tryz.prog 16 #[sloV i l r a n c, .int .u64 key] w fun e w' => e = .returned (.tuple #[plV ((allSl ⟨i, l, r, gns L⟩ key).headD fnd0), .bool (!(allSl ⟨i, l, r, gns L⟩ key).isEmpty)]) ∧ Below w.heap.size w w' := by
  cases hv : vldSl ⟨i, l, r, gns L⟩
  · exact srfind_no i l r a n c L w h hs hv key
  · exact srfind_yes i l r a n c L w h hs hv key
end Go.Proofs.YtenkeodfijladaaGreat

namespace Go.Proofs.YtenkeodfijladaaGreat
open Go.RowKit

def ownIS (B : Nat) (l : List Int) : Sta := ⟨fun v w => OwnI w B v l, fun _ _ _ hb h => own_keep h hb⟩
def ownTS (B : Nat) (l : List It) : Sta := ⟨fun v w => OwnT w B v l, fun _ _ _ hb h => own_keep h hb⟩
def slNn (i l : Int) (r : Bool) (n : Nat) (L : List GP) : Sta := ⟨fun v w => ∃ a c, v = sloV i l r a n c ∧ RdG w (.slice a n c) L, fun _ _ _ hb ⟨a, c, h1, h2⟩ => ⟨a, c, h1, h2.below hb⟩⟩
theorem OwnI.at2 {w : World} {B : Nat} {a : Option Addr} {n cap : Nat} {l : List Int} (h : OwnI w B (.slice a n cap) l) {j : Nat} (hj : j < n) : ∃ b off, a = some ⟨b, off, none⟩ ∧ w.cell? ⟨b, off + j, none⟩ = some (.int .i64 (uat l j)) := by
  have hr : RdL intC w _ l := own_rdl h
  obtain ⟨a', cap', e, h2, h3, _, h5⟩ := RdL.shape hr 0
  injection e with e1 e2 e3
  subst e1 e2 e3
  obtain ⟨b, off, e, hc⟩ := h5 (by omega)
  exact ⟨b, off, e, hc j hj⟩

theorem plV_it (x : Fnd) : plV x = .agg #[.int .i64 x.gen, .int .i64 x.mode, .int .i64 x.rev, .int .u64 x.it.key, .int .u32 x.it.ck, .int .i64 x.it.off, .int .i64 x.it.size] := rfl
set_option maxRecDepth 100000 in
set_option maxHeartbeats 32000000 in
theorem sfinds_law (i l : Int) (r : Bool) (a : Option Addr) (n c : Nat) (L : List GP) (v : Value) (ac : List AcP) (key : Int) (w : World) (h : RdG w (.slice a n c) L) (hA : RdA w v ac) :
    Calls Tryz.prog 3 #[sloV i l r a n c, v, .int .u64 key] w fun e w' => e = .returned (.bool true) ∧ Below w.heap.size w w' := by
  obtain ⟨va, vc, rfl, hv1, hv2⟩ := hA.shape
  have HLi := Lib.hid (fun W (hb : Below w.heap.size w W) => slight_any i l r a n c L W (h.below hb))
  have HLy := Lib.hid (fun hl => lightSl_iff (L := L) hl)
  have HMa := Lib.hid (fun W (hb : Below w.heap.size w W) => smade_any _ ac W (hA.below hb))
  have HAw := Lib.hid (fun W => sawake_any W)
  have HR0 := Lib.hid h
  have HLn := Lib.hid h.len
  generalize ac.length = an at *
  clear h hA hv1 hv2
  have HBx := Lib.hid (BoxV.new w i l r a n c 24)
  have HB := Lib.hid (below_slo w i l r a n c 24)
  go_enter Tryz.func3, Tryz.ntmps3
  go_upto_region 1 with fail
  change Code.wp _ _ _ _ (w.alloc (.cells (sloC i l r a n c) 24))
  generalize w.alloc (.cells (sloC i l r a n c) 24) = W0 at *
  have k0 := HBx.out.c0
  have k1 := HBx.out.c1
  have k2 := HBx.out.c2
  have k3 := HBx.out.c3
  go_wp2_with fail
  refine (HLi.out W0 HB.out).mono ?_
  rintro e w1 ⟨rfl, hb⟩
  replace HBx := Lib.hid (HBx.out.below hb)
  replace HB := Lib.hid (bstep HB.out hb)
  clear hb k0 k1 k2 k3 HLi
  generalize hli : lightSl L = lb at *
  cases lb
  · clear hli
    go_wp2_with fail
    refine (HAw.out _).mono ?_
    rintro e w2 ⟨rfl, hb⟩
    have HBz := Lib.hid (bstep HB.out hb)
    go_wp2_with fail
    go_ret
    exact ⟨rfl, HBz.out⟩
  · have HLy2 := Lib.hid (HLy.out rfl)
    clear hli HLy
    go_upto_region 3 with fail
    refine wp_region_relz [eqS (sloV i l r a n c), eqS (.slice va an vc), slV (madeS ac) 8, twoS, eqS (.int .i64 2), eqS (.int .i64 0)] 123 (by kernel_rfl) (by kernel_rfl) (by kernel_rfl) (by rfl) (by kernel_rfl) (fun f => by simp [frm, dstOf, Act.put]; exact rfl) ?_ ?_
    · refine ⟨?_, ?_, ?_, ?_, ?_, ?_, trivial⟩
      · intro f w1 hb hd
        clear hd
        dsimp only
        have q0 := (HBx.out.below hb).c0
        have q1 := (HBx.out.below hb).c1
        have q2 := (HBx.out.below hb).c2
        have q3 := (HBx.out.below hb).c3
        go_wp2_with fail
        exact ⟨rfl, Below.refl _ _, fun t ht => by injection ht with ht; subst ht; exact ⟨rfl, fun h => by simp at h⟩⟩
      · intro f w1 hb hd
        clear hd
        dsimp only
        go_wp2_with fail
        exact ⟨rfl, Below.refl _ _, fun t ht => by injection ht with ht; subst ht; exact ⟨rfl, fun h => by simp at h⟩⟩
      · intro f w1 hb hd
        have d1 : f 1 = (.slice va an vc) := hd 1 (by kernel_rfl)
        clear hd
        dsimp only
        rw [d1]
        go_wp2_with fail
        refine (HMa.out w1 (bstep HB.out hb)).mono ?_
        rintro e w9 ⟨⟨ma, mn, mc, mL, rfl, hmr, hmg⟩, hb9⟩
        have hm8 : mn ≤ 8 := by rw [← hmr.len]; exact (made_len ac hmg).2.2
        go_wp2_with fail
        exact ⟨rfl, hb9, fun t ht => by injection ht with ht; subst ht; exact ⟨⟨ma, mn, mc, mL, rfl, hmr, hmg, hm8⟩, fun h => by simp at h⟩⟩
      · intro f w1 hb hd
        have d0 : f 0 = (sloV i l r a n c) := hd 0 (by kernel_rfl)
        obtain ⟨a2, n2, c2, L2, d2, r2, g2, m2⟩ := show ∃ a n c L, f 2 = sloV (madeS ac).id (madeS ac).lim (madeS ac).ro a n c ∧ RdG w1 (.slice a n c) L ∧ gns L = (madeS ac).gens ∧ n ≤ 8 from hd 2 (by kernel_rfl)
        clear hd
        dsimp only
        rw [d0]
        rw [d2]
        have hbn := (Below.refl w1.heap.size w1).alloc (Nat.le_refl _) (.cells #[.int .i64 i, .int .i64 l, .bool r, .slice a n c, .int .i64 (madeS ac).id, .int .i64 (madeS ac).lim, .bool (madeS ac).ro, .slice a2 n2 c2] 24)
        have hE := BlkE.new w1 #[.int .i64 i, .int .i64 l, .bool r, .slice a n c, .int .i64 (madeS ac).id, .int .i64 (madeS ac).lim, .bool (madeS ac).ro, .slice a2 n2 c2] 24
        have h1 : SlIn (w1.alloc (.cells #[.int .i64 i, .int .i64 l, .bool r, .slice a n c, .int .i64 (madeS ac).id, .int .i64 (madeS ac).lim, .bool (madeS ac).ro, .slice a2 n2 c2] 24)) w1.heap.size 0 := ⟨i, l, r, a, n, c, L, ⟨hE.cell rfl, hE.cell rfl, hE.cell rfl, hE.cell rfl⟩, (HR0.out.below (bstep HB.out hb)).below hbn, fun p hp j hj => Nat.le_trans (HLy2.out.2 p hp j hj) (by decide), by rw [← HLn.out]; exact HLy2.out.1⟩
        have h2 : SlIn (w1.alloc (.cells #[.int .i64 i, .int .i64 l, .bool r, .slice a n c, .int .i64 (madeS ac).id, .int .i64 (madeS ac).lim, .bool (madeS ac).ro, .slice a2 n2 c2] 24)) w1.heap.size 1 := ⟨(madeS ac).id, (madeS ac).lim, (madeS ac).ro, a2, n2, c2, L2, ⟨hE.cell rfl, hE.cell rfl, hE.cell rfl, hE.cell rfl⟩, r2.below hbn, (made_len ac g2).1, by omega⟩
        have HBn := Lib.hid hbn
        have HT := Lib.hid (And.intro h1 h2)
        clear hbn hE h1 h2
        go_wp2_with fail
        refine ⟨rfl, HBn.out, ?_⟩
        intro t ht
        injection ht with ht
        subst ht
        exact ⟨⟨_, rfl, HT.out.1, HT.out.2⟩, fun h => by simp at h⟩
      · intro f w1 hb hd
        obtain ⟨j3, d3, t3, u3⟩ := show ∃ j, f 3 = .slice (some ⟨j, 0, none⟩) 2 2 ∧ SlIn w1 j 0 ∧ SlIn w1 j 1 from hd 3 (by kernel_rfl)
        clear hd
        dsimp only
        rw [d3]
        go_wp2_with fail
        exact ⟨rfl, Below.refl _ _, fun t ht => by injection ht with ht; subst ht; exact ⟨rfl, fun h => by simp at h⟩⟩
      · intro f w1 hb hd
        clear hd
        dsimp only
        go_wp2_with fail
        exact ⟨rfl, Below.refl _ _, fun t ht => by injection ht with ht; subst ht; exact ⟨rfl, fun h => by simp at h⟩⟩
    · intro f w3 hb hA
      obtain ⟨bR, d3, HT0, HT1⟩ := show ∃ j, f 3 = .slice (some ⟨j, 0, none⟩) 2 2 ∧ SlIn w3 j 0 ∧ SlIn w3 j 1 from hA 3 (show 3 < 6 by decide)
      have d4 : f 4 = .int .i64 2 := hA 4 (show 4 < 6 by decide)
      have d5 : f 5 = .int .i64 0 := hA 5 (show 5 < 6 by decide)
      clear hA
      try dsimp only
      rw [d3, d4, d5]
      clear d3 d4 d5
      generalize f 0 = z0
      generalize f 1 = z1
      generalize f 2 = z2
      clear f
      have HIn := Lib.hid (show ∀ k, k < 2 → SlIn w3 bR k from fun k hk => by
        rcases (show k = 0 ∨ k = 1 by omega) with rfl | rfl
        · exact HT0
        · exact HT1)
      replace HB := Lib.hid (bstep HB.out hb)
      clear hb HT0 HT1 HBx HR0 HLy2 HLn
      clear L
      go_wp2_with fail
      go_loopw [27] (fun jv W => ∃ k : Nat, jv = .int .i64 (k : Int) ∧ k ≤ 2 ∧ Hid (Below w3.heap.size w3 W)) (fun jv _ => 2 - (intOf jv).toNat)
      case atStart => exact ⟨0, rfl, Nat.zero_le _, Lib.hid (Below.refl _ _)⟩
      case round =>
        obtain ⟨k, rfl, hk, HBk⟩ := hrel
        by_cases hlt : k < 2
        · have j1 : (k : Int) < 2 := by omega
          obtain ⟨xi, xl, xr, xa, xn, xc, X, hSA, hXr, hXl, hxn⟩ := (HIn.out k hlt).below HBk.out
          have HXr := Lib.hid hXr
          have HXl := Lib.hid (le48 hXl)
          have HX48 := Lib.hid hXl
          obtain ⟨c0, c1, c2, c3⟩ := hSA
          clear hXr hXl
          go_upto_region 6 with fail
          change Code.wp _ _ _ _ (wr.alloc (.cells (sloC xi xl xr xa xn xc) 24))
          have hbq := below_slo wr xi xl xr xa xn xc 24
          have HS := Lib.hid (BlkE.new wr (sloC xi xl xr xa xn xc) 24)
          replace HXr := Lib.hid (HXr.out.below hbq)
          replace HBk := Lib.hid (bstep HBk.out hbq)
          clear hbq c0 c1 c2 c3
          generalize wr.alloc (.cells (sloC xi xl xr xa xn xc) 24) = v0 at *
          generalize wr.heap.size = bS at *
          go_upto_region 7 with fail
          have hbq := (Below.refl v0.heap.size v0).alloc (Nat.le_refl _) (.cells #[.int .u64 key, .int .u64 (bits BinOp.and IntKind.u64 key 7), .int .u64 (bits BinOp.and IntKind.u64 key 1)] 26)
          have HKs := Lib.hid (BlkE.new v0 #[.int .u64 key, .int .u64 (bits BinOp.and IntKind.u64 key 7), .int .u64 (bits BinOp.and IntKind.u64 key 1)] 26)
          change Code.wp _ _ _ _ (v0.alloc (.cells #[.int .u64 key, .int .u64 (bits BinOp.and IntKind.u64 key 7), .int .u64 (bits BinOp.and IntKind.u64 key 1)] 26))
          replace HXr := Lib.hid (HXr.out.below hbq)
          replace HS := Lib.hid (HS.out.below hbq)
          replace HBk := Lib.hid (bstep HBk.out hbq)
          clear hbq
          generalize v0.alloc (.cells #[.int .u64 key, .int .u64 (bits BinOp.and IntKind.u64 key 7), .int .u64 (bits BinOp.and IntKind.u64 key 1)] 26) = v1 at *
          generalize v0.heap.size = bK at *
          have HKj := Lib.hid (show ∀ j, j < 3 → ∃ kj : Int, v1.cell? ⟨bK, j, none⟩ = some (.int .u64 kj) from fun j hj => by
            rcases (show j = 0 ∨ j = 1 ∨ j = 2 by omega) with rfl | rfl | rfl
            · exact ⟨_, HKs.out.cell rfl⟩
            · exact ⟨_, HKs.out.cell rfl⟩
            · exact ⟨_, HKs.out.cell rfl⟩)
          clear HKs
          generalize bits BinOp.and IntKind.u64 key 7 = key7
          generalize bits BinOp.and IntKind.u64 key 1 = key1
          have hxn2 : xn ≤ 1000000 := by omega
          go_loopw [38] (fun jv V => ∃ j : Nat, jv = .int .i64 (j : Int) ∧ j ≤ 3 ∧ Hid (Below v1.heap.size v1 V)) (fun jv _ => 3 - (intOf jv).toNat)
          case atStart => exact ⟨0, rfl, Nat.zero_le _, Lib.hid (Below.refl _ _)⟩
          case round =>
            obtain ⟨j, rfl, hj, HBj⟩ := hrel
            by_cases hltj : j < 3
            · have j2 : (j : Int) < 3 := by omega
              obtain ⟨kj, hkc⟩ := HKj.out j hltj
              replace hkc := HBj.out.keeps' hkc
              have hs := HS.out.below HBj.out
              have HSj := Lib.hid hs
              have k0 := (BlkE.slo hs).c0
              have k1 := (BlkE.slo hs).c1
              have k2 := (BlkE.slo hs).c2
              have k3 := (BlkE.slo hs).c3
              clear hs
              have HXj := Lib.hid (HXr.out.below HBj.out)
              have HFd := Lib.hid (fun W ga gc (hr : RdG W (.slice ga xn gc) X) => sfind_any xi xl xr ga xn gc X W hr HXl.out kj)
              have HRf := Lib.hid (fun W ga gc (hr : RdG W (.slice ga xn gc) X) => srfind_any xi xl xr ga xn gc X W hr HXl.out kj)
              have HOd := Lib.hid (fun W ga gc (hr : RdG W (.slice ga xn gc) X) => solder_any xi xl xr ga xn gc X W hr HXl.out kj)
              have HOr := Lib.hid (fun W ga gc (hr : RdG W (.slice ga xn gc) X) => rolder_any xi xl xr ga xn gc X W hr HXl.out kj)
              generalize allSl ⟨xi, xl, xr, gns X⟩ kj = F at *
              generalize olderS ⟨xi, xl, xr, gns X⟩ kj = OL at *
              generalize (!F.isEmpty) = bY at *
              generalize F.headD fnd0 = Y at *
              obtain ⟨yg, ym, yr, ⟨yk, yc, yo, yz⟩, ya⟩ := Y
              try dsimp only [plV, plC] at HFd HRf
              clear F
              go_wp2_with fail
              refine (sgiven_any xi xl xr xa xn xc X wr HXj.out hxn2).mono ?_
              rintro e w4 ⟨⟨ga, gc, rfl, hgr⟩, hb⟩
              have HGr := Lib.hid hgr
              clear hgr
              replace HSj := Lib.hid (HSj.out.below hb)
              replace HXj := Lib.hid (HXj.out.below hb)
              replace HBj := Lib.hid (bstep HBj.out hb)
              clear hb k0 k1 k2 k3
              replace hkc := True.intro
              go_wp2_with fail
              refine (HFd.out w4 ga gc HGr.out).mono ?_
              rintro e w5 ⟨rfl, hb⟩
              replace HSj := Lib.hid (HSj.out.below hb)
              replace HXj := Lib.hid (HXj.out.below hb)
              replace HBj := Lib.hid (bstep HBj.out hb)
              clear hb HGr HFd
              go_upto_region 10 with fail
              change Code.wp _ _ _ _ (w5.alloc (.cells #[.int .i64 yg, .int .i64 ym, .int .i64 yr, .int .u64 yk, .int .u32 yc, .int .i64 yo, .int .i64 yz] 36))
              have hb := (Below.refl w5.heap.size w5).alloc (Nat.le_refl _) (.cells #[.int .i64 yg, .int .i64 ym, .int .i64 yr, .int .u64 yk, .int .u32 yc, .int .i64 yo, .int .i64 yz] 36)
              have HP := Lib.hid (BlkE.new w5 #[.int .i64 yg, .int .i64 ym, .int .i64 yr, .int .u64 yk, .int .u32 yc, .int .i64 yo, .int .i64 yz] 36)
              replace HSj := Lib.hid (HSj.out.below hb)
              replace HXj := Lib.hid (HXj.out.below hb)
              replace HBj := Lib.hid (bstep HBj.out hb)
              clear hb
              generalize w5.alloc (.cells #[.int .i64 yg, .int .i64 ym, .int .i64 yr, .int .u64 yk, .int .u32 yc, .int .i64 yo, .int .i64 yz] 36) = w6 at *
              generalize w5.heap.size = bP at *
              have k0 := (BlkE.slo HSj.out).c0
              have k1 := (BlkE.slo HSj.out).c1
              have k2 := (BlkE.slo HSj.out).c2
              have k3 := (BlkE.slo HSj.out).c3
              go_wp2_with fail
              refine (HRf.out w6 xa xc HXj.out).mono ?_
              rintro e w7 ⟨rfl, hb⟩
              clear k0 k1 k2 k3
              replace HSj := Lib.hid (HSj.out.below hb)
              replace HXj := Lib.hid (HXj.out.below hb)
              replace HBj := Lib.hid (bstep HBj.out hb)
              replace HP := Lib.hid (HP.out.below hb)
              clear hb HRf
              go_upto_region 11 with fail
              change Code.wp _ _ _ _ (w7.alloc (.cells #[.int .i64 yg, .int .i64 ym, .int .i64 yr, .int .u64 yk, .int .u32 yc, .int .i64 yo, .int .i64 yz] 43))
              have hb := (Below.refl w7.heap.size w7).alloc (Nat.le_refl _) (.cells #[.int .i64 yg, .int .i64 ym, .int .i64 yr, .int .u64 yk, .int .u32 yc, .int .i64 yo, .int .i64 yz] 43)
              have HQ := Lib.hid (BlkE.new w7 #[.int .i64 yg, .int .i64 ym, .int .i64 yr, .int .u64 yk, .int .u32 yc, .int .i64 yo, .int .i64 yz] 43)
              replace HSj := Lib.hid (HSj.out.below hb)
              replace HXj := Lib.hid (HXj.out.below hb)
              replace HBj := Lib.hid (bstep HBj.out hb)
              replace HP := Lib.hid (HP.out.below hb)
              clear hb
              generalize w7.alloc (.cells #[.int .i64 yg, .int .i64 ym, .int .i64 yr, .int .u64 yk, .int .u32 yc, .int .i64 yo, .int .i64 yz] 43) = w8 at *
              generalize w7.heap.size = bQ at *
              have p0 := HP.out.cell (i := 0) rfl
              have q0 := HQ.out.cell (i := 0) rfl
              have p1 := HP.out.cell (i := 1) rfl
              have q1 := HQ.out.cell (i := 1) rfl
              have p2 := HP.out.cell (i := 2) rfl
              have q2 := HQ.out.cell (i := 2) rfl
              have p3 := HP.out.cell (i := 3) rfl
              have q3 := HQ.out.cell (i := 3) rfl
              have p4 := HP.out.cell (i := 4) rfl
              have q4 := HQ.out.cell (i := 4) rfl
              have p5 := HP.out.cell (i := 5) rfl
              have q5 := HQ.out.cell (i := 5) rfl
              have p6 := HP.out.cell (i := 6) rfl
              have q6 := HQ.out.cell (i := 6) rfl
              clear HP HQ
              go_upto_region 13 with fail
              clear p0 p1 p2 p3 p4 p5 p6 q0 q1 q2 q3 q4 q5 q6
              refine wp_region_relz [eqS (sloV xi xl xr xa xn xc), slNn xi xl xr xn X, eqS (.int .u64 kj), ownIS w8.heap.size OL, eqS (sloV xi xl xr xa xn xc), eqS (.int .u64 kj), ownIS w8.heap.size OL, ownIS w8.heap.size OL, ownIS w8.heap.size OL] 123 (by kernel_rfl) (by kernel_rfl) (by kernel_rfl) (by rfl) (by kernel_rfl) (fun f => by simp [frm, dstOf, Act.put]; exact rfl) ?_ ?_
              · refine ⟨?_, ?_, ?_, ?_, ?_, ?_, ?_, ?_, ?_, trivial⟩
                · intro f w1 hb hd
                  clear hd
                  dsimp only
                  have hs := BlkE.slo (HSj.out.below hb)
                  have q0 := hs.c0
                  have q1 := hs.c1
                  have q2 := hs.c2
                  have q3 := hs.c3
                  clear hs
                  go_wp2_with fail
                  exact ⟨rfl, Below.refl _ _, fun t ht => by injection ht with ht; subst ht; exact ⟨rfl, fun h => by simp at h⟩⟩
                · intro f w1 hb hd
                  have d0 : f 0 = sloV xi xl xr xa xn xc := hd 0 (by kernel_rfl)
                  clear hd
                  dsimp only
                  rw [d0]
                  go_wp2_with fail
                  refine (sgiven_any xi xl xr xa xn xc X w1 (HXj.out.below hb) hxn2).mono ?_
                  rintro e w9 ⟨⟨g2, c2', rfl, hgr⟩, hb9⟩
                  go_wp2_with fail
                  exact ⟨rfl, hb9, fun t ht => by injection ht with ht; subst ht; exact ⟨⟨g2, c2', rfl, hgr⟩, fun h => by simp at h⟩⟩
                · intro f w1 hb hd
                  clear hd
                  dsimp only
                  go_wp2_with fail
                  exact ⟨rfl, Below.refl _ _, fun t ht => by injection ht with ht; subst ht; exact ⟨rfl, fun h => by simp at h⟩⟩
                · intro f w1 hb hd
                  obtain ⟨a1, c1, d1, r1⟩ := show ∃ a c, f 1 = sloV xi xl xr a xn c ∧ RdG w1 (.slice a xn c) X from hd 1 (by kernel_rfl)
                  have d2 : f 2 = .int .u64 kj := hd 2 (by kernel_rfl)
                  clear hd
                  dsimp only
                  rw [d1, d2]
                  go_wp2_with fail
                  refine (HOd.out w1 a1 c1 r1).mono ?_
                  rintro e w9 ⟨ov, rfl, ho, hb9⟩
                  go_wp2_with fail
                  exact ⟨rfl, hb9, fun t ht => by injection ht with ht; subst ht; exact ⟨World.ownsRow.mono ho hb.size, fun h => by simp at h⟩⟩
                · intro f w1 hb hd
                  clear hd
                  dsimp only
                  have hs := BlkE.slo (HSj.out.below hb)
                  have q0 := hs.c0
                  have q1 := hs.c1
                  have q2 := hs.c2
                  have q3 := hs.c3
                  clear hs
                  go_wp2_with fail
                  exact ⟨rfl, Below.refl _ _, fun t ht => by injection ht with ht; subst ht; exact ⟨rfl, fun h => by simp at h⟩⟩
                · intro f w1 hb hd
                  clear hd
                  dsimp only
                  go_wp2_with fail
                  exact ⟨rfl, Below.refl _ _, fun t ht => by injection ht with ht; subst ht; exact ⟨rfl, fun h => by simp at h⟩⟩
                · intro f w1 hb hd
                  have d4 : f 4 = sloV xi xl xr xa xn xc := hd 4 (by kernel_rfl)
                  have d5 : f 5 = .int .u64 kj := hd 5 (by kernel_rfl)
                  clear hd
                  dsimp only
                  rw [d4, d5]
                  go_wp2_with fail
                  refine (HOr.out w1 xa xc (HXj.out.below hb)).mono ?_
                  rintro e w9 ⟨ov, rfl, ho, hb9⟩
                  go_wp2_with fail
                  exact ⟨rfl, hb9, fun t ht => by injection ht with ht; subst ht; exact ⟨World.ownsRow.mono ho hb.size, fun h => by simp at h⟩⟩
                · intro f w1 hb hd
                  have d3 : OwnI w1 w8.heap.size (f 3) OL := hd 3 (by kernel_rfl)
                  clear hd
                  dsimp only
                  generalize f 3 = y3 at *
                  go_wp2_with fail
                  exact ⟨rfl, Below.refl _ _, fun t ht => by injection ht with ht; subst ht; exact ⟨d3, fun h => by simp at h⟩⟩
                · intro f w1 hb hd
                  have d6 : OwnI w1 w8.heap.size (f 6) OL := hd 6 (by kernel_rfl)
                  clear hd
                  dsimp only
                  generalize f 6 = y6 at *
                  go_wp2_with fail
                  exact ⟨rfl, Below.refl _ _, fun t ht => by injection ht with ht; subst ht; exact ⟨d6, fun h => by simp at h⟩⟩
              · intro f w9 hb hA
                have d7 : OwnI w9 w8.heap.size (f 7) OL := hA 7 (show 7 < 9 by decide)
                have d8 : OwnI w9 w8.heap.size (f 8) OL := hA 8 (show 8 < 9 by decide)
                clear hA
                obtain ⟨pa, pc, e7, _⟩ := own_form d7
                obtain ⟨qa, qc, e8, _⟩ := own_form d8
                rw [e7] at d7
                rw [e8] at d8
                try dsimp only
                rw [e7, e8]
                clear e7 e8
                have HO7 := Lib.hid d7
                have HO8 := Lib.hid d8
                clear d7 d8
                generalize f 0 = z0
                generalize f 1 = z1
                generalize f 2 = z2
                generalize f 3 = z3
                generalize f 4 = z4
                generalize f 5 = z5
                generalize f 6 = z6
                clear f
                replace HSj := Lib.hid (HSj.out.below hb)
                replace HXj := Lib.hid (HXj.out.below hb)
                replace HBj := Lib.hid (bstep HBj.out hb)
                clear hb HOd HOr
                have hol : OL.length ≤ 9223372036854775807 := by
                  obtain ⟨_, _, _, h1, h2, _⟩ := own_form HO7.out
                  unfold maxLen at h2
                  omega
                generalize hoN : OL.length = oN at *
                have HoN := Lib.hid hoN
                clear hoN
                generalize w8.heap.size = B8 at *
                go_wp2_with fail
                go_loopw [100] (fun tv V => ∃ t : Nat, tv = .int .i64 (t : Int) ∧ t ≤ oN ∧ Hid (Below w9.heap.size w9 V)) (fun tv _ => oN - (intOf tv).toNat)
                case atStart => exact ⟨0, rfl, Nat.zero_le _, Lib.hid (Below.refl _ _)⟩
                case round =>
                  obtain ⟨t, rfl, ht, HBt⟩ := hrel
                  by_cases htn : t < oN
                  · as_aux_lemma =>
                    have j3 : (t : Int) < (oN : Int) := by omega
                    have ht0 : (0 : Int) ≤ (t : Int) := by omega
                    obtain ⟨b7, o7, e7, c7⟩ := OwnI.at2 HO7.out htn
                    obtain ⟨b8, o8, e8, c8⟩ := OwnI.at2 HO8.out htn
                    subst e7 e8
                    replace c7 := HBt.out.keeps' c7
                    replace c8 := HBt.out.keeps' c8
                    generalize uat OL t = ut at *
                    go_upto_region 19 with fail
                    replace c7 := cell_by c7
                    replace c8 := cell_by c8
                    refine wp_region_below (by kernel_rfl) (by kernel_rfl) ?_
                    repeat (go_big_quiet_step (fail))
                    refine wpQuiet_nil ?_
                    intro _ hw'
                    obtain ⟨q, hw'⟩ := hw'
                    subst hw'
                    have HQ := Lib.hid (bup HBt.out HBt.out.size q.h)
                    generalize q.w' = W3 at *
                    clear c7 c8
                    go_wp2_with fail
                    exact ⟨⟨t + 1, by go_num, by omega, HQ⟩, by simp [intOf]; omega⟩
                  · have j3 : ¬ (t : Int) < (oN : Int) := by omega
                    replace HBj := Lib.hid (bstep HBj.out HBt.out)
                    go_wp2_with fail
                    exact ⟨⟨j + 1, by go_num, by omega, HBj⟩, by simp [intOf]; omega⟩
            · have j2 : ¬ (j : Int) < 3 := by omega
              replace HBk := Lib.hid (bstep HBk.out HBj.out)
              have HSj := Lib.hid (HS.out.below HBj.out)
              have HXj := Lib.hid (HXr.out.below HBj.out)
              have HId := Lib.hid (fun W ga gc (hr : RdG W (.slice ga xn gc) X) => sitems_any xi xl xr ga xn gc X W hr HX48.out)
              have HIr := Lib.hid (fun W ga gc (hr : RdG W (.slice ga xn gc) X) => sritems_any xi xl xr ga xn gc X W hr HX48.out)
              generalize itemsS ⟨xi, xl, xr, gns X⟩ = IT at *
              go_upto_region 23 with fail
              refine wp_region_relz [eqS (sloV xi xl xr xa xn xc), slNn xi xl xr xn X, ownTS wr.heap.size IT, eqS (sloV xi xl xr xa xn xc), ownTS wr.heap.size IT, eqS (.bool true), eqS (.bool false)] 123 (by kernel_rfl) (by kernel_rfl) (by kernel_rfl) (by rfl) (by kernel_rfl) (fun f => by simp [frm, dstOf, Act.put]; exact rfl) ?_ ?_
              · refine ⟨?_, ?_, ?_, ?_, ?_, ?_, ?_, trivial⟩
                · intro f w1 hb hd
                  clear hd
                  dsimp only
                  have hs := BlkE.slo (HSj.out.below hb)
                  have q0 := hs.c0
                  have q1 := hs.c1
                  have q2 := hs.c2
                  have q3 := hs.c3
                  clear hs
                  go_wp2_with fail
                  exact ⟨rfl, Below.refl _ _, fun t ht => by injection ht with ht; subst ht; exact ⟨rfl, fun h => by simp at h⟩⟩
                · intro f w1 hb hd
                  have d0 : f 0 = sloV xi xl xr xa xn xc := hd 0 (by kernel_rfl)
                  clear hd
                  dsimp only
                  rw [d0]
                  go_wp2_with fail
                  refine (sgiven_any xi xl xr xa xn xc X w1 (HXj.out.below hb) hxn2).mono ?_
                  rintro e w9 ⟨⟨g2, c2', rfl, hgr⟩, hb9⟩
                  go_wp2_with fail
                  exact ⟨rfl, hb9, fun t ht => by injection ht with ht; subst ht; exact ⟨⟨g2, c2', rfl, hgr⟩, fun h => by simp at h⟩⟩
                · intro f w1 hb hd
                  obtain ⟨a1, c1, d1, r1⟩ := show ∃ a c, f 1 = sloV xi xl xr a xn c ∧ RdG w1 (.slice a xn c) X from hd 1 (by kernel_rfl)
                  clear hd
                  dsimp only
                  rw [d1]
                  go_wp2_with fail
                  refine (HId.out w1 a1 c1 r1).mono ?_
                  rintro e w9 ⟨ov, rfl, ho, hb9⟩
                  go_wp2_with fail
                  exact ⟨rfl, hb9, fun t ht => by injection ht with ht; subst ht; exact ⟨World.ownsRow.mono ho hb.size, fun h => by simp at h⟩⟩
                · intro f w1 hb hd
                  clear hd
                  dsimp only
                  have hs := BlkE.slo (HSj.out.below hb)
                  have q0 := hs.c0
                  have q1 := hs.c1
                  have q2 := hs.c2
                  have q3 := hs.c3
                  clear hs
                  go_wp2_with fail
                  exact ⟨rfl, Below.refl _ _, fun t ht => by injection ht with ht; subst ht; exact ⟨rfl, fun h => by simp at h⟩⟩
                · intro f w1 hb hd
                  have d3 : f 3 = sloV xi xl xr xa xn xc := hd 3 (by kernel_rfl)
                  clear hd
                  dsimp only
                  rw [d3]
                  go_wp2_with fail
                  refine (HIr.out w1 xa xc (HXj.out.below hb)).mono ?_
                  rintro e w9 ⟨ov, rfl, ho, hb9⟩
                  go_wp2_with fail
                  exact ⟨rfl, hb9, fun t ht => by injection ht with ht; subst ht; exact ⟨World.ownsRow.mono ho hb.size, fun h => by simp at h⟩⟩
                · intro f w1 hb hd
                  have d2 : OwnT w1 wr.heap.size (f 2) IT := hd 2 (by kernel_rfl)
                  have d4 : OwnT w1 wr.heap.size (f 4) IT := hd 4 (by kernel_rfl)
                  clear hd
                  dsimp only
                  have HD2 := Lib.hid d2
                  have HD4 := Lib.hid d4
                  clear d2 d4
                  generalize f 2 = y2 at *
                  generalize f 4 = y4 at *
                  go_wp2_with fail
                  refine (same_any y2 y4 IT IT w1 HD2.out.rd HD4.out.rd).mono ?_
                  rintro e w9 ⟨rfl, hb9⟩
                  rw [show decide (IT = IT) = true from decide_eq_true rfl]
                  go_wp2_with fail
                  exact ⟨rfl, hb9, fun t ht => by injection ht with ht; subst ht; exact ⟨rfl, fun h => by simp at h⟩⟩
                · intro f w1 hb hd
                  have d5 : f 5 = .bool true := hd 5 (by kernel_rfl)
                  clear hd
                  dsimp only
                  rw [d5]
                  go_wp2_with fail
                  exact ⟨rfl, Below.refl _ _, fun t ht => by injection ht with ht; subst ht; exact ⟨rfl, fun h => by simp at h⟩⟩
              · intro f w9 hb hA
                have d6 : f 6 = .bool false := hA 6 (show 6 < 7 by decide)
                clear hA
                try dsimp only
                rw [d6]
                clear d6
                generalize f 0 = z0
                generalize f 1 = z1
                generalize f 2 = z2
                generalize f 3 = z3
                generalize f 4 = z4
                generalize f 5 = z5
                clear f
                replace HBk := Lib.hid (bstep HBk.out hb)
                clear hb
                go_wp2_with fail
                exact ⟨⟨k + 1, by go_num, by omega, HBk⟩, by simp [intOf]; omega⟩
        · have j1 : ¬ (k : Int) < 2 := by omega
          go_wp2_with fail
          refine (HAw.out _).mono ?_
          rintro e wz ⟨rfl, hb⟩
          have HBz := Lib.hid (bstep (bstep HB.out HBk.out) hb)
          go_wp2_with fail
          go_ret
          exact ⟨rfl, HBz.out⟩
end Go.Proofs.YtenkeodfijladaaGreat

namespace Go.Proofs.YtenkeodfijladaaGreat
open Go.RowKit

theorem sfinds_open (q : SlQ) (a : Option Addr) (n cap : Nat) (key : Int) (w : World)
    (h0 : RdG w (.slice q.a q.n q.c) q.L ∧ ∀ x ∈ q.L, GnWf x.1) (h1 : ∃ l : List AcP, RdA w (.slice a n cap) l) (_hw : (Lit.int .u64 key).wf = true) :
    Calls Tryz.prog 3 #[.agg (sloC q.id q.lim q.ro q.a q.n q.c), .slice a n cap, .int .u64 key] w fun e w' => e = .returned (.bool true) ∧ Below w.heap.size w w' := by
  obtain ⟨l, hl⟩ := h1
  exact sfinds_law q.id q.lim q.ro q.a q.n q.c q.L _ l key w h0.1 hl
end Go.Proofs.YtenkeodfijladaaGreat
