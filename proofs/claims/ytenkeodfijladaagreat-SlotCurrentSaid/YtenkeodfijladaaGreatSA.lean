/- Several texts in one, each over the last: What one does with slots, in plain Lean. No program here. slot.CanRotate, Fits, copied and Top: the walks. Printed by mkSlb.py. What holds in a drawn region `append(append([]T{}, x[:m]...), a, b)`: the empty row (0), the first append (6), the row of two (9), the second append (10). Slots stay valid: a rotation, a change. Plain Lean, no program here. gen of the law of slots: the walk. Made out of XHj. -/
import Derived.Test.YtenkeodfijladaaGreatGE
import Derived.Test.YtenkeodfijladaaGreatVA
import Derived.Test.YtenkeodfijladaaGreatGR
import Derived.Test.YtenkeodfijladaaGreatGM
namespace Go.Proofs.YtenkeodfijladaaGreat

def slt0 : Slt := ⟨0, 0, false, []⟩
def topG (s : Slt) : Gn := gat s.gens (s.gens.length - 1)
noncomputable def topS (s : Slt) : Int × Gn := if vldSl s = true then (0, topG s) else (1, gn0)
noncomputable def canS (s : Slt) : Bool := vldSl s && decide ((topG s).num < 8)
noncomputable def fitsS (s : Slt) (n : Int) : Bool := vldSl s && (decide (0 ≤ n) && decide (n ≤ 4096)) && decide ((topG s).size + (szN n.toNat : Nat) ≤ s.lim)
/-- The numbers of the older generations that have a key, the eldest first. -/
def oldF (l : List Gn) (key : Int) : Nat → List Int
  | 0 => []
  | n + 1 => oldF l key n ++ (match getM (gat l n).m key with | some _ => [(gat l n).num] | none => [])
noncomputable def olderS (s : Slt) (key : Int) : List Int := if vldSl s = true then oldF s.gens key (s.gens.length - 1) else []
theorem allF_old (l : List Gn) (key : Int) : ∀ n m, m ≤ n → ((allF l key n).reverse.filter fun x => decide (x.at_ < m)).map (·.gen) = oldF l key m
  | 0, m, h => by
    obtain rfl : m = 0 := by omega
    rfl
  | n + 1, m, h => by
    unfold allF
    rw [List.reverse_append, List.filter_append, List.map_append]
    by_cases hm : m ≤ n
    · rw [allF_old l key n m hm]
      cases hg : getM (gat l n).m key with
      | none => simp
      | some x => simp [show ¬ n < m by omega]
    · obtain rfl : m = n + 1 := by omega
      have hr := allF_old l key n n (Nat.le_refl _)
      have hall : ∀ k, ∀ x ∈ allF l key k, x.at_ < k := by
        intro k
        induction k with
        | zero => intro x hx; cases hx
        | succ k ih =>
          intro x hx
          unfold allF at hx
          rcases List.mem_append.1 hx with hx | hx
          · cases hg : getM (gat l k).m key with
            | none => rw [hg] at hx; cases hx
            | some y => rw [hg] at hx; obtain rfl := List.mem_singleton.1 hx; exact Nat.lt_succ_self k
          · exact Nat.lt_succ_of_lt (ih x hx)
      have e1 : ((allF l key n).reverse.filter fun x => decide (x.at_ < n + 1)) = (allF l key n).reverse.filter fun x => decide (x.at_ < n) := by
        refine List.filter_congr fun x hx => ?_
        have := hall n x (List.mem_reverse.1 hx)
        simp [this, Nat.lt_succ_of_lt this]
      rw [e1, hr]
      show _ = oldF l key n ++ _
      cases hg : getM (gat l n).m key with
      | none => simp
      | some x => simp
/-- The items of all generations, as the program and as the reference have them. -/
noncomputable def newS (i l : Int) : Slt × Int := if vldSl ⟨i, l, false, [fresh 1]⟩ = true then (⟨i, l, false, [fresh 1]⟩, 0) else (slt0, 1)
noncomputable def rotS (s : Slt) : Slt × Int :=
  if vldSl s = true then (if (topG s).num < 8 then (⟨s.id, s.lim, s.ro, s.gens.take (s.gens.length - 1) ++ [{ topG s with mode := 2 }, fresh ((topG s).num + 1)]⟩, 0) else (slt0, 9)) else (slt0, 1)
def putG (l : List Gn) (g : Gn) : List Gn := l.map fun x => if x.num = g.num then g else x
noncomputable def chgS (s : Slt) (g : Gn) : Slt × Int :=
  if vldSl s = true then (if (s.gens.any fun x => decide (x.num = g.num)) = true then (if vldSl ⟨s.id, s.lim, s.ro, putG s.gens g⟩ = true then (⟨s.id, s.lim, s.ro, putG s.gens g⟩, 0) else (slt0, 1)) else (slt0, 6)) else (slt0, 1)
end Go.Proofs.YtenkeodfijladaaGreat

namespace Go.Proofs.YtenkeodfijladaaGreat
open Go.RowKit

theorem topG_pat {i l : Int} {r : Bool} {L : List GP} {j : Nat} (h : L.length = j + 1) : topG ⟨i, l, r, gns L⟩ = (pat L j).1 := by
  unfold topG
  show gat (gns L) ((gns L).length - 1) = _
  rw [gns_len, h, gat_gns]
  rfl
set_option maxRecDepth 100000 in
set_option maxHeartbeats 4000000 in
theorem canrot_any (i l : Int) (r : Bool) (a : Option Addr) (n c : Nat) (L : List GP) (w : World) (h : RdG w (.slice a n c) L) (hs : ∀ p ∈ L, ∀ j, j < 8 → (p.1.m.st j).length ≤ 10000) :
    Calls Tryz.prog 44 #[sloV i l r a n c] w fun e w' => e = .returned (.bool (canS ⟨i, l, r, gns L⟩)) ∧ Below w.heap.size w w' := by
  have HSv := Lib.hid (fun W (hb : Below w.heap.size w W) => svalid_any i l r a n c L W (h.below hb) hs)
  have HBx := Lib.hid (BoxV.new w i l r a n c 41)
  have HB0 := Lib.hid (below_slo w i l r a n c 41)
  have hcs : canS ⟨i, l, r, gns L⟩ = (vldSl ⟨i, l, r, gns L⟩ && decide ((topG ⟨i, l, r, gns L⟩).num < 8)) := rfl
  rw [hcs]
  clear hcs
  cases hv : vldSl ⟨i, l, r, gns L⟩
  · rw [hv] at HSv
    clear h hs hv
    go_enter Tryz.func44, Tryz.ntmps44
    go_upto_region 1 with fail
    obtain ⟨W, hW⟩ : ∃ W, w.alloc (.cells (sloC i l r a n c) 41) = W := ⟨_, rfl⟩
    change Code.wp _ _ _ _ (w.alloc (.cells (sloC i l r a n c) 41))
    rw [hW] at HBx HB0 ⊢
    clear hW
    have hlw := HBx.out.lt
    have k0 := HBx.out.c0
    have k1 := HBx.out.c1
    have k2 := HBx.out.c2
    have k3 := HBx.out.c3
    go_wp2_with fail
    refine (HSv.out _ HB0.out).mono ?_
    rintro e w1 ⟨rfl, hb1⟩
    have HB1 := Lib.hid (bstep HB0.out hb1)
    clear k0 k1 k2 k3 hb1
    go_wp2_with fail
    go_ret
    exact ⟨rfl, HB1.out⟩
  · rw [hv] at HSv
    have hV := (vldSl_iff _).1 hv
    have hLn : L.length = n := by
      obtain ⟨_, _, e, _⟩ := h.shape
      injection e with _ e _; exact e.symm
    have hl : (gns L).length = n := by rw [gns_len, hLn]
    have hn : 1 ≤ n ∧ n ≤ 8 := by have := hV.len; simp only [hl] at this; exact this
    obtain ⟨j, rfl⟩ : ∃ j, n = j + 1 := ⟨n - 1, by omega⟩
    rw [topG_pat hLn]
    have HR := Lib.hid h
    clear hV hLn hl hv h hs
    obtain ⟨b, off, rfl, hg⟩ := HR.out.at (show j < j + 1 by omega)
    have HG := Lib.hid hg
    clear hg HR
    generalize pat L j = p at *
    obtain ⟨⟨num, rev, md, sz, f, LV, GA⟩, s⟩ := p
    dsimp only at *
    go_enter Tryz.func44, Tryz.ntmps44
    go_upto_region 1 with fail
    obtain ⟨W, hW⟩ : ∃ W, w.alloc (.cells (sloC i l r (some ⟨b, off, none⟩) (j + 1) c) 41) = W := ⟨_, rfl⟩
    change Code.wp _ _ _ _ (w.alloc (.cells (sloC i l r (some ⟨b, off, none⟩) (j + 1) c) 41))
    rw [hW] at HBx HB0 ⊢
    clear hW
    have hlw := HBx.out.lt
    have k0 := HBx.out.c0
    have k1 := HBx.out.c1
    have k2 := HBx.out.c2
    have k3 := HBx.out.c3
    go_wp2_with fail
    refine (HSv.out _ HB0.out).mono ?_
    rintro e w1 ⟨rfl, hb1⟩
    clear k0 k1 k2 k3
    have HB1 := Lib.hid (bstep HB0.out hb1)
    have HX1 := Lib.hid (HBx.out.below hb1)
    have HG1 := Lib.hid (HG.out.below HB1.out)
    clear hb1 HB0 HBx HG HSv
    have j3 : IntKind.i64.wrap (j : Int) = (j : Int) := IntWalk.i64_in _ (by omega)
    have i2 : (j : Int) < ((j + 1 : Nat) : Int) := by omega
    have v3 := HX1.out.c3
    have g0 := HG1.out.n0
    dsimp only at g0
    go_wp2_with fail
    go_ret
    exact ⟨by simp, HB1.out⟩
set_option maxRecDepth 100000 in
set_option maxHeartbeats 4000000 in
theorem copied_any (g : Gn) (s : Sl) (w : World) (h : RdM w s g.m.st) (hs : ∀ i, i < 8 → (g.m.st i).length ≤ 10000) :
    Calls Tryz.prog 73 #[genV g.num g.rev g.mode g.size s g.m.live g.m.garb] w fun e w' => (∃ s', e = .returned (genV g.num g.rev g.mode g.size s' g.m.live g.m.garb) ∧ OwnM w' w.heap.size s' g.m.st) ∧ Below w.heap.size w w' := by
  have HW := Lib.hid (fun W (hb : Below w.heap.size w W) => wasteM_any s g.m 0 W (h.below hb) hs)
  rw [wasteM_zero] at HW
  obtain ⟨n, r, md, z, ⟨f, L, G⟩⟩ := g
  dsimp only at *
  obtain ⟨W, hW, hbx, hbr, hbw⟩ := two_box w n r md z s L G 58
  have HX := Lib.hid hbx
  have HR := Lib.hid hbr
  have HB := Lib.hid hbw
  clear hbx hbr hbw h hs
  go_enter Tryz.func73, Tryz.ntmps73
  go_upto_region 1 with fail
  change Code.wp _ _ _ _ ((w.alloc (.cells (genC n r md z s L G) 58)).alloc (.cells (genC 0 0 0 0 Sl.nil 0 0) 58))
  rw [hW]
  clear hW
  have x0 := HX.out.n0
  have x1 := HX.out.n1
  have x2 := HX.out.n2
  have x3 := HX.out.n3
  have x4 := HX.out.c0
  have x5 := HX.out.c1
  have x6 := HX.out.c2
  have x7 := HX.out.c3
  have x8 := HX.out.c4
  have x9 := HX.out.c5
  have x10 := HX.out.c6
  have x11 := HX.out.c7
  have x12 := HX.out.cl
  have x13 := HX.out.cg
  go_wp2_with fail
  refine (HW.out _ HB.out).mono ?_
  rintro e w1 ⟨⟨t, rfl, ho⟩, hb⟩
  have hlr := HR.out.lt
  have HO1 := Lib.hid (ho.mono (show w.heap.size + 2 ≤ W.heap.size by omega))
  have HX1 := Lib.hid (HX.out.below hb)
  have HR1 := Lib.hid (HR.out.below hb)
  have HB1 := Lib.hid (bstep HB.out hb)
  clear x0 x1 x2 x3 x4 x5 x6 x7 x8 x9 x10 x11 x12 x13
  clear ho hb HX HR HB HW
  have xf := HX1.out.f
  have x0 := HX1.out.n0
  have x1 := HX1.out.n1
  have x2 := HX1.out.n2
  have x3 := HX1.out.n3
  have x4 := HX1.out.c0
  have x5 := HX1.out.c1
  have x6 := HX1.out.c2
  have x7 := HX1.out.c3
  have x8 := HX1.out.c4
  have x9 := HX1.out.c5
  have x10 := HX1.out.c6
  have x11 := HX1.out.c7
  have x12 := HX1.out.cl
  have x13 := HX1.out.cg
  go_upto_region 2 with fail
  clear xf
  clear x0 x1 x2 x3 x4 x5 x6 x7 x8 x9 x10 x11 x12 x13
  change Code.wp _ _ _ _ (pts w1 w.heap.size (mapL t L G))
  have HX2 := Lib.hid (HX1.out.map t L G)
  have HR2 := Lib.hid (HR1.out.pts_ne (show w.heap.size + 1 ≠ w.heap.size by omega) (mapL t L G))
  have HB2 := Lib.hid (pts_below (B := w.heap.size) (b := w.heap.size) (Nat.le_refl _) (mapL t L G) HB1.out)
  have HO2 := Lib.hid (HO1.out.pts (show w.heap.size < w.heap.size + 2 by omega) (mapL t L G))
  generalize pts w1 w.heap.size (mapL t L G) = w2 at *
  clear HX1 HR1 HB1 HO1
  have x0 := HX2.out.n0
  have x1 := HX2.out.n1
  have x2 := HX2.out.n2
  have x3 := HX2.out.n3
  have x4 := HX2.out.c0
  have x5 := HX2.out.c1
  have x6 := HX2.out.c2
  have x7 := HX2.out.c3
  have x8 := HX2.out.c4
  have x9 := HX2.out.c5
  have x10 := HX2.out.c6
  have x11 := HX2.out.c7
  have x12 := HX2.out.cl
  have x13 := HX2.out.cg
  have y0 := HR2.out.n0
  have y1 := HR2.out.n1
  have y2 := HR2.out.n2
  have y3 := HR2.out.n3
  have y4 := HR2.out.c0
  have y5 := HR2.out.c1
  have y6 := HR2.out.c2
  have y7 := HR2.out.c3
  have y8 := HR2.out.c4
  have y9 := HR2.out.c5
  have y10 := HR2.out.c6
  have y11 := HR2.out.c7
  have y12 := HR2.out.cl
  have y13 := HR2.out.cg
  have rf := HR2.out.f
  go_wp2_with fail
  change bodyPost _ _ _ _ _ (pts w2 (w.heap.size + 1) (genL n r md z t L G))
  have hby := HR2.out.all n r md z t L G
  have HBz := Lib.hid (pts_below (B := w.heap.size) (b := (w.heap.size + 1)) (by omega) (genL n r md z t L G) HB2.out)
  have hrd := (HO2.out.pts (show w.heap.size + 1 < w.heap.size + 2 by omega) (genL n r md z t L G)).mono (show w.heap.size ≤ w.heap.size + 2 by omega)
  generalize pts w2 (w.heap.size + 1) (genL n r md z t L G) = V at *
  exact bodyPost_ret (v := genV n r md z t L G) (by simp [results, Tryz.results73, go_sem, hby.n0, hby.n1, hby.n2, hby.n3, hby.c0, hby.c1, hby.c2, hby.c3, hby.c4, hby.c5, hby.c6, hby.c7, hby.cl, hby.cg]) rfl ⟨⟨_, rfl, hrd⟩, HBz.out⟩
set_option maxRecDepth 100000 in
set_option maxHeartbeats 8000000 in
theorem top_any (i l : Int) (r : Bool) (a : Option Addr) (n c : Nat) (L : List GP) (w : World) (h : RdG w (.slice a n c) L) (hs : ∀ p ∈ L, ∀ j, j < 8 → (p.1.m.st j).length ≤ 10000) :
    Calls Tryz.prog 24 #[sloV i l r a n c] w (GOwn w (topS ⟨i, l, r, gns L⟩)) := by
  have HSv := Lib.hid (fun W (hb : Below w.heap.size w W) => svalid_any i l r a n c L W (h.below hb) hs)
  have HBx := Lib.hid (BoxV.new w i l r a n c 41)
  have HB0 := Lib.hid (below_slo w i l r a n c 41)
  have hcs : topS ⟨i, l, r, gns L⟩ = if vldSl ⟨i, l, r, gns L⟩ = true then (0, topG ⟨i, l, r, gns L⟩) else (1, gn0) := rfl
  cases hv : vldSl ⟨i, l, r, gns L⟩
  · rw [hv] at HSv
    rw [hv, if_neg (by decide)] at hcs
    have HC := Lib.hid hcs
    clear h hs hv hcs
    go_enter Tryz.func24, Tryz.ntmps24
    go_upto_region 1 with fail
    obtain ⟨W, hW⟩ : ∃ W, w.alloc (.cells (sloC i l r a n c) 41) = W := ⟨_, rfl⟩
    change Code.wp _ _ _ _ ((w.alloc (.cells (sloC i l r a n c) 41)).alloc (.cells (genC 0 0 0 0 Sl.nil 0 0) 58))
    have hsz : W.heap.size = w.heap.size + 1 := by rw [← hW]; simp
    rw [hW] at HBx HB0 ⊢
    clear hW
    obtain ⟨W2, hW2⟩ : ∃ W2, W.alloc (.cells (genC 0 0 0 0 Sl.nil 0 0) 58) = W2 := ⟨_, rfl⟩
    have HR := Lib.hid (show BoxG W2 (w.heap.size + 1) 0 0 0 0 Sl.nil 0 0 from by have := BoxG.new W 0 0 0 0 Sl.nil 0 0 58; rw [hW2, hsz] at this; exact this)
    have hba := below_gen W 0 0 0 0 Sl.nil 0 0 58
    rw [hW2] at hba ⊢
    have HB2 := Lib.hid (bstep HB0.out hba)
    have HX2 := Lib.hid (HBx.out.below hba)
    clear hba hW2
    have k0 := HX2.out.c0
    have k1 := HX2.out.c1
    have k2 := HX2.out.c2
    have k3 := HX2.out.c3
    go_wp2_with fail
    refine (HSv.out _ HB2.out).mono ?_
    rintro e w1 ⟨rfl, hb1⟩
    have HB1 := Lib.hid (bstep HB2.out hb1)
    have HX1 := Lib.hid (HX2.out.below hb1)
    have HR1 := Lib.hid (HR.out.below hb1)
    clear k0 k1 k2 k3 hb1 HB2 HX2 HR HBx HB0
    have rf := HR1.out.f
    have y0 := HR1.out.n0
    have y1 := HR1.out.n1
    have y2 := HR1.out.n2
    have y3 := HR1.out.n3
    have y4 := HR1.out.c0
    have y5 := HR1.out.c1
    have y6 := HR1.out.c2
    have y7 := HR1.out.c3
    have y8 := HR1.out.c4
    have y9 := HR1.out.c5
    have y10 := HR1.out.c6
    have y11 := HR1.out.c7
    have y12 := HR1.out.cl
    have y13 := HR1.out.cg
    go_wp2_with fail
    change bodyPost _ _ _ _ _ (pts w1 (w.heap.size + 1) (genL 0 0 0 0 Sl.nil 0 0))
    have hby := HR1.out.all 0 0 0 0 Sl.nil 0 0
    have HBz := Lib.hid (pts_below (B := w.heap.size) (b := (w.heap.size + 1)) (by omega) (genL 0 0 0 0 Sl.nil 0 0) HB1.out)
    generalize pts w1 (w.heap.size + 1) (genL 0 0 0 0 Sl.nil 0 0) = V at *
    exact bodyPost_ret (v := .tuple #[genV 0 0 0 0 Sl.nil 0 0, .int .i64 1]) (by simp [results, Tryz.results24, go_sem, hby.n0, hby.n1, hby.n2, hby.n3, hby.c0, hby.c1, hby.c2, hby.c3, hby.c4, hby.c5, hby.c6, hby.c7, hby.cl, hby.cg]) rfl ⟨⟨Sl.nil, by rw [HC.out]; first | done | rfl, by rw [HC.out]; exact OwnM.nil _ _⟩, HBz.out⟩
  · rw [hv] at HSv
    rw [hv, if_pos rfl] at hcs
    have hV := (vldSl_iff _).1 hv
    have hLn : L.length = n := by
      obtain ⟨_, _, e, _⟩ := h.shape
      injection e with _ e _; exact e.symm
    have hl : (gns L).length = n := by rw [gns_len, hLn]
    have hn : 1 ≤ n ∧ n ≤ 8 := by have := hV.len; simp only [hl] at this; exact this
    obtain ⟨j, rfl⟩ : ∃ j, n = j + 1 := ⟨n - 1, by omega⟩
    rw [topG_pat hLn] at hcs
    have HC := Lib.hid hcs
    have HR0 := Lib.hid h
    have hmem := pat_mem (l := L) (i := j) (by omega)
    have HMp := Lib.hid (h.m _ hmem)
    have HSs := Lib.hid (hs _ hmem)
    clear hV hLn hl hv h hs hmem hcs
    obtain ⟨b, off, rfl, hg⟩ := HR0.out.at (show j < j + 1 by omega)
    have HG := Lib.hid hg
    clear hg HR0
    generalize pat L j = p at *
    obtain ⟨⟨num, rev, md, sz, ⟨f, LV, GA⟩⟩, s⟩ := p
    dsimp only at *
    go_enter Tryz.func24, Tryz.ntmps24
    go_upto_region 1 with fail
    obtain ⟨W, hW⟩ : ∃ W, w.alloc (.cells (sloC i l r (some ⟨b, off, none⟩) (j + 1) c) 41) = W := ⟨_, rfl⟩
    change Code.wp _ _ _ _ ((w.alloc (.cells (sloC i l r (some ⟨b, off, none⟩) (j + 1) c) 41)).alloc (.cells (genC 0 0 0 0 Sl.nil 0 0) 58))
    have hsz : W.heap.size = w.heap.size + 1 := by rw [← hW]; simp
    rw [hW] at HBx HB0 ⊢
    clear hW
    obtain ⟨W2, hW2⟩ : ∃ W2, W.alloc (.cells (genC 0 0 0 0 Sl.nil 0 0) 58) = W2 := ⟨_, rfl⟩
    have HR := Lib.hid (show BoxG W2 (w.heap.size + 1) 0 0 0 0 Sl.nil 0 0 from by have := BoxG.new W 0 0 0 0 Sl.nil 0 0 58; rw [hW2, hsz] at this; exact this)
    have hba := below_gen W 0 0 0 0 Sl.nil 0 0 58
    rw [hW2] at hba ⊢
    have HB2 := Lib.hid (bstep HB0.out hba)
    have HX2 := Lib.hid (HBx.out.below hba)
    clear hba hW2
    have k0 := HX2.out.c0
    have k1 := HX2.out.c1
    have k2 := HX2.out.c2
    have k3 := HX2.out.c3
    go_wp2_with fail
    refine (HSv.out _ HB2.out).mono ?_
    rintro e w1 ⟨rfl, hb1⟩
    have HB1 := Lib.hid (bstep HB2.out hb1)
    have HX1 := Lib.hid (HX2.out.below hb1)
    have HR1 := Lib.hid (HR.out.below hb1)
    clear k0 k1 k2 k3 hb1 HB2 HX2 HR HBx HB0
    have HG1 := Lib.hid (HG.out.below HB1.out)
    clear HG HSv
    have j3 : IntKind.i64.wrap (j : Int) = (j : Int) := IntWalk.i64_in _ (by omega)
    have i2 : (j : Int) < ((j + 1 : Nat) : Int) := by omega
    have v3 := HX1.out.c3
    have g0 := HG1.out.n0
    have g1 := HG1.out.n1
    have g2 := HG1.out.n2
    have g3 := HG1.out.n3
    have g4 := HG1.out.c0
    have g5 := HG1.out.c1
    have g6 := HG1.out.c2
    have g7 := HG1.out.c3
    have g8 := HG1.out.c4
    have g9 := HG1.out.c5
    have g10 := HG1.out.c6
    have g11 := HG1.out.c7
    have g12 := HG1.out.cl
    have g13 := HG1.out.cg
    try dsimp only at g0 g1 g2 g3 g4 g5 g6 g7 g8 g9 g10 g11 g12 g13
    go_wp2_with fail
    refine (copied_any ⟨num, rev, md, sz, ⟨f, LV, GA⟩⟩ s w1 (HMp.out.below HB1.out) HSs.out).mono ?_
    rintro e w2 ⟨⟨t, rfl, ho⟩, hb2⟩
    have hlr := HR1.out.lt
    have HO2 := Lib.hid (ho.mono (show w.heap.size + 2 ≤ w1.heap.size by omega))
    have HR2 := Lib.hid (HR1.out.below hb2)
    have HB2 := Lib.hid (bstep HB1.out hb2)
    clear ho hb2 HR1 HB1 HX1 HG1 v3
    clear g0 g1 g2 g3 g4 g5 g6 g7 g8 g9 g10 g11 g12 g13
    have rf := HR2.out.f
    have y0 := HR2.out.n0
    have y1 := HR2.out.n1
    have y2 := HR2.out.n2
    have y3 := HR2.out.n3
    have y4 := HR2.out.c0
    have y5 := HR2.out.c1
    have y6 := HR2.out.c2
    have y7 := HR2.out.c3
    have y8 := HR2.out.c4
    have y9 := HR2.out.c5
    have y10 := HR2.out.c6
    have y11 := HR2.out.c7
    have y12 := HR2.out.cl
    have y13 := HR2.out.cg
    go_wp2_with fail
    change bodyPost _ _ _ _ _ (pts w2 (w.heap.size + 1) (genL num rev md sz t LV GA))
    have hby := HR2.out.all num rev md sz t LV GA
    have HBz := Lib.hid (pts_below (B := w.heap.size) (b := (w.heap.size + 1)) (by omega) (genL num rev md sz t LV GA) HB2.out)
    have hrd := (HO2.out.pts (show w.heap.size + 1 < w.heap.size + 2 by omega) (genL num rev md sz t LV GA)).mono (show w.heap.size ≤ w.heap.size + 2 by omega)
    generalize pts w2 (w.heap.size + 1) (genL num rev md sz t LV GA) = V at *
    exact bodyPost_ret (v := .tuple #[genV num rev md sz t LV GA, .int .i64 0]) (by simp [results, Tryz.results24, go_sem, hby.n0, hby.n1, hby.n2, hby.n3, hby.c0, hby.c1, hby.c2, hby.c3, hby.c4, hby.c5, hby.c6, hby.c7, hby.cl, hby.cg]) rfl ⟨⟨t, by rw [HC.out]; first | done | rfl, by rw [HC.out]; exact hrd⟩, HBz.out⟩
end Go.Proofs.YtenkeodfijladaaGreat

namespace Go.Proofs.YtenkeodfijladaaGreat
open Go.RowKit

theorem onT_ne {L : Nat → Bool} {i j : Nat} (h : j ≠ i) : onL L i j = L j := if_neg h
theorem upT_ne {f : Nat → Value} {i j : Nat} {v : Value} (h : j ≠ i) : updF f i v j = f j := if_neg h
theorem onT_eq (L : Nat → Bool) (i : Nat) : onL L i i = true := if_pos rfl
theorem upT_eq (f : Nat → Value) (i : Nat) (v : Value) : updF f i v i = v := if_pos rfl
structure RtS (T : TypeId) (m : Nat) (xs ys : List Value) (ps : List (Nat × Value)) (B0 : Nat) (w6 : World) (L : Nat → Bool) (f : Nat → Value) (W : World) : Prop where
  pur : ∀ q ∈ ps, L q.1 = true → f q.1 = q.2
  hb : Below B0 w6 W
  sz : B0 ≤ W.heap.size
  a0 : L 0 = true → L 6 = false → ∃ b, f 0 = .slice (some ⟨b, 0, none⟩) 0 0 ∧ W.ownsRow B0 T 14 (.slice (some ⟨b, 0, none⟩) 0 0) 0 [] ∧ b < W.heap.size ∧ (L 9 = true → f 9 ≠ .slice (some ⟨b, 0, none⟩) 2 2)
  a6 : L 6 = true → L 10 = false → ∃ a c, f 6 = .slice a m c ∧ W.ownsRow B0 T 14 (.slice a m c) m xs
  a9 : L 9 = true → L 10 = false → ∃ k, f 9 = .slice (some ⟨k, 0, none⟩) 2 2 ∧ B0 ≤ k ∧ k < W.heap.size ∧ Rd W 14 (.slice (some ⟨k, 0, none⟩) 2 2) 2 ys
  a10 : L 10 = true → ∃ a c, f 10 = .slice a (m + 2) c ∧ W.ownsRow B0 T 14 (.slice a (m + 2) c) (m + 2) (xs ++ ys)
  d6 : L 6 = true → L 0 = true
  d10 : L 10 = true → L 6 = true ∧ L 9 = true
section
variable {T : TypeId} {m : Nat} {xs ys : List Value} {ps : List (Nat × Value)} {B0 : Nat} {w6 W W' : World} {L : Nat → Bool} {f : Nat → Value}
theorem RtS.start (hs : B0 = w6.heap.size) (f : Nat → Value) : RtS T m xs ys ps B0 w6 (fun _ => false) f w6.drew := by
  subst hs
  exact ⟨(fun _ _ h => by cases h), below_drew (Below.refl _ _), Nat.le_refl _, (fun h => by cases h), (fun h => by cases h), (fun h => by cases h), (fun h => by cases h), (fun h => by cases h), fun h => by cases h⟩
/-- An operation that makes no memory (not 0, 6, 9, 10). -/
theorem RtS.pure (h : RtS T m xs ys ps B0 w6 L f W) {i : Nat} {v : Value} (h0 : 0 ≠ i) (h6 : 6 ≠ i) (h9 : 9 ≠ i) (h10 : 10 ≠ i) (hp : ∀ q ∈ ps, q.1 = i → v = q.2) : RtS T m xs ys ps B0 w6 (onL L i) (updF f i v) W := by
  refine ⟨fun q hq hL => ?_, h.hb, h.sz, ?_, ?_, ?_, ?_, ?_, ?_⟩
  · by_cases e : q.1 = i
    · rw [e, upT_eq]; exact hp q hq e
    · rw [upT_ne e]; rw [onT_ne e] at hL; exact h.pur q hq hL
  · rw [onT_ne h0, onT_ne h6, onT_ne h9, upT_ne h0, upT_ne h9]; exact h.a0
  · rw [onT_ne h6, onT_ne h10, upT_ne h6]; exact h.a6
  · rw [onT_ne h9, onT_ne h10, upT_ne h9]; exact h.a9
  · rw [onT_ne h10, upT_ne h10]; exact h.a10
  · rw [onT_ne h6, onT_ne h0]; exact h.d6
  · rw [onT_ne h10, onT_ne h6, onT_ne h9]; exact h.d10
theorem RtS.no10 (h : RtS T m xs ys ps B0 w6 L f W) (h6 : L 6 = false ∨ L 9 = false) : L 10 = false := by
  cases e : L 10 with
  | false => rfl
  | true => have := h.d10 e; rcases h6 with h6 | h6 <;> simp [h6] at this
theorem RtS.no6 (h : RtS T m xs ys ps B0 w6 L f W) (h0 : L 0 = false) : L 6 = false := by
  cases e : L 6 with
  | false => rfl
  | true => have := h.d6 e; rw [h0] at this; cases this
/-- The empty row. -/
theorem RtS.zero (h : RtS T m xs ys ps B0 w6 L f W) (h0 : L 0 = false) (hp : ∀ q ∈ ps, q.1 ≠ 0) : RtS T m xs ys ps B0 w6 (onL L 0) (updF f 0 (.slice (some ⟨W.heap.size, 0, none⟩) 0 0)) (W.alloc (.cells #[] T)) := by
  have hA := (Below.refl W.heap.size W).alloc (Nat.le_refl _) (.cells #[] T)
  have n6 := h.no6 h0
  have n10 := h.no10 (.inl n6)
  refine ⟨fun q hq hL => ?_, h.hb.alloc h.sz _, Nat.le_trans h.sz hA.size, fun _ _ => ⟨W.heap.size, upT_eq .., World.ownsRow_made (size := 14) W #[] 0 h.sz (by decide) rfl, by simp, fun h9 e => ?_⟩, ?_, ?_, ?_, ?_, ?_⟩
  · rw [upT_ne (hp q hq)]; rw [onT_ne (hp q hq)] at hL; exact h.pur q hq hL
  · rw [onT_ne (by decide)] at h9
    rw [upT_ne (by decide)] at e
    obtain ⟨k, e9, _, hk, _⟩ := h.a9 h9 n10
    rw [e9] at e
    injection e with e
    injection e with e
    injection e with e
    omega
  · rw [onT_ne (by decide), n6]; intro e; cases e
  · rw [onT_ne (by decide), onT_ne (by decide), upT_ne (by decide)]
    intro e1 e2
    obtain ⟨k, e9, h1, hk, hr⟩ := h.a9 e1 e2
    exact ⟨k, e9, h1, Nat.lt_of_lt_of_le hk hA.size, hr.below hA⟩
  · rw [onT_ne (by decide), n10]; intro e; cases e
  · rw [onT_ne (by decide), n6]; intro e; cases e
  · rw [onT_ne (by decide), n10]; intro e; cases e
/-- The row of two. -/
theorem RtS.two (h : RtS T m xs ys ps B0 w6 L f W) (h9 : L 9 = false) (hy : ys.length = 28) (hp : ∀ q ∈ ps, q.1 ≠ 9) : RtS T m xs ys ps B0 w6 (onL L 9) (updF f 9 (.slice (some ⟨W.heap.size, 0, none⟩) 2 2)) (W.alloc (.cells ys.toArray T)) := by
  have hA := (Below.refl W.heap.size W).alloc (Nat.le_refl _) (.cells ys.toArray T)
  have n10 := h.no10 (.inr h9)
  refine ⟨fun q hq hL => ?_, h.hb.alloc h.sz _, Nat.le_trans h.sz hA.size, ?_, ?_, fun _ _ => ⟨W.heap.size, upT_eq .., h.sz, by simp, Rd.new W 14 ys T 2 (by rw [hy]) (by decide)⟩, ?_, ?_, ?_⟩
  · rw [upT_ne (hp q hq)]; rw [onT_ne (hp q hq)] at hL; exact h.pur q hq hL
  · rw [onT_ne (i := 9) (j := 0) (by decide), onT_ne (i := 9) (j := 6) (by decide), upT_ne (i := 9) (j := 0) (by decide), upT_eq]
    intro e0 e6
    obtain ⟨b, e1, ho, hb, _⟩ := h.a0 e0 e6
    refine ⟨b, e1, own_keep ho hA, Nat.lt_of_lt_of_le hb hA.size, fun _ e => ?_⟩
    injection e with e
    injection e with e
    injection e with e
    omega
  · rw [onT_ne (i := 9) (j := 6) (by decide), onT_ne (i := 9) (j := 10) (by decide), upT_ne (i := 9) (j := 6) (by decide)]
    intro e6 e10
    obtain ⟨a, c, e1, ho⟩ := h.a6 e6 e10
    exact ⟨a, c, e1, own_keep ho hA⟩
  · rw [onT_ne (by decide), n10]; intro e; cases e
  · rw [onT_ne (by decide), onT_ne (by decide)]; exact h.d6
  · rw [onT_ne (by decide), n10]; intro e; cases e
/-- The first append. -/
theorem RtS.app1 (h : RtS T m xs ys ps B0 w6 L f W) (h0 : L 0 = true) (h6 : L 6 = false) (hp : ∀ q ∈ ps, q.1 ≠ 6) : ∃ b, f 0 = .slice (some ⟨b, 0, none⟩) 0 0 ∧ W.ownsRow B0 T 14 (.slice (some ⟨b, 0, none⟩) 0 0) 0 [] ∧
    ∀ v W', W'.ownsRow B0 T 14 v m xs → W.grownBy W' (Value.slice (some ⟨b, 0, none⟩) 0 0).ownBlock → RtS T m xs ys ps B0 w6 (onL L 6) (updF f 6 v) W' := by
  have n10 := h.no10 (.inl h6)
  obtain ⟨b, e0, ho, hb, hne⟩ := h.a0 h0 h6
  refine ⟨b, e0, ho, fun v W' hown hg => ?_⟩
  obtain ⟨a, c, ev, _⟩ := own_form hown
  have hW : Below B0 W W' := own_below (Below.refl B0 W) ho h.sz hg
  refine ⟨fun q hq hL => ?_, h.hb.trans hW, Nat.le_trans h.sz hW.size, ?_, ?_, ?_, ?_, ?_, ?_⟩
  · rw [upT_ne (hp q hq)]; rw [onT_ne (hp q hq)] at hL; exact h.pur q hq hL
  · rw [onT_eq]; intro _ e; cases e
  · rw [upT_eq]; intro _ _; exact ⟨a, c, ev, ev ▸ hown⟩
  · rw [onT_ne (i := 6) (j := 9) (by decide), onT_ne (i := 6) (j := 10) (by decide), upT_ne (i := 6) (j := 9) (by decide)]
    intro e9 e10
    obtain ⟨k, e1, h1, hk, hr⟩ := h.a9 e9 e10
    refine ⟨k, e1, h1, Nat.lt_of_lt_of_le hk hW.size, hr.grown hg fun x hx e => ?_⟩
    injection hx with hx
    subst hx
    have e2 : some k = some b := e
    injection e2 with e2
    exact hne e9 (by rw [e1, e2])
  · rw [onT_ne (by decide), n10]; intro e; cases e
  · intro _; rw [onT_ne (i := 6) (j := 0) (by decide)]; exact h0
  · rw [onT_ne (by decide), n10]; intro e; cases e
/-- The second append. -/
theorem RtS.app2 (h : RtS T m xs ys ps B0 w6 L f W) (h6 : L 6 = true) (h9 : L 9 = true) (h10 : L 10 = false) (hp : ∀ q ∈ ps, q.1 ≠ 10) : ∃ a c k, f 6 = .slice a m c ∧ W.ownsRow B0 T 14 (.slice a m c) m xs ∧ f 9 = .slice (some ⟨k, 0, none⟩) 2 2 ∧ Rd W 14 (.slice (some ⟨k, 0, none⟩) 2 2) 2 ys ∧
    ∀ v W', W'.ownsRow B0 T 14 v (m + 2) (xs ++ ys) → W.grownBy W' (Value.slice a m c).ownBlock → RtS T m xs ys ps B0 w6 (onL L 10) (updF f 10 v) W' := by
  obtain ⟨a, c, e6, ho⟩ := h.a6 h6 h10
  obtain ⟨k, e9, _, _, hr⟩ := h.a9 h9 h10
  refine ⟨a, c, k, e6, ho, e9, hr, fun v W' hown hg => ?_⟩
  obtain ⟨a', c', ev, _⟩ := own_form hown
  have hW : Below B0 W W' := own_below (Below.refl B0 W) ho h.sz hg
  refine ⟨fun q hq hL => ?_, h.hb.trans hW, Nat.le_trans h.sz hW.size, ?_, ?_, ?_, ?_, ?_, ?_⟩
  · rw [upT_ne (hp q hq)]; rw [onT_ne (hp q hq)] at hL; exact h.pur q hq hL
  · rw [onT_ne (i := 10) (j := 6) (by decide), h6]; intro _ e; cases e
  · rw [onT_eq]; intro _ e; cases e
  · rw [onT_eq]; intro _ e; cases e
  · rw [upT_eq]; intro _; exact ⟨a', c', ev, ev ▸ hown⟩
  · rw [onT_ne (i := 10) (j := 6) (by decide), onT_ne (i := 10) (j := 0) (by decide)]; exact h.d6
  · rw [onT_ne (i := 10) (j := 6) (by decide), onT_ne (i := 10) (j := 9) (by decide)]; intro _; exact ⟨h6, h9⟩
end
end Go.Proofs.YtenkeodfijladaaGreat

namespace Go.Proofs.YtenkeodfijladaaGreat

theorem gat_take {l : List Gn} {k i : Nat} (h : i < k) (hk : k ≤ l.length) (r : List Gn) : gat (l.take k ++ r) i = gat l i := by
  unfold gat
  rw [List.getD_eq_getElem?_getD, List.getD_eq_getElem?_getD, List.getElem?_append_left (by rw [List.length_take]; omega), List.getElem?_take_of_lt h]
theorem gat_end {l : List Gn} {k : Nat} (hk : k ≤ l.length) (r : List Gn) (q : Nat) : gat (l.take k ++ r) (k + q) = gat r q := by
  unfold gat
  rw [List.getD_eq_getElem?_getD, List.getD_eq_getElem?_getD, List.getElem?_append_right (by rw [List.length_take]; omega), List.length_take]
  congr 2
  omega
theorem items_fresh (n : Int) : itemsM (fresh n).m = [] := by
  unfold itemsM
  rw [if_pos (fresh_map n)]
  rfl
/-- The numbers ascend from 1. -/
theorem VldSl.num {s : Slt} (h : VldSl s) : ∀ i, i < s.gens.length → (i : Int) + 1 ≤ (gat s.gens i).num
  | 0, hi => by have := (h.vg hi).num; omega
  | i + 1, hi => by
    have h1 := VldSl.num h i (by omega)
    have h2 := (h.g (i + 1) hi).2.1 (by omega)
    rw [show i + 1 - 1 = i by omega] at h2
    omega
theorem VldSl.topv {s : Slt} (h : VldSl s) : VldG (topG s) ∧ (topG s).mode = 1 ∧ (topG s).size ≤ 2 * s.lim := by
  have hl := h.len
  have hi : s.gens.length - 1 < s.gens.length := by omega
  obtain ⟨h1, h2, h3, h4⟩ := h.g _ hi
  exact ⟨(vldG_iff _).1 h1, h3.2 (by omega), h4⟩
theorem rotS_vld {s : Slt} (h : (rotS s).2 = 0) : VldSl (rotS s).1 := by
  unfold rotS at h ⊢
  by_cases hv : vldSl s = true
  · rw [if_pos hv] at h ⊢
    by_cases hn : (topG s).num < 8
    · rw [if_pos hn] at h ⊢
      have hV := (vldSl_iff s).1 hv
      obtain ⟨ht, hm, hs⟩ := hV.topv
      have hl := hV.len
      have hnum := hV.num (s.gens.length - 1) (by omega)
      have hnum : ((s.gens.length - 1 : Nat) : Int) + 1 ≤ (topG s).num := hnum
      have hk : s.gens.length - 1 ≤ s.gens.length := by omega
      have hlen : (s.gens.take (s.gens.length - 1) ++ [{ topG s with mode := 2 }, fresh ((topG s).num + 1)]).length = s.gens.length + 1 := by
        simp only [List.length_append, List.length_take, List.length_cons, List.length_nil]; omega
      have hf := (fresh_vld ((topG s).num + 1)).2 (by omega)
      refine ⟨hV.id, hV.lim, by dsimp only; rw [hlen]; omega, fun i hi => ?_, ?_⟩
      · dsimp only at hi ⊢
        rw [hlen] at hi
        unfold okG
        dsimp only
        rw [hlen]
        by_cases h1 : i < s.gens.length - 1
        · have ho := hV.g i (by omega)
          rw [gat_take h1 hk, gat_take (show i - 1 < s.gens.length - 1 by omega) hk]
          refine ⟨ho.1, ho.2.1, ⟨fun e => ?_, fun e => by omega⟩, ho.2.2.2⟩
          have := ho.2.2.1.1 e
          omega
        · by_cases h2 : i = s.gens.length - 1
          · have e0 : gat (s.gens.take (s.gens.length - 1) ++ [{ topG s with mode := 2 }, fresh ((topG s).num + 1)]) i = { topG s with mode := 2 } := by
              have := gat_end hk [{ topG s with mode := 2 }, fresh ((topG s).num + 1)] 0
              rw [Nat.add_zero] at this
              rw [h2, this]; rfl
            rw [e0]
            refine ⟨(vldG_iff _).2 ⟨ht.num, ht.rev, by dsimp only; omega, ht.size, ht.m, ht.ends, ht.sum⟩, fun h0 => ?_, ⟨fun e => by dsimp only at e; omega, fun e => by omega⟩, hs⟩
            rw [gat_take (show i - 1 < s.gens.length - 1 by omega) hk]
            have := (hV.g i (by omega)).2.1 h0
            rw [h2] at this ⊢
            exact this
          · have h3 : i = s.gens.length - 1 + 1 := by omega
            have e0 : gat (s.gens.take (s.gens.length - 1) ++ [{ topG s with mode := 2 }, fresh ((topG s).num + 1)]) i = fresh ((topG s).num + 1) := by
              rw [h3, gat_end hk _ 1]; rfl
            have e1 : gat (s.gens.take (s.gens.length - 1) ++ [{ topG s with mode := 2 }, fresh ((topG s).num + 1)]) (i - 1) = { topG s with mode := 2 } := by
              have := gat_end hk [{ topG s with mode := 2 }, fresh ((topG s).num + 1)] 0
              rw [Nat.add_zero] at this
              rw [show i - 1 = s.gens.length - 1 by omega, this]; rfl
            rw [e0, e1]
            refine ⟨(vldG_iff _).2 hf, fun _ => by show (topG s).num < (topG s).num + 1; omega, ⟨fun _ => by omega, fun _ => rfl⟩, ?_⟩
            show (16 : Int) ≤ 2 * s.lim
            have := hV.lim
            omega
      · dsimp only
        rw [hlen]
        have e0 : gat (s.gens.take (s.gens.length - 1) ++ [{ topG s with mode := 2 }, fresh ((topG s).num + 1)]) (s.gens.length + 1 - 1) = fresh ((topG s).num + 1) := by
          rw [show s.gens.length + 1 - 1 = s.gens.length - 1 + 1 by omega, gat_end hk _ 1]; rfl
        rw [e0, items_fresh]
        show (16 : Int) + ((0 * 24 : Nat) : Int) ≤ 2 * s.lim
        have := hV.lim
        omega
    · rw [if_neg hn] at h; cases h
  · rw [if_neg hv] at h; cases h
theorem chgS_vld {s : Slt} {g : Gn} (h : (chgS s g).2 = 0) : VldSl (chgS s g).1 := by
  unfold chgS at h ⊢
  by_cases hv : vldSl s = true
  · rw [if_pos hv] at h ⊢
    by_cases hn : (s.gens.any fun x => decide (x.num = g.num)) = true
    · rw [if_pos hn] at h ⊢
      by_cases hw : vldSl ⟨s.id, s.lim, s.ro, putG s.gens g⟩ = true
      · rw [if_pos hw]; exact (vldSl_iff _).1 hw
      · rw [if_neg hw] at h; cases h
    · rw [if_neg hn] at h; cases h
  · rw [if_neg hv] at h; cases h
end Go.Proofs.YtenkeodfijladaaGreat

namespace Go.Proofs.YtenkeodfijladaaGreat
open Go.RowKit

set_option maxRecDepth 100000 in
set_option maxHeartbeats 4000000 in
theorem sgen_any (n r md z : Int) (s : Sl) (L G : Int) (w : World) : Calls Tryz.prog 58 #[genV n r md z s L G] w fun e w' => e = .returned (genV n r md z s L G) ∧ Below w.heap.size w w' := by
  obtain ⟨W0, hW0⟩ : ∃ W, w.alloc (.cells (genC n r md z s L G) 124) = W := ⟨_, rfl⟩
  have HX0 := Lib.hid (show BoxG W0 w.heap.size n r md z s L G from hW0 ▸ BoxG.new w n r md z s L G 124)
  have HB0 := Lib.hid (show Below w.heap.size w W0 from hW0 ▸ below_gen w n r md z s L G 124)
  have HR := Lib.hid (BoxG.new W0 0 0 0 0 Sl.nil 0 0 58)
  have HX := Lib.hid (HX0.out.below (below_gen W0 0 0 0 0 Sl.nil 0 0 58))
  have HB := Lib.hid (bstep HB0.out (below_gen W0 0 0 0 0 Sl.nil 0 0 58))
  have hlz : w.heap.size ≤ W0.heap.size := HB0.out.size
  have hz0 : W0.heap.size = w.heap.size + 1 := by rw [← hW0]; simp
  go_enter Tryz.func58, Tryz.ntmps58
  go_upto_region 1 with fail
  change Code.wp _ _ _ _ (W0.alloc (.cells (genC 0 0 0 0 Sl.nil 0 0) 58))
  clear hW0 HX0 HB0
  obtain ⟨W, hW⟩ : ∃ W, W0.alloc (.cells (genC 0 0 0 0 Sl.nil 0 0) 58) = W := ⟨_, rfl⟩
  rw [hW] at HX HB HR ⊢
  clear hW
  rw [hz0] at HR
  clear hz0
  have x0 := HX.out.n0
  have x1 := HX.out.n1
  have x2 := HX.out.n2
  have x3 := HX.out.n3
  have x4 := HX.out.c0
  have x5 := HX.out.c1
  have x6 := HX.out.c2
  have x7 := HX.out.c3
  have x8 := HX.out.c4
  have x9 := HX.out.c5
  have x10 := HX.out.c6
  have x11 := HX.out.c7
  have x12 := HX.out.cl
  have x13 := HX.out.cg
  have r0 := HR.out.n0
  have r1 := HR.out.n1
  have r2 := HR.out.n2
  have r3 := HR.out.n3
  have r4 := HR.out.c0
  have r5 := HR.out.c1
  have r6 := HR.out.c2
  have r7 := HR.out.c3
  have r8 := HR.out.c4
  have r9 := HR.out.c5
  have r10 := HR.out.c6
  have r11 := HR.out.c7
  have r12 := HR.out.cl
  have r13 := HR.out.cg
  have rf := HR.out.f
  go_wp2_with fail
  change bodyPost _ _ _ _ _ (pts W (w.heap.size + 1) (genL n r md z s L G))
  have hby := HR.out.all n r md z s L G
  have HBz := Lib.hid (pts_below (B := w.heap.size) (b := w.heap.size + 1) (by omega) (genL n r md z s L G) HB.out)
  generalize pts W (w.heap.size + 1) (genL n r md z s L G) = V at *
  exact bodyPost_ret (v := genV n r md z s L G) (by simp [results, Tryz.results58, go_sem, hby.n0, hby.n1, hby.n2, hby.n3, hby.c0, hby.c1, hby.c2, hby.c3, hby.c4, hby.c5, hby.c6, hby.c7, hby.cl, hby.cg]) rfl ⟨rfl, HBz.out⟩
end Go.Proofs.YtenkeodfijladaaGreat
