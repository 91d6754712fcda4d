/- DiskPrefix: the walk. Printed by mkDke.py. -/
import Derived.Test.YtkabcpmnbjllcaaDoorDkd
import Derived.Test.YtkabcpmnbjllcaaDoorDko
import Derived.Test.YtkabcpmnbjllcaaDoorYv
import Derived.Test.YtkabcpmnbjllcaaDoorRn
namespace Go.Proofs.YtkabcpmnbjllcaaDoor
open Go.RowKit

theorem KeepB.grown {B : Nat} {W W' : World} {row : Option Nat} (h : W.grownBy W' row) (hr : ∀ g, row = some g → g < B) : KeepB B W W' := ⟨h.size, fun b h0 hb => h.block b hb fun e => by have := hr b e.symm; omega⟩
theorem BoxD.grownN {W W' : World} {b : Nat} {c l : Int} {fv : Value} {row : Option Nat} (h : BoxD W b c l fv) (hg : W.grownBy W' row) (hr : row ≠ some b) : BoxD W' b c l fv := by
  have e : W'.heap[b]? = W.heap[b]? := hg.block b h.lt fun e => hr e.symm
  exact ⟨(World.cell?_of_block (a := ⟨b, 0, none⟩) e).trans h.c0, (World.cell?_of_block (a := ⟨b, 1, none⟩) e).trans h.c1, (World.cell?_of_block (a := ⟨b, 2, none⟩) e).trans h.c2, fun i => (World.frozen?_of_block (a := ⟨b, i, none⟩) e).trans (h.f i)⟩
/-- What holds ahead of the append of a round, and behind it. -/
structure PxW (w : World) (b9 b15 : Nat) (fv0 : Value) (d : Dk) (fv : Value) (B : Nat) (av : Value) (all : List UInt8) (W : World) : Prop where
  x9 : BoxD W b9 0 (-1) fv0
  k9 : BlkD W b9
  x15 : BoxD W b15 0 (-1) fv
  k15 : BlkD W b15
  st : StD B W (.agg #[.int .i64 0, .int .i64 (-1), fv]) d
  own : OwnU W w.heap.size av all
  hb : Below w.heap.size w W
theorem PxW.below {w : World} {b9 b15 : Nat} {fv0 : Value} {d : Dk} {fv : Value} {B : Nat} {av : Value} {all : List UInt8} {W W' : World} (h : PxW w b9 b15 fv0 d fv B av all W) (hb : Below W.heap.size W W') : PxW w b9 b15 fv0 d fv B av all W' :=
  ⟨h.x9.below hb, h.k9.below hb, h.x15.below hb, h.k15.below hb, h.st.keep (KeepB.below hb) (Nat.le_refl _), h.own.keep hb, bstep h.hb hb⟩
theorem PxW.app {w : World} {b9 b15 : Nat} {fv0 : Value} {d : Dk} {fv : Value} {B : Nat} {av av' : Value} {all p : List UInt8} {W W' : World} {n : Nat} (h : PxW w b9 b15 fv0 d fv B av all W) (hnb : ∀ g, av.ownBlock = some g → g < B) (hn : W'.ownsRow w.heap.size 5 1 av' n (all.map byteV ++ p.map byteV)) (hg : W.grownBy W' av.ownBlock) :
    PxW w b9 b15 fv0 d fv B av' (all ++ p) W' :=
  ⟨h.x9.grownN hg (h.k9.ne h.own (by decide)), h.k9.grown h.own (by decide) hg, h.x15.grownN hg (h.k15.ne h.own (by decide)), h.k15.grown h.own (by decide) hg, h.st.keep (KeepB.grown hg hnb) (Nat.le_refl _), OwnU.of hn (by rw [List.map_append]), own_below h.hb h.own h.hb.size hg⟩
def cut100 (l : List (List UInt8 × Value)) : List (List UInt8) := l.map fun q => q.1.take 100
theorem cut100_at (l : List (List UInt8 × Value)) (k : Nat) (h : k < l.length) : (cut100 l).take (k + 1) = (cut100 l).take k ++ [(l.getD k ([], .slice none 0 0)).1.take 100] := by
  unfold cut100
  rw [List.take_add_one, List.getElem?_map, List.getElem?_eq_getElem h, List.getD_eq_getElem?_getD, List.getElem?_eq_getElem h]
  rfl
theorem cut100_len (l : List (List UInt8 × Value)) : (cut100 l).length = l.length := by unfold cut100; rw [List.length_map]
theorem cut100_pip {base : List UInt8} {l : List (List UInt8 × Value)} (hb : base.length ≤ 300) (hl : l.length ≤ 8) (k : Nat) : PiP base ((cut100 l).take k) := by
  have : PiP base (cut100 l) := ⟨hb, by rw [cut100_len]; exact hl, fun p hp => by
    obtain ⟨q, _, rfl⟩ := List.mem_map.1 hp
    rw [List.length_take]; omega⟩
  exact this.take k
/-- The region of a round that draws: x is read, the piece is put behind all, the disk is stored. -/
structure PxS (w : World) (b9 b15 : Nat) (fv0 : Value) (d : Dk) (fv : Value) (B : Nat) (av : Value) (all p : List UInt8) (pv : Value) (ps : List (Nat × Value)) (L : Nat → Bool) (f : Nat → Value) (W : World) : Prop where
  pur : Pur ps L f
  pre : L 3 = false → PxW w b9 b15 fv0 d fv B av all W ∧ RdB W pv p
  post : L 3 = true → PxW w b9 b15 fv0 d fv B (f 3) (all ++ p) W
theorem PxS.pure {w : World} {b9 b15 : Nat} {fv0 : Value} {d : Dk} {fv : Value} {B : Nat} {av : Value} {all p : List UInt8} {pv : Value} {ps : List (Nat × Value)} {L : Nat → Bool} {f : Nat → Value} {W : World} (h : PxS w b9 b15 fv0 d fv B av all p pv ps L f W) {i : Nat} {v : Value} (h3 : 3 ≠ i) (hp : ∀ q ∈ ps, q.1 = i → v = q.2) :
    PxS w b9 b15 fv0 d fv B av all p pv ps (onL L i) (updF f i v) W := by
  refine ⟨h.pur.one hp, fun e => ?_, fun e => ?_⟩
  · rw [onL_ne h3] at e; exact h.pre e
  · rw [onL_ne h3] at e; rw [updF_ne h3]; exact h.post e
theorem PxS.x15 {w : World} {b9 b15 : Nat} {fv0 : Value} {d : Dk} {fv : Value} {B : Nat} {av : Value} {all p : List UInt8} {pv : Value} {ps : List (Nat × Value)} {L : Nat → Bool} {f : Nat → Value} {W : World} (h : PxS w b9 b15 fv0 d fv B av all p pv ps L f W) : BoxD W b15 0 (-1) fv := by
  cases e : L 3 with
  | false => exact (h.pre e).1.x15
  | true => exact (h.post e).x15
set_option maxRecDepth 100000 in
set_option maxHeartbeats 6400000 in
theorem prefix_go (bsv lv : Value) (base : List UInt8) (l : List (List UInt8 × Value)) (wr_ torn : Int) (w : World) (h1 : RdB w bsv base) (h2 : RdP w lv l) : Calls Tryd.prog 5 #[bsv, lv, .int .i64 wr_, .int .i64 torn] w fun e w' => e = .returned (.bool true) ∧ Below w.heap.size w w' := by
  obtain ⟨aa, ac, rfl, _⟩ := h1.shape0
  obtain ⟨la, lc, rfl, hlc1, hlc2, hlc3, _⟩ := RdS.shape h2.1 (by decide) ([], .slice none 0 0)
  by_cases hbig : 300 < base.length ∨ 8 < l.length
  · clear h1 h2
    generalize base.length = n at *
    generalize l.length = m at *
    by_cases hn : 300 < n
    · have i1 : (300 : Int) < (n : Int) := by omega
      clear hbig
      go_enter Tryd.func5, Tryd.ntmps5
      go_wp2_with fail
      refine (awake_any _).mono ?_
      rintro e w15 ⟨rfl, hb15⟩
      go_wp2_with fail
      go_ret
      exact ⟨rfl, hb15⟩
    · have i1 : ¬ (300 : Int) < (n : Int) := by omega
      have i2 : (8 : Int) < (m : Int) := by omega
      clear hbig
      go_enter Tryd.func5, Tryd.ntmps5
      go_wp2_with fail
      refine (awake_any _).mono ?_
      rintro e w15 ⟨rfl, hb15⟩
      go_wp2_with fail
      go_ret
      exact ⟨rfl, hb15⟩
  have hbl : base.length ≤ 300 := by omega
  have hll : l.length ≤ 8 := by omega
  have i1 : ¬ (300 : Int) < (base.length : Int) := by omega
  have i2 : ¬ (8 : Int) < (l.length : Int) := by omega
  have HP := Lib.hid (fun k => cut100_pip hbl hll k)
  have HPk := Lib.hid (fun k (hk : k < l.length) => cut100_at l k hk)
  have HB0 := Lib.hid h1
  have HL := Lib.hid h2
  clear hbig h1 h2
  have HNew := Lib.hid (show ∀ W, Calls Tryd.prog 25 #[.int .i64 0] W fun e w' => e = .returned (.agg #[.int .i64 0, .int .i64 (-1), .slice none 0 0]) ∧ Below W.heap.size W w' from fun W => new_any 0 W)
  have HCre := Lib.hid (show ∀ W, Calls Tryd.prog 27 #[.agg #[.int .i64 0, .int .i64 (-1), .slice none 0 0], .string ⟨#[102]⟩] W (OpR W.heap.size W 0 (-1) 0 (qD [] [])) from fun W => by
    have := create_any ⟨0, -1, []⟩ sF nilS W (RdF_nil _) (lite_dec _ (by decide +kernel)) (by decide)
    rw [px_create] at this
    exact this.mono fun _ _ h => h.op)
  have HAp1 := Lib.hid (show ∀ W fv bv, RdF W fv (qD [] []).files → RdB W bv base → Calls Tryd.prog 28 #[.agg #[.int .i64 0, .int .i64 (-1), fv], .string ⟨#[102]⟩, bv] W (OpR W.heap.size W 0 (-1) 0 (qD [] [⟨0, base, false⟩])) from fun W fv bv h hb => by
    have := append_any (qD [] []) sF base fv bv W h (lite_few (px_v1) (qD_pend (by decide)) (by simp [qD]) (by simp [qD])) (by decide) hb (by omega)
    rw [px_append hbl] at this
    exact this.mono fun _ _ h => h.op)
  have HSy1 := Lib.hid (show ∀ W fv, RdF W fv (qD [] [⟨0, base, false⟩]).files → Calls Tryd.prog 31 #[.agg #[.int .i64 0, .int .i64 (-1), fv], .string ⟨#[102]⟩] W (OpR W.heap.size W 0 (-1) 0 (qD base (wsP base.length ((cut100 l).take 0)))) from fun W fv h => by
    have := sync_any (qD [] [⟨0, base, false⟩]) sF fv W h (lite_few (px_v2 hbl) (qD_pend (by simp)) (by simp [qD]) (by simp [qD])) (by decide)
    rw [px_sync hbl] at this
    exact this.mono fun _ _ h => h.op)
  have HApp := Lib.hid (show ∀ k, k < l.length → ∀ W fv bv, RdF W fv (qD base (wsP base.length ((cut100 l).take k))).files → RdB W bv ((l.getD k ([], .slice none 0 0)).1.take 100) → Calls Tryd.prog 28 #[.agg #[.int .i64 0, .int .i64 (-1), fv], .string ⟨#[102]⟩, bv] W (OpR W.heap.size W 0 (-1) 0 (qD base (wsP base.length ((cut100 l).take (k + 1))))) from fun k hk W fv bv h hb => by
    have := append_any (qD base (wsP base.length ((cut100 l).take k))) sF _ fv bv W h (lite_few ((HP.out k).valid) (qD_pend (by rw [wsP_len, List.length_take]; rw [cut100_len]; omega)) (by simp [qD]) (by simp [qD])) (by decide) hb (by rw [List.length_take]; omega)
    rw [PiP.append (by rw [← cut100_at l k hk]; exact HP.out (k + 1)) (HP.out k), ← cut100_at l k hk] at this
    exact this.mono fun _ _ h => h.op)
  obtain ⟨N, hN1, hN2, hN3⟩ := (HP.out l.length).crash wr_ torn
  have hall := (HP.out l.length).all
  have HCr := Lib.hid (show ∀ W fv kv, RdF W fv (qD base (wsP base.length ((cut100 l).take l.length))).files → RdK W kv [⟨sF, wr_, torn⟩] → Calls Tryd.prog 30 #[.agg #[.int .i64 0, .int .i64 (-1), fv], kv] W (DkR W.heap.size W 0 (-1) (qD ((base ++ ((cut100 l).take l.length).flatten).take N) [])) from fun W fv kv h hk => by
    have := crash_any _ _ fv kv W h (lite_few ((HP.out l.length).valid) (qD_pend (by rw [wsP_len, List.length_take, cut100_len]; omega)) (by simp [qD]) (by simp [qD])) hk (by simp)
    rw [hN3] at this
    exact this.mono fun _ _ h => DkR.of h)
  have HFl := Lib.hid (fun k (hk : k < l.length) => show base ++ ((cut100 l).take (k + 1)).flatten = base ++ ((cut100 l).take k).flatten ++ (l.getD k ([], .slice none 0 0)).1.take 100 by
    rw [cut100_at l k hk, List.flatten_append, List.append_assoc]; simp)
  have HTot := Lib.hid (fun k => (HP.out k).all)
  have HF0 := Lib.hid (show base ++ ((cut100 l).take 0).flatten = base by simp)
  generalize hALL : base ++ ((cut100 l).take l.length).flatten = ALL at *
  have HALL := Lib.hid hALL
  have hX : (ALL.take N).length = N := by rw [List.length_take]; omega
  have HSz := Lib.hid (show ∀ W fv, RdF W fv (qD (ALL.take N) []).files → Calls Tryd.prog 29 #[.agg #[.int .i64 0, .int .i64 (-1), fv], .string ⟨#[102]⟩] W fun e w' => e = .returned (.tuple #[.int .i64 (N : Int), .int .i64 0]) ∧ Below W.heap.size W w' from fun W fv h => by
    have := size_any (qD (ALL.take N) []) sF fv W h (lite_few (px_v3 (by omega)) (qD_pend (by decide)) (by simp [qD]) (by simp [qD])) (by decide)
    rw [px_size (by omega), hX] at this
    exact this)
  have HRd := Lib.hid (show ∀ W fv, RdF W fv (qD (ALL.take N) []).files → Calls Tryd.prog 32 #[.agg #[.int .i64 0, .int .i64 (-1), fv], .string ⟨#[102]⟩, .int .i64 0, .int .i64 (N : Int)] W (ReadRes W (ALL.take N, 0)) from fun W fv h => by
    have := read_any (qD (ALL.take N) []) sF 0 (N : Int) fv W h (lite_few (px_v3 (by omega)) (qD_pend (by decide)) (by simp [qD]) (by simp [qD])) (by decide)
    have e := px_read (c := ALL.take N) (by omega)
    rw [hX] at e
    rw [e] at this
    exact this)
  have Hcap := Lib.hid (show ∀ c ws W b fv, BoxR W b (qD c ws) fv → W.cell? ⟨b, 0, none⟩ = some (.int .i64 0) ∧ W.cell? ⟨b, 1, none⟩ = some (.int .i64 (-1)) ∧ W.cell? ⟨b, 2, none⟩ = some fv from fun c ws W b fv h => ⟨h.x.c0, h.x.c1, h.x.c2⟩)
  have hAl : N ≤ ALL.length := hN2
  clear hN3 hX hALL
  generalize hbn : base.length = bn at *
  have Hbn := Lib.hid hbn
  clear hbn
  generalize hln : l.length = ln at *
  have Hln := Lib.hid hln
  clear hln
  go_enter Tryd.func5, Tryd.ntmps5
  go_wp2_with fail
  refine (HNew.out _).mono ?_
  rintro e w1 ⟨rfl, hb1⟩
  have HB1 := Lib.hid hb1
  clear hb1
  go_wp2_with fail
  refine (HCre.out _).mono ?_
  rintro e w2 ⟨a2, n2, c2, rfl, hs2, hf2, hb2⟩
  have HB2 := Lib.hid (bstep HB1.out hb2)
  clear hb2
  have X := Lib.hid (BoxR.new hf2)
  have HB := Lib.hid (HB2.out.alloc HB2.out.size (.cells #[.int .i64 0, .int .i64 (-1), .slice a2 n2 c2] 33))
  have K9 := Lib.hid (show BlkD (w2.alloc (.cells #[.int .i64 0, .int .i64 (-1), .slice a2 n2 c2] 33)) w2.heap.size from ⟨_, _, heap_alloc_new w2 _⟩)
  change Hid (BoxR (w2.alloc (.cells #[.int .i64 0, .int .i64 (-1), .slice a2 n2 c2] 33)) _ _ _) at X
  clear hs2 hf2
  have hb0 := HB2.out.size
  clear HB1 HB2
  go_upto_region 4 with fail
  generalize w2.alloc (.cells #[.int .i64 0, .int .i64 (-1), .slice a2 n2 c2] 33) = W0 at *
  generalize w2.heap.size = b0 at *
  obtain ⟨x0, x1, x2⟩ := Hcap.out _ _ _ _ _ X.out
  go_wp2_with fail
  refine (HAp1.out _ _ _ X.out.r (HB0.out.below HB.out)).mono ?_
  rintro e w3 ⟨a3, n3, c3, rfl, hs, _, hb3⟩
  have Y := Lib.hid (X.out.below hb3)
  have HBY := Lib.hid (bstep HB.out hb3)
  have X2 := Lib.hid (Y.out.x.put hs X.out.x.lt)
  have HB3 := Lib.hid (HBY.out.all3 (b := b0) hb0 (.int .i64 0) (.int .i64 (-1)) (.slice a3 n3 c3))
  have K92 := Lib.hid ((K9.out.below hb3).all3 b0 (.int .i64 0) (.int .i64 (-1)) (.slice a3 n3 c3))
  change Hid (BoxR (((w3.setCell ⟨b0, 0, none⟩ (.int .i64 0)).setCell ⟨b0, 1, none⟩ (.int .i64 (-1))).setCell ⟨b0, 2, none⟩ (.slice a3 n3 c3)) _ _ _) at X2
  clear hs hb3 x0 x1 x2 X HB K9
  obtain ⟨x0, x1, x2⟩ := Hcap.out _ _ _ _ _ Y.out
  have xf := Y.out.x.f
  go_upto_region 5 with fail
  clear x0 x1 x2 xf Y HBY
  generalize (((w3.setCell ⟨b0, 0, none⟩ (.int .i64 0)).setCell ⟨b0, 1, none⟩ (.int .i64 (-1))).setCell ⟨b0, 2, none⟩ (.slice a3 n3 c3)) = WW3 at *
  have X := Lib.hid X2.out
  have HB := Lib.hid HB3.out
  have K9 := Lib.hid K92.out
  clear X2 HB3 K92
  obtain ⟨x0, x1, x2⟩ := Hcap.out _ _ _ _ _ X.out
  go_wp2_with fail
  refine (HSy1.out _ _ X.out.r).mono ?_
  rintro e w4 ⟨a4, n4, c4, rfl, hs, _, hb4⟩
  have Y := Lib.hid (X.out.below hb4)
  have HBY := Lib.hid (bstep HB.out hb4)
  have X2 := Lib.hid (Y.out.x.put hs X.out.x.lt)
  have HB3 := Lib.hid (HBY.out.all3 (b := b0) hb0 (.int .i64 0) (.int .i64 (-1)) (.slice a4 n4 c4))
  have K92 := Lib.hid ((K9.out.below hb4).all3 b0 (.int .i64 0) (.int .i64 (-1)) (.slice a4 n4 c4))
  change Hid (BoxR (((w4.setCell ⟨b0, 0, none⟩ (.int .i64 0)).setCell ⟨b0, 1, none⟩ (.int .i64 (-1))).setCell ⟨b0, 2, none⟩ (.slice a4 n4 c4)) _ _ _) at X2
  clear hs hb4 x0 x1 x2 X HB K9
  obtain ⟨x0, x1, x2⟩ := Hcap.out _ _ _ _ _ Y.out
  have xf := Y.out.x.f
  go_upto_region 6 with fail
  clear x0 x1 x2 xf Y HBY
  generalize (((w4.setCell ⟨b0, 0, none⟩ (.int .i64 0)).setCell ⟨b0, 1, none⟩ (.int .i64 (-1))).setCell ⟨b0, 2, none⟩ (.slice a4 n4 c4)) = WW4 at *
  have X := Lib.hid X2.out
  have HB := Lib.hid HB3.out
  have K9 := Lib.hid K92.out
  clear X2 HB3 K92
  have hA0 := HB.out.size
  have hba := HB0.out.below HB.out
  have HR1 := Lib.hid (show Rd WW4 1 (.slice aa bn ac) bn (base.map byteV) from by
    have h : RdL byteV WW4 (.slice aa bn ac) base := hba
    unfold RdL at h
    rw [Hbn.out] at h
    exact h)
  clear hba
  go_wp2_with (at_builtin; go_must (refine wpList_app rfl (.tmp 47) (.tmp 48) 47 rfl elemU8 w.heap.size rfl (World.ownsRow_made (size := 1) _ #[] 0 hA0 (by decide) rfl) rfl (HR1.out.alloc _) (bytes_one base) (by unfold maxLen; omega) (by omega) (by simp; omega) ?_); intro v3 w3 hown3 hgr3 hv3; clear hv3)
  have HC := own_below ((Below.refl WW4.heap.size WW4).alloc (Nat.le_refl _) _) (World.ownsRow_made (e := 5) (size := 1) WW4 #[] 0 (Nat.le_refl _) (by decide) rfl) (by simp) hgr3
  have X3 := Lib.hid (X.out.below HC)
  have K3 := Lib.hid (K9.out.below HC)
  have HB3 := Lib.hid (bstep HB.out HC)
  have HO3 := Lib.hid (show OwnU w3 w.heap.size v3 (base ++ ((cut100 l).take 0).flatten) by rw [HF0.out]; exact OwnU.of hown3 (List.nil_append _))
  obtain ⟨va, vc, e3, _⟩ := HO3.out.form
  subst e3
  have hva : (base ++ ((cut100 l).take 0).flatten).length ≤ 1100 := HTot.out 0
  generalize hvn : (base ++ ((cut100 l).take 0).flatten).length = vn at *
  have Hvn := Lib.hid hvn
  clear hvn hown3 hgr3 HC X HB K9 HR1
  go_wp2_with fail
  go_loopw [12, 52] (fun av iv W => ∃ (k : Nat) (ua : Option Addr) (un uc : Nat), av = .slice ua un uc ∧ iv = .int .i64 (k : Int) ∧ k ≤ ln ∧ Hid ((base ++ ((cut100 l).take k).flatten).length = un) ∧ Hid (OwnU W w.heap.size (.slice ua un uc) (base ++ ((cut100 l).take k).flatten)) ∧ ∃ ra rn rc, Hid (BoxR W b0 (qD base (wsP bn ((cut100 l).take k))) (.slice ra rn rc)) ∧ Hid (BlkD W b0) ∧ Hid (Below w.heap.size w W)) (fun _ iv _ => ln - (intOf iv).toNat)
  case atStart => exact ⟨0, _, _, _, rfl, rfl, Nat.zero_le _, Hvn, HO3, _, _, _, X3, K3, HB3⟩
  case round =>
    obtain ⟨k, ua, un, uc, rfl, rfl, hk, Hun, HO, ra, rn, rc, X, K, HB⟩ := hrel
    clear X3 K3 HB3 HO3 Hvn hva
    obtain ⟨x0, x1, x2⟩ := Hcap.out _ _ _ _ _ X.out
    by_cases hlt : k < ln
    · have j1 : (k : Int) < (ln : Int) := by omega
      obtain ⟨hnn, bb, off, rfl, c0, hpb⟩ := (HL.out.below HB.out).at hlt
      clear hnn
      have HAk := Lib.hid (HApp.out k hlt)
      have HFk := Lib.hid (HFl.out k hlt)
      generalize l.getD k ([], .slice none 0 0) = q at *
      obtain ⟨p0, pv⟩ := q
      dsimp only at *
      obtain ⟨pa, pc, rfl, hp1, hp2, _⟩ := hpb.shape0
      by_cases hbig : 100 < p0.length
      · have j2 : (100 : Int) < (p0.length : Int) := by omega
        obtain ⟨pq, hsl, hpq⟩ := slice_by hpb 100 (by omega)
        have HP0 := Lib.hid hpq
        have hPl : (p0.take 100).length = 100 := by rw [List.length_take]; omega
        have hsl2 := fun W kh => hsl W kh
        clear hsl hpb hpq
        generalize p0.take 100 = P at *
        generalize p0.length = pl at *
        change ∀ W kh, (Instr.slice 47 (.slice pa pl pc) none (some (.int kh 100)) none).run Tryd.prog W = .ok (.slice pq 100 pc) W at hsl2
        have HPl := Lib.hid hPl
        clear hPl
        have HW := Lib.hid (show RdB wr (.slice pq 100 pc) P from HP0.out)
        go_wp2_with fail
        refine (HAk.out _ _ _ X.out.r HW.out).mono ?_
        rintro e w7 ⟨a7, n7, c7, rfl, hs7, _, hb7⟩
        have hA := (Below.refl w7.heap.size w7).alloc (Nat.le_refl _) (.cells #[.int .i64 0, .int .i64 (-1), .slice a7 n7 c7] 33)
        have hb78 := bstep hb7 hA
        have HX := Lib.hid (show PxW w b0 w7.heap.size (.slice ra rn rc) (qD base (wsP bn ((cut100 l).take (k + 1)))) (.slice a7 n7 c7) wr.heap.size (.slice ua un uc) (base ++ ((cut100 l).take k).flatten) (w7.alloc (.cells #[.int .i64 0, .int .i64 (-1), .slice a7 n7 c7] 33)) from
          ⟨X.out.x.below hb78, K.out.below hb78, BoxD.new w7 _ _ _ _, ⟨_, _, heap_alloc_new w7 _⟩, hs7.keep (KeepB.below hA) (Nat.le_refl _), HO.out.keep hb78, bstep HB.out hb78⟩)
        have HW8 := Lib.hid (HW.out.below hb78)
        have hnb := fun g e => (HO.out.lt g e).2
        have hbx := X.out.x.lt
        have Hnb := Lib.hid hnb
        have Hun0 := Lib.hid (show un ≤ 1100 by rw [← Hun.out]; exact HTot.out k)
        have hun := Hun0.out
        have Hun1 := Lib.hid (HTot.out (k + 1))
        clear hA hs7 hb7 hb78 x0 x1 x2 c0 X K HB HW HP0 HO HAk hnb
        go_upto_region 15 with fail
        generalize w7.alloc (.cells #[.int .i64 0, .int .i64 (-1), .slice a7 n7 c7] 33) = w8 at *
        generalize w7.heap.size = b7 at *
        refine wp_region_inv 4 (fun L f W => PxS w b0 b7 (.slice ra rn rc) (qD base (wsP bn ((cut100 l).take (k + 1)))) (.slice a7 n7 c7) wr.heap.size (.slice ua un uc) (base ++ ((cut100 l).take k).flatten) P (.slice pq 100 pc) [(0, .agg #[.int .i64 0, .int .i64 (-1), .slice a7 n7 c7]), (1, .slice ua un uc), (2, .slice pq 100 pc)] L f W) 125 (by kernel_rfl) (by kernel_rfl) (by rfl) (by kernel_rfl) (fun f => by simp [frm, dstOf, Act.put]; exact rfl) (fun f => ⟨(fun _ _ h => by cases h), (fun _ => ⟨HX.out.below (below_drew (Below.refl _ _)), HW8.out.below (below_drew (Below.refl _ _))⟩), fun h => by cases h⟩) ?_ ?_
        · refine ⟨?_, ?_, ?_, ?_, trivial⟩
          · intro L f w1 h0 hd hI
            have HI1 := Lib.hid hI
            clear hI hd
            have y0 := HI1.out.x15.c0
            have y1 := HI1.out.x15.c1
            have y2 := HI1.out.x15.c2
            dsimp only
            go_wp2_with fail
            exact ⟨rfl, (fun h => by cases h), fun t ht => by injection ht with ht; subst ht; exact HI1.out.pure (v := .agg #[.int .i64 0, .int .i64 (-1), .slice a7 n7 c7]) (by decide) (by simp)⟩
          · intro L f w1 h0 hd hI
            have HI1 := Lib.hid hI
            clear hI hd
            dsimp only
            go_wp2_with fail
            exact ⟨rfl, (fun h => by cases h), fun t ht => by injection ht with ht; subst ht; exact HI1.out.pure (v := .slice ua un uc) (by decide) (by simp)⟩
          · intro L f w1 h0 hd hI
            have HI1 := Lib.hid hI
            clear hI hd
            dsimp only
            go_wp2_with fail
            exact ⟨rfl, (fun h => by cases h), fun t ht => by injection ht with ht; subst ht; exact HI1.out.pure (v := .slice pq 100 pc) (by decide) (by simp)⟩
          · intro L f w1 h0 hd hI
            have HI1 := Lib.hid hI
            have d1 : f 1 = .slice ua un uc := hI.pur (1, .slice ua un uc) (by simp) (hd 1 (by kernel_rfl))
            have d2 : f 2 = .slice pq 100 pc := hI.pur (2, .slice pq 100 pc) (by simp) (hd 2 (by kernel_rfl))
            have hown := (hI.pre h0).1.own
            have hsrc := (hI.pre h0).2
            have hsz := (hI.pre h0).1.hb.size
            clear hI hd
            dsimp only
            rw [d1, d2]
            clear d1 d2
            have HR1 := Lib.hid (show Rd w1 1 (.slice pq 100 pc) 100 (P.map byteV) from by
              have h : RdL byteV w1 (.slice pq 100 pc) P := hsrc
              unfold RdL at h
              rw [HPl.out] at h
              exact h)
            have HOw := Lib.hid (show w1.ownsRow w.heap.size 5 1 (.slice ua un uc) un ((base ++ ((cut100 l).take k).flatten).map byteV) from by
              have h : w1.ownsRow w.heap.size 5 1 (.slice ua un uc) (base ++ ((cut100 l).take k).flatten).length ((base ++ ((cut100 l).take k).flatten).map byteV) := hown
              rw [Hun.out] at h
              exact h)
            clear hown hsrc
            refine wpList_app rfl (.tmp 70) (.tmp 71) 47 rfl elemU8 w.heap.size rfl HOw.out rfl HR1.out (bytes_one P) (by unfold maxLen; omega) (by omega) hsz ?_
            intro v' w' hown' hgr' _
            have HQ := Lib.hid ((HI1.out.pre h0).1.app Hnb.out hown' hgr')
            refine ⟨rfl, (fun h => by cases h), fun t ht => ?_⟩
            injection ht with ht
            subst ht
            exact ⟨HI1.out.pur.one (by simp), (fun e => by rw [onL_eq] at e; cases e), fun _ => HQ.out⟩
        · intro L f w1 hA hI
          have d0 : f 0 = .agg #[.int .i64 0, .int .i64 (-1), .slice a7 n7 c7] := hI.pur (0, .agg #[.int .i64 0, .int .i64 (-1), .slice a7 n7 c7]) (by simp) (hA 0 (by decide))
          have HQ := Lib.hid (hI.post (hA 3 (by decide)))
          clear hI hA
          obtain ⟨ua', uc', e3, _⟩ := HQ.out.own.form
          rw [← HFk.out] at HQ e3
          rw [d0]
          generalize f 3 = v3' at *
          subst e3
          generalize hul : (base ++ ((cut100 l).take (k + 1)).flatten).length = un' at *
          have Hul := Lib.hid hul
          have y0 := HQ.out.x9.c0
          have y1 := HQ.out.x9.c1
          have y2 := HQ.out.x9.c2
          have yf := HQ.out.x9.f
          have X9 := Lib.hid (BoxD.put (d := qD base (wsP bn ((cut100 l).take (k + 1)))) HQ.out.x9 HQ.out.st hbx)
          have K9 := Lib.hid (HQ.out.k9.all3 b0 (.int .i64 0) (.int .i64 (-1)) (.slice a7 n7 c7))
          have HB9 := Lib.hid (HQ.out.hb.all3 (b := b0) hb0 (.int .i64 0) (.int .i64 (-1)) (.slice a7 n7 c7))
          have hne := HQ.out.k9.ne HQ.out.own (by decide)
          have HO9 := Lib.hid (show OwnU (((w1.setCell ⟨b0, 0, none⟩ (.int .i64 0)).setCell ⟨b0, 1, none⟩ (.int .i64 (-1))).setCell ⟨b0, 2, none⟩ (.slice a7 n7 c7)) w.heap.size (.slice ua' un' uc') _ from own_set_ne (p := ⟨b0, 2, none⟩) (own_set_ne (p := ⟨b0, 1, none⟩) (own_set_ne (p := ⟨b0, 0, none⟩) HQ.out.own hne _) hne _) hne _)
          change Hid (BoxR (((w1.setCell ⟨b0, 0, none⟩ (.int .i64 0)).setCell ⟨b0, 1, none⟩ (.int .i64 (-1))).setCell ⟨b0, 2, none⟩ (.slice a7 n7 c7)) _ _ _) at X9
          clear hul hne d0 HQ
          go_wp2_with fail
          exact ⟨⟨k + 1, _, _, _, rfl, by go_num, by omega, Hul, HO9, _, _, _, X9, K9, HB9⟩, by simp [intOf]; omega⟩
      · have j2 : ¬ (100 : Int) < (p0.length : Int) := by omega
        have hP : p0.take 100 = p0 := List.take_of_length_le (by omega)
        rw [hP] at HAk HFk
        have HP0 := Lib.hid hpb
        clear hpb hP
        generalize hPl : p0.length = pl at *
        have HPl := Lib.hid hPl
        clear hPl
        have HW := Lib.hid (show RdB wr (.slice pa pl pc) p0 from HP0.out)
        go_wp2_with fail
        refine (HAk.out _ _ _ X.out.r HW.out).mono ?_
        rintro e w7 ⟨a7, n7, c7, rfl, hs7, _, hb7⟩
        have hA := (Below.refl w7.heap.size w7).alloc (Nat.le_refl _) (.cells #[.int .i64 0, .int .i64 (-1), .slice a7 n7 c7] 33)
        have hb78 := bstep hb7 hA
        have HX := Lib.hid (show PxW w b0 w7.heap.size (.slice ra rn rc) (qD base (wsP bn ((cut100 l).take (k + 1)))) (.slice a7 n7 c7) wr.heap.size (.slice ua un uc) (base ++ ((cut100 l).take k).flatten) (w7.alloc (.cells #[.int .i64 0, .int .i64 (-1), .slice a7 n7 c7] 33)) from
          ⟨X.out.x.below hb78, K.out.below hb78, BoxD.new w7 _ _ _ _, ⟨_, _, heap_alloc_new w7 _⟩, hs7.keep (KeepB.below hA) (Nat.le_refl _), HO.out.keep hb78, bstep HB.out hb78⟩)
        have HW8 := Lib.hid (HW.out.below hb78)
        have hnb := fun g e => (HO.out.lt g e).2
        have hbx := X.out.x.lt
        have Hnb := Lib.hid hnb
        have Hun0 := Lib.hid (show un ≤ 1100 by rw [← Hun.out]; exact HTot.out k)
        have hun := Hun0.out
        have Hun1 := Lib.hid (HTot.out (k + 1))
        clear hA hs7 hb7 hb78 x0 x1 x2 c0 X K HB HW HP0 HO HAk hnb
        go_upto_region 15 with fail
        generalize w7.alloc (.cells #[.int .i64 0, .int .i64 (-1), .slice a7 n7 c7] 33) = w8 at *
        generalize w7.heap.size = b7 at *
        refine wp_region_inv 4 (fun L f W => PxS w b0 b7 (.slice ra rn rc) (qD base (wsP bn ((cut100 l).take (k + 1)))) (.slice a7 n7 c7) wr.heap.size (.slice ua un uc) (base ++ ((cut100 l).take k).flatten) p0 (.slice pa pl pc) [(0, .agg #[.int .i64 0, .int .i64 (-1), .slice a7 n7 c7]), (1, .slice ua un uc), (2, .slice pa pl pc)] L f W) 125 (by kernel_rfl) (by kernel_rfl) (by rfl) (by kernel_rfl) (fun f => by simp [frm, dstOf, Act.put]; exact rfl) (fun f => ⟨(fun _ _ h => by cases h), (fun _ => ⟨HX.out.below (below_drew (Below.refl _ _)), HW8.out.below (below_drew (Below.refl _ _))⟩), fun h => by cases h⟩) ?_ ?_
        · refine ⟨?_, ?_, ?_, ?_, trivial⟩
          · intro L f w1 h0 hd hI
            have HI1 := Lib.hid hI
            clear hI hd
            have y0 := HI1.out.x15.c0
            have y1 := HI1.out.x15.c1
            have y2 := HI1.out.x15.c2
            dsimp only
            go_wp2_with fail
            exact ⟨rfl, (fun h => by cases h), fun t ht => by injection ht with ht; subst ht; exact HI1.out.pure (v := .agg #[.int .i64 0, .int .i64 (-1), .slice a7 n7 c7]) (by decide) (by simp)⟩
          · intro L f w1 h0 hd hI
            have HI1 := Lib.hid hI
            clear hI hd
            dsimp only
            go_wp2_with fail
            exact ⟨rfl, (fun h => by cases h), fun t ht => by injection ht with ht; subst ht; exact HI1.out.pure (v := .slice ua un uc) (by decide) (by simp)⟩
          · intro L f w1 h0 hd hI
            have HI1 := Lib.hid hI
            clear hI hd
            dsimp only
            go_wp2_with fail
            exact ⟨rfl, (fun h => by cases h), fun t ht => by injection ht with ht; subst ht; exact HI1.out.pure (v := .slice pa pl pc) (by decide) (by simp)⟩
          · intro L f w1 h0 hd hI
            have HI1 := Lib.hid hI
            have d1 : f 1 = .slice ua un uc := hI.pur (1, .slice ua un uc) (by simp) (hd 1 (by kernel_rfl))
            have d2 : f 2 = .slice pa pl pc := hI.pur (2, .slice pa pl pc) (by simp) (hd 2 (by kernel_rfl))
            have hown := (hI.pre h0).1.own
            have hsrc := (hI.pre h0).2
            have hsz := (hI.pre h0).1.hb.size
            clear hI hd
            dsimp only
            rw [d1, d2]
            clear d1 d2
            have HR1 := Lib.hid (show Rd w1 1 (.slice pa pl pc) pl (p0.map byteV) from by
              have h : RdL byteV w1 (.slice pa pl pc) p0 := hsrc
              unfold RdL at h
              rw [HPl.out] at h
              exact h)
            have HOw := Lib.hid (show w1.ownsRow w.heap.size 5 1 (.slice ua un uc) un ((base ++ ((cut100 l).take k).flatten).map byteV) from by
              have h : w1.ownsRow w.heap.size 5 1 (.slice ua un uc) (base ++ ((cut100 l).take k).flatten).length ((base ++ ((cut100 l).take k).flatten).map byteV) := hown
              rw [Hun.out] at h
              exact h)
            clear hown hsrc
            refine wpList_app rfl (.tmp 70) (.tmp 71) 47 rfl elemU8 w.heap.size rfl HOw.out rfl HR1.out (bytes_one p0) (by unfold maxLen; omega) (by omega) hsz ?_
            intro v' w' hown' hgr' _
            have HQ := Lib.hid ((HI1.out.pre h0).1.app Hnb.out hown' hgr')
            refine ⟨rfl, (fun h => by cases h), fun t ht => ?_⟩
            injection ht with ht
            subst ht
            exact ⟨HI1.out.pur.one (by simp), (fun e => by rw [onL_eq] at e; cases e), fun _ => HQ.out⟩
        · intro L f w1 hA hI
          have d0 : f 0 = .agg #[.int .i64 0, .int .i64 (-1), .slice a7 n7 c7] := hI.pur (0, .agg #[.int .i64 0, .int .i64 (-1), .slice a7 n7 c7]) (by simp) (hA 0 (by decide))
          have HQ := Lib.hid (hI.post (hA 3 (by decide)))
          clear hI hA
          obtain ⟨ua', uc', e3, _⟩ := HQ.out.own.form
          rw [← HFk.out] at HQ e3
          rw [d0]
          generalize f 3 = v3' at *
          subst e3
          generalize hul : (base ++ ((cut100 l).take (k + 1)).flatten).length = un' at *
          have Hul := Lib.hid hul
          have y0 := HQ.out.x9.c0
          have y1 := HQ.out.x9.c1
          have y2 := HQ.out.x9.c2
          have yf := HQ.out.x9.f
          have X9 := Lib.hid (BoxD.put (d := qD base (wsP bn ((cut100 l).take (k + 1)))) HQ.out.x9 HQ.out.st hbx)
          have K9 := Lib.hid (HQ.out.k9.all3 b0 (.int .i64 0) (.int .i64 (-1)) (.slice a7 n7 c7))
          have HB9 := Lib.hid (HQ.out.hb.all3 (b := b0) hb0 (.int .i64 0) (.int .i64 (-1)) (.slice a7 n7 c7))
          have hne := HQ.out.k9.ne HQ.out.own (by decide)
          have HO9 := Lib.hid (show OwnU (((w1.setCell ⟨b0, 0, none⟩ (.int .i64 0)).setCell ⟨b0, 1, none⟩ (.int .i64 (-1))).setCell ⟨b0, 2, none⟩ (.slice a7 n7 c7)) w.heap.size (.slice ua' un' uc') _ from own_set_ne (p := ⟨b0, 2, none⟩) (own_set_ne (p := ⟨b0, 1, none⟩) (own_set_ne (p := ⟨b0, 0, none⟩) HQ.out.own hne _) hne _) hne _)
          change Hid (BoxR (((w1.setCell ⟨b0, 0, none⟩ (.int .i64 0)).setCell ⟨b0, 1, none⟩ (.int .i64 (-1))).setCell ⟨b0, 2, none⟩ (.slice a7 n7 c7)) _ _ _) at X9
          clear hul hne d0 HQ
          go_wp2_with fail
          exact ⟨⟨k + 1, _, _, _, rfl, by go_num, by omega, Hul, HO9, _, _, _, X9, K9, HB9⟩, by simp [intOf]; omega⟩
    · have j1 : ¬ (k : Int) < (ln : Int) := by omega
      obtain rfl : k = ln := by omega
      rw [HALL.out] at HO Hun
      have hA := (Below.refl wr.heap.size wr).alloc (Nat.le_refl _) (.cells #[.string ⟨#[102]⟩, .int .i64 wr_, .int .i64 torn] 52)
      have X6 := Lib.hid (X.out.below hA)
      have HB6 := Lib.hid (bstep HB.out hA)
      have HO6 := Lib.hid (HO.out.keep hA)
      have HK := Lib.hid (show RdK (wr.alloc (.cells #[.string ⟨#[102]⟩, .int .i64 wr_, .int .i64 torn] 52)) (.slice (some ⟨wr.heap.size, 0, none⟩) 1 1) [⟨sF, wr_, torn⟩] from RdK.one wr ⟨sF, wr_, torn⟩)
      clear hA HApp HPk HP HTot HFl X HB HO K HL
      go_wp2_with fail
      refine (HCr.out _ _ _ X6.out.r HK.out).mono ?_
      rintro e w8 ⟨a8, n8, c8, rfl, _, hf8, hb8⟩
      have hA := (Below.refl w8.heap.size w8).alloc (Nat.le_refl _) (.cells #[.int .i64 0, .int .i64 (-1), .slice a8 n8 c8] 33)
      have hb78 := bstep hb8 hA
      have Z := Lib.hid (BoxR.new hf8)
      have HB8 := Lib.hid (bstep HB6.out hb78)
      have HO8 := Lib.hid (HO6.out.keep hb78)
      change Hid (BoxR (w8.alloc (.cells #[.int .i64 0, .int .i64 (-1), .slice a8 n8 c8] 33)) _ _ _) at Z
      clear hA hb78 hb8 hf8 HK x0 x1 x2 HB6 HO6 X6
      go_upto_region 18 with fail
      generalize w8.alloc (.cells #[.int .i64 0, .int .i64 (-1), .slice a8 n8 c8] 33) = V3 at *
      generalize w8.heap.size = b3 at *
      obtain ⟨x0, x1, x2⟩ := Hcap.out _ _ _ _ _ Z.out
      go_wp2_with fail
      refine (HSz.out _ _ Z.out.r).mono ?_
      rintro e v4 ⟨rfl, hbv⟩
      have Z2 := Lib.hid (Z.out.below hbv)
      have HB9 := Lib.hid (bstep HB8.out hbv)
      have HO9 := Lib.hid (HO8.out.keep hbv)
      clear hbv x0 x1 x2 Z HB8 HO8
      obtain ⟨x0, x1, x2⟩ := Hcap.out _ _ _ _ _ Z2.out
      go_wp2_with fail
      refine (HRd.out _ _ Z2.out.r).mono ?_
      rintro e v5 ⟨nv, rfl, hov, hbv⟩
      have HB10 := Lib.hid (bstep HB9.out hbv)
      have HO10 := Lib.hid (HO9.out.keep hbv)
      have HV10 := Lib.hid hov.rd
      clear hbv hov x0 x1 x2 Z2 HB9 HO9
      obtain ⟨na, nc, rfl, _⟩ := HV10.out.shape0
      have hNl : (ALL.take N).length = N := by rw [List.length_take]; omega
      rw [hNl] at HV10
      rw [hNl]
      obtain ⟨sq, hsl, hsq⟩ := slice_by (show RdB v5 (.slice ua un uc) ALL from HO10.out.rd) N (by rw [← Hun.out]; omega)
      have HSq := Lib.hid hsq
      have g1 : (bn : Int) ≤ (N : Int) := by omega
      have g2 : (N : Int) ≤ (un : Int) := by rw [← Hun.out]; omega
      clear hsq hNl
      have HAw := Lib.hid (fun W => awake_any W)
      have hc1 := fun q : BelowBy v5 => run_to_string (P := Tryd.prog) 47 9 5 Tryd.underlying47 Tryd.underlying5 Tryd.underlying9 (HV10.out.below q.h)
      have hc2 := fun q : BelowBy v5 => run_to_string (P := Tryd.prog) 47 9 5 Tryd.underlying47 Tryd.underlying5 Tryd.underlying9 (HSq.out.below q.h)
      have k1 : decide ((bn : Int) ≤ (N : Int)) = true := decide_eq_true g1
      have k2 : decide ((N : Int) ≤ (un : Int)) = true := decide_eq_true g2
      go_upto_region 20 with fail
      refine wp_region_below (by kernel_rfl) (by kernel_rfl) ?_
      repeat (go_big_quiet_step ((exact calls_by (HAw.out _))))
      refine wpQuiet_nil ?_
      intro _ hw'
      obtain ⟨q, hw'⟩ := hw'
      subst hw'
      have HB11 := Lib.hid (bstep HB10.out q.h)
      generalize q.w' = w11 at *
      go_wp2_with fail
      go_ret
      exact ⟨rfl, HB11.out⟩
theorem prefix_walk (a : Option Addr) (n cap : Nat) (za : List Int) (b : Option Addr) (m bcap : Nat) (wr_ torn : Int) (w : World) (h1 : IsRow .u8 w a n cap za) (h2 : ∃ l, RdP w (.slice b m bcap) l) (_ : (Lit.int .i64 wr_).wf = true) (_ : (Lit.int .i64 torn).wf = true) :
    Calls Tryd.prog 5 #[.slice a n cap, .slice b m bcap, .int .i64 wr_, .int .i64 torn] w fun e w' => e = .returned (.bool true) ∧ Below w.heap.size w w' := by
  obtain ⟨la, rfl, ha⟩ := isRow_bytes h1
  obtain ⟨l, hl⟩ := h2
  exact prefix_go _ _ la l wr_ torn w ha hl
end Go.Proofs.YtkabcpmnbjllcaaDoor
