/- Several texts in one, each over the last: slices.Backward over generations: its closure's contract (after the kit's GgSlicesIterAtTheDump). slices.Backward over generations: the function, and what it hands back as an iterator. Places of a key in memory: rows of eight cells. slot.all: the walk, of a slot that is not valid. slot.all: the walk, of a valid slot (after the kit's GgNestedAtTheDump and GgPosAtTheDump). slot.Find, of any slot. awake of the law of package slot: the chapter's examples. -/
import Derived.RangeFuncBox
import Derived.RangeFuncLeaves
import Derived.Shelf.Abstract
import Derived.OwnWalkIn
import Derived.TacticsInMore
import Derived.LoopNIn
import Derived.LoopIn
import Derived.Test.YtenkeodfijladaaGreatVA
import Derived.RangeFuncNested
namespace Go.Proofs.YtenkeodfijladaaGreat
open Go.RowKit Go.Shelf

attribute [local go_sem] Oper.semAt_some

/-- The indexes that have come when k rounds are over, of len: the last first. -/
def downto (len k : Nat) : List Nat := (List.range k).map fun j => len - 1 - j
theorem downto_succ (len k : Nat) : downto len (k + 1) = downto len k ++ [len - 1 - k] := by simp [downto, List.range_succ]
theorem downto_length (len k : Nat) : (downto len k).length = k := by simp [downto]

/-- What a round keeps: all that lay below n₀, and the iterator's box. -/
def KpB (n₀ Bs : Nat) (W W' : World) : Prop := Below n₀ W W' ∧ ∀ v, W.cell? ⟨Bs, 0, none⟩ = some v → W'.cell? ⟨Bs, 0, none⟩ = some v
theorem KpB.refl (n₀ Bs : Nat) (W : World) : KpB n₀ Bs W W := ⟨Below.refl _ _, fun _ h => h⟩
theorem KpB.trans {n₀ Bs : Nat} {A B C : World} (h : KpB n₀ Bs A B) (k : KpB n₀ Bs B C) : KpB n₀ Bs A C := ⟨h.1.trans k.1, fun v hv => k.2 v (h.2 v hv)⟩
theorem KpB.put {n₀ Bs : Nat} {w : World} (hn : n₀ ≤ w.heap.size) (hB : Bs < w.heap.size) (W : World) (l : Nat) (o o' : Obj) (hl : w.heap.size ≤ l) (h : W.heap[l]? = some o) (h1 : o.isCells = false) (h2 : o.isWalk = false) : KpB n₀ Bs W (W.putObj l o') :=
  ⟨belowK_b hn W l o o' hl h h1 h2, fun v hv => ((belowK_b (n₀ := Bs + 1) (w := w) (by omega) W l o o' hl h h1 h2).cell (p := ⟨Bs, 0, none⟩) (Nat.lt_succ_self _)).trans hv⟩

set_option maxRecDepth 100000 in
set_option maxHeartbeats 4000000 in
theorem back1_in (F : Fence) (n : Nat) (hf : F.fn 148) (hro : F.round = none) (hn : 1 ≤ n) (l Bs n₀ b off len cap : Nat) (L : List GP) (hlen : len ≤ 8) (hb : b < n₀) (J Jx : List Nat → World → Prop)
    (hY : ∀ pre (x : Nat) W, J pre W → pre.length < len → YieldAt F (n - 1) Tryz.prog l #[.int .i64 (x : Int), gpV (pat L x)] W fun e W' =>
      (e = .returned (.bool true) ∧ J (pre ++ [x]) W' ∧ KpB n₀ Bs W W') ∨ (e = .returned (.bool false) ∧ Jx (pre ++ [x]) W'))
    (W : World) (hBs : W.cell? ⟨Bs, 0, none⟩ = some (.slice (some ⟨b, off, none⟩) len cap)) (hc : ∀ j, j < len → GAt W b (off + j * 14) (pat L j)) (h0 : J [] W) :
    CallsIn F n Tryz.prog 148 #[.func (.yield l) #[] #[], .pointer (some ⟨Bs, 0, none⟩)] W fun e W' => (∃ v, e = .returned v) ∧
      ((∃ ys, ys = downto len len ∧ J ys W') ∨ (∃ pre, (∃ k, k ≤ len ∧ pre = downto len k) ∧ Jx pre W')) := by
  refine callsIn_of_wp Tryz.func148 rfl hf ?_ hro
  simp only [Tryz.ntmps148, List.size_toArray, List.length_cons, List.length_nil, Nat.reduceAdd, Nat.reduceSub, Array.replicate_succ, Array.replicate_zero, List.push_toArray, List.append_toArray, List.nil_append, List.cons_append]
  gi_wp2
  gi_loopw [3] (fun i wr => ∃ k : Nat, k ≤ len ∧ i = .int .i64 ((len : Int) - 1 - (k : Int)) ∧ J (downto len k) wr ∧ KpB n₀ Bs W wr)
    (fun i _ => (intOf i + 1).toNat)
  case atStart => exact ⟨0, Nat.zero_le _, by simp [IntWalk.i64_in _ (show -9223372036854775808 ≤ (len : Int) - 1 ∧ (len : Int) - 1 ≤ 9223372036854775807 by omega)], h0, KpB.refl _ _ _⟩
  case round =>
    obtain ⟨k, hk, rfl, hJs, hnx⟩ := hrel
    have hBk := hnx.2 _ hBs
    by_cases hlt : k < len
    · obtain ⟨j, hj⟩ : ∃ j, k + 1 + j = len := ⟨len - 1 - k, by omega⟩
      have hjk : len - 1 - k = j := by omega
      obtain ⟨fn, tmps, assign, body, hy, hR⟩ := hY _ (len - 1 - k) wr hJs (by rw [downto_length]; exact hlt)
      have ej : (len : Int) - 1 - (k : Int) = (j : Int) := by omega
      rw [ej]
      rw [hjk] at hy hR
      have i2 : (j : Int) < (len : Int) := by omega
      have g0 := (hnx.1.cell (p := ⟨b, off + j * 14, none⟩) hb).trans (hc j (by omega)).n0
      have g1 := (hnx.1.cell (p := ⟨b, off + j * 14 + 1, none⟩) hb).trans (hc j (by omega)).n1
      have g2 := (hnx.1.cell (p := ⟨b, off + j * 14 + 2, none⟩) hb).trans (hc j (by omega)).n2
      have g3 := (hnx.1.cell (p := ⟨b, off + j * 14 + 3, none⟩) hb).trans (hc j (by omega)).n3
      have g4 := (hnx.1.cell (p := ⟨b, off + j * 14 + 4, none⟩) hb).trans (hc j (by omega)).c0
      have g5 := (hnx.1.cell (p := ⟨b, off + j * 14 + 5, none⟩) hb).trans (hc j (by omega)).c1
      have g6 := (hnx.1.cell (p := ⟨b, off + j * 14 + 6, none⟩) hb).trans (hc j (by omega)).c2
      have g7 := (hnx.1.cell (p := ⟨b, off + j * 14 + 7, none⟩) hb).trans (hc j (by omega)).c3
      have g8 := (hnx.1.cell (p := ⟨b, off + j * 14 + 8, none⟩) hb).trans (hc j (by omega)).c4
      have g9 := (hnx.1.cell (p := ⟨b, off + j * 14 + 9, none⟩) hb).trans (hc j (by omega)).c5
      have g10 := (hnx.1.cell (p := ⟨b, off + j * 14 + 10, none⟩) hb).trans (hc j (by omega)).c6
      have g11 := (hnx.1.cell (p := ⟨b, off + j * 14 + 11, none⟩) hb).trans (hc j (by omega)).c7
      have g12 := (hnx.1.cell (p := ⟨b, off + j * 14 + 12, none⟩) hb).trans (hc j (by omega)).cl
      have g13 := (hnx.1.cell (p := ⟨b, off + j * 14 + 13, none⟩) hb).trans (hc j (by omega)).cg
      gi_wp2
      refine hR.mono ?_
      rintro e W3 (⟨rfl, hJ3, hk3⟩ | ⟨rfl, hJx3⟩)
      · gi_wp2
        go_roundw
        case rel => exact ⟨k + 1, by omega, by first | (simp; done) | (simp; omega), by rw [downto_succ, hjk]; exact hJ3, hnx.trans hk3⟩
        case measure => first | (simp [intOf]; done) | (simp [intOf]; omega)
      · gi_wp2
        refine bodyPost_ret (results_none rfl _ _ _) rfl ?_
        exact ⟨⟨_, rfl⟩, .inr ⟨_, ⟨k + 1, by omega, by rw [downto_succ, hjk]⟩, hJx3⟩⟩
    · obtain rfl : k = len := by omega
      have ej : (k : Int) - 1 - (k : Int) = -1 := by omega
      rw [ej]
      gi_wp2
      go_end0
      exact ⟨⟨_, rfl⟩, .inl ⟨_, rfl, hJs⟩⟩
end Go.Proofs.YtenkeodfijladaaGreat

namespace Go.Proofs.YtenkeodfijladaaGreat
open Go.RowKit Go.Shelf

theorem backward_any (a : Option Addr) (n c : Nat) (w : World) : Calls Tryz.prog 101 #[.slice a n c] w fun e w' => e = .returned (.func (.func 148) #[] #[.pointer (some ⟨w.heap.size, 0, none⟩)]) ∧ w' = w.alloc (.cells #[.slice a n c] 39) := by
  go_enter Tryz.func101, Tryz.ntmps101
  go_wp2_with fail
  go_ret
  exact ⟨rfl, rfl⟩
theorem back_stops (F : Fence) (n : Nat) (hf : F.fn 148) (hro : F.round = none) (hn : 1 ≤ n) (Bs n₀ b off len cap : Nat) (L : List GP) (hlen : len ≤ 8) (hb : b < n₀) (w : World)
    (hBs : w.cell? ⟨Bs, 0, none⟩ = some (.slice (some ⟨b, off, none⟩) len cap)) (hc : ∀ j, j < len → GAt w b (off + j * 14) (pat L j)) :
    SeqStopsK F n Tryz.prog 148 #[.pointer (some ⟨Bs, 0, none⟩)] (fun x : Nat => #[.int .i64 (x : Int), gpV (pat L x)]) (KpB n₀ Bs) (fun ys => ys = downto len len) (fun pre => ∃ k, k ≤ len ∧ pre = downto len k) len w := fun l J Jx W hW _ _ hY h0 =>
  back1_in F n hf hro hn l Bs n₀ b off len cap L hlen hb J Jx hY W (hW.keeps' hBs) (fun j hj => (hc j hj).below hW) h0
end Go.Proofs.YtenkeodfijladaaGreat

namespace Go.Proofs.YtenkeodfijladaaGreat
open Go.RowKit

def fdC (x : Fnd) : List Value := [.int .i64 x.gen, .int .i64 x.mode, .int .i64 x.rev, .int .u64 x.it.key, .int .u32 x.it.ck, .int .i64 x.it.off, .int .i64 x.it.size, .int .i64 (x.at_ : Int)]
theorem fdC_len (x : Fnd) : (fdC x).length = 8 := rfl
theorem infoFd : (Tryz.prog.info? 138).map (fun i => (i.zero, i.size, i.bytes)) = some (some (.agg #[.int .i64 0, .int .i64 0, .int .i64 0, .int .u64 0, .int .u32 0, .int .i64 0, .int .i64 0, .int .i64 0]), 8, 64) := by kernel_rfl
theorem elemFd : ElemT Tryz.prog 135 138 8 64 := by
  obtain ⟨i, h1, h2, h3, h4⟩ := info_parts infoFd
  exact ⟨Tryz.underlying135, by decide, i, _, h1, h2, h3, h4, rfl⟩
abbrev RdFd (w : World) (v : Value) (l : List Fnd) : Prop := RdS 8 fdC w v l
abbrev OwnFd (w : World) (base : Nat) (v : Value) (l : List Fnd) : Prop := w.ownsRow base 138 8 v l.length (l.flatMap fdC)
end Go.Proofs.YtenkeodfijladaaGreat

namespace Go.Proofs.YtenkeodfijladaaGreat
open Go.RowKit

set_option maxRecDepth 100000 in
set_option maxHeartbeats 4000000 in
theorem all_no (i l : Int) (r : Bool) (a : Option Addr) (n c : Nat) (L : List GP) (w : World) (h : RdG w (.slice a n c) L) (hs : ∀ p ∈ L, ∀ j, j < 8 → (p.1.m.st j).length ≤ 10000) (hv : vldSl ⟨i, l, r, gns L⟩ = false) (key : Int) :
    Calls Tryz.prog 57 #[sloV i l r a n c, .int .u64 key] w fun e w' => e = .returned (.slice none 0 0) ∧ Below w.heap.size w w' := by
  have HSv := Lib.hid (fun W (hb : Below w.heap.size w W) => svalid_any i l r a n c L W (h.below hb) hs)
  rw [hv] at HSv
  have HBx := Lib.hid (BoxV.new w i l r a n c 41)
  have HB0 := Lib.hid (below_slo w i l r a n c 41)
  clear hv h hs
  go_enter Tryz.func57, Tryz.ntmps57
  go_upto_region 1 with fail
  obtain ⟨W, hW⟩ : ∃ W, w.alloc (.cells (sloC i l r a n c) 41) = W := ⟨_, rfl⟩
  change Code.wp _ _ _ _ ((w.alloc (.cells (sloC i l r a n c) 41)).alloc (.cells #[.int .u64 key] 26))
  rw [hW] at HBx HB0 ⊢
  clear hW
  have hlw := HBx.out.lt
  have HB1 := Lib.hid (HB0.out.alloc HB0.out.size (.cells #[.int .u64 key] 26))
  have HX1 := Lib.hid (HBx.out.below ((Below.refl _ W).alloc (Nat.le_refl _) (.cells #[.int .u64 key] 26)))
  have k0 := HX1.out.c0
  have k1 := HX1.out.c1
  have k2 := HX1.out.c2
  have k3 := HX1.out.c3
  go_wp2_with fail
  refine (HSv.out _ HB1.out).mono ?_
  rintro e w1 ⟨rfl, hb1⟩
  have HB2 := Lib.hid (bstep HB1.out hb1)
  clear hb1 k0 k1 k2 k3
  go_wp2_with fail
  go_ret
  exact ⟨rfl, HB2.out⟩
end Go.Proofs.YtenkeodfijladaaGreat

namespace Go.Proofs.YtenkeodfijladaaGreat
open Go.RowKit Go.Shelf

attribute [local go_sem] Oper.semAt_some

def gotF (l : List Gn) (key : Int) (pre : List Nat) : List Fnd := pre.flatMap fun n => match getM (gat l n).m key with | some x => [⟨(gat l n).num, (gat l n).mode, (gat l n).rev, x, n⟩] | none => []
theorem gotF_hit {l : List Gn} {key : Int} (pre : List Nat) {n : Nat} {x : It} (h : getM (gat l n).m key = some x) : gotF l key (pre ++ [n]) = gotF l key pre ++ [⟨(gat l n).num, (gat l n).mode, (gat l n).rev, x, n⟩] := by simp [gotF, h]
theorem gotF_miss {l : List Gn} {key : Int} (pre : List Nat) {n : Nat} (h : getM (gat l n).m key = none) : gotF l key (pre ++ [n]) = gotF l key pre := by simp [gotF, h]
theorem gotF_len (l : List Gn) (key : Int) (pre : List Nat) : (gotF l key pre).length ≤ pre.length := by
  induction pre with
  | nil => exact Nat.le_refl _
  | cons n pre ih =>
    have e : gotF l key (n :: pre) = (match getM (gat l n).m key with | some x => [⟨(gat l n).num, (gat l n).mode, (gat l n).rev, x, n⟩] | none => []) ++ gotF l key pre := rfl
    rw [e, List.length_append, List.length_cons]
    have : (match getM (gat l n).m key with | some x => [(⟨(gat l n).num, (gat l n).mode, (gat l n).rev, x, n⟩ : Fnd)] | none => []).length ≤ 1 := by
      cases getM (gat l n).m key <;> simp
    omega
theorem downto_all (n : Nat) : downto (n + 1) (n + 1) = n :: downto n n := by
  unfold downto
  rw [List.range_succ_eq_map, List.map_cons, List.map_map, List.cons.injEq]
  refine ⟨by omega, List.map_congr_left fun j _ => ?_⟩
  simp only [Function.comp_apply]; omega
theorem gotF_all (l : List Gn) (key : Int) : ∀ n, gotF l key (downto n n) = allF l key n
  | 0 => rfl
  | n + 1 => by
    have ih := gotF_all l key n
    rw [downto_all, allF, ← ih]
    rfl
theorem gotF_bound {l : List Gn} {key : Int} : ∀ n, ∀ x ∈ allF l key n, x.at_ < n
  | 0, x, h => by cases h
  | n + 1, x, h => by
    rw [allF] at h
    rcases List.mem_append.1 h with h | h
    · cases e : getM (gat l n).m key with
      | none => rw [e] at h; cases h
      | some y => rw [e] at h; rw [List.mem_singleton.1 h]; exact Nat.lt_succ_self n
    · exact Nat.lt_succ_of_lt (gotF_bound n x h)

theorem keepsO_of {W W' : World} (h : Below W.heap.size W W') : KeepsOthers W W' := ⟨h.size, fun k o hk _ => (h.block k (Array.getElem?_eq_some_iff.1 hk).1).trans hk⟩
theorem keepsO_pts {b : Nat} : ∀ (vs : List (Nat × Value)) (W : World), KeepsOthers W (pts W b vs)
  | [], W => KeepsOthers.refl W
  | p :: r, W => (KeepsOthers.setCell _ _ _).trans (keepsO_pts r _)
theorem boxG_kept {W W' : World} {b : Nat} {n r md z : Int} {s : Sl} {l g : Int} {row : Option Nat} (h : BoxG W b n r md z s l g) (hg : W.grownBy W' row) (hrow : ∀ r, row = some r → ∃ o : Obj, W.heap[r]? = some o ∧ o.isCells = false) : BoxG W' b n r md z s l g :=
  ⟨cell_kept h.n0 hg hrow, cell_kept h.n1 hg hrow, cell_kept h.n2 hg hrow, cell_kept h.n3 hg hrow, fun j hj => cell_kept (h.c j hj) hg hrow, cell_kept h.cl hg hrow, cell_kept h.cg hg hrow, fun i => by
    obtain ⟨o, ho, hc⟩ := cells_of_cell h.n0
    have e := grownBy_keeps_cells hg hrow ho hc
    have e2 := h.f i
    unfold World.frozen? at e2 ⊢
    rw [e]; exact e2⟩
theorem _root_.Go.Boxed.below {W W' : World} {B : Nat} {t : TypeId} {v : Value} (h : Boxed W B t v) (hb : Below W.heap.size W W') : Boxed W' B t v := (hb.block _ h.lt).trans h
theorem news_at (W : World) (cs : List Value) (e : TypeId) : ∀ j u, cs[j]? = some u → (W.alloc (.cells cs.toArray e)).cell? ((⟨W.heap.size, 0, none⟩ : Addr).add j) = some u := fun j u h => by
  rw [addr_add, Nat.zero_add]
  have h0 := World.alloc_heap_new W (.cells cs.toArray e)
  simp only [World.cell?, h0, List.getElem?_toArray]
  exact h
theorem news_at' (W : World) (k : Nat) (hk : W.heap.size = k) (cs : List Value) (e : TypeId) : ∀ j u, cs[j]? = some u → (W.alloc (.cells cs.toArray e)).cell? ((⟨k, 0, none⟩ : Addr).add j) = some u := by subst hk; exact news_at W cs e
theorem fd_one (x : Fnd) : ∀ u ∈ fdC x, u.oneCell' = true := by
  intro u hu
  simp only [fdC, List.mem_cons, List.not_mem_nil, or_false] at hu
  rcases hu with h | h | h | h | h | h | h | h <;> rw [h] <;> rfl
/-- The stripes of whatever generation is met. -/
theorem pat_rd {w : World} {v : Value} {L : List GP} (h : RdG w v L) (x : Nat) : RdM w (pat L x).2 (pat L x).1.m.st := by
  by_cases hx : x < L.length
  · exact h.m _ (pat_mem hx)
  · have e : pat L x = gp0 := by unfold pat; rw [List.getD_eq_getElem?_getD, List.getElem?_eq_none (by omega)]; rfl
    rw [e]; exact rdM_nil w
theorem pat_len {L : List GP} (hs : ∀ p ∈ L, ∀ j, j < 8 → (p.1.m.st j).length ≤ 10000) (x : Nat) : ∀ j, j < 8 → ((pat L x).1.m.st j).length ≤ 10000 := by
  by_cases hx : x < L.length
  · exact hs _ (pat_mem hx)
  · have e : pat L x = gp0 := by unfold pat; rw [List.getD_eq_getElem?_getD, List.getElem?_eq_none (by omega)]; rfl
    rw [e]; intro j _; exact Nat.zero_le _

set_option maxRecDepth 100000 in
set_option maxHeartbeats 4000000 in
theorem all_yes (i l : Int) (r : Bool) (a : Option Addr) (n c : Nat) (L : List GP) (w : World) (h : RdG w (.slice a n c) L) (hs : ∀ p ∈ L, ∀ j, j < 8 → (p.1.m.st j).length ≤ 10000) (hv : vldSl ⟨i, l, r, gns L⟩ = true) (key : Int) :
    Calls Tryz.prog 57 #[sloV i l r a n c, .int .u64 key] w fun e w' => ∃ v, e = .returned v ∧ OwnFd w' w.heap.size v (allF (gns L) key n) ∧ Below w.heap.size w w' := by
  obtain ⟨hn1, hn8⟩ := ((vldSl_iff _).1 hv).len
  dsimp only at hn1 hn8
  rw [gns_len] at hn1 hn8
  obtain rfl : n = L.length := by obtain ⟨a', cap', e, _⟩ := h.shape; injection e
  obtain ⟨b, off, rfl, hg0⟩ := h.at (show 0 < L.length by omega)
  have HG := Lib.hid (fun j (hj : j < L.length) => h.at2 hj)
  have hb := World.block_lt_of_cell? w _ hg0.n0
  have hSv := fun W (hb : Below w.heap.size w W) => svalid_any i l r (some ⟨b, off, none⟩) L.length c L W (h.below hb) hs
  have HGet := Lib.hid (fun W (hb : Below w.heap.size w W) (x : Nat) => getM_any (pat L x).2 (pat L x).1.m key W ((pat_rd h x).below hb) (pat_len hs x))
  rw [hv] at hSv
  clear hg0 h hs
  obtain ⟨i0, hi, hz0, hz1, hz2⟩ := info_parts infoFd
  refine (callsIn_wide (n := 20)).1 (callsIn_of_wp_marks Tryz.func57 rfl trivial ?_ rfl)
  simp only [Tryz.ntmps57, List.size_toArray, List.length_cons, List.length_nil, Nat.reduceAdd, Nat.reduceSub, Array.replicate_succ, Array.replicate_zero, List.push_toArray, List.append_toArray, List.nil_append, List.cons_append]
  have hbox := BoxV.new w i l r (some ⟨b, off, none⟩) L.length c 41
  have hbel := below_slo w i l r (some ⟨b, off, none⟩) L.length c 41
  have hbK := Boxed.new (w.alloc (.cells (sloC i l r (some ⟨b, off, none⟩) L.length c) 41)) 26 (.int .u64 key)
  rw [World.size_alloc] at hbK
  gi_wp2_with (first | (refine ⟨trivial, ?_⟩; gi_at_call 62; refine (callsIn_wide.2 (hSv _ (hbel.alloc (by simp) _))).mono ?_; rintro e w1 ⟨rfl, hb1⟩; have hB1 := bstep (hbel.alloc (by simp) (.cells #[.int .u64 key] 26)) hb1; have k3 := (((hbox.below ((Below.refl _ _).alloc (Nat.le_refl _) (.cells #[.int .u64 key] 26))).below hb1).below ((Below.refl _ w1).alloc (Nat.le_refl _) (.cells #[.slice none 0 0] 135))).c3; have hbK1 : Boxed w1 (w.heap.size + 1) 26 (.int .u64 key) := (hb1.block _ hbK.lt).trans hbK; clear hb1 hbox hbel hbK) | (refine ⟨trivial, ?_⟩; gi_at_call 101; refine (callsIn_wide.2 (backward_any _ _ _ _)).mono ?_; rintro e w' ⟨rfl, rfl⟩; clear k3))
  clear hSv
  have bO := (Boxed.new w1 135 (.slice none 0 0)).alloc (.cells #[.slice (some ⟨b, off, none⟩) L.length c] 39)
  have bS := Boxed.new (w1.alloc (.cells #[.slice none 0 0] 135)) 39 (.slice (some ⟨b, off, none⟩) L.length c)
  have bK := (hbK1.alloc (.cells #[.slice none 0 0] 135)).alloc (.cells #[.slice (some ⟨b, off, none⟩) L.length c] 39)
  have hl1 := hbK1.lt
  simp only [World.size_alloc] at bS
  have hB2 : Below w.heap.size w ((w1.alloc (.cells #[.slice none 0 0] 135)).alloc (.cells #[.slice (some ⟨b, off, none⟩) L.length c] 39)) := (hB1.alloc hB1.size _).alloc (by have := hB1.size; simp; omega) _
  have hsz : ((w1.alloc (.cells #[.slice none 0 0] 135)).alloc (.cells #[.slice (some ⟨b, off, none⟩) L.length c] 39)).heap.size = w1.heap.size + 2 := by simp
  obtain ⟨Bo, hBo⟩ : ∃ Bo, w1.heap.size = Bo := ⟨_, rfl⟩
  obtain ⟨W0, hW0⟩ : ∃ W0, (w1.alloc (.cells #[.slice none 0 0] 135)).alloc (.cells #[.slice (some ⟨b, off, none⟩) L.length c] 39) = W0 := ⟨_, rfl⟩
  rw [hBo] at bO bS hsz hl1 ⊢
  rw [hW0] at bO bS bK hB2 hsz ⊢
  clear hW0 hbK1 hBo hB1
  clear w1
  have hsB := hB2.size
  refine wpIn_rangeFunc_ownH rfl (by decide) (gf := 148) (lb := #[.pointer (some ⟨Bo + 1, 0, none⟩)]) rfl trivial (enters_of Tryz.func148 (by kernel_rfl) rfl)
    (back_stops Fence.wide (20 - 1) trivial rfl (by decide) (Bo + 1) w.heap.size b off L.length c L hn8 hb W0 bS.cell (fun j hj => (HG.out j hj).below hB2)) KpB.trans (KpB.put (by omega) (by omega)) (Below.refl _ _) (fun _ => rfl)
    (fun pre W => ((∃ v, Boxed W Bo 135 v ∧ W.ownsRow w.heap.size 138 8 v (gotF (gns L) key pre).length ((gotF (gns L) key pre).flatMap fdC) ∧ True) ∧ Boxed W (w.heap.size + 1) 26 (.int .u64 key) ∧ Boxed W (Bo + 1) 39 (.slice (some ⟨b, off, none⟩) L.length c)) ∧ Below w.heap.size w W)
    (fun _ _ _ => False)
    (OwnFrom.and (OwnFrom.and (Own.from (holdsRow_own w.heap.size Bo 135 138 8 (fun pre => (gotF (gns L) key pre).length) (fun pre => (gotF (gns L) key pre).flatMap fdC) (fun _ _ => True)) _) (OwnFrom.and (Own.from (boxed_own _ _ _) _) (Own.from (boxed_own _ _ _) _))) (ownFrom_below (Nat.le_refl _) (by omega)))
    (fun _ _ _ _ _ hs _ _ => hs)
    ⟨⟨⟨_, bO, World.ownsRow_nil _ _ _ _, trivial⟩, bK, bS⟩, hB2⟩
    (fun x a' W => ∃ Bx, w.heap.size + 1 < Bx ∧ Bo + 1 < Bx ∧ BoxG W Bx (pat L x).1.num (pat L x).1.rev (pat L x).1.mode (pat L x).1.size (pat L x).2 (pat L x).1.m.live (pat L x).1.m.garb ∧ a' = { tmps := #[sloV i l r (some ⟨b, off, none⟩) L.length c, .int .u64 key, .pointer (some ⟨w.heap.size, 0, none⟩), .pointer (some ⟨w.heap.size + 1, 0, none⟩), .slice none 0 0, .pointer (some ⟨Bo, 0, none⟩), .int .i64 (x : Int), .pointer (some ⟨Bx, 0, none⟩), undef, undef, sloV i l r (some ⟨b, off, none⟩) L.length c, .bool true, .bool false, .pointer (some ⟨w.heap.size, 3, none⟩), .slice (some ⟨b, off, none⟩) L.length c, .func (.func 148) #[] #[.pointer (some ⟨Bo + 1, 0, none⟩)], .int .i64 (x : Int), gpV (pat L x), undef, undef, undef, undef, undef, undef, undef, undef, undef, undef, undef, undef, undef, undef, undef, undef, undef, undef, undef, undef, undef, undef], defers := [] })
    (fun x a' _ X Y row hs hg hr => by obtain ⟨Bx, h1, h2, h3, h4⟩ := hs; exact ⟨Bx, h1, h2, boxG_kept h3 hg (fun r e => (hr r e).2), h4⟩)
    ?assign ?body ?done ?stop
  case assign =>
    rintro l pre x W K hI hK
    obtain ⟨⟨⟨v, hv, hrow, _⟩, bK1, bS1⟩, hB1⟩ := hI
    have hlt := bS1.lt
    gi_wp2
    exact hK _ _ ((KeepsOthers.alloc _ _).from _) ⟨(Below.refl _ W).alloc hB1.size _, fun v hv => ((Below.refl (Bo + 1 + 1) W).alloc hlt _).cell (p := ⟨Bo + 1, 0, none⟩) (Nat.lt_succ_self _) |>.trans hv⟩
      ⟨⟨⟨v, hv.alloc _, hrow.alloc _, trivial⟩, bK1.alloc _, bS1.alloc _⟩, hB1.alloc hB1.size _⟩ ⟨W.heap.size, by have := bK1.lt; omega, by omega, BoxG.new W _ _ _ _ _ _ _ _, rfl⟩
  case body =>
    rintro l pre x a' W hl ⟨rr, hr⟩ ⟨⟨⟨v, hv, hrow, _⟩, bK1, bS1⟩, hB1⟩ ⟨Bx, hx1, hx2, bX, rfl⟩ hlt
    have hn0 := (HGet.out W hB1 x)
    have hgl := gotF_len (gns L) key pre
    have hhit := fun (y : It) (h : getM (pat L x).1.m key = some y) => gotF_hit (l := gns L) pre (n := x) (by rw [gat_gns]; exact h)
    have hmiss := fun (h : getM (pat L x).1.m key = none) => gotF_miss (l := gns L) pre (n := x) (by rw [gat_gns]; exact h)
    rw [gat_gns] at hhit
    have g0 := bX.n0
    have g1 := bX.n1
    have g2 := bX.n2
    have c0 := bX.c0
    have c1 := bX.c1
    have c2 := bX.c2
    have c3 := bX.c3
    have c4 := bX.c4
    have c5 := bX.c5
    have c6 := bX.c6
    have c7 := bX.c7
    have c8 := bX.cl
    have c9 := bX.cg
    have cK := bK1.cell
    have hXl := bX.lt
    have hKl := bK1.lt
    have hOl := hv.lt
    have hsW := hB1.size
    cases hgm : getM (pat L x).1.m key with
    | none =>
      rw [hgm] at hn0
      have hm := hmiss hgm
      clear hhit hmiss hgm HGet HG
      gi_wp2_with (refine ⟨trivial, ?_⟩; gi_at_call 102; refine (CallsIn.inRound l (callsIn_wide.2 hn0)).mono ?_; rintro e w2 ⟨rfl, hb2⟩)
      have hb3 := hb2.alloc hb2.size (boxC it0)
      exact ⟨(keepsO_of hb3).from _, ⟨hb3.mono hsW, fun u hu => hb3.keeps' hu⟩, ⟨⟨v, hv.below hb3, by rw [hm]; exact own_keep hrow hb3, trivial⟩, bK1.below hb3, bS1.below hb3⟩, hB1.trans (hb3.mono hsW)⟩
    | some y =>
      rw [hgm] at hn0
      have hm := hhit y hgm
      clear hhit hmiss hgm HGet HG
      gi_wp2_with (first | (refine ⟨trivial, ?_⟩; gi_at_call 102; refine (CallsIn.inRound l (callsIn_wide.2 hn0)).mono ?_; rintro e w2 ⟨rfl, hb2⟩; have hb3 := hb2.alloc hb2.size (boxC y); have q0 := hb3.keeps' g0; have q1 := hb3.keeps' g1; have q2 := hb3.keeps' g2; have hv3 := hv.below hb3; have qO := hv3.cell; have hrow3 := own_keep hrow hb3; have hsW3 : (w2.alloc (boxC y)).heap.size = w2.heap.size + 1 := (by simp); have hsW4 := hb2.size) | (gi_at_builtin; refine wpListIn_append_own _ rfl _ _ 135 rfl w.heap.size 138 i0 _ 8 64 Tryz.underlying135 hi hz0 hz1 hz2 rfl (by decide) _ _ _ rfl (hrow3.alloc _) ⟨w2.heap.size + 1, 0, none⟩ 1 1 (fdC ⟨(pat L x).1.num, (pat L x).1.mode, (pat L x).1.rev, y, x⟩) rfl rfl (news_at' _ (w2.heap.size + 1) hsW3 (fdC ⟨(pat L x).1.num, (pat L x).1.mode, (pat L x).1.rev, y, x⟩) 138) (fd_one _) (by unfold maxLen; omega) (by omega) (by simp; omega) ?_; intro v' w4 hown' hgrow _; obtain ⟨g', cap', rfl⟩ := ownsRow_succ hown'; obtain ⟨hv1, hv2, hr2, hk2, hb4⟩ := hv3.appended (by decide) hrow3 (by omega) (by omega) hown' hgrow; have hc1 := hv1.cell; have hf1 := hv1.frozen))
      have bS5 := (((bS1.below hb3).alloc _).kept hgrow ((bS1.below hb3).not_row (by decide) hrow3)).other (B' := Bo) (by omega) (.slice (some ⟨g', 0, none⟩) ((gotF (gns L) key pre).length + 1) cap')
      have bK5 := (((bK1.below hb3).alloc _).kept hgrow ((bK1.below hb3).not_row (by decide) hrow3)).other (B' := Bo) (by omega) (.slice (some ⟨g', 0, none⟩) ((gotF (gns L) key pre).length + 1) cap')
      exact ⟨((keepsO_of hb3).trans hk2).from _, ⟨(hb3.mono hsW).trans hb4, fun u hu => by rw [bS1.cell] at hu; cases hu; exact bS5.cell⟩, ⟨⟨_, hv2, by rw [hm, List.length_append, List.flatMap_append]; simpa using hr2, trivial⟩, bK5, bS5⟩, hB1.trans ((hb3.mono hsW).trans hb4)⟩
  case done =>
    rintro D ys W hD rfl ⟨⟨⟨v, hv, hrow, _⟩, bK1, bS1⟩, hB1⟩ hK
    have hc := hv.cell
    rw [gotF_all] at hrow
    gi_wp2
    refine ⟨by simp, .inl ⟨_, _, rfl, run_takeDeferred hK, ?_⟩⟩
    exact ⟨_, results_tmp rfl _ _ _, v, rfl, ownsRow_putObj hrow _ hK rfl, hB1.trans (belowK_b (w := w) (Nat.le_refl _) W D _ _ (by omega) hK rfl rfl)⟩
  case stop =>
    rintro D c pre W _ _ h _
    exact h.elim
end Go.Proofs.YtenkeodfijladaaGreat

namespace Go.Proofs.YtenkeodfijladaaGreat
open Go.RowKit

def fnd0 : Fnd := ⟨0, 0, 0, it0, 0⟩
abbrev plC (x : Fnd) : Array Value := #[.int .i64 x.gen, .int .i64 x.mode, .int .i64 x.rev, .int .u64 x.it.key, .int .u32 x.it.ck, .int .i64 x.it.off, .int .i64 x.it.size]
abbrev plV (x : Fnd) : Value := .agg (plC x)
theorem allF_len (l : List Gn) (key : Int) : ∀ n, (allF l key n).length ≤ n
  | 0 => Nat.le_refl _
  | n + 1 => by
    have h := allF_len l key n
    rw [allF, List.length_append]
    cases getM (gat l n).m key <;> simp <;> omega
theorem allSl_of {i l : Int} {r : Bool} {L : List GP} {n : Nat} (hn : n = L.length) (hv : vldSl ⟨i, l, r, gns L⟩ = true) (key : Int) : allSl ⟨i, l, r, gns L⟩ key = allF (gns L) key n := by
  unfold allSl; rw [if_pos hv, hn]; show allF (gns L) key (gns L).length = _; rw [gns_len]
theorem allSl_no {s : Slt} (hv : vldSl s = false) (key : Int) : allSl s key = [] := by unfold allSl; rw [if_neg (by rw [hv]; decide)]
theorem OwnFd.rd {w : World} {B : Nat} {v : Value} {l : List Fnd} (h : OwnFd w B v l) : RdFd w v l := own_rds (fun x _ => fdC_len x) (by decide) h
theorem all_any (i l : Int) (r : Bool) (a : Option Addr) (n c : Nat) (L : List GP) (w : World) (h : RdG w (.slice a n c) L) (hs : ∀ p ∈ L, ∀ j, j < 8 → (p.1.m.st j).length ≤ 10000) (key : Int) :
    Calls Tryz.prog 57 #[sloV i l r a n c, .int .u64 key] w fun e w' => ∃ v, e = .returned v ∧ OwnFd w' w.heap.size v (allSl ⟨i, l, r, gns L⟩ key) ∧ Below w.heap.size w w' := by
  cases hv : vldSl ⟨i, l, r, gns L⟩ with
  | true =>
    rw [allSl_of (by obtain ⟨a', cap', e, _⟩ := h.shape; injection e) hv]
    exact all_yes i l r a n c L w h hs hv key
  | false =>
    rw [allSl_no hv]
    refine (all_no i l r a n c L w h hs hv key).mono ?_
    rintro e w' ⟨rfl, hb⟩
    exact ⟨_, rfl, World.ownsRow_nil _ _ _ _, hb⟩
/-- A place in a block of its own. -/
structure BoxP (W : World) (b : Nat) (x : Fnd) : Prop where
  c0 : W.cell? ⟨b, 0, none⟩ = some (.int .i64 x.gen)
  c1 : W.cell? ⟨b, 1, none⟩ = some (.int .i64 x.mode)
  c2 : W.cell? ⟨b, 2, none⟩ = some (.int .i64 x.rev)
  c3 : W.cell? ⟨b, 3, none⟩ = some (.int .u64 x.it.key)
  c4 : W.cell? ⟨b, 4, none⟩ = some (.int .u32 x.it.ck)
  c5 : W.cell? ⟨b, 5, none⟩ = some (.int .i64 x.it.off)
  c6 : W.cell? ⟨b, 6, none⟩ = some (.int .i64 x.it.size)
  f : ∀ i, W.frozen? ⟨b, i, none⟩ = false
theorem BoxP.new (W : World) (x : Fnd) : BoxP (W.alloc (.cells (plC x) 36)) W.heap.size x := ⟨by simp, by simp, by simp, by simp, by simp, by simp, by simp, fun i => by simp⟩
theorem BoxP.lt {W : World} {b : Nat} {x : Fnd} (h : BoxP W b x) : b < W.heap.size := World.block_lt_of_cell? W _ h.c0
theorem BoxP.below {W W' : World} {b : Nat} {x : Fnd} (h : BoxP W b x) (hB : Below W.heap.size W W') : BoxP W' b x := ⟨hB.keeps' h.c0, hB.keeps' h.c1, hB.keeps' h.c2, hB.keeps' h.c3, hB.keeps' h.c4, hB.keeps' h.c5, hB.keeps' h.c6, fun i => (hB.frozen (p := ⟨b, i, none⟩) h.lt).trans (h.f i)⟩
abbrev plL (x : Fnd) : List (Nat × Value) := [(0, .int .i64 x.gen), (1, .int .i64 x.mode), (2, .int .i64 x.rev), (3, .int .u64 x.it.key), (4, .int .u32 x.it.ck), (5, .int .i64 x.it.off), (6, .int .i64 x.it.size)]
theorem BoxP.all {W : World} {b : Nat} {x : Fnd} (h : BoxP W b x) (y : Fnd) : BoxP (pts W b (plL y)) b y := by
  have c0 := h.c0
  have c1 := h.c1
  have c2 := h.c2
  have c3 := h.c3
  have c4 := h.c4
  have c5 := h.c5
  have c6 := h.c6
  refine ⟨?_, ?_, ?_, ?_, ?_, ?_, ?_, fun i => (pts_frozen _ _ W).trans (h.f i)⟩
  · simp [pts, go_sem, c0]
  · simp [pts, go_sem, c1]
  · simp [pts, go_sem, c2]
  · simp [pts, go_sem, c3]
  · simp [pts, go_sem, c4]
  · simp [pts, go_sem, c5]
  · simp [pts, go_sem, c6]
set_option maxRecDepth 100000 in
set_option maxHeartbeats 4000000 in
theorem sfind_any (i l : Int) (r : Bool) (a : Option Addr) (n c : Nat) (L : List GP) (w : World) (h : RdG w (.slice a n c) L) (hs : ∀ p ∈ L, ∀ j, j < 8 → (p.1.m.st j).length ≤ 10000) (key : Int) :
    Calls Tryz.prog 14 #[sloV i l r a n c, .int .u64 key] w fun e w' => e = .returned (.tuple #[plV ((allSl ⟨i, l, r, gns L⟩ key).headD fnd0), .bool (!(allSl ⟨i, l, r, gns L⟩ key).isEmpty)]) ∧ Below w.heap.size w w' := by
  have HAll := Lib.hid (fun W (hb : Below w.heap.size w W) => all_any i l r a n c L W (h.below hb) hs key)
  have HBx := Lib.hid (BoxV.new w i l r a n c 41)
  have HB0 := Lib.hid (below_slo w i l r a n c 41)
  obtain ⟨F, hF⟩ : ∃ F, allSl ⟨i, l, r, gns L⟩ key = F := ⟨_, rfl⟩
  rw [hF] at HAll ⊢
  clear h hs hF
  go_enter Tryz.func14, Tryz.ntmps14
  go_upto_region 1 with fail
  obtain ⟨W, hW⟩ : ∃ W, w.alloc (.cells (sloC i l r a n c) 41) = W := ⟨_, rfl⟩
  change Code.wp _ _ _ _ ((w.alloc (.cells (sloC i l r a n c) 41)).alloc _)
  have hsz : W.heap.size = w.heap.size + 1 := by rw [← hW]; simp
  rw [hW] at HBx HB0 ⊢
  clear hW
  have hlw := HBx.out.lt
  have HB1 := Lib.hid (HB0.out.alloc HB0.out.size (.cells #[.int .i64 0, .int .i64 0, .int .i64 0, .int .u64 0, .int .u32 0, .int .i64 0, .int .i64 0] 36))
  have HX1 := Lib.hid (HBx.out.below ((Below.refl _ W).alloc (Nat.le_refl _) (.cells #[.int .i64 0, .int .i64 0, .int .i64 0, .int .u64 0, .int .u32 0, .int .i64 0, .int .i64 0] 36)))
  have k0 := HX1.out.c0
  have k1 := HX1.out.c1
  have k2 := HX1.out.c2
  have k3 := HX1.out.c3
  go_wp2_with fail
  refine (HAll.out _ HB1.out).mono ?_
  rintro e w1 ⟨v, rfl, ho, hb1⟩
  clear k0 k1 k2 k3
  have hR := ho.rd
  obtain ⟨a', cap', rfl, h2, h3, h4, h5⟩ := RdS.shape hR (by decide) fnd0
  have hlz : w.heap.size + 1 < w1.heap.size := by have := hb1.size; simp at this; omega
  have HP : BoxP w1 (w.heap.size + 1) fnd0 := by rw [← hsz]; exact (BoxP.new W fnd0).below hb1
  have z0 := HP.c0
  have z1 := HP.c1
  have z2 := HP.c2
  have z3 := HP.c3
  have z4 := HP.c4
  have z5 := HP.c5
  have z6 := HP.c6
  have hf := HP.f
  have HBe := Lib.hid (bstep HB1.out hb1)
  clear hb1 hR ho
  cases F with
  | nil =>
    go_wp2_with fail
    change bodyPost _ _ _ _ _ (pts w1 (w.heap.size + 1) (plL fnd0))
    have hby := HP.all fnd0
    have HBz := Lib.hid (pts_below (B := w.heap.size) (b := w.heap.size + 1) (by omega) (plL fnd0) HBe.out)
    generalize pts w1 (w.heap.size + 1) (plL fnd0) = V at *
    exact bodyPost_ret (v := .tuple #[plV fnd0, .bool false]) (by simp [results, Tryz.results14, go_sem, hby.c0, hby.c1, hby.c2, hby.c3, hby.c4, hby.c5, hby.c6]) rfl ⟨rfl, HBz.out⟩
  | cons x F =>
    obtain ⟨b, off, rfl, hc⟩ := h5 (by simp)
    have e0 : decide ((((x :: F).length : Nat) : Int) = 0) = false := by simp; omega
    have c0 : w1.cell? ⟨b, off, none⟩ = some (.int .i64 x.gen) := by simpa using hc 0 (by simp) 0 _ rfl
    have c1 : w1.cell? ⟨b, off + 1, none⟩ = some (.int .i64 x.mode) := by simpa using hc 0 (by simp) 1 _ rfl
    have c2 : w1.cell? ⟨b, off + 2, none⟩ = some (.int .i64 x.rev) := by simpa using hc 0 (by simp) 2 _ rfl
    have c3 : w1.cell? ⟨b, off + 3, none⟩ = some (.int .u64 x.it.key) := by simpa using hc 0 (by simp) 3 _ rfl
    have c4 : w1.cell? ⟨b, off + 4, none⟩ = some (.int .u32 x.it.ck) := by simpa using hc 0 (by simp) 4 _ rfl
    have c5 : w1.cell? ⟨b, off + 5, none⟩ = some (.int .i64 x.it.off) := by simpa using hc 0 (by simp) 5 _ rfl
    have c6 : w1.cell? ⟨b, off + 6, none⟩ = some (.int .i64 x.it.size) := by simpa using hc 0 (by simp) 6 _ rfl
    have hpos : 0 < (x :: F).length := by simp
    clear hc
    generalize (x :: F).length = m at *
    go_wp2_with fail
    change bodyPost _ _ _ _ _ (pts w1 (w.heap.size + 1) (plL x))
    have hby := HP.all x
    have HBz := Lib.hid (pts_below (B := w.heap.size) (b := w.heap.size + 1) (by omega) (plL x) HBe.out)
    generalize pts w1 (w.heap.size + 1) (plL x) = V at *
    exact bodyPost_ret (v := .tuple #[plV x, .bool true]) (by simp [results, Tryz.results14, go_sem, hby.c0, hby.c1, hby.c2, hby.c3, hby.c4, hby.c5, hby.c6]) rfl ⟨rfl, HBz.out⟩
end Go.Proofs.YtenkeodfijladaaGreat

namespace Go.Proofs.YtenkeodfijladaaGreat
open Go.RowKit

theorem newL_len : ∀ p ∈ newL, ∀ j, j < 8 → (p.1.m.st j).length ≤ 10000 := fun p hp j _ => by
  have : p = (fresh 1, Sl.nil) := by simpa [newL] using hp
  subst this
  exact Nat.zero_le _
theorem allSl_new (i l : Int) (r : Bool) (hA : 0 ≤ i ∧ i < 4 ∧ 4136 ≤ l ∧ l ≤ 262144) (key : Int) : allSl ⟨i, l, r, gns newL⟩ key = [] := by
  rw [allSl_of rfl (new_vld i l r hA)]
  have e : getM (gat (gns newL) 0).m key = none := by
    show getM (fresh 1).m key = none
    unfold getM
    rw [if_pos (fresh_map 1)]
    rfl
  show allF (gns newL) key (0 + 1) = []
  rw [allF, e]
  rfl
set_option maxRecDepth 100000 in
set_option maxHeartbeats 4000000 in
theorem sawake_any (w : World) : Calls Tryz.prog 12 #[] w fun e w' => e = .returned (.bool true) ∧ Below w.heap.size w w' := by
  have HN := Lib.hid (fun W => new_slot 0 9000 (by decide) W)
  have HF := Lib.hid (fun b W (h : GAt W b 0 (fresh 1, Sl.nil)) => sfind_any 0 9000 false (some ⟨b, 0, none⟩) 1 1 newL W (newL_rd h) newL_len 1)
  rw [allSl_new 0 9000 false (by decide)] at HF
  have HR1 := Lib.hid (fun W => route_any 5 2 W (by decide) (by decide))
  rw [show routeI 5 2 = 1 by decide] at HR1
  have HR2 := Lib.hid (fun W => route_any 4294967296 2 W (by decide) (by decide))
  rw [show routeI 4294967296 2 = 1 by decide] at HR2
  have HT := Lib.hid (fun b W (h : GAt W b 0 (fresh 1, Sl.nil)) => sfits_yes 0 9000 false (some ⟨b, 0, none⟩) 1 1 newL W (newL_rd h) newL_len (new_vld 0 9000 false (by decide)) 4096 (Nat.le_refl _))
  rw [show decide ((pat newL (1 - 1)).1.size + ((szN 4096 : Nat) : Int) ≤ 9000) = true by decide, show ((4096 : Nat) : Int) = 4096 from rfl] at HT
  go_enter Tryz.func12, Tryz.ntmps12
  go_wp2_with fail
  refine (HN.out _).mono ?_
  rintro e w1 ⟨b, rfl, hbb, hg, hb⟩
  have HB := Lib.hid hb
  have HG := Lib.hid hg
  clear hb hg
  go_upto_region 2 with fail
  obtain ⟨W, hW⟩ : ∃ W, w1.alloc (.cells (sloC 0 9000 false (some ⟨b, 0, none⟩) 1 1) 41) = W := ⟨_, rfl⟩
  have HX := Lib.hid (show BoxV W w1.heap.size 0 9000 false (some ⟨b, 0, none⟩) 1 1 from hW ▸ BoxV.new w1 0 9000 false (some ⟨b, 0, none⟩) 1 1 41)
  have hb1 : Below w1.heap.size w1 W := hW ▸ below_slo w1 0 9000 false (some ⟨b, 0, none⟩) 1 1 41
  have HB2 := Lib.hid (bstep HB.out hb1)
  have HG2 := Lib.hid (HG.out.below hb1)
  change Code.wp _ _ _ _ (w1.alloc (.cells (sloC 0 9000 false (some ⟨b, 0, none⟩) 1 1) 41))
  rw [hW]
  clear hW hb1 HB HG
  generalize w1.heap.size = b1 at *
  clear w1
  have x0 := HX.out.c0
  have x1 := HX.out.c1
  have x2 := HX.out.c2
  have x3 := HX.out.c3
  go_wp2_with fail
  refine (HF.out _ _ HG2.out).mono ?_
  rintro e w2 ⟨rfl, hb2⟩
  have HB3 := Lib.hid (bstep HB2.out hb2)
  have HG3 := Lib.hid (HG2.out.below hb2)
  have HX3 := Lib.hid (HX.out.below hb2)
  clear x0 x1 x2 x3 hb2 HB2 HG2 HX
  go_upto_region 3 with fail
  obtain ⟨V, hV⟩ : ∃ V, w2.alloc (.cells (plC fnd0) 36) = V := ⟨_, rfl⟩
  have hb3 : Below w2.heap.size w2 V := hV ▸ (Below.refl _ w2).alloc (Nat.le_refl _) _
  have HB4 := Lib.hid (bstep HB3.out hb3)
  have HG4 := Lib.hid (HG3.out.below hb3)
  have HX4 := Lib.hid (HX3.out.below hb3)
  change Code.wp _ _ _ _ (w2.alloc (.cells (plC fnd0) 36))
  rw [hV]
  clear hV hb3 HB3 HG3 HX3
  have x0 := HX4.out.c0
  have x1 := HX4.out.c1
  have x2 := HX4.out.c2
  have x3 := HX4.out.c3
  go_wp2_with fail
  refine (HR1.out _).mono ?_
  rintro e w3 ⟨rfl, rfl⟩
  go_wp2_with fail
  refine (HR2.out _).mono ?_
  rintro e w3 ⟨rfl, rfl⟩
  go_wp2_with fail
  refine (HT.out _ _ HG4.out).mono ?_
  rintro e w3 ⟨rfl, hb⟩
  have HB5 := Lib.hid (bstep HB4.out hb)
  clear hb
  go_wp2_with fail
  go_ret
  exact ⟨rfl, HB5.out⟩
end Go.Proofs.YtenkeodfijladaaGreat
