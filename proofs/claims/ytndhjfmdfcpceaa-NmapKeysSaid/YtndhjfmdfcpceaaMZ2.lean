/- Several texts in one, each over the last: NmapKeys, in plain Lean: which item of a key is the last that was put, how many keys there are. No program here. NmapCounts: the walk. NmapKeys: the walk. NmapKeys, from what the form gives of its arguments. -/
import Derived.Test.YtndhjfmdfcpceaaGD
import Derived.Test.YtndhjfmdfcpceaaGE
import Derived.Test.YtndhjfmdfcpceaaNz
import Derived.StillTailTactics
import Derived.Deep.QuietTactic
import Derived.BigQuiet
import Derived.BigRegion
import Derived.RegionTactic
namespace Go.Proofs.Ytndhjfmdfcpceaa

def lk (K : List It) (D : Nat → Bool) : Nat → Int → Option It
  | 0, _ => none
  | n + 1, key => if (iat K n).key = key then (if D n = true then none else some (iat K n)) else lk K D n key
def wt (K : List It) : Nat → Int → It
  | 0, _ => it0
  | n + 1, key => if (iat K n).key = key then iat K n else wt K n key
def sn (K : List It) (j : Nat) : Nat → Int → Bool
  | 0, _ => false
  | n + 1, key => if (iat K n).key = key then sn K j n key || decide (n + 1 < j) else sn K j n key
theorem lk_wt {K : List It} {D : Nat → Bool} {key : Int} {y : It} : ∀ {n}, lk K D n key = some y → wt K n key = y
  | 0, h => by cases h
  | n + 1, h => by
    unfold lk at h
    unfold wt
    by_cases e : (iat K n).key = key
    · rw [if_pos e] at h ⊢
      by_cases d : D n = true
      · rw [if_pos d] at h; cases h
      · rw [if_neg d] at h; exact Option.some.inj h
    · rw [if_neg e] at h ⊢; exact lk_wt h
theorem lk_mem {K : List It} {D : Nat → Bool} {key : Int} {y : It} : ∀ {n}, lk K D n key = some y → ∃ i, i < n ∧ (iat K i).key = key
  | 0, h => by cases h
  | n + 1, h => by
    unfold lk at h
    by_cases e : (iat K n).key = key
    · exact ⟨n, by omega, e⟩
    · rw [if_neg e] at h
      obtain ⟨i, hi, h⟩ := lk_mem h
      exact ⟨i, by omega, h⟩
theorem sn_iff {K : List It} {j : Nat} {key : Int} : ∀ {n}, sn K j n key = true ↔ ∃ i, i < n ∧ i + 1 < j ∧ (iat K i).key = key
  | 0 => by simp [sn]
  | n + 1 => by
    unfold sn
    by_cases e : (iat K n).key = key
    · rw [if_pos e, Bool.or_eq_true, sn_iff, decide_eq_true_eq]
      constructor
      · rintro (⟨i, h1, h2, h3⟩ | h)
        · exact ⟨i, by omega, h2, h3⟩
        · exact ⟨n, by omega, h, e⟩
      · rintro ⟨i, h1, h2, h3⟩
        by_cases hi : i = n
        · subst hi; exact .inr h2
        · exact .inl ⟨i, by omega, h2, h3⟩
    · rw [if_neg e, sn_iff]
      constructor
      · rintro ⟨i, h1, h2, h3⟩; exact ⟨i, by omega, h2, h3⟩
      · rintro ⟨i, h1, h2, h3⟩
        by_cases hi : i = n
        · subst hi; exact absurd h3 e
        · exact ⟨i, by omega, h2, h3⟩
def inK (K : List It) (j : Nat) (key : Int) : Bool := sn K (j + 1) j key
theorem inK_iff {K : List It} {j : Nat} {key : Int} : inK K j key = true ↔ ∃ i, i < j ∧ (iat K i).key = key := by
  unfold inK
  rw [sn_iff]
  exact ⟨fun ⟨i, h1, _, h3⟩ => ⟨i, h1, h3⟩, fun ⟨i, h1, h3⟩ => ⟨i, h1, by omega, h3⟩⟩
/-- The number of items of T whose keys are among the first j. -/
def cntK (T K : List It) (j : Nat) : Nat := T.countP fun y => inK K j y.key
theorem count_key {T : List It} (h : T.Pairwise fun a b => a.key < b.key) (key : Int) : T.countP (fun y => key == y.key) = if (fnd T key).isSome = true then 1 else 0 := by
  induction T with
  | nil => rfl
  | cons y r ih =>
    have h1 := (List.pairwise_cons.1 h).1
    have h2 := ih (List.pairwise_cons.1 h).2
    rw [List.countP_cons, fnd_cons, h2]
    by_cases e : y.key = key
    · have hn : fnd r key = none := fnd_none_of fun x hx => by
        have := h1 x hx
        omega
      rw [if_pos e, hn, e]
      simp
    · have e' : (key == y.key) = false := by
        simp only [beq_eq_false_iff_ne, ne_eq]
        exact fun h => e h.symm
      rw [if_neg e, e']
      simp
theorem count_or (p q : It → Bool) : ∀ T : List It, T.countP (fun y => p y || q y) = T.countP p + T.countP (fun y => q y && !p y)
  | [] => rfl
  | y :: r => by
    rw [List.countP_cons, List.countP_cons, List.countP_cons, count_or p q r]
    cases p y <;> cases q y <;> simp <;> omega
theorem inK_succ (K : List It) (j : Nat) (key : Int) : inK K (j + 1) key = (inK K j key || ((iat K j).key == key)) := by
  rw [Bool.eq_iff_iff, Bool.or_eq_true, inK_iff, inK_iff, beq_iff_eq]
  constructor
  · rintro ⟨i, h1, h2⟩
    by_cases e : i = j
    · subst e; exact .inr h2
    · exact .inl ⟨i, by omega, h2⟩
  · rintro (⟨i, h1, h2⟩ | h)
    · exact ⟨i, by omega, h2⟩
    · exact ⟨j, by omega, h⟩
theorem cntK_succ {T : List It} (K : List It) (h : T.Pairwise fun a b => a.key < b.key) (j : Nat) :
    cntK T K (j + 1) = cntK T K j + if (fnd T (iat K j).key).isSome = true ∧ inK K j (iat K j).key = false then 1 else 0 := by
  unfold cntK
  have e : (fun y : It => inK K (j + 1) y.key) = fun y : It => inK K j y.key || ((iat K j).key == y.key) := funext fun y => inK_succ K j y.key
  rw [e, count_or]
  congr 1
  by_cases hs : inK K j (iat K j).key = true
  · rw [if_neg (fun h => by rw [hs] at h; cases h.2)]
    refine List.countP_eq_zero.2 fun y _ => ?_
    by_cases e2 : (iat K j).key = y.key
    · rw [← e2, hs]; simp
    · simp [e2]
  · have hs' : inK K j (iat K j).key = false := by simpa using hs
    have e3 : (fun y : It => ((iat K j).key == y.key) && !inK K j y.key) = fun y : It => (iat K j).key == y.key := funext fun y => by
      by_cases e2 : (iat K j).key = y.key
      · rw [← e2, hs']; simp
      · simp [e2]
    rw [e3, count_key h]
    simp [hs']
/-- A map after i puts and drops. -/
structure KyM (M : Mp) (K : List It) (D : Nat → Bool) (i : Nat) : Prop where
  v : VldM M
  get : ∀ key, getM M key = lk K D i key
theorem KyM.nil (K : List It) (D : Nat → Bool) : KyM M0 K D 0 := ⟨VldM.nil, fun key => (getM_of (M := M0) VldM.nil key).trans rfl⟩
theorem KyM.put {M : Mp} {K : List It} {D : Nat → Bool} {i : Nat} (h : KyM M K D i) (hx : okB (iat K i) = true) (hg : M.garb + (szO (getM M (iat K i).key) : Int) ≤ 1099511627776) (hd : D i = false) : KyM (insM M (iat K i)) K D (i + 1) := by
  refine ⟨h.v.ins hx hg, fun key => ?_⟩
  rw [getM_ins h.v hx hg, h.get]
  conv => rhs; unfold lk
  rw [hd]
  rfl
theorem KyM.putdel {M : Mp} {K : List It} {D : Nat → Bool} {i : Nat} (h : KyM M K D i) (hx : okB (iat K i) = true) (hg : M.garb + (szO (getM M (iat K i).key) : Int) ≤ 1099511627776) (hd : D i = true)
    (hg2 : (insM M (iat K i)).garb + (szO (getM (insM M (iat K i)) (iat K i).key) : Int) ≤ 1099511627776) : KyM (delM (insM M (iat K i)) (iat K i).key) K D (i + 1) := by
  refine ⟨(h.v.ins hx hg).del hg2, fun key => ?_⟩
  rw [getM_del (h.v.ins hx hg) hg2, getM_ins h.v hx hg, h.get]
  conv => rhs; unfold lk
  rw [hd]
  by_cases e : (iat K i).key = key
  · rw [if_pos e, if_pos e]; rfl
  · rw [if_neg e, if_neg e, if_neg e]
theorem KyM.fnd {M : Mp} {K : List It} {D : Nat → Bool} {i : Nat} (h : KyM M K D i) (key : Int) : fnd (itemsM M) key = lk K D i key := by
  have := fnd_itemsM M key
  rw [srt_of_asc (itemsM_asc M), h.get] at this
  exact this
theorem KyM.len {M : Mp} {K : List It} {D : Nat → Bool} {i : Nat} (h : KyM M K D i) : cntK (itemsM M) K i = (itemsM M).length := by
  unfold cntK
  rw [List.countP_eq_length]
  intro y hy
  have h1 := fnd_mem' (itemsM_asc M) hy
  rw [h.fnd] at h1
  exact inK_iff.2 (lk_mem h1)
theorem KyM.cnt {M : Mp} {K : List It} {D : Nat → Bool} {i : Nat} (h : KyM M K D i) (j : Nat) :
    cntK (itemsM M) K (j + 1) = cntK (itemsM M) K j + if (lk K D i (iat K j).key).isSome = true ∧ inK K j (iat K j).key = false then 1 else 0 := by
  rw [cntK_succ K (pw_of (itemsM_asc M)), h.fnd]
theorem cntK_zero (T K : List It) : cntK T K 0 = 0 := by
  unfold cntK
  exact List.countP_eq_zero.2 fun y _ => by simp [inK, sn]
/-- Seen, as the loop over all puts finds it. -/
theorem sn_full {K : List It} {j : Nat} (hj : j < K.length) (key : Int) : sn K (j + 1) K.length key = inK K j key := by
  rw [Bool.eq_iff_iff, sn_iff, inK_iff]
  exact ⟨fun ⟨i, _, h2, h3⟩ => ⟨i, by omega, h3⟩, fun ⟨i, h1, h3⟩ => ⟨i, by omega, by omega, h3⟩⟩
end Go.Proofs.Ytndhjfmdfcpceaa

namespace Go.Proofs.Ytndhjfmdfcpceaa
open Go.RowKit

theorem RdT.cells {w : World} {b off n cap : Nat} {l : List It} (h : RdT w (.slice (some ⟨b, off, none⟩) n cap) l) {j : Nat} (hj : j < n) :
    w.cell? ⟨b, off + j * 4, none⟩ = some (.int .u64 (iat l j).key) ∧ w.cell? ⟨b, off + j * 4 + 1, none⟩ = some (.int .u32 (iat l j).ck) ∧ w.cell? ⟨b, off + j * 4 + 2, none⟩ = some (.int .i64 (iat l j).off) ∧ w.cell? ⟨b, off + j * 4 + 3, none⟩ = some (.int .i64 (iat l j).size) := by
  obtain ⟨b', o', e, h0, h1, h2, h3⟩ := h.at hj
  injection e with e
  injection e with e1 e2
  subst e1 e2
  exact ⟨h0, h1, h2, h3⟩
theorem RdH.cell {w : World} {b off n cap : Nat} {l : List Int} (h : RdH w (.slice (some ⟨b, off, none⟩) n cap) l) {j : Nat} (hj : j < n) : w.cell? ⟨b, off + j, none⟩ = some (.int .u16 (uat l j)) := by
  obtain ⟨b', o', e, h0⟩ := RdH.at h hj
  injection e with e
  injection e with e1 e2
  subst e1 e2
  exact h0
theorem sizeI (y : It) (hy : 0 ≤ y.size) (w : World) : Calls Try.prog 35 #[.int .i64 y.size] w fun e w' => e = .returned (.int .i64 ((lenO y : Nat) : Int)) ∧ w = w' := by
  have h := nsizeB y.size.toNat w
  rwa [Int.toNat_of_nonneg hy] at h
set_option maxRecDepth 100000 in
set_option maxHeartbeats 8000000 in
theorem counts_walk (va vb vc : Value) (l : List It) (dl : List Bool) (ws : List Int) (w : World) (h : RdT w va l) (h2 : RdO w vb dl) (h3 : RdH w vc ws) (hw : ∀ x ∈ ws, 0 ≤ x ∧ x ≤ 65535) :
    Calls Try.prog 6 #[va, vb, vc] w fun e w' => e = .returned (.bool true) ∧ Below w.heap.size w w' := by
  obtain ⟨da, dc, rfl, hd1, hd2⟩ := h2.shape0
  obtain ⟨wa, wc', rfl, hw1, hw2⟩ := h3.shape0
  have HD := Lib.hid h2
  have HW := Lib.hid h3
  have HI := Lib.hid (lawI_any va l w h)
  have HKo := Lib.hid (lawI_ok l)
  have hn20 := lawI_length l
  have HWq := Lib.hid (fun j (hj : j < ws.length) => hw _ (uat_mem hj))
  have HAw := Lib.hid (fun W => awakeM_any W)
  clear h h2 h3 hw
  generalize dl.length = dn at *
  generalize ws.length = wn at *
  generalize lawI l = K at *
  go_enter Try.func6, Try.ntmps6
  go_wp2_with fail
  refine HI.out.mono ?_; rintro e w1 ⟨kv, rfl, hown1, hb1⟩
  have HRk := Lib.hid hown1.rd
  obtain ⟨ka, kc, rfl, hk1, hk2⟩ := HRk.out.shape
  generalize hn : K.length = n at *
  have HN := Lib.hid hn
  have HB1 := Lib.hid hb1
  clear hown1 hb1 HI hn
  go_wp2_with fail
  refine (new_any _).mono ?_; rintro e w2 ⟨rfl, hb2⟩
  have HRk2 := Lib.hid (HRk.out.below hb2)
  have HB2 := Lib.hid (bstep HB1.out hb2)
  have HD2 := Lib.hid (HD.out.below HB2.out)
  have HW2 := Lib.hid (HW.out.below HB2.out)
  clear hb2 HRk HB1 HD HW
  go_upto_region 3 with fail
  obtain ⟨W3, hW3⟩ : ∃ W3, w2.alloc (.cells (mapC Sl.nil 0 0) 37) = W3 := ⟨_, rfl⟩
  have HX3 := Lib.hid (show BoxM W3 w2.heap.size Sl.nil 0 0 from hW3 ▸ BoxM.new w2 Sl.nil 0 0 37)
  have HB3 := Lib.hid (show Below w2.heap.size w2 W3 from hW3 ▸ below_map w2 Sl.nil 0 0 37)
  rw [hW3]
  clear hW3
  go_wp2_with fail
  go_loopw [9, 19] (fun sv iv W => ∃ (i S : Nat) (s : Sl) (M : Mp), sv = .int .i64 (S : Int) ∧ iv = .int .i64 (i : Int) ∧ i ≤ n ∧ Hid (StM M i S (i * 80000)) ∧ Hid (BoxM W w2.heap.size s M.live M.garb) ∧ Hid (OwnM W (w2.heap.size + 1) s M.st) ∧ Hid (Below w2.heap.size w2 W)) (fun _ iv _ => n - (intOf iv).toNat)
  case atStart => exact ⟨0, 0, Sl.nil, M0, rfl, rfl, Nat.zero_le _, Lib.hid StM.nil, HX3, Lib.hid (OwnM.nil _ _), HB3⟩
  case round =>
    obtain ⟨i, S, s, M, rfl, rfl, hi, HS, HX, HO, HB⟩ := hrel
    have hgs : w2.heap.size < wr.heap.size := HX.out.lt
    by_cases hin : i < n
    · have ii1 : (i : Int) < (n : Int) := by omega
      obtain ⟨pb, poff, rfl, k0, k1, k2, k3⟩ := (HRk2.out.below HB.out).at hin
      have hok := HKo.out (iat K i) (iat_mem (by rw [HN.out]; exact hin))
      have HKc := Lib.hid (fun W (hb : Below w2.heap.size w2 W) => (HRk2.out.below hb).cells hin)
      generalize hy : iat K i = y at *
      clear hy
      have hy0 : 0 ≤ y.size := by
        have h := hok
        unfold okB at h
        exact (of_decide_eq_true h).2.2.2.1
      have HP := Lib.hid (show ∀ W, RdM W s M.st → _ from fun W h => putM_any s M y W h (fun j _ => Nat.le_trans (HS.out.len j) (by omega)))
      rw [show itV y = .agg #[.int .u64 y.key, .int .u32 y.ck, .int .i64 y.off, .int .i64 y.size] from rfl] at HP
      have HPa := Lib.hid (HP.out wr.drew (HO.out.rd.below (below_drew (Below.refl _ _))))
      have hSb : S + lenO y ≤ 8000000 := by
        have h1 := HS.out.le
        have h2 : lenO y ≤ 4127 := szN_le _
        omega
      have HS7 := Lib.hid (HS.out.put (by omega) hok)
      clear HP
      have c0 := HX.out.c0
      have c1 := HX.out.c1
      have c2 := HX.out.c2
      have c3 := HX.out.c3
      have c4 := HX.out.c4
      have c5 := HX.out.c5
      have c6 := HX.out.c6
      have c7 := HX.out.c7
      have c8 := HX.out.cl
      have c9 := HX.out.cg
      have cF := HX.out.f
      go_upto_region 7 with fail
      refine wp_region_still_tail 5 (by kernel_rfl) (by kernel_rfl) ?_
      simp only [List.take_succ_cons, List.take_zero, List.drop_succ_cons, List.drop_zero]
      change wpStill Try.prog _ (World.drew _) _ _ _
      repeat still_step
      refine wpStill_nil ?_
      change wpList _ _ _ _ _ (World.drew _)
      go_wp2_with fail
      refine HPa.out.mono ?_; rintro e w7 ⟨⟨s7, rfl, hown7⟩, hb7⟩
      have hbd := bstep (below_drew (Below.refl wr.heap.size wr)) hb7
      have HX7 := Lib.hid (HX.out.below hbd)
      have HB7 := Lib.hid (bstep HB.out hbd)
      have HO7 := Lib.hid (hown7.mono (show w2.heap.size + 1 ≤ wr.drew.heap.size from hgs))
      have hd0 : lenO y ≤ 4127 := szN_le _
      have HZ := Lib.hid (fun W => sizeI y hy0 W)
      generalize insM M y = M7 at *
      generalize lenO y = d at *
      clear c0 c1 c2 c3 c4 c5 c6 c7 c8 c9 cF k0 k1 k2 k3 hown7 hb7 hbd HX HB HO HPa
      have c0 := HX7.out.c0
      have c1 := HX7.out.c1
      have c2 := HX7.out.c2
      have c3 := HX7.out.c3
      have c4 := HX7.out.c4
      have c5 := HX7.out.c5
      have c6 := HX7.out.c6
      have c7 := HX7.out.c7
      have c8 := HX7.out.cl
      have c9 := HX7.out.cg
      have cF := HX7.out.f
      go_upto_region 8 with fail
      change Code.wp _ _ _ _ (putM w7 w2.heap.size s7 M7.live M7.garb)
      obtain ⟨V, hV⟩ : ∃ V, putM w7 w2.heap.size s7 M7.live M7.garb = V := ⟨_, rfl⟩
      have HX8 := Lib.hid (show BoxM V w2.heap.size s7 M7.live M7.garb from hV ▸ HX7.out.all s7 M7.live M7.garb)
      have HB8 := Lib.hid (show Below w2.heap.size w2 V from hV ▸ putM_below HB7.out (Nat.le_refl _) s7 M7.live M7.garb)
      have HO8 := Lib.hid (show OwnM V (w2.heap.size + 1) s7 M7.st from hV ▸ HO7.out.putM (by omega) s7 M7.live M7.garb)
      rw [hV]
      clear hV c0 c1 c2 c3 c4 c5 c6 c7 c8 c9 cF HX7 HB7 HO7
      obtain ⟨k0, k1, k2, k3⟩ := HKc.out _ HB8.out
      go_wp2_with fail
      refine (HZ.out _).mono ?_; rintro e w8 ⟨rfl, rfl⟩
      go_upto_region 9 with fail
      go_cut [45] (fun b wx => b = .bool (decide (i < dn) && oat dl i) ∧ wx = V)
      case first =>
        by_cases hid : i < dn
        · have ii2 : (i : Int) < (dn : Int) := by omega
          obtain ⟨ob, oo, e, o0⟩ := RdO.at (RdL.below HD2.out HB8.out) hid
          subst e
          have HF := Lib.hid (show (decide (i < dn) && oat dl i) = oat dl i by simp [hid])
          generalize oat dl i = b9 at *
          go_wp2_with fail
          go_meet
          case rel => exact ⟨by rw [HF.out], rfl⟩
        · have ii2 : ¬ (i : Int) < (dn : Int) := by omega
          have HF := Lib.hid (show (decide (i < dn) && oat dl i) = false by simp [hid])
          go_wp2_with fail
          go_meet
          case rel => exact ⟨by rw [HF.out], rfl⟩
      case rest =>
        obtain ⟨rfl, hwx⟩ := hcut
        subst hwx
        generalize (decide (i < dn) && oat dl i) = b9 at *
        have HDl := Lib.hid (fun W (h : RdM W s7 M7.st) => deleteM_any s7 M7 y.key W h (fun j _ => Nat.le_trans (HS7.out.len j) (by omega)))
        have HSd := Lib.hid (HS7.out.del (by omega) y.key)
        have hg8 : w2.heap.size < _ := HX8.out.lt
        generalize delM M7 y.key = Md at *
        go_upto_if 45 with fail
        go_cut [9] (fun sv wx => sv = .int .i64 ((S : Int) + (d : Int)) ∧ ∃ (s : Sl) (M : Mp), Hid (StM M (i + 1) (S + d) (i * 80000 + 4127)) ∧ Hid (BoxM wx w2.heap.size s M.live M.garb) ∧ Hid (OwnM wx (w2.heap.size + 1) s M.st) ∧ Hid (Below w2.heap.size w2 wx))
        case first =>
          cases b9
          · go_wp2_with fail
            go_meet
            case rel => exact ⟨rfl, s7, M7, HS7, HX8, HO8, HB8⟩
          · skip
            have c0 := HX8.out.c0
            have c1 := HX8.out.c1
            have c2 := HX8.out.c2
            have c3 := HX8.out.c3
            have c4 := HX8.out.c4
            have c5 := HX8.out.c5
            have c6 := HX8.out.c6
            have c7 := HX8.out.c7
            have c8 := HX8.out.cl
            have c9 := HX8.out.cg
            have cF := HX8.out.f
            go_upto_region 10 with fail
            refine wp_region_still_tail 6 (by kernel_rfl) (by kernel_rfl) ?_
            simp only [List.take_succ_cons, List.take_zero, List.drop_succ_cons, List.drop_zero]
            change wpStill Try.prog _ (World.drew _) _ _ _
            repeat still_step
            refine wpStill_nil ?_
            change wpList _ _ _ _ _ (World.drew _)
            go_wp2_with fail
            refine (HDl.out _ (HO8.out.rd.below (below_drew (Below.refl _ _)))).mono ?_; rintro e w9 ⟨⟨s9, rfl, hown9⟩, hb9⟩
            have hbd := bstep (below_drew (Below.refl _ _)) hb9
            have HX9 := Lib.hid (HX8.out.below hbd)
            have HB9 := Lib.hid (bstep HB8.out hbd)
            have HO9 := Lib.hid (hown9.mono (show w2.heap.size + 1 ≤ _ from hg8))
            clear c0 c1 c2 c3 c4 c5 c6 c7 c8 c9 cF k0 k1 k2 k3 hown9 hbd hb9 HX8 HB8 HO8 HDl HS7
            have c0 := HX9.out.c0
            have c1 := HX9.out.c1
            have c2 := HX9.out.c2
            have c3 := HX9.out.c3
            have c4 := HX9.out.c4
            have c5 := HX9.out.c5
            have c6 := HX9.out.c6
            have c7 := HX9.out.c7
            have c8 := HX9.out.cl
            have c9 := HX9.out.cg
            have cF := HX9.out.f
            go_wp2_with fail
            go_meet
            case rel => exact ⟨rfl, s9, Md, HSd, Lib.hid (HX9.out.all s9 Md.live Md.garb), Lib.hid (HO9.out.putM (by omega) s9 Md.live Md.garb), Lib.hid (putM_below HB9.out (Nat.le_refl _) s9 Md.live Md.garb)⟩
        case rest =>
          obtain ⟨rfl, s9, M9, HS9, HX9, HO9, HB9⟩ := hcut
          clear HDl HSd HX8 HB8 HO8 HS7 k0 k1 k2 k3
          have hg9 : w2.heap.size < _ := HX9.out.lt
          by_cases hiw : i < wn
          · have ii3 : (i : Int) < (wn : Int) := by omega
            obtain ⟨ob, oo, e, o0⟩ := RdH.at (RdL.below HW2.out HB9.out) hiw
            subst e
            have HMc := Lib.hid (fun W (hb : Below w2.heap.size w2 W) => RdH.cell (RdL.below HW2.out hb) hiw)
            have hq := HWq.out i hiw
            generalize uat ws i = m at *
            obtain ⟨m, rfl⟩ := Int.eq_ofNat_of_zero_le hq.1
            have hm : m ≤ 65535 := by omega
            have HWs := Lib.hid (fun W (h : RdM W s9 M9.st) => wasteM_any s9 M9 (m : Int) W h (fun j _ => Nat.le_trans (HS9.out.len j) (by omega)))
            have HSw := Lib.hid (HS9.out.waste (by omega) hm)
            generalize wasteM M9 (m : Int) = Mw at *
            have c0 := HX9.out.c0
            have c1 := HX9.out.c1
            have c2 := HX9.out.c2
            have c3 := HX9.out.c3
            have c4 := HX9.out.c4
            have c5 := HX9.out.c5
            have c6 := HX9.out.c6
            have c7 := HX9.out.c7
            have c8 := HX9.out.cl
            have c9 := HX9.out.cg
            have cF := HX9.out.f
            go_upto_region 12 with fail
            refine wp_region_still_tail 6 (by kernel_rfl) (by kernel_rfl) ?_
            simp only [List.take_succ_cons, List.take_zero, List.drop_succ_cons, List.drop_zero]
            change wpStill Try.prog _ (World.drew _) _ _ _
            repeat still_step
            refine wpStill_nil ?_
            change wpList _ _ _ _ _ (World.drew _)
            go_wp2_with fail
            refine (HWs.out _ (HO9.out.rd.below (below_drew (Below.refl _ _)))).mono ?_; rintro e w10 ⟨⟨s10, rfl, hown10⟩, hb10⟩
            have hbd := bstep (below_drew (Below.refl _ _)) hb10
            have HX10 := Lib.hid (HX9.out.below hbd)
            have HB10 := Lib.hid (bstep HB9.out hbd)
            have HO10 := Lib.hid (hown10.mono (show w2.heap.size + 1 ≤ _ from hg9))
            clear c0 c1 c2 c3 c4 c5 c6 c7 c8 c9 cF hown10 hbd hb10 HX9 HB9 HO9 HWs HS9 o0
            have c0 := HX10.out.c0
            have c1 := HX10.out.c1
            have c2 := HX10.out.c2
            have c3 := HX10.out.c3
            have c4 := HX10.out.c4
            have c5 := HX10.out.c5
            have c6 := HX10.out.c6
            have c7 := HX10.out.c7
            have c8 := HX10.out.cl
            have c9 := HX10.out.cg
            have cF := HX10.out.f
            go_upto_region 13 with fail
            change Code.wp _ _ _ _ (putM w10 w2.heap.size s10 Mw.live Mw.garb)
            obtain ⟨V, hV⟩ : ∃ V, putM w10 w2.heap.size s10 Mw.live Mw.garb = V := ⟨_, rfl⟩
            have HX11 := Lib.hid (show BoxM V w2.heap.size s10 Mw.live Mw.garb from hV ▸ HX10.out.all s10 Mw.live Mw.garb)
            have HB11 := Lib.hid (show Below w2.heap.size w2 V from hV ▸ putM_below HB10.out (Nat.le_refl _) s10 Mw.live Mw.garb)
            have HO11 := Lib.hid (show OwnM V (w2.heap.size + 1) s10 Mw.st from hV ▸ HO10.out.putM (by omega) s10 Mw.live Mw.garb)
            rw [hV]
            clear hV c0 c1 c2 c3 c4 c5 c6 c7 c8 c9 cF HX10 HB10 HO10
            have o0 := HMc.out _ HB11.out
            clear HMc
            go_wp2_with fail
            exact ⟨⟨i + 1, S + d + m, s10, Mw, by go_num, by go_num, by omega, Lib.hid (HSw.out.mono (by omega)), HX11, HO11, HB11⟩, by simp [intOf]; omega⟩
          · have ii3 : ¬ (i : Int) < (wn : Int) := by omega
            go_wp2_with fail
            exact ⟨⟨i + 1, S + d, s9, M9, by go_num, by go_num, by omega, Lib.hid (HS9.out.mono (by omega)), HX9, HO9, HB9⟩, by simp [intOf]; omega⟩
    · have ii1 : ¬ (i : Int) < (n : Int) := by omega
      obtain rfl : i = n := by omega
      have hsl := HS.out.le
      have HI := Lib.hid (itemsM_any s M wr HO.out.rd (fun j _ => Nat.le_trans (HS.out.len j) (by omega)))
      have htl := itemsM_len (M := M) (fun j _ => Nat.le_trans (HS.out.len j) (by omega))
      have HTk := Lib.hid (itemsM_ok HS.out.v)
      have hlv := itemsM_sum HS.out.v
      have hsm := HS.out.sum
      have hg0 := HS.out.v.g0
      generalize itemsM M = T at *
      have HT := Lib.hid (fun j (hj : j < T.length) => sumI_take hj)
      have HTb := Lib.hid (fun j => show sumI (T.take j) ≤ 80000 * 4127 from Nat.le_trans (sumI_le _) (Nat.mul_le_mul_right _ (Nat.le_trans (by rw [List.length_take]; omega) htl)))
      have HTe := Lib.hid (show sumI (T.take T.length) = sumI T by rw [List.take_of_length_le (Nat.le_refl _)])
      generalize M.live = L at *
      generalize M.garb = G at *
      obtain ⟨G, rfl⟩ := Int.eq_ofNat_of_zero_le hg0
      subst hlv
      obtain rfl : S = sumI T + G := by omega
      clear HS hsm hg0
      have c0 := HX.out.c0
      have c1 := HX.out.c1
      have c2 := HX.out.c2
      have c3 := HX.out.c3
      have c4 := HX.out.c4
      have c5 := HX.out.c5
      have c6 := HX.out.c6
      have c7 := HX.out.c7
      have c8 := HX.out.cl
      have c9 := HX.out.cg
      have cF := HX.out.f
      go_wp2_with fail
      refine HI.out.mono ?_; rintro e w11 ⟨tv, rfl, hown11, hb11⟩
      have HX11 := Lib.hid (HX.out.below hb11)
      have HB11 := Lib.hid (bstep HB.out hb11)
      have HR11 := Lib.hid hown11.rd
      obtain ⟨ta, tc, rfl, ht1, ht2⟩ := HR11.out.shape
      generalize hn : T.length = tn at *
      clear hown11 hb11 c0 c1 c2 c3 c4 c5 c6 c7 c8 c9 cF HX HB HO HI
      have HHn := Lib.hid hn
      clear hn
      go_wp2_with fail
      go_loopw [11, 75] (fun sv iv W => ∃ j : Nat, sv = .int .i64 ((sumI (T.take j) : Nat) : Int) ∧ iv = .int .i64 (j : Int) ∧ j ≤ tn ∧ Hid (Below w11.heap.size w11 W)) (fun _ iv _ => tn - (intOf iv).toNat)
      case atStart => exact ⟨0, rfl, rfl, Nat.zero_le _, Lib.hid (Below.refl _ _)⟩
      case round =>
        obtain ⟨j, rfl, rfl, hj, HB⟩ := hrel
        by_cases hjt : j < tn
        · have jj1 : (j : Int) < (tn : Int) := by omega
          obtain ⟨pb, poff, rfl, k0, k1, k2, k3⟩ := (HR11.out.below HB.out).at hjt
          have hx0 : 0 ≤ (iat T j).size := (HTk.out _ (iat_mem (by rw [HHn.out]; exact hjt))).2.2.2.1
          have HS1 := Lib.hid (HT.out j hjt)
          have hb1 := HTb.out (j + 1)
          rw [HS1.out] at hb1
          have HS2 := Lib.hid (show ((sumI (T.take (j + 1)) : Nat) : Int) = ((sumI (T.take j) : Nat) : Int) + ((lenO (iat T j) : Nat) : Int) by rw [HS1.out]; unfold lenO; omega)
          have hb2 : sumI (T.take j) + lenO (iat T j) ≤ 80000 * 4127 := hb1
          have HZ := Lib.hid (fun W => sizeI (iat T j) hx0 W)
          clear HS1 hb1
          generalize lenO (iat T j) = d at *
          generalize iat T j = x at *
          generalize sumI (T.take j) = S1 at *
          have HBa := Lib.hid (show Below w11.heap.size w11 (wr.alloc (boxC x)) from bstep HB.out (below_box wr x))
          go_wp2_with fail
          refine (HZ.out _).mono ?_; rintro e w12 ⟨rfl, rfl⟩
          go_wp2_with fail
          exact ⟨⟨j + 1, by rw [HS2.out], by go_num, by omega, HBa⟩, by simp [intOf]; omega⟩
        · have jj1 : ¬ (j : Int) < (tn : Int) := by omega
          obtain rfl : j = tn := by omega
          have HXe := Lib.hid (HX11.out.below HB.out)
          have HBe := Lib.hid (bstep HB2.out (HB11.out.trans (HB.out.mono HB11.out.size)))
          rw [HTe.out]
          have hsb := HTb.out j
          rw [HTe.out] at hsb
          generalize sumI T = S1 at *
          clear HB HX11 HB11
          have c0 := HXe.out.c0
          have c1 := HXe.out.c1
          have c2 := HXe.out.c2
          have c3 := HXe.out.c3
          have c4 := HXe.out.c4
          have c5 := HXe.out.c5
          have c6 := HXe.out.c6
          have c7 := HXe.out.c7
          have c8 := HXe.out.cl
          have c9 := HXe.out.cg
          have cF := HXe.out.f
          go_wp2_with fail
          refine (HAw.out _).mono ?_; rintro e w13 ⟨rfl, hb13⟩
          have HBf := Lib.hid (bstep HBe.out hb13)
          clear hb13
          go_wp2_with fail
          go_ret
          exact ⟨rfl, HBf.out⟩
end Go.Proofs.Ytndhjfmdfcpceaa

namespace Go.Proofs.Ytndhjfmdfcpceaa
open Go.RowKit

def delD (dl : List Bool) (dn : Nat) (i : Nat) : Bool := decide (i < dn) && oat dl i
/-- A map after i puts and drops, with the bounds of its sums. -/
structure KeyM (M : Mp) (K : List It) (D : Nat → Bool) (i : Nat) : Prop where
  k : KyM M K D i
  s : ∃ S, StM M i S (i * 5000)
theorem KeyM.nil (K : List It) (D : Nat → Bool) : KeyM M0 K D 0 := ⟨KyM.nil K D, 0, StM.nil⟩
theorem KeyM.len {M : Mp} {K : List It} {D : Nat → Bool} {i : Nat} (h : KeyM M K D i) (hi : i ≤ 20) (j : Nat) : (M.st j).length ≤ 20 := by
  obtain ⟨S, h⟩ := h.s
  exact Nat.le_trans (h.len j) hi
theorem KeyM.put {M : Mp} {K : List It} {D : Nat → Bool} {i : Nat} (h : KeyM M K D i) (hi : i ≤ 20) (hx : okB (iat K i) = true) (hd : D i = false) : KeyM (insM M (iat K i)) K D (i + 1) := by
  obtain ⟨S, hs⟩ := h.s
  exact ⟨h.k.put hx (hs.garb (by omega) _) hd, _, (hs.put (by omega) hx).mono (by omega)⟩
theorem KeyM.putdel {M : Mp} {K : List It} {D : Nat → Bool} {i : Nat} (h : KeyM M K D i) (hi : i ≤ 20) (hx : okB (iat K i) = true) (hd : D i = true) : KeyM (delM (insM M (iat K i)) (iat K i).key) K D (i + 1) := by
  obtain ⟨S, hs⟩ := h.s
  have h1 := hs.put (by omega) hx
  exact ⟨h.k.putdel hx (hs.garb (by omega) _) hd (h1.garb (by omega) _), _, (h1.del (by omega) _).mono (by omega)⟩
theorem KeyM.putlen {M : Mp} {K : List It} {D : Nat → Bool} {i : Nat} (h : KeyM M K D i) (hi : i ≤ 20) (j : Nat) : ((insM M (iat K i)).st j).length ≤ 21 :=
  insM_len M _ (fun j => h.len hi j) j
theorem BoxI.putI_ne {W : World} {b c : Nat} {x : It} (h : BoxI W b x) (hp : c ≠ b) (y : It) : BoxI (putI W c y) b x :=
  (((h.set_ne (p := ⟨c, 0, none⟩) hp _).set_ne (p := ⟨c, 1, none⟩) hp _).set_ne (p := ⟨c, 2, none⟩) hp _).set_ne (p := ⟨c, 3, none⟩) hp _
set_option maxRecDepth 100000 in
set_option maxHeartbeats 16000000 in
theorem keys_walk (va vb : Value) (key : Int) (l : List It) (dl : List Bool) (w : World) (h : RdT w va l) (h2 : RdO w vb dl) :
    Calls Try.prog 5 #[va, vb, .int .u64 key] w fun e w' => e = .returned (.bool true) ∧ Below w.heap.size w w' := by
  obtain ⟨da, dc, rfl, hd1, hd2⟩ := h2.shape0
  have HD := Lib.hid h2
  have HI := Lib.hid (lawI_any va l w h)
  have HKo := Lib.hid (lawI_ok l)
  have hn20 := lawI_length l
  have HAw := Lib.hid (fun W => awakeM_any W)
  clear h h2
  obtain ⟨D, hD⟩ : ∃ D, delD dl dl.length = D := ⟨_, rfl⟩
  have HDf := Lib.hid (show ∀ i, D i = (decide (i < dl.length) && oat dl i) from fun i => by rw [← hD]; rfl)
  clear hD
  generalize dl.length = dn at *
  generalize lawI l = K at *
  go_enter Try.func5, Try.ntmps5
  go_wp2_with fail
  refine HI.out.mono ?_; rintro e w1 ⟨kv, rfl, hown1, hb1⟩
  have HRk := Lib.hid hown1.rd
  obtain ⟨ka, kc, rfl, hk1, hk2⟩ := HRk.out.shape
  generalize hn : K.length = n at *
  have HN := Lib.hid hn
  have HB1 := Lib.hid hb1
  clear hown1 hb1 HI hn
  go_wp2_with fail
  refine (new_any _).mono ?_; rintro e w2 ⟨rfl, hb2⟩
  have HRk2 := Lib.hid (HRk.out.below hb2)
  have HB2 := Lib.hid (bstep HB1.out hb2)
  have HD2 := Lib.hid (RdL.below HD.out HB2.out)
  clear hb2 HRk HB1 HD
  go_upto_region 3 with fail
  obtain ⟨W3, hW3⟩ : ∃ W3, w2.alloc (.cells (mapC Sl.nil 0 0) 37) = W3 := ⟨_, rfl⟩
  have HX3 := Lib.hid (show BoxM W3 w2.heap.size Sl.nil 0 0 from hW3 ▸ BoxM.new w2 Sl.nil 0 0 37)
  have HB3 := Lib.hid (show Below w2.heap.size w2 W3 from hW3 ▸ below_map w2 Sl.nil 0 0 37)
  rw [hW3]
  clear hW3
  go_wp2_with fail
  go_loopw [24] (fun iv W => ∃ (i : Nat) (s : Sl) (M : Mp), iv = .int .i64 (i : Int) ∧ i ≤ n ∧ Hid (KeyM M K D i) ∧ Hid (BoxM W w2.heap.size s M.live M.garb) ∧ Hid (OwnM W (w2.heap.size + 1) s M.st) ∧ Hid (Below w2.heap.size w2 W)) (fun iv _ => n - (intOf iv).toNat)
  case atStart => exact ⟨0, Sl.nil, M0, rfl, Nat.zero_le _, Lib.hid (KeyM.nil K D), HX3, Lib.hid (OwnM.nil _ _), HB3⟩
  case round =>
    obtain ⟨i, s, M, rfl, hi, HS, HX, HO, HB⟩ := hrel
    have hgs : w2.heap.size < wr.heap.size := HX.out.lt
    by_cases hin : i < n
    · have ii1 : (i : Int) < (n : Int) := by omega
      obtain ⟨pb, poff, rfl, k0, k1, k2, k3⟩ := (HRk2.out.below HB.out).at hin
      have hok := HKo.out (iat K i) (iat_mem (by rw [HN.out]; exact hin))
      have HKc := Lib.hid (fun W (hb : Below w2.heap.size w2 W) => (HRk2.out.below hb).cells hin)
      have HPu := Lib.hid (fun hd : D i = false => HS.out.put (by omega) hok hd)
      have HPd := Lib.hid (fun hd : D i = true => HS.out.putdel (by omega) hok hd)
      have HPl := Lib.hid (fun j => HS.out.putlen (by omega) j)
      generalize hy : iat K i = y at *
      clear hy
      have HP := Lib.hid (show ∀ W, RdM W s M.st → _ from fun W h => putM_any s M y W h (fun j _ => Nat.le_trans (HS.out.len (by omega) j) (by omega)))
      rw [show itV y = .agg #[.int .u64 y.key, .int .u32 y.ck, .int .i64 y.off, .int .i64 y.size] from rfl] at HP
      have HPa := Lib.hid (HP.out wr.drew (HO.out.rd.below (below_drew (Below.refl _ _))))
      clear HP
      have c0 := HX.out.c0
      have c1 := HX.out.c1
      have c2 := HX.out.c2
      have c3 := HX.out.c3
      have c4 := HX.out.c4
      have c5 := HX.out.c5
      have c6 := HX.out.c6
      have c7 := HX.out.c7
      have c8 := HX.out.cl
      have c9 := HX.out.cg
      have cF := HX.out.f
      go_upto_region 6 with fail
      refine wp_region_still_tail 5 (by kernel_rfl) (by kernel_rfl) ?_
      simp only [List.take_succ_cons, List.take_zero, List.drop_succ_cons, List.drop_zero]
      change wpStill Try.prog _ (World.drew _) _ _ _
      repeat still_step
      refine wpStill_nil ?_
      change wpList _ _ _ _ _ (World.drew _)
      go_wp2_with fail
      refine HPa.out.mono ?_; rintro e w7 ⟨⟨s7, rfl, hown7⟩, hb7⟩
      have hbd := bstep (below_drew (Below.refl wr.heap.size wr)) hb7
      have HX7 := Lib.hid (HX.out.below hbd)
      have HB7 := Lib.hid (bstep HB.out hbd)
      have HO7 := Lib.hid (hown7.mono (show w2.heap.size + 1 ≤ wr.drew.heap.size from hgs))
      generalize insM M y = M7 at *
      clear c0 c1 c2 c3 c4 c5 c6 c7 c8 c9 cF k0 k1 k2 k3 hown7 hb7 hbd HX HB HO HPa
      have c0 := HX7.out.c0
      have c1 := HX7.out.c1
      have c2 := HX7.out.c2
      have c3 := HX7.out.c3
      have c4 := HX7.out.c4
      have c5 := HX7.out.c5
      have c6 := HX7.out.c6
      have c7 := HX7.out.c7
      have c8 := HX7.out.cl
      have c9 := HX7.out.cg
      have cF := HX7.out.f
      go_upto_region 7 with fail
      change Code.wp _ _ _ _ (putM w7 w2.heap.size s7 M7.live M7.garb)
      obtain ⟨V, hV⟩ : ∃ V, putM w7 w2.heap.size s7 M7.live M7.garb = V := ⟨_, rfl⟩
      have HX8 := Lib.hid (show BoxM V w2.heap.size s7 M7.live M7.garb from hV ▸ HX7.out.all s7 M7.live M7.garb)
      have HB8 := Lib.hid (show Below w2.heap.size w2 V from hV ▸ putM_below HB7.out (Nat.le_refl _) s7 M7.live M7.garb)
      have HO8 := Lib.hid (show OwnM V (w2.heap.size + 1) s7 M7.st from hV ▸ HO7.out.putM (by omega) s7 M7.live M7.garb)
      rw [hV]
      clear hV c0 c1 c2 c3 c4 c5 c6 c7 c8 c9 cF HX7 HB7 HO7
      obtain ⟨k0, k1, k2, k3⟩ := HKc.out _ HB8.out
      go_cut [42] (fun b wx => b = .bool (D i) ∧ wx = V)
      case first =>
        by_cases hid : i < dn
        · have ii2 : (i : Int) < (dn : Int) := by omega
          obtain ⟨ob, oo, e, o0⟩ := RdO.at (RdL.below HD2.out HB8.out) hid
          subst e
          have HF := Lib.hid (show D i = oat dl i by rw [HDf.out]; simp [hid])
          generalize oat dl i = b9 at *
          go_wp2_with fail
          go_meet
          case rel => exact ⟨by rw [HF.out], rfl⟩
        · have ii2 : ¬ (i : Int) < (dn : Int) := by omega
          have HF := Lib.hid (show D i = false by rw [HDf.out]; simp [hid])
          go_wp2_with fail
          go_meet
          case rel => exact ⟨by rw [HF.out], rfl⟩
      case rest =>
        obtain ⟨rfl, hwx⟩ := hcut
        subst hwx
        have HDl := Lib.hid (fun W (h : RdM W s7 M7.st) => deleteM_any s7 M7 y.key W h (fun j _ => Nat.le_trans (HPl.out j) (by omega)))
        have hg8 : w2.heap.size < _ := HX8.out.lt
        generalize delM M7 y.key = Md at *
        generalize hDi : D i = b9 at *
        clear hDi
        cases b9
        · have HSn := Lib.hid (HPu.out rfl)
          go_wp2_with fail
          exact ⟨⟨i + 1, s7, M7, by go_num, by omega, HSn, HX8, HO8, HB8⟩, by simp [intOf]; omega⟩
        · have HSn := Lib.hid (HPd.out rfl)
          have c0 := HX8.out.c0
          have c1 := HX8.out.c1
          have c2 := HX8.out.c2
          have c3 := HX8.out.c3
          have c4 := HX8.out.c4
          have c5 := HX8.out.c5
          have c6 := HX8.out.c6
          have c7 := HX8.out.c7
          have c8 := HX8.out.cl
          have c9 := HX8.out.cg
          have cF := HX8.out.f
          go_upto_region 8 with fail
          refine wp_region_still_tail 6 (by kernel_rfl) (by kernel_rfl) ?_
          simp only [List.take_succ_cons, List.take_zero, List.drop_succ_cons, List.drop_zero]
          change wpStill Try.prog _ (World.drew _) _ _ _
          repeat still_step
          refine wpStill_nil ?_
          change wpList _ _ _ _ _ (World.drew _)
          go_wp2_with fail
          refine (HDl.out _ (HO8.out.rd.below (below_drew (Below.refl _ _)))).mono ?_; rintro e w9 ⟨⟨s9, rfl, hown9⟩, hb9⟩
          have hbd := bstep (below_drew (Below.refl _ _)) hb9
          have HX9 := Lib.hid (HX8.out.below hbd)
          have HB9 := Lib.hid (bstep HB8.out hbd)
          have HO9 := Lib.hid (hown9.mono (show w2.heap.size + 1 ≤ _ from hg8))
          clear c0 c1 c2 c3 c4 c5 c6 c7 c8 c9 cF k0 k1 k2 k3 hown9 hbd hb9 HX8 HB8 HO8 HDl
          have c0 := HX9.out.c0
          have c1 := HX9.out.c1
          have c2 := HX9.out.c2
          have c3 := HX9.out.c3
          have c4 := HX9.out.c4
          have c5 := HX9.out.c5
          have c6 := HX9.out.c6
          have c7 := HX9.out.c7
          have c8 := HX9.out.cl
          have c9 := HX9.out.cg
          have cF := HX9.out.f
          go_wp2_with fail
          exact ⟨⟨i + 1, s9, Md, by go_num, by omega, HSn, Lib.hid (HX9.out.all s9 Md.live Md.garb), Lib.hid (HO9.out.putM (by omega) s9 Md.live Md.garb), Lib.hid (putM_below HB9.out (Nat.le_refl _) s9 Md.live Md.garb)⟩, by simp [intOf]; omega⟩
    · have ii1 : ¬ (i : Int) < (n : Int) := by omega
      obtain rfl : i = n := by omega
      obtain ⟨hK21, hK22⟩ : (⟨key, 0, 0, 0⟩ :: K).length = i + 1 ∧ i + 1 ≤ 21 := ⟨by rw [List.length_cons, HN.out], by omega⟩
      have Hr5 := Lib.hid (rdT_rd (HRk2.out.below HB.out))
      rw [HN.out] at Hr5
      go_wp2_with (at_builtin; go_must (refine wpList_app (m := i) (n := 1) rfl (.tmp 53) (.tmp 54) 22 rfl elemT wr.heap.size rfl (World.ownsRow_lit (e := 29) (size := 4) wr #[.int .u64 key, .int .u32 0, .int .i64 0, .int .i64 0] 1 (Nat.le_refl _) (by decide) rfl) rfl (Hr5.out.alloc _) (itsC_one' _) (by unfold maxLen; omega) (by omega) (by simp) ?_); intro v5 w5 hown5 hgr5 hv5; clear hv5; rw [Nat.add_comm 1 i] at hown5; obtain ⟨aa, ac, rfl, ha1, ha2, _⟩ := own_form hown5; have ha3 := lt63 ha1 ha2)
      have HB5 := Lib.hid (show Below wr.heap.size wr w5 from own_below ((Below.refl _ _).alloc (Nat.le_refl _) _) (World.ownsRow_lit (e := 29) (size := 4) wr #[.int .u64 key, .int .u32 0, .int .i64 0, .int .i64 0] 1 (Nat.le_refl _) (by decide) rfl) (by simp) hgr5)
      have HO5 := Lib.hid (show OwnT w5 wr.heap.size (.slice aa (i + 1) ac) (⟨key, 0, 0, 0⟩ :: K) by rw [show OwnT w5 wr.heap.size (.slice aa (i + 1) ac) (⟨key, 0, 0, 0⟩ :: K) = w5.ownsRow wr.heap.size 29 4 (.slice aa (i + 1) ac) (⟨key, 0, 0, 0⟩ :: K : List It).length (itsC (⟨key, 0, 0, 0⟩ :: K)) from rfl, hK21]; exact hown5)
      have HA := Lib.hid HO5.out.rd
      have HX5 := Lib.hid (HX.out.below HB5.out)
      have HM5 := Lib.hid (HO.out.keep HB5.out)
      have HBw := Lib.hid (bstep HB.out HB5.out)
      have HAz := Lib.hid (show iat (⟨key, 0, 0, 0⟩ :: K) 0 = ⟨key, 0, 0, 0⟩ from rfl)
      have HAs := Lib.hid (fun j => show iat (⟨key, 0, 0, 0⟩ :: K) (j + 1) = iat K j from rfl)
      generalize (⟨key, 0, 0, 0⟩ :: K : List It) = AP at *
      clear hown5 hgr5 HO5 HB5 HX HO HB Hr5 hK21
      generalize hm : i + 1 = m at *
      have HMi := Lib.hid hm
      clear hm
      have HLk := Lib.hid (fun k => HS.out.k.cnt k)
      have HLn := Lib.hid HS.out.k.len
      have HC0 := Lib.hid (cntK_zero (itemsM M) K)
      go_wp2_with fail
      go_loopw [10, 57] (fun mv jv W => ∃ j : Nat, mv = .int .i64 ((cntK (itemsM M) K (j - 1) : Nat) : Int) ∧ jv = .int .i64 (j : Int) ∧ j ≤ m ∧ Hid (Below w5.heap.size w5 W)) (fun _ jv _ => m - (intOf jv).toNat)
      case atStart => exact ⟨0, by rw [HC0.out]; rfl, rfl, Nat.zero_le _, Lib.hid (Below.refl _ _)⟩
      case round =>
        obtain ⟨j, rfl, rfl, hj, HBj⟩ := hrel
        by_cases hjt : j < m
        · have jj1 : (j : Int) < (i : Int) + 1 := by have := HMi.out; omega
          obtain ⟨qb, qoff, rfl, q0, q1, q2, q3⟩ := (HA.out.below HBj.out).at hjt
          go_upto_region 16 with fail
          generalize hx : iat AP j = x at *
          have HXj := Lib.hid hx
          clear hx
          obtain ⟨W6, hW6⟩ : ∃ W6, wr.alloc (boxC x) = W6 := ⟨_, rfl⟩
          have HB6 := Lib.hid (show Below w5.heap.size w5 W6 from hW6 ▸ bstep HBj.out (below_box wr x))
          have HX6 := Lib.hid (show BoxI W6 wr.heap.size x from hW6 ▸ BoxI.new wr x)
          have hw6 : W6.heap.size = wr.heap.size + 1 := by rw [← hW6]; simp
          obtain ⟨W7, hW7⟩ : ∃ W7, W6.alloc (boxC it0) = W7 := ⟨_, rfl⟩
          have HB7 := Lib.hid (show Below w5.heap.size w5 W7 from hW7 ▸ bstep HB6.out (below_box W6 it0))
          have HX7 := Lib.hid (show BoxI W7 wr.heap.size x from hW7 ▸ HX6.out.below (below_box W6 it0))
          have HZ7 := Lib.hid (show BoxI W7 (wr.heap.size + 1) it0 from hW7 ▸ (hw6 ▸ BoxI.new W6 it0))
          rw [show (wr.alloc (.cells #[.int .u64 x.key, .int .u32 x.ck, .int .i64 x.off, .int .i64 x.size] 29)).alloc (.cells #[.int .u64 0, .int .u32 0, .int .i64 0, .int .i64 0] 29) = W7 by rw [← hW7, ← hW6]; rfl]
          clear hW7 hW6 hw6 HB6 HX6 q0 q1 q2 q3
          have HLo := Lib.hid HBj.out.size
          generalize wr.heap.size = bx at *
          go_wp2_with fail
          go_loopw [14, 15, 65] (fun hv sv tv W => ∃ t : Nat, hv = .bool (lk K D t x.key).isSome ∧ sv = .bool (sn K j t x.key) ∧ tv = .int .i64 (t : Int) ∧ t ≤ i ∧ Hid (BoxI W bx x) ∧ Hid (BoxI W (bx + 1) (wt K t x.key)) ∧ Hid (Below w5.heap.size w5 W)) (fun _ _ tv _ => i - (intOf tv).toNat)
          case atStart => exact ⟨0, rfl, rfl, rfl, Nat.zero_le _, HX7, HZ7, HB7⟩
          case round =>
            obtain ⟨t, rfl, rfl, rfl, ht, HXt, HZt, HBt⟩ := hrel
            by_cases hti : t < i
            · have tt1 : (t : Int) < (i : Int) := by omega
              obtain ⟨pb, poff, e, k0, k1, k2, k3⟩ := (HRk2.out.below (bstep HBw.out HBt.out)).at hti
              subst e
              have HLs := Lib.hid (show lk K D (t + 1) x.key = if (iat K t).key = x.key then (if D t = true then none else some (iat K t)) else lk K D t x.key from rfl)
              have HWs := Lib.hid (show wt K (t + 1) x.key = if (iat K t).key = x.key then iat K t else wt K t x.key from rfl)
              have HSs := Lib.hid (show sn K j (t + 1) x.key = if (iat K t).key = x.key then sn K j t x.key || decide (t + 1 < j) else sn K j t x.key from rfl)
              have HKc := Lib.hid (fun W (hb : Below w5.heap.size w5 W) => (HRk2.out.below (bstep HBw.out hb)).cells hti)
              generalize iat K t = y at *
              have js1 : IntKind.i64.wrap ((j : Int) - 1) = (j : Int) - 1 := IntWalk.i64_in _ (by omega)
              have i0 := HXt.out.t.c0
              have i1 := HXt.out.t.c1
              have i2 := HXt.out.t.c2
              have i3 := HXt.out.t.c3
              have iF := HXt.out.f
              by_cases hk : y.key = x.key
              · have hk' : (y.key == x.key) = true := by simp [hk]
                have HL2 := Lib.hid (HLs.out.trans (if_pos hk))
                have HW2 := Lib.hid (HWs.out.trans (if_pos hk))
                have HS2 := Lib.hid (HSs.out.trans (if_pos hk))
                have HKn := Lib.hid hk
                clear HLs HWs HSs hk
                go_upto_region 19 with fail
                go_quiet (fail)
                have HXq := Lib.hid (HXt.out.below (below_drewN (Below.refl _ _) nq))
                have HZq := Lib.hid (HZt.out.below (below_drewN (Below.refl _ _) nq))
                have HBq := Lib.hid (below_drewN HBt.out nq)
                clear i0 i1 i2 i3 iF k0 k1 k2 k3 HXt HZt HBt
                generalize wr.drewN nq = wq at *
                generalize wt K t x.key = zz at *
                generalize hsn : sn K j t x.key = b15 at *
                clear hsn
                obtain ⟨k0, k1, k2, k3⟩ := HKc.out _ HBq.out
                have HDt := Lib.hid (HDf.out t)
                by_cases htd : t < dn
                · have tt2 : (t : Int) < (dn : Int) := by omega
                  obtain ⟨ob, oo, e, o0⟩ := RdO.at (RdL.below HD2.out (bstep HBw.out HBq.out)) htd
                  subst e
                  have HDe := Lib.hid (show D t = oat dl t by rw [HDt.out]; simp [htd])
                  generalize oat dl t = b9 at *
                  clear HDt
                  go_upto_region 20 with fail
                  have hne : ob < bx + 1 := by
                    obtain ⟨ob2, oo2, e2, o2⟩ := RdO.at (RdL.below HD2.out HBw.out) htd
                    injection e2 with e2
                    injection e2 with e2 _
                    subst e2
                    have := World.block_lt_of_cell? _ _ o2
                    have := HLo.out
                    exact Nat.lt_succ_of_le (Nat.le_trans (Nat.le_of_lt ‹_›) this)
                  have z0 := HZq.out.t.c0
                  have z1 := HZq.out.t.c1
                  have z2 := HZq.out.t.c2
                  have z3 := HZq.out.t.c3
                  have zF := HZq.out.f
                  go_region
                  obtain ⟨V8, hV8⟩ : ∃ V8, (putI wq (bx + 1) y).drew = V8 := ⟨_, rfl⟩
                  have HX8 := Lib.hid (show BoxI V8 bx x from hV8 ▸ (HXq.out.putI_ne (show bx + 1 ≠ bx by omega) y).below (below_drew (Below.refl _ _)))
                  have HZ8 := Lib.hid (show BoxI V8 (bx + 1) y from hV8 ▸ (HZq.out.put y).below (below_drew (Below.refl _ _)))
                  have HB8 := Lib.hid (show Below w5.heap.size w5 V8 from hV8 ▸ below_drew (putI_below HBq.out (by have := HLo.out; omega) y))
                  rw [show ((((wq.setCell ⟨bx + 1, 0, none⟩ (.int .u64 y.key)).setCell ⟨bx + 1, 1, none⟩ (.int .u32 y.ck)).setCell ⟨bx + 1, 2, none⟩ (.int .i64 y.off)).setCell ⟨bx + 1, 3, none⟩ (.int .i64 y.size)).drew = V8 from hV8]
                  clear hV8 z0 z1 z2 z3 zF k0 k1 k2 k3 HXq HZq HBq
                  cases b15
                  · by_cases htj : t + 1 < j
                    · have tj1 : (t : Int) < (j : Int) - 1 := by omega
                      have HS3 := Lib.hid (HS2.out.trans (show (false || decide (t + 1 < j)) = true by simp [htj]))
                      go_wp2_with fail
                      exact ⟨⟨t + 1, by rw [HL2.out, HDe.out]; cases b9 <;> rfl, by rw [HS3.out], by go_num, by omega, HX8, by rw [HW2.out]; exact HZ8, HB8⟩, by simp [intOf]; omega⟩
                    · have tj1 : ¬ (t : Int) < (j : Int) - 1 := by omega
                      have HS3 := Lib.hid (HS2.out.trans (show (false || decide (t + 1 < j)) = false by simp [htj]))
                      go_wp2_with fail
                      exact ⟨⟨t + 1, by rw [HL2.out, HDe.out]; cases b9 <;> rfl, by rw [HS3.out], by go_num, by omega, HX8, by rw [HW2.out]; exact HZ8, HB8⟩, by simp [intOf]; omega⟩
                  · have HS3 := Lib.hid (HS2.out.trans (Bool.true_or _))
                    go_wp2_with fail
                    exact ⟨⟨t + 1, by rw [HL2.out, HDe.out]; cases b9 <;> rfl, by rw [HS3.out], by go_num, by omega, HX8, by rw [HW2.out]; exact HZ8, HB8⟩, by simp [intOf]; omega⟩
                · have tt2 : ¬ (t : Int) < (dn : Int) := by omega
                  have HDe := Lib.hid (show D t = false by rw [HDt.out]; simp [htd])
                  clear HDt
                  go_upto_region 20 with fail
                  have z0 := HZq.out.t.c0
                  have z1 := HZq.out.t.c1
                  have z2 := HZq.out.t.c2
                  have z3 := HZq.out.t.c3
                  have zF := HZq.out.f
                  go_region
                  obtain ⟨V8, hV8⟩ : ∃ V8, (putI wq (bx + 1) y).drew = V8 := ⟨_, rfl⟩
                  have HX8 := Lib.hid (show BoxI V8 bx x from hV8 ▸ (HXq.out.putI_ne (show bx + 1 ≠ bx by omega) y).below (below_drew (Below.refl _ _)))
                  have HZ8 := Lib.hid (show BoxI V8 (bx + 1) y from hV8 ▸ (HZq.out.put y).below (below_drew (Below.refl _ _)))
                  have HB8 := Lib.hid (show Below w5.heap.size w5 V8 from hV8 ▸ below_drew (putI_below HBq.out (by have := HLo.out; omega) y))
                  rw [show ((((wq.setCell ⟨bx + 1, 0, none⟩ (.int .u64 y.key)).setCell ⟨bx + 1, 1, none⟩ (.int .u32 y.ck)).setCell ⟨bx + 1, 2, none⟩ (.int .i64 y.off)).setCell ⟨bx + 1, 3, none⟩ (.int .i64 y.size)).drew = V8 from hV8]
                  clear hV8 z0 z1 z2 z3 zF k0 k1 k2 k3 HXq HZq HBq
                  cases b15
                  · by_cases htj : t + 1 < j
                    · have tj1 : (t : Int) < (j : Int) - 1 := by omega
                      have HS3 := Lib.hid (HS2.out.trans (show (false || decide (t + 1 < j)) = true by simp [htj]))
                      go_wp2_with fail
                      exact ⟨⟨t + 1, by rw [HL2.out, HDe.out]; rfl, by rw [HS3.out], by go_num, by omega, HX8, by rw [HW2.out]; exact HZ8, HB8⟩, by simp [intOf]; omega⟩
                    · have tj1 : ¬ (t : Int) < (j : Int) - 1 := by omega
                      have HS3 := Lib.hid (HS2.out.trans (show (false || decide (t + 1 < j)) = false by simp [htj]))
                      go_wp2_with fail
                      exact ⟨⟨t + 1, by rw [HL2.out, HDe.out]; rfl, by rw [HS3.out], by go_num, by omega, HX8, by rw [HW2.out]; exact HZ8, HB8⟩, by simp [intOf]; omega⟩
                  · have HS3 := Lib.hid (HS2.out.trans (Bool.true_or _))
                    go_wp2_with fail
                    exact ⟨⟨t + 1, by rw [HL2.out, HDe.out]; rfl, by rw [HS3.out], by go_num, by omega, HX8, by rw [HW2.out]; exact HZ8, HB8⟩, by simp [intOf]; omega⟩
              · have hk' : (y.key == x.key) = false := by simp [hk]
                have HL2 := Lib.hid (HLs.out.trans (if_neg hk))
                have HW2 := Lib.hid (HWs.out.trans (if_neg hk))
                have HS2 := Lib.hid (HSs.out.trans (if_neg hk))
                clear HLs HWs HSs
                go_upto_region 19 with fail
                go_quiet (fail)
                have HXq := Lib.hid (HXt.out.below (below_drewN (Below.refl _ _) nq))
                have HZq := Lib.hid (HZt.out.below (below_drewN (Below.refl _ _) nq))
                have HBq := Lib.hid (below_drewN HBt.out nq)
                go_wp2_with fail
                exact ⟨⟨t + 1, by rw [HL2.out], by rw [HS2.out], by go_num, by omega, HXq, by rw [HW2.out]; exact HZq, HBq⟩, by simp [intOf]; omega⟩
            · have tt1 : ¬ (t : Int) < (i : Int) := by omega
              obtain rfl : t = i := by omega
              have hgo : getM M x.key = lk K D t x.key := HS.out.k.get x.key
              have HXe := Lib.hid (HX5.out.below HBt.out)
              have HGe := Lib.hid (getM_any s M x.key wr (HM5.out.keep HBt.out).rd (fun k _ => Nat.le_trans (HS.out.len (by omega) k) (by decide)))
              rw [hgo] at HGe
              clear hgo
              have HCt := Lib.hid (show cntK (itemsM M) K (j + 1 - 1) = cntK (itemsM M) K (j - 1) + if 0 < j ∧ (lk K D t x.key).isSome = true ∧ sn K j t x.key = false then 1 else 0 by
                cases j with
                | zero => rw [if_neg (fun h => by omega)]; rfl
                | succ r =>
                  have h1 := HLk.out r
                  have h2 : iat K r = x := (HAs.out r).symm.trans HXj.out
                  have h3 := sn_full (K := K) (j := r) (by have := HN.out; have := HMi.out; omega) x.key
                  rw [HN.out] at h3
                  rw [h2, ← h3] at h1
                  simp only [Nat.add_sub_cancel, Nat.zero_lt_succ, true_and]
                  exact h1)
              have HWt := Lib.hid (fun y (h : lk K D t x.key = some y) => lk_wt h)
              generalize lk K D t x.key = o at *
              generalize wt K t x.key = zz at *
              generalize sn K j t x.key = b15 at *
              have hcb : cntK (itemsM M) K (j - 1) ≤ 100000000 := Nat.le_trans (List.countP_le_length (l := itemsM M)) (Nat.le_trans (itemsM_len (fun k _ => Nat.le_trans (HS.out.len (by omega) k) (by decide))) (by decide))
              generalize cntK (itemsM M) K (j - 1) = cn at *
              have c0 := HXe.out.c0
              have c1 := HXe.out.c1
              have c2 := HXe.out.c2
              have c3 := HXe.out.c3
              have c4 := HXe.out.c4
              have c5 := HXe.out.c5
              have c6 := HXe.out.c6
              have c7 := HXe.out.c7
              have c8 := HXe.out.cl
              have c9 := HXe.out.cg
              have cF := HXe.out.f
              have i0 := HXt.out.t.c0
              have i1 := HXt.out.t.c1
              have i2 := HXt.out.t.c2
              have i3 := HXt.out.t.c3
              have iF := HXt.out.f
              go_wp2_with fail
              refine HGe.out.mono ?_; rintro e w6 ⟨rfl, hb6⟩
              have HZ6 := Lib.hid (HZt.out.below hb6)
              have HB6 := Lib.hid (bstep HBt.out hb6)
              clear c0 c1 c2 c3 c4 c5 c6 c7 c8 c9 cF i0 i1 i2 i3 iF hb6 HXe HXt HZt HBt HGe
              cases o with
              | none =>
                have HCn := Lib.hid (show cntK (itemsM M) K (j + 1 - 1) = cn from HCt.out.trans (by rw [if_neg (fun h => by cases h.2.1), Nat.add_zero]))
                have HBz := Lib.hid (bstep HB6.out (below_box w6 it0))
                by_cases hj0 : 0 < j
                · have jz : (0 : Int) < (j : Int) := by omega
                  go_wp2_with fail
                  exact ⟨⟨j + 1, by rw [HCn.out], by go_num, by omega, HBz⟩, by simp [intOf]; omega⟩
                · have jz : ¬ (0 : Int) < (j : Int) := by omega
                  go_wp2_with fail
                  exact ⟨⟨j + 1, by rw [HCn.out], by go_num, by omega, HBz⟩, by simp [intOf]; omega⟩
              | some y =>
                have hzy := HWt.out y rfl
                subst hzy
                have HBz := Lib.hid (bstep HB6.out (below_box w6 zz))
                have z0 := HZ6.out.t.c0
                have z1 := HZ6.out.t.c1
                have z2 := HZ6.out.t.c2
                have z3 := HZ6.out.t.c3
                have zF := HZ6.out.f
                have hzl : bx + 1 < w6.heap.size := HZ6.out.lt
                by_cases hj0 : 0 < j
                · have jz : (0 : Int) < (j : Int) := by omega
                  cases b15
                  · have HCn := Lib.hid (show cntK (itemsM M) K (j + 1 - 1) = cn + 1 from HCt.out.trans (by rw [if_pos ⟨hj0, rfl, rfl⟩]))
                    go_wp2_with fail
                    exact ⟨⟨j + 1, by rw [HCn.out]; go_num, by go_num, by omega, HBz⟩, by simp [intOf]; omega⟩
                  · have HCn := Lib.hid (show cntK (itemsM M) K (j + 1 - 1) = cn from HCt.out.trans (by rw [if_neg (fun h => by cases h.2.2), Nat.add_zero]))
                    go_wp2_with fail
                    exact ⟨⟨j + 1, by rw [HCn.out], by go_num, by omega, HBz⟩, by simp [intOf]; omega⟩
                · have jz : ¬ (0 : Int) < (j : Int) := by omega
                  have HCn := Lib.hid (show cntK (itemsM M) K (j + 1 - 1) = cn from HCt.out.trans (by rw [if_neg (fun h => hj0 h.1), Nat.add_zero]))
                  go_wp2_with fail
                  exact ⟨⟨j + 1, by rw [HCn.out], by go_num, by omega, HBz⟩, by simp [intOf]; omega⟩
        · have jj1 : ¬ (j : Int) < (i : Int) + 1 := by have := HMi.out; omega
          obtain rfl : j = m := by omega
          have HXe := Lib.hid (HX5.out.below HBj.out)
          have c0 := HXe.out.c0
          have c1 := HXe.out.c1
          have c2 := HXe.out.c2
          have c3 := HXe.out.c3
          have c4 := HXe.out.c4
          have c5 := HXe.out.c5
          have c6 := HXe.out.c6
          have c7 := HXe.out.c7
          have c8 := HXe.out.cl
          have c9 := HXe.out.cg
          have cF := HXe.out.f
          have HLe := Lib.hid (lenM_any s M wr (HM5.out.keep HBj.out).rd (fun k _ => Nat.le_trans (HS.out.len (by omega) k) (by decide)))
          have HVe := Lib.hid (fun W h => validM_any s M W h (fun k _ => Nat.le_trans (HS.out.len (by omega) k) (by decide)))
          have HOe := Lib.hid (HM5.out.keep HBj.out)
          have HBe := Lib.hid (bstep HB2.out (HBw.out.trans (HBj.out.mono HBw.out.size)))
          have hvl : vldM M = true := (vldM_iff M).2 HS.out.k.v
          rw [hvl] at HVe
          have hcl : cntK (itemsM M) K (j - 1) = (itemsM M).length := by
            rw [← HLn.out]; congr 1; have := HMi.out; omega
          rw [hcl]
          clear hvl hcl
          generalize (itemsM M).length = tl at *
          go_upto_region 29 with fail
          go_wp2_with fail
          refine HLe.out.mono ?_; rintro e w6 ⟨rfl, hb6⟩
          have HX6 := Lib.hid (HXe.out.below hb6)
          have HB6 := Lib.hid (bstep HBe.out hb6)
          have HO6 := Lib.hid (HOe.out.keep hb6)
          clear c0 c1 c2 c3 c4 c5 c6 c7 c8 c9 cF hb6
          have c0 := HX6.out.c0
          have c1 := HX6.out.c1
          have c2 := HX6.out.c2
          have c3 := HX6.out.c3
          have c4 := HX6.out.c4
          have c5 := HX6.out.c5
          have c6 := HX6.out.c6
          have c7 := HX6.out.c7
          have c8 := HX6.out.cl
          have c9 := HX6.out.cg
          have cF := HX6.out.f
          go_wp2_with fail
          refine (HVe.out _ HO6.out.rd).mono ?_; rintro e w7 ⟨rfl, hb7⟩
          have HB7 := Lib.hid (bstep HB6.out hb7)
          clear c0 c1 c2 c3 c4 c5 c6 c7 c8 c9 cF hb7
          go_wp2_with fail
          refine (HAw.out _).mono ?_; rintro e w8 ⟨rfl, hb8⟩
          have HB8 := Lib.hid (bstep HB7.out hb8)
          clear hb8
          go_wp2_with fail
          go_ret
          exact ⟨rfl, HB8.out⟩
end Go.Proofs.Ytndhjfmdfcpceaa

namespace Go.Proofs.Ytndhjfmdfcpceaa
open Go.RowKit

theorem keys_open (a : Option Addr) (n cap : Nat) (b : Option Addr) (m c : Nat) (key : Int) (w : World) (h : ∃ l, RdT w (.slice a n cap) l ∧ ∀ x ∈ l, x.Wf) (h2 : ∃ l, RdO w (.slice b m c) l) (_h3 : (Lit.int .u64 key).wf = true) :
    Calls Try.prog 5 #[.slice a n cap, .slice b m c, .int .u64 key] w fun e w' => e = .returned (.bool true) ∧ Below w.heap.size w w' := by
  obtain ⟨l, hl, _⟩ := h
  obtain ⟨dl, hd⟩ := h2
  exact keys_walk _ _ key l dl w hl hd
end Go.Proofs.Ytndhjfmdfcpceaa
