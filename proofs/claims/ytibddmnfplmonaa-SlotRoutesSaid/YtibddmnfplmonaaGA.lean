/- Several texts in one, each over the last: slices.Insert at items: the walk. slices.Delete of one item: the walk. index.Put and index.Drop: the walks. Needle maps as values and in memory: eight slices and two numbers. The needle map's small functions: walks. The needle map's Valid, the reference's Stripe, bytes and Valid: walks. The reference's Valid of needle maps: the walk. The needle map's clone: the walk. slices.Grow of nil and slices.Concat of the stripes: walks. The needle map's Items, Len and Get: walks. A region that draws its order: its first operations are quiet in a class of worlds (reads; calls that answer the same in each world of the class and lead into it), what comes behind them has one order only: one walk of the first ones, then the rest as a list, from any world of the class. The needle map's Waste: the walk. The needle map's Delete: the walk. The needle map's Put: the walk. The needle map's operations keep a valid map valid: plain laws. The law's items: the walk. The law's awake: the walk. What puts, deletes and wastes do to the sums of a needle map: plain laws. A needle map made out of items; puts and drops as the reference has them; when two maps are the same: plain laws. An item appended to a stripe of a map: where the new slice lies, and what becomes of the other stripes. -/
import Derived.Test.YtibddmnfplmonaaIn
import Derived.Laws.Externs
import Derived.Test.YtibddmnfplmonaaPf
import Derived.Test.YtibddmnfplmonaaNm
import Derived.Test.YtibddmnfplmonaaIt
import Derived.Test.YtibddmnfplmonaaBx
import Derived.Test.YtibddmnfplmonaaNz
import Derived.Test.YtibddmnfplmonaaFx
import Derived.Test.YtibddmnfplmonaaIv
import Derived.Test.YtibddmnfplmonaaFi
import Derived.Lib.AppendZeros
import Derived.Test.YtibddmnfplmonaaSv
import Derived.Test.YtibddmnfplmonaaRf
import Derived.StillTailTactics
import Derived.Deep.Quiet
import Derived.BigQuiet
import Derived.Test.YtibddmnfplmonaaBase
import Derived.Test.YtibddmnfplmonaaMk
import Derived.Maps.AppendAt
namespace Go.Proofs.Ytibddmnfplmonaa
open Go.RowKit

theorem slice_own1 (g n cap k : Nat) (hk : k + 1 ≤ n) (hc : k + 1 < cap) :
    ∀ W kl, (Instr.slice 41 (.slice (some ⟨g, 0, none⟩) n cap) (some (.int kl ((k : Int) + 1))) none none).run Try.prog W = .ok (.slice (some ⟨g, (k + 1) * 4, none⟩) (n - (k + 1)) (cap - (k + 1))) W := fun W kl => by
  have := slice_own (P := Try.prog) elemT g n cap (k + 1) hk hc W kl
  rw [Int.natCast_add] at this
  exact this
theorem own_from {w : World} {B g n cap : Nat} {xs : List Value} (h : w.ownsRow B 35 4 (.slice (some ⟨g, 0, none⟩) n cap) n xs) (k : Nat) (hk : k ≤ n) (hc : k < cap) :
    Rd w 4 (.slice (some ⟨g, k * 4, none⟩) (n - k) (cap - k)) (n - k) (xs.drop (k * 4)) := by
  have hx := h.1
  have := rd_sliced (own_rd h) k n hk (Nat.le_refl _)
  have hne : cap ≠ k := by omega
  unfold sliced at this
  rw [if_neg hne] at this
  simp only [Option.map_some, addr_add, Nat.zero_add] at this
  rw [List.take_of_length_le (by rw [List.length_drop, hx, Nat.sub_mul]; omega)] at this
  exact this
theorem own_obj {w : World} {B g n cap : Nat} {xs : List Value} (h : w.ownsRow B 35 4 (.slice (some ⟨g, 0, none⟩) n cap) n xs) : ∃ cur, w.heap[g]? = some (.cells cur 35 (0, 0)) ∧ cur.size = cap * 4 ∧ n ≤ cap := by
  rcases h.2 with ⟨h', _⟩ | ⟨g', c2, cur, h', hb, hg, hnc, hcm, hcs, htake⟩
  · cases h'
  · injection h' with h' _ h''
    injection h' with h'
    injection h' with h' _
    subst h' h''
    exact ⟨cur, hg, hcs, hnc⟩
end Go.Proofs.Ytibddmnfplmonaa

namespace Go.Proofs.Ytibddmnfplmonaa
open Go.RowKit

theorem step_append_run {P : Program} {w : World} {ops : Array Oper} {o : Oper} {a : Act} {K : Act → World → Prop} {Q : Exit → Act → World → Prop} {E : Prop} (hgd : o.guard = none) (s x : Operand) (t tn : TypeId)
    (ho : o.op = .call { callee := .builtin .append, args := #[s, x], argTypes := #[t, tn] }) (vs vx : Value) (hs : a.eval s = vs) (hx : a.eval x = vx)
    (v' : Value) (w' : World) (hr : (Builtin.append_ #[t, tn] o.type #[vs, vx]).run P w = .ok v' w') (h : K (a.put o.dst v') w') :
    if Region.wanted o (yielded ops a.tmps) = true then Oper.wp P o a w K Q else E := by
  have hw : Region.wanted o (yielded ops a.tmps) = true := by simp [Region.wanted, hgd]
  rw [if_pos hw]
  exact Lib.wp_append_run w s x t tn ho vs vx hs hx v' w' hr h
theorem slice_tail {w : World} {B g n cap : Nat} {xs : List Value} (h : w.ownsRow B 35 4 (.slice (some ⟨g, 0, none⟩) n cap) n xs) (k : Nat) (hk : k + 1 ≤ n) :
    ∃ p c', (∀ W kl, (Instr.slice 41 (.slice (some ⟨g, 0, none⟩) n cap) (some (.int kl ((k : Int) + 1))) none none).run Try.prog W = .ok (.slice (some p) (n - (k + 1)) c') W) ∧
      Rd w 4 (.slice (some p) (n - (k + 1)) c') (n - (k + 1)) (xs.drop ((k + 1) * 4)) := by
  obtain ⟨_, _, _, hnc⟩ := own_obj h
  by_cases hq : k + 1 < cap
  · exact ⟨_, _, slice_own1 g n cap k hk hq, own_from h (k + 1) hk hq⟩
  · obtain rfl : cap = k + 1 := by omega
    obtain rfl : n = k + 1 := by omega
    refine ⟨⟨g, 0, none⟩, 0, fun W kl => ?_, ?_⟩
    · obtain ⟨h1, h2⟩ := elem_of (P := Try.prog) elemT
      rw [run_slice_l W 41 (some ⟨g, 0, none⟩) (k + 1) (k + 1) h1 kl ((k : Int) + 1) (by omega) (by omega), h2]
      have : ((k : Int) + 1).toNat = k + 1 := by omega
      simp [Result.andThen, sliced, this]
    · have hx := h.1
      rw [List.drop_of_length_le (by omega), Nat.sub_self]
      exact ⟨rfl, some ⟨g, 0, none⟩, 0, rfl, Nat.le_refl _, Nat.zero_le _, fun h => (by cases h), fun h => absurd h (by simp)⟩
theorem slice_last (g p cap : Nat) (hc : p + 1 ≤ cap) :
    ∀ W kl kh, (Instr.slice 41 (.slice (some ⟨g, 0, none⟩) p cap) (some (.int kl (p : Int))) (some (.int kh ((p : Int) + 1))) none).run Try.prog W = .ok (.slice (some ⟨g, p * 4, none⟩) 1 (cap - p)) W := fun W kl kh => by
  obtain ⟨h1, h2⟩ := elem_of (P := Try.prog) elemT
  rw [run_slice_lh W 41 (some ⟨g, 0, none⟩) p cap h1 kl kh (p : Int) ((p : Int) + 1) (by omega) (by omega) (by omega), h2]
  have h3 : ((p : Int) + 1).toNat = p + 1 := by omega
  have h4 : cap ≠ p := by omega
  simp [Result.andThen, sliced, h3, h4, addr_add]
theorem slice_three (a : Option Addr) (n cap i : Nat) (hi : i + 1 ≤ n) (hn : n ≤ cap) :
    ∃ u, ∀ W kl kh km, (Instr.slice 41 (.slice a n cap) (some (.int kl (i : Int))) (some (.int kh ((i : Int) + 1))) (some (.int km (n : Int)))).run Try.prog W = .ok u W := by
  obtain ⟨h1, h2⟩ := elem_of (P := Try.prog) elemT
  refine ⟨sliced a (i : Int).toNat ((i : Int) + 1).toNat (n : Int).toNat 4, fun W kl kh km => ?_⟩
  rw [run_slice_lhm W 41 a n cap h1 kl kh km (i : Int) ((i : Int) + 1) (n : Int) (by omega) (by omega) (by omega) (by omega), h2]
  rfl
end Go.Proofs.Ytibddmnfplmonaa

namespace Go.Proofs.Ytibddmnfplmonaa
open Go.RowKit

end Go.Proofs.Ytibddmnfplmonaa

namespace Go.Proofs.Ytibddmnfplmonaa
open Go.RowKit

/-- Eight slices. -/
structure Sl where
  a : Nat → Option Addr
  n : Nat → Nat
  c : Nat → Nat
def Sl.v (s : Sl) (i : Nat) : Value := .slice (s.a i) (s.n i) (s.c i)
def Sl.set (s : Sl) (k : Nat) (a : Option Addr) (n c : Nat) : Sl := ⟨fun i => if i = k then a else s.a i, fun i => if i = k then n else s.n i, fun i => if i = k then c else s.c i⟩
def Sl.nil : Sl := ⟨fun _ => none, fun _ => 0, fun _ => 0⟩
theorem Sl.set_v (s : Sl) (k : Nat) (a : Option Addr) (n c i : Nat) : (s.set k a n c).v i = if i = k then .slice a n c else s.v i := by
  unfold Sl.set Sl.v
  by_cases h : i = k
  · simp [h]
  · simp [h]
abbrev mapC (s : Sl) (l g : Int) : Array Value := #[.slice (s.a 0) (s.n 0) (s.c 0), .slice (s.a 1) (s.n 1) (s.c 1), .slice (s.a 2) (s.n 2) (s.c 2), .slice (s.a 3) (s.n 3) (s.c 3), .slice (s.a 4) (s.n 4) (s.c 4), .slice (s.a 5) (s.n 5) (s.c 5), .slice (s.a 6) (s.n 6) (s.c 6), .slice (s.a 7) (s.n 7) (s.c 7), .int .i64 l, .int .i64 g]
abbrev mapV (s : Sl) (l g : Int) : Value := .agg (mapC s l g)
abbrev strC (s : Sl) : Array Value := #[.slice (s.a 0) (s.n 0) (s.c 0), .slice (s.a 1) (s.n 1) (s.c 1), .slice (s.a 2) (s.n 2) (s.c 2), .slice (s.a 3) (s.n 3) (s.c 3), .slice (s.a 4) (s.n 4) (s.c 4), .slice (s.a 5) (s.n 5) (s.c 5), .slice (s.a 6) (s.n 6) (s.c 6), .slice (s.a 7) (s.n 7) (s.c 7)]
/-- The stripes, for reading. -/
def RdM (w : World) (s : Sl) (f : Nat → List It) : Prop := ∀ i, i < 8 → RdT w (s.v i) (f i)
theorem RdM.below {w w' : World} {s : Sl} {f : Nat → List It} (h : RdM w s f) (hb : Below w.heap.size w w') : RdM w' s f := fun i hi => (h i hi).below hb
theorem RdM.n {w : World} {s : Sl} {f : Nat → List It} (h : RdM w s f) {i : Nat} (hi : i < 8) : s.n i = (f i).length := by
  obtain ⟨a, c, e, _, _⟩ := (h i hi).shape
  injection e
theorem RdM.set {w : World} {s : Sl} {f : Nat → List It} (h : RdM w s f) {k : Nat} {a : Option Addr} {n c : Nat} {l : List It} (hl : RdT w (.slice a n c) l) : RdM w (s.set k a n c) (fun i => if i = k then l else f i) := fun i hi => by
  show RdT w ((s.set k a n c).v i) (if i = k then l else f i)
  rw [Sl.set_v]
  by_cases e : i = k
  · rw [if_pos e, if_pos e]; exact hl
  · rw [if_neg e, if_neg e]; exact h i hi
/-- A map in a block of its own. -/
structure BoxM (W : World) (b : Nat) (s : Sl) (l g : Int) : Prop where
  c : ∀ j, j < 8 → W.cell? ⟨b, j, none⟩ = some (s.v j)
  cl : W.cell? ⟨b, 8, none⟩ = some (.int .i64 l)
  cg : W.cell? ⟨b, 9, none⟩ = some (.int .i64 g)
  f : ∀ i, W.frozen? ⟨b, i, none⟩ = false
theorem lt8 {j : Nat} (h : j < 8) : j = 0 ∨ j = 1 ∨ j = 2 ∨ j = 3 ∨ j = 4 ∨ j = 5 ∨ j = 6 ∨ j = 7 := by omega
theorem BoxM.new (W : World) (s : Sl) (l g : Int) (t : TypeId) : BoxM (W.alloc (.cells (mapC s l g) t)) W.heap.size s l g :=
  ⟨fun j hj => by rcases lt8 hj with h | h | h | h | h | h | h | h <;> subst h <;> simp [Sl.v], by simp, by simp, fun i => by simp⟩
theorem BoxM.keep {W W' : World} {b B : Nat} {s : Sl} {l g : Int} (h : BoxM W b s l g) (hb : b < B) (hB : Below B W W') : BoxM W' b s l g :=
  ⟨fun j hj => (hB.cell (p := ⟨b, j, none⟩) hb).trans (h.c j hj), (hB.cell (p := ⟨b, 8, none⟩) hb).trans h.cl, (hB.cell (p := ⟨b, 9, none⟩) hb).trans h.cg, fun i => (hB.frozen (p := ⟨b, i, none⟩) hb).trans (h.f i)⟩
theorem BoxM.lt {W : World} {b : Nat} {s : Sl} {l g : Int} (h : BoxM W b s l g) : b < W.heap.size := World.block_lt_of_cell? W _ h.cl
theorem BoxM.below {W W' : World} {b : Nat} {s : Sl} {l g : Int} (h : BoxM W b s l g) (hB : Below W.heap.size W W') : BoxM W' b s l g := h.keep h.lt hB
theorem BoxM.setS {W : World} {b : Nat} {s : Sl} {l g : Int} (h : BoxM W b s l g) {k : Nat} (hk : k < 8) (a : Option Addr) (n c : Nat) : BoxM (W.setCell ⟨b, k, none⟩ (.slice a n c)) b (s.set k a n c) l g := by
  have hkc := h.c k hk
  refine ⟨fun j hj => ?_, ?_, ?_, fun i => by simp [h.f]⟩
  · rw [Sl.set_v]
    by_cases e : j = k
    · subst e; rw [if_pos rfl]; simp [go_sem, hkc]
    · rw [if_neg e]
      have := h.c j hj
      simp [go_sem, this]
  · have := h.cl
    simp [go_sem, this]
  · have := h.cg
    simp [go_sem, this]
end Go.Proofs.Ytibddmnfplmonaa

namespace Go.Proofs.Ytibddmnfplmonaa
open Go.RowKit

theorem stripe_any (key : Int) (w : World) : Calls Try.prog 23 #[.int .u64 key] w fun e w' => e = .returned (.int .i64 (strp key : Int)) ∧ w = w' := by
  have h1 : IntKind.u64.wrap (key * 11400714819323198485) = key * 11400714819323198485 % 18446744073709551616 := by simp [IntKind.wrap, IntKind.signed, IntKind.bits]
  have h2 : (strp key : Int) = key * 11400714819323198485 % 18446744073709551616 / 2305843009213693952 := by unfold strp; omega
  go_enter Try.func23, Try.ntmps23
  go_wp2_with fail
  go_ret
  exact ⟨ret_int h2.symm, rfl⟩
theorem new_any (w : World) : Calls Try.prog 13 #[] w fun e w' => e = .returned (mapV Sl.nil 0 0) ∧ Below w.heap.size w w' := by
  go_enter Try.func13, Try.ntmps13
  go_wp2_with fail
  exact bodyPost_ret (v := mapV Sl.nil 0 0) (by simp [results, Try.results13, go_sem, Sl.nil]) rfl ⟨rfl, (Below.refl _ _).alloc (Nat.le_refl _) _⟩
theorem nsizeZ (z : Int) (w : World) : Calls Try.prog 12 #[.int .i64 z] w fun e w' => (∃ n : Nat, e = .returned (.int .i64 (n : Int)) ∧ n ≤ 4127 ∧ (0 ≤ z → n = szN z.toNat)) ∧ w = w' := by
  by_cases hz : 0 ≤ z
  · obtain ⟨n, rfl⟩ := Int.eq_ofNat_of_zero_le hz
    refine (nsizeB n w).mono ?_; rintro e w' ⟨rfl, rfl⟩
    exact ⟨⟨szN n, rfl, szN_le n, fun _ => by rw [Int.toNat_natCast]⟩, rfl⟩
  · have hd : decide (z < 0) = true := by simp; omega
    have HS := Lib.hid hz
    clear hz
    go_enter Try.func12, Try.ntmps12
    go_wp2_with fail
    go_ret
    exact ⟨⟨0, rfl, by omega, fun h => by have := HS.out; omega⟩, rfl⟩
theorem length_any (x : It) (w : World) : Calls Try.prog 25 #[itV x] w fun e w' => (∃ n : Nat, e = .returned (.int .i64 (n : Int)) ∧ n ≤ 4127 ∧ (0 ≤ x.size → n = szN x.size.toNat)) ∧ Below w.heap.size w w' := by
  have HZ := Lib.hid (fun W => nsizeZ x.size W)
  obtain ⟨x0, x1, x2, x3⟩ := x
  dsimp only at HZ
  go_enter Try.func25, Try.ntmps25
  go_wp2_with fail
  refine (HZ.out _).mono ?_; rintro e w2 ⟨⟨n, rfl, h1, h2⟩, rfl⟩
  have H1 := Lib.hid h1
  have H2 := Lib.hid h2
  clear h1 h2
  go_wp2_with fail
  go_ret
  exact ⟨⟨n, rfl, H1.out, H2.out⟩, (Below.refl _ _).alloc (Nat.le_refl _) _⟩
theorem conv_fb (a : Int) (ha : Fx.Small a) : floatToIntVal .f64 (Fx.fb a) .i64 = some a := by
  have h : a.natAbs < 2 ^ 53 := ha
  rw [Fx.p53] at h
  unfold floatToIntVal
  have : (FloatKind.f64.decode (Fx.fb a)).toInt .zero = some a := Fx.toInt_fb a ha
  rw [this]
  simp only [IntKind.min, IntKind.max, IntKind.signed, IntKind.bits]
  rw [if_pos]
  simp; omega
end Go.Proofs.Ytibddmnfplmonaa

namespace Go.Proofs.Ytibddmnfplmonaa
open Go.RowKit

theorem sumI_take {T : List It} {n : Nat} (h : n < T.length) : sumI (T.take (n + 1)) = sumI (T.take n) + szN (iat T n).size.toNat := by
  rw [take_snoc h, sumI_append]; rfl
set_option maxRecDepth 100000 in
/-- Index of a value of eight slices. -/
theorem run_idx8 (s : Sl) {i : Nat} (hi : i < 8) (W : World) : (Instr.index 42 (.agg (strC s)) (.int .i64 (i : Int))).run Try.prog W = .ok (s.v i) W := by
  rcases lt8 hi with h | h | h | h | h | h | h | h <;> subst h <;> rfl
theorem vldM_no {M : Mp} {i : Nat} (hi : i < 8) (h : okS M i = false) : vldM M = false := by
  unfold vldM
  have : (List.range 8).all (okS M) = false := by
    rw [List.all_eq_false]
    exact ⟨i, List.mem_range.2 hi, by rw [h]; simp⟩
  rw [this]; rfl
theorem vldM_all {M : Mp} (h : ∀ i, i < 8 → okS M i = true) : vldM M = ((M.live == (sumI (allM M) : Int)) && decide (0 ≤ M.garb) && decide (M.garb ≤ 1099511627776)) := by
  unfold vldM
  have : (List.range 8).all (okS M) = true := List.all_eq_true.2 fun i hi => h i (List.mem_range.1 hi)
  rw [this, Bool.true_and]
theorem okS_no1 {M : Mp} {i : Nat} (h : vldB (M.st i) = false) : okS M i = false := by unfold okS; rw [h]; rfl
theorem okS_no2 {M : Mp} {i j : Nat} (hj : j < (M.st i).length) (h : strp (iat (M.st i) j).key ≠ i) : okS M i = false := by
  unfold okS
  rw [all_false hj (by simpa using h), Bool.and_false]
theorem okS_yes {M : Mp} {i : Nat} (h : vldB (M.st i) = true) (h2 : ∀ j, j < (M.st i).length → strp (iat (M.st i) j).key = i) : okS M i = true := by
  unfold okS
  rw [h, all_true fun j hj => by simpa using h2 j hj]; rfl
theorem cat_le {M : Mp} {B : Nat} (h : ∀ i, i < 8 → (M.st i).length ≤ B) : ∀ n, n ≤ 8 → (cat M.st n).length ≤ n * B
  | 0, _ => by simp [cat]
  | n + 1, hn => by
    have ih := cat_le h n (by omega)
    show (cat M.st n ++ M.st n).length ≤ _
    rw [List.length_append, Nat.succ_mul]
    have := h n (by omega)
    omega
theorem vld_size {l : List It} (h : vldB l = true) : ∀ x ∈ l, 0 ≤ x.size := fun x hx => ((vldB_iff.1 h).2 x hx).2.2.2.1
set_option maxRecDepth 100000 in
set_option maxHeartbeats 8000000 in
theorem validM_any (s : Sl) (M : Mp) (w : World) (h : RdM w s M.st) (hs : ∀ i, i < 8 → (M.st i).length ≤ 100000) :
    Calls Try.prog 18 #[mapV s M.live M.garb] w fun e w' => e = .returned (.bool (vldM M)) ∧ Below w.heap.size w w' := by
  have Hr := Lib.hid h
  have HV := Lib.hid (fun i (hi : i < 8) W (hb : Below w.heap.size w W) => vld_any (s.v i) (M.st i) W ((h i hi).below hb))
  have HI := Lib.hid (fun i (hi : i < 8) => run_idx8 s hi)
  have HL := Lib.hid (fun i (hi : i < 8) => h.n hi)
  have HSz := Lib.hid hs
  have HNo := Lib.hid (fun i (hi : i < 8) (h : okS M i = false) => vldM_no hi h)
  have HAll := Lib.hid (fun h => vldM_all (M := M) h)
  have HTot := Lib.hid (fun n (hn : n ≤ 8) => show sumI (cat M.st n) ≤ 3301600000 from by
    have h1 := cat_le hs n hn
    have h2 := sumI_le (cat M.st n)
    have : (cat M.st n).length * 4127 ≤ (8 * 100000) * 4127 := Nat.mul_le_mul_right _ (Nat.le_trans h1 (Nat.mul_le_mul_right _ hn))
    omega)
  have HA := Lib.hid (show allM M = cat M.st 8 from rfl)
  clear h hs
  obtain ⟨f, L, G⟩ := M
  dsimp only at *
  go_enter Try.func18, Try.ntmps18
  go_wp2_with fail
  obtain ⟨W0, hW0, HB0, HL0, HG0⟩ : ∃ W0, w.alloc (.cells (mapC s L G) 44) = W0 ∧ Hid (Below w.heap.size w W0) ∧ Hid (W0.cell? ⟨w.heap.size, 8, none⟩ = some (.int .i64 L)) ∧ Hid (W0.cell? ⟨w.heap.size, 9, none⟩ = some (.int .i64 G)) := ⟨_, rfl, Lib.hid ((Below.refl _ _).alloc (Nat.le_refl _) _), Lib.hid (by simp), Lib.hid (by simp)⟩
  try rw [hW0]
  clear hW0
  go_loopw [3, 10] (fun lv iv W => ∃ i p : Nat, iv = .int .i64 (i : Int) ∧ lv = .int .i64 (p : Int) ∧ i ≤ 8 ∧ Hid (∀ j, j < i → okS ⟨f, L, G⟩ j = true) ∧ Hid (p = sumI (cat f i)) ∧ Hid (Below W0.heap.size W0 W)) (fun _ iv _ => 8 - (intOf iv).toNat)
  case atStart => exact ⟨0, 0, rfl, rfl, Nat.zero_le _, Lib.hid (fun j hj => by omega), Lib.hid rfl, Lib.hid (Below.refl _ _)⟩
  case round =>
    obtain ⟨i, p, rfl, rfl, hi, Hok, Hp, HB⟩ := hrel
    by_cases hin : i < 8
    · have i1 : (i : Int) < 8 := by omega
      have hI := HI.out i hin
      have hL := HL.out i hin
      have HBi := Lib.hid (bstep HB0.out HB.out)
      have HVi := Lib.hid (HV.out i hin wr HBi.out)
      have HRi := Lib.hid ((Hr.out i hin).below HBi.out)
      have hvi : s.v i = .slice (s.a i) (s.n i) (s.c i) := rfl
      rw [hvi] at HVi HRi hI
      have HSi := HSz.out i hin
      have hT := HTot.out (i + 1) (by omega)
      have hcs : cat f (i + 1) = cat f i ++ f i := rfl
      rw [hcs, sumI_append, ← Hp.out] at hT
      have HCs := Lib.hid (show sumI (cat f (i + 1)) = p + sumI (f i) by rw [hcs, sumI_append, Hp.out])
      rw [hL] at HVi HRi hI
      generalize s.a i = sa at *
      generalize s.c i = sc at *
      have HNi := Lib.hid (HNo.out i hin)
      have HY := Lib.hid (fun h1 h2 => okS_yes (M := ⟨f, L, G⟩) (i := i) h1 h2)
      have HN1 := Lib.hid (fun h => HNi.out (okS_no1 (M := ⟨f, L, G⟩) (i := i) h))
      have HN2 := Lib.hid (fun j h1 h2 => HNi.out (okS_no2 (M := ⟨f, L, G⟩) (i := i) (j := j) h1 h2))
      have HSt := Lib.hid (fun j (h : j < (f i).length) => sumI_take h)
      have HSe := Lib.hid (show sumI ((f i).take (f i).length) = sumI (f i) by rw [List.take_length])
      have HSz2 := Lib.hid (fun j => show sumI ((f i).take j) ≤ sumI (f i) from by
        have : sumI ((f i).take j ++ (f i).drop j) = sumI (f i) := by rw [List.take_append_drop]
        rw [sumI_append] at this; omega)
      have HVs := Lib.hid (fun h => vld_size (l := f i) h)
      dsimp only at HY HN1 HN2
      generalize f i = l at *
      clear hL hvi hcs HNi
      by_cases hv : vldB l = true
      · rw [hv] at HVi
        have HVs2 := Lib.hid (fun j (h : j < l.length) => HVs.out hv _ (iat_mem h))
        generalize hn : l.length = n at *
        clear hn
        go_wp2_with fail
        refine HVi.out.mono ?_; rintro e w2 ⟨rfl, hb2⟩
        have HB2 := Lib.hid (bstep HB.out hb2)
        have HR2 := Lib.hid (HRi.out.below hb2)
        clear hb2 HVi HBi HB HRi
        go_wp2_with fail
        go_loopw [3, 19] (fun lv jv W => ∃ j q : Nat, jv = .int .i64 (j : Int) ∧ lv = .int .i64 ((p + q : Nat) : Int) ∧ j ≤ n ∧ Hid (∀ r, r < j → strp (iat l r).key = i) ∧ Hid (q = sumI (l.take j)) ∧ Hid (Below w2.heap.size w2 W)) (fun _ jv _ => n - (intOf jv).toNat)
        case atStart => exact ⟨0, 0, rfl, rfl, Nat.zero_le _, Lib.hid (fun j hj => by omega), Lib.hid rfl, Lib.hid (Below.refl _ _)⟩
        case round =>
          obtain ⟨j, q, rfl, rfl, hj, Hks, Hq, HBj⟩ := hrel
          by_cases hjn : j < n
          · obtain ⟨pb, poff, rfl, c0, c1, c2, c3⟩ := (HR2.out.below HBj.out).at hjn
            have i2 : (j : Int) < (n : Int) := by omega
            have hSt := HSt.out j hjn
            have hS2 := HSz2.out (j + 1)
            have hpos := HVs2.out j hjn
            have HN2j := Lib.hid (HN2.out j hjn)
            have HK := Lib.hid (fun (hk : strp (iat l j).key = i) r (hr : r < j + 1) => show strp (iat l r).key = i from by
              by_cases e : r = j
              · rw [e]; exact hk
              · exact Hks.out r (by omega))
            rw [hSt, ← Hq.out] at hS2
            generalize iat l j = x at *
            have HLn := Lib.hid (fun W => length_any x W)
            have HBx := Lib.hid (show Below wr.heap.size wr (wr.alloc (boxC x)) from below_box wr x)
            have HS := Lib.hid (fun W => stripe_any x.key W)
            generalize hk : strp x.key = k at *
            have hk8 : k < 8 := by rw [← hk]; exact strp_lt _
            obtain ⟨x0, x1, x2, x3⟩ := x
            dsimp only at *
            clear hk
            by_cases hki : k = i
            · have g1 : ((k : Int) != (i : Int)) = false := by rw [bne_eq_false_iff_eq]; omega
              have HK2 := Lib.hid (HK.out hki)
              clear hki HN2j HK
              go_wp2_with fail
              refine (HS.out _).mono ?_; rintro e w3 ⟨rfl, rfl⟩
              go_wp2_with fail
              refine (HLn.out _).mono ?_; rintro e w4 ⟨⟨z, rfl, hz, hz2⟩, hb4⟩
              have hz3 := hz2 hpos
              have HB4 := Lib.hid (bstep HBj.out (bstep HBx.out hb4))
              have HQ := Lib.hid (show q + z = sumI (l.take (j + 1)) by rw [hSt, Hq.out, hz3])
              rw [← hz3] at hS2
              have hw : IntKind.i64.wrap (((p + q : Nat) : Int) + (z : Int)) = ((p + (q + z) : Nat) : Int) := (IntWalk.i64_in _ (by omega)).trans (by omega)
              rw [Int.natCast_add] at hw
              clear hb4 hz2 hz3 hSt
              go_wp2_with fail
              exact ⟨⟨j + 1, q + z, by go_num, by simp, by omega, HK2, HQ, HB4⟩, by simp [intOf]; omega⟩
            · have g1 : ((k : Int) != (i : Int)) = true := bne_iff_ne.2 (by omega)
              have HF := Lib.hid (HN2j.out hki)
              have HBz := Lib.hid (bstep HB0.out (bstep HB2.out (bstep HBj.out HBx.out)))
              clear hki HN2j HK
              go_wp2_with fail
              refine (HS.out _).mono ?_; rintro e w3 ⟨rfl, rfl⟩
              go_wp2_with fail
              go_ret
              exact ⟨ret_bool HF.out.symm, HBz.out⟩
          · obtain rfl : j = n := by omega
            have HOk2 := Lib.hid (show ∀ r, r < i + 1 → okS ⟨f, L, G⟩ r = true from fun r hr => by
              by_cases e : r = i
              · rw [e]; exact HY.out hv Hks.out
              · exact Hok.out r (by omega))
            have HP2 := Lib.hid (show p + q = sumI (cat f (i + 1)) by rw [HCs.out, Hq.out, HSe.out])
            have HBz := Lib.hid (bstep HB2.out HBj.out)
            go_wp2_with fail
            exact ⟨⟨i + 1, p + q, by go_num, by simp, by omega, HOk2, HP2, HBz⟩, by simp [intOf]; omega⟩
      · have hv' : vldB l = false := by simpa using hv
        have HF := Lib.hid (HN1.out hv')
        rw [hv'] at HVi
        generalize l.length = n at *
        go_wp2_with fail
        refine HVi.out.mono ?_; rintro e w2 ⟨rfl, hb2⟩
        have HB2 := Lib.hid (bstep HBi.out hb2)
        clear hb2
        go_wp2_with fail
        go_ret
        exact ⟨ret_bool HF.out.symm, HB2.out⟩
    · obtain rfl : i = 8 := by omega
      have hall := HAll.out Hok.out
      rw [HA.out] at hall
      rw [← Hp.out] at hall
      have HF := Lib.hid hall
      have e8 := Below.keeps HB.out _ _ HL0.out
      have e9 := Below.keeps HB.out _ _ HG0.out
      have HBz := Lib.hid (bstep HB0.out HB.out)
      clear hall
      by_cases g1 : L = (p : Int)
      · have q1 : (L == (p : Int)) = true := beq_iff_eq.2 g1
        rw [q1] at HF
        by_cases g2 : 0 ≤ G
        · have q2 : decide (0 ≤ G) = true := by simpa using g2
          rw [q2] at HF
          clear g1
          go_wp2_with fail
          go_ret
          exact ⟨ret_bool (by rw [HF.out]; simp), HBz.out⟩
        · have q2 : decide (0 ≤ G) = false := by simpa using g2
          rw [q2] at HF
          clear g1
          go_wp2_with fail
          go_ret
          exact ⟨ret_bool (by rw [HF.out]; simp), HBz.out⟩
      · have q1 : (L == (p : Int)) = false := beq_eq_false_iff_ne.2 g1
        rw [q1] at HF
        go_wp2_with fail
        go_ret
        exact ⟨ret_bool (by rw [HF.out]; simp), HBz.out⟩
end Go.Proofs.Ytibddmnfplmonaa

namespace Go.Proofs.Ytibddmnfplmonaa
open Go.RowKit

theorem below_map (w : World) (s : Sl) (l g : Int) (t : TypeId) : Below w.heap.size w (w.alloc (.cells (mapC s l g) t)) := (Below.refl _ _).alloc (Nat.le_refl _) _
end Go.Proofs.Ytibddmnfplmonaa

namespace Go.Proofs.Ytibddmnfplmonaa
open Go.RowKit

/-- A whole map stored. -/
def putM (W : World) (b : Nat) (s : Sl) (l g : Int) : World :=
  (((((((((W.setCell ⟨b, 0, none⟩ (.slice (s.a 0) (s.n 0) (s.c 0))).setCell ⟨b, 1, none⟩ (.slice (s.a 1) (s.n 1) (s.c 1))).setCell ⟨b, 2, none⟩ (.slice (s.a 2) (s.n 2) (s.c 2))).setCell ⟨b, 3, none⟩ (.slice (s.a 3) (s.n 3) (s.c 3))).setCell ⟨b, 4, none⟩ (.slice (s.a 4) (s.n 4) (s.c 4))).setCell ⟨b, 5, none⟩ (.slice (s.a 5) (s.n 5) (s.c 5))).setCell ⟨b, 6, none⟩ (.slice (s.a 6) (s.n 6) (s.c 6))).setCell ⟨b, 7, none⟩ (.slice (s.a 7) (s.n 7) (s.c 7))).setCell ⟨b, 8, none⟩ (.int .i64 l)).setCell ⟨b, 9, none⟩ (.int .i64 g)
theorem BoxM.all {W : World} {b : Nat} {s : Sl} {l g : Int} (h : BoxM W b s l g) (s' : Sl) (l' g' : Int) : BoxM (putM W b s' l' g') b s' l' g' := by
  have c0 := h.c 0 (by decide)
  have c1 := h.c 1 (by decide)
  have c2 := h.c 2 (by decide)
  have c3 := h.c 3 (by decide)
  have c4 := h.c 4 (by decide)
  have c5 := h.c 5 (by decide)
  have c6 := h.c 6 (by decide)
  have c7 := h.c 7 (by decide)
  have c8 := h.cl
  have c9 := h.cg
  refine ⟨fun j hj => ?_, ?_, ?_, fun i => by simp [putM, h.f]⟩
  · rcases lt8 hj with e | e | e | e | e | e | e | e <;> subst e <;> simp [putM, go_sem, c0, c1, c2, c3, c4, c5, c6, c7, Sl.v]
  · simp [putM, go_sem, c8]
  · simp [putM, go_sem, c9]
theorem putM_below {B b : Nat} {w0 W : World} (h : Below B w0 W) (hb : B ≤ b) (s : Sl) (l g : Int) : Below B w0 (putM W b s l g) :=
  (((((((((h.setCell hb _).setCell hb _).setCell hb _).setCell hb _).setCell hb _).setCell hb _).setCell hb _).setCell hb _).setCell hb _).setCell hb _
theorem BoxM.set_ne {W : World} {b : Nat} {s : Sl} {l g : Int} (h : BoxM W b s l g) {p : Addr} (hp : p.block ≠ b) (u : Value) : BoxM (W.setCell p u) b s l g := by
  have ne : ∀ i, p ≠ ⟨b, i, none⟩ := fun i e => hp (by rw [e])
  exact ⟨fun j hj => (World.cell?_setCell_other (h := ne j) ..).trans (h.c j hj), (World.cell?_setCell_other (h := ne 8) ..).trans h.cl, (World.cell?_setCell_other (h := ne 9) ..).trans h.cg, fun i => by simp [h.f]⟩
theorem BoxM.putM_ne {W : World} {b c : Nat} {s : Sl} {l g : Int} (h : BoxM W b s l g) (hp : c ≠ b) (s' : Sl) (l' g' : Int) : BoxM (putM W c s' l' g') b s l g :=
  (((((((((h.set_ne (p := ⟨c, 0, none⟩) hp _).set_ne (p := ⟨c, 1, none⟩) hp _).set_ne (p := ⟨c, 2, none⟩) hp _).set_ne (p := ⟨c, 3, none⟩) hp _).set_ne (p := ⟨c, 4, none⟩) hp _).set_ne (p := ⟨c, 5, none⟩) hp _).set_ne (p := ⟨c, 6, none⟩) hp _).set_ne (p := ⟨c, 7, none⟩) hp _).set_ne (p := ⟨c, 8, none⟩) hp _).set_ne (p := ⟨c, 9, none⟩) hp _
theorem own_set_lo {W : World} {B : Nat} {e : TypeId} {sz n : Nat} {v : Value} {xs : List Value} (h : W.ownsRow B e sz v n xs) {p : Addr} (hp : p.block < B) (u : Value) : (W.setCell p u).ownsRow B e sz v n xs :=
  own_set_ne h (fun e => by have := (World.ownsRow.lt h _ e).1; omega) u
theorem own_putM {W : World} {B b : Nat} {e : TypeId} {sz n : Nat} {v : Value} {xs : List Value} (h : W.ownsRow B e sz v n xs) (hp : b < B) (s : Sl) (l g : Int) : (putM W b s l g).ownsRow B e sz v n xs :=
  own_set_lo (p := ⟨b, 9, none⟩) (own_set_lo (p := ⟨b, 8, none⟩) (own_set_lo (p := ⟨b, 7, none⟩) (own_set_lo (p := ⟨b, 6, none⟩) (own_set_lo (p := ⟨b, 5, none⟩) (own_set_lo (p := ⟨b, 4, none⟩) (own_set_lo (p := ⟨b, 3, none⟩) (own_set_lo (p := ⟨b, 2, none⟩) (own_set_lo (p := ⟨b, 1, none⟩) (own_set_lo (p := ⟨b, 0, none⟩) h hp _) hp _) hp _) hp _) hp _) hp _) hp _) hp _) hp _) hp _
/-- The stripes, of the call's own. -/
def OwnM (w : World) (B : Nat) (s : Sl) (f : Nat → List It) : Prop := ∀ i, i < 8 → OwnT w B (s.v i) (f i)
theorem OwnM.rd {w : World} {B : Nat} {s : Sl} {f : Nat → List It} (h : OwnM w B s f) : RdM w s f := fun i hi => (h i hi).rd
theorem OwnM.keep {w w' : World} {B : Nat} {s : Sl} {f : Nat → List It} (h : OwnM w B s f) (hb : Below w.heap.size w w') : OwnM w' B s f := fun i hi => own_keep (h i hi) hb
theorem OwnM.mono {w : World} {B B' : Nat} {s : Sl} {f : Nat → List It} (h : OwnM w B s f) (hb : B' ≤ B) : OwnM w B' s f := fun i hi => World.ownsRow.mono (h i hi) hb
theorem OwnM.putM {w : World} {B b : Nat} {s : Sl} {f : Nat → List It} (h : OwnM w B s f) (hb : b < B) (s' : Sl) (l g : Int) : OwnM (putM w b s' l g) B s f := fun i hi => own_putM (h i hi) hb s' l g
theorem OwnM.nil (w : World) (B : Nat) : OwnM w B Sl.nil (fun _ => []) := fun _ _ => World.ownsRow_nil _ _ _ _
theorem OwnM.set {w : World} {B : Nat} {s : Sl} {f : Nat → List It} (h : OwnM w B s f) {k : Nat} {a : Option Addr} {n c : Nat} {l : List It} (hl : OwnT w B (.slice a n c) l) : OwnM w B (s.set k a n c) (fun i => if i = k then l else f i) := fun i hi => by
  show OwnT w B ((s.set k a n c).v i) (if i = k then l else f i)
  rw [Sl.set_v]
  by_cases e : i = k
  · rw [if_pos e, if_pos e]; exact hl
  · rw [if_neg e, if_neg e]; exact h i hi
section
variable {W : World} {b : Nat} {s : Sl} {l g : Int} (h : BoxM W b s l g)
include h
theorem BoxM.c0 : W.cell? ⟨b, 0, none⟩ = some (.slice (s.a 0) (s.n 0) (s.c 0)) := h.c 0 (by decide)
theorem BoxM.c1 : W.cell? ⟨b, 1, none⟩ = some (.slice (s.a 1) (s.n 1) (s.c 1)) := h.c 1 (by decide)
theorem BoxM.c2 : W.cell? ⟨b, 2, none⟩ = some (.slice (s.a 2) (s.n 2) (s.c 2)) := h.c 2 (by decide)
theorem BoxM.c3 : W.cell? ⟨b, 3, none⟩ = some (.slice (s.a 3) (s.n 3) (s.c 3)) := h.c 3 (by decide)
theorem BoxM.c4 : W.cell? ⟨b, 4, none⟩ = some (.slice (s.a 4) (s.n 4) (s.c 4)) := h.c 4 (by decide)
theorem BoxM.c5 : W.cell? ⟨b, 5, none⟩ = some (.slice (s.a 5) (s.n 5) (s.c 5)) := h.c 5 (by decide)
theorem BoxM.c6 : W.cell? ⟨b, 6, none⟩ = some (.slice (s.a 6) (s.n 6) (s.c 6)) := h.c 6 (by decide)
theorem BoxM.c7 : W.cell? ⟨b, 7, none⟩ = some (.slice (s.a 7) (s.n 7) (s.c 7)) := h.c 7 (by decide)
end
end Go.Proofs.Ytibddmnfplmonaa

namespace Go.Proofs.Ytibddmnfplmonaa
open Go.RowKit

theorem grow_zeros (w : World) (n : Nat) (h0 : 0 < n) (hn : n ≤ 1000000) :
    ∃ w' c, (∀ ty, (Builtin.append_ #[41, 3] ty #[.slice none 0 0, .int .i64 (n : Int)]).run Try.prog w = .ok (.slice (some ⟨w.heap.size, 0, none⟩) n c) w') ∧
      w'.ownsRow w.heap.size 35 4 (.slice (some ⟨w.heap.size, 0, none⟩) 0 c) 0 [] ∧ Below w.heap.size w w' ∧ n ≤ c ∧ c ≤ maxLen := by
  obtain ⟨x, hx⟩ : ∃ x, Try.prog.info? 35 = some x := by
    cases hq : Try.prog.info? 35 with
    | none => have := infoT; rw [hq] at this; cases this
    | some x => exact ⟨x, rfl⟩
  have hI := infoT
  rw [hx] at hI
  injection hI with hI
  injection hI with hz hI
  injection hI with hs4 hb32
  have hz : x.zero = some (itV it0) := hz
  have hr : ∀ ty, _ := fun ty => Lib.run_append_nil_zeros (P := Try.prog) w 41 3 ty 35 x (itV it0) .i64 .i64 Try.underlying41 Try.underlying3 hx hz n h0 (by rw [hs4]; decide) (by omega) (by rw [hb32]; omega)
  have hge := grownCap_ge w n 0 35
  have hcm : grownCap w n 0 35 ≤ maxLen := grownCap_le_maxLen w n 0 _ (by unfold maxLen; omega)
  refine ⟨_, _, hr, ⟨rfl, .inr ⟨w.heap.size, _, _, rfl, Nat.le_refl _, heap_alloc_new w.drew _, Nat.zero_le _, hcm, ?_, by simp⟩⟩, (Below.drew (Below.refl _ _)).alloc (Nat.le_refl _) _, hge, hcm⟩
  have z4 : (itV it0).cells.size = 4 := rfl
  simp only [Array.size_append, size_zeroCells, z4, ← Nat.add_mul]
  rw [show n + (grownCap w n 0 35 - n) = grownCap w n 0 35 from by omega]
set_option maxRecDepth 100000 in
theorem grow_any (n : Nat) (hn : n ≤ 1000000) (w : World) :
    Calls Try.prog 43 #[.slice none 0 0, .int .i64 (n : Int)] w fun e w' => ∃ v', e = .returned v' ∧ OwnT w' w.heap.size v' [] ∧ Below w.heap.size w w' := by
  have hneg : decide ((n : Int) < 0) = false := by simp
  by_cases h0 : n = 0
  · subst h0
    go_enter Try.func43, Try.ntmps43
    go_wp2_with fail
    go_ret
    exact ⟨_, rfl, World.ownsRow_nil _ _ _ _, Below.refl _ _⟩
  · have hp : decide ((0 : Int) < (n : Int)) = true := by simp; omega
    obtain ⟨w1, c, hrun, hown, hb, hnc, hcm⟩ := grow_zeros w n (by omega) hn
    have h1 := slice_to (P := Try.prog) elemT (a := some ⟨w.heap.size, 0, none⟩) (n := n) (cap := c) (fun x hx => ⟨w.heap.size, 0, (Option.some.inj hx).symm⟩) 0 (Nat.zero_le _)
    have h2 : ∀ W kh, (Instr.slice 41 (.slice none 0 0) none (some (.int kh ((0 : Nat) : Int))) none).run Try.prog W = .ok (.slice none 0 0) W := slice_to (P := Try.prog) elemT (a := none) (n := 0) (cap := 0) (fun x hx => by cases hx) 0 (Nat.le_refl _)
    rw [show ((0 : Nat) : Int) = 0 from rfl] at h1 h2
    have HO := Lib.hid hown
    have HB := Lib.hid hb
    have j1 : IntKind.i64.wrap ((n : Int) - 0) = (n : Int) := (IntWalk.i64_in _ (by omega)).trans (by omega)
    clear hown hb
    go_enter Try.func43, Try.ntmps43
    go_wp2_with (at_builtin; refine Lib.wpList_append_run _ rfl (.tmp 20) (.tmp 21) _ _ rfl _ _ rfl rfl _ _ (hrun _) ?_)
    go_ret
    exact ⟨_, rfl, HO.out, HB.out⟩
theorem cat_len (f : Nat → List It) (n : Nat) : (cat f (n + 1)).length = (cat f n).length + (f n).length := by
  show (cat f n ++ f n).length = _
  rw [List.length_append]
theorem cat_mono (f : Nat → List It) : ∀ d n, (cat f n).length ≤ (cat f (n + d)).length
  | 0, _ => Nat.le_refl _
  | d + 1, n => by
    have := cat_mono f d n
    rw [show n + (d + 1) = (n + d) + 1 by omega, cat_len]
    omega
set_option maxRecDepth 100000 in
set_option maxHeartbeats 4000000 in
theorem concat_any (b : Nat) (s : Sl) (L G : Int) (f : Nat → List It) (w : World) (hx : BoxM w b s L G) (h : RdM w s f) (hs : (cat f 8).length ≤ 1000000) :
    Calls Try.prog 30 #[.slice (some ⟨b, 0, none⟩) 8 8] w fun e w' => ∃ v', e = .returned v' ∧ OwnT w' w.heap.size v' (cat f 8) ∧ Below w.heap.size w w' := by
  have HX := Lib.hid hx
  have HR := Lib.hid h
  have HL := Lib.hid (fun i (hi : i < 8) => h.n hi)
  have HC := Lib.hid (fun n => cat_len f n)
  have HM := Lib.hid (fun n (hn : n ≤ 8) => show (cat f n).length ≤ 1000000 from by
    have := cat_mono f (8 - n) n
    rw [show n + (8 - n) = 8 by omega] at this
    omega)
  have HG := Lib.hid (fun n hn W => grow_any n hn W)
  have HE := Lib.hid (fun i => show cat f (i + 1) = cat f i ++ f i from rfl)
  clear hx h hs
  go_enter Try.func30, Try.ntmps30
  go_wp2_with fail
  go_loopw [3, 11] (fun lv iv W => ∃ i : Nat, iv = .int .i64 (i : Int) ∧ i ≤ 8 ∧ lv = .int .i64 ((cat f i).length : Int) ∧ w = W) (fun _ iv _ => 8 - (intOf iv).toNat)
  case atStart => exact ⟨0, rfl, Nat.zero_le _, rfl, rfl⟩
  case round =>
    obtain ⟨i, rfl, hi, rfl, rfl⟩ := hrel
    by_cases hin : i < 8
    · have i1 : (i : Int) < 8 := by omega
      have ci := HX.out.c i hin
      have hvi : s.v i = .slice (s.a i) (s.n i) (s.c i) := rfl
      rw [hvi, HL.out i hin] at ci
      have hm := HM.out (i + 1) (by omega)
      have hc := HC.out i
      rw [hc] at hm
      have HCi := Lib.hid hc
      generalize (cat f i).length = p at *
      generalize (f i).length = q at *
      have hw : IntKind.i64.wrap ((p : Int) + (q : Int)) = ((p + q : Nat) : Int) := (IntWalk.i64_in _ (by omega)).trans (by omega)
      have hneg : decide (((p + q : Nat) : Int) < 0) = false := by simp; omega
      clear hvi hc
      go_wp2_with fail
      exact ⟨⟨i + 1, by go_num, by omega, by rw [HCi.out, Int.natCast_add], trivial⟩, by simp [intOf]; omega⟩
    · obtain rfl : i = 8 := by omega
      have HGr := Lib.hid (HG.out (cat f 8).length (HM.out 8 (Nat.le_refl _)) w)
      generalize (cat f 8).length = tot at *
      go_wp2_with fail
      refine HGr.out.mono ?_; rintro e w1 ⟨v1, rfl, hown1, hb1⟩
      have HO1 := Lib.hid hown1
      have HB1 := Lib.hid hb1
      clear hown1 hb1 HGr
      go_wp2_with fail
      go_loopw [6, 27] (fun ov iv W => ∃ i : Nat, iv = .int .i64 (i : Int) ∧ i ≤ 8 ∧ Hid (W.ownsRow w.heap.size 35 4 ov (cat f i).length (itsC (cat f i))) ∧ Hid (Below w.heap.size w W)) (fun _ iv _ => 8 - (intOf iv).toNat)
      case atStart => exact ⟨0, rfl, Nat.zero_le _, HO1, HB1⟩
      case round =>
        obtain ⟨i, rfl, hi, HO, HB⟩ := hrel
        by_cases hin : i < 8
        · have i1 : (i : Int) < 8 := by omega
          have ci := Below.keeps HB.out _ _ (HX.out.c i hin)
          have HRi := Lib.hid ((HR.out i hin).below HB.out)
          have hvi : s.v i = .slice (s.a i) (s.n i) (s.c i) := rfl
          rw [hvi, HL.out i hin] at ci HRi
          have hm := HM.out (i + 1) (by omega)
          rw [HC.out i] at hm
          have HEi := Lib.hid (HE.out i)
          have hone := itsC_one' (f i)
          have HOne := Lib.hid hone
          have hsz := HB.out.size
          have HRr := Lib.hid (show Rd wr 4 (.slice (s.a i) (f i).length (s.c i)) (f i).length (itsC (f i)) from rdT_rd HRi.out)
          clear hvi hone
          go_wp2_with (at_builtin; refine wpList_app (n := (cat f i).length) (m := (f i).length) rfl (.tmp 31) (.tmp 32) 41 rfl elemT w.heap.size rfl HO.out rfl HRr.out HOne.out (by unfold maxLen; omega) (by omega) hsz ?_; intro v4 w4 hown4 hgr4 hv4; clear hv4; have HO4 := Lib.hid (show OwnT w4 w.heap.size v4 (cat f (i + 1)) from ownT_of hown4 (by rw [HEi.out, itsC_append])); have HB4 := Lib.hid (own_below HB.out HO.out hsz hgr4); clear hown4 hgr4)
          exact ⟨⟨i + 1, by go_num, by omega, HO4, HB4⟩, by simp [intOf]; omega⟩
        · obtain rfl : i = 8 := by omega
          go_wp2_with fail
          go_ret
          exact ⟨_, rfl, HO.out, HB.out⟩
end Go.Proofs.Ytibddmnfplmonaa

namespace Go.Proofs.Ytibddmnfplmonaa
open Go.RowKit

def itemsM (M : Mp) : List It := if vldM M = true then srt (allM M) else []
def getM (M : Mp) (key : Int) : Option It := if vldM M = true then fnd (M.st (strp key)) key else none
theorem itemsM_asc (M : Mp) : Asc (itemsM M) := by
  unfold itemsM
  split
  · exact srt_asc _
  · exact fun j h => by simp at h
theorem fnd_itemsM (M : Mp) (key : Int) : fnd (srt (itemsM M)) key = getM M key := by
  rw [srt_of_asc (itemsM_asc M)]
  unfold itemsM getM
  split
  · rename_i h; exact ((vldM_iff M).1 h).fnd key
  · rfl
theorem allM_len {M : Mp} (h : ∀ i, i < 8 → (M.st i).length ≤ 10000) : (allM M).length ≤ 80000 := cat_le (M := M) (B := 10000) h 8 (Nat.le_refl _)
theorem itemsM_len {M : Mp} (h : ∀ i, i < 8 → (M.st i).length ≤ 10000) : (itemsM M).length ≤ 80000 := by
  unfold itemsM
  split
  · exact Nat.le_trans (srt_length _) (allM_len h)
  · simp
theorem merge_nil (v : Value) (l : List It) (w : World) (h : RdT w v l) (hs : l.length ≤ 80000) :
    Calls Try.prog 29 #[.slice none 0 0, v, .slice none 0 0] w fun e w' => ∃ v', e = .returned v' ∧ OwnT w' w.heap.size v' (srt l) ∧ Below w.heap.size w w' := by
  have := merge_any (.slice none 0 0) v (.slice none 0 0) [] l [] w (rd_rdT (own_rd (World.ownsRow_nil w 0 35 4))) h (own_rdl (World.ownsRow_nil w 0 24 1)) (sorted_all _ (by simp)) (sorted_all _ (by omega)) (sorted_all _ (by have := srt_length l; rw [List.length_append]; have h0 := kept_length [] (srt []); rw [srt_nil] at h0 ⊢; simp at h0; simp [h0]; omega)) (by simp) (by omega)
  rwa [mrg_nil] at this
set_option maxRecDepth 100000 in
set_option maxHeartbeats 4000000 in
theorem itemsM_any (s : Sl) (M : Mp) (w : World) (h : RdM w s M.st) (hs : ∀ i, i < 8 → (M.st i).length ≤ 10000) :
    Calls Try.prog 20 #[mapV s M.live M.garb] w fun e w' => ∃ v', e = .returned v' ∧ OwnT w' w.heap.size v' (itemsM M) ∧ Below w.heap.size w w' := by
  have HV := Lib.hid (fun W h => validM_any s M W h (fun i hi => Nat.le_trans (hs i hi) (by decide)))
  have HBx := Lib.hid (BoxM.new w s M.live M.garb 44)
  have HB0 := Lib.hid (below_map w s M.live M.garb 44)
  have Hr := Lib.hid h
  have HC := Lib.hid (fun b W hx h => concat_any b s M.live M.garb M.st W hx h (Nat.le_trans (allM_len hs) (by decide)))
  have HM := Lib.hid (fun v W h => merge_nil v (allM M) W h (allM_len hs))
  have HI := Lib.hid (show itemsM M = if vldM M = true then srt (allM M) else [] from rfl)
  rw [show cat M.st 8 = allM M from rfl] at HC
  clear h hs
  generalize vldM M = vb at *
  generalize allM M = A at *
  generalize itemsM M = I at *
  obtain ⟨f, L, G⟩ := M
  dsimp only at *
  go_enter Try.func20, Try.ntmps20
  go_wp2_with fail
  refine (HV.out _ (Hr.out.below HB0.out)).mono ?_; rintro e w1 ⟨rfl, hb1⟩
  have HB1 := Lib.hid (bstep HB0.out hb1)
  have HX1 := Lib.hid (HBx.out.below hb1)
  have HR1 := Lib.hid (Hr.out.below HB1.out)
  clear hb1 HV HBx HB0
  cases vb
  · go_wp2_with fail
    go_ret
    exact ⟨_, rfl, by rw [HI.out, if_neg (by decide)]; exact World.ownsRow_nil _ _ _ _, HB1.out⟩
  · rw [if_pos rfl] at HI
    go_wp2_with fail
    refine (HC.out _ _ HX1.out HR1.out).mono ?_; rintro e w2 ⟨v2, rfl, hown2, hb2⟩
    have HB2 := Lib.hid (bstep HB1.out hb2)
    have HR2 := Lib.hid hown2.rd
    have HMg := Lib.hid (HM.out v2 w2 hown2.rd)
    clear hown2 hb2
    go_wp2_with fail
    refine HMg.out.mono ?_; rintro e w3 ⟨v3, rfl, hown3, hb3⟩
    have HO3 := Lib.hid (hown3.mono HB2.out.size)
    have HB3 := Lib.hid (bstep HB2.out hb3)
    clear hown3 hb3
    go_wp2_with fail
    go_ret
    exact ⟨_, rfl, by rw [HI.out]; exact HO3.out, HB3.out⟩
/-- An item in a block of its own. -/
structure BoxI (W : World) (b : Nat) (x : It) : Prop where
  t : BoxT W b x
  f : ∀ i, W.frozen? ⟨b, i, none⟩ = false
theorem BoxI.new (w : World) (x : It) : BoxI (w.alloc (boxC x)) w.heap.size x := ⟨BoxT.new w x, fun i => by simp⟩
theorem BoxI.lt {W : World} {b : Nat} {x : It} (h : BoxI W b x) : b < W.heap.size := World.block_lt_of_cell? _ ⟨b, 0, none⟩ h.t.c0
theorem BoxI.below {W W' : World} {b : Nat} {x : It} (h : BoxI W b x) (hb : Below W.heap.size W W') : BoxI W' b x := ⟨h.t.below hb, fun i => (hb.frozen (p := ⟨b, i, none⟩) h.lt).trans (h.f i)⟩
theorem BoxI.set_ne {W : World} {b : Nat} {x : It} (h : BoxI W b x) {p : Addr} (hp : p.block ≠ b) (u : Value) : BoxI (W.setCell p u) b x := by
  have ne : ∀ i, p ≠ ⟨b, i, none⟩ := fun i e => hp (by rw [e])
  exact ⟨⟨(World.cell?_setCell_other (h := ne 0) ..).trans h.t.c0, (World.cell?_setCell_other (h := ne 1) ..).trans h.t.c1, (World.cell?_setCell_other (h := ne 2) ..).trans h.t.c2, (World.cell?_setCell_other (h := ne 3) ..).trans h.t.c3⟩, fun i => by simp [h.f]⟩
theorem BoxI.putM_ne {W : World} {b c : Nat} {x : It} (h : BoxI W b x) (hp : c ≠ b) (s' : Sl) (l' g' : Int) : BoxI (putM W c s' l' g') b x :=
  (((((((((h.set_ne (p := ⟨c, 0, none⟩) hp _).set_ne (p := ⟨c, 1, none⟩) hp _).set_ne (p := ⟨c, 2, none⟩) hp _).set_ne (p := ⟨c, 3, none⟩) hp _).set_ne (p := ⟨c, 4, none⟩) hp _).set_ne (p := ⟨c, 5, none⟩) hp _).set_ne (p := ⟨c, 6, none⟩) hp _).set_ne (p := ⟨c, 7, none⟩) hp _).set_ne (p := ⟨c, 8, none⟩) hp _).set_ne (p := ⟨c, 9, none⟩) hp _
def putI (W : World) (b : Nat) (y : It) : World := (((W.setCell ⟨b, 0, none⟩ (.int .u64 y.key)).setCell ⟨b, 1, none⟩ (.int .u32 y.ck)).setCell ⟨b, 2, none⟩ (.int .i64 y.off)).setCell ⟨b, 3, none⟩ (.int .i64 y.size)
theorem BoxI.put {W : World} {b : Nat} {x : It} (h : BoxI W b x) (y : It) : BoxI (putI W b y) b y := ⟨h.t.set y, fun i => by simp [putI, h.f]⟩
theorem putI_below {B b : Nat} {w0 W : World} (h : Below B w0 W) (hb : B ≤ b) (y : It) : Below B w0 (putI W b y) := (((h.setCell hb _).setCell hb _).setCell hb _).setCell hb _
theorem lenM_any (s : Sl) (M : Mp) (w : World) (h : RdM w s M.st) (hs : ∀ i, i < 8 → (M.st i).length ≤ 10000) :
    Calls Try.prog 15 #[mapV s M.live M.garb] w fun e w' => e = .returned (.int .i64 ((itemsM M).length : Int)) ∧ Below w.heap.size w w' := by
  have HB0 := Lib.hid (below_map w s M.live M.garb 44)
  have HI := Lib.hid (itemsM_any s M _ (h.below HB0.out) hs)
  generalize itemsM M = I at *
  clear h hs
  obtain ⟨f, L, G⟩ := M
  dsimp only at *
  go_enter Try.func15, Try.ntmps15
  go_wp2_with fail
  refine HI.out.mono ?_; rintro e w1 ⟨v1, rfl, hown1, hb1⟩
  have HB1 := Lib.hid (bstep HB0.out hb1)
  obtain ⟨a, c, hv, _⟩ := own_form hown1
  subst hv
  clear hown1 hb1
  go_wp2_with fail
  go_ret
  exact ⟨rfl, HB1.out⟩
set_option maxRecDepth 100000 in
set_option maxHeartbeats 4000000 in
theorem getM_any (s : Sl) (M : Mp) (key : Int) (w : World) (h : RdM w s M.st) (hs : ∀ i, i < 8 → (M.st i).length ≤ 10000) :
    Calls Try.prog 17 #[mapV s M.live M.garb, .int .u64 key] w fun e w' => e = .returned (.tuple #[itV ((getM M key).getD it0), .bool (getM M key).isSome]) ∧ Below w.heap.size w w' := by
  have HV := Lib.hid (fun W h => validM_any s M W h (fun i hi => Nat.le_trans (hs i hi) (by decide)))
  have HBx := Lib.hid ((BoxM.new w s M.live M.garb 44).below (below_box (w.alloc (.cells (mapC s M.live M.garb) 44)) it0))
  have HBt := Lib.hid (BoxI.new (w.alloc (.cells (mapC s M.live M.garb) 44)) it0)
  rw [show (w.alloc (.cells (mapC s M.live M.garb) 44)).heap.size = w.heap.size + 1 by simp] at HBt
  have HB0 := Lib.hid (bstep (below_map w s M.live M.garb 44) (below_box (w.alloc (.cells (mapC s M.live M.garb) 44)) it0))
  have Hr := Lib.hid h
  have hk8 := strp_lt key
  have HF := Lib.hid (fun W h => find_any (s.v (strp key)) (M.st (strp key)) key W h (sorted_all _ (Nat.le_trans (hs _ hk8) (by decide))) (Nat.le_trans (hs _ hk8) (by decide)))
  have HS := Lib.hid (fun W => stripe_any key W)
  have HI := Lib.hid (show getM M key = if vldM M = true then fnd (M.st (strp key)) key else none from rfl)
  have HA := Lib.hid (fun h : vldM M = true => srt_of_asc (vld_asc (((vldM_iff M).1 h).ok _ hk8)))
  have HRk := Lib.hid (fun W (hb : Below w.heap.size w W) => (h (strp key) hk8).below hb)
  clear h hs
  generalize getM M key = o at *
  generalize vldM M = vb at *
  generalize strp key = k at *
  obtain ⟨f, L, G⟩ := M
  dsimp only at *
  go_enter Try.func17, Try.ntmps17
  go_wp2_with fail
  refine (HV.out _ (Hr.out.below HB0.out)).mono ?_; rintro e w1 ⟨rfl, hb1⟩
  have HB1 := Lib.hid (bstep HB0.out hb1)
  have HX1 := Lib.hid (HBx.out.below hb1)
  have HT1 := Lib.hid (HBt.out.below hb1)
  clear hb1 HV HBx HB0 HBt
  have d0 := HT1.out.t.c0
  have d1 := HT1.out.t.c1
  have d2 := HT1.out.t.c2
  have d3 := HT1.out.t.c3
  have F1 := HT1.out.f
  cases vb
  · have HI2 := Lib.hid (HI.out.trans (if_neg (by decide)))
    go_wp2_with fail
    change bodyPost _ _ _ _ _ (putI w1 (w.heap.size + 1) it0)
    have hby := HT1.out.put it0
    have HBz := Lib.hid (putI_below HB1.out (Nat.le_succ _) it0)
    generalize putI w1 (w.heap.size + 1) it0 = V at *
    have y0 := hby.t.c0
    have y1 := hby.t.c1
    have y2 := hby.t.c2
    have y3 := hby.t.c3
    exact bodyPost_ret (v := .tuple #[itV it0, .bool false]) (by simp [results, Try.results17, go_sem, y0, y1, y2, y3]) rfl ⟨by rw [HI2.out]; rfl, HBz.out⟩
  · have HI2 := Lib.hid (HI.out.trans (if_pos rfl))
    have hvk : s.v k = .slice (s.a k) (s.n k) (s.c k) := rfl
    have ck := HX1.out.c k hk8
    have HFk := Lib.hid (HF.out w1 (HRk.out w1 HB1.out))
    rw [HA.out rfl, ← HI2.out] at HFk
    rw [hvk] at ck HFk
    generalize s.a k = sa at *
    generalize s.n k = sn at *
    generalize s.c k = sc at *
    clear hvk HF HRk HA
    go_wp2_with fail
    refine (HS.out _).mono ?_; rintro e w2 ⟨rfl, rfl⟩
    go_wp2_with fail
    refine HFk.out.mono ?_; rintro e w3 ⟨rfl, hb3⟩
    have HT3 := Lib.hid (HT1.out.below hb3)
    have HB3 := Lib.hid (bstep HB1.out hb3)
    clear hb3 d0 d1 d2 d3 F1
    have d0 := HT3.out.t.c0
    have d1 := HT3.out.t.c1
    have d2 := HT3.out.t.c2
    have d3 := HT3.out.t.c3
    have F1 := HT3.out.f
    obtain ⟨y, hy⟩ : ∃ y, o.getD it0 = y := ⟨_, rfl⟩
    have Hy := Lib.hid hy
    rw [hy]
    clear hy
    go_wp2_with fail
    change bodyPost _ _ _ _ _ (putI w3 (w.heap.size + 1) y)
    have hby := HT3.out.put y
    have HBz := Lib.hid (putI_below HB3.out (Nat.le_succ _) y)
    generalize putI w3 (w.heap.size + 1) y = V at *
    have y0 := hby.t.c0
    have y1 := hby.t.c1
    have y2 := hby.t.c2
    have y3 := hby.t.c3
    exact bodyPost_ret (v := .tuple #[itV y, .bool o.isSome]) (by simp [results, Try.results17, go_sem, y0, y1, y2, y3]) rfl ⟨by rw [Hy.out], HBz.out⟩
end Go.Proofs.Ytibddmnfplmonaa

namespace Go.Proofs.Ytibddmnfplmonaa
open Go

section
variable {P : Program} {ops : Array Oper} {md : Region.Mode} {C : World → Prop}

/-- f operations still to be picked among the first n, whatever the order; then L. -/
def hd (P : Program) (md : Region.Mode) (ops : Array Oper) (C : World → Prop) (n : Nat) (L : Array Bool → Act → Prop) : Nat → Array Bool → Act → Prop
  | 0, s, a => L s a
  | f + 1, s, a => Region.ready md ops s ≠ [] ∧ ∀ i ∈ Region.ready md ops s, i < n ∧ qOp P ops C i (hd P md ops C n L f (s.setIfInBounds i true)) a
theorem hd_any {n g : Nat} {L : Array Bool → Act → Prop} {Q : Exit → Act → World → Prop} (hL : ∀ s a w, C w → L s a → wpAny P md ops Q g s a w) :
    ∀ (f : Nat) (s : Array Bool) (a : Act) (w : World), C w → hd P md ops C n L f s a → wpAny P md ops Q (f + g) s a w
  | 0, s, a, w, hw, h => by rw [Nat.zero_add]; exact hL _ _ _ hw h
  | f + 1, s, a, w, hw, h => by
    rw [show f + 1 + g = (f + g) + 1 by omega]
    exact ⟨fun e => absurd e h.1, fun i hi => wpOp_of_qOp hw (fun a' w' hw' h' => hd_any hL f _ a' w' hw' h') (h.2 i hi).2⟩
theorem hd_front {n i : Nat} {o : Oper} {v : Value} {L : Array Bool → Act → Prop} (hi : ops[i]? = some o) (hsel : ∀ (j : Nat) (o : Oper) cs b, ops[j]? = some o → o.op ≠ .select cs b)
    (hs : Region.sinkB md ops n = true) (hc : Region.chainB md ops n = true) (hn : n < ops.size) (hin : i < n) (hL : ∀ s a, L s a → ∀ j ∈ Region.ready md ops s, n ≤ j)
    (f : Nat) : ∀ (s : Array Bool) (a : Act), HeadInv md ops n s →
      (∀ j oj, ops[j]? = some oj → j ≠ i → s.getD j true = false → (∀ e ∈ oj.after, Region.binds md e = true → e.on ≠ i) → o.apart ops oj = true) →
      i ∈ Region.ready md ops s → YieldsIn P ops C o v a → hd P md ops C n L f (s.setIfInBounds i true) (a.put o.dst v) → hd P md ops C n L (f + 1) s a := by
  induction f with
  | zero =>
    intro s a inv _ hr hy H
    refine ⟨(fun e => by rw [e] at hr; cases hr), fun j hj => ?_⟩
    have hjn : j < n := Nat.lt_of_not_le fun h => tail_waits hs hc hn inv _ i rfl hin (mem_ready.1 hr).1 j h hj
    refine ⟨hjn, ?_⟩
    by_cases e : j = i
    · subst e; exact hy.qOp hi H
    · have := hL _ _ H j (ready_mono hj e); omega
  | succ f ih =>
    intro s a inv hfree hr hy H
    refine ⟨(fun e => by rw [e] at hr; cases hr), fun j hj => ?_⟩
    have hun := (mem_ready.1 hr).1
    have hjn : j < n := Nat.lt_of_not_le fun h => tail_waits hs hc hn inv _ i rfl hin hun j h hj
    refine ⟨hjn, ?_⟩
    by_cases e : j = i
    · subst e; exact hy.qOp hi H
    · obtain ⟨hjun, oj, hoj, hall⟩ := mem_ready.1 hj
      have hno : ∀ e ∈ oj.after, Region.binds md e = true → e.on ≠ i := fun x hx hb heq => by
        have h1 := hall x hx hb
        rw [heq, getD_both hun] at h1
        cases h1
      have h2 := qOp_put hoj (hfree j oj hoj e hjun hno) (fun cs b => hsel i o cs b hi) (fun cs b => hsel j oj cs b hoj) hy (H.2 j (ready_mono hj e)).2
      refine qOp_mono (fun a' h3 => ih (s.setIfInBounds j true) a' (inv.set hj hjn) (fun k ok hk hki hk' hno' => hfree k ok hk hki ?_ hno') (ready_mono hr (Ne.symm e)) h3.1 ?_) h2
      · by_cases hjk : j = k
        · subst hjk; exact hjun
        · rw [getD_set_ne true hjk] at hk'; exact hk'
      · rw [Array.setIfInBounds_comm _ _ e]; exact h3.2
theorem hd_walk {n g : Nat} {R : Act → Prop} (hsel : Region.noSelect ops = true) (hs : Region.sinkB md ops n = true) (hc : Region.chainB md ops n = true) (hn : n < ops.size) :
    ∀ (l : List Oper) (k : Nat) (s : Array Bool) (a : Act), (∀ j, j < l.length → l[j]? = ops[k + j]?) → k + l.length = n → HeadInv md ops n s →
    Region.lexHead md ops g l.length k s = true → wpQuiet P ops C R l a → hd P md ops C n (fun s' a' => Region.seqB md ops g n s' = true ∧ R a') l.length s a
  | [], k, s, a, _, hk, _, hB, h => by
    obtain rfl : k = n := by simpa using hk
    exact ⟨by simpa [Region.lexHead] using hB, h⟩
  | o :: l, k, s, a, hl, hk, inv, hB, h => by
    have h0 : ops[k]? = some o := by simpa using (hl 0 (by simp)).symm
    simp only [List.length_cons, Region.lexHead, Bool.and_eq_true] at hB
    obtain ⟨⟨hr, hf⟩, hB'⟩ := hB
    have hkn : k < n := by simp only [List.length_cons] at hk; omega
    have hr' : k ∈ Region.ready md ops s := by simpa using hr
    have hq : qOp P ops C k (wpQuiet P ops C R l) a := by unfold qOp; simp only [h0]; exact h
    obtain ⟨v, hy, hK⟩ := yieldsIn_of_qOp h0 hq
    exact hd_front h0 (Region.noSelect_spec hsel) hs hc hn hkn (fun s' a' h' => seqB_ready h'.1) l.length s a inv (Region.free_spec h0 hf) hr' hy
      (hd_walk hsel hs hc hn l (k + 1) _ _ (fun j hj => by have := hl (j + 1) (by simp; omega); simpa [Nat.add_assoc, Nat.add_comm 1 j] using this) (by simp only [List.length_cons] at hk; omega) (inv.set hr' hkn) hB' hK)
theorem wp_region_quiet_tail {id : Nat} {Q : Exit → Act → World → Prop} {a : Act} {w : World} {l : List Oper} (n : Nat) (hm : P.follows .mixedOrders = true) (hB : Region.lexTailB .any l.toArray n = true) (hw : C w.drew)
    (h : wpQuiet P l.toArray C (fun a' => ∀ w', C w' → wpList P l.toArray Q (l.drop n) a' w') (l.take n) a) : (Code.region id l.toArray true).wp P Q a w := by
  simp only [Region.lexTailB, Bool.and_eq_true, decide_eq_true_eq] at hB
  obtain ⟨⟨⟨⟨hsel, hn⟩, hs⟩, hc⟩, hlex⟩ := hB
  have hn' : n < l.length := by simpa using hn
  have htl : (l.take n).length = n := by simp; omega
  have hdl : (l.drop n).length = l.toArray.size - n := by simp
  have inv0 : HeadInv .any l.toArray n (Array.replicate l.toArray.size false) :=
    ⟨by simp, fun j oj _ hl => (by rw [getD_replicate_false] at hl; cases hl), fun t _ ht => getD_in (by simpa using ht) (getD_replicate_false _ _)⟩
  have H := hd_walk (md := .any) (g := l.toArray.size - n) hsel hs hc hn (l.take n) 0 _ a (fun j hj => by
    have hj' : j < n := by rw [htl] at hj; exact hj
    simp [hj']) (by simpa using htl) inv0 (by rw [htl]; exact hlex) h
  refine wp_region_any hm ?_
  have := hd_any (Q := Q) (g := l.toArray.size - n) (fun s a' w' hw' hL => by
    have := wpAny_of_seq (md := .any) (Q' := Q) (l.drop n) n s a' w' (fun j => by simp [List.getElem?_drop]) (by rw [hdl]; exact hL.1) (hL.2 w' hw')
    rwa [hdl] at this) _ _ _ w.drew hw H
  rw [htl, show n + (l.toArray.size - n) = l.toArray.size by omega] at this
  exact this
end
/-- The same, in the class of the worlds in which all that lies in w is as it was. -/
theorem wp_region_below_tail {P : Program} {id : Nat} {Q : Exit → Act → World → Prop} {a : Act} {w : World} {l : List Oper} (n : Nat) (hm : P.follows .mixedOrders = true) (hB : Region.lexTailB .any l.toArray n = true)
    (h : wpQuiet P l.toArray (fun w' => ∃ p : BelowBy w, w' = p.w') (fun a' => ∀ w', (∃ p : BelowBy w, w' = p.w') → wpList P l.toArray Q (l.drop n) a' w') (l.take n) a) : (Code.region id l.toArray true).wp P Q a w :=
  wp_region_quiet_tail (C := fun w' => ∃ p : BelowBy w, w' = p.w') n hm hB ⟨⟨w.drew, ⟨rfl, rfl, rfl, Nat.le_refl _, fun _ _ => rfl⟩⟩, rfl⟩ h
end Go.Proofs.Ytibddmnfplmonaa

namespace Go.Proofs.Ytibddmnfplmonaa
open Go.RowKit

def wasteM (M : Mp) (n : Int) : Mp := if vldM M = true ∧ 0 ≤ n ∧ n ≤ 1099511627776 - M.garb then ⟨M.st, M.live, M.garb + n⟩ else M
theorem live_small {M : Mp} (h : VldM M) (hs : ∀ i, i < 8 → (M.st i).length ≤ 10000) : Fx.Small M.live ∧ 0 ≤ M.live ∧ M.live ≤ 400000000 := by
  have h1 := allM_len hs
  have h2 := sumI_le (allM M)
  have h3 := h.lv
  have : (allM M).length * 4127 ≤ 80000 * 4127 := Nat.mul_le_mul_right _ h1
  unfold Fx.Small
  rw [Fx.p53]
  omega
theorem small_of {a : Int} (h1 : -9007199254740991 ≤ a) (h2 : a ≤ 9007199254740991) : Fx.Small a := by
  unfold Fx.Small; rw [Fx.p53]; omega
theorem csum_fb {a b c d : Int} (ha : Fx.Small a) (hb : Fx.Small b) (hc : Fx.Small c) (hd : Fx.Small d) (hac : Fx.Small (a + c)) (hbd : Fx.Small (b + d)) (t : TypeId) (W : World) :
    (binOp .add t (.complex .f64 (Fx.fb a) (Fx.fb b)) (.complex .f64 (Fx.fb c) (Fx.fb d))).run Try.prog W = .ok (.complex .f64 (Fx.fb (a + c)) (Fx.fb (b + d))) W :=
  run_complex_sum W .add (.inl rfl) t .f64 _ _ _ _ _ _ (by
    unfold cSumBits floatBits
    show ((FloatKind.f64.format.add _ _).bind _) = _
    rw [show FloatKind.f64.format.add (Fx.fb a) (Fx.fb c) = some (Fx.fb (a + c)) from Fx.add_fb a c ha hc hac, show FloatKind.f64.format.add (Fx.fb b) (Fx.fb d) = some (Fx.fb (b + d)) from Fx.add_fb b d hb hd hbd]
    rfl)
end Go.Proofs.Ytibddmnfplmonaa

namespace Go.Proofs.Ytibddmnfplmonaa
open Go.RowKit

def lenO (y : It) : Nat := szN y.size.toNat
def delM (M : Mp) (key : Int) : Mp :=
  match getM M key with
  | none => M
  | some y => if M.garb + (lenO y : Int) ≤ 1099511627776 then ⟨fun i => if i = strp key then drp (M.st i) key else M.st i, M.live - (lenO y : Int), M.garb + (lenO y : Int)⟩ else M
theorem lengthN_any (y : It) (hy : 0 ≤ y.size) (w : World) : Calls Try.prog 25 #[itV y] w fun e w' => e = .returned (.int .i64 (lenO y : Int)) ∧ Below w.heap.size w w' :=
  (length_any y w).mono fun e w' ⟨⟨n, he, _, h⟩, hb⟩ => ⟨by rw [he, h hy]; rfl, hb⟩
theorem ord_gt {a b : Int} (ha : Fx.Small a) (hb : Fx.Small b) : (FloatKind.f64.format.order (Fx.fb a) (Fx.fb b) == some Ordering.gt) = decide (b < a) := by
  have h : FloatKind.f64.format.order (Fx.fb a) (Fx.fb b) = some (compare a b) := Fx.order_fb a b ha hb
  rw [h]
  show (some (compareOfLessAndEq a b) == some Ordering.gt) = _
  unfold compareOfLessAndEq
  by_cases h1 : a < b
  · rw [if_pos h1, decide_eq_false (by omega)]; rfl
  · rw [if_neg h1]
    by_cases h2 : a = b
    · rw [if_pos h2, decide_eq_false (by omega)]; rfl
    · rw [if_neg h2, decide_eq_true (by omega)]; rfl
theorem getM_some {M : Mp} {key : Int} {y : It} (h : getM M key = some y) : vldM M = true ∧ y ∈ M.st (strp key) ∧ y.key = key ∧ 0 ≤ y.size := by
  unfold getM at h
  split at h
  · rename_i hv
    obtain ⟨h1, h2⟩ := fnd_some_mem h
    exact ⟨hv, h1, h2, vld_size (((vldM_iff M).1 hv).ok _ (strp_lt key)) y h1⟩
  · cases h
theorem lenO_le (y : It) : lenO y ≤ 4127 := szN_le _
end Go.Proofs.Ytibddmnfplmonaa

namespace Go.Proofs.Ytibddmnfplmonaa
open Go.RowKit

def insM (M : Mp) (x : It) : Mp :=
  if vldM M = true ∧ okB x = true ∧ M.garb + (szO (fnd (M.st (strp x.key)) x.key) : Int) ≤ 1099511627776 then
    ⟨fun i => if i = strp x.key then ins (M.st i) x else M.st i, M.live + (lenO x : Int) - (szO (fnd (M.st (strp x.key)) x.key) : Int), M.garb + (szO (fnd (M.st (strp x.key)) x.key) : Int)⟩ else M
theorem vldB_one (x : It) : vldB [x] = okB x := by
  unfold vldB
  simp [ascB]
theorem rd_lit1 (w : World) (x : It) (k : Nat) (hk : w.heap.size = k) : RdT (w.alloc (boxC x)) (.slice (some ⟨k, 0, none⟩) 1 1) [x] := by
  subst hk; exact rd_rdT (n := 1) (by rw [itsC_one]; exact Rd.new w 4 (itC x) 35 1 rfl (by decide))
end Go.Proofs.Ytibddmnfplmonaa

namespace Go.Proofs.Ytibddmnfplmonaa

def updM (f : Nat → List It) (k : Nat) (v : List It) : Nat → List It := fun i => if i = k then v else f i
theorem updM_self (f : Nat → List It) (k : Nat) (v : List It) : updM f k v k = v := if_pos rfl
theorem updM_ne (f : Nat → List It) {k i : Nat} (h : i ≠ k) (v : List It) : updM f k v i = f i := if_neg h
theorem updM_le (f : Nat → List It) (k : Nat) (v : List It) {n : Nat} (h1 : ∀ i, (f i).length ≤ n) (h2 : v.length ≤ n) (i : Nat) : (updM f k v i).length ≤ n := by
  unfold updM; split
  · exact h2
  · exact h1 i
theorem cat_upd_le (f : Nat → List It) (k : Nat) (v : List It) : ∀ n, n ≤ k → cat (updM f k v) n = cat f n
  | 0, _ => rfl
  | n + 1, h => by
    show cat (updM f k v) n ++ updM f k v n = cat f n ++ f n
    rw [cat_upd_le f k v n (by omega), updM_ne f (by omega)]
theorem sumI_upd (f : Nat → List It) (k : Nat) (v : List It) : ∀ n, k < n → sumI (cat (updM f k v) n) + sumI (f k) = sumI (cat f n) + sumI v
  | 0, h => by omega
  | n + 1, h => by
    show sumI (cat (updM f k v) n ++ updM f k v n) + sumI (f k) = sumI (cat f n ++ f n) + sumI v
    rw [sumI_append, sumI_append]
    by_cases e : k = n
    · subst e
      rw [cat_upd_le f k v k (Nat.le_refl _), updM_self]
      omega
    · have := sumI_upd f k v n (by omega)
      rw [updM_ne f (by omega)]
      omega
theorem len_upd (f : Nat → List It) (k : Nat) (v : List It) : ∀ n, k < n → (cat (updM f k v) n).length + (f k).length = (cat f n).length + v.length
  | 0, h => by omega
  | n + 1, h => by
    show (cat (updM f k v) n ++ updM f k v n).length + (f k).length = (cat f n ++ f n).length + v.length
    rw [List.length_append, List.length_append]
    by_cases e : k = n
    · subst e
      rw [cat_upd_le f k v k (Nat.le_refl _), updM_self]
      omega
    · have := len_upd f k v n (by omega)
      rw [updM_ne f (by omega)]
      omega
theorem VldM.upd {M : Mp} (h : VldM M) {k : Nat} (hk : k < 8) {v : List It} (hv : vldB v = true) (hs : ∀ x ∈ v, strp x.key = k) {L G : Int}
    (hL : L + (sumI (M.st k) : Int) = M.live + (sumI v : Int)) (g0 : 0 ≤ G) (g1 : G ≤ 1099511627776) : VldM ⟨updM M.st k v, L, G⟩ := by
  have hsum := sumI_upd M.st k v 8 hk
  refine ⟨fun i hi => ?_, fun i hi x hx => ?_, ?_, g0, g1⟩
  · by_cases e : i = k
    · show vldB (updM M.st k v i) = true
      rw [e, updM_self]; exact hv
    · show vldB (updM M.st k v i) = true
      rw [updM_ne _ e]; exact h.ok i hi
  · have hx : x ∈ updM M.st k v i := hx
    by_cases e : i = k
    · rw [e, updM_self] at hx; rw [e]; exact hs x hx
    · rw [updM_ne _ e] at hx; exact h.sp i hi x hx
  · show L = (sumI (cat (updM M.st k v) 8) : Int)
    have hl := h.lv
    rw [show allM M = cat M.st 8 from rfl] at hl
    omega
theorem ins_vldB {l : List It} {x : It} (h : vldB l = true) (hx : okB x = true) : vldB (ins l x) = true := by
  rw [vldB_iff] at h ⊢
  exact ⟨ins_ascA h.1 x, ins_all x (of_decide_eq_true hx) l h.2⟩
theorem drp_vldB {l : List It} (h : vldB l = true) (key : Int) : vldB (drp l key) = true := by
  rw [vldB_iff] at h ⊢
  exact ⟨drp_asc h.1 key, fun y hy => h.2 y (List.mem_filter.1 hy).1⟩
theorem getM_of {M : Mp} (h : VldM M) (key : Int) : getM M key = fnd (M.st (strp key)) key := by unfold getM; rw [if_pos ((vldM_iff M).2 h)]
theorem insM_of {M : Mp} (h : VldM M) {x : It} (hx : okB x = true) (hg : M.garb + (szO (getM M x.key) : Int) ≤ 1099511627776) :
    insM M x = ⟨updM M.st (strp x.key) (ins (M.st (strp x.key)) x), M.live + (lenO x : Int) - (szO (getM M x.key) : Int), M.garb + (szO (getM M x.key) : Int)⟩ := by
  rw [getM_of h] at hg ⊢
  unfold insM
  rw [if_pos ⟨(vldM_iff M).2 h, hx, hg⟩]
  congr 1
  funext i
  unfold updM
  by_cases e : i = strp x.key
  · rw [if_pos e, if_pos e, e]
  · rw [if_neg e, if_neg e]
theorem delM_of {M : Mp} (h : VldM M) {key : Int} (hg : M.garb + (szO (getM M key) : Int) ≤ 1099511627776) :
    delM M key = ⟨updM M.st (strp key) (drp (M.st (strp key)) key), M.live - (szO (getM M key) : Int), M.garb + (szO (getM M key) : Int)⟩ := by
  have hd : ∀ l : List It, fnd l key = none → drp l key = l := fun l hl => List.filter_eq_self.2 fun y hy => by
    have := fnd_none_iff hl y hy
    simp [this]
  have hu : (fun i => if i = strp key then drp (M.st i) key else M.st i) = updM M.st (strp key) (drp (M.st (strp key)) key) := funext fun i => by
    unfold updM
    by_cases e : i = strp key
    · rw [if_pos e, if_pos e, e]
    · rw [if_neg e, if_neg e]
  have hgo := getM_of h key
  unfold delM
  generalize getM M key = o at *
  cases o with
  | none =>
    have e : updM M.st (strp key) (drp (M.st (strp key)) key) = M.st := funext fun i => by
      unfold updM
      by_cases e : i = strp key
      · rw [if_pos e, e, hd _ hgo.symm]
      · rw [if_neg e]
    obtain ⟨f, L, G⟩ := M
    show (⟨f, L, G⟩ : Mp) = ⟨_, L - ((0 : Nat) : Int), G + ((0 : Nat) : Int)⟩
    rw [show L - ((0 : Nat) : Int) = L by omega, show G + ((0 : Nat) : Int) = G by omega, e]
  | some y =>
    have hg' : M.garb + (lenO y : Int) ≤ 1099511627776 := hg
    show (if M.garb + (lenO y : Int) ≤ 1099511627776 then _ else M) = _
    rw [if_pos hg', hu]
    rfl
theorem wasteM_of {M : Mp} (h : VldM M) {n : Int} (h0 : 0 ≤ n) (hg : M.garb + n ≤ 1099511627776) : wasteM M n = ⟨M.st, M.live, M.garb + n⟩ := by
  unfold wasteM
  rw [if_pos ⟨(vldM_iff M).2 h, h0, by omega⟩]
theorem VldM.ins {M : Mp} (h : VldM M) {x : It} (hx : okB x = true) (hg : M.garb + (szO (getM M x.key) : Int) ≤ 1099511627776) : VldM (insM M x) := by
  rw [insM_of h hx hg]
  have hk := strp_lt x.key
  have h0 := h.g0
  refine h.upd hk (ins_vldB (h.ok _ hk) hx) (ins_all (p := fun y => strp y.key = strp x.key) x rfl _ (h.sp _ hk)) ?_ (by omega) hg
  have := sumI_put x _ (vld_asc (h.ok _ hk))
  rw [getM_of h]
  unfold lenO
  omega
theorem VldM.del {M : Mp} (h : VldM M) {key : Int} (hg : M.garb + (szO (getM M key) : Int) ≤ 1099511627776) : VldM (delM M key) := by
  rw [delM_of h hg]
  have hk := strp_lt key
  have h0 := h.g0
  refine h.upd hk (drp_vldB (h.ok _ hk) key) (fun y hy => h.sp _ hk y (List.mem_filter.1 hy).1) ?_ (by omega) hg
  have := sumI_drp key _ (vld_asc (h.ok _ hk))
  rw [getM_of h]
  omega
theorem VldM.waste {M : Mp} (h : VldM M) {n : Int} (h0 : 0 ≤ n) (hg : M.garb + n ≤ 1099511627776) : VldM (wasteM M n) := by
  rw [wasteM_of h h0 hg]
  have := h.g0
  exact ⟨h.ok, h.sp, h.lv, by show 0 ≤ M.garb + n; omega, hg⟩
theorem VldM.nil : VldM ⟨fun _ => [], 0, 0⟩ := ⟨fun i _ => rfl, fun i _ x hx => (by cases hx), (by decide), (by decide), (by decide)⟩
theorem szO_le (o : Option It) : szO o ≤ 4127 := by
  cases o with
  | none => exact Nat.zero_le _
  | some y => exact szN_le _
theorem fnd_upd (M : Mp) (k : Nat) (v : List It) (key : Int) : fnd (updM M.st k v (strp key)) key = if strp key = k then fnd v key else fnd (M.st (strp key)) key := by
  unfold updM; split <;> rfl
theorem getM_ins {M : Mp} (h : VldM M) {x : It} (hx : okB x = true) (hg : M.garb + (szO (getM M x.key) : Int) ≤ 1099511627776) (key : Int) :
    getM (insM M x) key = if x.key = key then some x else getM M key := by
  rw [getM_of (h.ins hx hg), insM_of h hx hg, getM_of h key]
  show fnd (updM _ _ _ _) key = _
  rw [fnd_upd]
  by_cases e : x.key = key
  · rw [if_pos e, ← e, if_pos rfl, fnd_ins_self]
  · rw [if_neg e]
    by_cases e2 : strp key = strp x.key
    · rw [if_pos e2, fnd_ins_other x key (fun e3 => e e3.symm), e2]
    · rw [if_neg e2]
theorem getM_del {M : Mp} (h : VldM M) {k : Int} (hg : M.garb + (szO (getM M k) : Int) ≤ 1099511627776) (key : Int) :
    getM (delM M k) key = if k = key then none else getM M key := by
  rw [getM_of (h.del hg), delM_of h hg, getM_of h key]
  show fnd (updM _ _ _ _) key = _
  rw [fnd_upd]
  by_cases e : k = key
  · rw [if_pos e, ← e, if_pos rfl, fnd_drp_self]
  · rw [if_neg e]
    by_cases e2 : strp key = strp k
    · rw [if_pos e2, fnd_drp_other k key (fun e3 => e e3.symm), e2]
    · rw [if_neg e2]
theorem insM_sum {M : Mp} (h : VldM M) {x : It} (hx : okB x = true) (hg : M.garb + (szO (getM M x.key) : Int) ≤ 1099511627776) : (insM M x).live + (insM M x).garb = M.live + M.garb + (lenO x : Int) := by
  rw [insM_of h hx hg]
  show M.live + (lenO x : Int) - (szO (getM M x.key) : Int) + (M.garb + (szO (getM M x.key) : Int)) = _
  omega
theorem delM_sum {M : Mp} (h : VldM M) {k : Int} (hg : M.garb + (szO (getM M k) : Int) ≤ 1099511627776) : (delM M k).live + (delM M k).garb = M.live + M.garb := by
  rw [delM_of h hg]
  show M.live - (szO (getM M k) : Int) + (M.garb + (szO (getM M k) : Int)) = _
  omega
theorem VldM.live0 {M : Mp} (h : VldM M) : 0 ≤ M.live := by
  have := h.lv; omega
theorem insM_len (M : Mp) (x : It) {n : Nat} (h : ∀ i, (M.st i).length ≤ n) (i : Nat) : ((insM M x).st i).length ≤ n + 1 := by
  unfold insM
  split
  · show (if i = strp x.key then ins (M.st i) x else M.st i).length ≤ n + 1
    have h1 := ins_length x (M.st i)
    have h2 := h i
    split <;> omega
  · have h2 := h i; omega
theorem delM_len (M : Mp) (k : Int) {n : Nat} (h : ∀ i, (M.st i).length ≤ n) (i : Nat) : ((delM M k).st i).length ≤ n := by
  unfold delM
  split
  · exact h i
  · split
    · show (if i = strp k then drp (M.st i) k else M.st i).length ≤ n
      have h1 := drp_length (M.st i) k
      have h2 := h i
      split <;> omega
    · exact h i
end Go.Proofs.Ytibddmnfplmonaa

namespace Go.Proofs.Ytibddmnfplmonaa
open Go.RowKit

def lawI (l : List It) : List It := (l.take 20).map mkIt
theorem lawI_length (l : List It) : (lawI l).length ≤ 20 := by
  unfold lawI; rw [List.length_map, List.length_take]; omega
theorem lawI_ok (l : List It) : ∀ x ∈ lawI l, okB x = true := fun x hx => by
  obtain ⟨y, _, rfl⟩ := List.mem_map.1 hx
  exact decide_eq_true (mkIt_ok y)
theorem lawI_snoc {l : List It} {i : Nat} (h : i < l.length) : (l.take (i + 1)).map mkIt = (l.take i).map mkIt ++ [mkIt (iat l i)] := by
  rw [take_snoc h, List.map_append]; rfl
end Go.Proofs.Ytibddmnfplmonaa

namespace Go.Proofs.Ytibddmnfplmonaa
open Go.RowKit

def M0 : Mp := ⟨fun _ => [], 0, 0⟩
def x0A : It := ⟨1, 0, 16, 0⟩
theorem d_live : (insM M0 x0A).live = 24 := by decide +kernel
theorem d_garb : (insM M0 x0A).garb = 0 := by decide +kernel
theorem d_live2 : (delM (insM M0 x0A) 1).live = 0 := by decide +kernel
theorem d_garb2 : (delM (insM M0 x0A) 1).garb = 24 := by decide +kernel
theorem d_s0 : strp 0 = 0 := by decide +kernel
theorem d_s1 : strp 1 = 4 := by decide +kernel
end Go.Proofs.Ytibddmnfplmonaa

namespace Go.Proofs.Ytibddmnfplmonaa

structure StM (M : Mp) (k S B : Nat) : Prop where
  v : VldM M
  sum : M.live + M.garb = (S : Int)
  le : S ≤ B
  len : ∀ j, (M.st j).length ≤ k
theorem StM.nil : StM M0 0 0 0 := ⟨VldM.nil, rfl, Nat.le_refl _, fun _ => Nat.le_refl _⟩
theorem StM.mono {M : Mp} {k S B B' : Nat} (h : StM M k S B) (hb : B ≤ B') : StM M k S B' := ⟨h.v, h.sum, Nat.le_trans h.le hb, h.len⟩
theorem StM.garb {M : Mp} {k S B : Nat} (h : StM M k S B) (hb : B ≤ 10000000) (o : Option It) : M.garb + (szO o : Int) ≤ 1099511627776 := by
  have h1 := h.v.live0
  have h2 := h.sum
  have h3 := h.le
  have h4 := szO_le o
  omega
theorem StM.put {M : Mp} {k S B : Nat} (h : StM M k S B) (hb : B ≤ 10000000) {x : It} (hx : okB x = true) : StM (insM M x) (k + 1) (S + lenO x) (B + 4127) := by
  have hg := h.garb hb (getM M x.key)
  refine ⟨h.v.ins hx hg, ?_, ?_, insM_len M x h.len⟩
  · rw [insM_sum h.v hx hg, h.sum]; omega
  · have := h.le
    have : lenO x ≤ 4127 := szN_le _
    omega
theorem StM.del {M : Mp} {k S B : Nat} (h : StM M k S B) (hb : B ≤ 10000000) (key : Int) : StM (delM M key) k S B := by
  have hg := h.garb hb (getM M key)
  exact ⟨h.v.del hg, by rw [delM_sum h.v hg, h.sum], h.le, delM_len M key h.len⟩
theorem StM.waste {M : Mp} {k S B : Nat} (h : StM M k S B) (hb : B ≤ 10000000) {n : Nat} (hn : n ≤ 65535) : StM (wasteM M (n : Int)) k (S + n) (B + 65535) := by
  have hg : M.garb + (n : Int) ≤ 1099511627776 := by
    have h1 := h.v.live0
    have h2 := h.sum
    have h3 := h.le
    omega
  refine ⟨h.v.waste (by omega) hg, ?_, ?_, ?_⟩
  · rw [wasteM_of h.v (by omega) hg]
    have := h.sum
    show M.live + (M.garb + (n : Int)) = _
    omega
  · have := h.le
    omega
  · rw [wasteM_of h.v (by omega) hg]; exact h.len
theorem cat_mem {f : Nat → List It} {x : It} : ∀ {n}, x ∈ cat f n → ∃ i, i < n ∧ x ∈ f i
  | 0, h => by cases h
  | n + 1, h => by
    rcases List.mem_append.1 (show x ∈ cat f n ++ f n from h) with h | h
    · obtain ⟨i, hi, h⟩ := cat_mem h
      exact ⟨i, by omega, h⟩
    · exact ⟨n, by omega, h⟩
theorem itemsM_of {M : Mp} (h : VldM M) : itemsM M = srt (allM M) := by unfold itemsM; rw [if_pos ((vldM_iff M).2 h)]
theorem itemsM_ok {M : Mp} (h : VldM M) : ∀ x ∈ itemsM M, okP x := by
  rw [itemsM_of h]
  refine srt_all fun x hx => ?_
  obtain ⟨i, hi, hx⟩ := cat_mem (show x ∈ cat M.st 8 from hx)
  exact (vldB_iff.1 (h.ok i hi)).2 x hx
theorem itemsM_sum {M : Mp} (h : VldM M) : (sumI (itemsM M) : Int) = M.live := by
  rw [itemsM_of h, h.sum, h.lv]
end Go.Proofs.Ytibddmnfplmonaa

namespace Go.Proofs.Ytibddmnfplmonaa

def fromM (l : List It) (g : Int) : Mp :=
  if l.all okB = true ∧ 0 ≤ g ∧ g ≤ 1099511627776 then ⟨fun i => inS i (srt l), (sumI (srt l) : Int), g⟩ else M0
theorem fromM_of {l : List It} {g : Int} (h : l.all okB = true) (h0 : 0 ≤ g) (h1 : g ≤ 1099511627776) : fromM l g = ⟨fun i => inS i (srt l), (sumI (srt l) : Int), g⟩ := if_pos ⟨h, h0, h1⟩
theorem fromM_no {l : List It} {g : Int} (h : ¬ (l.all okB = true ∧ 0 ≤ g ∧ g ≤ 1099511627776)) : fromM l g = M0 := if_neg h
theorem all_okP {l : List It} (h : l.all okB = true) : ∀ x ∈ l, okP x := fun x hx => by
  have := List.all_eq_true.1 h x hx
  unfold okB at this
  exact of_decide_eq_true this
theorem okP_all {l : List It} (h : ∀ x ∈ l, okP x) : l.all okB = true := List.all_eq_true.2 fun x hx => by
  unfold okB
  exact decide_eq_true (h x hx)
/-- What the stripes of a list hold together is the list. -/
theorem srt_cat_inS {T : List It} (h : Asc T) : srt (cat (fun i => inS i T) 8) = T := by
  refine asc_ext _ _ (pw_of (srt_asc _)) (pw_of h) fun k => ?_
  rw [fnd_cat _ k 8 fun i _ => ⟨(ascR_iff _).1 (pw_ascR (inS_asc i h)), inS_ok i T⟩, if_pos (strp_lt k), fnd_inS, if_pos rfl]
theorem sumI_cat_inS {T : List It} (h : Asc T) : sumI (cat (fun i => inS i T) 8) = sumI T := by
  rw [← sumI_cat _ 8 fun i _ => ⟨(ascR_iff _).1 (pw_ascR (inS_asc i h)), inS_ok i T⟩, srt_cat_inS h]
theorem inS_all {T : List It} (h : ∀ x ∈ T, okP x) (i : Nat) : ∀ x ∈ inS i T, okP x := fun x hx => h x (List.mem_filter.1 hx).1
theorem inS_len (i : Nat) (T : List It) : (inS i T).length ≤ T.length := List.length_filter_le _ _
theorem fromM_vld (l : List It) (g : Int) : VldM (fromM l g) := by
  by_cases h : l.all okB = true ∧ 0 ≤ g ∧ g ≤ 1099511627776
  · obtain ⟨h, h0, h1⟩ := h
    rw [fromM_of h h0 h1]
    refine ⟨fun i _ => ?_, fun i _ => inS_ok i _, ?_, h0, h1⟩
    · rw [vldB_iff]
      exact ⟨(ascR_iff _).1 (pw_ascR (inS_asc i (srt_asc l))), inS_all (srt_all (all_okP h)) i⟩
    · show (sumI (srt l) : Int) = (sumI (cat (fun i => inS i (srt l)) 8) : Int)
      rw [sumI_cat_inS (srt_asc l)]
  · rw [fromM_no h]; exact VldM.nil
theorem fromM_items {l : List It} {g : Int} (h : l.all okB = true) (h0 : 0 ≤ g) (h1 : g ≤ 1099511627776) : itemsM (fromM l g) = srt l := by
  rw [itemsM_of (fromM_vld l g), fromM_of h h0 h1]
  exact srt_cat_inS (srt_asc l)
theorem fromM_len (l : List It) (g : Int) (i : Nat) : ((fromM l g).st i).length ≤ l.length := by
  unfold fromM
  split
  · exact Nat.le_trans (inS_len _ _) (srt_length l)
  · exact Nat.zero_le _
/-! ### The reference's Put and Delete -/
def rputM (M : Mp) (x : It) : Mp :=
  if vldM M = true ∧ okB x = true ∧ M.garb + (szO (getM M x.key) : Int) ≤ 1099511627776 then fromM (ins (itemsM M) x) (M.garb + (szO (getM M x.key) : Int)) else M
def rdelM (M : Mp) (key : Int) : Mp :=
  match getM M key with
  | none => M
  | some y => if M.garb + (lenO y : Int) ≤ 1099511627776 then fromM (drp (itemsM M) key) (M.garb + (lenO y : Int)) else M
/-! ### Sameness -/
structure EqM (M N : Mp) : Prop where
  st : ∀ i, i < 8 → M.st i = N.st i
  l : M.live = N.live
  g : M.garb = N.garb
theorem EqM.refl (M : Mp) : EqM M M := ⟨fun _ _ => rfl, rfl, rfl⟩
theorem EqM.symm {M N : Mp} (h : EqM M N) : EqM N M := ⟨fun i hi => (h.st i hi).symm, h.l.symm, h.g.symm⟩
theorem EqM.trans {M N O : Mp} (h : EqM M N) (h' : EqM N O) : EqM M O := ⟨fun i hi => (h.st i hi).trans (h'.st i hi), h.l.trans h'.l, h.g.trans h'.g⟩
def sameM (M N : Mp) : Bool := (List.range 8).all (fun i => decide (M.st i = N.st i)) && (M.live == N.live) && (M.garb == N.garb)
theorem sameM_iff {M N : Mp} : sameM M N = true ↔ EqM M N := by
  unfold sameM
  rw [Bool.and_eq_true, Bool.and_eq_true, List.all_eq_true, beq_iff_eq, beq_iff_eq]
  exact ⟨fun ⟨⟨h1, h2⟩, h3⟩ => ⟨fun i hi => of_decide_eq_true (h1 i (List.mem_range.2 hi)), h2, h3⟩, fun h => ⟨⟨fun i hi => decide_eq_true (h.st i (List.mem_range.1 hi)), h.l⟩, h.g⟩⟩
theorem EqM.cat {M N : Mp} (h : EqM M N) : ∀ n, n ≤ 8 → cat M.st n = cat N.st n
  | 0, _ => rfl
  | n + 1, hn => by
    show Go.Proofs.Ytibddmnfplmonaa.cat M.st n ++ M.st n = Go.Proofs.Ytibddmnfplmonaa.cat N.st n ++ N.st n
    rw [h.cat n (by omega), h.st n (by omega)]
theorem EqM.all {M N : Mp} (h : EqM M N) : allM M = allM N := h.cat 8 (Nat.le_refl _)
theorem EqM.vld {M N : Mp} (h : EqM M N) (v : VldM M) : VldM N :=
  ⟨fun i hi => by rw [← h.st i hi]; exact v.ok i hi, fun i hi => by rw [← h.st i hi]; exact v.sp i hi, by rw [← h.l, ← h.all]; exact v.lv, by rw [← h.g]; exact v.g0, by rw [← h.g]; exact v.g1⟩
theorem EqM.vldM {M N : Mp} (h : EqM M N) : vldM M = vldM N := by
  rw [Bool.eq_iff_iff, vldM_iff, vldM_iff]
  exact ⟨h.vld, h.symm.vld⟩
theorem EqM.items {M N : Mp} (h : EqM M N) : itemsM M = itemsM N := by
  unfold itemsM
  rw [h.vldM, h.all]
theorem EqM.get {M N : Mp} (h : EqM M N) (key : Int) : getM M key = getM N key := by
  unfold getM
  rw [h.vldM, h.st _ (strp_lt key)]
theorem fromM_again {M : Mp} (h : VldM M) : EqM (fromM (itemsM M) M.garb) M := by
  rw [fromM_of (okP_all (itemsM_ok h)) h.g0 h.g1, srt_of_asc (itemsM_asc M)]
  refine ⟨fun i hi => ?_, itemsM_sum h, rfl⟩
  show Go.Proofs.Ytibddmnfplmonaa.inS i (itemsM M) = M.st i
  rw [itemsM_of h]
  exact h.inS hi
theorem put_same (M : Mp) (x : It) : EqM (insM M x) (rputM M x) := by
  by_cases hv : VldM M
  · have hv' := (vldM_iff M).2 hv
    by_cases hx : okB x = true
    · by_cases hg : M.garb + (szO (getM M x.key) : Int) ≤ 1099511627776
      · have hp := itemsM_ok hv
        have ha := itemsM_asc M
        have hfn : fnd (itemsM M) x.key = getM M x.key := by
          have := fnd_itemsM M x.key
          rwa [srt_of_asc ha] at this
        unfold rputM
        rw [if_pos ⟨hv', hx, hg⟩, insM_of hv hx hg]
        have h0 : 0 ≤ M.garb + (szO (getM M x.key) : Int) := by have := hv.g0; omega
        rw [fromM_of (okP_all (ins_all x (of_decide_eq_true hx) _ hp)) h0 hg, srt_of_asc (ins_ascA ha x)]
        refine ⟨fun i hi => ?_, ?_, rfl⟩
        · show updM M.st (strp x.key) (ins (M.st (strp x.key)) x) i = Go.Proofs.Ytibddmnfplmonaa.inS i (ins (itemsM M) x)
          rw [inS_ins ha, itemsM_of hv, hv.inS hi]
          unfold updM
          by_cases e : i = strp x.key
          · rw [if_pos e, if_pos e.symm, e]
          · rw [if_neg e, if_neg (Ne.symm e)]
        · show M.live + (lenO x : Int) - (szO (getM M x.key) : Int) = (sumI (ins (itemsM M) x) : Int)
          have h1 := sumI_put x (itemsM M) ha
          rw [hfn] at h1
          have h2 := itemsM_sum hv
          unfold lenO
          omega
      · unfold rputM insM
        rw [if_neg (fun h => hg (by rw [getM_of hv]; exact h.2.2)), if_neg (fun h => hg h.2.2)]
        exact .refl M
    · unfold rputM insM
      rw [if_neg (fun h => hx h.2.1), if_neg (fun h => hx h.2.1)]
      exact .refl M
  · unfold rputM insM
    rw [if_neg (fun h => hv ((vldM_iff M).1 h.1)), if_neg (fun h => hv ((vldM_iff M).1 h.1))]
    exact .refl M
theorem del_same (M : Mp) (key : Int) : EqM (delM M key) (rdelM M key) := by
  unfold delM rdelM
  cases hgo : getM M key with
  | none => exact .refl M
  | some y =>
    have hv : VldM M := (vldM_iff M).1 (getM_some hgo).1
    show EqM (if M.garb + (lenO y : Int) ≤ 1099511627776 then _ else M) (if M.garb + (lenO y : Int) ≤ 1099511627776 then _ else M)
    by_cases hg : M.garb + (lenO y : Int) ≤ 1099511627776
    · rw [if_pos hg, if_pos hg]
      have ha := itemsM_asc M
      have hfn : fnd (itemsM M) key = getM M key := by
        have := fnd_itemsM M key
        rwa [srt_of_asc ha] at this
      have h0 : 0 ≤ M.garb + (lenO y : Int) := by have := hv.g0; omega
      rw [fromM_of (l := drp (itemsM M) key) (okP_all fun x hx => itemsM_ok hv x (List.mem_filter.1 hx).1) h0 hg, srt_of_asc (drp_asc ha key)]
      refine ⟨fun i hi => ?_, ?_, rfl⟩
      · show (if i = strp key then drp (M.st i) key else M.st i) = Go.Proofs.Ytibddmnfplmonaa.inS i (drp (itemsM M) key)
        rw [inS_drp ha, itemsM_of hv, hv.inS hi]
        by_cases e : i = strp key
        · rw [if_pos e, if_pos e.symm]
        · rw [if_neg e, if_neg (Ne.symm e)]
      · show M.live - (lenO y : Int) = (sumI (drp (itemsM M) key) : Int)
        have h1 := sumI_drp key (itemsM M) ha
        rw [hfn, hgo] at h1
        have h2 := itemsM_sum hv
        have h3 : szO (some y) = lenO y := rfl
        omega
    · rw [if_neg hg, if_neg hg]
      exact .refl M
end Go.Proofs.Ytibddmnfplmonaa

namespace Go.Proofs.Ytibddmnfplmonaa
open Go.RowKit

theorem step_appAt {P : Program} {w : World} {ops : Array Oper} {o : Oper} {a : Act} {K : Act → World → Prop} {Q : Exit → Act → World → Prop} {E : Prop} (hgd : o.guard = none) (s x : Operand) (t : TypeId)
    (ho : o.op = .call { callee := .builtin .append, args := #[s, x], argTypes := #[t, t] })
    {e : TypeId} {sz bytes : Nat} (hE : ElemT P t e sz bytes) (base : Nat)
    {v : Value} {n : Nat} {xs : List Value} (hs : a.eval s = v) (hown : w.ownsRow base e sz v n xs) {ad : Addr} {m c : Nat} {news : List Value} (hx : a.eval x = .slice (some ad) m c)
    (hl : news.length = m * sz) (hnews : ∀ j u, news[j]? = some u → w.cell? (ad.add j) = some u)
    (h1 : ∀ u ∈ news, u.oneCell' = true) (h63 : n + m ≤ maxLen) (hbytes : (n + m) * bytes ≤ 140737488355328) (hbase : base ≤ w.heap.size)
    (h : ∀ v' w', w'.ownsRow base e sz v' (n + m) (xs ++ news) → w.grownBy w' v.ownBlock → (v'.ownBlock = v.ownBlock ∨ v'.ownBlock = some w.heap.size) → K (a.put o.dst v') w') :
    if Region.wanted o (yielded ops a.tmps) = true then Oper.wp P o a w K Q else E := by
  have hw : Region.wanted o (yielded ops a.tmps) = true := by simp [Region.wanted, hgd]
  rw [if_pos hw]
  obtain ⟨ht, hsz, i, z, hi, hz, hs', hby, hzs⟩ := hE
  obtain ⟨v', w', hrun, r1, r2, _, r4⟩ := run_append_own_at (P := P) w base t o.type e i z sz bytes ht hi hz hs' hby hzs hsz v n xs hown ad m c news hl hnews h1 h63 hbytes hbase
  unfold Oper.wp
  simp [execOp, ho, resolve, invoke, builtin, hs, hx, hrun, Result.andThen]
  exact h v' w' r1 r2 r4
theorem news_box (W : World) (x : It) (k : Nat) (hk : W.heap.size = k) : ∀ j u, (itC x)[j]? = some u → (W.alloc (boxC x)).drew.cell? ((⟨k, 0, none⟩ : Addr).add j) = some u := by
  subst hk
  intro j u hj
  rw [addr_add, Nat.zero_add]
  show (W.alloc (boxC x)).cell? _ = some u
  rw [cell_of_row _ _ j _ _ (0, 0) (heap_alloc_new W _)]
  rw [← Array.getElem?_toList]; exact hj
/-- No two stripes share a block. -/
def ApM (s : Sl) : Prop := ∀ i j, i < 8 → j < 8 → i ≠ j → (s.v i).ownBlock = none ∨ (s.v i).ownBlock ≠ (s.v j).ownBlock
theorem ApM.nil : ApM Sl.nil := fun _ _ _ _ _ => .inl rfl
theorem BoxM.grown {W W' : World} {b : Nat} {s : Sl} {l g : Int} {row : Option Nat} (h : BoxM W b s l g) (hg : W.grownBy W' row) (hne : row ≠ some b) : BoxM W' b s l g := by
  have hn : ∀ i, some (⟨b, i, none⟩ : Addr).block ≠ row := fun i e => hne e.symm
  refine ⟨fun j hj => hg.cell (h.c j hj) (hn j), hg.cell h.cl (hn 8), hg.cell h.cg (hn 9), fun i => ?_⟩
  rw [World.frozen?_of_block (w := W) (hg.block b h.lt (hn 0))]
  exact h.f i
theorem own_row_ge {w : World} {B : Nat} {e : TypeId} {sz n : Nat} {v : Value} {xs : List Value} (h : w.ownsRow B e sz v n xs) {b : Nat} (hb : b < B) : v.ownBlock ≠ some b := fun e => by
  have := (h.lt b e).1; omega
theorem appM {w w4 : World} {bm B k : Nat} {s : Sl} {f : Nat → List It} {x : It} {va : Option Addr} {n vc : Nat} (ho : OwnM w B s f) (hd : ApM s) (hk : k < 8) (hbm : bm < B)
    (hown : w4.ownsRow B 35 4 (.slice va n vc) n (itsC (f k ++ [x]))) (hg : w.grownBy w4 (s.v k).ownBlock) (hat : (Value.slice va n vc).ownBlock = (s.v k).ownBlock ∨ (Value.slice va n vc).ownBlock = some w.heap.size) :
    OwnM (w4.setCell ⟨bm, k, none⟩ (.slice va n vc)) B (s.set k va n vc) (fun i => if i = k then f k ++ [x] else f i) ∧ ApM (s.set k va n vc) := by
  have hlt : ∀ i, i < 8 → ∀ g, (s.v i).ownBlock = some g → g < w.heap.size := fun i hi g hg => ((ho i hi).lt g hg).2
  constructor
  · intro i hi
    show OwnT _ B ((s.set k va n vc).v i) (if i = k then f k ++ [x] else f i)
    rw [Sl.set_v]
    by_cases e : i = k
    · rw [if_pos e, if_pos e]
      exact ownT_of (own_set_lo hown (p := ⟨bm, k, none⟩) hbm _) rfl
    · rw [if_neg e, if_neg e]
      exact own_set_lo (World.ownsRow.kept (ho i hi) hg (hd i k hi hk e)) (p := ⟨bm, k, none⟩) hbm _
  · intro i j hi hj hij
    rw [Sl.set_v, Sl.set_v]
    by_cases e : i = k
    · subst e
      rw [if_pos rfl, if_neg (Ne.symm hij)]
      rcases hat with hat | hat
      · rw [hat]; exact hd i j hi hj hij
      · rw [hat]
        refine .inr fun h2 => ?_
        have := hlt j hj _ h2.symm
        omega
    · rw [if_neg e]
      by_cases e2 : j = k
      · subst e2
        rw [if_pos rfl]
        rcases hat with hat | hat
        · rw [hat]; exact hd i j hi hj hij
        · rw [hat]
          cases hv : (s.v i).ownBlock with
          | none => exact .inl rfl
          | some g =>
            refine .inr fun h2 => ?_
            injection h2 with h2
            have := hlt i hi g hv
            omega
      · rw [if_neg e2]; exact hd i j hi hj hij
/-- One round of making a map: what it does to all that the round carries. -/
theorem fromStep {w0 w w4 : World} {B0 bR bm B2 B3 k : Nat} {s : Sl} {f : Nat → List It} {x : It} {va : Option Addr} {n vc : Nat} {v3 : Value} {T : List It} {L G : Int}
    (hR : BoxM w bR Sl.nil 0 0) (hM : BoxM w bm s L G) (hO : OwnM w B3 s f) (hA : ApM s) (hT : OwnT w B2 v3 T) (hb : Below B0 w0 w) (h0 : B0 ≤ bm) (h1 : bR < bm) (h2 : bm < B2) (h3 : B2 ≤ B3) (hB3 : B3 ≤ w.heap.size)
    (hTl : ∀ g, v3.ownBlock = some g → g < B3) (hk : k < 8) (hown : w4.ownsRow B3 35 4 (.slice va n vc) n (itsC (f k ++ [x]))) (hg : w.grownBy w4 (s.v k).ownBlock)
    (hat : (Value.slice va n vc).ownBlock = (s.v k).ownBlock ∨ (Value.slice va n vc).ownBlock = some w.heap.size) :
    BoxM (w4.setCell ⟨bm, k, none⟩ (.slice va n vc)) bR Sl.nil 0 0 ∧ BoxM (w4.setCell ⟨bm, k, none⟩ (.slice va n vc)) bm (s.set k va n vc) L G ∧
      OwnM (w4.setCell ⟨bm, k, none⟩ (.slice va n vc)) B3 (s.set k va n vc) (fun i => if i = k then f k ++ [x] else f i) ∧ ApM (s.set k va n vc) ∧
      OwnT (w4.setCell ⟨bm, k, none⟩ (.slice va n vc)) B2 v3 T ∧ Below B0 w0 (w4.setCell ⟨bm, k, none⟩ (.slice va n vc)) := by
  have hok := hO k hk
  have hap := appM hO hA hk (show bm < B3 by omega) hown hg hat
  refine ⟨(hR.grown hg (own_row_ge hok (by omega))).set_ne (p := ⟨bm, k, none⟩) (show bm ≠ bR by omega) _, (hM.grown hg (own_row_ge hok (by omega))).setS hk _ _ _, hap.1, hap.2, ?_, ?_⟩
  · refine own_set_lo (World.ownsRow.kept hT hg ?_) (p := ⟨bm, k, none⟩) h2 _
    cases hv : v3.ownBlock with
    | none => exact .inl rfl
    | some g =>
      refine .inr fun e => ?_
      have h4 := hTl g hv
      have h5 := (World.ownsRow.lt hok g e.symm).1
      omega
  · exact (own_below hb (World.ownsRow.mono hok (show B0 ≤ B3 by omega)) (by omega) hg).setCell (p := ⟨bm, k, none⟩) h0 _
end Go.Proofs.Ytibddmnfplmonaa
