/- A part of the walk. -/
import Derived.Test.YtcgfilmmokmdjaaGreatQAC
import Derived.Lib.AppendZerosOnto
import Derived.Lib.Overlaps
import Derived.Test.YtcgfilmmokmdjaaGreatQAE
import Derived.Lib.AppendZeros
set_option linter.all false
set_option maxRecDepth 100000
set_option maxHeartbeats 32000000
namespace Go.Proofs.YtcgfilmmokmdjaaGreat
open Go.RowKit
theorem qg {P : Program} {dT sT elem : TypeId} {sz bytes : Nat} (hE : xe P dT elem sz bytes) {w : World} {base : Nat} {e : TypeId} {n cap g : Nat} {xs : List Value} (h : w.ownsRow base e sz (.slice (some ⟨g, 0, none⟩) n cap) n xs)
  {sa : Option Addr} {m sc : Nat} {news : List Value} (hs : Rd w sz (.slice sa m sc) m news) (o dl dc k : Nat) (hk : k = Nat.min m dl) (h0 : 0 < k) (hsz : 0 < sz) (ho : o + k ≤ n) (h1 : ∀ u ∈ news.take (k * sz), u.oneCell' = true) :
  ∃ w', (∀ ty, (Builtin.copy_ #[dT, sT] ty #[.slice (some ⟨g, o * sz, none⟩) dl dc, .slice sa m sc]).run P w = .ok (.int .i64 (k : Int)) w') ∧
   w'.ownsRow base e sz (.slice (some ⟨g, 0, none⟩) n cap) n (xs.take (o * sz) ++ news.take (k * sz) ++ xs.drop (o * sz + k * sz)) ∧ w.grownBy w' (some g) := by
 obtain ⟨hl, a', cap', e1, _, _, _, hc⟩ := hs;injection e1 with e1 e2 e3;subst e1 e3;have hkm : k ≤ m := by rw [hk]; exact Nat.min_le_left _ _
 have hlk : (news.take (k * sz)).length = k * sz := by rw [List.length_take, hl]; exact Nat.min_eq_left (Nat.mul_le_mul_right _ hkm)
 have hp : 0 < news.length := by rw [hl]; exact Nat.mul_pos (by omega) hsz
 obtain ⟨b, off, e4, hcell⟩ := hc hp;subst e4;obtain ⟨w', hrun, hown, hgr⟩ := tH (P := P) h (o * sz) (news.take (k * sz)) (by rw [hlk, ← Nat.add_mul]; exact Nat.mul_le_mul_right _ ho) h1;rw [hlk] at hown;refine ⟨w', fun ty => ?_, hown, hgr⟩
 have hf := run_firstCells_some (P := P) (w := w) sz k ⟨b, off, none⟩ m sc (news.take (k * sz)) hlk (fun j v hj => by
  rw [yJ]
  refine hcell j v ?_
  rw [List.getElem?_take] at hj
  split at hj
  ·
   exact hj
  cases hj)
 obtain ⟨ht, hZ⟩ := wI hE;simp [Builtin.copy_, run_underlying ht, Builtin.lenOf, hZ, ← hk, hf, hrun, goInt]
theorem zDP {w : World} {base : Nat} {e : TypeId} {sz n cap g : Nat} {xs : List Value} (h : w.ownsRow base e sz (.slice (some ⟨g, 0, none⟩) n cap) n xs) (k : Nat) (hk : n + k ≤ cap) :
  ∃ ys, ys.length = k * sz ∧ w.ownsRow base e sz (.slice (some ⟨g, 0, none⟩) (n + k) cap) (n + k) (xs ++ ys) := by
 have hx := h.1;rcases h.2 with ⟨h', _⟩ | ⟨g', cap', cur, h', hb, hg, hnc, hcm, hcs, htake⟩
 ·
  cases h'
 injection h' with h' _ h'';injection h' with h';injection h' with h' _;subst h' h'';have hN : (n + k) * sz ≤ cur.toList.length := by rw [Array.length_toList, hcs]; exact Nat.mul_le_mul_right _ hk
 rw [Nat.add_mul] at hN;refine ⟨(cur.toList.drop (n * sz)).take (k * sz), by rw [List.length_take, List.length_drop]; omega, ?_, .inr ⟨g, cap, cur, rfl, hb, hg, hk, hcm, hcs, ?_⟩⟩
 ·
  rw [List.length_append, hx, List.length_take, List.length_drop, Nat.add_mul]; omega
 rw [Nat.add_mul, List.take_add, htake]
theorem tN {P : Program} {t e : TypeId} {sz bytes : Nat} (hE : xe P t e sz bytes) (g n cap k : Nat) (hk : k ≤ n) (hc : k < cap) :
  ∀ W kl, (Instr.slice t (.slice (some ⟨g, 0, none⟩) n cap) (some (.int kl (k : Int))) none none).run P W = .ok (.slice (some ⟨g, k * sz, none⟩) (n - k) (cap - k)) W := by
 obtain ⟨h1, h2⟩ := wI hE;intro W kl;rw [run_slice_l W t (some ⟨g, 0, none⟩) n cap h1 kl (k : Int) (by omega) (by omega), h2];have : cap ≠ k := by omega
 simp [Result.andThen, sliced, this, yJ]
theorem zGk {w : World} {B : Nat} {a : Option Addr} {n cap : Nat} {xs : List Value} (h : w.ownsRow B 49 4 (.slice a n cap) n xs) (i k : Nat) (hi : i ≤ n) (h0 : 0 < n) (hk : cap < i + k) (hs : i + k ≤ 1000001) :
  ∃ w' c', (∀ ty, (Builtin.append_ #[33, 3] ty #[.slice a i cap, .int .i64 (k : Int)]).run Tryz.prog w = .ok (.slice (some ⟨w.heap.size, 0, none⟩) (i + k) c') w') ∧
   w'.ownsRow w.heap.size 49 4 (.slice (some ⟨w.heap.size, 0, none⟩) (i + k) c') (i + k) (xs.take (i * 4) ++ zL (List.replicate k it0)) ∧ Below w.heap.size w w' ∧ c' ≤ maxLen := by
 obtain ⟨x, hx⟩ : ∃ x, Tryz.prog.info? 49 = some x := by
  cases hq : Tryz.prog.info? 49 with
  | none => have := zA4; rw [hq] at this; cases this
  | some x => exact ⟨x, rfl⟩
 have hI := zA4;rw [hx] at hI;injection hI with hI;injection hI with hz hI;injection hI with hs4 hb32;have hz : x.zero = some (itV it0) := hz;have hcap : 0 < cap := by
  rcases h.2 with ⟨e, _⟩ | ⟨g, c, _, e, _, _, hnc, _⟩
  ·
   injection e with _ e2 _; omega
  injection e with _ _ e3; omega
 obtain ⟨hl0, a', cap', e1, _, _, _, hc⟩ := zv h;injection e1 with e1 e2 e3;subst e1 e3;have hl : (xs.take (i * 4)).length = i * 4 := by rw [List.length_take, hl0]; exact Nat.min_eq_left (Nat.mul_le_mul_right _ hi)
 have hold : (Builtin.firstCells x.size i (.slice a i cap)).run Tryz.prog w.drew = .ok (xs.take (i * 4)).toArray w.drew := by
  obtain ⟨b, off, e4, hcell⟩ := hc (by rw [hl0]; omega);subst e4;rw [hs4];refine run_firstCells_some (P := Tryz.prog) (w := w.drew) 4 i ⟨b, off, none⟩ i cap _ hl (fun j v hj => ?_);rw [yJ];refine hcell j v ?_;rw [List.getElem?_take] at hj
  split at hj
  ·
   exact hj
  cases hj
 have hnb : Builtin.nextslicecap (i + k) cap * x.bytes ≤ 281474976710656 := growslice_fits hk (by rw [hb32]; omega);have hr : ∀ ty, _ := fun ty => Lib.run_append_grow_zeros (P := Tryz.prog) w 33 3 ty 49 x (itV it0) .i64 .i64 Tryz.underlying33 Tryz.underlying3 hx hz a i cap (xs.take (i * 4)) hold k (by omega) (by rw [hs4]; decide) hk (by omega) (by rw [hb32]; omega) hnb
 refine ⟨_, _, hr, ?_, (Below.drew (Below.refl _ _)).alloc (Nat.le_refl _) _, grownCap_le_maxLen w (i + k) cap _ (by unfold maxLen; omega)⟩;have hge := grownCap_ge w (i + k) cap 49;have hcm : grownCap w (i + k) cap 49 ≤ maxLen := grownCap_le_maxLen w (i + k) cap _ (by unfold maxLen; omega);have hzl : (zL (List.replicate k it0)).length = k * 4 := by rw [yB, List.length_replicate]
 have hlen : (xs.take (i * 4) ++ zL (List.replicate k it0)).length = (i + k) * 4 := by rw [List.length_append, hl, hzl, Nat.add_mul]
 refine ⟨hlen, .inr ⟨w.heap.size, _, _, rfl, Nat.le_refl _, heap_alloc_new w.drew _, hge, hcm, ?_, ?_⟩⟩
 ·
  have z4 : (itV it0).cells.size = 4 := rfl;simp only [Array.size_append, List.size_toArray, size_zeroCells, z4, hl, ← Nat.add_mul];rw [show i + k + (grownCap w (i + k) cap 49 - (i + k)) = grownCap w (i + k) cap 49 from by omega]
 simp only [Array.toList_append];rw [vZ, ← hlen];exact List.take_left
theorem zHX {xs z c : List Value} {n i : Nat} (hi : i ≤ n) (hx : xs.length = n * 4) (hz : z.length = (n + 1 - i) * 4) (hc : c.length = 4) :
  ((xs.take (i * 4) ++ z).take (i * 4) ++ c ++ (xs.take (i * 4) ++ z).drop (i * 4 + 4)).take ((i + 1) * 4) ++ xs.drop (i * 4) ++ ((xs.take (i * 4) ++ z).take (i * 4) ++ c ++ (xs.take (i * 4) ++ z).drop (i * 4 + 4)).drop ((i + 1) * 4 + (n - i) * 4) = xs.take (i * 4) ++ c ++ xs.drop (i * 4) := by
 have hl : (xs.take (i * 4)).length = i * 4 := by rw [List.length_take, hx]; omega
 have e1 : (xs.take (i * 4) ++ z).take (i * 4) = xs.take (i * 4) := List.take_left' hl;have e2 : (xs.take (i * 4) ++ z).drop (i * 4 + 4) = z.drop 4 := by rw [← List.drop_drop, List.drop_left' hl]
 have l2 : (xs.take (i * 4) ++ c).length = (i + 1) * 4 := by rw [List.length_append, hl, hc]; omega
 have e3 : (xs.take (i * 4) ++ c ++ z.drop 4).drop ((i + 1) * 4 + (n - i) * 4) = [] := List.drop_of_length_le (by rw [List.length_append, l2, List.length_drop, hz]; omega);rw [e1, e2, List.take_left' l2, e3, List.append_nil]
theorem zGx {xs ys c : List Value} {n i : Nat} (hi : i ≤ n) (hx : xs.length = n * 4) (hy : ys.length = 4) :
  ((xs ++ ys).take ((i + 1) * 4) ++ ((xs ++ ys).drop (i * 4)).take ((n - i) * 4) ++ (xs ++ ys).drop ((i + 1) * 4 + (n - i) * 4)).take (i * 4) ++ c ++ ((xs ++ ys).take ((i + 1) * 4) ++ ((xs ++ ys).drop (i * 4)).take ((n - i) * 4) ++ (xs ++ ys).drop ((i + 1) * 4 + (n - i) * 4)).drop (i * 4 + 4) = xs.take (i * 4) ++ c ++ xs.drop (i * 4) := by
 have ld : (xs.drop (i * 4)).length = (n - i) * 4 := by rw [List.length_drop, hx]; omega
 have e1 : ((xs ++ ys).drop (i * 4)).take ((n - i) * 4) = xs.drop (i * 4) := by
  rw [List.drop_append_of_le_length (by omega), List.take_left' ld]
 have e2 : (xs ++ ys).drop ((i + 1) * 4 + (n - i) * 4) = [] := List.drop_of_length_le (by rw [List.length_append, hx, hy]; omega);have l3 : ((xs ++ ys).take ((i + 1) * 4)).length = (i + 1) * 4 := by rw [List.length_take, List.length_append, hx, hy]; omega
 rw [e1, e2, List.append_nil];have e3 : ((xs ++ ys).take ((i + 1) * 4) ++ xs.drop (i * 4)).take (i * 4) = xs.take (i * 4) := by
  rw [List.take_append_of_le_length (by omega), List.take_take, Nat.min_eq_left (by omega), List.take_append_of_le_length (by omega)]
 have e4 : ((xs ++ ys).take ((i + 1) * 4) ++ xs.drop (i * 4)).drop (i * 4 + 4) = xs.drop (i * 4) := List.drop_left' (by rw [l3]; omega);rw [e3, e4]
theorem zHJ {w : World} {B g n cap : Nat} {xs : List Value} (h : w.ownsRow B 49 4 (.slice (some ⟨g, 0, none⟩) n cap) n xs) (i : Nat) (hi : i < n) :
  ∃ w', (∀ ty c, (Builtin.clear_ #[33] ty #[.slice (some ⟨g, i * 4, none⟩) (n - i) c]).run Tryz.prog w = .ok (.tuple #[]) w') ∧ w'.ownsRow B 49 4 (.slice (some ⟨g, 0, none⟩) n cap) n (xs.take (i * 4) ++ zL (List.replicate (n - i) it0)) ∧ w.grownBy w' (some g) := by
 have hl : xs.length = n * 4 := h.1;obtain ⟨w', h1, h2, h3⟩ := tH (P := Tryz.prog) h (i * 4) (zL (List.replicate (n - i) it0)) (by rw [yB, List.length_replicate]; omega) (zl _);refine ⟨w', fun ty c => ?_, ?_, h3⟩
 ·
  obtain ⟨m, hm⟩ : ∃ m, n - i = m + 1 := ⟨n - i - 1, by omega⟩
  rw [hm] at h1 ⊢;simp only [Builtin.clear_];simp [run_underlying Tryz.underlying33];have hz := vZ (m + 1);simp only [itV, it0] at hz;rw [hz, show zL (List.replicate (m + 1) ⟨0, 0, 0, 0⟩) = zL (List.replicate (m + 1) it0) from rfl, h1]
  rfl
 rw [List.drop_of_length_le (by rw [yB, List.length_replicate]; omega), List.append_nil] at h2;exact h2
theorem zHj {w : World} {B g n cap : Nat} {xs : List Value} (h : w.ownsRow B 49 4 (.slice (some ⟨g, 0, none⟩) n cap) n xs) {sa : Addr} {m sc : Nat} {news : List Value} (hs : Rd w 4 (.slice (some sa) m sc) m news) (h1 : ∀ u ∈ news, u.oneCell' = true) (hr : n + m ≤ cap) :
  ∃ w', (∀ ty, (Builtin.append_ #[33, 33] ty #[.slice (some ⟨g, 0, none⟩) n cap, .slice (some sa) m sc]).run Tryz.prog w = .ok (.slice (some ⟨g, 0, none⟩) (n + m) cap) w') ∧ w'.ownsRow B 49 4 (.slice (some ⟨g, 0, none⟩) (n + m) cap) (n + m) (xs ++ news) ∧ w.grownBy w' (some g) := by
 obtain ⟨x, hx⟩ : ∃ x, Tryz.prog.info? 49 = some x := by
  cases hq : Tryz.prog.info? 49 with
  | none => have := zA4; rw [hq] at this; cases this
  | some x => exact ⟨x, rfl⟩
 have hI := zA4;rw [hx] at hI;injection hI with hI;injection hI with _ hI;injection hI with hs4 _;have hs4 : x.size = 4 := hs4;obtain ⟨hl, a', cap', e1, _, _, _, hc⟩ := hs;injection e1 with e1 e2 e3;subst e3;have hnews : ∀ j u, news[j]? = some u → w.cell? (sa.add j) = some u := fun j u hj => by
  have hp : 0 < news.length := by have := (List.getElem?_eq_some_iff.1 hj).1; omega
  obtain ⟨b, off, e4, hcell⟩ := hc hp;rw [← e1] at e4;obtain rfl := Option.some.inj e4;rw [yJ]; exact hcell j u hj
 rcases h.2 with ⟨h', _⟩ | ⟨g', c2, cur, h', hb, hg, hnc, hcm, hcs, htake⟩
 ·
  cases h'
 injection h' with h' _ h'';injection h' with h';injection h' with h' _;subst h' h'';have hx1 := h.1;have hfit : n * 4 + news.length ≤ cur.size := by rw [hl, hcs]; omega
 refine ⟨_, fun ty => run_append_room (P := Tryz.prog) w 33 ty 49 x Tryz.underlying33 hx g n cap cur hg sa m sc news (by rw [hs4]; exact hl) hnews h1 hr (by rw [hs4]; exact hfit), ⟨?_, .inr ⟨g, cap, _, rfl, hb, setRow_heap w g cur _ _ _ hg, hr, hcm, ?_, ?_⟩⟩, ⟨rfl, rfl, rfl, by simp, fun k _ hk => setRow_other w g k _ (fun e => hk (by rw [e]))⟩⟩
 ·
  rw [List.length_append, hx1, hl, Nat.add_mul]
 ·
  rw [hs4];simp only [List.size_toArray, List.length_append, List.length_take, List.length_drop, Array.length_toList];omega
 rw [hs4, htake];have : (xs ++ news).length = (n + m) * 4 := by rw [List.length_append, hx1, hl, Nat.add_mul]
 rw [← this];exact List.take_left
theorem zFQ (w : World) (n : Nat) (h0 : 0 < n) (hn : n ≤ 1000000) :
  ∃ w' c, (∀ ty, (Builtin.append_ #[33, 3] ty #[.slice none 0 0, .int .i64 (n : Int)]).run Tryz.prog w = .ok (.slice (some ⟨w.heap.size, 0, none⟩) n c) w') ∧
   w'.ownsRow w.heap.size 49 4 (.slice (some ⟨w.heap.size, 0, none⟩) 0 c) 0 [] ∧ Below w.heap.size w w' ∧ n ≤ c ∧ c ≤ maxLen := by
 obtain ⟨x, hx⟩ : ∃ x, Tryz.prog.info? 49 = some x := by
  cases hq : Tryz.prog.info? 49 with
  | none => have := zA4; rw [hq] at this; cases this
  | some x => exact ⟨x, rfl⟩
 have hI := zA4;rw [hx] at hI;injection hI with hI;injection hI with hz hI;injection hI with hs4 hb32;have hz : x.zero = some (itV it0) := hz;have hr : ∀ ty, _ := fun ty => Lib.run_append_nil_zeros (P := Tryz.prog) w 33 3 ty 49 x (itV it0) .i64 .i64 Tryz.underlying33 Tryz.underlying3 hx hz n h0 (by rw [hs4]; decide) (by omega) (by rw [hb32]; omega)
 have hge := grownCap_ge w n 0 49;have hcm : grownCap w n 0 49 ≤ maxLen := grownCap_le_maxLen w n 0 _ (by unfold maxLen; omega);refine ⟨_, _, hr, ⟨rfl, .inr ⟨w.heap.size, _, _, rfl, Nat.le_refl _, heap_alloc_new w.drew _, Nat.zero_le _, hcm, ?_, by simp⟩⟩, (Below.drew (Below.refl _ _)).alloc (Nat.le_refl _) _, hge, hcm⟩;have z4 : (itV it0).cells.size = 4 := rfl;simp only [Array.size_append, size_zeroCells, z4, ← Nat.add_mul];rw [show n + (grownCap w n 0 49 - n) = grownCap w n 0 49 from by omega]
theorem zJE (n : Nat) (hn : n ≤ 1000000) (w : World) :
  Calls Tryz.prog 172 #[.slice none 0 0, .int .i64 (n : Int)] w fun e w' => ∃ v', e = .returned v' ∧ OwnT w' w.heap.size v' [] ∧ Below w.heap.size w w' := by
 have hneg : decide ((n : Int) < 0) = false := by simp
 by_cases h0 : n = 0
 ·
  subst h0
  go_enter Tryz.func172, Tryz.ntmps172
  go_wp2_with fail;go_ret;exact ⟨_, rfl, World.ownsRow_nil _ _ _ _, Below.refl _ _⟩
 have hp : decide ((0 : Int) < (n : Int)) = true := by simp; omega
 obtain ⟨w1, c, hrun, hown, hb, hnc, hcm⟩ := zFQ w n (by omega) hn;have h1 := yU (P := Tryz.prog) yA (a := some ⟨w.heap.size, 0, none⟩) (n := n) (cap := c) (fun x hx => ⟨w.heap.size, 0, (Option.some.inj hx).symm⟩) 0 (Nat.zero_le _);have h2 : ∀ W kh, (Instr.slice 33 (.slice none 0 0) none (some (.int kh ((0 : Nat) : Int))) none).run Tryz.prog W = .ok (.slice none 0 0) W := yU (P := Tryz.prog) yA (a := none) (n := 0) (cap := 0) (fun x hx => by cases hx) 0 (Nat.le_refl _);rw [show ((0 : Nat) : Int) = 0 from rfl] at h1 h2;have HO := zh hown;have HB := zh hb;have j1 : IntKind.i64.wrap ((n : Int) - 0) = (n : Int) := (IntWalk.i64_in _ (by omega)).trans (by omega);clear hown hb
 go_enter Tryz.func172, Tryz.ntmps172
 go_wp2_with (at_builtin; refine Lib.wpList_append_run _ rfl (.tmp 20) (.tmp 21) _ _ rfl _ _ rfl rfl _ _ (hrun _) ?_);go_ret;exact ⟨_, rfl, HO.out, HB.out⟩
theorem zCY (f : Nat → List It) (n : Nat) : (cat f (n + 1)).length = (cat f n).length + (f n).length := by
 show (cat f n ++ f n).length = _
 rw [List.length_append]
theorem zD3 (f : Nat → List It) : ∀ d n, (cat f n).length ≤ (cat f (n + d)).length
 | 0, _ => Nat.le_refl _
 | d + 1, n => by
  have := zD3 f d n;rw [show n + (d + 1) = (n + d) + 1 by omega, zCY];omega
theorem zFE (b : Nat) (s : Sl) (L G : Int) (f : Nat → List It) (w : World) (hx : BoxM w b s L G) (h : RdM w s f) (hs : (cat f 8).length ≤ 1000000) :
  Calls Tryz.prog 133 #[.slice (some ⟨b, 0, none⟩) 8 8] w fun e w' => ∃ v', e = .returned v' ∧ OwnT w' w.heap.size v' (cat f 8) ∧ Below w.heap.size w w' := by
 have HX := zh hx;have HR := zh h;have HL := zh (fun i (hi : i < 8) => h.n hi);have HC := zh (fun n => zCY f n)
 have HM := zh (fun n (hn : n ≤ 8) => show (cat f n).length ≤ 1000000 from by
  have := zD3 f (8 - n) n
  rw [show n + (8 - n) = 8 by omega] at this
  omega)
 have HG := zh (fun n hn W => zJE n hn W);have HE := zh (fun i => show cat f (i + 1) = cat f i ++ f i from rfl);clear hx h hs
 go_enter Tryz.func133, Tryz.ntmps133
 go_wp2_with fail
 go_loopw [3, 11] (fun lv iv W => ∃ i : Nat, iv = .int .i64 (i : Int) ∧ i ≤ 8 ∧ lv = .int .i64 ((cat f i).length : Int) ∧ w = W) (fun _ iv _ => 8 - (intOf iv).toNat)
 case atStart => exact ⟨0, rfl, Nat.zero_le _, rfl, rfl⟩
 obtain ⟨i, rfl, hi, rfl, rfl⟩ := hrel
 by_cases hin : i < 8
 ·
  have i1 : (i : Int) < 8 := by omega
  have ci := HX.out.c i hin;have hvi : s.v i = .slice (s.a i) (s.n i) (s.c i) := rfl;rw [hvi, HL.out i hin] at ci;have hm := HM.out (i + 1) (by omega);have hc := HC.out i;rw [hc] at hm;have HCi := zh hc;generalize (cat f i).length = p at *;generalize (f i).length = q at *;have hw : IntKind.i64.wrap ((p : Int) + (q : Int)) = ((p + q : Nat) : Int) := (IntWalk.i64_in _ (by omega)).trans (by omega);have hneg : decide (((p + q : Nat) : Int) < 0) = false := by simp; omega
  clear hvi hc;go_wp2_with fail;exact ⟨⟨i + 1, by go_num, by omega, by rw [HCi.out, Int.natCast_add], trivial⟩, by simp [intOf]; omega⟩
 obtain rfl : i = 8 := by omega
 have HGr := zh (HG.out (cat f 8).length (HM.out 8 (Nat.le_refl _)) w);generalize (cat f 8).length = tot at *;go_wp2_with fail;refine HGr.out.mono ?_; rintro e w1 ⟨v1, rfl, hown1, hb1⟩;have HO1 := zh hown1;have HB1 := zh hb1;clear hown1 hb1 HGr;go_wp2_with fail
 go_loopw [6, 27] (fun ov iv W => ∃ i : Nat, iv = .int .i64 (i : Int) ∧ i ≤ 8 ∧ Hid (W.ownsRow w.heap.size 49 4 ov (cat f i).length (zL (cat f i))) ∧ Hid (Below w.heap.size w W)) (fun _ iv _ => 8 - (intOf iv).toNat)
 case atStart => exact ⟨0, rfl, Nat.zero_le _, HO1, HB1⟩
 obtain ⟨i, rfl, hi, HO, HB⟩ := hrel
 by_cases hin : i < 8
 ·
  have i1 : (i : Int) < 8 := by omega
  have ci := Below.keeps HB.out _ _ (HX.out.c i hin);have HRi := zh ((HR.out i hin).below HB.out);have hvi : s.v i = .slice (s.a i) (s.n i) (s.c i) := rfl;rw [hvi, HL.out i hin] at ci HRi;have hm := HM.out (i + 1) (by omega);rw [HC.out i] at hm;have HEi := zh (HE.out i);have hone := zl (f i);have HOne := zh hone;have hsz := HB.out.size;have HRr := zh (show Rd wr 4 (.slice (s.a i) (f i).length (s.c i)) (f i).length (zL (f i)) from uo HRi.out);clear hvi hone;go_wp2_with (at_builtin; refine za (n := (cat f i).length) (m := (f i).length) rfl (.tmp 31) (.tmp 32) 33 rfl yA w.heap.size rfl HO.out rfl HRr.out HOne.out (by unfold maxLen; omega) (by omega) hsz ?_; intro v4 w4 hown4 hgr4 hv4; clear hv4; have HO4 := zh (show OwnT w4 w.heap.size v4 (cat f (i + 1)) from yE hown4 (by rw [HEi.out, zp])); have HB4 := zh (zK HB.out HO.out hsz hgr4); clear hown4 hgr4)
  exact ⟨⟨i + 1, by go_num, by omega, HO4, HB4⟩, by simp [intOf]; omega⟩
 obtain rfl : i = 8 := by omega
 go_wp2_with fail;go_ret;exact ⟨_, rfl, HO.out, HB.out⟩
end Go.Proofs.YtcgfilmmokmdjaaGreat
