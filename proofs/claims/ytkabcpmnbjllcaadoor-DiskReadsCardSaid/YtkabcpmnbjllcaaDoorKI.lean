/- Several texts in one, each over the last: New and Arm of the program: the walks. Printed by mkYh.py. left of the program: what a crash keeps of a file. The walk. Printed by mkYi.py. Keeps in memory; slices.IndexFunc over them, with the closure of Crash: the walks. -/
import Derived.Test.YtkabcpmnbjllcaaDoorYg
namespace Go.Proofs.YtkabcpmnbjllcaaDoor
open Go.RowKit

/-- The files of a copy read so, whatever becomes of the two boxes. -/
theorem OwnFs.stF {W : World} {B b0 : Nat} {v : Value} {es : List FE} {T : Nat → Nat} (h : OwnFs W B v es T es.length) (hb0 : b0 + 2 ≤ B) (hd0 : BlkD W b0) (hd1 : BlkD W (b0 + 1)) : StF W b0 B v (es.map (·.1)) := fun W' hk => by
  refine rdF_row (hk.own h.row (Nat.le_refl _) hd0 hd1 (by decide)) fun q hq => h.partsI (fun b h1 h2 => ?_) q hq
  have := h.base
  have := h.top
  exact hk.same b (by omega) (by omega) (by omega) (by omega)
set_option maxRecDepth 100000 in
theorem new_any (limit : Int) (w : World) : Calls Tryd.prog 25 #[.int .i64 limit] w fun e w' => e = .returned (diskVal (max limit 0) (-1) nilS) ∧ Below w.heap.size w w' := by
  have HB0 := Lib.hid (show Below w.heap.size w (w.alloc (.cells #[.int .i64 0, .int .i64 0, .slice none 0 0] 33)) from (Below.refl _ _).alloc (Nat.le_refl _) _)
  have X := Lib.hid (BoxD.new w 0 0 (.slice none 0 0) 33)
  go_enter Tryd.func25, Tryd.ntmps25
  go_upto_region 1 with fail
  generalize w.alloc (.cells #[.int .i64 0, .int .i64 0, .slice none 0 0] 33) = W0 at *
  have r0 := X.out.c0
  have r1 := X.out.c1
  have r2 := X.out.c2
  have rf := X.out.f
  go_wp2_with fail
  exact bodyPost_ret (v := diskVal (max limit 0) (-1) nilS) (by simp [results, Tryd.results25, go_sem, r0, r1, r2]) rfl ⟨rfl, HB0.out.all3 (by omega) _ _ _⟩
set_option maxRecDepth 100000 in
set_option maxHeartbeats 1600000 in
theorem arm_any (d : Dk) (m : Int) (fv : Value) (w : World) (h : RdF w fv d.files) (hL : LiteD d) :
    Calls Tryd.prog 21 #[diskVal d.cap d.left fv, .int .i64 m] w fun e w' => ∃ v, e = .returned v ∧ StD w.heap.size w' v (armD d m) ∧ Below w.heap.size w w' := by
  obtain ⟨a, cap, rfl, h1, h2, _⟩ := h.shape
  have HC := Lib.hid (fun W (hW : Below w.heap.size w W) => dclone_any d.cap d.left _ d.files W (h.below hW) hL.fs (by have := hL.len; omega))
  have HE := Lib.hid (show armD d m = ⟨d.cap, max m (-1), d.files⟩ from rfl)
  clear h hL
  generalize armD d m = RS at *
  generalize d.files.length = n at *
  obtain ⟨c, lf, fl⟩ := d
  dsimp only at *
  have HB0 := Lib.hid (show Below w.heap.size w ((w.alloc (.cells #[.int .i64 c, .int .i64 lf, .slice a n cap] 33)).alloc (.cells #[.int .i64 0, .int .i64 0, .slice none 0 0] 33)) from ((Below.refl _ _).alloc (Nat.le_refl _) _).alloc (by simp) _)
  have X := Lib.hid (show BoxD ((w.alloc (.cells #[.int .i64 c, .int .i64 lf, .slice a n cap] 33)).alloc (.cells #[.int .i64 0, .int .i64 0, .slice none 0 0] 33)) w.heap.size c lf (.slice a n cap) from ⟨by simp, by simp, by simp, fun i => by simp⟩)
  have R := Lib.hid (show BoxD ((w.alloc (.cells #[.int .i64 c, .int .i64 lf, .slice a n cap] 33)).alloc (.cells #[.int .i64 0, .int .i64 0, .slice none 0 0] 33)) (w.heap.size + 1) 0 0 (.slice none 0 0) from ⟨by simp, by simp, by simp, fun i => by simp⟩)
  have HD := Lib.hid (twoBlk w (.cells #[.int .i64 c, .int .i64 lf, .slice a n cap] 33) (.cells #[.int .i64 0, .int .i64 0, .slice none 0 0] 33) ⟨_, rfl⟩ ⟨_, rfl⟩)
  have hBB : w.heap.size + 2 ≤ ((w.alloc (.cells #[.int .i64 c, .int .i64 lf, .slice a n cap] 33)).alloc (.cells #[.int .i64 0, .int .i64 0, .slice none 0 0] 33)).heap.size := by simp
  go_enter Tryd.func21, Tryd.ntmps21
  go_upto_region 1 with fail
  generalize (w.alloc (.cells #[.int .i64 c, .int .i64 lf, .slice a n cap] 33)).alloc (.cells #[.int .i64 0, .int .i64 0, .slice none 0 0] 33) = W0 at *
  have x0 := X.out.c0
  have x1 := X.out.c1
  have x2 := X.out.c2
  go_wp2_with fail
  refine (HC.out W0 HB0.out).mono ?_
  rintro e w1 ⟨v, rfl, ⟨fv, es, T, rfl, hes, hO⟩, hb1⟩
  replace X := Lib.hid (X.out.below hb1)
  replace R := Lib.hid (R.out.below hb1)
  replace HD := Lib.hid (And.intro (HD.out.1.below hb1) (HD.out.2.below hb1))
  have HB1 := Lib.hid (bstep HB0.out hb1)
  have hBB1 := Nat.le_trans hBB hb1.size
  clear x0 x1 x2
  have x0 := X.out.c0
  have x1 := X.out.c1
  have x2 := X.out.c2
  have xf := X.out.f
  have hat := hO.row
  obtain ⟨a2, k2, rfl, hk2, hk3, _⟩ := own_form hat
  clear hat
  dsimp only at *
  have HO2 := Lib.hid ((hO.lower (B' := w.heap.size + 2) hBB rfl).all_ne (b := w.heap.size) (by omega) (.int .i64 c) (.int .i64 lf) (.slice a2 es.length k2))
  have X2 := Lib.hid (X.out.all c lf (.slice a2 es.length k2))
  have R2 := Lib.hid (((R.out.set_ne (p := ⟨w.heap.size, 0, none⟩) (by dsimp only; omega) (.int .i64 c)).set_ne (p := ⟨w.heap.size, 1, none⟩) (by dsimp only; omega) (.int .i64 lf)).set_ne (p := ⟨w.heap.size, 2, none⟩) (by dsimp only; omega) (.slice a2 es.length k2))
  have HB2 := Lib.hid (HB1.out.all3 (b := w.heap.size) (Nat.le_refl _) (.int .i64 c) (.int .i64 lf) (.slice a2 es.length k2))
  have HD2 := Lib.hid (And.intro (HD.out.1.all3 w.heap.size (.int .i64 c) (.int .i64 lf) (.slice a2 es.length k2)) (HD.out.2.all3 w.heap.size (.int .i64 c) (.int .i64 lf) (.slice a2 es.length k2)))
  have Hes := Lib.hid hes
  clear hO hes X R HB1 HD
  go_upto_region 2 with fail
  change Code.wp _ _ _ _ (((w1.setCell ⟨w.heap.size, 0, none⟩ (.int .i64 c)).setCell ⟨w.heap.size, 1, none⟩ (.int .i64 lf)).setCell ⟨w.heap.size, 2, none⟩ (.slice a2 es.length k2))
  clear x0 x1 x2 xf
  generalize (((w1.setCell ⟨w.heap.size, 0, none⟩ (.int .i64 c)).setCell ⟨w.heap.size, 1, none⟩ (.int .i64 lf)).setCell ⟨w.heap.size, 2, none⟩ (.slice a2 es.length k2)) = W2 at *
  have HSt := Lib.hid (HO2.out.stF (b0 := w.heap.size) (Nat.le_refl _) HD2.out.1 HD2.out.2)
  have X3 := Lib.hid (X2.out.set1 (max m (-1)))
  have R3 := Lib.hid (R2.out.set_ne (p := ⟨w.heap.size, 1, none⟩) (by dsimp only; omega) (.int .i64 (max m (-1))))
  have HB3 := Lib.hid (HB2.out.setCell (p := ⟨w.heap.size, 1, none⟩) (Nat.le_refl _) (.int .i64 (max m (-1))))
  have HK3 := Lib.hid (KeepX.set0 (b0 := w.heap.size) (B := w.heap.size + 2) (W := W2) 1 (.int .i64 (max m (-1))))
  have x1 := X2.out.c1
  have xf := X2.out.f
  clear X2 R2 HB2 HD2 HO2
  go_upto_region 3 with fail
  clear x1 xf
  generalize W2.setCell ⟨w.heap.size, 1, none⟩ (.int .i64 (max m (-1))) = W3 at *
  have HRd := Lib.hid (show StD w.heap.size (((W3.setCell ⟨w.heap.size + 1, 0, none⟩ (.int .i64 c)).setCell ⟨w.heap.size + 1, 1, none⟩ (.int .i64 (max m (-1)))).setCell ⟨w.heap.size + 1, 2, none⟩ (.slice a2 es.length k2)) (diskVal c (max m (-1)) (.slice a2 es.length k2)) ⟨c, max m (-1), fl⟩ from fun W' h' => ⟨_, rfl, Hes.out ▸ HSt.out W' (HK3.out.trans ((KeepX.all1 (.int .i64 c) (.int .i64 (max m (-1))) (.slice a2 es.length k2)).trans (h'.up (Nat.le_add_right _ 2)).x))⟩)
  have x0 := X3.out.c0
  have x1 := X3.out.c1
  have x2 := X3.out.c2
  have r0 := R3.out.c0
  have r1 := R3.out.c1
  have r2 := R3.out.c2
  have rf := R3.out.f
  go_wp2_with fail
  exact bodyPost_ret (v := diskVal c (max m (-1)) (.slice a2 es.length k2)) (by simp [results, Tryd.results21, go_sem, r0, r1, r2]) rfl ⟨_, rfl, by rw [HE.out]; exact HRd.out, HB3.out.all3 (by omega) _ _ _⟩
end Go.Proofs.YtkabcpmnbjllcaaDoor

namespace Go.Proofs.YtkabcpmnbjllcaaDoor
open Go.RowKit

abbrev keepVal (k : Kp) : Value := .agg #[.string (strB k.name), .int .i64 k.wri, .int .i64 k.torn]
theorem cutN_le (n : Int) (m : Nat) : cutN n m ≤ m := by unfold cutN; omega
theorem cutN_int (n : Int) (m : Nat) : max (0 : Int) (min n (m : Int)) = (cutN n m : Int) := by unfold cutN; omega
theorem leftF_end {f : Fil} {k : Kp} (h : cutN k.wri f.pend.length = f.pend.length) : leftF f k = contF ⟨[], f.base, f.pend.take (cutN k.wri f.pend.length)⟩ := by
  unfold leftF
  dsimp only
  rw [h, List.getElem?_eq_none (Nat.le_refl _)]
  rfl
theorem leftF_in {f : Fil} {k : Kp} (h : cutN k.wri f.pend.length < f.pend.length) : leftF f k = if (watW f.pend (cutN k.wri f.pend.length)).cut then contF ⟨[], f.base, f.pend.take (cutN k.wri f.pend.length)⟩ else
    if (watW f.pend (cutN k.wri f.pend.length)).data.take (cutN k.torn (watW f.pend (cutN k.wri f.pend.length)).data.length) = [] then contF ⟨[], f.base, f.pend.take (cutN k.wri f.pend.length)⟩ else
      appl ⟨(watW f.pend (cutN k.wri f.pend.length)).off, (watW f.pend (cutN k.wri f.pend.length)).data.take (cutN k.torn (watW f.pend (cutN k.wri f.pend.length)).data.length), false⟩ (contF ⟨[], f.base, f.pend.take (cutN k.wri f.pend.length)⟩) := by
  unfold leftF watW
  dsimp only
  rw [List.getD_eq_getElem?_getD, List.getElem?_eq_getElem h]
  rfl
/-- The first k writes. -/
theorem slice_wr {w : World} {a : Option Addr} {n cap : Nat} {ws : List Wr} (h : RdW w (.slice a n cap) ws) (k : Nat) (hk : k ≤ n) :
    ∃ a', (∀ W kh, (Instr.slice 67 (.slice a n cap) none (some (.int kh (k : Int))) none).run Tryd.prog W = .ok (.slice a' k cap) W) ∧ RdW w (.slice a' k cap) (ws.take k) := by
  obtain ⟨a0, c0, e, h1, h2, h3⟩ := h.shape
  injection e with e1 e2 e3
  subst e1 e3
  rcases Nat.eq_zero_or_pos n with h0 | h0
  · obtain rfl : k = 0 := by omega
    obtain ⟨g1, g2⟩ := elem_of (P := Tryd.prog) elemWi
    refine ⟨if cap = 0 then a else a.map (·.add (0 * 3)), fun W kh => ?_, ?_⟩
    · rw [run_slice_h W 67 a n cap g1 kh ((0 : Nat) : Int) (by omega) (by omega), g2]
      simp [Result.andThen, sliced]
    · rw [List.take_zero]
      refine ⟨[], rfl, ⟨fun _ h => (by cases h), rfl, _, cap, rfl, Nat.zero_le _, h2, fun e => ?_, fun hp => absurd hp (by simp)⟩, fun _ h => by cases h⟩
      split at e
      · assumption
      · cases a with
        | none => exact h3 rfl
        | some x => cases e
  · obtain ⟨b, off, _, rfl, _⟩ := h.at h0
    exact ⟨_, slice_to (P := Tryd.prog) elemWi (fun x hx => ⟨b, off, by injection hx with hx; exact hx.symm⟩) k (by omega), h.take k hk⟩
theorem OwnC.set_ne {w : World} {B b : Nat} {v : Value} {l : List UInt8} (h : OwnC w B v l) (hne : v.ownBlock ≠ some b) (i : Nat) (u : Value) : OwnC (w.setCell ⟨b, i, none⟩ u) B v l := by
  obtain ⟨a, c, c', rfl, ho, h1⟩ := h
  exact ⟨a, c, c', rfl, own_set_ne (p := ⟨b, i, none⟩) ho (fun e => hne (by cases a <;> exact e)) u, h1⟩
/-- The first k bytes. -/
theorem slice_by {w : World} {a : Option Addr} {n cap : Nat} {l : List UInt8} (h : RdB w (.slice a n cap) l) (k : Nat) (hk : k ≤ n) :
    ∃ a', (∀ W kh, (Instr.slice 47 (.slice a n cap) none (some (.int kh (k : Int))) none).run Tryd.prog W = .ok (.slice a' k cap) W) ∧ RdB w (.slice a' k cap) (l.take k) := by
  obtain ⟨a0, c0, e, h1, h2, h3⟩ := h.shape0
  injection e with e1 e2 e3
  subst e1 e3
  rcases Nat.eq_zero_or_pos n with h0 | h0
  · obtain rfl : k = 0 := by omega
    obtain ⟨g1, g2⟩ := elem_of (P := Tryd.prog) elemU8
    refine ⟨if cap = 0 then a else a.map (·.add (0 * 1)), fun W kh => ?_, ?_⟩
    · rw [run_slice_h W 47 a n cap g1 kh ((0 : Nat) : Int) (by omega) (by omega), g2]
      simp [Result.andThen, sliced]
    · rw [List.take_zero]
      refine ⟨rfl, _, cap, rfl, Nat.zero_le _, h2, fun e => ?_, fun hp => absurd hp (by simp)⟩
      split at e
      · assumption
      · cases a with
        | none => exact h3 rfl
        | some x => cases e
  · exact ⟨_, slice_to (P := Tryd.prog) elemU8 (RdL.spot h h0) k (by omega), RdL.take h k hk⟩
/-- A keep in a box. -/
structure BoxK (w : World) (b : Nat) (nm : ByteArray) (a c : Int) : Prop where
  c0 : w.cell? ⟨b, 0, none⟩ = some (.string nm)
  c1 : w.cell? ⟨b, 1, none⟩ = some (.int .i64 a)
  c2 : w.cell? ⟨b, 2, none⟩ = some (.int .i64 c)
theorem BoxK.below {w w' : World} {b : Nat} {nm : ByteArray} {a c : Int} (h : BoxK w b nm a c) (hb : Below w.heap.size w w') : BoxK w' b nm a c := ⟨Below.keeps hb _ _ h.c0, Below.keeps hb _ _ h.c1, Below.keeps hb _ _ h.c2⟩
set_option maxRecDepth 100000 in
set_option maxHeartbeats 3200000 in
theorem left_any (f : Fil) (k : Kp) (bv pv : Value) (w : World) (hb : RdB w bv f.base) (hp : RdW w pv f.pend) (hr : LiteF f) (hsz : sizedF f = true) :
    Calls Tryd.prog 57 #[filVal f.name bv pv, keepVal k] w fun e w' => ∃ v', e = .returned v' ∧ OwnC w' w.heap.size v' (leftF f k) ∧ Below w.heap.size w w' := by
  have hcl := contF_le ⟨[], f.base, f.pend.take (cutN k.wri f.pend.length)⟩
  have hcn := cutN_le k.wri f.pend.length
  have hci := cutN_int k.wri f.pend.length
  obtain ⟨ba, bc, rfl, hb1, hb2, _⟩ := hb.shape0
  obtain ⟨pa, pc, rfl, hp1, hp2, hp3⟩ := hp.shape
  obtain ⟨pq, hgs, hpt⟩ := slice_wr hp _ hcn
  have HCt := Lib.hid (fun W (hW : Below w.heap.size w W) => content_any [] f.base (f.pend.take (cutN k.wri f.pend.length)) _ _ W (hb.below hW) (hpt.below hW) (fun x hx => hr.wr x (List.mem_of_mem_take hx)))
  change Hid (∀ W, Below w.heap.size w W → Calls Tryd.prog 37 #[.agg #[.string ⟨#[]⟩, .slice ba f.base.length bc, .slice pq (cutN k.wri f.pend.length) pc]] W _) at HCt
  have HLe := Lib.hid (leftF_end (f := f) (k := k))
  have HLi := Lib.hid (leftF_in (f := f) (k := k))
  have HP := Lib.hid hp
  have Hway := Lib.hid (fun h => sized_way (nm := f.name) (b := f.base) (ws := f.pend) hsz (j := cutN k.wri f.pend.length) h)
  clear hb hp hr hsz hp3 hpt
  generalize leftF f k = RS at *
  generalize contF ⟨[], f.base, f.pend.take (cutN k.wri f.pend.length)⟩ = C at *
  generalize cutN k.wri f.pend.length = cn at *
  obtain ⟨nm, base, ws⟩ := f
  obtain ⟨kn, kw, kt⟩ := k
  dsimp only at *
  generalize base.length = l at *
  generalize hpl : ws.length = pl at *
  have Hpl := Lib.hid hpl
  clear hpl
  obtain ⟨W0, hW0⟩ : ∃ W0, (w.alloc (.cells #[.string (strB nm), .slice ba l bc, .slice pa pl pc] 69)).alloc (.cells #[.string (strB kn), .int .i64 kw, .int .i64 kt] 52) = W0 := ⟨_, rfl⟩
  have HB := Lib.hid (show Below w.heap.size w W0 from hW0 ▸ ((Below.refl _ _).alloc (Nat.le_refl _) _).alloc (by simp) _)
  have X := Lib.hid (show BoxF W0 w.heap.size (strB nm) (.slice ba l bc) (.slice pa pl pc) from hW0 ▸ ⟨by simp, by simp, by simp, fun i => by simp⟩)
  have K := Lib.hid (show BoxK W0 (w.heap.size + 1) (strB kn) kw kt from hW0 ▸ ⟨by simp, by simp, by simp⟩)
  have hs0 : w.heap.size + 2 ≤ W0.heap.size := by rw [← hW0]; simp
  change Calls Tryd.prog 57 #[.agg #[.string (strB nm), .slice ba l bc, .slice pa pl pc], .agg #[.string (strB kn), .int .i64 kw, .int .i64 kt]] w _
  go_enter Tryd.func57, Tryd.ntmps57
  go_upto_region 1 with fail
  clear hW0
  have x2 := X.out.c2
  have k1 := K.out.c1
  go_upto_region 2 with fail
  clear x2 k1
  refine wp_region_rel [eqS (.pointer (some ⟨w.heap.size, 1, none⟩)), eqS (.slice ba l bc), eqS (.pointer (some ⟨w.heap.size, 2, none⟩)), eqS (.slice pa pl pc), eqS (.int .i64 (cn : Int)), eqS (.slice pq cn pc), eqS (.agg #[.string ⟨#[]⟩, .slice ba l bc, .slice pq cn pc])] [] 61 (by kernel_rfl) (by kernel_rfl) (by rfl) (by kernel_rfl) (fun f => by simp [frm, dstOf, Act.put]; exact rfl) ?_ ?_
  · refine ⟨?_, ?_, ?_, ?_, ?_, ?_, ?_, trivial⟩
    · intro f w1 hb hd
      clear hd
      dsimp only
      go_wp2_with fail
      exact ⟨rfl, Below.refl _ _, fun t ht => by injection ht with ht; subst ht; exact ⟨rfl, fun h => by simp at h⟩⟩
    · intro f w1 hb hd
      have d0 : f 0 = .pointer (some ⟨w.heap.size, 1, none⟩) := hd 0 (by kernel_rfl)
      clear hd
      dsimp only
      rw [d0]
      have y := (X.out.below hb).c1
      go_wp2_with fail
      exact ⟨rfl, Below.refl _ _, fun t ht => by injection ht with ht; subst ht; exact ⟨rfl, fun h => by simp at h⟩⟩
    · intro f w1 hb hd
      clear hd
      dsimp only
      go_wp2_with fail
      exact ⟨rfl, Below.refl _ _, fun t ht => by injection ht with ht; subst ht; exact ⟨rfl, fun h => by simp at h⟩⟩
    · intro f w1 hb hd
      have d2 : f 2 = .pointer (some ⟨w.heap.size, 2, none⟩) := hd 2 (by kernel_rfl)
      clear hd
      dsimp only
      rw [d2]
      have y := (X.out.below hb).c2
      go_wp2_with fail
      exact ⟨rfl, Below.refl _ _, fun t ht => by injection ht with ht; subst ht; exact ⟨rfl, fun h => by simp at h⟩⟩
    · intro f w1 hb hd
      clear hd
      dsimp only
      go_wp2_with fail
      exact ⟨rfl, Below.refl _ _, fun t ht => by injection ht with ht; subst ht; exact ⟨rfl, fun h => by simp at h⟩⟩
    · intro f w1 hb hd
      have d3 : f 3 = .slice pa pl pc := hd 3 (by kernel_rfl)
      have d4 : f 4 = .int .i64 (cn : Int) := hd 4 (by kernel_rfl)
      clear hd
      dsimp only
      rw [d3]
      rw [d4]
      go_wp2_with fail
      exact ⟨rfl, Below.refl _ _, fun t ht => by injection ht with ht; subst ht; exact ⟨rfl, fun h => by simp at h⟩⟩
    · intro f w1 hb hd
      have d1 : f 1 = .slice ba l bc := hd 1 (by kernel_rfl)
      have d5 : f 5 = .slice pq cn pc := hd 5 (by kernel_rfl)
      clear hd
      dsimp only
      rw [d1]
      rw [d5]
      go_wp2_with fail
      exact ⟨rfl, Below.refl _ _, fun t ht => by injection ht with ht; subst ht; exact ⟨rfl, fun h => by simp at h⟩⟩
  · intro f w1 hb hA _
    have d0 : f 0 = .pointer (some ⟨w.heap.size, 1, none⟩) := hA 0 (show 0 < 7 by decide)
    have d1 : f 1 = .slice ba l bc := hA 1 (show 1 < 7 by decide)
    have d2 : f 2 = .pointer (some ⟨w.heap.size, 2, none⟩) := hA 2 (show 2 < 7 by decide)
    have d3 : f 3 = .slice pa pl pc := hA 3 (show 3 < 7 by decide)
    have d4 : f 4 = .int .i64 (cn : Int) := hA 4 (show 4 < 7 by decide)
    have d5 : f 5 = .slice pq cn pc := hA 5 (show 5 < 7 by decide)
    have d6 : f 6 = .agg #[.string ⟨#[]⟩, .slice ba l bc, .slice pq cn pc] := hA 6 (show 6 < 7 by decide)
    clear hA
    try dsimp only at *
    rw [d0]
    rw [d1]
    rw [d2]
    rw [d3]
    rw [d4]
    rw [d5]
    rw [d6]
    clear d0 d1 d2 d3 d4 d5 d6
    have X1 := Lib.hid (X.out.below hb)
    have K1 := Lib.hid (K.out.below hb)
    have HB1 := Lib.hid (bstep HB.out hb)
    have hs1 := Nat.le_trans hs0 hb.size
    clear hb X K HB hs0
    go_wp2_with fail
    refine (HCt.out _ HB1.out).mono ?_
    rintro e w2 ⟨v2, rfl, ho, hb2'⟩
    have X2 := Lib.hid (X1.out.below hb2')
    have K2 := Lib.hid (K1.out.below hb2')
    have HB2 := Lib.hid (bstep HB1.out hb2')
    have HO2 := Lib.hid (show OwnC w2 w.heap.size v2 C from ho.lower HB1.out.size)
    have hs2 := Nat.le_trans hs1 hb2'.size
    clear ho hb2' X1 K1 HB1 hs1 HCt
    have hbk := HO2.out.block
    obtain ⟨va, vc, e2, _⟩ := HO2.out.rd.shape0
    subst e2
    have Hcl := Lib.hid hcl
    generalize hCl : C.length = cl at *
    have HCl := Lib.hid hCl
    clear hCl
    have x2 := X2.out.c2
    by_cases hc : cn = pl
    · have HR := Lib.hid (HLe.out hc)
      subst hc
      go_wp2_with fail
      go_ret
      exact ⟨_, rfl, by rw [HR.out]; exact HO2.out, HB2.out⟩
    · have hlt : cn < pl := by omega
      have i1 : ¬ (cn : Int) = (pl : Int) := by omega
      have HR := Lib.hid (HLi.out hlt)
      obtain ⟨q1, q2, q3, _⟩ := Hway.out hlt
      obtain ⟨b, off, dv, rfl, hd, c0, c1, c2⟩ := HP.out.at hlt
      obtain ⟨da, dc, rfl, hd1, hd2, _⟩ := hd.shape0
      obtain ⟨dq, hgd, hdq⟩ := slice_by hd (cutN kt (watW ws cn).data.length) (cutN_le _ _)
      have hcm := cutN_le kt (watW ws cn).data.length
      have hcmi := cutN_int kt (watW ws cn).data.length
      replace c0 := Below.keeps HB2.out _ _ c0
      replace c1 := Below.keeps HB2.out _ _ c1
      replace c2 := Below.keeps HB2.out _ _ c2
      clear HLi HLe Hway hd hgs
      generalize watW ws cn = x at *
      obtain ⟨xo, xd, xc⟩ := x
      dsimp only at *
      generalize cutN kt xd.length = cm at *
      have Hdq := Lib.hid hdq
      have Hxl := Lib.hid (show (xd.take cm).length = cm by rw [List.length_take]; omega)
      clear hdq
      generalize xd.length = dl at *
      cases xc
      · obtain ⟨o, rfl⟩ := Int.eq_ofNat_of_zero_le q1
        have hba := (Below.refl w2.heap.size w2).alloc (Nat.le_refl _) (.cells #[.int .i64 (o : Int), .slice da dl dc, .bool false] 95)
        have K3 := Lib.hid (K2.out.below hba)
        have HB3 := Lib.hid (bstep HB2.out hba)
        have HO3 := Lib.hid (HO2.out.keep hba)
        have Y := Lib.hid (show BoxW (w2.alloc (.cells #[.int .i64 (o : Int), .slice da dl dc, .bool false] 95)) w2.heap.size (o : Int) (.slice da dl dc) false ∧ ∀ i, (w2.alloc (.cells #[.int .i64 (o : Int), .slice da dl dc, .bool false] 95)).frozen? ⟨w2.heap.size, i, none⟩ = false from ⟨⟨by simp, by simp, by simp⟩, fun i => by simp⟩)
        have hbne : (Value.slice va cl vc).ownBlock ≠ some w2.heap.size := fun e => by have := (hbk _ e).2; omega
        clear hba hbk
        go_upto_region 6 with fail
        generalize w2.alloc (.cells #[.int .i64 (o : Int), .slice da dl dc, .bool false] 95) = w3 at *
        generalize w2.heap.size = bq at *
        have y1 := Y.out.1.c1
        have yf := Y.out.2
        have k2 := K3.out.c2
        clear c0 c1 c2 x2
        have hbq : w.heap.size ≤ bq := by omega
        have HB4 := Lib.hid (HB3.out.setCell (p := ⟨bq, 1, none⟩) hbq (.slice dq cm dc))
        have HO4 := Lib.hid (HO3.out.set_ne (b := bq) hbne 1 (.slice dq cm dc))
        have Y4 := Lib.hid (show BoxW (w3.setCell ⟨bq, 1, none⟩ (.slice dq cm dc)) bq (o : Int) (.slice dq cm dc) false from ⟨cell_set_off Y.out.1.c0 (by decide) _, cell_set_same y1 _, cell_set_off Y.out.1.c2 (by decide) _⟩)
        go_upto_region 7 with fail
        clear y1 yf k2 K3
        generalize w3.setCell ⟨bq, 1, none⟩ (.slice dq cm dc) = w4 at *
        have y0 := Y4.out.c0
        have y1 := Y4.out.c1
        have y2 := Y4.out.c2
        by_cases hz : cm = 0
        · have HR2 := Lib.hid (show RS = C by rw [HR.out, if_neg (by simp), if_pos (by rw [hz, List.take_zero])])
          subst hz
          go_wp2_with fail
          go_ret
          exact ⟨_, rfl, by rw [HR2.out]; exact HO4.out, HB4.out⟩
        · have i2 : (0 : Int) < (cm : Int) := by omega
          have HR2 := Lib.hid (show RS = appl ⟨(o : Int), xd.take cm, false⟩ C by
            rw [HR.out, if_neg (by simp), if_neg (fun e => hz (by rw [← Hxl.out, e]; rfl))])
          have hB4 : w.heap.size ≤ w4.heap.size := HB4.out.size
          have HAp := Lib.hid (apply_any o (xd.take cm) C false (.slice dq cm dc) _ w.heap.size w4 HO4.out hB4 (fun W hW => Hdq.out.below (HB4.out.trans hW)) (by omega) (by rw [Hxl.out]; omega) (by rw [HCl.out]; omega))
          go_wp2_with fail
          refine HAp.out.mono ?_
          rintro e w5 ⟨v5, rfl, ho5, hb5⟩
          have HO5 := Lib.hid ho5
          have HB5 := Lib.hid (HB4.out.trans hb5)
          clear ho5 hb5
          go_wp2_with fail
          go_ret
          exact ⟨_, rfl, by rw [HR2.out]; exact HO5.out, HB5.out⟩
      · have HR2 := Lib.hid (show RS = C by rw [HR.out, if_pos rfl])
        go_wp2_with fail
        go_ret
        exact ⟨_, rfl, by rw [HR2.out]; exact HO2.out, HB2.out⟩
end Go.Proofs.YtkabcpmnbjllcaaDoor

namespace Go.Proofs.YtkabcpmnbjllcaaDoor
open Go.RowKit

def kpC (k : Kp) : List Value := [.string (strB k.name), .int .i64 k.wri, .int .i64 k.torn]
/-- v reads as the keeps l. -/
def RdK (w : World) (v : Value) (l : List Kp) : Prop := RdS 3 kpC w v l
theorem RdK.below {w w' : World} {v : Value} {l : List Kp} (h : RdK w v l) (hb : Below w.heap.size w w') : RdK w' v l := RdS.below h hb
def kpW (l : List Kp) (j : Nat) : Kp := l.getD j kp0
theorem RdK.shape {w : World} {v : Value} {l : List Kp} (h : RdK w v l) : ∃ a cap, v = .slice a l.length cap ∧ l.length ≤ cap ∧ cap ≤ maxLen ∧ (a = none → cap = 0) := by
  obtain ⟨a, c, e, h1, h2, h3, _⟩ := RdS.shape h (by decide) kp0
  exact ⟨a, c, e, h1, h2, h3⟩
theorem RdK.at {w : World} {a : Option Addr} {n cap : Nat} {l : List Kp} (h : RdK w (.slice a n cap) l) {j : Nat} (hj : j < n) : ∃ b off, a = some ⟨b, off, none⟩ ∧
    w.cell? ⟨b, off + j * 3, none⟩ = some (.string (strB (kpW l j).name)) ∧ w.cell? ⟨b, off + j * 3 + 1, none⟩ = some (.int .i64 (kpW l j).wri) ∧ w.cell? ⟨b, off + j * 3 + 2, none⟩ = some (.int .i64 (kpW l j).torn) := by
  obtain ⟨a', cap', e, h1, h2, h3, h4⟩ := RdS.shape h (by decide) kp0
  injection e with e1 e2 e3
  subst e1 e2 e3
  obtain ⟨b, off, e4, hc⟩ := h4 (by omega)
  have c := hc j hj
  exact ⟨b, off, e4, c 0 _ rfl, c 1 _ rfl, c 2 _ rfl⟩
theorem keepOf_at : ∀ (l : List Kp) (i : Nat) (s : List UInt8), i < l.length → (kpW l i).name = s → (∀ j, j < i → (kpW l j).name ≠ s) → keepOf l s = kpW l i
  | [], _, _, h, _, _ => by simp at h
  | x :: r, 0, s, _, h, _ => by
    have h : x.name = s := h
    show ((x :: r).find? _).getD kp0 = x
    rw [List.find?_cons_of_pos (by simpa using h)]
    rfl
  | x :: r, i + 1, s, hi, h, hn => by
    have h0 : x.name ≠ s := hn 0 (by omega)
    show ((x :: r).find? _).getD kp0 = kpW r i
    rw [List.find?_cons_of_neg (by simpa using h0)]
    exact keepOf_at r i s (by simpa using hi) h (fun j hj => hn (j + 1) (by omega))
theorem keepOf_no : ∀ (l : List Kp) (s : List UInt8), (∀ j, j < l.length → (kpW l j).name ≠ s) → keepOf l s = kp0
  | [], _, _ => rfl
  | x :: r, s, hn => by
    have h0 : x.name ≠ s := hn 0 (by simp)
    show ((x :: r).find? _).getD kp0 = kp0
    rw [List.find?_cons_of_neg (by simpa using h0)]
    exact keepOf_no r s (fun j hj => hn (j + 1) (by simpa using hj))
set_option maxRecDepth 100000 in
theorem crash1_any (k : Kp) (nm : List UInt8) (b : Nat) (w : World) (h : w.cell? ⟨b, 0, none⟩ = some (.string (strB nm))) :
    Calls Tryd.prog 56 #[keepVal k, .pointer (some ⟨b, 0, none⟩)] w fun e w' => e = .returned (.bool (k.name == nm)) ∧ Below w.heap.size w w' := by
  obtain ⟨kn, kw, kt⟩ := k
  have hb : b < w.heap.size := World.block_lt_of_cell? w _ h
  have h2 : (w.alloc (.cells #[.string (strB kn), .int .i64 kw, .int .i64 kt] 52)).cell? ⟨b, 0, none⟩ = some (.string (strB nm)) := Below.keeps ((Below.refl _ _).alloc (Nat.le_refl _) _) _ _ h
  have HQ := Lib.hid (same_str kn nm)
  change Calls Tryd.prog 56 #[.agg #[.string (strB kn), .int .i64 kw, .int .i64 kt], .pointer (some ⟨b, 0, none⟩)] w _
  go_enter Tryd.func56, Tryd.ntmps56
  go_wp2_with fail
  go_ret
  exact ⟨by rw [← HQ.out]; rfl, (Below.refl _ _).alloc (Nat.le_refl _) _⟩
set_option maxHeartbeats 800000 in
theorem kidx_any (v : Value) (l : List Kp) (nm : List UInt8) (b : Nat) (w : World) (h : RdK w v l) (hc : w.cell? ⟨b, 0, none⟩ = some (.string (strB nm))) (hs : l.length ≤ 1000000) :
    Calls Tryd.prog 55 #[v, .func (.func 56) #[] #[.pointer (some ⟨b, 0, none⟩)]] w fun e w' =>
      ((∃ i : Nat, e = .returned (.int .i64 (i : Int)) ∧ i < l.length ∧ keepOf l nm = kpW l i) ∨ (e = .returned (.int .i64 (-1)) ∧ keepOf l nm = kp0)) ∧ Below w.heap.size w w' := by
  obtain ⟨a, cap, rfl, h1, h2, h3⟩ := h.shape
  have HR := Lib.hid h
  have HC := Lib.hid (fun k W (hW : Below w.heap.size w W) => crash1_any k nm b W (Below.keeps hW _ _ hc))
  have HAt := Lib.hid (fun i => keepOf_at l i nm)
  have HNo := Lib.hid (keepOf_no l nm)
  clear h hc h3
  generalize keepOf l nm = KO at *
  generalize l.length = n at *
  go_enter Tryd.func55, Tryd.ntmps55
  go_wp2_with fail
  go_loopw [8] (fun iv W => ∃ i : Nat, iv = .int .i64 (i : Int) ∧ i ≤ n ∧ Hid (∀ j, j < i → (kpW l j).name ≠ nm) ∧ Hid (Below w.heap.size w W)) (fun iv _ => n - (intOf iv).toNat)
  case atStart => exact ⟨0, rfl, Nat.zero_le _, Lib.hid (fun j hj => by omega), Lib.hid (Below.refl _ _)⟩
  case round =>
    obtain ⟨i, rfl, hi, HNe, HB⟩ := hrel
    by_cases hlt : i < n
    · have i1 : (i : Int) < (n : Int) := by omega
      obtain ⟨bb, off, rfl, c0, c1, c2⟩ := (HR.out.below HB.out).at hlt
      have HCi := Lib.hid (HC.out (kpW l i) wr HB.out)
      have HF := Lib.hid (fun h => HAt.out i hlt h HNe.out)
      have HN := Lib.hid (show (kpW l i).name ≠ nm → ∀ j, j < i + 1 → (kpW l j).name ≠ nm from fun h j hj => by
        by_cases e : j = i
        · rw [e]; exact h
        · exact HNe.out j (by omega))
      have hq : ((kpW l i).name == nm) = true ∨ ((kpW l i).name == nm) = false := by cases (kpW l i).name == nm <;> simp
      rcases hq with hq | hq
      · have HF2 := Lib.hid (HF.out (by simpa using hq))
        rw [hq] at HCi
        clear HF HN HNe hq
        generalize hk : kpW l i = k at *
        have Hk := Lib.hid hk
        clear hk
        obtain ⟨kn, kw, kt⟩ := k
        go_wp2_with fail
        refine HCi.out.mono ?_
        rintro e w2 ⟨rfl, hb⟩
        have HB2 := Lib.hid (bstep HB.out hb)
        clear hb
        go_wp2_with fail
        go_ret
        exact ⟨.inl ⟨i, rfl, hlt, by rw [Hk.out]; exact HF2.out⟩, HB2.out⟩
      · have HN2 := Lib.hid (HN.out (by simpa using hq))
        rw [hq] at HCi
        clear HF HN HNe hq
        generalize kpW l i = k at *
        obtain ⟨kn, kw, kt⟩ := k
        go_wp2_with fail
        refine HCi.out.mono ?_
        rintro e w2 ⟨rfl, hb⟩
        have HB2 := Lib.hid (bstep HB.out hb)
        clear hb
        go_wp2_with fail
        exact ⟨⟨i + 1, by go_num, by omega, HN2, HB2⟩, by simp [intOf]; omega⟩
    · have i1 : ¬ (i : Int) < (n : Int) := by omega
      have HE := Lib.hid (HNo.out (fun j hj => HNe.out j (by omega)))
      go_wp2_with fail
      go_ret
      exact ⟨.inr ⟨rfl, HE.out⟩, HB.out⟩
end Go.Proofs.YtkabcpmnbjllcaaDoor
