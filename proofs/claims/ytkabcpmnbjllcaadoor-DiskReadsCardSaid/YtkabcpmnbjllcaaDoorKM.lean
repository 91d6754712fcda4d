/- Several texts in one, each over the last: light of the law: the walk. Printed by mkDrw.py. What is known of a disk and of an operation that came in by value. -/
import Derived.Test.YtkabcpmnbjllcaaDoorKH
namespace Go.Proofs.YtkabcpmnbjllcaaDoor
open Go.RowKit

def LightF (f : Fil) : Prop := f.base.length ≤ 500 ∧ f.pend.length ≤ 8 ∧ f.name.length ≤ 100 ∧ ∀ x ∈ f.pend, x.data.length ≤ 200
def LightD (d : Dk) : Prop := d.files.length ≤ 12 ∧ ∀ f ∈ d.files, LightF f
theorem mem_take_next {α : Type} {P : α → Prop} {l : List α} {k : Nat} {z : α} (h : k < l.length) (h1 : ∀ x ∈ l.take k, P x) (h2 : P (l.getD k z)) : ∀ x ∈ l.take (k + 1), P x := by
  rw [take_nextE l k z h]
  intro x hx
  rcases List.mem_append.1 hx with hx | hx
  · exact h1 x hx
  · rw [List.mem_singleton.1 hx]; exact h2
/-- light's answer. -/
def LitRes (P : Prop) (w : World) (e : Ending) (w' : World) : Prop := ∃ b : Bool, e = .returned (.bool b) ∧ (b = true → P) ∧ Below w.heap.size w w'
theorem litNo {P : Prop} {w w' : World} (h : Below w.heap.size w w') : LitRes P w (.returned (.bool false)) w' := ⟨false, rfl, (fun h => by cases h), h⟩
theorem litYes {P : Prop} {w w' : World} (hp : P) (h : Below w.heap.size w w') : LitRes P w (.returned (.bool true)) w' := ⟨true, rfl, fun _ => hp, h⟩
set_option maxRecDepth 100000 in
set_option maxHeartbeats 6400000 in
theorem light_any (d : Dk) (fv : Value) (w : World) (h : RdF w fv d.files) :
    Calls Tryd.prog 13 #[diskVal d.cap d.left fv] w (LitRes (LightD d) w) := by
  obtain ⟨a, cap, rfl, h1, h2, _⟩ := h.shape
  have HR := Lib.hid h
  have HT := Lib.hid (fun k (hk : k < d.files.length) (h1 : ∀ f ∈ d.files.take k, LightF f) (h2 : LightF (atN d.files k)) => mem_take_next (z := fil0) hk h1 h2)
  have HTe := Lib.hid (show d.files.take d.files.length = d.files from List.take_length)
  have HLi := Lib.hid (show d.files.length ≤ 12 → (∀ f ∈ d.files, LightF f) → LightD d from fun h1 h2 => ⟨h1, h2⟩)
  clear h
  obtain ⟨c, lf, fl⟩ := d
  dsimp only [diskVal] at *
  generalize LightD ⟨c, lf, fl⟩ = LL at *
  generalize fl.length = n at *
  have HBx := Lib.hid (show Below w.heap.size w (w.alloc (.cells #[.int .i64 c, .int .i64 lf, .slice a n cap] 24)) from (Below.refl _ _).alloc (Nat.le_refl _) _)
  have X := Lib.hid (BoxD.new w c lf (.slice a n cap) 24)
  go_enter Tryd.func13, Tryd.ntmps13
  go_upto_region 1 with fail
  generalize w.alloc (.cells #[.int .i64 c, .int .i64 lf, .slice a n cap] 24) = w0 at *
  have x2 := X.out.c2
  by_cases hn : n ≤ 12
  · have i0 : ¬ (12 : Int) < (n : Int) := by omega
    go_wp2_with fail
    go_loopw [14] (fun iv W => ∃ k : Nat, k ≤ n ∧ iv = .int .i64 (k : Int) ∧ Hid (Below w0.heap.size w0 W) ∧ Hid (∀ f ∈ fl.take k, LightF f)) (fun iv _ => n - (intOf iv).toNat)
    case atStart => exact ⟨0, Nat.zero_le _, rfl, Lib.hid (Below.refl _ _), Lib.hid (fun f hf => by cases hf)⟩
    case round =>
      obtain ⟨k, hk, rfl, HB, HA⟩ := hrel
      have HBw := Lib.hid (bstep HBx.out HB.out)
      by_cases hlt : k < n
      · have i1 : (k : Int) < (n : Int) := by omega
        obtain ⟨b, off, bv, pv, rfl, hbv, hpv, c0, c1, c2⟩ := (HR.out.below HBw.out).at hlt
        have HTk := Lib.hid (HT.out k hlt HA.out)
        obtain ⟨ba, bc, rfl, _⟩ := hbv.shape0
        obtain ⟨pa, pc, rfl, _⟩ := hpv.shape
        have HP := Lib.hid hpv
        clear hbv hpv
        generalize atN fl k = f at *
        obtain ⟨nm, base, ws⟩ := f
        dsimp only [LightF] at *
        have Hsn := Lib.hid (strB_size nm)
        generalize strB nm = sn at *
        have HWt := Lib.hid (fun j (hj : j < ws.length) (h1 : ∀ x ∈ ws.take j, x.data.length ≤ 200) (h2 : (watW ws j).data.length ≤ 200) => mem_take_next (P := fun x : Wr => x.data.length ≤ 200) (z := wr0) hj h1 h2)
        have HWe := Lib.hid (show ws.take ws.length = ws from List.take_length)
        generalize base.length = bl at *
        generalize ws.length = pl at *
        have HA1 := Lib.hid ((Below.refl wr.heap.size wr).alloc (Nat.le_refl _) (.cells #[.string sn, .slice ba bl bc, .slice pa pl pc] 73))
        have HP2 := Lib.hid (HP.out.below HA1.out)
        have F := Lib.hid (BoxF.new wr sn (.slice ba bl bc) (.slice pa pl pc) 73)
        have HB2 := Lib.hid (bstep HB.out HA1.out)
        go_upto_region 6 with fail
        clear c0 c1 c2
        generalize wr.alloc (.cells #[.string sn, .slice ba bl bc, .slice pa pl pc] 73) = w2 at *
        generalize wr.heap.size = FB at *
        have f0 := F.out.c0
        have f1 := F.out.c1
        have f2 := F.out.c2
        have HBw2 := Lib.hid (bstep HBx.out HB2.out)
        by_cases g1 : bl ≤ 500
        · have e1 : ¬ (500 : Int) < (bl : Int) := by omega
          have d1 : decide ((500 : Int) < (bl : Int)) = false := decide_eq_false e1
          by_cases g2 : pl ≤ 8
          · have e2 : ¬ (8 : Int) < (pl : Int) := by omega
            have d2 : decide ((8 : Int) < (pl : Int)) = false := decide_eq_false e2
            by_cases g3 : sn.size ≤ 100
            · have e3 : ¬ (100 : Int) < (sn.size : Int) := by omega
              have d3 : decide ((100 : Int) < (sn.size : Int)) = false := decide_eq_false e3
              go_upto_region 8 with fail
              clear f0 f1 d1 d2 d3
              go_wp2_with fail
              clear f2
              generalize wr = wo at *
              go_loopw [37] (fun jv W => ∃ j : Nat, j ≤ pl ∧ jv = .int .i64 (j : Int) ∧ Hid (Below w2.heap.size w2 W) ∧ Hid (∀ x ∈ ws.take j, x.data.length ≤ 200)) (fun jv _ => pl - (intOf jv).toNat)
              case atStart => exact ⟨0, Nat.zero_le _, rfl, Lib.hid (Below.refl _ _), Lib.hid (fun f hf => by cases hf)⟩
              case round =>
                obtain ⟨j, hj, rfl, HB3, HA3⟩ := hrel
                have HB4 := Lib.hid (bstep HB2.out HB3.out)
                have HBw4 := Lib.hid (bstep HBx.out HB4.out)
                by_cases hjt : j < pl
                · have i2 : (j : Int) < (pl : Int) := by omega
                  have hpw : RdW wr (.slice pa pl pc) ws := HP2.out.below HB3.out
                  obtain ⟨b', off', dv, rfl, hd, c0, c1, c2⟩ := hpw.at hjt
                  have HTj := Lib.hid (HWt.out j hjt HA3.out)
                  clear hpw
                  obtain ⟨da, dc, rfl, _⟩ := hd.shape0
                  clear hd
                  generalize watW ws j = x at *
                  obtain ⟨xo, xd, xc⟩ := x
                  dsimp only at *
                  generalize xd.length = dl at *
                  have HA5 := Lib.hid ((Below.refl wr.heap.size wr).alloc (Nat.le_refl _) (.cells #[.int .i64 xo, .slice da dl dc, .bool xc] 94))
                  have Z := Lib.hid (show BoxW (wr.alloc (.cells #[.int .i64 xo, .slice da dl dc, .bool xc] 94)) wr.heap.size xo (.slice da dl dc) xc from ⟨by simp, by simp, by simp⟩)
                  have HB5 := Lib.hid (bstep HB3.out HA5.out)
                  go_upto_region 11 with fail
                  clear c0 c1 c2
                  generalize wr.alloc (.cells #[.int .i64 xo, .slice da dl dc, .bool xc] 94) = w5 at *
                  generalize wr.heap.size = ZB at *
                  have HB6 := Lib.hid (bstep HB2.out HB5.out)
                  have HBw6 := Lib.hid (bstep HBx.out HB6.out)
                  have z0 := Z.out.c0
                  have z1 := Z.out.c1
                  by_cases g4 : dl ≤ 200
                  · have e4 : ¬ (200 : Int) < (dl : Int) := by omega
                    have d4 : decide ((200 : Int) < (dl : Int)) = false := decide_eq_false e4
                    by_cases g5 : 2000 < xo
                    · have d5 : decide (2000 < xo) = true := decide_eq_true g5
                      by_cases g6 : xo ≤ 1048576
                      · have d6 : decide (xo ≤ 1048576) = true := decide_eq_true g6
                        go_wp2_with fail
                        go_ret
                        exact litNo HBw6.out
                      · have d6 : decide (xo ≤ 1048576) = false := decide_eq_false g6
                        go_wp2_with fail
                        exact ⟨⟨j + 1, by omega, by go_num, HB5, Lib.hid (HTj.out g4)⟩, by simp [intOf]; omega⟩
                    · have d5 : decide (2000 < xo) = false := decide_eq_false g5
                      go_wp2_with fail
                      exact ⟨⟨j + 1, by omega, by go_num, HB5, Lib.hid (HTj.out g4)⟩, by simp [intOf]; omega⟩
                  · have e4 : (200 : Int) < (dl : Int) := by omega
                    go_wp2_with fail
                    go_ret
                    exact litNo HBw6.out
                · have i2 : ¬ (j : Int) < (pl : Int) := by omega
                  obtain rfl : j = pl := by omega
                  have HAn := Lib.hid (HTk.out ⟨g1, g2, by rw [← Hsn.out]; exact g3, by have h := HA3.out; rw [HWe.out] at h; exact h⟩)
                  go_wp2_with fail
                  exact ⟨⟨k + 1, by omega, by go_num, HB4, HAn⟩, by simp [intOf]; omega⟩
            · have e3 : (100 : Int) < (sn.size : Int) := by omega
              go_wp2_with fail
              go_ret
              exact litNo HBw2.out
          · have e2 : (8 : Int) < (pl : Int) := by omega
            go_wp2_with fail
            go_ret
            exact litNo HBw2.out
        · have e1 : (500 : Int) < (bl : Int) := by omega
          go_wp2_with fail
          go_ret
          exact litNo HBw2.out
      · have i1 : ¬ (k : Int) < (n : Int) := by omega
        obtain rfl : k = n := by omega
        have HE := Lib.hid (HLi.out hn (by have h := HA.out; rw [HTe.out] at h; exact h))
        go_wp2_with fail
        go_ret
        exact litYes HE.out HBw.out
  · have i0 : (12 : Int) < (n : Int) := by omega
    go_wp2_with fail
    go_ret
    exact litNo HBx.out
end Go.Proofs.YtkabcpmnbjllcaaDoor

namespace Go.Proofs.YtkabcpmnbjllcaaDoor
open Go.RowKit Go.ChangeShapes Go.WideShapes Go.Deep

/-- The numbers of a disk that came in. -/
structure DkWf (d : Dk) : Prop where
  cap : I64 d.cap
  left : I64 d.left
  off : ∀ f ∈ d.files, ∀ x ∈ f.pend, I64 x.off
theorem DkWf.lite {d : Dk} (h : DkWf d) (hl : LightD d) : LiteD d :=
  ⟨h.cap, h.left, by have := hl.1; omega, fun f hf => by
    obtain ⟨h1, h2, h3, h4⟩ := hl.2 f hf
    exact ⟨by omega, by omega, by omega, fun x hx => ⟨h.off f hf x hx, by have := h4 x hx; omega⟩⟩⟩
theorem LightD.pend {d : Dk} (hl : LightD d) : ∀ f ∈ d.files, f.pend.length ≤ 8 := fun f hf => (hl.2 f hf).2.1
section
variable {H : Type} {enc : TypeId × Value → H} {w : World}
theorem cellsOf_bool1 : Tryd.prog.cellsOf 4 = 1 := by kernel_rfl
theorem cellsOf_wrs : Tryd.prog.cellsOf 71 = 1 := by kernel_rfl
theorem cellsOf_fils : Tryd.prog.cellsOf 22 = 1 := by kernel_rfl
theorem structWr : ∃ f0 f1 f2, Tryd.prog.underlying 94 = some (.struct #[f0, f1, f2]) ∧ (f0.offset = 0 ∧ f1.offset = 1 ∧ f2.offset = 2) ∧ f0.type = 2 ∧ f1.type = 47 ∧ f2.type = 4 :=
  ⟨_, _, _, Tryd.underlying94, ⟨rfl, rfl, rfl⟩, rfl, rfl, rfl⟩
theorem cellsOfWr : Tryd.prog.cellsOf 94 = 3 := by kernel_rfl
def WrIn (w : World) (p : Wr × Value) : Prop := RdB w p.2 p.1.data ∧ I64 p.1.off
theorem open_wr {fuel : Nat} {cs : List Value} {x : DataW H × List MemPlace} (h : DataW.trod enc Tryd.prog w 0 (fun _ => true) true fuel 94 cs = some x) : ∃ y : Wr × Value, cs = wrC y ∧ WrIn w y := by
  obtain ⟨f0, f1, f2, hs, ⟨o0, o1, o2⟩, t0, t1, t2⟩ := structWr
  obtain ⟨xs, n, _, _, hlen, hxl, hf⟩ := DataW.trod_struct hs h
  rw [cellsOfWr] at hlen
  have hx : xs.length = 3 := by simpa using hxl
  have g : ∀ j (hj : j < 3), xs[j]? = some (xs[j]'(by omega)) := fun j hj => List.getElem?_eq_getElem (by omega)
  have h0 := (hf 0 f0 rfl).trans (g 0 (by omega))
  have h1 := (hf 1 f1 rfl).trans (g 1 (by omega))
  have h2 := (hf 2 f2 rfl).trans (g 2 (by omega))
  rw [t0, o0, cellsOf_i641] at h0
  rw [t1, o1, cellsOf_byts] at h1
  rw [t2, o2, cellsOf_bool1] at h2
  obtain ⟨o, e0, _, w0⟩ := DataW.trod_int Tryd.underlying2 h0
  obtain ⟨v, l, e1, hr⟩ := open_byts h1
  obtain ⟨b, e2, _⟩ := DataW.trod_bool Tryd.underlying4 h2
  have d0 := one_of e0
  have d1 := one_of e1
  have d2 := one_of e2
  refine ⟨(⟨o, l, b⟩, v), ?_, hr, bounds_of_i64 w0⟩
  match cs, hlen, d0, d1, d2 with
  | [p, q, r], _, d0, d1, d2 =>
    simp at d0 d1 d2
    subst d0 d1 d2
    rfl
theorem open_wrs {fuel : Nat} {cs : List Value} {x : DataW H × List MemPlace} (h : DataW.trod enc Tryd.prog w 0 (fun _ => true) true fuel 71 cs = some x) : ∃ (v : Value) (l : List Wr), cs = [v] ∧ RdW w v l ∧ ∀ x ∈ l, I64 x.off := by
  obtain ⟨v, es, e, h1, h2⟩ := open_rowsF (wr0, nilS) wrC (WrIn w) Tryd.underlying71 cellsOfWr (fun _ => rfl) (by decide) (fun _ _ _ h => open_wr h) h
  refine ⟨v, es.map (·.1), e, ⟨es, rfl, h1, fun p hp => (h2 p hp).1⟩, fun x hx => ?_⟩
  obtain ⟨p, hp, rfl⟩ := List.mem_map.1 hx
  exact (h2 p hp).2
theorem structFil : ∃ f0 f1 f2, Tryd.prog.underlying 73 = some (.struct #[f0, f1, f2]) ∧ (f0.offset = 0 ∧ f1.offset = 1 ∧ f2.offset = 2) ∧ f0.type = 9 ∧ f1.type = 47 ∧ f2.type = 71 :=
  ⟨_, _, _, Tryd.underlying73, ⟨rfl, rfl, rfl⟩, rfl, rfl, rfl⟩
theorem cellsOfFil : Tryd.prog.cellsOf 73 = 3 := by kernel_rfl
def FilIn (w : World) (p : FE) : Prop := RdB w p.2.1 p.1.base ∧ RdW w p.2.2 p.1.pend ∧ ∀ x ∈ p.1.pend, I64 x.off
theorem open_fil {fuel : Nat} {cs : List Value} {x : DataW H × List MemPlace} (h : DataW.trod enc Tryd.prog w 0 (fun _ => true) true fuel 73 cs = some x) : ∃ y : FE, cs = filC y ∧ FilIn w y := by
  obtain ⟨f0, f1, f2, hs, ⟨o0, o1, o2⟩, t0, t1, t2⟩ := structFil
  obtain ⟨xs, n, _, _, hlen, hxl, hf⟩ := DataW.trod_struct hs h
  rw [cellsOfFil] at hlen
  have hx : xs.length = 3 := by simpa using hxl
  have g : ∀ j (hj : j < 3), xs[j]? = some (xs[j]'(by omega)) := fun j hj => List.getElem?_eq_getElem (by omega)
  have h0 := (hf 0 f0 rfl).trans (g 0 (by omega))
  have h1 := (hf 1 f1 rfl).trans (g 1 (by omega))
  have h2 := (hf 2 f2 rfl).trans (g 2 (by omega))
  rw [t0, o0, cellsOf_str1] at h0
  rw [t1, o1, cellsOf_byts] at h1
  rw [t2, o2, cellsOf_wrs] at h2
  obtain ⟨s, e0, _, _⟩ := DataW.trod_string Tryd.underlying9 h0
  obtain ⟨v, l, e1, hr⟩ := open_byts h1
  obtain ⟨v2, l2, e2, hr2, ho⟩ := open_wrs h2
  have d0 := one_of e0
  have d1 := one_of e1
  have d2 := one_of e2
  refine ⟨(⟨s.data.toList, l, l2⟩, v, v2), ?_, hr, hr2, ho⟩
  match cs, hlen, d0, d1, d2 with
  | [p, q, r], _, d0, d1, d2 =>
    simp at d0 d1 d2
    subst d0 d1 d2
    rfl
theorem open_fils {fuel : Nat} {cs : List Value} {x : DataW H × List MemPlace} (h : DataW.trod enc Tryd.prog w 0 (fun _ => true) true fuel 22 cs = some x) : ∃ (v : Value) (l : List Fil), cs = [v] ∧ RdF w v l ∧ ∀ f ∈ l, ∀ x ∈ f.pend, I64 x.off := by
  obtain ⟨v, es, e, h1, h2⟩ := open_rowsF fe0 filC (FilIn w) Tryd.underlying22 cellsOfFil (fun _ => rfl) (by decide) (fun _ _ _ h => open_fil h) h
  refine ⟨v, es.map (·.1), e, ⟨es, rfl, h1, fun p hp => (h2 p hp).1, fun p hp => (h2 p hp).2.1⟩, fun x hx => ?_⟩
  obtain ⟨p, hp, rfl⟩ := List.mem_map.1 hx
  exact (h2 p hp).2.2
theorem structDk : ∃ f0 f1 f2, Tryd.prog.underlying 24 = some (.struct #[f0, f1, f2]) ∧ (f0.offset = 0 ∧ f1.offset = 1 ∧ f2.offset = 2) ∧ f0.type = 2 ∧ f1.type = 2 ∧ f2.type = 22 :=
  ⟨_, _, _, Tryd.underlying24, ⟨rfl, rfl, rfl⟩, rfl, rfl, rfl⟩
theorem cellsOfDk : Tryd.prog.cellsOf 24 = 3 := by kernel_rfl
theorem open_dk {fuel : Nat} {cs : List Value} {x : DataW H × List MemPlace} (h : DataW.trod enc Tryd.prog w 0 (fun _ => true) true fuel 24 cs = some x) : ∃ y : Dk × Value, cs = [.int .i64 y.1.cap, .int .i64 y.1.left, y.2] ∧ RdF w y.2 y.1.files ∧ DkWf y.1 := by
  obtain ⟨f0, f1, f2, hs, ⟨o0, o1, o2⟩, t0, t1, t2⟩ := structDk
  obtain ⟨xs, n, _, _, hlen, hxl, hf⟩ := DataW.trod_struct hs h
  rw [cellsOfDk] at hlen
  have hx : xs.length = 3 := by simpa using hxl
  have g : ∀ j (hj : j < 3), xs[j]? = some (xs[j]'(by omega)) := fun j hj => List.getElem?_eq_getElem (by omega)
  have h0 := (hf 0 f0 rfl).trans (g 0 (by omega))
  have h1 := (hf 1 f1 rfl).trans (g 1 (by omega))
  have h2 := (hf 2 f2 rfl).trans (g 2 (by omega))
  rw [t0, o0, cellsOf_i641] at h0
  rw [t1, o1, cellsOf_i641] at h1
  rw [t2, o2, cellsOf_fils] at h2
  obtain ⟨c, e0, _, w0⟩ := DataW.trod_int Tryd.underlying2 h0
  obtain ⟨l, e1, _, w1⟩ := DataW.trod_int Tryd.underlying2 h1
  obtain ⟨v, fl, e2, hr, ho⟩ := open_fils h2
  have d0 := one_of e0
  have d1 := one_of e1
  have d2 := one_of e2
  refine ⟨(⟨c, l, fl⟩, v), ?_, hr, bounds_of_i64 w0, bounds_of_i64 w1, ho⟩
  match cs, hlen, d0, d1, d2 with
  | [p, q, r], _, d0, d1, d2 =>
    simp at d0 d1 d2
    subst d0 d1 d2
    rfl
theorem open_diskv {cs : Array Value} {d : DataW H} {p : List MemPlace} (h : DataW.Trod enc Tryd.prog w 0 (fun _ => true) true 24 (.agg cs) d p) :
    ∃ y : Dk × Value, cs = #[.int .i64 y.1.cap, .int .i64 y.1.left, y.2] ∧ RdF w y.2 y.1.files ∧ DkWf y.1 := by
  obtain ⟨fuel, hf⟩ := h
  obtain ⟨y, h1, h2⟩ := open_dk hf
  exact ⟨y, Array.ext' h1, h2⟩
theorem open_opv {cs : Array Value} {d : DataW H} {p : List MemPlace} (h : DataW.Trod enc Tryd.prog w 0 (fun _ => true) true 85 (.agg cs) d p) :
    ∃ y : Opr × Value × Value, cs = #[.int .i64 y.1.kind, .string (strB y.1.name), .string (strB y.1.to), .int .i64 y.1.off, y.2.1, y.2.2] ∧ OpIn w y := by
  obtain ⟨fuel, hf⟩ := h
  obtain ⟨y, h1, h2⟩ := open_op hf
  exact ⟨y, Array.ext' h1, h2⟩
end
end Go.Proofs.YtkabcpmnbjllcaaDoor
