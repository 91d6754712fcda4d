/- Several texts in one, each over the last: NmapReads: the walk. What is known of an item that came in by value. What is known of a needle map that came in by value. NmapReads, from what the form gives of its arguments. -/
import Derived.Test.YtndhjfmdfcpceaaGG
import Derived.Test.YtndhjfmdfcpceaaGH
import Derived.Test.YtndhjfmdfcpceaaGE
import Derived.Deep.RegionHeld3
import Derived.Test.YtndhjfmdfcpceaaGB
namespace Go.Proofs.Ytndhjfmdfcpceaa
open Go.RowKit

theorem i64_and65535 (n : Int) : bits .and .i64 n 65535 = n % 65536 := by
  have hm : (BitVec.ofInt 64 65535).toNat = 2 ^ 16 - 1 := by decide
  have key : (BitVec.ofInt 64 n &&& BitVec.ofInt 64 65535).toNat = (n % ((2 ^ 64 : Nat) : Int)).toNat % 2 ^ 16 := by
    rw [BitVec.toNat_and, BitVec.toNat_ofInt, hm, Nat.and_two_pow_sub_one_eq_mod]
  show IntKind.i64.wrap ((BitVec.ofInt 64 n &&& BitVec.ofInt 64 65535).toNat : Nat) = n % 65536
  rw [key, IntKind.wrap_i64]
  omega
theorem i64_and63 (n : Int) : bits .and .i64 n 63 = n % 64 := by
  have hm : (BitVec.ofInt 64 63).toNat = 2 ^ 6 - 1 := by decide
  have key : (BitVec.ofInt 64 n &&& BitVec.ofInt 64 63).toNat = (n % ((2 ^ 64 : Nat) : Int)).toNat % 2 ^ 6 := by
    rw [BitVec.toNat_and, BitVec.toNat_ofInt, hm, Nat.and_two_pow_sub_one_eq_mod]
  show IntKind.i64.wrap ((BitVec.ofInt 64 n &&& BitVec.ofInt 64 63).toNat : Nat) = n % 64
  rw [key, IntKind.wrap_i64]
  omega
theorem u64_and7 (n : Int) : bits .and .u64 n 7 = n % 8 := by
  have hm : (BitVec.ofInt 64 7).toNat = 2 ^ 3 - 1 := by decide
  have key : (BitVec.ofInt 64 n &&& BitVec.ofInt 64 7).toNat = (n % ((2 ^ 64 : Nat) : Int)).toNat % 2 ^ 3 := by
    rw [BitVec.toNat_and, BitVec.toNat_ofInt, hm, Nat.and_two_pow_sub_one_eq_mod]
  show IntKind.u64.wrap ((BitVec.ofInt 64 n &&& BitVec.ofInt 64 7).toNat : Nat) = n % 8
  rw [key]
  simp [IntKind.wrap, IntKind.signed, IntKind.bits]
  omega
/-- A slice of maps that was just laid. -/
structure ArrM (W : World) (b n : Nat) (sl : Nat → Sl) (mp : Nat → Mp) : Prop where
  c : ∀ i, i < n → ∀ j, j < 8 → W.cell? ⟨b, i * 10 + j, none⟩ = some ((sl i).v j)
  cl : ∀ i, i < n → W.cell? ⟨b, i * 10 + 8, none⟩ = some (.int .i64 (mp i).live)
  cg : ∀ i, i < n → W.cell? ⟨b, i * 10 + 9, none⟩ = some (.int .i64 (mp i).garb)
theorem ArrM.below {W W' : World} {b n : Nat} {sl : Nat → Sl} {mp : Nat → Mp} (h : ArrM W b n sl mp) (hb : Below W.heap.size W W') : ArrM W' b n sl mp :=
  ⟨fun i hi j hj => Below.keeps hb _ _ (h.c i hi j hj), fun i hi => Below.keeps hb _ _ (h.cl i hi), fun i hi => Below.keeps hb _ _ (h.cg i hi)⟩
abbrev mapC2 (s : Sl) (L G : Int) (t : Sl) (L2 G2 : Int) : Array Value := #[.slice (s.a 0) (s.n 0) (s.c 0), .slice (s.a 1) (s.n 1) (s.c 1), .slice (s.a 2) (s.n 2) (s.c 2), .slice (s.a 3) (s.n 3) (s.c 3), .slice (s.a 4) (s.n 4) (s.c 4), .slice (s.a 5) (s.n 5) (s.c 5), .slice (s.a 6) (s.n 6) (s.c 6), .slice (s.a 7) (s.n 7) (s.c 7), .int .i64 L, .int .i64 G, .slice (t.a 0) (t.n 0) (t.c 0), .slice (t.a 1) (t.n 1) (t.c 1), .slice (t.a 2) (t.n 2) (t.c 2), .slice (t.a 3) (t.n 3) (t.c 3), .slice (t.a 4) (t.n 4) (t.c 4), .slice (t.a 5) (t.n 5) (t.c 5), .slice (t.a 6) (t.n 6) (t.c 6), .slice (t.a 7) (t.n 7) (t.c 7), .int .i64 L2, .int .i64 G2]
abbrev mapC3 (s : Sl) (L G : Int) (t : Sl) (L2 G2 : Int) (u : Sl) (L3 G3 : Int) : Array Value := #[.slice (s.a 0) (s.n 0) (s.c 0), .slice (s.a 1) (s.n 1) (s.c 1), .slice (s.a 2) (s.n 2) (s.c 2), .slice (s.a 3) (s.n 3) (s.c 3), .slice (s.a 4) (s.n 4) (s.c 4), .slice (s.a 5) (s.n 5) (s.c 5), .slice (s.a 6) (s.n 6) (s.c 6), .slice (s.a 7) (s.n 7) (s.c 7), .int .i64 L, .int .i64 G, .slice (t.a 0) (t.n 0) (t.c 0), .slice (t.a 1) (t.n 1) (t.c 1), .slice (t.a 2) (t.n 2) (t.c 2), .slice (t.a 3) (t.n 3) (t.c 3), .slice (t.a 4) (t.n 4) (t.c 4), .slice (t.a 5) (t.n 5) (t.c 5), .slice (t.a 6) (t.n 6) (t.c 6), .slice (t.a 7) (t.n 7) (t.c 7), .int .i64 L2, .int .i64 G2, .slice (u.a 0) (u.n 0) (u.c 0), .slice (u.a 1) (u.n 1) (u.c 1), .slice (u.a 2) (u.n 2) (u.c 2), .slice (u.a 3) (u.n 3) (u.c 3), .slice (u.a 4) (u.n 4) (u.c 4), .slice (u.a 5) (u.n 5) (u.c 5), .slice (u.a 6) (u.n 6) (u.c 6), .slice (u.a 7) (u.n 7) (u.c 7), .int .i64 L3, .int .i64 G3]
def two {α : Type} (a b : α) : Nat → α
  | 0 => a
  | _ => b
def three {α : Type} (a b c : α) : Nat → α
  | 0 => a
  | 1 => b
  | _ => c
theorem ArrM.new2 (W : World) (s t : Sl) (M N : Mp) (e : TypeId) : ArrM (W.alloc (.cells (mapC2 s M.live M.garb t N.live N.garb) e)) W.heap.size 2 (two s t) (two M N) := by
  refine ⟨fun i hi j hj => ?_, fun i hi => ?_, fun i hi => ?_⟩
  · rcases (show i = 0 ∨ i = 1 by omega) with h | h <;> subst h <;> (rcases lt8 hj with h | h | h | h | h | h | h | h <;> subst h <;> simp [Sl.v, two])
  · rcases (show i = 0 ∨ i = 1 by omega) with h | h <;> subst h <;> simp [two]
  · rcases (show i = 0 ∨ i = 1 by omega) with h | h <;> subst h <;> simp [two]
theorem ArrM.new3 (W : World) (s t u : Sl) (M N O : Mp) (e : TypeId) : ArrM (W.alloc (.cells (mapC3 s M.live M.garb t N.live N.garb u O.live O.garb) e)) W.heap.size 3 (three s t u) (three M N O) := by
  refine ⟨fun i hi j hj => ?_, fun i hi => ?_, fun i hi => ?_⟩
  · rcases (show i = 0 ∨ i = 1 ∨ i = 2 by omega) with h | h | h <;> subst h <;> (rcases lt8 hj with h | h | h | h | h | h | h | h <;> subst h <;> simp [Sl.v, three])
  · rcases (show i = 0 ∨ i = 1 ∨ i = 2 by omega) with h | h | h <;> subst h <;> simp [three]
  · rcases (show i = 0 ∨ i = 1 ∨ i = 2 by omega) with h | h | h <;> subst h <;> simp [three]
set_option maxRecDepth 100000 in
set_option maxHeartbeats 8000000 in
theorem reads_walk (q : Sl × Mp) (va : Value) (g key : Int) (l : List It) (w : World) (h0 : RdM w q.1 q.2.st) (h : RdT w va l) :
    Calls Try.prog 4 #[mapV q.1 q.2.live q.2.garb, va, .int .i64 g, .int .u64 key] w fun e w' => e = .returned (.bool true) ∧ Below w.heap.size w w' := by
  obtain ⟨s, M⟩ := q
  dsimp only at *
  have HX := Lib.hid (BoxM.new w s M.live M.garb 25)
  have HB := Lib.hid (below_map w s M.live M.garb 25)
  have HLi := Lib.hid (fun W hb => light_any s M.live M.garb M.st W (h0.below hb))
  have HLq := Lib.hid (fun h => lightM_iff (f := M.st) h)
  have HR := Lib.hid h0
  have HRl := Lib.hid h
  have HAw := Lib.hid (fun W => awakeM_any W)
  clear h0 h
  go_enter Try.func4, Try.ntmps4
  go_upto_region 1 with fail
  obtain ⟨W0, hW0⟩ : ∃ W0, w.alloc (.cells (mapC s M.live M.garb) 25) = W0 := ⟨_, rfl⟩
  rw [hW0] at HX HB
  rw [hW0]
  clear hW0
  have c0 := HX.out.c0
  have c1 := HX.out.c1
  have c2 := HX.out.c2
  have c3 := HX.out.c3
  have c4 := HX.out.c4
  have c5 := HX.out.c5
  have c6 := HX.out.c6
  have c7 := HX.out.c7
  have c8 := HX.out.cl
  have c9 := HX.out.cg
  have cF := HX.out.f
  go_wp2_with fail
  refine (HLi.out _ HB.out).mono ?_; rintro e w1 ⟨rfl, hb1⟩
  have HX1 := Lib.hid (HX.out.below hb1)
  have HB1 := Lib.hid (bstep HB.out hb1)
  clear c0 c1 c2 c3 c4 c5 c6 c7 c8 c9 cF hb1 HX HB HLi
  generalize lightM M.st = lb at *
  cases lb
  · go_wp2_with fail
    refine (HAw.out _).mono ?_; rintro e w2 ⟨rfl, hb2⟩
    have HB2 := Lib.hid (bstep HB1.out hb2)
    clear hb2
    go_wp2_with fail
    go_ret
    exact ⟨rfl, HB2.out⟩
  · have hlen := HLq.out rfl
    clear HLq
    have hand := i64_and65535 g
    have hg : 0 ≤ g % 65536 ∧ g % 65536 < 65536 := by omega
    have hn20 := lawI_length l
    have HI := Lib.hid (fun W (hb : Below w1.heap.size w1 W) => lawI_any va l W (HRl.out.below (bstep HB1.out hb)))
    have HFm := Lib.hid (fun v W h => rfromM_any v (lawI l) (g % 65536) W h (Nat.le_trans hn20 (by decide)))
    have HFl := Lib.hid (fun i => Nat.le_trans (fromM_len (lawI l) (g % 65536) i) hn20)
    generalize fromM (lawI l) (g % 65536) = F at *
    clear hn20
    go_wp2_with fail
    have HSX := Lib.hid (show ∀ WV, Below w1.heap.size w1 WV → WV.cell? ⟨w.heap.size, 0, none⟩ = some (.slice (s.a 0) (s.n 0) (s.c 0)) ∧ WV.cell? ⟨w.heap.size, 1, none⟩ = some (.slice (s.a 1) (s.n 1) (s.c 1)) ∧ WV.cell? ⟨w.heap.size, 2, none⟩ = some (.slice (s.a 2) (s.n 2) (s.c 2)) ∧ WV.cell? ⟨w.heap.size, 3, none⟩ = some (.slice (s.a 3) (s.n 3) (s.c 3)) ∧ WV.cell? ⟨w.heap.size, 4, none⟩ = some (.slice (s.a 4) (s.n 4) (s.c 4)) ∧ WV.cell? ⟨w.heap.size, 5, none⟩ = some (.slice (s.a 5) (s.n 5) (s.c 5)) ∧ WV.cell? ⟨w.heap.size, 6, none⟩ = some (.slice (s.a 6) (s.n 6) (s.c 6)) ∧ WV.cell? ⟨w.heap.size, 7, none⟩ = some (.slice (s.a 7) (s.n 7) (s.c 7)) ∧ WV.cell? ⟨w.heap.size, 8, none⟩ = some (.int .i64 M.live) ∧ WV.cell? ⟨w.heap.size, 9, none⟩ = some (.int .i64 M.garb) from fun WV hb => ⟨(HX1.out.below hb).c0, (HX1.out.below hb).c1, (HX1.out.below hb).c2, (HX1.out.below hb).c3, (HX1.out.below hb).c4, (HX1.out.below hb).c5, (HX1.out.below hb).c6, (HX1.out.below hb).c7, (HX1.out.below hb).cl, (HX1.out.below hb).cg⟩)
    go_region_held3 (fun w' => w'.cell? ⟨w.heap.size, 0, none⟩ = some (.slice (s.a 0) (s.n 0) (s.c 0)) ∧ w'.cell? ⟨w.heap.size, 1, none⟩ = some (.slice (s.a 1) (s.n 1) (s.c 1)) ∧ w'.cell? ⟨w.heap.size, 2, none⟩ = some (.slice (s.a 2) (s.n 2) (s.c 2)) ∧ w'.cell? ⟨w.heap.size, 3, none⟩ = some (.slice (s.a 3) (s.n 3) (s.c 3)) ∧ w'.cell? ⟨w.heap.size, 4, none⟩ = some (.slice (s.a 4) (s.n 4) (s.c 4)) ∧ w'.cell? ⟨w.heap.size, 5, none⟩ = some (.slice (s.a 5) (s.n 5) (s.c 5)) ∧ w'.cell? ⟨w.heap.size, 6, none⟩ = some (.slice (s.a 6) (s.n 6) (s.c 6)) ∧ w'.cell? ⟨w.heap.size, 7, none⟩ = some (.slice (s.a 7) (s.n 7) (s.c 7)) ∧ w'.cell? ⟨w.heap.size, 8, none⟩ = some (.int .i64 M.live) ∧ w'.cell? ⟨w.heap.size, 9, none⟩ = some (.int .i64 M.garb))
      (first | with_reducible exact HSX.out _ (((bstep (bstep (Below.refl _ _).drew hba) hbb)).alloc ((bstep (bstep (Below.refl _ _).drew hba) hbb)).size _) | with_reducible exact HSX.out _ (bstep (bstep (Below.refl _ _).drew hba) hbb) | with_reducible exact HSX.out _ (bstep (Below.refl _ _).drew hba) | exact HSX.out _ (Below.refl _ _).drew)
      (first | (go_at_call 12; (with_reducible refine (HI.out _ (Below.refl _ _).drew).mono ?_); rintro e wa ⟨va1, rfl, howna, hba⟩) | (go_at_call 11; (with_reducible refine (HFm.out _ _ (OwnT.rd howna)).mono ?_); rintro e wb ⟨⟨sF, rfl, hownb⟩, hbb⟩))
    rename_i hHeld
    clear hHeld
    have hbc := bstep (below_drew (Below.refl w1.heap.size w1)) (bstep hba hbb)
    have HBc := Lib.hid (bstep HB1.out hbc)
    have HRs := Lib.hid (show RdM wb s M.st from HR.out.below (bstep HB1.out hbc))
    have HRf := Lib.hid (show RdM wb sF F.st from hownb.rd)
    clear hba hbb hbc howna hownb HI HFm HSX HX1 HB1 hand hg
    go_upto_region 4 with fail
    obtain ⟨W4, hW4⟩ : ∃ W4, wb.alloc (.cells (mapC2 s M.live M.garb sF F.live F.garb) 25) = W4 := ⟨_, rfl⟩
    have hb4 := show Below wb.heap.size wb W4 from hW4 ▸ (Below.refl _ _).alloc (Nat.le_refl _) _
    have HA4 := Lib.hid (show ArrM W4 wb.heap.size 2 (two s sF) (two M F) from hW4 ▸ ArrM.new2 wb s sF M F 25)
    have HR4 := Lib.hid (show ∀ i, i < 2 → RdM W4 (two s sF i) (two M F i).st from fun i hi => by
      rcases (show i = 0 ∨ i = 1 by omega) with h | h <;> subst h
      · exact HRs.out.below hb4
      · exact HRf.out.below hb4)
    have HN4 := Lib.hid (show ∀ i, i < 2 → ∀ j, j < 8 → ((two M F i).st j).length ≤ 20 from fun i hi j hj => by
      rcases (show i = 0 ∨ i = 1 by omega) with h | h <;> subst h
      · exact Nat.le_trans (hlen j hj) (by decide)
      · exact HFl.out j)
    have HB4 := Lib.hid (bstep HBc.out hb4)
    rw [show wb.alloc (.cells #[.slice (s.a 0) (s.n 0) (s.c 0), .slice (s.a 1) (s.n 1) (s.c 1), .slice (s.a 2) (s.n 2) (s.c 2), .slice (s.a 3) (s.n 3) (s.c 3), .slice (s.a 4) (s.n 4) (s.c 4), .slice (s.a 5) (s.n 5) (s.c 5), .slice (s.a 6) (s.n 6) (s.c 6), .slice (s.a 7) (s.n 7) (s.c 7), .int .i64 M.live, .int .i64 M.garb, .slice (sF.a 0) (sF.n 0) (sF.c 0), .slice (sF.a 1) (sF.n 1) (sF.c 1), .slice (sF.a 2) (sF.n 2) (sF.c 2), .slice (sF.a 3) (sF.n 3) (sF.c 3), .slice (sF.a 4) (sF.n 4) (sF.c 4), .slice (sF.a 5) (sF.n 5) (sF.c 5), .slice (sF.a 6) (sF.n 6) (sF.c 6), .slice (sF.a 7) (sF.n 7) (sF.c 7), .int .i64 F.live, .int .i64 F.garb] 25) = W4 from hW4]
    clear hW4 hb4 HRs HRf HBc hlen HFl
    generalize two s sF = sl at *
    generalize two M F = mp at *
    generalize wb.heap.size = bs at *
    go_wp2_with fail
    go_loopw [30] (fun iv W => ∃ i : Nat, iv = .int .i64 (i : Int) ∧ i ≤ 2 ∧ Hid (Below W4.heap.size W4 W)) (fun iv _ => 2 - (intOf iv).toNat)
    case atStart => exact ⟨0, rfl, Nat.zero_le _, Lib.hid (Below.refl _ _)⟩
    case round =>
      obtain ⟨i, rfl, hi, HBi⟩ := hrel
      by_cases hin : i < 2
      · have ii1 : (i : Int) < 2 := by omega
        have HAi := Lib.hid (HA4.out.below HBi.out)
        have HRi := Lib.hid (fun W hb => (HR4.out i hin).below (w' := W) (bstep HBi.out hb))
        have hs : ∀ j, j < 8 → ((mp i).st j).length ≤ 10000 := fun j hj => Nat.le_trans (HN4.out i hin j hj) (by decide)
        have e0 := HAi.out.c i hin 0 (by decide)
        have e1 := HAi.out.c i hin 1 (by decide)
        have e2 := HAi.out.c i hin 2 (by decide)
        have e3 := HAi.out.c i hin 3 (by decide)
        have e4 := HAi.out.c i hin 4 (by decide)
        have e5 := HAi.out.c i hin 5 (by decide)
        have e6 := HAi.out.c i hin 6 (by decide)
        have e7 := HAi.out.c i hin 7 (by decide)
        have e8 := HAi.out.cl i hin
        have e9 := HAi.out.cg i hin
        generalize sl i = t at *
        generalize mp i = N at *
        rw [Sl.v] at e0 e1 e2 e3 e4 e5 e6 e7
        rw [Nat.add_zero] at e0
        go_upto_region 6 with fail
        obtain ⟨W5, hW5⟩ : ∃ W5, wr.alloc (.cells (mapC t N.live N.garb) 25) = W5 := ⟨_, rfl⟩
        have hb5 := below_map wr t N.live N.garb 25
        rw [hW5] at hb5
        have HX5 := Lib.hid (show BoxM W5 wr.heap.size t N.live N.garb from hW5 ▸ BoxM.new wr t N.live N.garb 25)
        have HB5 := Lib.hid (bstep HBi.out hb5)
        have HRn := Lib.hid (fun W (hb : Below W5.heap.size W5 W) => HRi.out W (bstep hb5 hb))
        rw [show wr.alloc (.cells #[.slice (t.a 0) (t.n 0) (t.c 0), .slice (t.a 1) (t.n 1) (t.c 1), .slice (t.a 2) (t.n 2) (t.c 2), .slice (t.a 3) (t.n 3) (t.c 3), .slice (t.a 4) (t.n 4) (t.c 4), .slice (t.a 5) (t.n 5) (t.c 5), .slice (t.a 6) (t.n 6) (t.c 6), .slice (t.a 7) (t.n 7) (t.c 7), .int .i64 N.live, .int .i64 N.garb] 25) = W5 from hW5]
        clear hW5 hb5 HRi HAi HBi e0 e1 e2 e3 e4 e5 e6 e7 e8 e9
        generalize wr.heap.size = bx at *
        have c0 := HX5.out.c0
        have c1 := HX5.out.c1
        have c2 := HX5.out.c2
        have c3 := HX5.out.c3
        have c4 := HX5.out.c4
        have c5 := HX5.out.c5
        have c6 := HX5.out.c6
        have c7 := HX5.out.c7
        have c8 := HX5.out.cl
        have c9 := HX5.out.cg
        have cF := HX5.out.f
        go_wp2_with fail
        refine (given_any t N.live N.garb _).mono ?_; rintro e w6 ⟨rfl, hb6⟩
        have hb6' := bstep hb6 (below_map w6 t N.live N.garb 37)
        have HX6 := Lib.hid (HX5.out.below hb6')
        have HY6 := Lib.hid (BoxM.new w6 t N.live N.garb 37)
        have HB6 := Lib.hid (bstep HB5.out hb6')
        have HR6 := Lib.hid (fun W (hb : Below (w6.alloc (.cells (mapC t N.live N.garb) 37)).heap.size (w6.alloc (.cells (mapC t N.live N.garb) 37)) W) => HRn.out W (bstep hb6' hb))
        clear c0 c1 c2 c3 c4 c5 c6 c7 c8 c9 cF hb6 hb6' HX5 HB5 HRn
        go_upto_region 7 with fail
        obtain ⟨W7, hW7⟩ : ∃ W7, w6.alloc (.cells (mapC t N.live N.garb) 37) = W7 := ⟨_, rfl⟩
        rw [hW7] at HX6 HY6 HB6 HR6
        rw [hW7]
        clear hW7
        generalize w6.heap.size = bY at *
        have hand7 := u64_and7 key
        have HK8 := Lib.hid (show ∀ r, r < 2 → (W7.alloc (.cells #[.int .u64 key, .int .u64 (key % 8)] 26)).cell? ⟨W7.heap.size, r, none⟩ = some (.int .u64 (two key (key % 8) r)) from fun r hr => by
          rcases (show r = 0 ∨ r = 1 by omega) with h | h <;> subst h <;> simp [two])
        have hb8 := show Below W7.heap.size W7 (W7.alloc (.cells #[.int .u64 key, .int .u64 (key % 8)] 26)) from (Below.refl _ _).alloc (Nat.le_refl _) _
        go_upto_region 8 with fail
        obtain ⟨W8, hW8⟩ : ∃ W8, W7.alloc (.cells #[.int .u64 key, .int .u64 (key % 8)] 26) = W8 := ⟨_, rfl⟩
        rw [hW8] at HK8 hb8
        rw [hW8]
        have HX8 := Lib.hid (HX6.out.below hb8)
        have HY8 := Lib.hid (HY6.out.below hb8)
        have HB8 := Lib.hid (bstep HB6.out hb8)
        have HR8 := Lib.hid (fun W (hb : Below W8.heap.size W8 W) => HR6.out W (bstep hb8 hb))
        clear hW8 hb8 HX6 HY6 HB6 HR6 hand7
        generalize W7.heap.size = bk at *
        generalize two key (key % 8) = kf at *
        go_wp2_with fail
        go_loopw [41] (fun rv W => ∃ r : Nat, rv = .int .i64 (r : Int) ∧ r ≤ 2 ∧ Hid (Below W8.heap.size W8 W)) (fun rv _ => 2 - (intOf rv).toNat)
        case atStart => exact ⟨0, rfl, Nat.zero_le _, Lib.hid (Below.refl _ _)⟩
        case round =>
          obtain ⟨r, rfl, hr, HBr⟩ := hrel
          have HXr := Lib.hid (HX8.out.below HBr.out)
          have HYr := Lib.hid (HY8.out.below HBr.out)
          by_cases hrt : r < 2
          · have rr1 : (r : Int) < 2 := by omega
            have kr := Below.keeps HBr.out _ _ (HK8.out r hrt)
            generalize kf r = k at *
            have HG := Lib.hid (fun W (hb : Below W8.heap.size W8 W) => getM_any t N k W (HR8.out W hb) hs)
            have HG2 := Lib.hid (fun W (hb : Below W8.heap.size W8 W) => rgetM_any t N k W (HR8.out W hb) hs)
            generalize getM N k = o at *
            obtain ⟨y, hy⟩ : ∃ y, o.getD it0 = y := ⟨_, rfl⟩
            rw [hy] at HG HG2
            clear hy
            have c0 := HYr.out.c0
            have c1 := HYr.out.c1
            have c2 := HYr.out.c2
            have c3 := HYr.out.c3
            have c4 := HYr.out.c4
            have c5 := HYr.out.c5
            have c6 := HYr.out.c6
            have c7 := HYr.out.c7
            have c8 := HYr.out.cl
            have c9 := HYr.out.cg
            have cF := HYr.out.f
            go_wp2_with fail
            refine (HG.out _ HBr.out).mono ?_; rintro e w9 ⟨rfl, hb9⟩
            have hb9' := bstep hb9 (below_box w9 y)
            have HX9 := Lib.hid (HXr.out.below hb9')
            have HB9 := Lib.hid (bstep HBr.out hb9')
            have HI9 := Lib.hid (BoxI.new w9 y)
            clear c0 c1 c2 c3 c4 c5 c6 c7 c8 c9 cF hb9 hb9' HXr HYr HBr kr
            go_upto_region 11 with fail
            obtain ⟨W10, hW10⟩ : ∃ W10, w9.alloc (boxC y) = W10 := ⟨_, rfl⟩
            rw [hW10] at HX9 HB9 HI9
            rw [show w9.alloc (.cells #[.int .u64 y.key, .int .u32 y.ck, .int .i64 y.off, .int .i64 y.size] 29) = W10 from hW10]
            clear hW10
            generalize w9.heap.size = by9 at *
            have c0 := HX9.out.c0
            have c1 := HX9.out.c1
            have c2 := HX9.out.c2
            have c3 := HX9.out.c3
            have c4 := HX9.out.c4
            have c5 := HX9.out.c5
            have c6 := HX9.out.c6
            have c7 := HX9.out.c7
            have c8 := HX9.out.cl
            have c9 := HX9.out.cg
            have cF := HX9.out.f
            go_wp2_with fail
            refine (HG2.out _ HB9.out).mono ?_; rintro e w11 ⟨rfl, hb11⟩
            have HI11 := Lib.hid (HI9.out.below hb11)
            have HB11 := Lib.hid (bstep (bstep HB9.out hb11) (below_box w11 y))
            have hlt11 := HI11.out.lt
            clear c0 c1 c2 c3 c4 c5 c6 c7 c8 c9 cF hb11 HX9 HB9 HI9
            have i0 := HI11.out.t.c0
            have i1 := HI11.out.t.c1
            have i2 := HI11.out.t.c2
            have i3 := HI11.out.t.c3
            have iF := HI11.out.f
            go_wp2_with fail
            exact ⟨⟨r + 1, by go_num, by omega, HB11⟩, by simp [intOf]; omega⟩
          · have rr1 : ¬ (r : Int) < 2 := by omega
            obtain rfl : r = 2 := by omega
            have HVa := Lib.hid (fun W (hb : Below wr.heap.size wr W) => validM_any t N W (HR8.out W (bstep HBr.out hb)) (fun j hj => Nat.le_trans (hs j hj) (by decide)))
            have HVb := Lib.hid (fun W (hb : Below wr.heap.size wr W) => rvalidM_any t N W (HR8.out W (bstep HBr.out hb)) (fun j hj => Nat.le_trans (hs j hj) (by decide)))
            have HLa := Lib.hid (fun W (hb : Below wr.heap.size wr W) => lenM_any t N W (HR8.out W (bstep HBr.out hb)) hs)
            have HLb := Lib.hid (fun W (hb : Below wr.heap.size wr W) => rlenM_any t N W (HR8.out W (bstep HBr.out hb)) hs)
            have HIa := Lib.hid (fun W (hb : Below wr.heap.size wr W) => itemsM_any t N W (HR8.out W (bstep HBr.out hb)) hs)
            have HIb := Lib.hid (fun W (hb : Below wr.heap.size wr W) => ritemsM_any t N W (HR8.out W (bstep HBr.out hb)) hs)
            have HSm := Lib.hid (fun va vb W h h2 => same_any va vb (itemsM N) (itemsM N) W h h2)
            rw [decide_eq_true (rfl : itemsM N = itemsM N)] at HSm
            generalize vldM N = vb at *
            generalize itemsM N = I at *
            generalize I.length = il at *
            have HSX := Lib.hid (show ∀ WV, Below wr.heap.size wr WV → WV.cell? ⟨bx, 0, none⟩ = some (.slice (t.a 0) (t.n 0) (t.c 0)) ∧ WV.cell? ⟨bx, 1, none⟩ = some (.slice (t.a 1) (t.n 1) (t.c 1)) ∧ WV.cell? ⟨bx, 2, none⟩ = some (.slice (t.a 2) (t.n 2) (t.c 2)) ∧ WV.cell? ⟨bx, 3, none⟩ = some (.slice (t.a 3) (t.n 3) (t.c 3)) ∧ WV.cell? ⟨bx, 4, none⟩ = some (.slice (t.a 4) (t.n 4) (t.c 4)) ∧ WV.cell? ⟨bx, 5, none⟩ = some (.slice (t.a 5) (t.n 5) (t.c 5)) ∧ WV.cell? ⟨bx, 6, none⟩ = some (.slice (t.a 6) (t.n 6) (t.c 6)) ∧ WV.cell? ⟨bx, 7, none⟩ = some (.slice (t.a 7) (t.n 7) (t.c 7)) ∧ WV.cell? ⟨bx, 8, none⟩ = some (.int .i64 N.live) ∧ WV.cell? ⟨bx, 9, none⟩ = some (.int .i64 N.garb) ∧ WV.cell? ⟨bY, 0, none⟩ = some (.slice (t.a 0) (t.n 0) (t.c 0)) ∧ WV.cell? ⟨bY, 1, none⟩ = some (.slice (t.a 1) (t.n 1) (t.c 1)) ∧ WV.cell? ⟨bY, 2, none⟩ = some (.slice (t.a 2) (t.n 2) (t.c 2)) ∧ WV.cell? ⟨bY, 3, none⟩ = some (.slice (t.a 3) (t.n 3) (t.c 3)) ∧ WV.cell? ⟨bY, 4, none⟩ = some (.slice (t.a 4) (t.n 4) (t.c 4)) ∧ WV.cell? ⟨bY, 5, none⟩ = some (.slice (t.a 5) (t.n 5) (t.c 5)) ∧ WV.cell? ⟨bY, 6, none⟩ = some (.slice (t.a 6) (t.n 6) (t.c 6)) ∧ WV.cell? ⟨bY, 7, none⟩ = some (.slice (t.a 7) (t.n 7) (t.c 7)) ∧ WV.cell? ⟨bY, 8, none⟩ = some (.int .i64 N.live) ∧ WV.cell? ⟨bY, 9, none⟩ = some (.int .i64 N.garb) from fun WV hb => ⟨((HX8.out.below HBr.out).below hb).c0, ((HX8.out.below HBr.out).below hb).c1, ((HX8.out.below HBr.out).below hb).c2, ((HX8.out.below HBr.out).below hb).c3, ((HX8.out.below HBr.out).below hb).c4, ((HX8.out.below HBr.out).below hb).c5, ((HX8.out.below HBr.out).below hb).c6, ((HX8.out.below HBr.out).below hb).c7, ((HX8.out.below HBr.out).below hb).cl, ((HX8.out.below HBr.out).below hb).cg, ((HY8.out.below HBr.out).below hb).c0, ((HY8.out.below HBr.out).below hb).c1, ((HY8.out.below HBr.out).below hb).c2, ((HY8.out.below HBr.out).below hb).c3, ((HY8.out.below HBr.out).below hb).c4, ((HY8.out.below HBr.out).below hb).c5, ((HY8.out.below HBr.out).below hb).c6, ((HY8.out.below HBr.out).below hb).c7, ((HY8.out.below HBr.out).below hb).cl, ((HY8.out.below HBr.out).below hb).cg⟩)
            go_wp2_with fail
            cases vb
            all_goals
              go_region_held3 (fun w' => w'.cell? ⟨bx, 0, none⟩ = some (.slice (t.a 0) (t.n 0) (t.c 0)) ∧ w'.cell? ⟨bx, 1, none⟩ = some (.slice (t.a 1) (t.n 1) (t.c 1)) ∧ w'.cell? ⟨bx, 2, none⟩ = some (.slice (t.a 2) (t.n 2) (t.c 2)) ∧ w'.cell? ⟨bx, 3, none⟩ = some (.slice (t.a 3) (t.n 3) (t.c 3)) ∧ w'.cell? ⟨bx, 4, none⟩ = some (.slice (t.a 4) (t.n 4) (t.c 4)) ∧ w'.cell? ⟨bx, 5, none⟩ = some (.slice (t.a 5) (t.n 5) (t.c 5)) ∧ w'.cell? ⟨bx, 6, none⟩ = some (.slice (t.a 6) (t.n 6) (t.c 6)) ∧ w'.cell? ⟨bx, 7, none⟩ = some (.slice (t.a 7) (t.n 7) (t.c 7)) ∧ w'.cell? ⟨bx, 8, none⟩ = some (.int .i64 N.live) ∧ w'.cell? ⟨bx, 9, none⟩ = some (.int .i64 N.garb) ∧ w'.cell? ⟨bY, 0, none⟩ = some (.slice (t.a 0) (t.n 0) (t.c 0)) ∧ w'.cell? ⟨bY, 1, none⟩ = some (.slice (t.a 1) (t.n 1) (t.c 1)) ∧ w'.cell? ⟨bY, 2, none⟩ = some (.slice (t.a 2) (t.n 2) (t.c 2)) ∧ w'.cell? ⟨bY, 3, none⟩ = some (.slice (t.a 3) (t.n 3) (t.c 3)) ∧ w'.cell? ⟨bY, 4, none⟩ = some (.slice (t.a 4) (t.n 4) (t.c 4)) ∧ w'.cell? ⟨bY, 5, none⟩ = some (.slice (t.a 5) (t.n 5) (t.c 5)) ∧ w'.cell? ⟨bY, 6, none⟩ = some (.slice (t.a 6) (t.n 6) (t.c 6)) ∧ w'.cell? ⟨bY, 7, none⟩ = some (.slice (t.a 7) (t.n 7) (t.c 7)) ∧ w'.cell? ⟨bY, 8, none⟩ = some (.int .i64 N.live) ∧ w'.cell? ⟨bY, 9, none⟩ = some (.int .i64 N.garb))
                (first | with_reducible exact HSX.out _ (bstep (bstep (bstep (bstep (bstep (bstep (bstep (Below.refl _ _).drew hba) hbb) hbc) hbd) hbe) hbf) hbg) | with_reducible exact HSX.out _ (bstep (bstep (bstep (bstep (bstep (bstep (Below.refl _ _).drew hba) hbb) hbc) hbd) hbe) hbf) | with_reducible exact HSX.out _ (bstep (bstep (bstep (bstep (bstep (Below.refl _ _).drew hba) hbb) hbc) hbd) hbe) | with_reducible exact HSX.out _ (bstep (bstep (bstep (bstep (Below.refl _ _).drew hba) hbb) hbc) hbd) | with_reducible exact HSX.out _ (bstep (bstep (bstep (Below.refl _ _).drew hba) hbb) hbc) | with_reducible exact HSX.out _ (bstep (bstep (Below.refl _ _).drew hba) hbb) | with_reducible exact HSX.out _ (bstep (Below.refl _ _).drew hba) | exact HSX.out _ (Below.refl _ _).drew)
                (first | (go_at_call 26; (with_reducible refine (HVa.out _ (Below.refl _ _).drew).mono ?_); rintro e wa ⟨rfl, hba⟩) | (go_at_call 27; (with_reducible refine (HVb.out _ (bstep (Below.refl _ _).drew hba)).mono ?_); rintro e wb ⟨rfl, hbb⟩) | (go_at_call 28; (with_reducible refine (HLa.out _ (bstep (bstep (Below.refl _ _).drew hba) hbb)).mono ?_); rintro e wc ⟨rfl, hbc⟩) | (go_at_call 29; (with_reducible refine (HLb.out _ (bstep (bstep (bstep (Below.refl _ _).drew hba) hbb) hbc)).mono ?_); rintro e wd ⟨rfl, hbd⟩) | (go_at_call 31; (with_reducible refine (HIa.out _ (bstep (bstep (bstep (bstep (Below.refl _ _).drew hba) hbb) hbc) hbd)).mono ?_); rintro e we ⟨ve, rfl, howne, hbe⟩) | (go_at_call 32; (with_reducible refine (HIb.out _ (bstep (bstep (bstep (bstep (bstep (Below.refl _ _).drew hba) hbb) hbc) hbd) hbe)).mono ?_); rintro e wf ⟨vf, rfl, hownf, hbf⟩) | (go_at_call 30; (with_reducible refine (HSm.out _ _ _ (OwnT.rd (own_keep howne hbf)) (OwnT.rd hownf)).mono ?_); rintro e wg ⟨rfl, hbg⟩))
              have HBz := Lib.hid (bstep HB8.out (bstep HBr.out (bstep (bstep (bstep (bstep (bstep (bstep (bstep (Below.refl _ _).drew hba) hbb) hbc) hbd) hbe) hbf) hbg)))
              rename_i hHeld
              clear hHeld hba hbb hbc hbd hbe hbf hbg howne hownf
              go_wp2_with fail
              exact ⟨⟨i + 1, by go_num, by omega, HBz⟩, by simp [intOf]; omega⟩
      · have ii1 : ¬ (i : Int) < 2 := by omega
        obtain rfl : i = 2 := by omega
        have HBz := Lib.hid (bstep HB4.out HBi.out)
        have HSa := Lib.hid (fun W => stripe_any key W)
        have HSb := Lib.hid (fun W => rstripe_any key W)
        generalize strp key = sk at *
        go_wp2_with fail
        refine (HSa.out _).mono ?_; rintro e w5 ⟨rfl, rfl⟩
        go_wp2_with fail
        refine (HSb.out _).mono ?_; rintro e w5 ⟨rfl, rfl⟩
        go_wp2_with fail
        refine (HAw.out _).mono ?_; rintro e w6 ⟨rfl, hb6⟩
        have HB6 := Lib.hid (bstep HBz.out hb6)
        clear hb6
        go_wp2_with fail
        go_ret
        exact ⟨rfl, HB6.out⟩
end Go.Proofs.Ytndhjfmdfcpceaa

namespace Go.Proofs.Ytndhjfmdfcpceaa
open Go.RowKit Go.ChangeShapes Go.WideShapes Go.Deep

theorem open_itemv {H : Type} {enc : TypeId × Value → H} {w : World} {cs : Array Value} {d : DataW H} {p : List MemPlace} (h : DataW.Trod enc Try.prog w 0 (fun _ => true) true 29 (.agg cs) d p) : ∃ y : It, cs = #[.int .u64 y.key, .int .u32 y.ck, .int .i64 y.off, .int .i64 y.size] ∧ y.Wf := by
  obtain ⟨fuel, hf⟩ := h
  obtain ⟨y, hy, hw⟩ := open_item hf
  have hy : cs.toList = itC y := hy
  exact ⟨y, by rw [← Array.toArray_toList (xs := cs), hy]; rfl, hw⟩
end Go.Proofs.Ytndhjfmdfcpceaa

namespace Go.Proofs.Ytndhjfmdfcpceaa
open Go.RowKit Go.ChangeShapes Go.WideShapes Go.Deep

theorem cellsOf_items : Try.prog.cellsOf 22 = 1 := by kernel_rfl
theorem cellsOf_strs : Try.prog.cellsOf 23 = 8 := by kernel_rfl
theorem cellsOf_map : Try.prog.cellsOf 25 = 10 := by kernel_rfl
theorem structM : ∃ f0 f1 f2, Try.prog.underlying 25 = some (.struct #[f0, f1, f2]) ∧ (f0.offset = 0 ∧ f1.offset = 8 ∧ f2.offset = 9) ∧ f0.type = 23 ∧ f1.type = 2 ∧ f2.type = 2 :=
  ⟨_, _, _, Try.underlying25, ⟨rfl, rfl, rfl⟩, rfl, rfl, rfl⟩
section
variable {H : Type} {enc : TypeId × Value → H} {w : World}
theorem open_items1 {fuel : Nat} {cs : List Value} {x : DataW H × List MemPlace} (h : DataW.trod enc Try.prog w 0 (fun _ => true) true fuel 22 cs = some x) :
    ∃ y : Option Addr × Nat × Nat × List It, cs = [.slice y.1 y.2.1 y.2.2.1] ∧ RdT w (.slice y.1 y.2.1 y.2.2.1) y.2.2.2 ∧ ∀ x ∈ y.2.2.2, x.Wf := by
  have key : ∀ a n c, cs = [.slice a n c] → ∃ y : Option Addr × Nat × Nat × List It, cs = [.slice y.1 y.2.1 y.2.2.1] ∧ RdT w (.slice y.1 y.2.1 y.2.2.1) y.2.2.2 ∧ ∀ x ∈ y.2.2.2, x.Wf := fun a n c e => by
    subst e
    obtain ⟨l, h1, h2⟩ := open_items (a := a) (n := n) (cap := c) (d := x.1) (p := x.2) ⟨fuel, h⟩
    exact ⟨(a, n, c, l), rfl, h1, h2⟩
  rcases DataW.trod_slice Try.underlying22 h with ⟨e, _⟩ | ⟨a, len, cap, _, _, _, _, e, _⟩
  · exact key _ _ _ e
  · exact key _ _ _ e
theorem open_map {fuel : Nat} {cs : List Value} {x : DataW H × List MemPlace} (h : DataW.trod enc Try.prog w 0 (fun _ => true) true fuel 25 cs = some x) :
    ∃ (s : Sl) (M : Mp), cs = (mapC s M.live M.garb).toList ∧ RdM w s M.st ∧ (∀ i, i < 8 → ∀ x ∈ M.st i, x.Wf) ∧ (-9223372036854775808 ≤ M.live ∧ M.live ≤ 9223372036854775807) ∧ (-9223372036854775808 ≤ M.garb ∧ M.garb ≤ 9223372036854775807) := by
  obtain ⟨f0, f1, f2, hs, ⟨o0, o1, o2⟩, t0, t1, t2⟩ := structM
  obtain ⟨xs, n, _, _, hlen, hxl, hf⟩ := DataW.trod_struct hs h
  rw [cellsOf_map] at hlen
  have hx : xs.length = 3 := by simpa using hxl
  have g : ∀ j (hj : j < 3), xs[j]? = some (xs[j]'(by omega)) := fun j hj => List.getElem?_eq_getElem (by omega)
  have h0 := (hf 0 f0 rfl).trans (g 0 (by omega))
  have h1 := (hf 1 f1 rfl).trans (g 1 (by omega))
  have h2 := (hf 2 f2 rfl).trans (g 2 (by omega))
  rw [t0, o0, cellsOf_strs, List.drop_zero] at h0
  rw [t1, o1, cellsOf_i64] at h1
  rw [t2, o2, cellsOf_i64] at h2
  obtain ⟨L, e1, _, w1⟩ := DataW.trod_int Try.underlying2 h1
  obtain ⟨G, e2, _, w2⟩ := DataW.trod_int Try.underlying2 h2
  obtain ⟨ys, m, _, _, _, hyl, hy⟩ := DataW.trod_array Try.underlying23 h0
  have each : ∀ i, i < 8 → ∃ y : Option Addr × Nat × Nat × List It, ((cs.take 8).drop i).take 1 = [.slice y.1 y.2.1 y.2.2.1] ∧ RdT w (.slice y.1 y.2.1 y.2.2.1) y.2.2.2 ∧ ∀ x ∈ y.2.2.2, x.Wf := fun i hi => by
    have h3 := hy i hi
    rw [cellsOf_items, Nat.mul_one, List.getElem?_eq_getElem (by omega)] at h3
    exact open_items1 h3
  obtain ⟨E, hE⟩ := choose_lt each
  refine ⟨⟨fun i => (E i).1, fun i => (E i).2.1, fun i => (E i).2.2.1⟩, ⟨fun i => (E i).2.2.2, L, G⟩, ?_, fun i hi => (hE i hi).2.1, fun i hi => (hE i hi).2.2, bounds_of_i64 w1, bounds_of_i64 w2⟩
  have d8 := one_of e1
  have d9 := one_of e2
  have d : ∀ i, i < 8 → cs[i]? = some (.slice (E i).1 (E i).2.1 (E i).2.2.1) := fun i hi => by
    have := one_of (hE i hi).1
    rw [List.getElem?_take, if_pos hi] at this
    exact this
  have d0 := d 0 (by omega)
  have d1 := d 1 (by omega)
  have d2 := d 2 (by omega)
  have d3 := d 3 (by omega)
  have d4 := d 4 (by omega)
  have d5 := d 5 (by omega)
  have d6 := d 6 (by omega)
  have d7 := d 7 (by omega)
  clear d hE each hy hf
  match cs, hlen, d0, d1, d2, d3, d4, d5, d6, d7, d8, d9 with
  | [a0, a1, a2, a3, a4, a5, a6, a7, a8, a9], _, d0, d1, d2, d3, d4, d5, d6, d7, d8, d9 =>
    simp at d0 d1 d2 d3 d4 d5 d6 d7 d8 d9
    subst d0 d1 d2 d3 d4 d5 d6 d7 d8 d9
    rfl
theorem open_mapv {cs : Array Value} {d : DataW H} {p : List MemPlace} (h : DataW.Trod enc Try.prog w 0 (fun _ => true) true 25 (.agg cs) d p) :
    ∃ y : Sl × Mp, cs = mapC y.1 y.2.live y.2.garb ∧ RdM w y.1 y.2.st ∧ (∀ i, i < 8 → ∀ x ∈ y.2.st i, x.Wf) ∧ (-9223372036854775808 ≤ y.2.live ∧ y.2.live ≤ 9223372036854775807) ∧ (-9223372036854775808 ≤ y.2.garb ∧ y.2.garb ≤ 9223372036854775807) := by
  obtain ⟨fuel, hf⟩ := h
  obtain ⟨s, M, h1, h2⟩ := open_map hf
  have h1 : cs.toList = (mapC s M.live M.garb).toList := h1
  exact ⟨(s, M), Array.ext' h1, h2⟩
end
end Go.Proofs.Ytndhjfmdfcpceaa

namespace Go.Proofs.Ytndhjfmdfcpceaa
open Go.RowKit

theorem reads_nmap (q : Sl × Mp) (a : Option Addr) (n cap : Nat) (g key : Int) (w : World)
    (h0 : RdM w q.1 q.2.st ∧ (∀ i, i < 8 → ∀ x ∈ q.2.st i, x.Wf) ∧ (-9223372036854775808 ≤ q.2.live ∧ q.2.live ≤ 9223372036854775807) ∧ (-9223372036854775808 ≤ q.2.garb ∧ q.2.garb ≤ 9223372036854775807))
    (h : ∃ l, RdT w (.slice a n cap) l ∧ ∀ x ∈ l, x.Wf) (_hg : (Lit.int .i64 g).wf = true) (_hk : (Lit.int .u64 key).wf = true) :
    Calls Try.prog 4 #[.agg (mapC q.1 q.2.live q.2.garb), .slice a n cap, .int .i64 g, .int .u64 key] w fun e w' => e = .returned (.bool true) ∧ Below w.heap.size w w' := by
  obtain ⟨l, hl, _⟩ := h
  exact reads_walk q _ g key l w h0.1 hl
end Go.Proofs.Ytndhjfmdfcpceaa
