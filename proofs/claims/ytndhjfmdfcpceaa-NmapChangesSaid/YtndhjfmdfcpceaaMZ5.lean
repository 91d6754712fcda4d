/- Several texts in one, each over the last: NmapReads: the walk. NmapChanges: the walk. What is known of an item that came in by value. What is known of a needle map that came in by value. NmapChanges, from what the form gives of its arguments. -/
import Derived.Test.YtndhjfmdfcpceaaGG
import Derived.Test.YtndhjfmdfcpceaaGH
import Derived.Test.YtndhjfmdfcpceaaGE
import Derived.Deep.RegionHeld3
import Derived.Test.YtndhjfmdfcpceaaGB
namespace Go.Proofs.Ytndhjfmdfcpceaa
open Go.RowKit

theorem i64_and65535 (n : Int) : bits .and .i64 n 65535 = n % 65536 := by
  have hm : (BitVec.ofInt 64 65535).toNat = 2 ^ 16 - 1 := by decide
  have key : (BitVec.ofInt 64 n &&& BitVec.ofInt 64 65535).toNat = (n % ((2 ^ 64 : Nat) : Int)).toNat % 2 ^ 16 := by
    rw [BitVec.toNat_and, BitVec.toNat_ofInt, hm, Nat.and_two_pow_sub_one_eq_mod]
  show IntKind.i64.wrap ((BitVec.ofInt 64 n &&& BitVec.ofInt 64 65535).toNat : Nat) = n % 65536
  rw [key, IntKind.wrap_i64]
  omega
theorem i64_and63 (n : Int) : bits .and .i64 n 63 = n % 64 := by
  have hm : (BitVec.ofInt 64 63).toNat = 2 ^ 6 - 1 := by decide
  have key : (BitVec.ofInt 64 n &&& BitVec.ofInt 64 63).toNat = (n % ((2 ^ 64 : Nat) : Int)).toNat % 2 ^ 6 := by
    rw [BitVec.toNat_and, BitVec.toNat_ofInt, hm, Nat.and_two_pow_sub_one_eq_mod]
  show IntKind.i64.wrap ((BitVec.ofInt 64 n &&& BitVec.ofInt 64 63).toNat : Nat) = n % 64
  rw [key, IntKind.wrap_i64]
  omega
theorem u64_and7 (n : Int) : bits .and .u64 n 7 = n % 8 := by
  have hm : (BitVec.ofInt 64 7).toNat = 2 ^ 3 - 1 := by decide
  have key : (BitVec.ofInt 64 n &&& BitVec.ofInt 64 7).toNat = (n % ((2 ^ 64 : Nat) : Int)).toNat % 2 ^ 3 := by
    rw [BitVec.toNat_and, BitVec.toNat_ofInt, hm, Nat.and_two_pow_sub_one_eq_mod]
  show IntKind.u64.wrap ((BitVec.ofInt 64 n &&& BitVec.ofInt 64 7).toNat : Nat) = n % 8
  rw [key]
  simp [IntKind.wrap, IntKind.signed, IntKind.bits]
  omega
/-- A slice of maps that was just laid. -/
structure ArrM (W : World) (b n : Nat) (sl : Nat → Sl) (mp : Nat → Mp) : Prop where
  c : ∀ i, i < n → ∀ j, j < 8 → W.cell? ⟨b, i * 10 + j, none⟩ = some ((sl i).v j)
  cl : ∀ i, i < n → W.cell? ⟨b, i * 10 + 8, none⟩ = some (.int .i64 (mp i).live)
  cg : ∀ i, i < n → W.cell? ⟨b, i * 10 + 9, none⟩ = some (.int .i64 (mp i).garb)
theorem ArrM.below {W W' : World} {b n : Nat} {sl : Nat → Sl} {mp : Nat → Mp} (h : ArrM W b n sl mp) (hb : Below W.heap.size W W') : ArrM W' b n sl mp :=
  ⟨fun i hi j hj => Below.keeps hb _ _ (h.c i hi j hj), fun i hi => Below.keeps hb _ _ (h.cl i hi), fun i hi => Below.keeps hb _ _ (h.cg i hi)⟩
abbrev mapC2 (s : Sl) (L G : Int) (t : Sl) (L2 G2 : Int) : Array Value := #[.slice (s.a 0) (s.n 0) (s.c 0), .slice (s.a 1) (s.n 1) (s.c 1), .slice (s.a 2) (s.n 2) (s.c 2), .slice (s.a 3) (s.n 3) (s.c 3), .slice (s.a 4) (s.n 4) (s.c 4), .slice (s.a 5) (s.n 5) (s.c 5), .slice (s.a 6) (s.n 6) (s.c 6), .slice (s.a 7) (s.n 7) (s.c 7), .int .i64 L, .int .i64 G, .slice (t.a 0) (t.n 0) (t.c 0), .slice (t.a 1) (t.n 1) (t.c 1), .slice (t.a 2) (t.n 2) (t.c 2), .slice (t.a 3) (t.n 3) (t.c 3), .slice (t.a 4) (t.n 4) (t.c 4), .slice (t.a 5) (t.n 5) (t.c 5), .slice (t.a 6) (t.n 6) (t.c 6), .slice (t.a 7) (t.n 7) (t.c 7), .int .i64 L2, .int .i64 G2]
abbrev mapC3 (s : Sl) (L G : Int) (t : Sl) (L2 G2 : Int) (u : Sl) (L3 G3 : Int) : Array Value := #[.slice (s.a 0) (s.n 0) (s.c 0), .slice (s.a 1) (s.n 1) (s.c 1), .slice (s.a 2) (s.n 2) (s.c 2), .slice (s.a 3) (s.n 3) (s.c 3), .slice (s.a 4) (s.n 4) (s.c 4), .slice (s.a 5) (s.n 5) (s.c 5), .slice (s.a 6) (s.n 6) (s.c 6), .slice (s.a 7) (s.n 7) (s.c 7), .int .i64 L, .int .i64 G, .slice (t.a 0) (t.n 0) (t.c 0), .slice (t.a 1) (t.n 1) (t.c 1), .slice (t.a 2) (t.n 2) (t.c 2), .slice (t.a 3) (t.n 3) (t.c 3), .slice (t.a 4) (t.n 4) (t.c 4), .slice (t.a 5) (t.n 5) (t.c 5), .slice (t.a 6) (t.n 6) (t.c 6), .slice (t.a 7) (t.n 7) (t.c 7), .int .i64 L2, .int .i64 G2, .slice (u.a 0) (u.n 0) (u.c 0), .slice (u.a 1) (u.n 1) (u.c 1), .slice (u.a 2) (u.n 2) (u.c 2), .slice (u.a 3) (u.n 3) (u.c 3), .slice (u.a 4) (u.n 4) (u.c 4), .slice (u.a 5) (u.n 5) (u.c 5), .slice (u.a 6) (u.n 6) (u.c 6), .slice (u.a 7) (u.n 7) (u.c 7), .int .i64 L3, .int .i64 G3]
def two {α : Type} (a b : α) : Nat → α
  | 0 => a
  | _ => b
def three {α : Type} (a b c : α) : Nat → α
  | 0 => a
  | 1 => b
  | _ => c
theorem ArrM.new2 (W : World) (s t : Sl) (M N : Mp) (e : TypeId) : ArrM (W.alloc (.cells (mapC2 s M.live M.garb t N.live N.garb) e)) W.heap.size 2 (two s t) (two M N) := by
  refine ⟨fun i hi j hj => ?_, fun i hi => ?_, fun i hi => ?_⟩
  · rcases (show i = 0 ∨ i = 1 by omega) with h | h <;> subst h <;> (rcases lt8 hj with h | h | h | h | h | h | h | h <;> subst h <;> simp [Sl.v, two])
  · rcases (show i = 0 ∨ i = 1 by omega) with h | h <;> subst h <;> simp [two]
  · rcases (show i = 0 ∨ i = 1 by omega) with h | h <;> subst h <;> simp [two]
theorem ArrM.new3 (W : World) (s t u : Sl) (M N O : Mp) (e : TypeId) : ArrM (W.alloc (.cells (mapC3 s M.live M.garb t N.live N.garb u O.live O.garb) e)) W.heap.size 3 (three s t u) (three M N O) := by
  refine ⟨fun i hi j hj => ?_, fun i hi => ?_, fun i hi => ?_⟩
  · rcases (show i = 0 ∨ i = 1 ∨ i = 2 by omega) with h | h | h <;> subst h <;> (rcases lt8 hj with h | h | h | h | h | h | h | h <;> subst h <;> simp [Sl.v, three])
  · rcases (show i = 0 ∨ i = 1 ∨ i = 2 by omega) with h | h | h <;> subst h <;> simp [three]
  · rcases (show i = 0 ∨ i = 1 ∨ i = 2 by omega) with h | h | h <;> subst h <;> simp [three]
set_option maxRecDepth 100000 in
set_option maxHeartbeats 8000000 in
theorem reads_walk (q : Sl × Mp) (va : Value) (g key : Int) (l : List It) (w : World) (h0 : RdM w q.1 q.2.st) (h : RdT w va l) :
    Calls Try.prog 4 #[mapV q.1 q.2.live q.2.garb, va, .int .i64 g, .int .u64 key] w fun e w' => e = .returned (.bool true) ∧ Below w.heap.size w w' := by
  obtain ⟨s, M⟩ := q
  dsimp only at *
  have HX := Lib.hid (BoxM.new w s M.live M.garb 25)
  have HB := Lib.hid (below_map w s M.live M.garb 25)
  have HLi := Lib.hid (fun W hb => light_any s M.live M.garb M.st W (h0.below hb))
  have HLq := Lib.hid (fun h => lightM_iff (f := M.st) h)
  have HR := Lib.hid h0
  have HRl := Lib.hid h
  have HAw := Lib.hid (fun W => awakeM_any W)
  clear h0 h
  go_enter Try.func4, Try.ntmps4
  go_upto_region 1 with fail
  obtain ⟨W0, hW0⟩ : ∃ W0, w.alloc (.cells (mapC s M.live M.garb) 25) = W0 := ⟨_, rfl⟩
  rw [hW0] at HX HB
  rw [hW0]
  clear hW0
  have c0 := HX.out.c0
  have c1 := HX.out.c1
  have c2 := HX.out.c2
  have c3 := HX.out.c3
  have c4 := HX.out.c4
  have c5 := HX.out.c5
  have c6 := HX.out.c6
  have c7 := HX.out.c7
  have c8 := HX.out.cl
  have c9 := HX.out.cg
  have cF := HX.out.f
  go_wp2_with fail
  refine (HLi.out _ HB.out).mono ?_; rintro e w1 ⟨rfl, hb1⟩
  have HX1 := Lib.hid (HX.out.below hb1)
  have HB1 := Lib.hid (bstep HB.out hb1)
  clear c0 c1 c2 c3 c4 c5 c6 c7 c8 c9 cF hb1 HX HB HLi
  generalize lightM M.st = lb at *
  cases lb
  · go_wp2_with fail
    refine (HAw.out _).mono ?_; rintro e w2 ⟨rfl, hb2⟩
    have HB2 := Lib.hid (bstep HB1.out hb2)
    clear hb2
    go_wp2_with fail
    go_ret
    exact ⟨rfl, HB2.out⟩
  · have hlen := HLq.out rfl
    clear HLq
    have hand := i64_and65535 g
    have hg : 0 ≤ g % 65536 ∧ g % 65536 < 65536 := by omega
    have hn20 := lawI_length l
    have HI := Lib.hid (fun W (hb : Below w1.heap.size w1 W) => lawI_any va l W (HRl.out.below (bstep HB1.out hb)))
    have HFm := Lib.hid (fun v W h => rfromM_any v (lawI l) (g % 65536) W h (Nat.le_trans hn20 (by decide)))
    have HFl := Lib.hid (fun i => Nat.le_trans (fromM_len (lawI l) (g % 65536) i) hn20)
    generalize fromM (lawI l) (g % 65536) = F at *
    clear hn20
    go_wp2_with fail
    have HSX := Lib.hid (show ∀ WV, Below w1.heap.size w1 WV → WV.cell? ⟨w.heap.size, 0, none⟩ = some (.slice (s.a 0) (s.n 0) (s.c 0)) ∧ WV.cell? ⟨w.heap.size, 1, none⟩ = some (.slice (s.a 1) (s.n 1) (s.c 1)) ∧ WV.cell? ⟨w.heap.size, 2, none⟩ = some (.slice (s.a 2) (s.n 2) (s.c 2)) ∧ WV.cell? ⟨w.heap.size, 3, none⟩ = some (.slice (s.a 3) (s.n 3) (s.c 3)) ∧ WV.cell? ⟨w.heap.size, 4, none⟩ = some (.slice (s.a 4) (s.n 4) (s.c 4)) ∧ WV.cell? ⟨w.heap.size, 5, none⟩ = some (.slice (s.a 5) (s.n 5) (s.c 5)) ∧ WV.cell? ⟨w.heap.size, 6, none⟩ = some (.slice (s.a 6) (s.n 6) (s.c 6)) ∧ WV.cell? ⟨w.heap.size, 7, none⟩ = some (.slice (s.a 7) (s.n 7) (s.c 7)) ∧ WV.cell? ⟨w.heap.size, 8, none⟩ = some (.int .i64 M.live) ∧ WV.cell? ⟨w.heap.size, 9, none⟩ = some (.int .i64 M.garb) from fun WV hb => ⟨(HX1.out.below hb).c0, (HX1.out.below hb).c1, (HX1.out.below hb).c2, (HX1.out.below hb).c3, (HX1.out.below hb).c4, (HX1.out.below hb).c5, (HX1.out.below hb).c6, (HX1.out.below hb).c7, (HX1.out.below hb).cl, (HX1.out.below hb).cg⟩)
    go_region_held3 (fun w' => w'.cell? ⟨w.heap.size, 0, none⟩ = some (.slice (s.a 0) (s.n 0) (s.c 0)) ∧ w'.cell? ⟨w.heap.size, 1, none⟩ = some (.slice (s.a 1) (s.n 1) (s.c 1)) ∧ w'.cell? ⟨w.heap.size, 2, none⟩ = some (.slice (s.a 2) (s.n 2) (s.c 2)) ∧ w'.cell? ⟨w.heap.size, 3, none⟩ = some (.slice (s.a 3) (s.n 3) (s.c 3)) ∧ w'.cell? ⟨w.heap.size, 4, none⟩ = some (.slice (s.a 4) (s.n 4) (s.c 4)) ∧ w'.cell? ⟨w.heap.size, 5, none⟩ = some (.slice (s.a 5) (s.n 5) (s.c 5)) ∧ w'.cell? ⟨w.heap.size, 6, none⟩ = some (.slice (s.a 6) (s.n 6) (s.c 6)) ∧ w'.cell? ⟨w.heap.size, 7, none⟩ = some (.slice (s.a 7) (s.n 7) (s.c 7)) ∧ w'.cell? ⟨w.heap.size, 8, none⟩ = some (.int .i64 M.live) ∧ w'.cell? ⟨w.heap.size, 9, none⟩ = some (.int .i64 M.garb))
      (first | with_reducible exact HSX.out _ (((bstep (bstep (Below.refl _ _).drew hba) hbb)).alloc ((bstep (bstep (Below.refl _ _).drew hba) hbb)).size _) | with_reducible exact HSX.out _ (bstep (bstep (Below.refl _ _).drew hba) hbb) | with_reducible exact HSX.out _ (bstep (Below.refl _ _).drew hba) | exact HSX.out _ (Below.refl _ _).drew)
      (first | (go_at_call 12; (with_reducible refine (HI.out _ (Below.refl _ _).drew).mono ?_); rintro e wa ⟨va1, rfl, howna, hba⟩) | (go_at_call 11; (with_reducible refine (HFm.out _ _ (OwnT.rd howna)).mono ?_); rintro e wb ⟨⟨sF, rfl, hownb⟩, hbb⟩))
    rename_i hHeld
    clear hHeld
    have hbc := bstep (below_drew (Below.refl w1.heap.size w1)) (bstep hba hbb)
    have HBc := Lib.hid (bstep HB1.out hbc)
    have HRs := Lib.hid (show RdM wb s M.st from HR.out.below (bstep HB1.out hbc))
    have HRf := Lib.hid (show RdM wb sF F.st from hownb.rd)
    clear hba hbb hbc howna hownb HI HFm HSX HX1 HB1 hand hg
    go_upto_region 4 with fail
    obtain ⟨W4, hW4⟩ : ∃ W4, wb.alloc (.cells (mapC2 s M.live M.garb sF F.live F.garb) 25) = W4 := ⟨_, rfl⟩
    have hb4 := show Below wb.heap.size wb W4 from hW4 ▸ (Below.refl _ _).alloc (Nat.le_refl _) _
    have HA4 := Lib.hid (show ArrM W4 wb.heap.size 2 (two s sF) (two M F) from hW4 ▸ ArrM.new2 wb s sF M F 25)
    have HR4 := Lib.hid (show ∀ i, i < 2 → RdM W4 (two s sF i) (two M F i).st from fun i hi => by
      rcases (show i = 0 ∨ i = 1 by omega) with h | h <;> subst h
      · exact HRs.out.below hb4
      · exact HRf.out.below hb4)
    have HN4 := Lib.hid (show ∀ i, i < 2 → ∀ j, j < 8 → ((two M F i).st j).length ≤ 20 from fun i hi j hj => by
      rcases (show i = 0 ∨ i = 1 by omega) with h | h <;> subst h
      · exact Nat.le_trans (hlen j hj) (by decide)
      · exact HFl.out j)
    have HB4 := Lib.hid (bstep HBc.out hb4)
    rw [show wb.alloc (.cells #[.slice (s.a 0) (s.n 0) (s.c 0), .slice (s.a 1) (s.n 1) (s.c 1), .slice (s.a 2) (s.n 2) (s.c 2), .slice (s.a 3) (s.n 3) (s.c 3), .slice (s.a 4) (s.n 4) (s.c 4), .slice (s.a 5) (s.n 5) (s.c 5), .slice (s.a 6) (s.n 6) (s.c 6), .slice (s.a 7) (s.n 7) (s.c 7), .int .i64 M.live, .int .i64 M.garb, .slice (sF.a 0) (sF.n 0) (sF.c 0), .slice (sF.a 1) (sF.n 1) (sF.c 1), .slice (sF.a 2) (sF.n 2) (sF.c 2), .slice (sF.a 3) (sF.n 3) (sF.c 3), .slice (sF.a 4) (sF.n 4) (sF.c 4), .slice (sF.a 5) (sF.n 5) (sF.c 5), .slice (sF.a 6) (sF.n 6) (sF.c 6), .slice (sF.a 7) (sF.n 7) (sF.c 7), .int .i64 F.live, .int .i64 F.garb] 25) = W4 from hW4]
    clear hW4 hb4 HRs HRf HBc hlen HFl
    generalize two s sF = sl at *
    generalize two M F = mp at *
    generalize wb.heap.size = bs at *
    go_wp2_with fail
    go_loopw [30] (fun iv W => ∃ i : Nat, iv = .int .i64 (i : Int) ∧ i ≤ 2 ∧ Hid (Below W4.heap.size W4 W)) (fun iv _ => 2 - (intOf iv).toNat)
    case atStart => exact ⟨0, rfl, Nat.zero_le _, Lib.hid (Below.refl _ _)⟩
    case round =>
      obtain ⟨i, rfl, hi, HBi⟩ := hrel
      by_cases hin : i < 2
      · have ii1 : (i : Int) < 2 := by omega
        have HAi := Lib.hid (HA4.out.below HBi.out)
        have HRi := Lib.hid (fun W hb => (HR4.out i hin).below (w' := W) (bstep HBi.out hb))
        have hs : ∀ j, j < 8 → ((mp i).st j).length ≤ 10000 := fun j hj => Nat.le_trans (HN4.out i hin j hj) (by decide)
        have e0 := HAi.out.c i hin 0 (by decide)
        have e1 := HAi.out.c i hin 1 (by decide)
        have e2 := HAi.out.c i hin 2 (by decide)
        have e3 := HAi.out.c i hin 3 (by decide)
        have e4 := HAi.out.c i hin 4 (by decide)
        have e5 := HAi.out.c i hin 5 (by decide)
        have e6 := HAi.out.c i hin 6 (by decide)
        have e7 := HAi.out.c i hin 7 (by decide)
        have e8 := HAi.out.cl i hin
        have e9 := HAi.out.cg i hin
        generalize sl i = t at *
        generalize mp i = N at *
        rw [Sl.v] at e0 e1 e2 e3 e4 e5 e6 e7
        rw [Nat.add_zero] at e0
        go_upto_region 6 with fail
        obtain ⟨W5, hW5⟩ : ∃ W5, wr.alloc (.cells (mapC t N.live N.garb) 25) = W5 := ⟨_, rfl⟩
        have hb5 := below_map wr t N.live N.garb 25
        rw [hW5] at hb5
        have HX5 := Lib.hid (show BoxM W5 wr.heap.size t N.live N.garb from hW5 ▸ BoxM.new wr t N.live N.garb 25)
        have HB5 := Lib.hid (bstep HBi.out hb5)
        have HRn := Lib.hid (fun W (hb : Below W5.heap.size W5 W) => HRi.out W (bstep hb5 hb))
        rw [show wr.alloc (.cells #[.slice (t.a 0) (t.n 0) (t.c 0), .slice (t.a 1) (t.n 1) (t.c 1), .slice (t.a 2) (t.n 2) (t.c 2), .slice (t.a 3) (t.n 3) (t.c 3), .slice (t.a 4) (t.n 4) (t.c 4), .slice (t.a 5) (t.n 5) (t.c 5), .slice (t.a 6) (t.n 6) (t.c 6), .slice (t.a 7) (t.n 7) (t.c 7), .int .i64 N.live, .int .i64 N.garb] 25) = W5 from hW5]
        clear hW5 hb5 HRi HAi HBi e0 e1 e2 e3 e4 e5 e6 e7 e8 e9
        generalize wr.heap.size = bx at *
        have c0 := HX5.out.c0
        have c1 := HX5.out.c1
        have c2 := HX5.out.c2
        have c3 := HX5.out.c3
        have c4 := HX5.out.c4
        have c5 := HX5.out.c5
        have c6 := HX5.out.c6
        have c7 := HX5.out.c7
        have c8 := HX5.out.cl
        have c9 := HX5.out.cg
        have cF := HX5.out.f
        go_wp2_with fail
        refine (given_any t N.live N.garb _).mono ?_; rintro e w6 ⟨rfl, hb6⟩
        have hb6' := bstep hb6 (below_map w6 t N.live N.garb 37)
        have HX6 := Lib.hid (HX5.out.below hb6')
        have HY6 := Lib.hid (BoxM.new w6 t N.live N.garb 37)
        have HB6 := Lib.hid (bstep HB5.out hb6')
        have HR6 := Lib.hid (fun W (hb : Below (w6.alloc (.cells (mapC t N.live N.garb) 37)).heap.size (w6.alloc (.cells (mapC t N.live N.garb) 37)) W) => HRn.out W (bstep hb6' hb))
        clear c0 c1 c2 c3 c4 c5 c6 c7 c8 c9 cF hb6 hb6' HX5 HB5 HRn
        go_upto_region 7 with fail
        obtain ⟨W7, hW7⟩ : ∃ W7, w6.alloc (.cells (mapC t N.live N.garb) 37) = W7 := ⟨_, rfl⟩
        rw [hW7] at HX6 HY6 HB6 HR6
        rw [hW7]
        clear hW7
        generalize w6.heap.size = bY at *
        have hand7 := u64_and7 key
        have HK8 := Lib.hid (show ∀ r, r < 2 → (W7.alloc (.cells #[.int .u64 key, .int .u64 (key % 8)] 26)).cell? ⟨W7.heap.size, r, none⟩ = some (.int .u64 (two key (key % 8) r)) from fun r hr => by
          rcases (show r = 0 ∨ r = 1 by omega) with h | h <;> subst h <;> simp [two])
        have hb8 := show Below W7.heap.size W7 (W7.alloc (.cells #[.int .u64 key, .int .u64 (key % 8)] 26)) from (Below.refl _ _).alloc (Nat.le_refl _) _
        go_upto_region 8 with fail
        obtain ⟨W8, hW8⟩ : ∃ W8, W7.alloc (.cells #[.int .u64 key, .int .u64 (key % 8)] 26) = W8 := ⟨_, rfl⟩
        rw [hW8] at HK8 hb8
        rw [hW8]
        have HX8 := Lib.hid (HX6.out.below hb8)
        have HY8 := Lib.hid (HY6.out.below hb8)
        have HB8 := Lib.hid (bstep HB6.out hb8)
        have HR8 := Lib.hid (fun W (hb : Below W8.heap.size W8 W) => HR6.out W (bstep hb8 hb))
        clear hW8 hb8 HX6 HY6 HB6 HR6 hand7
        generalize W7.heap.size = bk at *
        generalize two key (key % 8) = kf at *
        go_wp2_with fail
        go_loopw [41] (fun rv W => ∃ r : Nat, rv = .int .i64 (r : Int) ∧ r ≤ 2 ∧ Hid (Below W8.heap.size W8 W)) (fun rv _ => 2 - (intOf rv).toNat)
        case atStart => exact ⟨0, rfl, Nat.zero_le _, Lib.hid (Below.refl _ _)⟩
        case round =>
          obtain ⟨r, rfl, hr, HBr⟩ := hrel
          have HXr := Lib.hid (HX8.out.below HBr.out)
          have HYr := Lib.hid (HY8.out.below HBr.out)
          by_cases hrt : r < 2
          · have rr1 : (r : Int) < 2 := by omega
            have kr := Below.keeps HBr.out _ _ (HK8.out r hrt)
            generalize kf r = k at *
            have HG := Lib.hid (fun W (hb : Below W8.heap.size W8 W) => getM_any t N k W (HR8.out W hb) hs)
            have HG2 := Lib.hid (fun W (hb : Below W8.heap.size W8 W) => rgetM_any t N k W (HR8.out W hb) hs)
            generalize getM N k = o at *
            obtain ⟨y, hy⟩ : ∃ y, o.getD it0 = y := ⟨_, rfl⟩
            rw [hy] at HG HG2
            clear hy
            have c0 := HYr.out.c0
            have c1 := HYr.out.c1
            have c2 := HYr.out.c2
            have c3 := HYr.out.c3
            have c4 := HYr.out.c4
            have c5 := HYr.out.c5
            have c6 := HYr.out.c6
            have c7 := HYr.out.c7
            have c8 := HYr.out.cl
            have c9 := HYr.out.cg
            have cF := HYr.out.f
            go_wp2_with fail
            refine (HG.out _ HBr.out).mono ?_; rintro e w9 ⟨rfl, hb9⟩
            have hb9' := bstep hb9 (below_box w9 y)
            have HX9 := Lib.hid (HXr.out.below hb9')
            have HB9 := Lib.hid (bstep HBr.out hb9')
            have HI9 := Lib.hid (BoxI.new w9 y)
            clear c0 c1 c2 c3 c4 c5 c6 c7 c8 c9 cF hb9 hb9' HXr HYr HBr kr
            go_upto_region 11 with fail
            obtain ⟨W10, hW10⟩ : ∃ W10, w9.alloc (boxC y) = W10 := ⟨_, rfl⟩
            rw [hW10] at HX9 HB9 HI9
            rw [show w9.alloc (.cells #[.int .u64 y.key, .int .u32 y.ck, .int .i64 y.off, .int .i64 y.size] 29) = W10 from hW10]
            clear hW10
            generalize w9.heap.size = by9 at *
            have c0 := HX9.out.c0
            have c1 := HX9.out.c1
            have c2 := HX9.out.c2
            have c3 := HX9.out.c3
            have c4 := HX9.out.c4
            have c5 := HX9.out.c5
            have c6 := HX9.out.c6
            have c7 := HX9.out.c7
            have c8 := HX9.out.cl
            have c9 := HX9.out.cg
            have cF := HX9.out.f
            go_wp2_with fail
            refine (HG2.out _ HB9.out).mono ?_; rintro e w11 ⟨rfl, hb11⟩
            have HI11 := Lib.hid (HI9.out.below hb11)
            have HB11 := Lib.hid (bstep (bstep HB9.out hb11) (below_box w11 y))
            have hlt11 := HI11.out.lt
            clear c0 c1 c2 c3 c4 c5 c6 c7 c8 c9 cF hb11 HX9 HB9 HI9
            have i0 := HI11.out.t.c0
            have i1 := HI11.out.t.c1
            have i2 := HI11.out.t.c2
            have i3 := HI11.out.t.c3
            have iF := HI11.out.f
            go_wp2_with fail
            exact ⟨⟨r + 1, by go_num, by omega, HB11⟩, by simp [intOf]; omega⟩
          · have rr1 : ¬ (r : Int) < 2 := by omega
            obtain rfl : r = 2 := by omega
            have HVa := Lib.hid (fun W (hb : Below wr.heap.size wr W) => validM_any t N W (HR8.out W (bstep HBr.out hb)) (fun j hj => Nat.le_trans (hs j hj) (by decide)))
            have HVb := Lib.hid (fun W (hb : Below wr.heap.size wr W) => rvalidM_any t N W (HR8.out W (bstep HBr.out hb)) (fun j hj => Nat.le_trans (hs j hj) (by decide)))
            have HLa := Lib.hid (fun W (hb : Below wr.heap.size wr W) => lenM_any t N W (HR8.out W (bstep HBr.out hb)) hs)
            have HLb := Lib.hid (fun W (hb : Below wr.heap.size wr W) => rlenM_any t N W (HR8.out W (bstep HBr.out hb)) hs)
            have HIa := Lib.hid (fun W (hb : Below wr.heap.size wr W) => itemsM_any t N W (HR8.out W (bstep HBr.out hb)) hs)
            have HIb := Lib.hid (fun W (hb : Below wr.heap.size wr W) => ritemsM_any t N W (HR8.out W (bstep HBr.out hb)) hs)
            have HSm := Lib.hid (fun va vb W h h2 => same_any va vb (itemsM N) (itemsM N) W h h2)
            rw [decide_eq_true (rfl : itemsM N = itemsM N)] at HSm
            generalize vldM N = vb at *
            generalize itemsM N = I at *
            generalize I.length = il at *
            have HSX := Lib.hid (show ∀ WV, Below wr.heap.size wr WV → WV.cell? ⟨bx, 0, none⟩ = some (.slice (t.a 0) (t.n 0) (t.c 0)) ∧ WV.cell? ⟨bx, 1, none⟩ = some (.slice (t.a 1) (t.n 1) (t.c 1)) ∧ WV.cell? ⟨bx, 2, none⟩ = some (.slice (t.a 2) (t.n 2) (t.c 2)) ∧ WV.cell? ⟨bx, 3, none⟩ = some (.slice (t.a 3) (t.n 3) (t.c 3)) ∧ WV.cell? ⟨bx, 4, none⟩ = some (.slice (t.a 4) (t.n 4) (t.c 4)) ∧ WV.cell? ⟨bx, 5, none⟩ = some (.slice (t.a 5) (t.n 5) (t.c 5)) ∧ WV.cell? ⟨bx, 6, none⟩ = some (.slice (t.a 6) (t.n 6) (t.c 6)) ∧ WV.cell? ⟨bx, 7, none⟩ = some (.slice (t.a 7) (t.n 7) (t.c 7)) ∧ WV.cell? ⟨bx, 8, none⟩ = some (.int .i64 N.live) ∧ WV.cell? ⟨bx, 9, none⟩ = some (.int .i64 N.garb) ∧ WV.cell? ⟨bY, 0, none⟩ = some (.slice (t.a 0) (t.n 0) (t.c 0)) ∧ WV.cell? ⟨bY, 1, none⟩ = some (.slice (t.a 1) (t.n 1) (t.c 1)) ∧ WV.cell? ⟨bY, 2, none⟩ = some (.slice (t.a 2) (t.n 2) (t.c 2)) ∧ WV.cell? ⟨bY, 3, none⟩ = some (.slice (t.a 3) (t.n 3) (t.c 3)) ∧ WV.cell? ⟨bY, 4, none⟩ = some (.slice (t.a 4) (t.n 4) (t.c 4)) ∧ WV.cell? ⟨bY, 5, none⟩ = some (.slice (t.a 5) (t.n 5) (t.c 5)) ∧ WV.cell? ⟨bY, 6, none⟩ = some (.slice (t.a 6) (t.n 6) (t.c 6)) ∧ WV.cell? ⟨bY, 7, none⟩ = some (.slice (t.a 7) (t.n 7) (t.c 7)) ∧ WV.cell? ⟨bY, 8, none⟩ = some (.int .i64 N.live) ∧ WV.cell? ⟨bY, 9, none⟩ = some (.int .i64 N.garb) from fun WV hb => ⟨((HX8.out.below HBr.out).below hb).c0, ((HX8.out.below HBr.out).below hb).c1, ((HX8.out.below HBr.out).below hb).c2, ((HX8.out.below HBr.out).below hb).c3, ((HX8.out.below HBr.out).below hb).c4, ((HX8.out.below HBr.out).below hb).c5, ((HX8.out.below HBr.out).below hb).c6, ((HX8.out.below HBr.out).below hb).c7, ((HX8.out.below HBr.out).below hb).cl, ((HX8.out.below HBr.out).below hb).cg, ((HY8.out.below HBr.out).below hb).c0, ((HY8.out.below HBr.out).below hb).c1, ((HY8.out.below HBr.out).below hb).c2, ((HY8.out.below HBr.out).below hb).c3, ((HY8.out.below HBr.out).below hb).c4, ((HY8.out.below HBr.out).below hb).c5, ((HY8.out.below HBr.out).below hb).c6, ((HY8.out.below HBr.out).below hb).c7, ((HY8.out.below HBr.out).below hb).cl, ((HY8.out.below HBr.out).below hb).cg⟩)
            go_wp2_with fail
            cases vb
            all_goals
              go_region_held3 (fun w' => w'.cell? ⟨bx, 0, none⟩ = some (.slice (t.a 0) (t.n 0) (t.c 0)) ∧ w'.cell? ⟨bx, 1, none⟩ = some (.slice (t.a 1) (t.n 1) (t.c 1)) ∧ w'.cell? ⟨bx, 2, none⟩ = some (.slice (t.a 2) (t.n 2) (t.c 2)) ∧ w'.cell? ⟨bx, 3, none⟩ = some (.slice (t.a 3) (t.n 3) (t.c 3)) ∧ w'.cell? ⟨bx, 4, none⟩ = some (.slice (t.a 4) (t.n 4) (t.c 4)) ∧ w'.cell? ⟨bx, 5, none⟩ = some (.slice (t.a 5) (t.n 5) (t.c 5)) ∧ w'.cell? ⟨bx, 6, none⟩ = some (.slice (t.a 6) (t.n 6) (t.c 6)) ∧ w'.cell? ⟨bx, 7, none⟩ = some (.slice (t.a 7) (t.n 7) (t.c 7)) ∧ w'.cell? ⟨bx, 8, none⟩ = some (.int .i64 N.live) ∧ w'.cell? ⟨bx, 9, none⟩ = some (.int .i64 N.garb) ∧ w'.cell? ⟨bY, 0, none⟩ = some (.slice (t.a 0) (t.n 0) (t.c 0)) ∧ w'.cell? ⟨bY, 1, none⟩ = some (.slice (t.a 1) (t.n 1) (t.c 1)) ∧ w'.cell? ⟨bY, 2, none⟩ = some (.slice (t.a 2) (t.n 2) (t.c 2)) ∧ w'.cell? ⟨bY, 3, none⟩ = some (.slice (t.a 3) (t.n 3) (t.c 3)) ∧ w'.cell? ⟨bY, 4, none⟩ = some (.slice (t.a 4) (t.n 4) (t.c 4)) ∧ w'.cell? ⟨bY, 5, none⟩ = some (.slice (t.a 5) (t.n 5) (t.c 5)) ∧ w'.cell? ⟨bY, 6, none⟩ = some (.slice (t.a 6) (t.n 6) (t.c 6)) ∧ w'.cell? ⟨bY, 7, none⟩ = some (.slice (t.a 7) (t.n 7) (t.c 7)) ∧ w'.cell? ⟨bY, 8, none⟩ = some (.int .i64 N.live) ∧ w'.cell? ⟨bY, 9, none⟩ = some (.int .i64 N.garb))
                (first | with_reducible exact HSX.out _ (bstep (bstep (bstep (bstep (bstep (bstep (bstep (Below.refl _ _).drew hba) hbb) hbc) hbd) hbe) hbf) hbg) | with_reducible exact HSX.out _ (bstep (bstep (bstep (bstep (bstep (bstep (Below.refl _ _).drew hba) hbb) hbc) hbd) hbe) hbf) | with_reducible exact HSX.out _ (bstep (bstep (bstep (bstep (bstep (Below.refl _ _).drew hba) hbb) hbc) hbd) hbe) | with_reducible exact HSX.out _ (bstep (bstep (bstep (bstep (Below.refl _ _).drew hba) hbb) hbc) hbd) | with_reducible exact HSX.out _ (bstep (bstep (bstep (Below.refl _ _).drew hba) hbb) hbc) | with_reducible exact HSX.out _ (bstep (bstep (Below.refl _ _).drew hba) hbb) | with_reducible exact HSX.out _ (bstep (Below.refl _ _).drew hba) | exact HSX.out _ (Below.refl _ _).drew)
                (first | (go_at_call 26; (with_reducible refine (HVa.out _ (Below.refl _ _).drew).mono ?_); rintro e wa ⟨rfl, hba⟩) | (go_at_call 27; (with_reducible refine (HVb.out _ (bstep (Below.refl _ _).drew hba)).mono ?_); rintro e wb ⟨rfl, hbb⟩) | (go_at_call 28; (with_reducible refine (HLa.out _ (bstep (bstep (Below.refl _ _).drew hba) hbb)).mono ?_); rintro e wc ⟨rfl, hbc⟩) | (go_at_call 29; (with_reducible refine (HLb.out _ (bstep (bstep (bstep (Below.refl _ _).drew hba) hbb) hbc)).mono ?_); rintro e wd ⟨rfl, hbd⟩) | (go_at_call 31; (with_reducible refine (HIa.out _ (bstep (bstep (bstep (bstep (Below.refl _ _).drew hba) hbb) hbc) hbd)).mono ?_); rintro e we ⟨ve, rfl, howne, hbe⟩) | (go_at_call 32; (with_reducible refine (HIb.out _ (bstep (bstep (bstep (bstep (bstep (Below.refl _ _).drew hba) hbb) hbc) hbd) hbe)).mono ?_); rintro e wf ⟨vf, rfl, hownf, hbf⟩) | (go_at_call 30; (with_reducible refine (HSm.out _ _ _ (OwnT.rd (own_keep howne hbf)) (OwnT.rd hownf)).mono ?_); rintro e wg ⟨rfl, hbg⟩))
              have HBz := Lib.hid (bstep HB8.out (bstep HBr.out (bstep (bstep (bstep (bstep (bstep (bstep (bstep (Below.refl _ _).drew hba) hbb) hbc) hbd) hbe) hbf) hbg)))
              rename_i hHeld
              clear hHeld hba hbb hbc hbd hbe hbf hbg howne hownf
              go_wp2_with fail
              exact ⟨⟨i + 1, by go_num, by omega, HBz⟩, by simp [intOf]; omega⟩
      · have ii1 : ¬ (i : Int) < 2 := by omega
        obtain rfl : i = 2 := by omega
        have HBz := Lib.hid (bstep HB4.out HBi.out)
        have HSa := Lib.hid (fun W => stripe_any key W)
        have HSb := Lib.hid (fun W => rstripe_any key W)
        generalize strp key = sk at *
        go_wp2_with fail
        refine (HSa.out _).mono ?_; rintro e w5 ⟨rfl, rfl⟩
        go_wp2_with fail
        refine (HSb.out _).mono ?_; rintro e w5 ⟨rfl, rfl⟩
        go_wp2_with fail
        refine (HAw.out _).mono ?_; rintro e w6 ⟨rfl, hb6⟩
        have HB6 := Lib.hid (bstep HBz.out hb6)
        clear hb6
        go_wp2_with fail
        go_ret
        exact ⟨rfl, HB6.out⟩
end Go.Proofs.Ytndhjfmdfcpceaa

namespace Go.Proofs.Ytndhjfmdfcpceaa
open Go.RowKit

theorem sameM_refl (M : Mp) : sameM M M = true := sameM_iff.2 (.refl M)
set_option maxRecDepth 100000 in
set_option maxHeartbeats 16000000 in
theorem changes_walk (q : Sl × Mp) (va : Value) (x : It) (key n : Int) (l : List It) (w : World) (h0 : RdM w q.1 q.2.st) (h : RdT w va l) :
    Calls Try.prog 3 #[mapV q.1 q.2.live q.2.garb, va, itV x, .int .u64 key, .int .i64 n] w fun e w' => e = .returned (.bool true) ∧ Below w.heap.size w w' := by
  obtain ⟨s, M⟩ := q
  dsimp only at *
  obtain ⟨W0, hW0⟩ : ∃ W0, (w.alloc (.cells (mapC s M.live M.garb) 25)).alloc (boxC x) = W0 := ⟨_, rfl⟩
  have HX := Lib.hid (show BoxM W0 w.heap.size s M.live M.garb from hW0 ▸ (BoxM.new w s M.live M.garb 25).below (below_box _ x))
  have HQ := Lib.hid (show BoxI W0 (w.heap.size + 1) x from hW0 ▸ (by have := BoxI.new (w.alloc (.cells (mapC s M.live M.garb) 25)) x; simpa using this))
  have HB := Lib.hid (show Below w.heap.size w W0 from hW0 ▸ bstep (below_map w s M.live M.garb 25) (below_box _ x))
  have HW0 := Lib.hid hW0
  clear hW0
  have HLi := Lib.hid (fun W hb => light_any s M.live M.garb M.st W (h0.below hb))
  have HLq := Lib.hid (fun h => lightM_iff (f := M.st) h)
  have HR := Lib.hid h0
  have HRl := Lib.hid h
  have HAw := Lib.hid (fun W => awakeM_any W)
  obtain ⟨a, cap, rfl, hl1, hl2⟩ := h.shape
  have hlm := lt63 hl1 hl2
  have HTk := Lib.hid (fun k (hk : k ≤ l.length) W (hb : Below w.heap.size w W) => RdS.below (RdS.take h k hk) hb)
  have HTo := Lib.hid (fun hl : 20 < l.length => slice_to (P := Try.prog) elemT (a := a) (n := l.length) (cap := cap) (fun x hx => by
      obtain ⟨b, off, e, _⟩ := h.at (show 0 < l.length by omega)
      exact ⟨b, off, Option.some.inj (hx.symm.trans e)⟩) 20 (by omega))
  have HTe := Lib.hid (fun (hl : ¬ 20 < l.length) W (hb : Below w.heap.size w W) => show RdT W (.slice a l.length cap) (l.take 20) by rw [List.take_of_length_le (by omega)]; exact RdT.below h hb)
  have HTl := Lib.hid (show (l.take 20).length ≤ 20 by rw [List.length_take]; omega)
  clear h0 h
  go_enter Try.func3, Try.ntmps3
  go_upto_region 1 with fail
  have hW0 := HW0.out
  rw [show (w.alloc (.cells (mapC s M.live M.garb) 25)).alloc (.cells #[.int .u64 x.key, .int .u32 x.ck, .int .i64 x.off, .int .i64 x.size] 29) = W0 from hW0]
  clear hW0 HW0
  have c0 := HX.out.c0
  have c1 := HX.out.c1
  have c2 := HX.out.c2
  have c3 := HX.out.c3
  have c4 := HX.out.c4
  have c5 := HX.out.c5
  have c6 := HX.out.c6
  have c7 := HX.out.c7
  have c8 := HX.out.cl
  have c9 := HX.out.cg
  have cF := HX.out.f
  go_wp2_with fail
  refine (HLi.out _ HB.out).mono ?_; rintro e w1 ⟨rfl, hb1⟩
  have HX1 := Lib.hid (HX.out.below hb1)
  have HQ1 := Lib.hid (HQ.out.below hb1)
  have HB1 := Lib.hid (bstep HB.out hb1)
  clear c0 c1 c2 c3 c4 c5 c6 c7 c8 c9 cF hb1 HX HQ HB HLi
  generalize lightM M.st = lb at *
  cases lb
  · go_wp2_with fail
    refine (HAw.out _).mono ?_; rintro e w2 ⟨rfl, hb2⟩
    have HB2 := Lib.hid (bstep HB1.out hb2)
    clear hb2
    go_wp2_with fail
    go_ret
    exact ⟨rfl, HB2.out⟩
  · have hlen := HLq.out rfl
    clear HLq
    go_upto_if 23 with fail
    go_cut [1] (fun v wx => (∃ a n c, v = .slice a n c ∧ RdT w1 (.slice a n c) (l.take 20)) ∧ w1 = wx)
    case first =>
      by_cases hl : 20 < l.length
      · have hd : decide ((20 : Int) < (l.length : Int)) = true := by simp; omega
        have hto := HTo.out hl
        rw [show ((20 : Nat) : Int) = 20 from rfl] at hto
        have HT20 := Lib.hid (HTk.out 20 (by omega) w1 HB1.out)
        go_wp2_with fail
        go_meet
        case rel => exact ⟨⟨_, _, _, rfl, HT20.out⟩, rfl⟩
      · have hd : decide ((20 : Int) < (l.length : Int)) = false := by simp; omega
        have HT20 := Lib.hid (HTe.out hl w1 HB1.out)
        generalize l.length = ln at *
        go_wp2_with fail
        go_meet
        case rel => exact ⟨⟨_, _, _, rfl, HT20.out⟩, rfl⟩
    case rest =>
      obtain ⟨⟨a', n', c', rfl, hrT⟩, hwx⟩ := hcut
      subst hwx
      have HRT := Lib.hid hrT
      have hTl := HTl.out
      clear hrT HTk HTo HTe HTl HRl hl1 hl2 hlm
      generalize l.take 20 = T at *
      have hn20 : (lawI T).length ≤ 20 := lawI_length T
      have hand1 := i64_and65535 n
      have hand2 := i64_and63 n
      have hj : IntKind.i64.wrap (1099511627776 - n % 64) = 1099511627776 - n % 64 := IntWalk.i64_in _ (by omega)
      have HI := Lib.hid (fun W (hb : Below w1.heap.size w1 W) => lawI_any (.slice a' n' c') T W (HRT.out.below hb))
      have HF1 := Lib.hid (fun v W h => rfromM_any v (lawI T) (n % 65536) W h (Nat.le_trans hn20 (by decide)))
      have HF2 := Lib.hid (fun v W h => rfromM_any v (lawI T) (1099511627776 - n % 64) W h (Nat.le_trans hn20 (by decide)))
      have HL1 := Lib.hid (fun i => Nat.le_trans (fromM_len (lawI T) (n % 65536) i) hn20)
      have HL2 := Lib.hid (fun i => Nat.le_trans (fromM_len (lawI T) (1099511627776 - n % 64) i) hn20)
      have HIt := Lib.hid (fun W h => lawI_any (.slice a' n' c') T W h)
      have HZa := Lib.hid (fun v W h => fromM_any v T n W h (Nat.le_trans hTl (by decide)))
      have HZb := Lib.hid (fun v W h => rfromM_any v T n W h (Nat.le_trans hTl (by decide)))
      have HZc := Lib.hid (fun v W h => fromM_any v (lawI T) n W h (Nat.le_trans hn20 (by decide)))
      have HZd := Lib.hid (fun v W h => rfromM_any v (lawI T) n W h (Nat.le_trans hn20 (by decide)))
      generalize fromM T n = Za at *
      generalize fromM (lawI T) n = Zc at *
      generalize fromM (lawI T) (n % 65536) = F1 at *
      generalize fromM (lawI T) (1099511627776 - n % 64) = F2 at *
      generalize lawI T = K at *
      clear hn20 hTl
      go_wp2_with fail
      have HSX := Lib.hid (show ∀ WV, Below w1.heap.size w1 WV → WV.cell? ⟨w.heap.size, 0, none⟩ = some (.slice (s.a 0) (s.n 0) (s.c 0)) ∧ WV.cell? ⟨w.heap.size, 1, none⟩ = some (.slice (s.a 1) (s.n 1) (s.c 1)) ∧ WV.cell? ⟨w.heap.size, 2, none⟩ = some (.slice (s.a 2) (s.n 2) (s.c 2)) ∧ WV.cell? ⟨w.heap.size, 3, none⟩ = some (.slice (s.a 3) (s.n 3) (s.c 3)) ∧ WV.cell? ⟨w.heap.size, 4, none⟩ = some (.slice (s.a 4) (s.n 4) (s.c 4)) ∧ WV.cell? ⟨w.heap.size, 5, none⟩ = some (.slice (s.a 5) (s.n 5) (s.c 5)) ∧ WV.cell? ⟨w.heap.size, 6, none⟩ = some (.slice (s.a 6) (s.n 6) (s.c 6)) ∧ WV.cell? ⟨w.heap.size, 7, none⟩ = some (.slice (s.a 7) (s.n 7) (s.c 7)) ∧ WV.cell? ⟨w.heap.size, 8, none⟩ = some (.int .i64 M.live) ∧ WV.cell? ⟨w.heap.size, 9, none⟩ = some (.int .i64 M.garb) from fun WV hb => ⟨(HX1.out.below hb).c0, (HX1.out.below hb).c1, (HX1.out.below hb).c2, (HX1.out.below hb).c3, (HX1.out.below hb).c4, (HX1.out.below hb).c5, (HX1.out.below hb).c6, (HX1.out.below hb).c7, (HX1.out.below hb).cl, (HX1.out.below hb).cg⟩)
      go_region_held3 (fun w' => w'.cell? ⟨w.heap.size, 0, none⟩ = some (.slice (s.a 0) (s.n 0) (s.c 0)) ∧ w'.cell? ⟨w.heap.size, 1, none⟩ = some (.slice (s.a 1) (s.n 1) (s.c 1)) ∧ w'.cell? ⟨w.heap.size, 2, none⟩ = some (.slice (s.a 2) (s.n 2) (s.c 2)) ∧ w'.cell? ⟨w.heap.size, 3, none⟩ = some (.slice (s.a 3) (s.n 3) (s.c 3)) ∧ w'.cell? ⟨w.heap.size, 4, none⟩ = some (.slice (s.a 4) (s.n 4) (s.c 4)) ∧ w'.cell? ⟨w.heap.size, 5, none⟩ = some (.slice (s.a 5) (s.n 5) (s.c 5)) ∧ w'.cell? ⟨w.heap.size, 6, none⟩ = some (.slice (s.a 6) (s.n 6) (s.c 6)) ∧ w'.cell? ⟨w.heap.size, 7, none⟩ = some (.slice (s.a 7) (s.n 7) (s.c 7)) ∧ w'.cell? ⟨w.heap.size, 8, none⟩ = some (.int .i64 M.live) ∧ w'.cell? ⟨w.heap.size, 9, none⟩ = some (.int .i64 M.garb))
        (first | with_reducible exact HSX.out _ (((bstep (bstep (bstep (bstep (Below.refl _ _).drew hba) hbb) hbc) hbd)).alloc ((bstep (bstep (bstep (bstep (Below.refl _ _).drew hba) hbb) hbc) hbd)).size _) | with_reducible exact HSX.out _ (bstep (bstep (bstep (bstep (Below.refl _ _).drew hba) hbb) hbc) hbd) | with_reducible exact HSX.out _ (bstep (bstep (bstep (Below.refl _ _).drew hba) hbb) hbc) | with_reducible exact HSX.out _ (bstep (bstep (Below.refl _ _).drew hba) hbb) | with_reducible exact HSX.out _ (bstep (Below.refl _ _).drew hba) | exact HSX.out _ (Below.refl _ _).drew)
        (first | (go_at_call 12; (with_reducible refine (HI.out _ (Below.refl _ _).drew).mono ?_); rintro e wa ⟨va1, rfl, howna, hba⟩) | (go_at_call 11; (with_reducible refine (HF1.out _ _ (OwnT.rd howna)).mono ?_); rintro e wb ⟨⟨s1, rfl, hownb⟩, hbb⟩) | (go_at_call 12; (with_reducible refine (HI.out _ (bstep (bstep (Below.refl _ _).drew hba) hbb)).mono ?_); rintro e wc ⟨vc1, rfl, hownc, hbc⟩) | (go_at_call 11; (with_reducible refine (HF2.out _ _ (OwnT.rd hownc)).mono ?_); rintro e wd ⟨⟨s2, rfl, hownd⟩, hbd⟩))
      rename_i hHeld
      clear hHeld
      have hbe := (bstep (bstep (bstep (bstep (Below.refl _ _).drew hba) hbb) hbc) hbd)
      have HBc := Lib.hid (bstep HB1.out hbe)
      have HRs := Lib.hid (show RdM wd s M.st from HR.out.below (bstep HB1.out hbe))
      have HR1 := Lib.hid (show RdM wd s1 F1.st from hownb.rd.below (bstep hbc hbd))
      have HR2 := Lib.hid (show RdM wd s2 F2.st from hownd.rd)
      have HRTd := Lib.hid (HRT.out.below hbe)
      have HQd := Lib.hid (HQ1.out.below hbe)
      clear hba hbb hbc hbd hbe howna hownb hownc hownd HI HF1 HF2 HSX HX1 HQ1 HB1 hand1 hand2 hj HRT
      go_upto_region 6 with fail
      obtain ⟨W4, hW4⟩ : ∃ W4, wd.alloc (.cells (mapC3 s M.live M.garb s1 F1.live F1.garb s2 F2.live F2.garb) 25) = W4 := ⟨_, rfl⟩
      have hb4 := show Below wd.heap.size wd W4 from hW4 ▸ (Below.refl _ _).alloc (Nat.le_refl _) _
      have HA4 := Lib.hid (show ArrM W4 wd.heap.size 3 (three s s1 s2) (three M F1 F2) from hW4 ▸ ArrM.new3 wd s s1 s2 M F1 F2 25)
      have HR4 := Lib.hid (show ∀ i, i < 3 → RdM W4 (three s s1 s2 i) (three M F1 F2 i).st from fun i hi => by
        rcases (show i = 0 ∨ i = 1 ∨ i = 2 by omega) with h | h | h <;> subst h
        · exact HRs.out.below hb4
        · exact HR1.out.below hb4
        · exact HR2.out.below hb4)
      have HN4 := Lib.hid (show ∀ i, i < 3 → ∀ j, j < 8 → ((three M F1 F2 i).st j).length ≤ 20 from fun i hi j hj => by
        rcases (show i = 0 ∨ i = 1 ∨ i = 2 by omega) with h | h | h <;> subst h
        · exact Nat.le_trans (hlen j hj) (by decide)
        · exact HL1.out j
        · exact HL2.out j)
      have HB4 := Lib.hid (bstep HBc.out hb4)
      have HT4 := Lib.hid (HRTd.out.below hb4)
      have HQ4 := Lib.hid (HQd.out.below hb4)
      rw [show wd.alloc (.cells #[.slice (s.a 0) (s.n 0) (s.c 0), .slice (s.a 1) (s.n 1) (s.c 1), .slice (s.a 2) (s.n 2) (s.c 2), .slice (s.a 3) (s.n 3) (s.c 3), .slice (s.a 4) (s.n 4) (s.c 4), .slice (s.a 5) (s.n 5) (s.c 5), .slice (s.a 6) (s.n 6) (s.c 6), .slice (s.a 7) (s.n 7) (s.c 7), .int .i64 M.live, .int .i64 M.garb, .slice (s1.a 0) (s1.n 0) (s1.c 0), .slice (s1.a 1) (s1.n 1) (s1.c 1), .slice (s1.a 2) (s1.n 2) (s1.c 2), .slice (s1.a 3) (s1.n 3) (s1.c 3), .slice (s1.a 4) (s1.n 4) (s1.c 4), .slice (s1.a 5) (s1.n 5) (s1.c 5), .slice (s1.a 6) (s1.n 6) (s1.c 6), .slice (s1.a 7) (s1.n 7) (s1.c 7), .int .i64 F1.live, .int .i64 F1.garb, .slice (s2.a 0) (s2.n 0) (s2.c 0), .slice (s2.a 1) (s2.n 1) (s2.c 1), .slice (s2.a 2) (s2.n 2) (s2.c 2), .slice (s2.a 3) (s2.n 3) (s2.c 3), .slice (s2.a 4) (s2.n 4) (s2.c 4), .slice (s2.a 5) (s2.n 5) (s2.c 5), .slice (s2.a 6) (s2.n 6) (s2.c 6), .slice (s2.a 7) (s2.n 7) (s2.c 7), .int .i64 F2.live, .int .i64 F2.garb] 25) = W4 from hW4]
      clear hW4 hb4 HRs HR1 HR2 HBc hlen HL1 HL2 HRTd HQd
      generalize three s s1 s2 = sl at *
      generalize three M F1 F2 = mp at *
      generalize wd.heap.size = bs at *
      go_wp2_with fail
      go_loopw [40] (fun iv W => ∃ i : Nat, iv = .int .i64 (i : Int) ∧ i ≤ 3 ∧ Hid (Below W4.heap.size W4 W)) (fun iv _ => 3 - (intOf iv).toNat)
      case atStart => exact ⟨0, rfl, Nat.zero_le _, Lib.hid (Below.refl _ _)⟩
      case round =>
        obtain ⟨i, rfl, hi, HBi⟩ := hrel
        by_cases hin : i < 3
        · have ii1 : (i : Int) < 3 := by omega
          have HAi := Lib.hid (HA4.out.below HBi.out)
          have HRi := Lib.hid (fun W hb => (HR4.out i hin).below (w' := W) (bstep HBi.out hb))
          have hs : ∀ j, j < 8 → ((mp i).st j).length ≤ 9000 := fun j hj => Nat.le_trans (HN4.out i hin j hj) (by decide)
          have HQi := Lib.hid (HQ4.out.below HBi.out)
          have e0 := HAi.out.c i hin 0 (by decide)
          have e1 := HAi.out.c i hin 1 (by decide)
          have e2 := HAi.out.c i hin 2 (by decide)
          have e3 := HAi.out.c i hin 3 (by decide)
          have e4 := HAi.out.c i hin 4 (by decide)
          have e5 := HAi.out.c i hin 5 (by decide)
          have e6 := HAi.out.c i hin 6 (by decide)
          have e7 := HAi.out.c i hin 7 (by decide)
          have e8 := HAi.out.cl i hin
          have e9 := HAi.out.cg i hin
          generalize sl i = t at *
          generalize mp i = N at *
          have hs2 : ∀ j, j < 8 → (N.st j).length ≤ 10000 := fun j hj => Nat.le_trans (hs j hj) (by decide)
          rw [Sl.v] at e0 e1 e2 e3 e4 e5 e6 e7
          rw [Nat.add_zero] at e0
          go_upto_region 8 with fail
          obtain ⟨W5, hW5⟩ : ∃ W5, wr.alloc (.cells (mapC t N.live N.garb) 25) = W5 := ⟨_, rfl⟩
          have hb5 := below_map wr t N.live N.garb 25
          rw [hW5] at hb5
          have HX5 := Lib.hid (show BoxM W5 wr.heap.size t N.live N.garb from hW5 ▸ BoxM.new wr t N.live N.garb 25)
          have HB5 := Lib.hid (bstep HBi.out hb5)
          have HRn := Lib.hid (fun W (hb : Below W5.heap.size W5 W) => HRi.out W (bstep hb5 hb))
          have HQ5 := Lib.hid (HQi.out.below hb5)
          rw [show wr.alloc (.cells #[.slice (t.a 0) (t.n 0) (t.c 0), .slice (t.a 1) (t.n 1) (t.c 1), .slice (t.a 2) (t.n 2) (t.c 2), .slice (t.a 3) (t.n 3) (t.c 3), .slice (t.a 4) (t.n 4) (t.c 4), .slice (t.a 5) (t.n 5) (t.c 5), .slice (t.a 6) (t.n 6) (t.c 6), .slice (t.a 7) (t.n 7) (t.c 7), .int .i64 N.live, .int .i64 N.garb] 25) = W5 from hW5]
          clear hW5 hb5 HRi HAi HBi HQi e0 e1 e2 e3 e4 e5 e6 e7 e8 e9
          generalize wr.heap.size = bx at *
          have HIx := Lib.hid (fun v W h => lawI_any v [x] W h)
          have HKL := Lib.hid (show (lawI [x]).length = 1 from rfl)
          generalize lawI [x] = KX at *
          go_cut [49, 50, 51] (fun v49 v50 v51 wx => (∃ a c, v49 = .slice a 2 c ∧ RdT wx (.slice a 2 c) (KX ++ [x])) ∧ v50 = .int .i64 2 ∧ v51 = .int .i64 0 ∧ Below W5.heap.size W5 wx)
          case first =>
            have HSX8 := Lib.hid (show ∀ WV, Below W5.heap.size W5 WV → WV.cell? ⟨w.heap.size + 1, 0, none⟩ = some (.int .u64 x.key) ∧ WV.cell? ⟨w.heap.size + 1, 1, none⟩ = some (.int .u32 x.ck) ∧ WV.cell? ⟨w.heap.size + 1, 2, none⟩ = some (.int .i64 x.off) ∧ WV.cell? ⟨w.heap.size + 1, 3, none⟩ = some (.int .i64 x.size) from fun WV hb => ⟨(HQ5.out.below hb).t.c0, (HQ5.out.below hb).t.c1, (HQ5.out.below hb).t.c2, (HQ5.out.below hb).t.c3⟩)
            have HP3 := Lib.hid (show ∀ WV v B, OwnT WV B v KX → WV.ownsRow B 29 4 v 1 (itsC KX) from fun WV v B h => by
              have h : WV.ownsRow B 29 4 v KX.length (itsC KX) := h
              rwa [HKL.out] at h)
            have hc1 := show Below W5.heap.size W5 W5.drew from below_drew (Below.refl _ _)
            have hc2 := show Below W5.heap.size W5 (W5.alloc (boxC x)).drew from below_drew (below_box _ x)
            have hc3 := show Below W5.heap.size W5 ((W5.alloc (boxC x)).alloc (boxC x)).drew from below_drew (bstep (below_box _ x) (below_box _ x))
            have hrA := show RdT (W5.alloc (boxC x)).drew (.slice (some ⟨W5.heap.size, 0, none⟩) 1 1) [x] from (rd_lit1 W5 x _ rfl).drew
            have hrB := show RdT ((W5.alloc (boxC x)).alloc (boxC x)).drew (.slice (some ⟨W5.heap.size, 0, none⟩) 1 1) [x] from ((rd_lit1 W5 x _ rfl).alloc _).drew
            have hrC := show RdT ((W5.alloc (boxC x)).alloc (boxC x)).drew (.slice (some ⟨W5.heap.size + 1, 0, none⟩) 1 1) [x] from (rd_lit1 (W5.alloc (boxC x)) x _ (by simp)).drew
            go_wp2_with fail
            go_region_held3 (fun w' => w'.cell? ⟨w.heap.size + 1, 0, none⟩ = some (.int .u64 x.key) ∧ w'.cell? ⟨w.heap.size + 1, 1, none⟩ = some (.int .u32 x.ck) ∧ w'.cell? ⟨w.heap.size + 1, 2, none⟩ = some (.int .i64 x.off) ∧ w'.cell? ⟨w.heap.size + 1, 3, none⟩ = some (.int .i64 x.size))
              (first | with_reducible exact HSX8.out _ hc6 | with_reducible exact HSX8.out _ hc5 | with_reducible exact HSX8.out _ hc4 | with_reducible exact HSX8.out _ hc3 | with_reducible exact HSX8.out _ hc2 | with_reducible exact HSX8.out _ hc1 | exact HSX8.out _ hc1)
              (first | (go_at_call 12; (with_reducible refine (HIx.out _ _ hrA).mono ?_); rintro e wa ⟨va, rfl, howna, hba⟩; have hown := HP3.out _ _ _ howna; have hc4 := bstep hc2 hba; have hc5 := bstep hc4 (below_box wa x)) | (go_at_call 12; (with_reducible refine (HIx.out _ _ hrB).mono ?_); rintro e wa ⟨va, rfl, howna, hba⟩; have hown := HP3.out _ _ _ howna; have hc4 := bstep hc3 hba; have hc5 := bstep hc4 (below_box wa x)) | (go_at_call 12; (with_reducible refine (HIx.out _ _ hrC).mono ?_); rintro e wa ⟨va, rfl, howna, hba⟩; have hown := HP3.out _ _ _ howna; have hc4 := bstep hc3 hba; have hc5 := bstep hc4 (below_box wa x)) | (refine step_app (m := 1) (by rfl) (.tmp 46) (.tmp 48) 22 (by rfl) elemT W5.heap.size (by rfl) ((World.ownsRow.mono hown (hc2.size)).alloc _) (by rfl) (rdT_rd (rd_lit1 wa x _ rfl)) (itsC_one' _) (by unfold maxLen; omega) (by omega) (hc5).size ?_; intro v2 w2 hown2 hgr2 hv2; clear hv2; obtain ⟨oa2, oc2, hv2, _⟩ := own_form hown2; subst hv2; have hc6 := own_below hc5 ((World.ownsRow.mono hown (hc2.size)).alloc _) (hc5).size hgr2) | (refine step_app (m := 1) (by rfl) (.tmp 46) (.tmp 48) 22 (by rfl) elemT W5.heap.size (by rfl) (World.ownsRow.mono hown (hc3.size)) (by rfl) ((rdT_rd hrC).below hba) (itsC_one' _) (by unfold maxLen; omega) (by omega) (hc4).size ?_; intro v2 w2 hown2 hgr2 hv2; clear hv2; obtain ⟨oa2, oc2, hv2, _⟩ := own_form hown2; subst hv2; have hc6 := own_below hc4 (World.ownsRow.mono hown (hc3.size)) (hc4).size hgr2) | (refine step_app (m := 1) (by rfl) (.tmp 46) (.tmp 48) 22 (by rfl) elemT W5.heap.size (by rfl) (World.ownsRow.mono hown (hc3.size)) (by rfl) ((rdT_rd hrB).below hba) (itsC_one' _) (by unfold maxLen; omega) (by omega) (hc4).size ?_; intro v2 w2 hown2 hgr2 hv2; clear hv2; obtain ⟨oa2, oc2, hv2, _⟩ := own_form hown2; subst hv2; have hc6 := own_below hc4 (World.ownsRow.mono hown (hc3.size)) (hc4).size hgr2))
            all_goals
              go_wp2_with fail
              go_meet
              case rel => exact ⟨⟨_, _, rfl, OwnT.rd (ownT_of hown2 (itsC_append _ _).symm)⟩, rfl, rfl, hc6⟩
          case rest =>
            obtain ⟨⟨pa, pc, rfl, hrp⟩, rfl, rfl, hb6⟩ := hcut
            generalize hV6 : wc = V6 at *
            clear hV6
            have HX6 := Lib.hid (HX5.out.below hb6)
            have HB6 := Lib.hid (bstep HB5.out hb6)
            have HQ6 := Lib.hid (HQ5.out.below hb6)
            have HRm := Lib.hid (fun W (hb : Below V6.heap.size V6 W) => HRn.out W (bstep hb6 hb))
            have HRp := Lib.hid hrp
            clear hb6 hrp HX5 HB5 HQ5 HRn HIx HKL
            generalize KX ++ [x] = Y at *
            go_wp2_with fail
            go_loopw [51] (fun jv W => ∃ j : Nat, jv = .int .i64 (j : Int) ∧ j ≤ 2 ∧ Hid (Below V6.heap.size V6 W)) (fun jv _ => 2 - (intOf jv).toNat)
            case atStart => exact ⟨0, rfl, Nat.zero_le _, Lib.hid (Below.refl _ _)⟩
            case round =>
              obtain ⟨j, rfl, hj, HBj⟩ := hrel
              by_cases hjt : j < 2
              · have jj1 : (j : Int) < 2 := by omega
                obtain ⟨pb, poff, e, k0, k1, k2, k3⟩ := (HRp.out.below HBj.out).at hjt
                subst e
                generalize iat Y j = y at *
                go_upto_region 11 with fail
                obtain ⟨W7, hW7⟩ : ∃ W7, wr.alloc (boxC y) = W7 := ⟨_, rfl⟩
                have hb7 := below_box wr y
                rw [hW7] at hb7
                have HX7 := Lib.hid (HX6.out.below (bstep HBj.out hb7))
                have HI7 := Lib.hid (show BoxI W7 wr.heap.size y from hW7 ▸ BoxI.new wr y)
                have HB7 := Lib.hid (bstep HBj.out hb7)
                rw [show wr.alloc (.cells #[.int .u64 y.key, .int .u32 y.ck, .int .i64 y.off, .int .i64 y.size] 29) = W7 from hW7]
                clear hW7 hb7 k0 k1 k2 k3 HBj
                generalize wr.heap.size = by7 at *
                have HPa := Lib.hid (fun W (hb : Below W7.heap.size W7 W) => putM_any t N y W (HRm.out W (bstep HB7.out hb)) hs2)
                have HPb := Lib.hid (fun W (hb : Below W7.heap.size W7 W) => rputM_any t N y W (HRm.out W (bstep HB7.out hb)) hs)
                have HSa := Lib.hid (fun s t W h h2 => sameM_any s t (insM N y) (rputM N y) W h h2)
                rw [sameM_iff.2 (put_same N y)] at HSa
                rw [show itV y = .agg #[.int .u64 y.key, .int .u32 y.ck, .int .i64 y.off, .int .i64 y.size] from rfl] at HPa HPb
                generalize insM N y = A1 at *
                generalize rputM N y = A2 at *
                have HSX := Lib.hid (show ∀ WV, Below W7.heap.size W7 WV → WV.cell? ⟨bx, 0, none⟩ = some (.slice (t.a 0) (t.n 0) (t.c 0)) ∧ WV.cell? ⟨bx, 1, none⟩ = some (.slice (t.a 1) (t.n 1) (t.c 1)) ∧ WV.cell? ⟨bx, 2, none⟩ = some (.slice (t.a 2) (t.n 2) (t.c 2)) ∧ WV.cell? ⟨bx, 3, none⟩ = some (.slice (t.a 3) (t.n 3) (t.c 3)) ∧ WV.cell? ⟨bx, 4, none⟩ = some (.slice (t.a 4) (t.n 4) (t.c 4)) ∧ WV.cell? ⟨bx, 5, none⟩ = some (.slice (t.a 5) (t.n 5) (t.c 5)) ∧ WV.cell? ⟨bx, 6, none⟩ = some (.slice (t.a 6) (t.n 6) (t.c 6)) ∧ WV.cell? ⟨bx, 7, none⟩ = some (.slice (t.a 7) (t.n 7) (t.c 7)) ∧ WV.cell? ⟨bx, 8, none⟩ = some (.int .i64 N.live) ∧ WV.cell? ⟨bx, 9, none⟩ = some (.int .i64 N.garb) ∧ WV.cell? ⟨by7, 0, none⟩ = some (.int .u64 y.key) ∧ WV.cell? ⟨by7, 1, none⟩ = some (.int .u32 y.ck) ∧ WV.cell? ⟨by7, 2, none⟩ = some (.int .i64 y.off) ∧ WV.cell? ⟨by7, 3, none⟩ = some (.int .i64 y.size) from fun WV hb => ⟨(HX7.out.below hb).c0, (HX7.out.below hb).c1, (HX7.out.below hb).c2, (HX7.out.below hb).c3, (HX7.out.below hb).c4, (HX7.out.below hb).c5, (HX7.out.below hb).c6, (HX7.out.below hb).c7, (HX7.out.below hb).cl, (HX7.out.below hb).cg, (HI7.out.below hb).t.c0, (HI7.out.below hb).t.c1, (HI7.out.below hb).t.c2, (HI7.out.below hb).t.c3⟩)
                go_wp2_with fail
                go_region_held3 (fun w' => w'.cell? ⟨bx, 0, none⟩ = some (.slice (t.a 0) (t.n 0) (t.c 0)) ∧ w'.cell? ⟨bx, 1, none⟩ = some (.slice (t.a 1) (t.n 1) (t.c 1)) ∧ w'.cell? ⟨bx, 2, none⟩ = some (.slice (t.a 2) (t.n 2) (t.c 2)) ∧ w'.cell? ⟨bx, 3, none⟩ = some (.slice (t.a 3) (t.n 3) (t.c 3)) ∧ w'.cell? ⟨bx, 4, none⟩ = some (.slice (t.a 4) (t.n 4) (t.c 4)) ∧ w'.cell? ⟨bx, 5, none⟩ = some (.slice (t.a 5) (t.n 5) (t.c 5)) ∧ w'.cell? ⟨bx, 6, none⟩ = some (.slice (t.a 6) (t.n 6) (t.c 6)) ∧ w'.cell? ⟨bx, 7, none⟩ = some (.slice (t.a 7) (t.n 7) (t.c 7)) ∧ w'.cell? ⟨bx, 8, none⟩ = some (.int .i64 N.live) ∧ w'.cell? ⟨bx, 9, none⟩ = some (.int .i64 N.garb) ∧ w'.cell? ⟨by7, 0, none⟩ = some (.int .u64 y.key) ∧ w'.cell? ⟨by7, 1, none⟩ = some (.int .u32 y.ck) ∧ w'.cell? ⟨by7, 2, none⟩ = some (.int .i64 y.off) ∧ w'.cell? ⟨by7, 3, none⟩ = some (.int .i64 y.size))
                  (first | with_reducible exact HSX.out _ (bstep (bstep (bstep (bstep (bstep (Below.refl _ _).drew hba) hbb) hbc) hbd) hbe) | with_reducible exact HSX.out _ (bstep (bstep (bstep (bstep (Below.refl _ _).drew hba) hbb) hbc) hbd) | with_reducible exact HSX.out _ (bstep (bstep (bstep (Below.refl _ _).drew hba) hbb) hbc) | with_reducible exact HSX.out _ (bstep (bstep (Below.refl _ _).drew hba) hbb) | with_reducible exact HSX.out _ (bstep (Below.refl _ _).drew hba) | exact HSX.out _ (Below.refl _ _).drew)
                  (first | (go_at_call 16; (with_reducible refine (given_any t N.live N.garb _).mono ?_); rintro e wa ⟨rfl, hba⟩) | (go_at_call 15; (with_reducible refine (HPa.out _ (bstep (Below.refl _ _).drew hba)).mono ?_); rintro e wb ⟨⟨sP, rfl, hownb⟩, hbb⟩) | (go_at_call 14; (with_reducible refine (told_any sP _ _ _).mono ?_); rintro e wc ⟨rfl, hbc⟩) | (go_at_call 17; (with_reducible refine (HPb.out _ (bstep (bstep (bstep (Below.refl _ _).drew hba) hbb) hbc)).mono ?_); rintro e wd ⟨⟨sQ, rfl, hrq⟩, hbd⟩) | (go_at_call 13; (with_reducible refine (HSa.out _ _ _ (hownb.rd.below (bstep hbc hbd)) hrq).mono ?_); rintro e we ⟨rfl, hbe⟩))
                have hbf := (bstep (bstep (bstep (bstep (bstep (Below.refl _ _).drew hba) hbb) hbc) hbd) hbe)
                rename_i hHeld
                clear hHeld hba hbb hbc hbd hbe hownb hrq
                have HBz := Lib.hid (bstep HB7.out hbf)
                clear hbf
                go_wp2_with fail
                exact ⟨⟨j + 1, by go_num, by omega, HBz⟩, by simp [intOf]; omega⟩
              · have jj1 : ¬ (j : Int) < 2 := by omega
                obtain rfl : j = 2 := by omega
                have HXj := Lib.hid (HX6.out.below HBj.out)
                have HQj := Lib.hid (HQ6.out.below HBj.out)
                have HK8 := Lib.hid (show ∀ r, r < 2 → (wr.alloc (.cells #[.int .u64 key, .int .u64 x.key] 26)).cell? ⟨wr.heap.size, r, none⟩ = some (.int .u64 (two key x.key r)) from fun r hr => by
                  rcases (show r = 0 ∨ r = 1 by omega) with h | h <;> subst h <;> simp [two])
                have hb8 := show Below wr.heap.size wr (wr.alloc (.cells #[.int .u64 key, .int .u64 x.key] 26)) from (Below.refl _ _).alloc (Nat.le_refl _) _
                have i0 := HQj.out.t.c0
                have i1 := HQj.out.t.c1
                have i2 := HQj.out.t.c2
                have i3 := HQj.out.t.c3
                have iF := HQj.out.f
                go_upto_region 15 with fail
                obtain ⟨W8, hW8⟩ : ∃ W8, wr.alloc (.cells #[.int .u64 key, .int .u64 x.key] 26) = W8 := ⟨_, rfl⟩
                rw [hW8] at HK8 hb8
                rw [hW8]
                have HX8 := Lib.hid (HXj.out.below hb8)
                have HB8 := Lib.hid (bstep HBj.out hb8)
                clear hW8 hb8 HXj HQj HBj i0 i1 i2 i3 iF
                generalize wr.heap.size = bk at *
                generalize two key x.key = kf at *
                go_wp2_with fail
                go_loopw [71] (fun rv W => ∃ r : Nat, rv = .int .i64 (r : Int) ∧ r ≤ 2 ∧ Hid (Below W8.heap.size W8 W)) (fun rv _ => 2 - (intOf rv).toNat)
                case atStart => exact ⟨0, rfl, Nat.zero_le _, Lib.hid (Below.refl _ _)⟩
                case round =>
                  obtain ⟨r, rfl, hr, HBr⟩ := hrel
                  have HX9 := Lib.hid (HX8.out.below HBr.out)
                  have HB9 := Lib.hid (bstep HB8.out HBr.out)
                  by_cases hrt : r < 2
                  · have rr1 : (r : Int) < 2 := by omega
                    have kr := Below.keeps HBr.out _ _ (HK8.out r hrt)
                    generalize kf r = k at *
                    have HPa := Lib.hid (fun W (hb : Below wr.heap.size wr W) => deleteM_any t N k W (HRm.out W (bstep HB9.out hb)) hs2)
                    have HPb := Lib.hid (fun W (hb : Below wr.heap.size wr W) => rdelM_any t N k W (HRm.out W (bstep HB9.out hb)) hs)
                    have HSa := Lib.hid (fun s t W h h2 => sameM_any s t (delM N k) (rdelM N k) W h h2)
                    rw [sameM_iff.2 (del_same N k)] at HSa
                    generalize delM N k = A1 at *
                    generalize rdelM N k = A2 at *
                    go_upto_region 17 with fail
                    clear kr
                    have HSX := Lib.hid (show ∀ WV, Below wr.heap.size wr WV → WV.cell? ⟨bx, 0, none⟩ = some (.slice (t.a 0) (t.n 0) (t.c 0)) ∧ WV.cell? ⟨bx, 1, none⟩ = some (.slice (t.a 1) (t.n 1) (t.c 1)) ∧ WV.cell? ⟨bx, 2, none⟩ = some (.slice (t.a 2) (t.n 2) (t.c 2)) ∧ WV.cell? ⟨bx, 3, none⟩ = some (.slice (t.a 3) (t.n 3) (t.c 3)) ∧ WV.cell? ⟨bx, 4, none⟩ = some (.slice (t.a 4) (t.n 4) (t.c 4)) ∧ WV.cell? ⟨bx, 5, none⟩ = some (.slice (t.a 5) (t.n 5) (t.c 5)) ∧ WV.cell? ⟨bx, 6, none⟩ = some (.slice (t.a 6) (t.n 6) (t.c 6)) ∧ WV.cell? ⟨bx, 7, none⟩ = some (.slice (t.a 7) (t.n 7) (t.c 7)) ∧ WV.cell? ⟨bx, 8, none⟩ = some (.int .i64 N.live) ∧ WV.cell? ⟨bx, 9, none⟩ = some (.int .i64 N.garb) from fun WV hb => ⟨(HX9.out.below hb).c0, (HX9.out.below hb).c1, (HX9.out.below hb).c2, (HX9.out.below hb).c3, (HX9.out.below hb).c4, (HX9.out.below hb).c5, (HX9.out.below hb).c6, (HX9.out.below hb).c7, (HX9.out.below hb).cl, (HX9.out.below hb).cg⟩)
                    go_wp2_with fail
                    go_region_held3 (fun w' => w'.cell? ⟨bx, 0, none⟩ = some (.slice (t.a 0) (t.n 0) (t.c 0)) ∧ w'.cell? ⟨bx, 1, none⟩ = some (.slice (t.a 1) (t.n 1) (t.c 1)) ∧ w'.cell? ⟨bx, 2, none⟩ = some (.slice (t.a 2) (t.n 2) (t.c 2)) ∧ w'.cell? ⟨bx, 3, none⟩ = some (.slice (t.a 3) (t.n 3) (t.c 3)) ∧ w'.cell? ⟨bx, 4, none⟩ = some (.slice (t.a 4) (t.n 4) (t.c 4)) ∧ w'.cell? ⟨bx, 5, none⟩ = some (.slice (t.a 5) (t.n 5) (t.c 5)) ∧ w'.cell? ⟨bx, 6, none⟩ = some (.slice (t.a 6) (t.n 6) (t.c 6)) ∧ w'.cell? ⟨bx, 7, none⟩ = some (.slice (t.a 7) (t.n 7) (t.c 7)) ∧ w'.cell? ⟨bx, 8, none⟩ = some (.int .i64 N.live) ∧ w'.cell? ⟨bx, 9, none⟩ = some (.int .i64 N.garb))
                      (first | with_reducible exact HSX.out _ (bstep (bstep (bstep (bstep (bstep (Below.refl _ _).drew hba) hbb) hbc) hbd) hbe) | with_reducible exact HSX.out _ (bstep (bstep (bstep (bstep (Below.refl _ _).drew hba) hbb) hbc) hbd) | with_reducible exact HSX.out _ (bstep (bstep (bstep (Below.refl _ _).drew hba) hbb) hbc) | with_reducible exact HSX.out _ (bstep (bstep (Below.refl _ _).drew hba) hbb) | with_reducible exact HSX.out _ (bstep (Below.refl _ _).drew hba) | exact HSX.out _ (Below.refl _ _).drew)
                      (first | (go_at_call 16; (with_reducible refine (given_any t N.live N.garb _).mono ?_); rintro e wa ⟨rfl, hba⟩) | (go_at_call 18; (with_reducible refine (HPa.out _ (bstep (Below.refl _ _).drew hba)).mono ?_); rintro e wb ⟨⟨sP, rfl, hownb⟩, hbb⟩) | (go_at_call 14; (with_reducible refine (told_any sP _ _ _).mono ?_); rintro e wc ⟨rfl, hbc⟩) | (go_at_call 19; (with_reducible refine (HPb.out _ (bstep (bstep (bstep (Below.refl _ _).drew hba) hbb) hbc)).mono ?_); rintro e wd ⟨⟨sQ, rfl, hrq⟩, hbd⟩) | (go_at_call 13; (with_reducible refine (HSa.out _ _ _ (hownb.rd.below (bstep hbc hbd)) hrq).mono ?_); rintro e we ⟨rfl, hbe⟩))
                    have hbf := (bstep (bstep (bstep (bstep (bstep (Below.refl _ _).drew hba) hbb) hbc) hbd) hbe)
                    rename_i hHeld
                    clear hHeld hba hbb hbc hbd hbe hownb hrq
                    have HBz := Lib.hid (bstep HBr.out hbf)
                    clear hbf
                    go_wp2_with fail
                    exact ⟨⟨r + 1, by go_num, by omega, HBz⟩, by simp [intOf]; omega⟩
                  · have rr1 : ¬ (r : Int) < 2 := by omega
                    obtain rfl : r = 2 := by omega
                    have HPa := Lib.hid (fun W (hb : Below wr.heap.size wr W) => wasteM_any t N n W (HRm.out W (bstep HB9.out hb)) hs2)
                    have HPb := Lib.hid (fun W (hb : Below wr.heap.size wr W) => (show _ ∧ _ from ⟨rwasteM_any t N n W (HRm.out W (bstep HB9.out hb)) hs2, HRm.out W (bstep HB9.out hb)⟩))
                    have hst : (wasteM N n).st = N.st := by
                      unfold wasteM; split <;> rfl
                    have HSa := Lib.hid (fun s t W h (h2 : RdM W t N.st) => sameM_any s t (wasteM N n) (wasteM N n) W h (by rw [hst]; exact h2))
                    rw [sameM_refl] at HSa
                    clear hst
                    generalize wasteM N n = A1 at *
                    have HSX := Lib.hid (show ∀ WV, Below wr.heap.size wr WV → WV.cell? ⟨bx, 0, none⟩ = some (.slice (t.a 0) (t.n 0) (t.c 0)) ∧ WV.cell? ⟨bx, 1, none⟩ = some (.slice (t.a 1) (t.n 1) (t.c 1)) ∧ WV.cell? ⟨bx, 2, none⟩ = some (.slice (t.a 2) (t.n 2) (t.c 2)) ∧ WV.cell? ⟨bx, 3, none⟩ = some (.slice (t.a 3) (t.n 3) (t.c 3)) ∧ WV.cell? ⟨bx, 4, none⟩ = some (.slice (t.a 4) (t.n 4) (t.c 4)) ∧ WV.cell? ⟨bx, 5, none⟩ = some (.slice (t.a 5) (t.n 5) (t.c 5)) ∧ WV.cell? ⟨bx, 6, none⟩ = some (.slice (t.a 6) (t.n 6) (t.c 6)) ∧ WV.cell? ⟨bx, 7, none⟩ = some (.slice (t.a 7) (t.n 7) (t.c 7)) ∧ WV.cell? ⟨bx, 8, none⟩ = some (.int .i64 N.live) ∧ WV.cell? ⟨bx, 9, none⟩ = some (.int .i64 N.garb) from fun WV hb => ⟨(HX9.out.below hb).c0, (HX9.out.below hb).c1, (HX9.out.below hb).c2, (HX9.out.below hb).c3, (HX9.out.below hb).c4, (HX9.out.below hb).c5, (HX9.out.below hb).c6, (HX9.out.below hb).c7, (HX9.out.below hb).cl, (HX9.out.below hb).cg⟩)
                    go_wp2_with fail
                    go_region_held3 (fun w' => w'.cell? ⟨bx, 0, none⟩ = some (.slice (t.a 0) (t.n 0) (t.c 0)) ∧ w'.cell? ⟨bx, 1, none⟩ = some (.slice (t.a 1) (t.n 1) (t.c 1)) ∧ w'.cell? ⟨bx, 2, none⟩ = some (.slice (t.a 2) (t.n 2) (t.c 2)) ∧ w'.cell? ⟨bx, 3, none⟩ = some (.slice (t.a 3) (t.n 3) (t.c 3)) ∧ w'.cell? ⟨bx, 4, none⟩ = some (.slice (t.a 4) (t.n 4) (t.c 4)) ∧ w'.cell? ⟨bx, 5, none⟩ = some (.slice (t.a 5) (t.n 5) (t.c 5)) ∧ w'.cell? ⟨bx, 6, none⟩ = some (.slice (t.a 6) (t.n 6) (t.c 6)) ∧ w'.cell? ⟨bx, 7, none⟩ = some (.slice (t.a 7) (t.n 7) (t.c 7)) ∧ w'.cell? ⟨bx, 8, none⟩ = some (.int .i64 N.live) ∧ w'.cell? ⟨bx, 9, none⟩ = some (.int .i64 N.garb))
                      (first | with_reducible exact HSX.out _ (bstep (bstep (bstep (bstep (bstep (Below.refl _ _).drew hba) hbb) hbc) hbd) hbe) | with_reducible exact HSX.out _ (bstep (bstep (bstep (bstep (Below.refl _ _).drew hba) hbb) hbc) hbd) | with_reducible exact HSX.out _ (bstep (bstep (bstep (Below.refl _ _).drew hba) hbb) hbc) | with_reducible exact HSX.out _ (bstep (bstep (Below.refl _ _).drew hba) hbb) | with_reducible exact HSX.out _ (bstep (Below.refl _ _).drew hba) | exact HSX.out _ (Below.refl _ _).drew)
                      (first | (go_at_call 16; (with_reducible refine (given_any t N.live N.garb _).mono ?_); rintro e wa ⟨rfl, hba⟩) | (go_at_call 20; (with_reducible refine (HPa.out _ (bstep (Below.refl _ _).drew hba)).mono ?_); rintro e wb ⟨⟨sP, rfl, hownb⟩, hbb⟩) | (go_at_call 14; (with_reducible refine (told_any sP _ _ _).mono ?_); rintro e wc ⟨rfl, hbc⟩) | (go_at_call 21; (with_reducible refine ((HPb.out _ (bstep (bstep (bstep (Below.refl _ _).drew hba) hbb) hbc)).1).mono ?_); rintro e wd ⟨rfl, hbd⟩) | (go_at_call 13; (with_reducible refine (HSa.out _ _ _ (hownb.rd.below (bstep hbc hbd)) (HPb.out _ (bstep (bstep (bstep (bstep (Below.refl _ _).drew hba) hbb) hbc) hbd)).2).mono ?_); rintro e we ⟨rfl, hbe⟩))
                    have hbf := (bstep (bstep (bstep (bstep (bstep (Below.refl _ _).drew hba) hbb) hbc) hbd) hbe)
                    rename_i hHeld
                    clear hHeld hba hbb hbc hbd hbe hownb 
                    have HBz := Lib.hid (bstep HB6.out (bstep HB9.out hbf))
                    clear hbf
                    go_wp2_with fail
                    exact ⟨⟨i + 1, by go_num, by omega, HBz⟩, by simp [intOf]; omega⟩
        · have ii1 : ¬ (i : Int) < 3 := by omega
          obtain rfl : i = 3 := by omega
          have HBz := Lib.hid (bstep HB4.out HBi.out)
          have HTz := Lib.hid (fun W (hb : Below wr.heap.size wr W) => HT4.out.below (bstep HBi.out hb))
          have HS1 := Lib.hid (fun s t W h h2 => sameM_any s t Za Za W h h2)
          have HS2 := Lib.hid (fun s t W h h2 => sameM_any s t Zc Zc W h h2)
          have HS3 := Lib.hid (fun s t W h h2 => sameM_any s t M0 M0 W h h2)
          rw [sameM_refl] at HS1 HS2 HS3
          go_wp2_with fail
          refine (HZa.out _ _ (HTz.out _ (Below.refl _ _))).mono ?_; rintro e x1 ⟨⟨sa, rfl, ow1⟩, hb⟩
          have Hb1 := Lib.hid hb
          clear hb
          have HO1 := Lib.hid ow1
          clear ow1
          go_wp2_with fail
          refine (told_any sa Za.live Za.garb _).mono ?_; rintro e x2 ⟨rfl, hb⟩
          have Hb2 := Lib.hid hb
          clear hb
          go_wp2_with fail
          refine (HZb.out _ _ (HTz.out _ (bstep Hb1.out Hb2.out))).mono ?_; rintro e x3 ⟨⟨sb, rfl, ow3⟩, hb⟩
          have Hb3 := Lib.hid hb
          clear hb
          have HO3 := Lib.hid ow3
          clear ow3
          go_wp2_with fail
          refine (HS1.out _ _ _ (HO1.out.rd.below (bstep Hb2.out Hb3.out)) HO3.out.rd).mono ?_; rintro e x4 ⟨rfl, hb⟩
          have Hb4 := Lib.hid hb
          clear hb
          go_wp2_with fail
          refine (HIt.out _ (HTz.out _ (bstep (bstep (bstep Hb1.out Hb2.out) Hb3.out) Hb4.out))).mono ?_; rintro e x5 ⟨v5, rfl, ow5, hb⟩
          have Hb5 := Lib.hid hb
          clear hb
          have HO5 := Lib.hid ow5
          clear ow5
          go_wp2_with fail
          refine (HZc.out _ _ (OwnT.rd HO5.out)).mono ?_; rintro e x6 ⟨⟨sc, rfl, ow6⟩, hb⟩
          have Hb6 := Lib.hid hb
          clear hb
          have HO6 := Lib.hid ow6
          clear ow6
          go_wp2_with fail
          refine (told_any sc Zc.live Zc.garb _).mono ?_; rintro e x7 ⟨rfl, hb⟩
          have Hb7 := Lib.hid hb
          clear hb
          go_wp2_with fail
          refine (HIt.out _ (HTz.out _ (bstep (bstep (bstep (bstep (bstep (bstep Hb1.out Hb2.out) Hb3.out) Hb4.out) Hb5.out) Hb6.out) Hb7.out))).mono ?_; rintro e x8 ⟨v8, rfl, ow8, hb⟩
          have Hb8 := Lib.hid hb
          clear hb
          have HO8 := Lib.hid ow8
          clear ow8
          go_wp2_with fail
          refine (HZd.out _ _ (OwnT.rd HO8.out)).mono ?_; rintro e x9 ⟨⟨sd, rfl, ow9⟩, hb⟩
          have Hb9 := Lib.hid hb
          clear hb
          have HO9 := Lib.hid ow9
          clear ow9
          go_wp2_with fail
          refine (HS2.out _ _ _ (HO6.out.rd.below (bstep Hb7.out (bstep Hb8.out Hb9.out))) HO9.out.rd).mono ?_; rintro e x10 ⟨rfl, hb⟩
          have Hb10 := Lib.hid hb
          clear hb
          go_wp2_with fail
          refine (new_any _).mono ?_; rintro e x11 ⟨rfl, hb⟩
          have Hb11 := Lib.hid hb
          clear hb
          go_wp2_with fail
          refine (told_any Sl.nil 0 0 _).mono ?_; rintro e x12 ⟨rfl, hb⟩
          have Hb12 := Lib.hid hb
          clear hb
          go_wp2_with fail
          refine (HS3.out Sl.nil Sl.nil _ (OwnM.nil _ 0).rd (OwnM.nil _ 0).rd).mono ?_; rintro e x13 ⟨rfl, hb⟩
          have Hb13 := Lib.hid hb
          clear hb
          go_wp2_with fail
          refine (HAw.out _).mono ?_; rintro e x14 ⟨rfl, hb⟩
          have Hb14 := Lib.hid hb
          clear hb
          have HBy := Lib.hid (bstep HBz.out (bstep (bstep (bstep (bstep (bstep (bstep (bstep (bstep (bstep (bstep (bstep (bstep (bstep Hb1.out Hb2.out) Hb3.out) Hb4.out) Hb5.out) Hb6.out) Hb7.out) Hb8.out) Hb9.out) Hb10.out) Hb11.out) Hb12.out) Hb13.out) Hb14.out))
          go_wp2_with fail
          go_ret
          exact ⟨rfl, HBy.out⟩
end Go.Proofs.Ytndhjfmdfcpceaa

namespace Go.Proofs.Ytndhjfmdfcpceaa
open Go.RowKit Go.ChangeShapes Go.WideShapes Go.Deep

theorem open_itemv {H : Type} {enc : TypeId × Value → H} {w : World} {cs : Array Value} {d : DataW H} {p : List MemPlace} (h : DataW.Trod enc Try.prog w 0 (fun _ => true) true 29 (.agg cs) d p) : ∃ y : It, cs = #[.int .u64 y.key, .int .u32 y.ck, .int .i64 y.off, .int .i64 y.size] ∧ y.Wf := by
  obtain ⟨fuel, hf⟩ := h
  obtain ⟨y, hy, hw⟩ := open_item hf
  have hy : cs.toList = itC y := hy
  exact ⟨y, by rw [← Array.toArray_toList (xs := cs), hy]; rfl, hw⟩
end Go.Proofs.Ytndhjfmdfcpceaa

namespace Go.Proofs.Ytndhjfmdfcpceaa
open Go.RowKit Go.ChangeShapes Go.WideShapes Go.Deep

theorem cellsOf_items : Try.prog.cellsOf 22 = 1 := by kernel_rfl
theorem cellsOf_strs : Try.prog.cellsOf 23 = 8 := by kernel_rfl
theorem cellsOf_map : Try.prog.cellsOf 25 = 10 := by kernel_rfl
theorem structM : ∃ f0 f1 f2, Try.prog.underlying 25 = some (.struct #[f0, f1, f2]) ∧ (f0.offset = 0 ∧ f1.offset = 8 ∧ f2.offset = 9) ∧ f0.type = 23 ∧ f1.type = 2 ∧ f2.type = 2 :=
  ⟨_, _, _, Try.underlying25, ⟨rfl, rfl, rfl⟩, rfl, rfl, rfl⟩
section
variable {H : Type} {enc : TypeId × Value → H} {w : World}
theorem open_items1 {fuel : Nat} {cs : List Value} {x : DataW H × List MemPlace} (h : DataW.trod enc Try.prog w 0 (fun _ => true) true fuel 22 cs = some x) :
    ∃ y : Option Addr × Nat × Nat × List It, cs = [.slice y.1 y.2.1 y.2.2.1] ∧ RdT w (.slice y.1 y.2.1 y.2.2.1) y.2.2.2 ∧ ∀ x ∈ y.2.2.2, x.Wf := by
  have key : ∀ a n c, cs = [.slice a n c] → ∃ y : Option Addr × Nat × Nat × List It, cs = [.slice y.1 y.2.1 y.2.2.1] ∧ RdT w (.slice y.1 y.2.1 y.2.2.1) y.2.2.2 ∧ ∀ x ∈ y.2.2.2, x.Wf := fun a n c e => by
    subst e
    obtain ⟨l, h1, h2⟩ := open_items (a := a) (n := n) (cap := c) (d := x.1) (p := x.2) ⟨fuel, h⟩
    exact ⟨(a, n, c, l), rfl, h1, h2⟩
  rcases DataW.trod_slice Try.underlying22 h with ⟨e, _⟩ | ⟨a, len, cap, _, _, _, _, e, _⟩
  · exact key _ _ _ e
  · exact key _ _ _ e
theorem open_map {fuel : Nat} {cs : List Value} {x : DataW H × List MemPlace} (h : DataW.trod enc Try.prog w 0 (fun _ => true) true fuel 25 cs = some x) :
    ∃ (s : Sl) (M : Mp), cs = (mapC s M.live M.garb).toList ∧ RdM w s M.st ∧ (∀ i, i < 8 → ∀ x ∈ M.st i, x.Wf) ∧ (-9223372036854775808 ≤ M.live ∧ M.live ≤ 9223372036854775807) ∧ (-9223372036854775808 ≤ M.garb ∧ M.garb ≤ 9223372036854775807) := by
  obtain ⟨f0, f1, f2, hs, ⟨o0, o1, o2⟩, t0, t1, t2⟩ := structM
  obtain ⟨xs, n, _, _, hlen, hxl, hf⟩ := DataW.trod_struct hs h
  rw [cellsOf_map] at hlen
  have hx : xs.length = 3 := by simpa using hxl
  have g : ∀ j (hj : j < 3), xs[j]? = some (xs[j]'(by omega)) := fun j hj => List.getElem?_eq_getElem (by omega)
  have h0 := (hf 0 f0 rfl).trans (g 0 (by omega))
  have h1 := (hf 1 f1 rfl).trans (g 1 (by omega))
  have h2 := (hf 2 f2 rfl).trans (g 2 (by omega))
  rw [t0, o0, cellsOf_strs, List.drop_zero] at h0
  rw [t1, o1, cellsOf_i64] at h1
  rw [t2, o2, cellsOf_i64] at h2
  obtain ⟨L, e1, _, w1⟩ := DataW.trod_int Try.underlying2 h1
  obtain ⟨G, e2, _, w2⟩ := DataW.trod_int Try.underlying2 h2
  obtain ⟨ys, m, _, _, _, hyl, hy⟩ := DataW.trod_array Try.underlying23 h0
  have each : ∀ i, i < 8 → ∃ y : Option Addr × Nat × Nat × List It, ((cs.take 8).drop i).take 1 = [.slice y.1 y.2.1 y.2.2.1] ∧ RdT w (.slice y.1 y.2.1 y.2.2.1) y.2.2.2 ∧ ∀ x ∈ y.2.2.2, x.Wf := fun i hi => by
    have h3 := hy i hi
    rw [cellsOf_items, Nat.mul_one, List.getElem?_eq_getElem (by omega)] at h3
    exact open_items1 h3
  obtain ⟨E, hE⟩ := choose_lt each
  refine ⟨⟨fun i => (E i).1, fun i => (E i).2.1, fun i => (E i).2.2.1⟩, ⟨fun i => (E i).2.2.2, L, G⟩, ?_, fun i hi => (hE i hi).2.1, fun i hi => (hE i hi).2.2, bounds_of_i64 w1, bounds_of_i64 w2⟩
  have d8 := one_of e1
  have d9 := one_of e2
  have d : ∀ i, i < 8 → cs[i]? = some (.slice (E i).1 (E i).2.1 (E i).2.2.1) := fun i hi => by
    have := one_of (hE i hi).1
    rw [List.getElem?_take, if_pos hi] at this
    exact this
  have d0 := d 0 (by omega)
  have d1 := d 1 (by omega)
  have d2 := d 2 (by omega)
  have d3 := d 3 (by omega)
  have d4 := d 4 (by omega)
  have d5 := d 5 (by omega)
  have d6 := d 6 (by omega)
  have d7 := d 7 (by omega)
  clear d hE each hy hf
  match cs, hlen, d0, d1, d2, d3, d4, d5, d6, d7, d8, d9 with
  | [a0, a1, a2, a3, a4, a5, a6, a7, a8, a9], _, d0, d1, d2, d3, d4, d5, d6, d7, d8, d9 =>
    simp at d0 d1 d2 d3 d4 d5 d6 d7 d8 d9
    subst d0 d1 d2 d3 d4 d5 d6 d7 d8 d9
    rfl
theorem open_mapv {cs : Array Value} {d : DataW H} {p : List MemPlace} (h : DataW.Trod enc Try.prog w 0 (fun _ => true) true 25 (.agg cs) d p) :
    ∃ y : Sl × Mp, cs = mapC y.1 y.2.live y.2.garb ∧ RdM w y.1 y.2.st ∧ (∀ i, i < 8 → ∀ x ∈ y.2.st i, x.Wf) ∧ (-9223372036854775808 ≤ y.2.live ∧ y.2.live ≤ 9223372036854775807) ∧ (-9223372036854775808 ≤ y.2.garb ∧ y.2.garb ≤ 9223372036854775807) := by
  obtain ⟨fuel, hf⟩ := h
  obtain ⟨s, M, h1, h2⟩ := open_map hf
  have h1 : cs.toList = (mapC s M.live M.garb).toList := h1
  exact ⟨(s, M), Array.ext' h1, h2⟩
end
end Go.Proofs.Ytndhjfmdfcpceaa

namespace Go.Proofs.Ytndhjfmdfcpceaa
open Go.RowKit

theorem changes_open (q : Sl × Mp) (a : Option Addr) (n cap : Nat) (x : It) (key m : Int) (w : World)
    (h0 : RdM w q.1 q.2.st ∧ (∀ i, i < 8 → ∀ x ∈ q.2.st i, x.Wf) ∧ (-9223372036854775808 ≤ q.2.live ∧ q.2.live ≤ 9223372036854775807) ∧ (-9223372036854775808 ≤ q.2.garb ∧ q.2.garb ≤ 9223372036854775807))
    (h : ∃ l, RdT w (.slice a n cap) l ∧ ∀ x ∈ l, x.Wf) (_hx : x.Wf) (_hk : (Lit.int .u64 key).wf = true) (_hg : (Lit.int .i64 m).wf = true) :
    Calls Try.prog 3 #[.agg (mapC q.1 q.2.live q.2.garb), .slice a n cap, .agg #[.int .u64 x.key, .int .u32 x.ck, .int .i64 x.off, .int .i64 x.size], .int .u64 key, .int .i64 m] w fun e w' => e = .returned (.bool true) ∧ Below w.heap.size w w' := by
  obtain ⟨l, hl, _⟩ := h
  exact changes_walk q _ x key m l w h0.1 hl
end Go.Proofs.Ytndhjfmdfcpceaa
