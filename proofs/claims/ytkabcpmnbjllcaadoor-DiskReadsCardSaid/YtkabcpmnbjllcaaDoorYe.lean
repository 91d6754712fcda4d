/- Size, Read and Names of the program. -/
import Derived.Test.YtkabcpmnbjllcaaDoorYd
import Derived.Test.YtkabcpmnbjllcaaDoorZs
namespace Go.Proofs.YtkabcpmnbjllcaaDoor
open Go.RowKit

set_option maxRecDepth 100000 in
set_option maxHeartbeats 1600000 in
theorem size_any (d : Dk) (s : List UInt8) (fv : Value) (w : World) (h : RdF w fv d.files) (hL : LiteD d) (hs : s.length ≤ 9223372036854775807) :
    Calls Tryd.prog 29 #[diskVal d.cap d.left fv, .string (strB s)] w fun e w' => e = .returned (.tuple #[.int .i64 (sizeD d s).1, .int .i64 (sizeD d s).2]) ∧ Below w.heap.size w w' := by
  obtain ⟨a, cap, rfl, h1, h2, _⟩ := h.shape
  have hO := fun W (hW : Below w.heap.size w W) => open_any d s _ W (h.below hW) hL hs
  by_cases he : atE d s = 0
  · have hi := (atE_ok he).2.2.2.1
    have hok := ((atE_ok he).1.ok _ (atN_mem hi)).2
    have hS : sizeD d s = (lenF (atN d.files (lowN d.files s)), 0) := by unfold sizeD; rw [if_neg (by simp [he])]
    rw [hS]
    simp only [openI_ok he, he] at hO
    obtain ⟨b, off, bv, pv, rfl, hbv, hpv, c0, c1, c2⟩ := h.at hi
    have HLn := Lib.hid (fun W (hW : Below w.heap.size w W) => length_any (atN d.files (lowN d.files s)).name _ _ bv pv W (hbv.below hW) (hpv.below hW) (sized_range hok))
    have HLe := Lib.hid (show lenF (atN d.files (lowN d.files s)) = lenW (atN d.files (lowN d.files s)).pend (atN d.files (lowN d.files s)).base.length from rfl)
    obtain ⟨ba, bc, rfl, hb1, hb2, _⟩ := hbv.shape0
    obtain ⟨pa, pc, rfl, hp1, hp2, _⟩ := hpv.shape
    have HO := Lib.hid hO
    clear hO h hS hok hbv hpv he hL
    obtain ⟨c, lf, fl⟩ := d
    dsimp only at *
    generalize lenF (atN fl (lowN fl s)) = R at *
    generalize lenW (atN fl (lowN fl s)).pend (atN fl (lowN fl s)).base.length = R2 at *
    generalize (atN fl (lowN fl s)).base.length = l at *
    generalize (atN fl (lowN fl s)).pend.length = m at *
    generalize (atN fl (lowN fl s)).name = nm at *
    generalize lowN fl s = i at *
    generalize fl.length = n at *
    have hi2 : (i : Int) < (n : Int) := by omega
    have HBx := Lib.hid (show Below w.heap.size w (w.alloc (.cells #[.int .i64 c, .int .i64 lf, .slice (some ⟨b, off, none⟩) n cap] 33)) from (Below.refl _ _).alloc (Nat.le_refl _) _)
    have X := Lib.hid (BoxD.new w c lf (.slice (some ⟨b, off, none⟩) n cap) 33)
    have HBk := Lib.hid (show ∀ W, Below w.heap.size w W → W.cell? ⟨b, off + i * 3, none⟩ = some (.string (strB nm)) ∧ W.cell? ⟨b, off + i * 3 + 1, none⟩ = some (.slice ba l bc) ∧ W.cell? ⟨b, off + i * 3 + 2, none⟩ = some (.slice pa m pc) from fun W hW => ⟨Below.keeps hW _ _ c0, Below.keeps hW _ _ c1, Below.keeps hW _ _ c2⟩)
    clear c0 c1 c2
    go_enter Tryd.func29, Tryd.ntmps29
    go_wp2_with fail
    refine (HO.out _ HBx.out).mono ?_
    rintro e w2 ⟨rfl, hb⟩
    have HB2 := Lib.hid (bstep HBx.out hb)
    have x2 := (X.out.below hb).c2
    obtain ⟨y0, y1, y2⟩ := HBk.out _ HB2.out
    clear hb
    go_wp2_with fail
    refine (HLn.out _ HB2.out).mono ?_
    rintro e w3 ⟨rfl, hb⟩
    have HB3 := Lib.hid (bstep HB2.out hb)
    clear hb
    go_wp2_with fail
    go_ret2
    exact ⟨by rw [HLe.out]; rfl, HB3.out⟩
  · have hS : sizeD d s = (0, atE d s) := by unfold sizeD; rw [if_pos he]
    rw [hS]
    dsimp only
    have HO := Lib.hid hO
    clear hO h hS hL
    generalize atE d s = E at *
    generalize openI d s = i at *
    obtain ⟨c, lf, fl⟩ := d
    dsimp only at *
    generalize fl.length = n at *
    have HBx := Lib.hid (show Below w.heap.size w (w.alloc (.cells #[.int .i64 c, .int .i64 lf, .slice a n cap] 33)) from (Below.refl _ _).alloc (Nat.le_refl _) _)
    go_enter Tryd.func29, Tryd.ntmps29
    go_wp2_with fail
    refine (HO.out _ HBx.out).mono ?_
    rintro e w2 ⟨rfl, hb⟩
    have HB2 := Lib.hid (bstep HBx.out hb)
    clear hb
    go_wp2_with fail
    go_ret2
    exact ⟨rfl, HB2.out⟩
/-- A read: bytes of the call's own, and an error. -/
def ReadRes (w0 : World) (x : List UInt8 × Int) (e : Ending) (w' : World) : Prop := ∃ v', e = .returned (.tuple #[v', .int .i64 x.2]) ∧ OwnU w' w0.heap.size v' x.1 ∧ Below w0.heap.size w0 w'
theorem OwnU.nil (w : World) (B : Nat) : OwnU w B (.slice none 0 0) [] := World.ownsRow_nil w B 5 1
set_option maxRecDepth 100000 in
set_option maxHeartbeats 1600000 in
theorem read_any (d : Dk) (s : List UInt8) (off k : Int) (fv : Value) (w : World) (h : RdF w fv d.files) (hL : LiteD d) (hs : s.length ≤ 9223372036854775807) :
    Calls Tryd.prog 32 #[diskVal d.cap d.left fv, .string (strB s), .int .i64 off, .int .i64 k] w (ReadRes w (readD d s off k)) := by
  obtain ⟨a, cap, rfl, h1, h2, _⟩ := h.shape
  have hO := fun W (hW : Below w.heap.size w W) => open_any d s _ W (h.below hW) hL hs
  by_cases he : atE d s = 0
  · have hi := (atE_ok he).2.2.2.1
    have hlw := (hL.fs.fil _ (atN_mem hi)).wr
    have hcl := contF_le (atN d.files (lowN d.files s))
    obtain ⟨b, of, bv, pv, rfl, hbv, hpv, c0, c1, c2⟩ := h.at hi
    have HCn := Lib.hid (fun W (hW : Below w.heap.size w W) => content_any (atN d.files (lowN d.files s)).name _ _ bv pv W (hbv.below hW) (hpv.below hW) hlw)
    have HS := Lib.hid (show readD d s off k = if off < 0 ∨ k < 0 ∨ ((contF (atN d.files (lowN d.files s))).length : Int) < off ∨ ((contF (atN d.files (lowN d.files s))).length : Int) - off < k then ([], 2) else (((contF (atN d.files (lowN d.files s))).drop off.toNat).take k.toNat, 0) by unfold readD; rw [if_neg (by simp [he])])
    simp only [openI_ok he, he] at hO
    obtain ⟨ba, bc, rfl, hb1, hb2, _⟩ := hbv.shape0
    obtain ⟨pa, pc, rfl, hp1, hp2, _⟩ := hpv.shape
    have HO := Lib.hid hO
    clear hO h hbv hpv he hL hlw
    generalize readD d s off k = RR at *
    obtain ⟨c, lf, fl⟩ := d
    dsimp only at *
    change Hid (∀ W, Below w.heap.size w W → Calls Tryd.prog 37 _ W fun e w' => ∃ v', e = .returned v' ∧ OwnC w' W.heap.size v' (contF (atN fl (lowN fl s))) ∧ Below W.heap.size W w') at HCn
    generalize contF (atN fl (lowN fl s)) = C at *
    generalize (atN fl (lowN fl s)).base.length = l at *
    generalize (atN fl (lowN fl s)).pend.length = m at *
    generalize (atN fl (lowN fl s)).name = nm at *
    generalize lowN fl s = i at *
    generalize fl.length = n at *
    have hi2 : (i : Int) < (n : Int) := by omega
    have HBx := Lib.hid (show Below w.heap.size w (w.alloc (.cells #[.int .i64 c, .int .i64 lf, .slice (some ⟨b, of, none⟩) n cap] 33)) from (Below.refl _ _).alloc (Nat.le_refl _) _)
    have X := Lib.hid (BoxD.new w c lf (.slice (some ⟨b, of, none⟩) n cap) 33)
    have HBk := Lib.hid (show ∀ W, Below w.heap.size w W → W.cell? ⟨b, of + i * 3, none⟩ = some (.string (strB nm)) ∧ W.cell? ⟨b, of + i * 3 + 1, none⟩ = some (.slice ba l bc) ∧ W.cell? ⟨b, of + i * 3 + 2, none⟩ = some (.slice pa m pc) from fun W hW => ⟨Below.keeps hW _ _ c0, Below.keeps hW _ _ c1, Below.keeps hW _ _ c2⟩)
    clear c0 c1 c2
    go_enter Tryd.func32, Tryd.ntmps32
    go_wp2_with fail
    refine (HO.out _ HBx.out).mono ?_
    rintro e w2 ⟨rfl, hb⟩
    have HB2 := Lib.hid (bstep HBx.out hb)
    have x2 := (X.out.below hb).c2
    obtain ⟨y0, y1, y2⟩ := HBk.out _ HB2.out
    clear hb
    go_wp2_with fail
    refine (HCn.out _ HB2.out).mono ?_
    rintro e w3 ⟨v3, rfl, ho, hb⟩
    have hrd := ho.rd
    obtain ⟨ca, cc, rfl, hc1, hc2, _⟩ := hrd.shape0
    have HB3 := Lib.hid (bstep HB2.out hb)
    have HE := Lib.hid (fun W => OwnU.nil W w.heap.size)
    clear hb ho x2 y0 y1 y2
    by_cases q1 : off < 0
    · have HR := Lib.hid (show RR = ([], 2) by rw [HS.out, if_pos (.inl q1)])
      clear hrd
      generalize C.length = cl at *
      go_wp2_with fail
      go_ret2
      exact ⟨_, by rw [HR.out]; rfl, by rw [HR.out]; exact HE.out _, HB3.out⟩
    · by_cases q2 : k < 0
      · have HR := Lib.hid (show RR = ([], 2) by rw [HS.out, if_pos (.inr (.inl q2))])
        clear hrd
        generalize C.length = cl at *
        go_wp2_with fail
        go_ret2
        exact ⟨_, by rw [HR.out]; rfl, by rw [HR.out]; exact HE.out _, HB3.out⟩
      · by_cases q3 : (C.length : Int) < off
        · have HR := Lib.hid (show RR = ([], 2) by rw [HS.out, if_pos (.inr (.inr (.inl q3)))])
          clear hrd
          generalize C.length = cl at *
          go_wp2_with fail
          go_ret2
          exact ⟨_, by rw [HR.out]; rfl, by rw [HR.out]; exact HE.out _, HB3.out⟩
        · by_cases q4 : (C.length : Int) - off < k
          · have HR := Lib.hid (show RR = ([], 2) by rw [HS.out, if_pos (.inr (.inr (.inr q4)))])
            clear hrd
            generalize C.length = cl at *
            go_wp2_with fail
            go_ret2
            exact ⟨_, by rw [HR.out]; rfl, by rw [HR.out]; exact HE.out _, HB3.out⟩
          · have HR := Lib.hid (show RR = ((C.drop off.toNat).take k.toNat, 0) by rw [HS.out, if_neg (by omega)])
            obtain ⟨o, rfl⟩ := Int.eq_ofNat_of_zero_le (by omega : 0 ≤ off)
            obtain ⟨q, rfl⟩ := Int.eq_ofNat_of_zero_le (by omega : 0 ≤ k)
            obtain ⟨sa, sc, gs, hsr⟩ := RdL.part (P := Tryd.prog) elemU8 hrd o (o + q) (by omega) (by omega)
            rw [show o + q - o = q by omega] at gs hsr
            have HK := Lib.hid (bclone_any _ _ w3 hsr (by rw [List.length_take]; omega))
            clear hrd hsr
            generalize C.length = cl at *
            have gs2 : ∀ W kl kh, (Instr.slice 47 (.slice ca cl cc) (some (.int kl (o : Int))) (some (.int kh ((o : Int) + (q : Int)))) none).run Tryd.prog W = .ok (.slice sa q sc) W := fun W kl kh => by
              have := gs W kl kh
              rw [show ((o + q : Nat) : Int) = (o : Int) + (q : Int) by omega] at this
              exact this
            clear gs
            go_wp2_with fail
            refine HK.out.mono ?_
            rintro e w4 ⟨v4, rfl, ho, hb⟩
            have HF := Lib.hid (show OwnU w4 w.heap.size v4 ((C.drop o).take q) from World.ownsRow.mono ho HB3.out.size)
            have HB4 := Lib.hid (bstep HB3.out hb)
            clear ho hb
            go_wp2_with fail
            go_ret2
            exact ⟨_, by rw [HR.out]; rfl, by rw [HR.out]; exact HF.out, HB4.out⟩
  · have hS : readD d s off k = ([], atE d s) := by unfold readD; rw [if_pos he]
    rw [hS]
    have HO := Lib.hid hO
    have HE := Lib.hid (fun W => OwnU.nil W w.heap.size)
    clear hO h hS hL
    generalize atE d s = E at *
    generalize openI d s = i at *
    obtain ⟨c, lf, fl⟩ := d
    dsimp only at *
    generalize fl.length = n at *
    have HBx := Lib.hid (show Below w.heap.size w (w.alloc (.cells #[.int .i64 c, .int .i64 lf, .slice a n cap] 33)) from (Below.refl _ _).alloc (Nat.le_refl _) _)
    go_enter Tryd.func32, Tryd.ntmps32
    go_wp2_with fail
    refine (HO.out _ HBx.out).mono ?_
    rintro e w2 ⟨rfl, hb⟩
    have HB2 := Lib.hid (bstep HBx.out hb)
    clear hb
    go_wp2_with fail
    go_ret2
    exact ⟨_, rfl, HE.out _, HB2.out⟩
end Go.Proofs.YtkabcpmnbjllcaaDoor
