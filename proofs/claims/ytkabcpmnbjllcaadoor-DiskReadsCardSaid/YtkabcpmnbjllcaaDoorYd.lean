/- Clip and Content of the program. -/
import Derived.Test.YtkabcpmnbjllcaaDoorYc
namespace Go.Proofs.YtkabcpmnbjllcaaDoor
open Go.RowKit

theorem appls_take (ws : List Wr) (b : List UInt8) (j : Nat) (h : j < ws.length) : appls (ws.take (j + 1)) b = appl (watW ws j) (appls (ws.take j) b) := by
  unfold watW
  rw [List.take_add_one, List.getElem?_eq_getElem h, List.getD_eq_getElem?_getD, List.getElem?_eq_getElem h]
  exact appls_snoc _ _ _
/-- On the way of a content that is sized. -/
theorem sized_way {nm b : List UInt8} {ws : List Wr} (h : sizedF ⟨nm, b, ws⟩ = true) {j : Nat} (hj : j < ws.length) : 0 ≤ (watW ws j).off ∧ (watW ws j).off ≤ 1048576 ∧ (watW ws j).data.length ≤ 2000000 ∧ (appls (ws.take j) b).length ≤ 1048576 := by
  have h0 := (sizedF_iff _).1 h
  dsimp only at h0
  have h1 := szW_take ws b.length j h0.2
  have h2 := szW_take ws b.length (j + 1) h0.2
  rw [szW_next ws _ j hj, h1] at h2
  simp only [Bool.true_and, Bool.and_eq_true, decide_eq_true_eq] at h2
  have h3 := (okW_iff _).1 h2.1
  have h4 := appls_length (ws.take j) b h1
  have h5 := lenW_bounds (ws.take j) b.length (by omega) h0.1 h1
  have h6 := h2.2
  refine ⟨h3.1, h3.2.1, ?_, by omega⟩
  unfold grownW at h6
  cases hc : (watW ws j).cut
  · rw [hc, if_neg (by simp)] at h6
    omega
  · rw [h3.2.2 hc]; exact Nat.zero_le _
theorem OwnC.nil (w : World) (B : Nat) : OwnC w B (.slice none 0 0) [] := ⟨none, 0, 0, rfl, World.ownsRow_nil w B 5 1, Nat.le_refl _, Nat.le_refl _⟩
theorem slice_clip {P : Program} {t e : TypeId} {sz bytes : Nat} (hE : ElemT P t e sz bytes) {a : Option Addr} {n cap : Nat} (ha : ∀ x, a = some x → ∃ b off, x = ⟨b, off, none⟩) (hn : n ≤ cap) :
    ∀ W k1 k2, (Instr.slice t (.slice a n cap) none (some (.int k1 (n : Int))) (some (.int k2 (n : Int)))).run P W = .ok (.slice a n n) W := by
  obtain ⟨h1, h2⟩ := elem_of hE
  intro W k1 k2
  have e : (if n = 0 then a else a.map (·.add (0 * sz))) = a := by
    split
    · rfl
    · cases a with
      | none => rfl
      | some x =>
        obtain ⟨b, off, rfl⟩ := ha _ rfl
        simp [addr_add]
  rw [run_slice_any W t a n cap h1]
  simp [h2, Instr.sliceBounds, run_sliceBound, sliced, Result.andThen, hn]
  intro h0
  rw [if_neg h0] at e
  simpa using e
set_option maxRecDepth 100000 in
theorem clip_any (v : Value) (b : List UInt8) (B : Nat) (w : World) (h : OwnC w B v b) :
    Calls Tryd.prog 61 #[v] w fun e w' => ∃ v', e = .returned v' ∧ OwnC w' B v' b ∧ Below w.heap.size w w' := by
  have hsp := h.spot
  have hrd := h.rd
  obtain ⟨a, cap, c', rfl, hown, h1, h2⟩ := h
  obtain ⟨_, _, e, h3, h4, _⟩ := own_form hown
  injection e with e0 _ e
  subst e0 e
  have HQ := Lib.hid (show ∀ W, W = w → OwnC W B (.slice a b.length b.length) b from fun W e => e ▸ ⟨a, cap, b.length, rfl, hown, Nat.le_refl _, by omega⟩)
  have gsl := slice_clip (P := Tryd.prog) elemU8 (a := a) (n := b.length) (cap := c') (hsp _ _ _ rfl) h1
  clear hown hrd hsp
  generalize b.length = n at *
  unfold maxLen at h4
  go_enter Tryd.func61, Tryd.ntmps61
  go_wp2_with fail
  go_ret
  exact ⟨_, rfl, HQ.out _ rfl, Below.refl _ _⟩
set_option maxRecDepth 100000 in
set_option maxHeartbeats 1600000 in
theorem content_any (nm base : List UInt8) (ws : List Wr) (bv pv : Value) (w : World) (hb : RdB w bv base) (hp : RdW w pv ws) (hr : ∀ x ∈ ws, LiteW x) :
    Calls Tryd.prog 37 #[filVal nm bv pv] w fun e w' => ∃ v', e = .returned v' ∧ OwnC w' w.heap.size v' (contF ⟨nm, base, ws⟩) ∧ Below w.heap.size w w' := by
  have HC := Lib.hid (fun W (h : Below w.heap.size w W) => sized_any nm base ws bv pv W (hb.below h) (hp.below h) hr)
  have HK := Lib.hid (fun (h : base.length ≤ 4000000) W (h1 : Below w.heap.size w W) => bclone_any bv base W (hb.below h1) h)
  obtain ⟨ba, bc, rfl, hb1, hb2, _⟩ := hb.shape0
  obtain ⟨pa, pc, rfl, hp1, hp2, _⟩ := hp.shape
  have HP := Lib.hid hp
  have HS := Lib.hid (show sizedF ⟨nm, base, ws⟩ = true → base.length ≤ 1048576 ∧ ∀ j, j < ws.length → 0 ≤ (watW ws j).off ∧ (watW ws j).off ≤ 1048576 ∧ (watW ws j).data.length ≤ 2000000 ∧ (appls (ws.take j) base).length ≤ 1048576 from fun h => ⟨by have := ((sizedF_iff _).1 h).1; dsimp only at this; omega, fun j hj => sized_way h hj⟩)
  have HN := Lib.hid (show ∀ j, j < ws.length → appls (ws.take (j + 1)) base = appl (watW ws j) (appls (ws.take j) base) from fun j hj => appls_take ws base j hj)
  have HE := Lib.hid (show contF ⟨nm, base, ws⟩ = if sizedF ⟨nm, base, ws⟩ then appls (ws.take ws.length) base else [] by rw [List.take_length]; rfl)
  have HBL := Lib.hid (show base.length = base.length from rfl)
  clear hb hp hr
  generalize sizedF ⟨nm, base, ws⟩ = sd at *
  generalize contF ⟨nm, base, ws⟩ = R at *
  generalize ws.length = n at *
  generalize base.length = l at *
  unfold maxLen at hp2
  have hbq := (Below.refl w.heap.size w).alloc (Nat.le_refl _) (.cells #[.string (strB nm), .slice ba l bc, .slice pa n pc] 69)
  have X := Lib.hid (show BoxF (w.alloc (.cells #[.string (strB nm), .slice ba l bc, .slice pa n pc] 69)) w.heap.size (strB nm) (.slice ba l bc) (.slice pa n pc) from ⟨by simp, by simp, by simp, fun i => by simp⟩)
  have hsz : (w.alloc (.cells #[.string (strB nm), .slice ba l bc, .slice pa n pc] 69)).heap.size = w.heap.size + 1 := by simp
  go_enter Tryd.func37, Tryd.ntmps37
  go_upto_region 1 with fail
  generalize w.alloc (.cells #[.string (strB nm), .slice ba l bc, .slice pa n pc] 69) = w1 at *
  have HB := Lib.hid hbq
  clear hbq
  have x0 := X.out.c0
  have x1 := X.out.c1
  have x2 := X.out.c2
  go_wp2_with fail
  refine (HC.out w1 HB.out).mono ?_
  rintro e w2 ⟨rfl, hb2'⟩
  clear x0 x1 x2 HC
  have HB2 := Lib.hid (bstep HB.out hb2')
  have X2 := Lib.hid (X.out.below hb2')
  have HT := Lib.hid hb2'
  have hs2 : w.heap.size + 1 ≤ w2.heap.size := by have := hb2'.size; omega
  clear hb2' X
  cases sd
  · go_wp2_with fail
    go_ret
    exact ⟨_, rfl, by rw [HE.out]; exact OwnC.nil _ _, HB2.out⟩
  · obtain ⟨hl, HW⟩ := HS.out rfl
    have HWH := Lib.hid HW
    clear HW HS
    have x1 := X2.out.c1
    go_wp2_with fail
    refine (HK.out (by omega) w2 HB2.out).mono ?_
    rintro e w3 ⟨v3, rfl, ho, hb3⟩
    clear x1 HK
    have HO := Lib.hid (show OwnC w3 w2.heap.size v3 (appls (ws.take 0) base) from ho.c)
    have x2 := (X2.out.below hb3).c2
    have HB3 := Lib.hid (show Below w2.heap.size w2 w3 from hb3)
    have HPw := Lib.hid (HP.out.below HB2.out)
    clear ho hb3 X2 HP
    obtain ⟨Bq, hBq⟩ : ∃ Bq, Bq = w2.heap.size := ⟨_, rfl⟩
    have HO' := Lib.hid (show OwnC w3 Bq v3 (appls (ws.take 0) base) from hBq ▸ HO.out)
    have HB3' := Lib.hid (show Below Bq w2 w3 from hBq ▸ HB3.out)
    clear HO HB3
    go_wp2_with fail
    go_loopw [3, 15] (fun v iv W => ∃ k : Nat, k ≤ n ∧ iv = .int .i64 (k : Int) ∧ Hid (OwnC W Bq v (appls (ws.take k) base)) ∧ Hid (Below Bq w2 W)) (fun _ iv _ => n - (intOf iv).toNat)
    case atStart => exact ⟨0, Nat.zero_le _, rfl, HO', HB3'⟩
    case round =>
      clear x2
      obtain ⟨k, hk, rfl, HOr, HBr⟩ := hrel
      by_cases hlt : k < n
      · have i1 : (k : Int) < (n : Int) := by omega
        have hBr : Bq ≤ wr.heap.size := by have := HBr.out.size; omega
        have hbr' := HBr.out
        rw [hBq] at hbr'
        obtain ⟨b, off, dv, rfl, hd, c0, c1, c2⟩ := HPw.out.at hlt
        replace c0 := Below.keeps hbr' _ _ c0
        replace c1 := Below.keeps hbr' _ _ c1
        replace c2 := Below.keeps hbr' _ _ c2
        obtain ⟨q1, q2, q3, q4⟩ := HWH.out k hlt
        have HSk := Lib.hid (HN.out k hlt)
        have HD := Lib.hid (show ∀ W, Below Bq w2 W → RdB W dv (watW ws k).data from fun W h => hd.below (hBq ▸ h))
        obtain ⟨da, dc, rfl, _, _, _⟩ := hd.shape0
        clear hd hbr'
        generalize hAN : appls (ws.take (k + 1)) base = AN at *
        have HAN := Lib.hid hAN
        clear hAN
        generalize appls (ws.take k) base = AK at *
        generalize watW ws k = x at *
        obtain ⟨xo, xd, xc⟩ := x
        dsimp only at *
        obtain ⟨o, rfl⟩ := Int.eq_ofNat_of_zero_le q1
        have HAp := Lib.hid (fun v W (h : OwnC W Bq v AK) (h1 : Bq ≤ W.heap.size) (h2 : Below Bq w2 W) => apply_any o xd AK xc (.slice da xd.length dc) v Bq W h h1 (fun W' h' => HD.out W' (h2.trans h')) (by omega) q3 (by omega))
        generalize xd.length = dl at *
        have hba := (Below.refl wr.heap.size wr).alloc (Nat.le_refl _) (.cells #[.int .i64 (o : Int), .slice da dl dc, .bool xc] 95)
        have HO5 := Lib.hid (HOr.out.keep hba)
        have HB5 := Lib.hid (HBr.out.trans (hba.mono hBr))
        have hs5 : Bq ≤ (wr.alloc (.cells #[.int .i64 (o : Int), .slice da dl dc, .bool xc] 95)).heap.size := by have := hba.size; omega
        clear hba HOr HBr
        go_wp2_with fail
        refine (HAp.out _ _ HO5.out hs5 HB5.out).mono ?_
        rintro e w6 ⟨v6, rfl, ho6, hb6⟩
        have HO6 := Lib.hid (show OwnC w6 Bq v6 AN from HSk.out ▸ ho6)
        have HB6 := Lib.hid (HB5.out.trans hb6)
        clear ho6 hb6 HO5 HB5 HAp
        go_wp2_with fail
        exact ⟨⟨k + 1, by omega, by go_num, Lib.hid (by rw [HAN.out]; exact HO6.out), HB6⟩, by simp [intOf]; omega⟩
      · have i1 : ¬ (k : Int) < (n : Int) := by omega
        obtain rfl : k = n := by omega
        go_wp2_with fail
        refine (clip_any _ _ Bq _ HOr.out).mono ?_
        rintro e w6 ⟨v6, rfl, ho6, hb6⟩
        have HF := Lib.hid (show OwnC w6 w.heap.size v6 R from by rw [HE.out]; exact ho6.lower (by omega))
        have HB6 := Lib.hid (HB2.out.trans ((HBr.out.mono (by omega)).trans (hb6.mono (by have := HB2.out.size; have := HBr.out.size; omega))))
        clear ho6 hb6
        go_wp2_with fail
        go_ret
        exact ⟨_, rfl, HF.out, HB6.out⟩
end Go.Proofs.YtkabcpmnbjllcaaDoor
