/- slices.stableCmpFunc and SortStableFunc at items, and index.sorted of any list: the walks. -/
import Derived.Test.YtenkeodfijladaaGreatSz
import Derived.Test.YtenkeodfijladaaGreatPz
import Derived.Test.YtenkeodfijladaaGreatCp
namespace Go.Proofs.YtenkeodfijladaaGreat
open Go.RowKit

set_option maxRecDepth 100000 in
set_option maxHeartbeats 4000000 in
theorem stable_any (g n cap B : Nat) (d : List It) (w : World) (hown : w.ownsRow B 34 4 (.slice (some ⟨g, 0, none⟩) n cap) n (itsC d)) (hn : d.length = n) (hs : n ≤ 1000000) :
    Calls Tryz.prog 183 #[.slice (some ⟨g, 0, none⟩) n cap, .int .i64 (n : Int), .func (.func 152) #[] #[]] w fun e w' => e = .returned (.tuple #[]) ∧ Left w g n cap 0 n B d w' := by
  have HO := Lib.hid hown
  have hgr : w.grownBy w (some g) := ⟨rfl, rfl, rfl, Nat.le_refl _, fun _ _ _ => rfl⟩
  have HG := Lib.hid hgr
  have HN := Lib.hid hn
  have HL := Lib.hid (fun q (h : Moved d q 0 n) => h.len.trans hn)
  clear hown hgr hn
  go_enter Tryz.func183, Tryz.ntmps183
  go_wp2_with fail
  go_loopw [7, 8] (fun av bv wr => ∃ (k a : Nat) (q : List It), av = .int .i64 (a : Int) ∧ bv = .int .i64 ((a : Int) + 20) ∧ Hid (a = k * 20) ∧ a ≤ n ∧ Blk q 20 0 a ∧ Moved d q 0 n ∧ wr.ownsRow B 34 4 (.slice (some ⟨g, 0, none⟩) n cap) n (itsC q) ∧ w.grownBy wr (some g)) (fun av _ _ => n - (intOf av).toNat)
  case atStart => exact ⟨0, 0, d, by go_num, by go_num, (rfl : (0 : Nat) = 0 * 20), by omega, Blk.none _ _ _, Moved.refl _ _ _, HO.out, HG.out⟩
  case round =>
    obtain ⟨k, a, q, rfl, rfl, HK, han, hb, hm, ho, hg⟩ := hrel
    have Hb := Lib.hid hb
    have Hm := Lib.hid hm
    have Ho := Lib.hid ho
    have Hg := Lib.hid hg
    clear hb hm ho hg
    by_cases hlt : a + 20 ≤ n
    · have HC := Lib.hid (insertion_any g n cap a (a + 20) B q wr Ho.out (HL.out q Hm.out) hs (by omega) hlt)
      have e1 : ((a + 20 : Nat) : Int) = (a : Int) + 20 := by omega
      rw [e1] at HC
      clear e1
      have hle : (a : Int) + 20 ≤ (n : Int) := by omega
      go_wp2_with fail
      refine HC.out.mono ?_; rintro _ w2 ⟨rfl, q2, hown2, hm2, hn2, hgr2⟩
      have HO2 := Lib.hid hown2
      have HM2 := Lib.hid (Hm.out.trans (hm2.wide (Nat.zero_le _) (by omega) hlt))
      have HB2 := Lib.hid ((Hb.out.keep hm2 (Or.inl (Nat.le_refl _))).more HK.out hn2)
      have HG2 := Lib.hid (grown_tr Hg.out hgr2)
      have HK2 := Lib.hid (show a + 20 = (k + 1) * 20 by rw [HK.out]; omega)
      clear hown2 hm2 hn2 hgr2
      go_wp2_with fail
      exact ⟨⟨k + 1, a + 20, q2, by go_num, by go_num, HK2, hlt, HB2.out, HM2.out, HO2.out, HG2.out⟩, by simp [intOf]; omega⟩
    · have hle : ¬ (a : Int) + 20 ≤ (n : Int) := by omega
      have HC := Lib.hid (insertion_any g n cap a n B q wr Ho.out (HL.out q Hm.out) hs han (Nat.le_refl _))
      go_wp2_with fail
      refine HC.out.mono ?_; rintro _ w2 ⟨rfl, q2, hown2, hm2, hn2, hgr2⟩
      have HO2 := Lib.hid hown2
      have HM2 := Lib.hid (Hm.out.trans (hm2.wide (Nat.zero_le _) han (Nat.le_refl _)))
      have HB2 := Lib.hid ((Hb.out.keep hm2 (Or.inl (Nat.le_refl _))).more HK.out hn2)
      have HG2 := Lib.hid (grown_tr Hg.out hgr2)
      clear hown2 hm2 hn2 hgr2 hle hlt
      clear HK Hb Hm Ho Hg HC
      go_wp2_with fail
      go_loopw [6] (fun sv wr => ∃ (bs : Nat) (q : List It), sv = .int .i64 (bs : Int) ∧ 0 < bs ∧ bs ≤ 2000000 ∧ Blk q bs 0 n ∧ Moved d q 0 n ∧ wr.ownsRow B 34 4 (.slice (some ⟨g, 0, none⟩) n cap) n (itsC q) ∧ w.grownBy wr (some g)) (fun sv _ => n - (intOf sv).toNat)
      case atStart => exact ⟨20, q2, by go_num, by omega, by omega, HB2.out, HM2.out, HO2.out, HG2.out⟩
      case round =>
        obtain ⟨bs, q, rfl, hb0, hb1, hb, hm, ho, hg⟩ := hrel
        have Hb := Lib.hid hb
        have Hm := Lib.hid hm
        have Ho := Lib.hid ho
        have Hg := Lib.hid hg
        clear hb hm ho hg
        by_cases hlt : bs < n
        · go_wp2_with fail
          go_loopw [7, 8] (fun av bv wr => ∃ (k a : Nat) (q : List It), av = .int .i64 (a : Int) ∧ bv = .int .i64 ((a : Int) + 2 * (bs : Int)) ∧ Hid (a = k * (2 * bs)) ∧ a ≤ n ∧ Blk q (2 * bs) 0 a ∧ Blk q bs a n ∧ Moved d q 0 n ∧ wr.ownsRow B 34 4 (.slice (some ⟨g, 0, none⟩) n cap) n (itsC q) ∧ w.grownBy wr (some g)) (fun av _ _ => n - (intOf av).toNat)
          case atStart => exact ⟨0, 0, q, by go_num, by go_num, (Nat.zero_mul _).symm, by omega, Blk.none _ _ _, Hb.out, Hm.out, Ho.out, Hg.out⟩
          case round =>
            obtain ⟨k, a, r, rfl, rfl, HK, han, hb, hc, hm, ho, hg⟩ := hrel
            have hK2 : k * 2 * bs = a := by rw [HK.out, Nat.mul_assoc]
            have hK3 : (k * 2 + 1) * bs = a + bs := by rw [Nat.succ_mul (k * 2) bs, hK2]
            have HK4 := Lib.hid (show a + 2 * bs = (k + 1) * (2 * bs) by rw [Nat.succ_mul k (2 * bs), ← HK.out])
            have Hn1 := Lib.hid (show a + bs ≤ n → NdI r a (a + bs) from fun h => hc.nd (k := k * 2) (Nat.le_refl _) h (by omega) (by omega))
            have Hn2 := Lib.hid (show ∀ b, a + bs ≤ b → b ≤ n → b ≤ a + 2 * bs → NdI r (a + bs) b from fun b h h' h'' => hc.nd (k := k * 2 + 1) (by omega) h' (by omega) (by omega))
            have Hn3 := Lib.hid (show n ≤ a + bs → NdI r a n from fun h => hc.nd (k := k * 2) (Nat.le_refl _) (Nat.le_refl _) (by omega) (by omega))
            have Hb := Lib.hid hb
            have Hc := Lib.hid hc
            have Hm := Lib.hid hm
            have Ho := Lib.hid ho
            have Hg := Lib.hid hg
            clear hb hc hm ho hg hK2 hK3
            by_cases hle : a + 2 * bs ≤ n
            · have HC := Lib.hid (sym_any g n cap B hs (2 * bs) a (a + bs) (a + 2 * bs) r wr (by omega) Ho.out (HL.out r Hm.out) (by omega) (by omega) hle (Hn1.out (by omega)) (Hn2.out _ (by omega) hle (Nat.le_refl _)))
              have e1 : ((a + bs : Nat) : Int) = (a : Int) + (bs : Int) := by omega
              have e2 : ((a + 2 * bs : Nat) : Int) = (a : Int) + 2 * (bs : Int) := by omega
              rw [e1, e2] at HC
              clear e1 e2
              have hle' : (a : Int) + 2 * (bs : Int) ≤ (n : Int) := by omega
              go_wp2_with fail
              refine HC.out.mono ?_; rintro _ w2 ⟨rfl, q2, hown2, hm2, hn2, hgr2⟩
              have HO2 := Lib.hid hown2
              have HM2 := Lib.hid (Hm.out.trans (hm2.wide (Nat.zero_le _) (by omega) hle))
              have HB2 := Lib.hid ((Hb.out.keep hm2 (Or.inl (Nat.le_refl _))).more HK.out hn2)
              have HC2 := Lib.hid ((Hc.out.sub (lo' := a + 2 * bs) (hi' := n) (by omega) (Nat.le_refl _)).keep hm2 (Or.inr (Nat.le_refl _)))
              have HG2 := Lib.hid (grown_tr Hg.out hgr2)
              clear hown2 hm2 hn2 hgr2
              go_wp2_with fail
              exact ⟨⟨k + 1, a + 2 * bs, q2, by go_num, by go_num, HK4, hle, HB2.out, HC2.out, HM2.out, HO2.out, HG2.out⟩, by simp [intOf]; omega⟩
            · have hle' : ¬ (a : Int) + 2 * (bs : Int) ≤ (n : Int) := by omega
              by_cases hmn : a + bs < n
              · have HC := Lib.hid (sym_any g n cap B hs (2 * bs) a (a + bs) n r wr (by omega) Ho.out (HL.out r Hm.out) (by omega) hmn (Nat.le_refl _) (Hn1.out (by omega)) (Hn2.out _ (by omega) (Nat.le_refl _) (by omega)))
                have e1 : ((a + bs : Nat) : Int) = (a : Int) + (bs : Int) := by omega
                rw [e1] at HC
                clear e1
                have hmn' : (a : Int) + (bs : Int) < (n : Int) := by omega
                go_wp2_with fail
                refine HC.out.mono ?_; rintro _ w2 ⟨rfl, q2, hown2, hm2, hn2, hgr2⟩
                have HO2 := Lib.hid hown2
                have HM2 := Lib.hid (Hm.out.trans (hm2.wide (Nat.zero_le _) han (Nat.le_refl _)))
                have HB2 := Lib.hid ((Hb.out.keep hm2 (Or.inl (Nat.le_refl _))).more HK.out hn2)
                have HG2 := Lib.hid (grown_tr Hg.out hgr2)
                clear hown2 hm2 hn2 hgr2
                go_wp2_with fail
                exact ⟨⟨2 * bs, q2, by go_num, by omega, by omega, HB2.out, HM2.out, HO2.out, HG2.out⟩, by simp [intOf]; omega⟩
              · have hmn' : ¬ (a : Int) + (bs : Int) < (n : Int) := by omega
                have HB2 := Lib.hid (Hb.out.more HK.out (Hn3.out (by omega)))
                go_wp2_with fail
                exact ⟨⟨2 * bs, r, by go_num, by omega, by omega, HB2.out, Hm.out, Ho.out, Hg.out⟩, by simp [intOf]; omega⟩
        · have HW := Lib.hid (Hb.out.whole (by omega))
          go_wp2_with fail
          go_end0
          exact ⟨rfl, q, Ho.out, Hm.out, HW.out, Hg.out⟩
theorem sortstable_any (g n cap B : Nat) (d : List It) (w : World) (hown : w.ownsRow B 34 4 (.slice (some ⟨g, 0, none⟩) n cap) n (itsC d)) (hn : d.length = n) (hs : n ≤ 1000000) :
    Calls Tryz.prog 151 #[.slice (some ⟨g, 0, none⟩) n cap, .func (.func 152) #[] #[]] w fun e w' => e = .returned (.tuple #[]) ∧ Left w g n cap 0 n B d w' := by
  have HC := Lib.hid (stable_any g n cap B d w hown hn hs)
  clear hown hn
  go_enter Tryz.func151, Tryz.ntmps151
  go_wp2_with fail
  refine HC.out.mono ?_; rintro _ w2 ⟨rfl, hl⟩
  have HL := Lib.hid hl
  clear hl
  go_wp2_with fail
  go_end0
  exact ⟨rfl, HL.out⟩
end Go.Proofs.YtenkeodfijladaaGreat
