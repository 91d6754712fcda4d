/- Several texts in one, each over the last: slices.stableCmpFunc and SortStableFunc at items, and index.sorted of any list: the walks. index.sorted of any list: the walk. -/
import Derived.Test.YtenkeodfijladaaGreatDoorSz
import Derived.Test.YtenkeodfijladaaGreatDoorPz
import Derived.Test.YtenkeodfijladaaGreatDoorGW
import Derived.Lib.AppendZeros
namespace Go.Proofs.YtenkeodfijladaaGreatDoor
open Go.RowKit

set_option maxRecDepth 100000 in
set_option maxHeartbeats 4000000 in
theorem stable_any (g n cap B : Nat) (d : List It) (w : World) (hown : w.ownsRow B 77 4 (.slice (some ⟨g, 0, none⟩) n cap) n (itsC d)) (hn : d.length = n) (hs : n ≤ 1000000) :
    Calls Tryz.prog 145 #[.slice (some ⟨g, 0, none⟩) n cap, .int .i64 (n : Int), .func (.func 117) #[] #[]] w fun e w' => e = .returned (.tuple #[]) ∧ Left w g n cap 0 n B d w' := by
  have HO := Lib.hid hown
  have hgr : w.grownBy w (some g) := ⟨rfl, rfl, rfl, Nat.le_refl _, fun _ _ _ => rfl⟩
  have HG := Lib.hid hgr
  have HN := Lib.hid hn
  have HL := Lib.hid (fun q (h : Moved d q 0 n) => h.len.trans hn)
  clear hown hgr hn
  go_enter Tryz.func145, Tryz.ntmps145
  go_wp2_with fail
  go_loopw [7, 8] (fun av bv wr => ∃ (k a : Nat) (q : List It), av = .int .i64 (a : Int) ∧ bv = .int .i64 ((a : Int) + 20) ∧ Hid (a = k * 20) ∧ a ≤ n ∧ Blk q 20 0 a ∧ Moved d q 0 n ∧ wr.ownsRow B 77 4 (.slice (some ⟨g, 0, none⟩) n cap) n (itsC q) ∧ w.grownBy wr (some g)) (fun av _ _ => n - (intOf av).toNat)
  case atStart => exact ⟨0, 0, d, by go_num, by go_num, (rfl : (0 : Nat) = 0 * 20), by omega, Blk.none _ _ _, Moved.refl _ _ _, HO.out, HG.out⟩
  case round =>
    obtain ⟨k, a, q, rfl, rfl, HK, han, hb, hm, ho, hg⟩ := hrel
    have Hb := Lib.hid hb
    have Hm := Lib.hid hm
    have Ho := Lib.hid ho
    have Hg := Lib.hid hg
    clear hb hm ho hg
    by_cases hlt : a + 20 ≤ n
    · have HC := Lib.hid (insertion_any g n cap a (a + 20) B q wr Ho.out (HL.out q Hm.out) hs (by omega) hlt)
      have e1 : ((a + 20 : Nat) : Int) = (a : Int) + 20 := by omega
      rw [e1] at HC
      clear e1
      have hle : (a : Int) + 20 ≤ (n : Int) := by omega
      go_wp2_with fail
      refine HC.out.mono ?_; rintro _ w2 ⟨rfl, q2, hown2, hm2, hn2, hgr2⟩
      have HO2 := Lib.hid hown2
      have HM2 := Lib.hid (Hm.out.trans (hm2.wide (Nat.zero_le _) (by omega) hlt))
      have HB2 := Lib.hid ((Hb.out.keep hm2 (Or.inl (Nat.le_refl _))).more HK.out hn2)
      have HG2 := Lib.hid (grown_tr Hg.out hgr2)
      have HK2 := Lib.hid (show a + 20 = (k + 1) * 20 by rw [HK.out]; omega)
      clear hown2 hm2 hn2 hgr2
      go_wp2_with fail
      exact ⟨⟨k + 1, a + 20, q2, by go_num, by go_num, HK2, hlt, HB2.out, HM2.out, HO2.out, HG2.out⟩, by simp [intOf]; omega⟩
    · have hle : ¬ (a : Int) + 20 ≤ (n : Int) := by omega
      have HC := Lib.hid (insertion_any g n cap a n B q wr Ho.out (HL.out q Hm.out) hs han (Nat.le_refl _))
      go_wp2_with fail
      refine HC.out.mono ?_; rintro _ w2 ⟨rfl, q2, hown2, hm2, hn2, hgr2⟩
      have HO2 := Lib.hid hown2
      have HM2 := Lib.hid (Hm.out.trans (hm2.wide (Nat.zero_le _) han (Nat.le_refl _)))
      have HB2 := Lib.hid ((Hb.out.keep hm2 (Or.inl (Nat.le_refl _))).more HK.out hn2)
      have HG2 := Lib.hid (grown_tr Hg.out hgr2)
      clear hown2 hm2 hn2 hgr2 hle hlt
      clear HK Hb Hm Ho Hg HC
      go_wp2_with fail
      go_loopw [6] (fun sv wr => ∃ (bs : Nat) (q : List It), sv = .int .i64 (bs : Int) ∧ 0 < bs ∧ bs ≤ 2000000 ∧ Blk q bs 0 n ∧ Moved d q 0 n ∧ wr.ownsRow B 77 4 (.slice (some ⟨g, 0, none⟩) n cap) n (itsC q) ∧ w.grownBy wr (some g)) (fun sv _ => n - (intOf sv).toNat)
      case atStart => exact ⟨20, q2, by go_num, by omega, by omega, HB2.out, HM2.out, HO2.out, HG2.out⟩
      case round =>
        obtain ⟨bs, q, rfl, hb0, hb1, hb, hm, ho, hg⟩ := hrel
        have Hb := Lib.hid hb
        have Hm := Lib.hid hm
        have Ho := Lib.hid ho
        have Hg := Lib.hid hg
        clear hb hm ho hg
        by_cases hlt : bs < n
        · go_wp2_with fail
          go_loopw [7, 8] (fun av bv wr => ∃ (k a : Nat) (q : List It), av = .int .i64 (a : Int) ∧ bv = .int .i64 ((a : Int) + 2 * (bs : Int)) ∧ Hid (a = k * (2 * bs)) ∧ a ≤ n ∧ Blk q (2 * bs) 0 a ∧ Blk q bs a n ∧ Moved d q 0 n ∧ wr.ownsRow B 77 4 (.slice (some ⟨g, 0, none⟩) n cap) n (itsC q) ∧ w.grownBy wr (some g)) (fun av _ _ => n - (intOf av).toNat)
          case atStart => exact ⟨0, 0, q, by go_num, by go_num, (Nat.zero_mul _).symm, by omega, Blk.none _ _ _, Hb.out, Hm.out, Ho.out, Hg.out⟩
          case round =>
            obtain ⟨k, a, r, rfl, rfl, HK, han, hb, hc, hm, ho, hg⟩ := hrel
            have hK2 : k * 2 * bs = a := by rw [HK.out, Nat.mul_assoc]
            have hK3 : (k * 2 + 1) * bs = a + bs := by rw [Nat.succ_mul (k * 2) bs, hK2]
            have HK4 := Lib.hid (show a + 2 * bs = (k + 1) * (2 * bs) by rw [Nat.succ_mul k (2 * bs), ← HK.out])
            have Hn1 := Lib.hid (show a + bs ≤ n → NdI r a (a + bs) from fun h => hc.nd (k := k * 2) (Nat.le_refl _) h (by omega) (by omega))
            have Hn2 := Lib.hid (show ∀ b, a + bs ≤ b → b ≤ n → b ≤ a + 2 * bs → NdI r (a + bs) b from fun b h h' h'' => hc.nd (k := k * 2 + 1) (by omega) h' (by omega) (by omega))
            have Hn3 := Lib.hid (show n ≤ a + bs → NdI r a n from fun h => hc.nd (k := k * 2) (Nat.le_refl _) (Nat.le_refl _) (by omega) (by omega))
            have Hb := Lib.hid hb
            have Hc := Lib.hid hc
            have Hm := Lib.hid hm
            have Ho := Lib.hid ho
            have Hg := Lib.hid hg
            clear hb hc hm ho hg hK2 hK3
            by_cases hle : a + 2 * bs ≤ n
            · have HC := Lib.hid (sym_any g n cap B hs (2 * bs) a (a + bs) (a + 2 * bs) r wr (by omega) Ho.out (HL.out r Hm.out) (by omega) (by omega) hle (Hn1.out (by omega)) (Hn2.out _ (by omega) hle (Nat.le_refl _)))
              have e1 : ((a + bs : Nat) : Int) = (a : Int) + (bs : Int) := by omega
              have e2 : ((a + 2 * bs : Nat) : Int) = (a : Int) + 2 * (bs : Int) := by omega
              rw [e1, e2] at HC
              clear e1 e2
              have hle' : (a : Int) + 2 * (bs : Int) ≤ (n : Int) := by omega
              go_wp2_with fail
              refine HC.out.mono ?_; rintro _ w2 ⟨rfl, q2, hown2, hm2, hn2, hgr2⟩
              have HO2 := Lib.hid hown2
              have HM2 := Lib.hid (Hm.out.trans (hm2.wide (Nat.zero_le _) (by omega) hle))
              have HB2 := Lib.hid ((Hb.out.keep hm2 (Or.inl (Nat.le_refl _))).more HK.out hn2)
              have HC2 := Lib.hid ((Hc.out.sub (lo' := a + 2 * bs) (hi' := n) (by omega) (Nat.le_refl _)).keep hm2 (Or.inr (Nat.le_refl _)))
              have HG2 := Lib.hid (grown_tr Hg.out hgr2)
              clear hown2 hm2 hn2 hgr2
              go_wp2_with fail
              exact ⟨⟨k + 1, a + 2 * bs, q2, by go_num, by go_num, HK4, hle, HB2.out, HC2.out, HM2.out, HO2.out, HG2.out⟩, by simp [intOf]; omega⟩
            · have hle' : ¬ (a : Int) + 2 * (bs : Int) ≤ (n : Int) := by omega
              by_cases hmn : a + bs < n
              · have HC := Lib.hid (sym_any g n cap B hs (2 * bs) a (a + bs) n r wr (by omega) Ho.out (HL.out r Hm.out) (by omega) hmn (Nat.le_refl _) (Hn1.out (by omega)) (Hn2.out _ (by omega) (Nat.le_refl _) (by omega)))
                have e1 : ((a + bs : Nat) : Int) = (a : Int) + (bs : Int) := by omega
                rw [e1] at HC
                clear e1
                have hmn' : (a : Int) + (bs : Int) < (n : Int) := by omega
                go_wp2_with fail
                refine HC.out.mono ?_; rintro _ w2 ⟨rfl, q2, hown2, hm2, hn2, hgr2⟩
                have HO2 := Lib.hid hown2
                have HM2 := Lib.hid (Hm.out.trans (hm2.wide (Nat.zero_le _) han (Nat.le_refl _)))
                have HB2 := Lib.hid ((Hb.out.keep hm2 (Or.inl (Nat.le_refl _))).more HK.out hn2)
                have HG2 := Lib.hid (grown_tr Hg.out hgr2)
                clear hown2 hm2 hn2 hgr2
                go_wp2_with fail
                exact ⟨⟨2 * bs, q2, by go_num, by omega, by omega, HB2.out, HM2.out, HO2.out, HG2.out⟩, by simp [intOf]; omega⟩
              · have hmn' : ¬ (a : Int) + (bs : Int) < (n : Int) := by omega
                have HB2 := Lib.hid (Hb.out.more HK.out (Hn3.out (by omega)))
                go_wp2_with fail
                exact ⟨⟨2 * bs, r, by go_num, by omega, by omega, HB2.out, Hm.out, Ho.out, Hg.out⟩, by simp [intOf]; omega⟩
        · have HW := Lib.hid (Hb.out.whole (by omega))
          go_wp2_with fail
          go_end0
          exact ⟨rfl, q, Ho.out, Hm.out, HW.out, Hg.out⟩
theorem sortstable_any (g n cap B : Nat) (d : List It) (w : World) (hown : w.ownsRow B 77 4 (.slice (some ⟨g, 0, none⟩) n cap) n (itsC d)) (hn : d.length = n) (hs : n ≤ 1000000) :
    Calls Tryz.prog 116 #[.slice (some ⟨g, 0, none⟩) n cap, .func (.func 117) #[] #[]] w fun e w' => e = .returned (.tuple #[]) ∧ Left w g n cap 0 n B d w' := by
  have HC := Lib.hid (stable_any g n cap B d w hown hn hs)
  clear hown hn
  go_enter Tryz.func116, Tryz.ntmps116
  go_wp2_with fail
  refine HC.out.mono ?_; rintro _ w2 ⟨rfl, hl⟩
  have HL := Lib.hid hl
  clear hl
  go_wp2_with fail
  go_end0
  exact ⟨rfl, HL.out⟩
end Go.Proofs.YtenkeodfijladaaGreatDoor

namespace Go.Proofs.YtenkeodfijladaaGreatDoor
open Go.RowKit

set_option maxRecDepth 100000 in
/-- One item appended within a row of the call's own. -/
theorem app_in {w : World} {B g n cap : Nat} {q : List It} (h : w.ownsRow B 77 4 (.slice (some ⟨g, 0, none⟩) n cap) n (itsC q)) (hq : q.length = n) (k : Nat) (hk : k < n) {sa : Addr} {sc : Nat} {x : It} (hs : Rd w 4 (.slice (some sa) 1 sc) 1 (itC x)) :
    ∃ w', (∀ ty, (Builtin.append_ #[22, 22] ty #[.slice (some ⟨g, 0, none⟩) k cap, .slice (some sa) 1 sc]).run Tryz.prog w = .ok (.slice (some ⟨g, 0, none⟩) (k + 1) cap) w') ∧
      w'.ownsRow B 77 4 (.slice (some ⟨g, 0, none⟩) n cap) n (itsC (q.set k x)) ∧ w.grownBy w' (some g) := by
  obtain ⟨cur, hg, hN, h1, h2⟩ := own_setRow h (k * 4) (itC x) (by rw [itC_len]; omega)
  obtain ⟨ht, hsz, i, z, hi, hz, hs4, hby, hzs⟩ := elemT
  obtain ⟨_, a', cap', e, _, _, _, hc⟩ := hs
  injection e with e1 e2 e3
  obtain ⟨b, off, e4, hcell⟩ := hc (by rw [itC_len]; omega)
  rw [← e1] at e4
  injection e4 with e4
  subst e4
  have hcap : k + 1 ≤ cap := by
    obtain ⟨_, _, e, hnc, _, _⟩ := own_form h
    injection e with _ _ e5
    omega
  refine ⟨_, fun ty => run_append_room (P := Tryz.prog) w 22 ty 77 i ht hi g k cap cur hg ⟨b, off, none⟩ 1 sc (itC x) (by rw [hs4]; rfl) (fun j u hj => by rw [addr_add]; exact hcell j u hj) (fun u hu => itsC_one' [x] u (by rw [itsC_one]; exact hu)) hcap (by rw [hs4, itC_len]; omega), ?_, ?_⟩
  · rw [hs4]
    have e : itsC (q.set k x) = (itsC q).take (k * 4) ++ itC x ++ (itsC q).drop (k * 4 + (itC x).length) := by
      rw [List.set_eq_take_append_cons_drop, if_pos (by omega), itsC_append, itsC_take, itsC_cons, itsC_drop, itC_len, List.append_assoc]
      congr 3; omega
    rw [e]; exact h1
  · rw [hs4]; exact h2
theorem wpList_appin {w : World} {ops : Array Oper} {rest : List Oper} {o : Oper} {a : Act} {Q : Exit → Act → World → Prop} (hgd : o.guard = none) (s x : Operand)
    (ho : o.op = .call { callee := .builtin .append, args := #[s, x], argTypes := #[22, 22] }) {B g n cap : Nat} {q : List It} (k : Nat) {sa : Addr} {sc : Nat} {y : It}
    (hs : a.eval s = .slice (some ⟨g, 0, none⟩) k cap) (hx : a.eval x = .slice (some sa) 1 sc) (h : w.ownsRow B 77 4 (.slice (some ⟨g, 0, none⟩) n cap) n (itsC q)) (hq : q.length = n) (hk : k < n) (hr : Rd w 4 (.slice (some sa) 1 sc) 1 (itC y))
    (hK : ∀ w', w'.ownsRow B 77 4 (.slice (some ⟨g, 0, none⟩) n cap) n (itsC (q.set k y)) → w.grownBy w' (some g) → wpList Tryz.prog ops Q rest (a.put o.dst (.slice (some ⟨g, 0, none⟩) (k + 1) cap)) w') : wpList Tryz.prog ops Q (o :: rest) a w := by
  obtain ⟨w', h1, h2, h3⟩ := app_in h hq k hk hr
  exact Lib.wpList_append_run w hgd s x _ _ ho _ _ hs hx _ _ (h1 _) (hK w' h2 h3)
theorem take_set_ne {q : List It} {k i : Nat} {x : It} (h : k ≤ i) : (q.set k x).drop (i + 1) = q.drop (i + 1) := List.drop_set_of_lt (by omega)
/-- The pass over the sorted list: out, what is left, the row. -/
structure Pass (d out q : List It) (k i : Nat) : Prop where
  all : out ++ lstR (d.drop i) = lstR d
  pre : q.take k = out
  rest : q.drop i = d.drop i
  le : k ≤ i
  len : q.length = d.length
theorem Pass.keep {d out q : List It} {k i : Nat} (h : Pass d out q k i) (hi : i < d.length) (hk : i + 1 = d.length ∨ (iat d (i + 1)).key ≠ (iat d i).key) : Pass d (out ++ [iat d i]) (q.set k (iat d i)) (k + 1) (i + 1) := by
  have hle := h.le
  have hql := h.len
  refine ⟨?_, ?_, ?_, by omega, by rw [List.length_set]; exact h.len⟩
  · rw [List.append_assoc, ← h.all]
    congr 1
    by_cases e : i + 1 = d.length
    · exact (lstR_end e).symm
    · exact (lstR_keep (by omega) (by rcases hk with hk | hk; exact absurd hk e; exact hk)).symm
  · rw [set_take_succ q k _ (by omega), h.pre]
  · rw [take_set_ne hle, ← List.drop_drop, h.rest, List.drop_drop]
theorem Pass.skip {d out q : List It} {k i : Nat} (h : Pass d out q k i) (hi : i + 1 < d.length) (hk : (iat d (i + 1)).key = (iat d i).key) : Pass d out q k (i + 1) := by
  have hle := h.le
  refine ⟨?_, h.pre, ?_, by omega, h.len⟩
  · rw [← h.all, lstR_skip hi hk]
  · rw [← List.drop_drop, h.rest, List.drop_drop]
theorem Pass.at {d out q : List It} {k i j : Nat} (h : Pass d out q k i) (hj : i ≤ j) : iat q j = iat d j := by
  have h1 := iat_drop q i (j - i)
  have h2 := iat_drop d i (j - i)
  rw [h.rest, h2, show i + (j - i) = j by omega] at h1
  exact h1.symm
set_option maxRecDepth 100000 in
set_option maxHeartbeats 2000000 in
theorem sorted_dis (l : List It) (ha : ascB l = false) (hs : l.length ≤ 1000000) : SortedOk l := by
  intro v w h
  have HC := Lib.hid (clone_any v l w h hs)
  have HA := Lib.hid (fun v w h => asc_any v l w h)
  rw [ha] at HA
  have hpos : 0 < l.length := by
    cases l with
    | nil => cases ha
    | cons x r => simp
  have HS := Lib.hid (fun d (hm : Moved l d 0 l.length) (hn : NdI d 0 l.length) => lstR_srt (l := l) (d := d) (hm.stb (Nat.zero_le _)) (by rw [hm.len]; exact hn))
  obtain ⟨a, cap, rfl, h1, h2⟩ := h.shape
  have HML := Lib.hid (fun d (hm : Moved l d 0 l.length) => hm.len)
  have HSS := Lib.hid (fun g cap B w h => sortstable_any g l.length cap B l w h rfl hs)
  have HOT := Lib.hid (fun w B v (h : OwnT w B v l) => show w.ownsRow B 77 4 v l.length (itsC l) from h)
  generalize hn : l.length = n at *
  clear h ha hn
  go_enter Tryz.func88, Tryz.ntmps88
  go_wp2_with fail
  refine HC.out.mono ?_; rintro e w1 ⟨v1, rfl, hown1, hb1⟩
  have HO := Lib.hid hown1
  have HB := Lib.hid hb1
  clear hown1 hb1
  go_wp2_with fail
  refine (HA.out _ _ HO.out.rd).mono ?_; rintro e w2 ⟨rfl, hb2⟩
  have HO2' := Lib.hid (HOT.out _ _ _ (own_keep HO.out hb2))
  have HB2 := Lib.hid (bstep HB.out hb2)
  clear hb2
  obtain ⟨oa, oc, rfl, ho1, ho2, _⟩ := own_form HO2'.out
  obtain ⟨g, rfl⟩ : ∃ g, oa = some ⟨g, 0, none⟩ := by
    rcases HO2'.out.2 with ⟨e, h0⟩ | ⟨g, _, _, e, _⟩
    · injection e with _ e _; omega
    · injection e with e; exact ⟨g, e⟩
  have hgw := (HO2'.out.lt g rfl).1
  clear HO
  go_wp2_with fail
  refine (HSS.out g oc w.heap.size w2 HO2'.out).mono ?_; rintro e w3 ⟨rfl, d, hown3, hm3, hn3, hgr3⟩
  have HO3 := Lib.hid hown3
  have HD := Lib.hid (HS.out d hm3 hn3)
  have HL := Lib.hid (HML.out d hm3)
  have HB3 := Lib.hid (HB2.out.grown hgr3 HB2.out.size (by intro r hr; injection hr with hr; omega))
  clear hown3 hm3 hn3 hgr3 HO2' HB2
  have hto := slice_to (P := Tryz.prog) elemT (a := some ⟨g, 0, none⟩) (n := n) (cap := oc) (fun x hx => ⟨g, 0, by injection hx with hx; exact hx.symm⟩) 0 (by omega)
  have hoc : oc ≤ 9223372036854775807 := by unfold maxLen at ho2; omega
  go_wp2_with fail
  go_loopw [3, 17] (fun ov iv wr => ∃ (k i : Nat) (out q : List It), ov = .slice (some ⟨g, 0, none⟩) k oc ∧ iv = .int .i64 (i : Int) ∧ i ≤ n ∧ Pass d out q k i ∧ wr.ownsRow w.heap.size 77 4 (.slice (some ⟨g, 0, none⟩) n oc) n (itsC q) ∧ Below w.heap.size w wr) (fun _ iv _ => n - (intOf iv).toNat)
  case atStart => exact ⟨0, 0, [], d, by rfl, by go_num, by omega, ⟨by simp, rfl, rfl, Nat.le_refl _, rfl⟩, HO3.out, HB3.out⟩
  case round =>
    obtain ⟨k, i, out, q, rfl, rfl, hi, hp, ho, hb⟩ := hrel
    have hki := hp.le
    have Hp := Lib.hid hp
    have Ho := Lib.hid ho
    have Hb := Lib.hid hb
    have hB := hb.size
    have hgr := (ho.lt g rfl).2
    have hqn := Lib.hid (hp.len.trans HL.out)
    clear hp ho hb
    by_cases hlt : i < n
    · obtain ⟨_, _, e, c0, c1, c2, c3⟩ := (rd_rdT (own_rd Ho.out)).at hlt
      injection e with e; injection e with e1 e2; subst e1 e2
      simp only [Nat.zero_add] at c0 c1 c2 c3
      rw [Hp.out.at (Nat.le_refl _)] at c0 c1 c2 c3
      have HKeep := Lib.hid (Hp.out.keep (by rw [HL.out]; exact hlt))
      have HSkip := Lib.hid (fun h : i + 1 < n => Hp.out.skip (by rw [HL.out]; exact h))
      have j1 : IntKind.i64.wrap ((i : Int) + 1) = (i : Int) + 1 := IntWalk.i64_in _ (by omega)
      by_cases hend : i + 1 = n
      · have hd : ((i : Int) + 1 == (n : Int)) = true := beq_iff_eq.2 (by omega)
        have HK2 := Lib.hid (HKeep.out (Or.inl (by rw [HL.out]; exact hend)))
        generalize iat d i = x at *
        go_wp2_with fail
        go_quiet (fail)
        obtain ⟨W, hW⟩ : ∃ W, (wr.alloc (.cells #[.int .u64 x.key, .int .u32 x.ck, .int .i64 x.off, .int .i64 x.size] 77)).drewN nq = W := ⟨_, rfl⟩
        have HBW := Lib.hid (show Below wr.heap.size wr W by rw [← hW]; exact below_drewN ((Below.refl _ _).alloc (Nat.le_refl _) _) _)
        have x0 : W.cell? ⟨wr.heap.size, 0, none⟩ = some (.int .u64 x.key) := by rw [← hW]; simp
        have x1 : W.cell? ⟨wr.heap.size, 1, none⟩ = some (.int .u32 x.ck) := by rw [← hW]; simp
        have x2 : W.cell? ⟨wr.heap.size, 2, none⟩ = some (.int .i64 x.off) := by rw [← hW]; simp
        have x3 : W.cell? ⟨wr.heap.size, 3, none⟩ = some (.int .i64 x.size) := by rw [← hW]; simp
        rw [hW]
        clear hW c0 c1 c2 c3 j1 hd
        have HOW := Lib.hid (own_keep Ho.out HBW.out)
        have HbW := Lib.hid (bstep Hb.out HBW.out)
        have hW1 := HbW.out.size
        go_wp2_with (at_builtin; go_must (refine wpList_appin rfl (.tmp 38) (.tmp 40) rfl k rfl rfl (HOW.out.alloc _) hqn.out (by omega) (Rd.new _ 4 (itC x) 77 1 rfl (by decide)) ?_); intro w4 hown4 hgr4)
        have HO4 := Lib.hid hown4
        have HB4 := Lib.hid ((HbW.out.alloc hW1 _).grown hgr4 (by simp; omega) (by intro r hr; injection hr with hr; omega))
        clear hown4 hgr4
        go_wp2_with fail
        exact ⟨⟨k + 1, i + 1, _, _, rfl, by go_num, by omega, HK2.out, HO4.out, HB4.out⟩, by simp [intOf]; omega⟩
      · have hd : ((i : Int) + 1 == (n : Int)) = false := beq_eq_false_iff_ne.2 (by omega)
        have hi1 : i + 1 < n := by omega
        have i2 : (i : Int) + 1 < (n : Int) := by omega
        have i3 : (0 : Int) ≤ (i : Int) + 1 := by omega
        have i4 : ((i : Int) + 1).toNat = i + 1 := by omega
        obtain ⟨_, _, e, d0, _, _, _⟩ := (rd_rdT (own_rd Ho.out)).at hi1
        injection e with e; injection e with e1 e2; subst e1 e2
        simp only [Nat.zero_add] at d0
        rw [Hp.out.at (Nat.le_succ _)] at d0
        have HKk := Lib.hid (fun h => HKeep.out (Or.inr h))
        have HSk := Lib.hid (HSkip.out hi1)
        generalize (iat d (i + 1)).key = y at *
        have hne : ∀ o n, ((wr.alloc o).drewN n).cell? ⟨g, (i + 1) * 4, none⟩ = some (.int .u64 y) := fun o n => Below.keeps (below_drewN ((Below.refl _ _).alloc (Nat.le_refl _) o) n) _ _ d0
        by_cases hyx : y = (iat d i).key
        · have HS2 := Lib.hid (HSk.out hyx)
          generalize iat d i = x at *
          have hd2 : (y != x.key) = false := by rw [hyx]; simp
          clear hyx
          go_wp2_with fail
          go_quiet (fail)
          have HBW := Lib.hid (show Below wr.heap.size wr ((wr.alloc (.cells #[.int .u64 x.key, .int .u32 x.ck, .int .i64 x.off, .int .i64 x.size] 77)).drewN nq) from below_drewN ((Below.refl _ _).alloc (Nat.le_refl _) _) _)
          clear j1 hd i2 i3 i4
          go_wp2_with fail
          exact ⟨⟨k, i + 1, _, _, rfl, by go_num, by omega, HS2.out, own_keep Ho.out HBW.out, bstep Hb.out HBW.out⟩, by simp [intOf]; omega⟩
        · have HK2 := Lib.hid (HKk.out hyx)
          have hd2 : (y != (iat d i).key) = true := bne_iff_ne.2 hyx
          clear hyx
          generalize iat d i = x at *
          go_wp2_with fail
          go_quiet (fail)
          obtain ⟨W, hW⟩ : ∃ W, (wr.alloc (.cells #[.int .u64 x.key, .int .u32 x.ck, .int .i64 x.off, .int .i64 x.size] 77)).drewN nq = W := ⟨_, rfl⟩
          have HBW := Lib.hid (show Below wr.heap.size wr W by rw [← hW]; exact below_drewN ((Below.refl _ _).alloc (Nat.le_refl _) _) _)
          have x0 : W.cell? ⟨wr.heap.size, 0, none⟩ = some (.int .u64 x.key) := by rw [← hW]; simp
          have x1 : W.cell? ⟨wr.heap.size, 1, none⟩ = some (.int .u32 x.ck) := by rw [← hW]; simp
          have x2 : W.cell? ⟨wr.heap.size, 2, none⟩ = some (.int .i64 x.off) := by rw [← hW]; simp
          have x3 : W.cell? ⟨wr.heap.size, 3, none⟩ = some (.int .i64 x.size) := by rw [← hW]; simp
          rw [hW]
          clear hW c0 c1 c2 c3 j1 hd i2 i3 i4 hd2 d0 hne
          have HOW := Lib.hid (own_keep Ho.out HBW.out)
          have HbW := Lib.hid (bstep Hb.out HBW.out)
          have hW1 := HbW.out.size
          go_wp2_with (at_builtin; go_must (refine wpList_appin rfl (.tmp 38) (.tmp 40) rfl k rfl rfl (HOW.out.alloc _) hqn.out (by omega) (Rd.new _ 4 (itC x) 77 1 rfl (by decide)) ?_); intro w4 hown4 hgr4)
          have HO4 := Lib.hid hown4
          have HB4 := Lib.hid ((HbW.out.alloc hW1 _).grown hgr4 (by simp; omega) (by intro r hr; injection hr with hr; omega))
          clear hown4 hgr4
          go_wp2_with fail
          exact ⟨⟨k + 1, i + 1, _, _, rfl, by go_num, by omega, HK2.out, HO4.out, HB4.out⟩, by simp [intOf]; omega⟩

    · obtain rfl : i = n := by omega
      have HE := Lib.hid (show out = srt l by
        have h := Hp.out.all
        rw [List.drop_eq_nil_of_le (by rw [HL.out]; exact Nat.le_refl _), show lstR [] = [] from rfl, List.append_nil] at h
        exact h.trans HD.out)
      have HT := Lib.hid (own_take Ho.out k hki)
      have HPr := Lib.hid Hp.out.pre
      go_wp2_with fail
      go_ret
      exact ⟨_, rfl, ownT_of HT.out (by rw [← itsC_take, HPr.out, HE.out]), Hb.out⟩
theorem sorted_all (l : List It) (hs : l.length ≤ 1000000) : SortedOk l := by
  cases ha : ascB l with
  | true => exact sorted_asc l ((asc_iff l).1 ha) hs
  | false => exact sorted_dis l ha hs
end Go.Proofs.YtenkeodfijladaaGreatDoor
