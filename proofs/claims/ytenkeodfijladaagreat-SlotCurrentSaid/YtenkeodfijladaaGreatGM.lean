/- Several texts in one, each over the last: The reference's changes of a needle map, in the words of the program's: the stripes are those that came in, or the call's own. The reference's ends and Valid of generations: the walks. A region that draws its order, by what each operation leaves: whatever the order, what an operation yields has a property that lasts while memory only grows; what comes behind them all has one order. The reference's Valid of generations: the walk. Printed by genHi.py. The reference's Fresh, moded, Freeze, Seal; the law's given: the walks. Printed by genHj.py. -/
import Derived.Test.YtenkeodfijladaaGreatGL
import Derived.Test.YtenkeodfijladaaGreatGE
import Derived.Test.YtenkeodfijladaaGreatGQ
import Derived.Test.YtenkeodfijladaaGreatGv
import Derived.Test.YtenkeodfijladaaGreatQt
import Derived.StillTailTactics
import Derived.Deep.Quiet
import Derived.BigQuiet
import Derived.Test.YtenkeodfijladaaGreatBase
namespace Go.Proofs.YtenkeodfijladaaGreat
open Go.RowKit

theorem RdM.eqM {w : World} {s : Sl} {f g : Nat → List It} (h : RdM w s f) (e : ∀ i, i < 8 → g i = f i) : RdM w s g := fun i hi => by rw [e i hi]; exact h i hi
theorem OwnM.eqM {w : World} {B : Nat} {s : Sl} {f g : Nat → List It} (h : OwnM w B s f) (e : ∀ i, i < 8 → g i = f i) : OwnM w B s g := fun i hi => by rw [e i hi]; exact h i hi
theorem OldOwn.eqM {w' : World} {B : Nat} {s s' : Sl} {f0 f g : Nat → List It} (h : OldOwn w' B s f0 s' f) (e : ∀ i, i < 8 → g i = f i) : OldOwn w' B s f0 s' g := by
  rcases h with ⟨h1, h2⟩ | h
  · exact .inl ⟨h1, fun i hi => (e i hi).trans (h2 i hi)⟩
  · exact .inr (h.eqM e)
theorem OldOwn.pts {w : World} {B b : Nat} {s s' : Sl} {f f' : Nat → List It} (h : OldOwn w B s f s' f') (hb : b < B) (vs : List (Nat × Value)) : OldOwn (Go.Proofs.YtenkeodfijladaaGreat.pts w b vs) B s f s' f' := h.imp id fun h => h.pts hb vs
theorem rput_ins (s : Sl) (M : Mp) (x : It) (w : World) (h : RdM w s M.st) (hs : ∀ i, i < 8 → (M.st i).length ≤ 9000) :
    Calls Tryz.prog 98 #[mapV s M.live M.garb, itV x] w fun e w' => (∃ s', e = .returned (mapV s' (insM M x).live (insM M x).garb) ∧ OldOwn w' w.heap.size s M.st s' (insM M x).st) ∧ Below w.heap.size w w' := by
  have e := put_same M x
  refine (rputM_own s M x w h hs).mono ?_
  rintro e' w' ⟨⟨s', rfl, ho⟩, hb⟩
  exact ⟨⟨s', by rw [e.l, e.g], ho.eqM e.st⟩, hb⟩
theorem rdel_del (s : Sl) (M : Mp) (key : Int) (w : World) (h : RdM w s M.st) (hs : ∀ i, i < 8 → (M.st i).length ≤ 9000) :
    Calls Tryz.prog 97 #[mapV s M.live M.garb, .int .u64 key] w fun e w' => (∃ s', e = .returned (mapV s' (delM M key).live (delM M key).garb) ∧ OldOwn w' w.heap.size s M.st s' (delM M key).st) ∧ Below w.heap.size w w' := by
  have e := del_same M key
  refine (rdelM_own s M key w h hs).mono ?_
  rintro e' w' ⟨⟨s', rfl, ho⟩, hb⟩
  exact ⟨⟨s', by rw [e.l, e.g], ho.eqM e.st⟩, hb⟩
/-- What a change of a generation hands back: the stripes are those that came in (s, f), or the call's own. -/
def GOO (w0 : World) (s : Sl) (f : Nat → List It) (p : Int × Gn) (e : Ending) (w' : World) : Prop := (∃ s', e = .returned (.tuple #[genV p.2.num p.2.rev p.2.mode p.2.size s' p.2.m.live p.2.m.garb, .int .i64 p.1]) ∧ OldOwn w' w0.heap.size s f s' p.2.m.st) ∧ Below w0.heap.size w0 w'
theorem GOwn.old {w0 : World} {s : Sl} {f : Nat → List It} {p : Int × Gn} {e : Ending} {w' : World} (h : GOwn w0 p e w') : GOO w0 s f p e w' := ⟨h.1.imp fun _ h => ⟨h.1, .inr h.2⟩, h.2⟩
/-! ### The reference's ends, plain -/
def endsR (l : List It) (size : Int) : Bool := (List.range l.length).all fun i => decide (endI (iat l i) ≤ size) && (List.range l.length).all fun k => decide (k = i) || !(decide ((iat l i).off ≤ (iat l k).off) && decide ((iat l k).off < endI (iat l i)))
theorem endsR_iff (l : List It) (size : Int) : endsR l size = true ↔ ∀ i, i < l.length → endI (iat l i) ≤ size ∧ ∀ k, k < l.length → k ≠ i → ¬ ((iat l i).off ≤ (iat l k).off ∧ (iat l k).off < endI (iat l i)) := by
  unfold endsR
  rw [List.all_eq_true]
  refine ⟨fun h i hi => ?_, fun h i hi => ?_⟩
  · have h1 := h i (List.mem_range.2 hi)
    rw [Bool.and_eq_true, decide_eq_true_eq, List.all_eq_true] at h1
    refine ⟨h1.1, fun k hk hne hc => ?_⟩
    have h2 := h1.2 k (List.mem_range.2 hk)
    rw [decide_eq_false hne, decide_eq_true hc.1, decide_eq_true hc.2] at h2
    cases h2
  · obtain ⟨h1, h2⟩ := h i (List.mem_range.1 hi)
    rw [Bool.and_eq_true, decide_eq_true_eq, List.all_eq_true]
    refine ⟨h1, fun k hk => ?_⟩
    by_cases e : k = i
    · rw [decide_eq_true e]; rfl
    · rw [decide_eq_false e, Bool.false_or, Bool.not_eq_true', Bool.and_eq_false_iff, decide_eq_false_iff_not, decide_eq_false_iff_not]
      have := h2 k (List.mem_range.1 hk) e
      omega
theorem endsR_eq {l : List It} (hok : ∀ x ∈ l, okP x) (size : Int) : endsR l size = endsB l size := by
  refine Bool.eq_iff_iff.2 ((endsR_iff l size).trans (Iff.trans ?_ (decide_eq_true_iff (p := endsP l size)).symm))
  have hm : ∀ i, (h : i < l.length) → iat l i = l[i] := fun i h => by unfold iat; rw [List.getD_eq_getElem?_getD, List.getElem?_eq_getElem h]; rfl
  constructor
  · intro h
    refine ⟨List.pairwise_iff_getElem.2 fun i j hi hj hij => ?_, fun x hx => ?_⟩
    · have h1 := (h i hi).2 j hj (by omega)
      have h2 := (h j hj).2 i hi (by omega)
      rw [hm i hi, hm j hj] at h1 h2
      unfold disj
      omega
    · obtain ⟨i, hi, rfl⟩ := List.getElem_of_mem hx
      have := (h i hi).1
      rwa [hm i hi] at this
  · rintro ⟨hp, hs⟩ i hi
    rw [hm i hi]
    refine ⟨hs _ (List.getElem_mem hi), fun k hk e => ?_⟩
    rw [hm k hk]
    have gi := endI_gt (hok _ (List.getElem_mem hi))
    have gk := endI_gt (hok _ (List.getElem_mem hk))
    rcases Nat.lt_or_gt_of_ne e with hlt | hlt
    · have := List.pairwise_iff_getElem.1 hp k i hk hi hlt
      unfold disj at this
      omega
    · have := List.pairwise_iff_getElem.1 hp i k hi hk hlt
      unfold disj at this
      omega
end Go.Proofs.YtenkeodfijladaaGreat

namespace Go.Proofs.YtenkeodfijladaaGreat
open Go.RowKit

theorem RdT.at2' {w : World} {b off n cap : Nat} {l : List It} (h : RdT w (.slice (some ⟨b, off, none⟩) n cap) l) {j : Nat} (hj : j < n) : w.cell? ⟨b, off + j * 4 + 2, none⟩ = some (.int .i64 (iat l j).off) := by
  obtain ⟨b', o', e, c0, c1, c2, c3⟩ := h.at hj
  injection e with e
  injection e with e1 e2
  subst e1 e2
  exact c2
set_option maxRecDepth 100000 in
set_option maxHeartbeats 8000000 in
theorem rends_any (v : Value) (l : List It) (size : Int) (w : World) (h : RdT w v l) (hok : ∀ x ∈ l, okP x) (hsm : l.length ≤ 1000000) :
    Calls Tryz.prog 143 #[v, .int .i64 size] w fun e w' => e = .returned (.bool (endsR l size)) ∧ Below w.heap.size w w' := by
  have HE := Lib.hid (endsR_iff l size)
  have HOk := Lib.hid (fun i (hi : i < l.length) => hok (iat l i) (iat_mem hi))
  generalize endsR l size = res at *
  clear hok
  obtain ⟨a, cap, rfl, h1, h2⟩ := h.shape
  have hm := lt63 h1 h2
  have Hr := Lib.hid h
  clear h
  generalize hn : l.length = n at *
  clear hn h1 h2
  go_enter Tryz.func143, Tryz.ntmps143
  go_wp2_with fail
  go_loopw [5] (fun iv W => ∃ i : Nat, iv = .int .i64 (i : Int) ∧ i ≤ n ∧ Hid (∀ j, j < i → endI (iat l j) ≤ size ∧ ∀ k, k < n → k ≠ j → ¬ ((iat l j).off ≤ (iat l k).off ∧ (iat l k).off < endI (iat l j))) ∧ Hid (Below w.heap.size w W)) (fun iv _ => n - (intOf iv).toNat)
  case atStart => exact ⟨0, rfl, Nat.zero_le _, Lib.hid (fun j hj => by omega), Lib.hid (Below.refl _ _)⟩
  case round =>
    obtain ⟨i, rfl, hi, HI, HB⟩ := hrel
    by_cases hlt : i < n
    · obtain ⟨b, off, rfl, c0, c1, c2, c3⟩ := (Hr.out.below HB.out).at hlt
      have hx := HOk.out i hlt
      have hsl : szN (iat l i).size.toNat ≤ 4127 := szN_le _
      have hx1 := hx.2.2.1
      have hz0 : ((iat l i).size.toNat : Int) = (iat l i).size := Int.toNat_of_nonneg hx.2.2.2.1
      have HZ := Lib.hid (fun W => rsizeB (iat l i).size.toNat W)
      rw [hz0] at HZ
      have hEnd := Lib.hid (show endI (iat l i) = (iat l i).off + (szN (iat l i).size.toNat : Int) from rfl)
      have i1 : (i : Int) < (n : Int) := by omega
      have hxo : 16 ≤ (iat l i).off ∧ (iat l i).off ≤ 1048576 := ⟨hx.1, hx.2.1⟩
      have HZ2 := Lib.hid (fun W => show Calls Tryz.prog 38 #[.int .i64 (iat l i).size] W fun e w' => e = .returned (.int .i64 (szN (iat l i).size.toNat : Int)) ∧ Below W.heap.size W w' from (HZ.out W).mono fun e w' hh => ⟨hh.1, hh.2 ▸ Below.refl _ _⟩)
      have y2 := cell_by c2
      have y3 := cell_by c3
      clear HZ hx
      generalize szN (iat l i).size.toNat = z at *
      go_wp2_with fail
      refine wp_region_below (by kernel_rfl) (by kernel_rfl) ?_
      repeat (go_big_quiet_step (exact calls_by (HZ2.out _)))
      refine wpQuiet_nil ?_
      intro w2 hw2
      obtain ⟨q, hw2⟩ := hw2
      subst hw2
      have HB2 := Lib.hid (bstep HB.out q.h)
      generalize q.w' = w2 at *
      clear q y2 y3 HZ2 c0 c1 c2 c3
      obtain ⟨en, hen⟩ : ∃ en : Int, (iat l i).off + (z : Int) = en := ⟨_, rfl⟩
      have hen0 : 16 ≤ en ∧ en ≤ 2097152 := by omega
      have HEn := Lib.hid (hEnd.out.trans hen)
      by_cases hsz : size < en
      · have e0 : decide (size < (iat l i).off + (z : Int)) = true := by rw [hen]; exact decide_eq_true hsz
        go_wp2_with fail
        go_ret
        refine ⟨ret_bool ?_, HB2.out⟩
        symm
        rw [← Bool.not_eq_true, HE.out]
        intro hh
        have := (hh i hlt).1
        rw [HEn.out] at this
        omega
      · have e0 : decide (size < (iat l i).off + (z : Int)) = false := by rw [hen]; exact decide_eq_false hsz
        rw [hen] at e0
        go_wp2_with fail
        clear e0
        have HEi := HEn
        go_loopw [7] (fun kv W => ∃ k : Nat, kv = .int .i64 (k : Int) ∧ k ≤ n ∧ Hid (∀ j, j < k → j ≠ i → ¬ ((iat l i).off ≤ (iat l j).off ∧ (iat l j).off < endI (iat l i))) ∧ Hid (Below w.heap.size w W)) (fun kv _ => n - (intOf kv).toNat)
        case atStart => exact ⟨0, rfl, Nat.zero_le _, Lib.hid (fun j hj => by omega), HB2⟩
        case round =>
          obtain ⟨k, rfl, hk, HK, HB3⟩ := hrel
          clear HB2
          by_cases hkn : k < n
          · have ci := (Hr.out.below HB3.out).at2' hlt
            have ck := (Hr.out.below HB3.out).at2' hkn
            have yi := cell_by ci
            have yk := cell_by ck
            have i2 : (k : Int) < (n : Int) := by omega
            clear ci ck
            by_cases hki : k = i
            · have e1 : ((k : Int) != (i : Int)) = false := by rw [hki]; simp
              have hki2 : ¬ k ≠ i := by omega
              have hle : k = i := hki
              clear hki
              go_wp2_with fail
              refine wp_region_below (by kernel_rfl) (by kernel_rfl) ?_
              repeat (go_big_quiet_step (fail))
              refine wpQuiet_nil ?_
              intro w4 hw4
              obtain ⟨q, hw4⟩ := hw4
              subst hw4
              have HB4 := Lib.hid (bstep HB3.out q.h)
              generalize q.w' = w4 at *
              clear q yi yk
              go_wp2_with fail
              go_roundw
              case rel => exact ⟨k + 1, by go_num, by omega, Lib.hid (fun j hj hne hc => by
                by_cases e : j = k
                · subst e
                  have h1 := hc.1
                  have h2 := hc.2
                  rw [HEn.out] at h2
                  omega
                · exact HK.out j (by omega) hne hc), HB4⟩
              case measure => simp [intOf]; omega
            · have e1 : ((k : Int) != (i : Int)) = true := bne_iff_ne.2 (by omega)
              by_cases hge : (iat l i).off ≤ (iat l k).off
              · have e2 : decide ((iat l i).off ≤ (iat l k).off) = true := decide_eq_true hge
                by_cases hlk : (iat l k).off < en
                · have e3 : decide ((iat l k).off < en) = true := decide_eq_true hlk
                  go_wp2_with fail
                  refine wp_region_below (by kernel_rfl) (by kernel_rfl) ?_
                  repeat (go_big_quiet_step (fail))
                  refine wpQuiet_nil ?_
                  intro w4 hw4
                  obtain ⟨q, hw4⟩ := hw4
                  subst hw4
                  have HB4 := Lib.hid (bstep HB3.out q.h)
                  generalize q.w' = w4 at *
                  clear q yi yk
                  go_wp2_with fail
                  go_ret
                  refine ⟨ret_bool ?_, HB4.out⟩
                  symm
                  rw [← Bool.not_eq_true, HE.out]
                  intro hh
                  exact (hh i hlt).2 k hkn hki ⟨hge, by rw [HEn.out]; exact hlk⟩
                · have e3 : decide ((iat l k).off < en) = false := decide_eq_false hlk
                  go_wp2_with fail
                  refine wp_region_below (by kernel_rfl) (by kernel_rfl) ?_
                  repeat (go_big_quiet_step (fail))
                  refine wpQuiet_nil ?_
                  intro w4 hw4
                  obtain ⟨q, hw4⟩ := hw4
                  subst hw4
                  have HB4 := Lib.hid (bstep HB3.out q.h)
                  generalize q.w' = w4 at *
                  clear q yi yk
                  go_wp2_with fail
                  go_roundw
                  case rel => exact ⟨k + 1, by go_num, by omega, Lib.hid (fun j hj hne hc => by
                    by_cases e : j = k
                    · subst e
                      have h1 := hc.1
                      have h2 := hc.2
                      rw [HEn.out] at h2
                      omega
                    · exact HK.out j (by omega) hne hc), HB4⟩
                  case measure => simp [intOf]; omega
              · have e2 : decide ((iat l i).off ≤ (iat l k).off) = false := decide_eq_false hge
                go_wp2_with fail
                refine wp_region_below (by kernel_rfl) (by kernel_rfl) ?_
                repeat (go_big_quiet_step (fail))
                refine wpQuiet_nil ?_
                intro w4 hw4
                obtain ⟨q, hw4⟩ := hw4
                subst hw4
                have HB4 := Lib.hid (bstep HB3.out q.h)
                generalize q.w' = w4 at *
                clear q yi yk
                go_wp2_with fail
                go_roundw
                case rel => exact ⟨k + 1, by go_num, by omega, Lib.hid (fun j hj hne hc => by
                  by_cases e : j = k
                  · subst e
                    have h1 := hc.1
                    have h2 := hc.2
                    rw [HEn.out] at h2
                    omega
                  · exact HK.out j (by omega) hne hc), HB4⟩
                case measure => simp [intOf]; omega
          · obtain rfl : k = n := by omega
            go_wp2_with fail
            go_roundw
            case rel => exact ⟨i + 1, by go_num, by omega, Lib.hid (fun j hj => by
              by_cases e : j = i
              · subst e
                exact ⟨by rw [HEn.out]; omega, fun k hk hne => HK.out k hk hne⟩
              · exact HI.out j (by omega)), HB3⟩
            case measure => simp [intOf]; omega
    · obtain rfl : i = n := by omega
      go_wp2_with fail
      go_ret
      refine ⟨ret_bool ?_, HB.out⟩
      symm
      rw [HE.out]
      exact HI.out
end Go.Proofs.YtenkeodfijladaaGreat

namespace Go.Proofs.YtenkeodfijladaaGreat
open Go Go.RowKit

section
variable {P : Program} {ops : Array Oper} {md : Region.Mode}

def dstOf (ops : Array Oper) (j : Nat) : Option Tmp := (ops[j]?).bind (·.dst)
/-- The frame behind the first n operations, f j being what number j yields. -/
def frm (ops : Array Oper) (a0 : Act) (f : Nat → Value) : Nat → Act
  | 0 => a0
  | n + 1 => (frm ops a0 f n).put (dstOf ops n) (f n)
def updF (f : Nat → Value) (i : Nat) (v : Value) : Nat → Value := fun j => if j = i then v else f j
theorem put_put (a : Act) (d : Option Tmp) (u v : Value) : (a.put d u).put d v = a.put d v := by
  cases d with
  | none => rfl
  | some d => simp [Act.put]
theorem put_comm (a : Act) (d e : Option Tmp) (u v : Value) (h : d = none ∨ d ≠ e) : (a.put d u).put e v = (a.put e v).put d u := by
  cases d with
  | none => rfl
  | some d =>
    cases e with
    | none => rfl
    | some e =>
      have hne : d ≠ e := by
        rcases h with h | h
        · cases h
        · exact fun e1 => h (by rw [e1])
      simp only [Act.put]
      rw [Array.setIfInBounds_comm _ _ hne]
theorem frm_same (ops : Array Oper) (a0 : Act) (f : Nat → Value) (i : Nat) (v : Value) : ∀ n, n ≤ i → frm ops a0 (updF f i v) n = frm ops a0 f n
  | 0, _ => rfl
  | n + 1, h => by
    show (frm ops a0 (updF f i v) n).put _ (updF f i v n) = _
    rw [frm_same ops a0 f i v n (by omega)]
    have : updF f i v n = f n := if_neg (by omega)
    rw [this]; rfl
theorem frm_put (ops : Array Oper) (a0 : Act) (f : Nat → Value) (i : Nat) (v : Value) : ∀ n, i < n → (∀ j, j < n → j ≠ i → dstOf ops i = none ∨ dstOf ops i ≠ dstOf ops j) → (frm ops a0 f n).put (dstOf ops i) v = frm ops a0 (updF f i v) n
  | 0, h, _ => by omega
  | n + 1, h, hd => by
    show ((frm ops a0 f n).put (dstOf ops n) (f n)).put (dstOf ops i) v = (frm ops a0 (updF f i v) n).put (dstOf ops n) (updF f i v n)
    by_cases e : i = n
    · subst e
      rw [put_put, frm_same ops a0 f i v i (Nat.le_refl _)]
      have : updF f i v i = v := if_pos rfl
      rw [this]
    · have h1 : dstOf ops n = none ∨ dstOf ops n ≠ dstOf ops i := by
        rcases hd n (by omega) (fun e1 => e e1.symm) with h | h
        · cases hn : dstOf ops n with
          | none => exact .inl rfl
          | some d => exact .inr (by rw [h]; simp)
        · exact .inr (Ne.symm h)
      rw [put_comm _ _ _ _ _ h1, frm_put ops a0 f i v n (by omega) fun j hj hji => hd j (by omega) hji]
      have : updF f i v n = f n := if_neg (by omega)
      rw [this]
theorem frm_id (ops : Array Oper) (a0 : Act) : ∀ n, frm ops a0 (fun j => match dstOf ops j with | some d => a0.tmps.getD d undef | none => undef) n = a0
  | 0 => rfl
  | n + 1 => by
    show (frm ops a0 _ n).put (dstOf ops n) _ = a0
    rw [frm_id ops a0 n]
    cases hd : dstOf ops n with
    | none => rfl
    | some d =>
      simp only [hd]
      obtain ⟨t, ds⟩ := a0
      simp only [Act.put]
      congr 1
      apply Array.ext_getElem?
      intro i
      by_cases e : d = i
      · subst e
        rw [Array.getElem?_setIfInBounds_self]
        split
        · rename_i h; simp [h]
        · rename_i h; rw [Array.getElem?_eq_none (by omega)]
      · rw [Array.getElem?_setIfInBounds_ne e]
def relB (md : Region.Mode) (ops : Array Oper) (n : Nat) : Bool :=
  decide (n < ops.size) && Region.sinkB md ops n && Region.chainB md ops n &&
  ((List.range n).all fun i => ((ops[i]?).map fun o => o.dst.isSome && o.after.all fun e => !Region.binds md e || decide (e.on < i)).getD false) &&
  ((List.range n).all fun i => (List.range n).all fun j => decide (i = j) || decide (dstOf ops i ≠ dstOf ops j)) &&
  Region.seqB md ops (ops.size - n) n ((List.range ops.size).map fun j => decide (j < n)).toArray

variable {Q : Exit → Act → World → Prop}
def blk : Value → Nat
  | .pointer (some a) => a.block
  | _ => 0
/-- What an operation may leave. -/
def RelPost (B0 : Value → World → Prop) (F : Prop) (ds : List Deferred) (d : Option Tmp) (w : World) (a' : Act) (w' : World) : Prop :=
  a'.defers = ds ∧ Below w.heap.size w w' ∧ ∀ t, d = some t → B0 (a'.tmps.getD t undef) w' ∧ (F → w.heap.size ≤ blk (a'.tmps.getD t undef) ∧ blk (a'.tmps.getD t undef) < w'.heap.size)
theorem rel_one {o : Oper} {a : Act} {w : World} {R : Act → World → Prop} (h : wpList P ops (Exit.then R Q) [o] a w) {K : Act → World → Prop}
    (hK : ∀ v w', R (a.put o.dst v) w' → K (a.put o.dst v) w') (hD : ∀ d v w', R ({ a with defers := d :: a.defers }.put o.dst v) w' → False) :
    if Region.wanted o (yielded ops a.tmps) then o.wp P a w K Q ∨ (o.asks P a w ∧ LetsOut Q) else K (a.put o.dst undef) w := by
  unfold wpList at h
  split at h
  · rename_i hw
    rw [if_pos hw]
    rcases h with h | ⟨h1, h2⟩
    · left
      unfold Oper.wp at h ⊢
      generalize (execOp a.eval o).run P w = r at *
      cases r with
      | ok nx w' =>
        cases nx with
        | value v => exact hK _ _ h
        | skip => exact hK _ _ h
        | defer d => exact absurd h (hD _ _ _)
        | enter f args =>
          refine Calls.mono h fun e w'' he => ?_
          cases e with
          | returned v => exact hK _ _ he
          | panicked c => exact he
          | outgrown => exact he
        | row r args => exact Rows.mono h fun v w'' he => hK _ _ he
        | _ => exact h
      | halt x w' => cases x <;> first | exact h | exact False.elim h
    · exact .inr ⟨h1, h2⟩
  · rename_i hw
    rw [if_neg hw]
    exact hK _ _ h
theorem least_of {T : List Nat} (h : T ≠ []) : ∃ m, m ∈ T ∧ ∀ k ∈ T, m ≤ k := by
  induction T with
  | nil => exact absurd rfl h
  | cons x r ih =>
    by_cases hr : r = []
    · subst hr; exact ⟨x, by simp, fun k hk => by simp at hk; omega⟩
    · obtain ⟨m, hm, hle⟩ := ih hr
      by_cases hx : x ≤ m
      · exact ⟨x, by simp, fun k hk => by
          rcases List.mem_cons.1 hk with rfl | hk
          · exact Nat.le_refl _
          · exact Nat.le_trans hx (hle k hk)⟩
      · exact ⟨m, by simp [hm], fun k hk => by
          rcases List.mem_cons.1 hk with rfl | hk
          · omega
          · exact hle k hk⟩
theorem frm_size (ops : Array Oper) (a0 : Act) (f : Nat → Value) : ∀ n, (frm ops a0 f n).tmps.size = a0.tmps.size
  | 0 => rfl
  | n + 1 => by
    show ((frm ops a0 f n).put (dstOf ops n) (f n)).tmps.size = _
    rw [← frm_size ops a0 f n]
    cases dstOf ops n <;> simp [Act.put]
theorem rel_any {n : Nat} {a0 : Act} {w0 : World} {Φ : Nat → Value → World → Prop} {F : Nat → Prop} {l : List Oper} (hl : ops = l.toArray) (hB : relB md ops n = true) (hN : ∀ i, i < n → ∀ t, dstOf ops i = some t → t < a0.tmps.size)
    (mono : ∀ j, j < n → ∀ v w1 w2, Below w1.heap.size w1 w2 → Φ j v w1 → Φ j v w2)
    (head : ∀ i o, i < n → ops[i]? = some o → ∀ f w1, Below w0.heap.size w0 w1 → (∀ e ∈ o.after, Region.binds md e = true → Φ e.on (f e.on) w1) →
      wpList P ops (Exit.then (RelPost (Φ i) (F i) (frm ops a0 f n).defers o.dst w1) Q) [o] (frm ops a0 f n) w1)
    (tail : ∀ f w1, Below w0.heap.size w0 w1 → (∀ j, j < n → Φ j (f j) w1) → (∀ j k, j < n → k < n → j ≠ k → F j → F k → blk (f j) ≠ blk (f k)) → wpList P ops Q (l.drop n) (frm ops a0 f n) w1) :
    ∀ (fuel : Nat) (T : List Nat) (s : Array Bool) (f : Nat → Value) (w : World), T.Nodup → T.length = fuel → (∀ j, j < n → (s.getD j false = false ↔ j ∈ T)) → (∀ j ∈ T, j < n) → HeadInv md ops n s → Below w0.heap.size w0 w →
      (∀ j, j < n → s.getD j false = true → Φ j (f j) w) → (∀ j, j < n → s.getD j false = true → F j → blk (f j) < w.heap.size) →
      (∀ j k, j < n → k < n → j ≠ k → s.getD j false = true → s.getD k false = true → F j → F k → blk (f j) ≠ blk (f k)) → wpAny P md ops Q (fuel + (ops.size - n)) s (frm ops a0 f n) w := by
  simp only [relB, Bool.and_eq_true, decide_eq_true_eq] at hB
  obtain ⟨⟨⟨⟨⟨hn, hs⟩, hc⟩, hfw⟩, hdd⟩, hsq⟩ := hB
  have hfw' : ∀ i o, i < n → ops[i]? = some o → o.dst.isSome = true ∧ ∀ e ∈ o.after, Region.binds md e = true → e.on < i := fun i o hi ho => by
    have := List.all_eq_true.1 hfw i (List.mem_range.2 hi)
    rw [ho] at this
    simp only [Option.map_some, Option.getD_some, Bool.and_eq_true] at this
    refine ⟨this.1, fun e he hb => ?_⟩
    have h2 := Array.all_eq_true_iff_forall_mem.1 this.2 e he
    rw [hb] at h2
    simpa using h2
  have hdd' : ∀ i j, i < n → j < n → i ≠ j → dstOf ops i ≠ dstOf ops j := fun i j hi hj hij => by
    have := List.all_eq_true.1 (List.all_eq_true.1 hdd i (List.mem_range.2 hi)) j (List.mem_range.2 hj)
    simpa [hij] using this
  intro fuel
  induction fuel with
  | zero =>
    intro T s f w hT hlen hsT hTn inv hb hΦ hF hFF
    have hT0 : T = [] := List.length_eq_zero_iff.1 hlen
    subst hT0
    have hall : ∀ j, j < n → s.getD j false = true := fun j hj => by
      cases h : s.getD j false with
      | true => rfl
      | false => exact absurd ((hsT j hj).1 h) (by simp)
    have hse : s = ((List.range ops.size).map fun j => decide (j < n)).toArray := by
      apply Array.ext
      · simp [inv.size]
      · intro j h1 h2
        have hjs : j < ops.size := by rw [← inv.size]; exact h1
        simp only [List.getElem_toArray, List.getElem_map, List.getElem_range]
        by_cases e : j < n
        · have := hall j e
          rw [Array.getD_eq_getD_getElem?, Array.getElem?_eq_getElem h1] at this
          simp only [Option.getD_some] at this
          rw [this]; simp [e]
        · have := inv.tail j (by omega) hjs
          rw [Array.getD_eq_getD_getElem?, Array.getElem?_eq_getElem h1] at this
          simp only [Option.getD_some] at this
          rw [this]; simp [e]
    rw [Nat.zero_add]
    have hdl : (l.drop n).length = ops.size - n := by rw [hl]; simp
    have h3 := wpAny_of_seq (P := P) (md := md) (ops := ops) (Q' := Q) (l.drop n) n s (frm ops a0 f n) w (fun j => by rw [hl]; simp [List.getElem?_drop]) (by rw [hdl, hse]; exact hsq) (tail f w hb (fun j hj => hΦ j hj (hall j hj)) fun j k hj hk hjk => hFF j k hj hk hjk (hall j hj) (hall k hk))
    rwa [hdl] at h3
  | succ fuel ih =>
    intro T s f w hT hlen hsT hTn inv hb hΦ hF hFF
    have hTne : T ≠ [] := fun e => by rw [e] at hlen; cases hlen
    obtain ⟨m, hm, hle⟩ := least_of hTne
    have hmn := hTn m hm
    have hun : s.getD m false = false := (hsT m hmn).2 hm
    have hms : m < s.size := by rw [inv.size]; omega
    obtain ⟨om, hom⟩ : ∃ o, ops[m]? = some o := ⟨_, Array.getElem?_eq_getElem (by omega)⟩
    have hready : m ∈ Region.ready md ops s := mem_ready.2 ⟨getD_in hms hun, om, hom, fun e he hbnd => by
      have h1 := (hfw' m om hmn hom).2 e he hbnd
      cases h2 : s.getD e.on false with
      | true => rfl
      | false =>
        have := hle _ ((hsT e.on (by omega)).1 h2)
        omega⟩
    rw [show fuel + 1 + (ops.size - n) = (fuel + (ops.size - n)) + 1 by omega]
    refine ⟨fun e => absurd hready (by rw [e]; simp), fun i hi => ?_⟩
    obtain ⟨hiu, oi, hoi, hdeps⟩ := mem_ready.1 hi
    have hin : i < n := Nat.lt_of_not_le fun h => tail_waits hs hc hn inv _ m rfl hmn (getD_in hms hun) i h hi
    have hiT : i ∈ T := (hsT i hin).1 (getD_both hiu)
    have hfi := hfw' i oi hin hoi
    have hdo : dstOf ops i = oi.dst := by unfold dstOf; rw [hoi]; rfl
    unfold wpOp
    rw [hoi]
    simp only []
    have hh := head i oi hin hoi f w hb fun e he hbnd => hΦ e.on (by have := hfi.2 e he hbnd; omega) (hdeps e he hbnd)
    refine rel_one hh (fun v w' hR => ?_) (fun d v w' hR => ?_)
    · obtain ⟨_, hbw, hv⟩ := hR
      have hval : ∀ i, i < n → oi.dst.isSome = true → dstOf ops i = oi.dst → (∀ t, oi.dst = some t → Φ i (((frm ops a0 f n).put oi.dst v).tmps.getD t undef) w' ∧ (F i → w.heap.size ≤ blk (((frm ops a0 f n).put oi.dst v).tmps.getD t undef) ∧ blk (((frm ops a0 f n).put oi.dst v).tmps.getD t undef) < w'.heap.size)) → Φ i v w' ∧ (F i → w.heap.size ≤ blk v ∧ blk v < w'.heap.size) := fun i hi h1 hdo h => by
        obtain ⟨t, ht⟩ := Option.isSome_iff_exists.1 h1
        have h4 := h t ht
        have h5 : t < (frm ops a0 f n).tmps.size := by rw [frm_size]; exact hN i hi t (by rw [hdo, ht])
        rw [ht] at h4
        simpa [Act.put, h5] using h4
      rw [← hdo, frm_put ops a0 f i v n hin fun j hj hji => .inr (hdd' i j hin hj (Ne.symm hji))]
      refine ih (T.erase i) _ _ w' (hT.erase i) (by rw [List.length_erase_of_mem hiT]; omega) (fun j hj => ?_) (fun j hj => hTn j (List.mem_of_mem_erase hj)) (inv.set hi hin) (bstep hb hbw) (fun j hj hjs => ?_) (fun j hj hjs hFj => ?_) (fun j k hj hk hjk hjs hks hFj hFk => ?_)
      · rw [hT.mem_erase_iff]
        by_cases e : j = i
        · subst e
          have hjs : j < s.size := by rw [inv.size]; omega
          simp [Array.getD_eq_getD_getElem?, hjs]
        · rw [getD_set_ne false (Ne.symm e), hsT j hj]
          simp [e]
      · by_cases e : j = i
        · subst e
          have : updF f j v j = v := if_pos rfl
          rw [this]
          exact (hval j hj hfi.1 hdo hv).1
        · have : updF f i v j = f j := if_neg e
          rw [this]
          rw [getD_set_ne false (Ne.symm e)] at hjs
          exact mono j hj _ _ _ hbw (hΦ j hj hjs)
      · by_cases e : j = i
        · subst e
          have : updF f j v j = v := if_pos rfl
          rw [this]
          exact ((hval j hj hfi.1 hdo hv).2 hFj).2
        · have : updF f i v j = f j := if_neg e
          rw [this]
          rw [getD_set_ne false (Ne.symm e)] at hjs
          exact Nat.lt_of_lt_of_le (hF j hj hjs hFj) hbw.size
      · by_cases e : j = i
        · subst e
          have e1 : updF f j v j = v := if_pos rfl
          have e2 : updF f j v k = f k := if_neg (Ne.symm hjk)
          rw [e1, e2]
          rw [getD_set_ne false hjk] at hks
          have h1 := ((hval j hj hfi.1 hdo hv).2 hFj).1
          have h2 := hF k hk hks hFk
          omega
        · have e1 : updF f i v j = f j := if_neg e
          rw [e1]
          rw [getD_set_ne false (Ne.symm e)] at hjs
          by_cases e3 : k = i
          · subst e3
            have e2 : updF f k v k = v := if_pos rfl
            rw [e2]
            have h1 := ((hval k hk hfi.1 hdo hv).2 hFk).1
            have h2 := hF j hj hjs hFj
            omega
          · have e2 : updF f i v k = f k := if_neg e3
            rw [e2]
            rw [getD_set_ne false (Ne.symm e3)] at hks
            exact hFF j k hj hk hjk hjs hks hFj hFk
    · have h1 := hR.1
      have h2 := congrArg List.length h1
      cases hod : oi.dst <;> simp [Act.put, hod] at h2
/-- A property of a value that lasts while memory only grows. -/
structure Sta where
  p : Value → World → Prop
  m : ∀ v w w', Below w.heap.size w w' → p v w → p v w'
instance : Inhabited Sta := ⟨⟨fun _ _ => True, fun _ _ _ _ _ => trivial⟩⟩
def eqS (x : Value) : Sta := ⟨fun v _ => v = x, fun _ _ _ _ h => h⟩
def depB (o : Oper) (j : Nat) : Bool := o.after.any fun e => Region.binds .any e && e.on == j
def stA (L : List Sta) (j : Nat) : Sta := L.getD j default
def dstLtB (ops : Array Oper) (n N : Nat) : Bool := (List.range n).all fun i => ((dstOf ops i).map fun t => decide (t < N)).getD true
/-- Each operation in turn leaves what is said of it, in each world and whatever the others have done, if those that it waits for have left what is said of them. -/
def HeadL (P : Program) (Q : Exit → Act → World → Prop) (ops : Array Oper) (L : List Sta) (F : List Nat) (fr : (Nat → Value) → Act) (w : World) : List Oper → List Sta → Nat → Prop
  | o :: r, S :: R, i => (∀ f w1, Below w.heap.size w w1 → (∀ j, depB o j = true → (stA L j).p (f j) w1) → wpList P ops (Exit.then (RelPost S.p (i ∈ F) (fr f).defers o.dst w1) Q) [o] (fr f) w1) ∧ HeadL P Q ops L F fr w r R (i + 1)
  | _, _, _ => True
theorem headL_at {ops : Array Oper} {L : List Sta} {F : List Nat} {fr : (Nat → Value) → Act} {w : World} : ∀ (l : List Oper) (R : List Sta) (k : Nat), HeadL P Q ops L F fr w l R k →
    ∀ i o S, l[i]? = some o → R[i]? = some S → ∀ f w1, Below w.heap.size w w1 → (∀ j, depB o j = true → (stA L j).p (f j) w1) → wpList P ops (Exit.then (RelPost S.p (k + i ∈ F) (fr f).defers o.dst w1) Q) [o] (fr f) w1
  | [], _, _, _, i, o, S, ho, _ => by simp at ho
  | o :: r, [], _, _, i, _, S, _, hS => by simp at hS
  | o :: r, S :: R, k, h, 0, o', S', ho, hS => by
    simp at ho hS
    subst ho hS
    exact h.1
  | o :: r, S :: R, k, h, i + 1, o', S', ho, hS => by
    have := headL_at r R (k + 1) h.2 i o' S' (by simpa using ho) (by simpa using hS)
    rwa [show k + 1 + i = k + (i + 1) by omega] at this
theorem wp_region_rel {id : Nat} {a0 : Act} {w : World} {l : List Oper} (L : List Sta) (F : List Nat) (N : Nat) (hm : P.follows .mixedOrders = true) (hB : relB .any l.toArray L.length = true)
    (hsz : a0.tmps.size = N) (hN : dstLtB l.toArray L.length N = true) {fr : (Nat → Value) → Act} (hfr : ∀ f, frm l.toArray a0 f L.length = fr f)
    (head : HeadL P Q l.toArray L F fr w l L 0)
    (tail : ∀ f w1, Below w.heap.size w w1 → (∀ j, j < L.length → (stA L j).p (f j) w1) → (∀ j k, j < L.length → k < L.length → j ≠ k → j ∈ F → k ∈ F → blk (f j) ≠ blk (f k)) → wpList P l.toArray Q (l.drop L.length) (fr f) w1) : (Code.region id l.toArray true).wp P Q a0 w := by
  have hn : L.length < l.toArray.size := by
    simp only [relB, Bool.and_eq_true, decide_eq_true_eq] at hB
    exact hB.1.1.1.1.1
  refine wp_region_any hm ?_
  have h := rel_any (md := .any) (Q := Q) (P := P) (n := L.length) (a0 := a0) (w0 := w) (Φ := fun j => (stA L j).p) (F := fun j => j ∈ F) rfl hB
    (fun i hi t ht => by
      have h1 := List.all_eq_true.1 hN i (List.mem_range.2 hi)
      rw [ht] at h1
      rw [hsz]
      simpa using h1)
    (fun j _ v w1 w2 hb h => (stA L j).m v w1 w2 hb h)
    (fun i o hi ho f w1 hb hd => by
      rw [hfr]
      have hS : L[i]? = some (stA L i) := by
        unfold stA
        rw [List.getD_eq_getElem?_getD, List.getElem?_eq_getElem hi]; rfl
      have h2 := headL_at l L 0 head i o (stA L i) (by simpa using ho) hS f w1 hb (fun j hj => by
        unfold depB at hj
        obtain ⟨e, he, h3⟩ := Array.any_eq_true'.1 hj
        simp only [Bool.and_eq_true, beq_iff_eq] at h3
        rw [← h3.2]
        exact hd e he h3.1)
      rwa [Nat.zero_add] at h2)
    (fun f w1 hb hΦ hFF => by rw [hfr]; exact tail f w1 hb hΦ hFF)
    L.length (List.range L.length) (Array.replicate l.toArray.size false) (fun j => match dstOf l.toArray j with | some d => a0.tmps.getD d undef | none => undef) w.drew
    List.nodup_range (by simp) (fun j hj => by rw [getD_replicate_false]; simp [hj]) (fun j hj => by simpa using hj)
    ⟨by simp, fun j oj _ hl => (by rw [getD_replicate_false] at hl; cases hl), fun t _ ht => getD_in (by simpa using ht) (getD_replicate_false _ _)⟩
    (below_drew (Below.refl _ _)) (fun j _ hl => by rw [getD_replicate_false] at hl; cases hl) (fun j _ hl => by rw [getD_replicate_false] at hl; cases hl) (fun j k _ _ _ hl => by rw [getD_replicate_false] at hl; cases hl)
  rw [frm_id, show L.length + (l.toArray.size - L.length) = l.toArray.size by omega] at h
  exact h
end
end Go.Proofs.YtenkeodfijladaaGreat

namespace Go.Proofs.YtenkeodfijladaaGreat
open Go.RowKit

def rdS (l : List It) : Sta := ⟨fun v w => ∃ u, v = u ∧ RdT w u l, fun _ _ _ hb ⟨u, h1, h2⟩ => ⟨u, h1, h2.below hb⟩⟩
set_option maxRecDepth 100000 in
set_option maxHeartbeats 8000000 in
theorem rgvalid_any (g : Gn) (s : Sl) (w : World) (h : RdM w s g.m.st) (hs : ∀ i, i < 8 → (g.m.st i).length ≤ 10000) :
    Calls Tryz.prog 94 #[genV g.num g.rev g.mode g.size s g.m.live g.m.garb] w fun e w' => e = .returned (.bool (vldG g)) ∧ Below w.heap.size w w' := by
  have HV := Lib.hid (fun W (hb : Below w.heap.size w W) => rvalidM_any s g.m W (h.below hb) (fun i hi => Nat.le_trans (hs i hi) (by decide)))
  have HI := Lib.hid (fun W (hb : Below w.heap.size w W) => ritemsM_any s g.m W (h.below hb) hs)
  have HNo := Lib.hid (fun h => vldG_not (g := g) h)
  have hIl : (itemsM g.m).length ≤ 1000000 := Nat.le_trans (itemsM_len hs) (by decide)
  have HM := Lib.hid (show vldM g.m = true → (∀ x ∈ itemsM g.m, okP x) ∧ 0 ≤ g.m.live ∧ g.m.live ≤ 400000000 from fun hv =>
    ⟨itemsM_ok ((vldM_iff g.m).1 hv), (live_small ((vldM_iff g.m).1 hv) hs).2⟩)
  have HYes := Lib.hid (vldG_iff g)
  have HEn := Lib.hid (fun W v (hr : RdT W v (itemsM g.m)) (hok : ∀ x ∈ itemsM g.m, okP x) => rends_any v (itemsM g.m) g.size W hr hok hIl)
  have HER := Lib.hid (fun (hok : ∀ x ∈ itemsM g.m, okP x) => endsR_eq hok g.size)
  have HBx := Lib.hid (BoxG.new w g.num g.rev g.mode g.size s g.m.live g.m.garb 124)
  have HB0 := Lib.hid (below_gen w g.num g.rev g.mode g.size s g.m.live g.m.garb 124)
  clear h hs hIl
  generalize hres : vldG g = res at *
  by_cases hA : 1 ≤ g.num ∧ g.num ≤ 8 ∧ 0 ≤ g.rev ∧ g.rev ≤ 4294967295 ∧ 1 ≤ g.mode ∧ g.mode ≤ 3
  · obtain ⟨hA1, hA2, hA3, hA4, hA5, hA6⟩ := hA
    have HNs := Lib.hid (fun (hn : ¬ (16 ≤ g.size ∧ g.size ≤ 1048576 ∧ g.size % 8 = 0)) => HNo.out fun h => hn h.size)
    have HNm := Lib.hid (fun (hn : vldM g.m = false) => HNo.out fun h => by rw [h.m] at hn; cases hn)
    have HFin := Lib.hid (show 16 ≤ g.size ∧ g.size ≤ 1048576 ∧ g.size % 8 = 0 → vldM g.m = true → res = (endsB (itemsM g.m) g.size && (g.size - 16 - g.m.live == g.m.garb)) from fun hB hv => by
      rw [Bool.eq_iff_iff, ← hres, vldG_iff, Bool.and_eq_true, beq_iff_eq]
      exact ⟨fun h => ⟨h.ends, by have := h.sum; omega⟩, fun h => ⟨⟨hA1, hA2⟩, ⟨hA3, hA4⟩, ⟨hA5, hA6⟩, hB, hv, h.1, by have := h.2; omega⟩⟩)
    clear HNo HYes hres
    generalize vldM g.m = vb at *
    generalize itemsM g.m = I at *
    obtain ⟨a, b, c, d, f, L, G⟩ := g
    dsimp only at *
    generalize endsR I d = er at *
    generalize endsB I d = eb at *
    go_enter Tryz.func94, Tryz.ntmps94
    go_upto_region 1 with fail
    obtain ⟨W, hW⟩ : ∃ W, w.alloc (.cells (genC a b c d s L G) 124) = W := ⟨_, rfl⟩
    change Code.wp _ _ _ _ (w.alloc (.cells (genC a b c d s L G) 124))
    rw [hW] at HBx HB0 ⊢
    clear hW
    have hlw := HBx.out.lt
    have x0 := HBx.out.n0
    have x1 := HBx.out.n1
    have x2 := HBx.out.n2
    have x3 := HBx.out.n3
    have x4 := HBx.out.c0
    have x5 := HBx.out.c1
    have x6 := HBx.out.c2
    have x7 := HBx.out.c3
    have x8 := HBx.out.c4
    have x9 := HBx.out.c5
    have x10 := HBx.out.c6
    have x11 := HBx.out.c7
    have x12 := HBx.out.cl
    have x13 := HBx.out.cg
    by_cases hB : 16 ≤ d ∧ d ≤ 1048576 ∧ d % 8 = 0
    · obtain ⟨hd1, hd2, hd3⟩ := hB
      have hdm : d.tmod 8 = 0 := by rw [Int.tmod_eq_emod_of_nonneg (by omega)]; exact hd3
      have e1 : decide (d < 16) = false := by simp; omega
      have e2 : decide (1048576 < d) = false := by simp; omega
      cases vb
      · have HF := Lib.hid (HNm.out rfl)
        have y3 := cell_by HBx.out.n3
        have y4 := cell_by HBx.out.c0
        have y5 := cell_by HBx.out.c1
        have y6 := cell_by HBx.out.c2
        have y7 := cell_by HBx.out.c3
        have y8 := cell_by HBx.out.c4
        have y9 := cell_by HBx.out.c5
        have y10 := cell_by HBx.out.c6
        have y11 := cell_by HBx.out.c7
        have y12 := cell_by HBx.out.cl
        have y13 := cell_by HBx.out.cg
        have HVx := Lib.hid (fun W (hb : Below W.heap.size W W) => HV.out)
        clear HVx
        go_wp2_with fail
        refine wp_region_below (by kernel_rfl) (by kernel_rfl) ?_
        repeat (go_big_quiet_step (exact calls_by (HV.out _ (bstep HB0.out (BelowBy.h _)))))
        refine wpQuiet_nil ?_
        intro w4 hw4
        obtain ⟨q, hw4⟩ := hw4
        subst hw4
        have HB4 := Lib.hid (bstep HB0.out q.h)
        go_wp2_with fail
        go_ret
        exact ⟨ret_bool HF.out.symm, HB4.out⟩
      · obtain ⟨hok, hL1, hL2⟩ := HM.out rfl
        have HR := Lib.hid (HER.out hok)
        have HF := Lib.hid (HFin.out ⟨hd1, hd2, hd3⟩ rfl)
        clear HNs HNm HFin HM HER
        go_wp2_with fail
        clear x0 x1 x2 x3 x4 x5 x6 x7 x8 x9 x10 x11 x12 x13
        refine wp_region_rel [eqS (.pointer (some ⟨w.heap.size, 3, none⟩)), eqS (.int .i64 d), eqS (.bool false), eqS (.bool false), eqS (.pointer (some ⟨w.heap.size, 3, none⟩)), eqS (.int .i64 d), eqS (.bool false), eqS (.bool false), eqS (.bool false), eqS (.pointer (some ⟨w.heap.size, 3, none⟩)), eqS (.int .i64 d), eqS (.int .i64 0), eqS (.bool false), eqS (.bool false), eqS (.bool false), eqS (.pointer (some ⟨w.heap.size, 4, none⟩)), eqS (mapV s L G), eqS (.bool true), eqS (.bool false), eqS (.bool false), eqS (.bool false), eqS (.pointer (some ⟨w.heap.size, 4, none⟩)), eqS (mapV s L G), rdS I, eqS (.pointer (some ⟨w.heap.size, 3, none⟩)), eqS (.int .i64 d), eqS (.bool er), eqS (.bool (!er))] [] 71 (by kernel_rfl) (by kernel_rfl) (by rfl) (by kernel_rfl) (fun f => by simp [frm, dstOf, Act.put]; exact rfl) ?_ ?_
        · refine ⟨?_, ?_, ?_, ?_, ?_, ?_, ?_, ?_, ?_, ?_, ?_, ?_, ?_, ?_, ?_, ?_, ?_, ?_, ?_, ?_, ?_, ?_, ?_, ?_, ?_, ?_, ?_, ?_, trivial⟩
          · intro f w1 hb hd
            clear hd
            dsimp only
            go_wp2_with fail
            exact ⟨rfl, Below.refl _ _, fun t ht => by injection ht with ht; subst ht; exact ⟨rfl, fun h => by simp at h⟩⟩
          · intro f w1 hb hd
            have d0 : f 0 = (.pointer (some ⟨w.heap.size, 3, none⟩)) := hd 0 (by kernel_rfl)
            clear hd
            dsimp only
            rw [d0]
            have hx := HBx.out.below hb
            have x3 := hx.n3
            clear hx
            go_wp2_with fail
            exact ⟨rfl, Below.refl _ _, fun t ht => by injection ht with ht; subst ht; exact ⟨rfl, fun h => by simp at h⟩⟩
          · intro f w1 hb hd
            have d1 : f 1 = (.int .i64 d) := hd 1 (by kernel_rfl)
            clear hd
            dsimp only
            rw [d1]
            go_wp2_with fail
            exact ⟨rfl, Below.refl _ _, fun t ht => by injection ht with ht; subst ht; exact ⟨rfl, fun h => by simp at h⟩⟩
          · intro f w1 hb hd
            have d2 : f 2 = (.bool false) := hd 2 (by kernel_rfl)
            clear hd
            dsimp only
            rw [d2]
            go_wp2_with fail
            exact ⟨rfl, Below.refl _ _, fun t ht => by injection ht with ht; subst ht; exact ⟨rfl, fun h => by simp at h⟩⟩
          · intro f w1 hb hd
            have d3 : f 3 = (.bool false) := hd 3 (by kernel_rfl)
            clear hd
            dsimp only
            rw [d3]
            go_wp2_with fail
            exact ⟨rfl, Below.refl _ _, fun t ht => by injection ht with ht; subst ht; exact ⟨rfl, fun h => by simp at h⟩⟩
          · intro f w1 hb hd
            have d3 : f 3 = (.bool false) := hd 3 (by kernel_rfl)
            have d4 : f 4 = (.pointer (some ⟨w.heap.size, 3, none⟩)) := hd 4 (by kernel_rfl)
            clear hd
            dsimp only
            rw [d3]
            rw [d4]
            have hx := HBx.out.below hb
            have x3 := hx.n3
            clear hx
            go_wp2_with fail
            exact ⟨rfl, Below.refl _ _, fun t ht => by injection ht with ht; subst ht; exact ⟨rfl, fun h => by simp at h⟩⟩
          · intro f w1 hb hd
            have d3 : f 3 = (.bool false) := hd 3 (by kernel_rfl)
            have d5 : f 5 = (.int .i64 d) := hd 5 (by kernel_rfl)
            clear hd
            dsimp only
            rw [d3]
            rw [d5]
            go_wp2_with fail
            exact ⟨rfl, Below.refl _ _, fun t ht => by injection ht with ht; subst ht; exact ⟨rfl, fun h => by simp at h⟩⟩
          · intro f w1 hb hd
            have d3 : f 3 = (.bool false) := hd 3 (by kernel_rfl)
            have d6 : f 6 = (.bool false) := hd 6 (by kernel_rfl)
            clear hd
            dsimp only
            rw [d3]
            rw [d6]
            go_wp2_with fail
            exact ⟨rfl, Below.refl _ _, fun t ht => by injection ht with ht; subst ht; exact ⟨rfl, fun h => by simp at h⟩⟩
          · intro f w1 hb hd
            have d7 : f 7 = (.bool false) := hd 7 (by kernel_rfl)
            clear hd
            dsimp only
            rw [d7]
            go_wp2_with fail
            exact ⟨rfl, Below.refl _ _, fun t ht => by injection ht with ht; subst ht; exact ⟨rfl, fun h => by simp at h⟩⟩
          · intro f w1 hb hd
            have d8 : f 8 = (.bool false) := hd 8 (by kernel_rfl)
            clear hd
            dsimp only
            rw [d8]
            go_wp2_with fail
            exact ⟨rfl, Below.refl _ _, fun t ht => by injection ht with ht; subst ht; exact ⟨rfl, fun h => by simp at h⟩⟩
          · intro f w1 hb hd
            have d8 : f 8 = (.bool false) := hd 8 (by kernel_rfl)
            have d9 : f 9 = (.pointer (some ⟨w.heap.size, 3, none⟩)) := hd 9 (by kernel_rfl)
            clear hd
            dsimp only
            rw [d8]
            rw [d9]
            have hx := HBx.out.below hb
            have x3 := hx.n3
            clear hx
            go_wp2_with fail
            exact ⟨rfl, Below.refl _ _, fun t ht => by injection ht with ht; subst ht; exact ⟨rfl, fun h => by simp at h⟩⟩
          · intro f w1 hb hd
            have d8 : f 8 = (.bool false) := hd 8 (by kernel_rfl)
            have d10 : f 10 = (.int .i64 d) := hd 10 (by kernel_rfl)
            clear hd
            dsimp only
            rw [d8]
            rw [d10]
            go_wp2_with fail
            exact ⟨rfl, Below.refl _ _, fun t ht => by injection ht with ht; subst ht; exact ⟨rfl, fun h => by simp at h⟩⟩
          · intro f w1 hb hd
            have d8 : f 8 = (.bool false) := hd 8 (by kernel_rfl)
            have d11 : f 11 = (.int .i64 0) := hd 11 (by kernel_rfl)
            clear hd
            dsimp only
            rw [d8]
            rw [d11]
            go_wp2_with fail
            exact ⟨rfl, Below.refl _ _, fun t ht => by injection ht with ht; subst ht; exact ⟨rfl, fun h => by simp at h⟩⟩
          · intro f w1 hb hd
            have d8 : f 8 = (.bool false) := hd 8 (by kernel_rfl)
            have d12 : f 12 = (.bool false) := hd 12 (by kernel_rfl)
            clear hd
            dsimp only
            rw [d8]
            rw [d12]
            go_wp2_with fail
            exact ⟨rfl, Below.refl _ _, fun t ht => by injection ht with ht; subst ht; exact ⟨rfl, fun h => by simp at h⟩⟩
          · intro f w1 hb hd
            have d13 : f 13 = (.bool false) := hd 13 (by kernel_rfl)
            clear hd
            dsimp only
            rw [d13]
            go_wp2_with fail
            exact ⟨rfl, Below.refl _ _, fun t ht => by injection ht with ht; subst ht; exact ⟨rfl, fun h => by simp at h⟩⟩
          · intro f w1 hb hd
            have d14 : f 14 = (.bool false) := hd 14 (by kernel_rfl)
            clear hd
            dsimp only
            rw [d14]
            go_wp2_with fail
            exact ⟨rfl, Below.refl _ _, fun t ht => by injection ht with ht; subst ht; exact ⟨rfl, fun h => by simp at h⟩⟩
          · intro f w1 hb hd
            have d14 : f 14 = (.bool false) := hd 14 (by kernel_rfl)
            have d15 : f 15 = (.pointer (some ⟨w.heap.size, 4, none⟩)) := hd 15 (by kernel_rfl)
            clear hd
            dsimp only
            rw [d14]
            rw [d15]
            have hx := HBx.out.below hb
            have m4 := hx.c0
            have m5 := hx.c1
            have m6 := hx.c2
            have m7 := hx.c3
            have m8 := hx.c4
            have m9 := hx.c5
            have m10 := hx.c6
            have m11 := hx.c7
            have m12 := hx.cl
            have m13 := hx.cg
            clear hx
            go_wp2_with fail
            exact ⟨rfl, Below.refl _ _, fun t ht => by injection ht with ht; subst ht; exact ⟨rfl, fun h => by simp at h⟩⟩
          · intro f w1 hb hd
            have d14 : f 14 = (.bool false) := hd 14 (by kernel_rfl)
            have d16 : f 16 = (mapV s L G) := hd 16 (by kernel_rfl)
            clear hd
            dsimp only
            rw [d14]
            rw [d16]
            go_wp2_with fail
            refine (HV.out w1 (bstep HB0.out hb)).mono ?_; rintro e w9 ⟨rfl, hb9⟩
            go_wp2_with fail
            exact ⟨rfl, hb9, fun t ht => by injection ht with ht; subst ht; exact ⟨rfl, fun h => by simp at h⟩⟩
          · intro f w1 hb hd
            have d14 : f 14 = (.bool false) := hd 14 (by kernel_rfl)
            have d17 : f 17 = (.bool true) := hd 17 (by kernel_rfl)
            clear hd
            dsimp only
            rw [d14]
            rw [d17]
            go_wp2_with fail
            exact ⟨rfl, Below.refl _ _, fun t ht => by injection ht with ht; subst ht; exact ⟨rfl, fun h => by simp at h⟩⟩
          · intro f w1 hb hd
            have d14 : f 14 = (.bool false) := hd 14 (by kernel_rfl)
            have d18 : f 18 = (.bool false) := hd 18 (by kernel_rfl)
            clear hd
            dsimp only
            rw [d14]
            rw [d18]
            go_wp2_with fail
            exact ⟨rfl, Below.refl _ _, fun t ht => by injection ht with ht; subst ht; exact ⟨rfl, fun h => by simp at h⟩⟩
          · intro f w1 hb hd
            have d19 : f 19 = (.bool false) := hd 19 (by kernel_rfl)
            clear hd
            dsimp only
            rw [d19]
            go_wp2_with fail
            exact ⟨rfl, Below.refl _ _, fun t ht => by injection ht with ht; subst ht; exact ⟨rfl, fun h => by simp at h⟩⟩
          · intro f w1 hb hd
            have d20 : f 20 = (.bool false) := hd 20 (by kernel_rfl)
            clear hd
            dsimp only
            rw [d20]
            go_wp2_with fail
            exact ⟨rfl, Below.refl _ _, fun t ht => by injection ht with ht; subst ht; exact ⟨rfl, fun h => by simp at h⟩⟩
          · intro f w1 hb hd
            have d20 : f 20 = (.bool false) := hd 20 (by kernel_rfl)
            have d21 : f 21 = (.pointer (some ⟨w.heap.size, 4, none⟩)) := hd 21 (by kernel_rfl)
            clear hd
            dsimp only
            rw [d20]
            rw [d21]
            have hx := HBx.out.below hb
            have m4 := hx.c0
            have m5 := hx.c1
            have m6 := hx.c2
            have m7 := hx.c3
            have m8 := hx.c4
            have m9 := hx.c5
            have m10 := hx.c6
            have m11 := hx.c7
            have m12 := hx.cl
            have m13 := hx.cg
            clear hx
            go_wp2_with fail
            exact ⟨rfl, Below.refl _ _, fun t ht => by injection ht with ht; subst ht; exact ⟨rfl, fun h => by simp at h⟩⟩
          · intro f w1 hb hd
            have d20 : f 20 = (.bool false) := hd 20 (by kernel_rfl)
            have d22 : f 22 = (mapV s L G) := hd 22 (by kernel_rfl)
            clear hd
            dsimp only
            rw [d20]
            rw [d22]
            go_wp2_with fail
            refine (HI.out w1 (bstep HB0.out hb)).mono ?_; rintro e w9 ⟨v9, rfl, ho9, hb9⟩
            go_wp2_with fail
            exact ⟨rfl, hb9, fun t ht => by injection ht with ht; subst ht; exact ⟨⟨_, rfl, OwnT.rd ho9⟩, fun h => by simp at h⟩⟩
          · intro f w1 hb hd
            have d20 : f 20 = (.bool false) := hd 20 (by kernel_rfl)
            clear hd
            dsimp only
            rw [d20]
            go_wp2_with fail
            exact ⟨rfl, Below.refl _ _, fun t ht => by injection ht with ht; subst ht; exact ⟨rfl, fun h => by simp at h⟩⟩
          · intro f w1 hb hd
            have d20 : f 20 = (.bool false) := hd 20 (by kernel_rfl)
            have d24 : f 24 = (.pointer (some ⟨w.heap.size, 3, none⟩)) := hd 24 (by kernel_rfl)
            clear hd
            dsimp only
            rw [d20]
            rw [d24]
            have hx := HBx.out.below hb
            have x3 := hx.n3
            clear hx
            go_wp2_with fail
            exact ⟨rfl, Below.refl _ _, fun t ht => by injection ht with ht; subst ht; exact ⟨rfl, fun h => by simp at h⟩⟩
          · intro f w1 hb hd
            have d20 : f 20 = (.bool false) := hd 20 (by kernel_rfl)
            obtain ⟨v23, d23, r23⟩ := show ∃ u, f 23 = u ∧ RdT w1 u I from hd 23 (by kernel_rfl)
            have d25 : f 25 = (.int .i64 d) := hd 25 (by kernel_rfl)
            clear hd
            dsimp only
            rw [d20]
            rw [d23]
            rw [d25]
            go_wp2_with fail
            refine (HEn.out w1 _ r23 hok).mono ?_; rintro e w9 ⟨rfl, hb9⟩
            go_wp2_with fail
            exact ⟨rfl, hb9, fun t ht => by injection ht with ht; subst ht; exact ⟨rfl, fun h => by simp at h⟩⟩
          · intro f w1 hb hd
            have d20 : f 20 = (.bool false) := hd 20 (by kernel_rfl)
            have d26 : f 26 = (.bool er) := hd 26 (by kernel_rfl)
            clear hd
            dsimp only
            rw [d20]
            rw [d26]
            go_wp2_with fail
            exact ⟨rfl, Below.refl _ _, fun t ht => by injection ht with ht; subst ht; exact ⟨rfl, fun h => by simp at h⟩⟩
        · intro f w5 hb hd hff
          clear hff
          have d19 : f 19 = (.bool false) := hd 19 (show 19 < 28 by decide)
          have d20 : f 20 = (.bool false) := hd 20 (show 20 < 28 by decide)
          have d27 : f 27 = (.bool (!er)) := hd 27 (show 27 < 28 by decide)
          try dsimp only
          rw [d19, d20, d27]
          clear hd d19 d20 d27
          have HX5 := Lib.hid (HBx.out.below hb)
          have HB5 := Lib.hid (bstep HB0.out hb)
          generalize f 0 = g0, f 1 = g1, f 2 = g2, f 3 = g3, f 4 = g4, f 5 = g5, f 6 = g6, f 7 = g7, f 8 = g8, f 9 = g9, f 10 = g10, f 11 = g11, f 12 = g12, f 13 = g13, f 14 = g14, f 15 = g15, f 16 = g16, f 17 = g17, f 18 = g18, f 21 = g21, f 22 = g22, f 23 = g23, f 24 = g24, f 25 = g25, f 26 = g26
          clear f
          have x3 := HX5.out.n3
          have x12 := HX5.out.cl
          have x13 := HX5.out.cg
          cases er
          · go_wp2_with fail
            go_ret
            exact ⟨ret_bool (by rw [HF.out, ← HR.out]; rfl), HB5.out⟩
          · go_wp2_with fail
            go_ret
            exact ⟨ret_bool (by rw [HF.out, ← HR.out]; rfl), HB5.out⟩
    · have HF := Lib.hid (HNs.out hB)
      have y3 := cell_by HBx.out.n3
      by_cases h1 : d < 16
      · have e1 : decide (d < 16) = true := decide_eq_true h1
        go_wp2_with fail
        refine wp_region_below (by kernel_rfl) (by kernel_rfl) ?_
        repeat (go_big_quiet_step (fail))
        refine wpQuiet_nil ?_
        intro w4 hw4
        obtain ⟨q, hw4⟩ := hw4
        subst hw4
        have HB4 := Lib.hid (bstep HB0.out q.h)
        go_wp2_with fail
        go_ret
        exact ⟨ret_bool HF.out.symm, HB4.out⟩
      · have e1 : decide (d < 16) = false := decide_eq_false h1
        by_cases h2 : 1048576 < d
        · have e2 : decide (1048576 < d) = true := decide_eq_true h2
          go_wp2_with fail
          refine wp_region_below (by kernel_rfl) (by kernel_rfl) ?_
          repeat (go_big_quiet_step (fail))
          refine wpQuiet_nil ?_
          intro w4 hw4
          obtain ⟨q, hw4⟩ := hw4
          subst hw4
          have HB4 := Lib.hid (bstep HB0.out q.h)
          go_wp2_with fail
          go_ret
          exact ⟨ret_bool HF.out.symm, HB4.out⟩
        · have e2 : decide (1048576 < d) = false := decide_eq_false h2
          have hdm : d.tmod 8 = d % 8 := Int.tmod_eq_emod_of_nonneg (by omega)
          have e3 : (d % 8 != 0) = true := bne_iff_ne.2 (fun e => hB ⟨by omega, by omega, e⟩)
          go_wp2_with fail
          refine wp_region_below (by kernel_rfl) (by kernel_rfl) ?_
          repeat (go_big_quiet_step (fail))
          refine wpQuiet_nil ?_
          intro w4 hw4
          obtain ⟨q, hw4⟩ := hw4
          subst hw4
          have HB4 := Lib.hid (bstep HB0.out q.h)
          go_wp2_with fail
          go_ret
          exact ⟨ret_bool HF.out.symm, HB4.out⟩
  · have HF := Lib.hid (HNo.out fun h => hA ⟨h.num.1, h.num.2, h.rev.1, h.rev.2, h.mode.1, h.mode.2⟩)
    have HnA := Lib.hid hA
    clear HNo HYes hres HV HI HM HEn HER hA
    obtain ⟨a, b, c, d, f, L, G⟩ := g
    dsimp only at *
    go_enter Tryz.func94, Tryz.ntmps94
    go_upto_region 1 with fail
    obtain ⟨W, hW⟩ : ∃ W, w.alloc (.cells (genC a b c d s L G) 124) = W := ⟨_, rfl⟩
    change Code.wp _ _ _ _ (w.alloc (.cells (genC a b c d s L G) 124))
    rw [hW] at HBx HB0 ⊢
    clear hW
    have x0 := HBx.out.n0
    have x1 := HBx.out.n1
    have x2 := HBx.out.n2
    go_upto_region 3 with fail
    all_goals first | (go_ret; exact ⟨ret_bool HF.out.symm, HB0.out⟩) | (exfalso; exact HnA.out ⟨by omega, by omega, by omega, by omega, by omega, by omega⟩)
end Go.Proofs.YtenkeodfijladaaGreat

namespace Go.Proofs.YtenkeodfijladaaGreat
open Go.RowKit

set_option maxRecDepth 100000 in
set_option maxHeartbeats 4000000 in
theorem moded_any (g : Gn) (s : Sl) (frm : Int) (w : World) (h : RdM w s g.m.st) (hs : ∀ i, i < 8 → (g.m.st i).length ≤ 10000) :
    Calls Tryz.prog 129 #[genV g.num g.rev g.mode g.size s g.m.live g.m.garb, .int .i64 frm, .int .i64 (frm + 1)] w (GOO w s g.m.st (turnG g frm)) := by
  have HV := Lib.hid (fun W (hb : Below w.heap.size w W) => rgvalid_any g s W (h.below hb) hs)
  have HR0 := Lib.hid (show ∀ W, OldOwn W w.heap.size s g.m.st Sl.nil gn0.m.st from fun W => OldOwn.nil W _ _ _)
  have HRf := Lib.hid (show ∀ W, OldOwn W w.heap.size s g.m.st s g.m.st from fun W => OldOwn.refl W _ _ _)
  have HG := Lib.hid (show turnG g frm = if vldG g = true then (if g.mode = frm then (0, { g with mode := frm + 1 }) else (12, gn0)) else (1, gn0) from rfl)
  generalize vldG g = vb at *
  obtain ⟨n, r, md, z, ⟨f, L, G⟩⟩ := g
  dsimp only at *
  generalize turnG ⟨n, r, md, z, ⟨f, L, G⟩⟩ frm = TG at *
  obtain ⟨W, hW, hbx, hbr, hbw⟩ := two_box w n r md z s L G 124
  have HX := Lib.hid hbx
  have HR := Lib.hid hbr
  have HB := Lib.hid hbw
  clear hbx hbr hbw h hs
  generalize hmt : frm + 1 = mt at *
  clear hmt
  go_enter Tryz.func129, Tryz.ntmps129
  go_upto_region 1 with fail
  change Code.wp _ _ _ _ ((w.alloc (.cells (genC n r md z s L G) 124)).alloc (.cells (genC 0 0 0 0 Sl.nil 0 0) 124))
  rw [hW]
  clear hW
  have x0 := HX.out.n0
  have x1 := HX.out.n1
  have x2 := HX.out.n2
  have x3 := HX.out.n3
  have x4 := HX.out.c0
  have x5 := HX.out.c1
  have x6 := HX.out.c2
  have x7 := HX.out.c3
  have x8 := HX.out.c4
  have x9 := HX.out.c5
  have x10 := HX.out.c6
  have x11 := HX.out.c7
  have x12 := HX.out.cl
  have x13 := HX.out.cg
  go_wp2_with fail
  refine (HV.out _ HB.out).mono ?_
  rintro e w1 ⟨rfl, hb1⟩
  have HX1 := Lib.hid (HX.out.below hb1)
  have HR1 := Lib.hid (HR.out.below hb1)
  have HB1 := Lib.hid (bstep HB.out hb1)
  clear x0 x1 x2 x3 x4 x5 x6 x7 x8 x9 x10 x11 x12 x13
  clear hb1 HX HR HB HV
  have hlr := HR1.out.lt
  cases vb
  · have HPR := Lib.hid (show TG = (1, gn0) from HG.out)
    have r0 := HR1.out.n0
    have r1 := HR1.out.n1
    have r2 := HR1.out.n2
    have r3 := HR1.out.n3
    have r4 := HR1.out.c0
    have r5 := HR1.out.c1
    have r6 := HR1.out.c2
    have r7 := HR1.out.c3
    have r8 := HR1.out.c4
    have r9 := HR1.out.c5
    have r10 := HR1.out.c6
    have r11 := HR1.out.c7
    have r12 := HR1.out.cl
    have r13 := HR1.out.cg
    have rf := HR1.out.f
    go_wp2_with fail
    change bodyPost _ _ _ _ _ (pts w1 (w.heap.size + 1) (genL 0 0 0 0 Sl.nil 0 0))
    have hby := HR1.out.all 0 0 0 0 Sl.nil 0 0
    have HBz := Lib.hid (pts_below (B := w.heap.size) (b := (w.heap.size + 1)) (by omega) (genL 0 0 0 0 Sl.nil 0 0) HB1.out)
    have hrd := HR0.out (pts w1 (w.heap.size + 1) (genL 0 0 0 0 Sl.nil 0 0))
    rw [HPR.out]
    generalize pts w1 (w.heap.size + 1) (genL 0 0 0 0 Sl.nil 0 0) = V at *
    exact bodyPost_ret (v := .tuple #[genV 0 0 0 0 Sl.nil 0 0, .int .i64 1]) (by simp [results, Tryz.results129, go_sem, hby.n0, hby.n1, hby.n2, hby.n3, hby.c0, hby.c1, hby.c2, hby.c3, hby.c4, hby.c5, hby.c6, hby.c7, hby.cl, hby.cg]) rfl ⟨⟨_, rfl, hrd⟩, HBz.out⟩
  · by_cases hm : md = frm
    · subst hm
      have HPR := Lib.hid (show TG = (0, ⟨n, r, mt, z, ⟨f, L, G⟩⟩) by rw [HG.out, if_pos rfl, if_pos rfl])
      clear HG
      have x0 := HX1.out.n0
      have x1 := HX1.out.n1
      have x2 := HX1.out.n2
      have x3 := HX1.out.n3
      have x4 := HX1.out.c0
      have x5 := HX1.out.c1
      have x6 := HX1.out.c2
      have x7 := HX1.out.c3
      have x8 := HX1.out.c4
      have x9 := HX1.out.c5
      have x10 := HX1.out.c6
      have x11 := HX1.out.c7
      have x12 := HX1.out.cl
      have x13 := HX1.out.cg
      have xf := HX1.out.f
      go_upto_region 6 with fail
      change Code.wp _ _ _ _ (pts w1 w.heap.size [(2, .int .i64 mt)])
      have HX2 := Lib.hid (HX1.out.num2 mt)
      have HR2 := Lib.hid (HR1.out.pts_ne (show w.heap.size + 1 ≠ w.heap.size by omega) [(2, .int .i64 mt)])
      have HB2 := Lib.hid (pts_below (B := w.heap.size) (b := w.heap.size) (Nat.le_refl _) [(2, .int .i64 mt)] HB1.out)
      generalize pts w1 w.heap.size [(2, .int .i64 mt)] = w2 at *
      clear x0 x1 x2 x3 x4 x5 x6 x7 x8 x9 x10 x11 x12 x13 xf
      clear HX1 HR1 HB1
      have x0 := HX2.out.n0
      have x1 := HX2.out.n1
      have x2 := HX2.out.n2
      have x3 := HX2.out.n3
      have x4 := HX2.out.c0
      have x5 := HX2.out.c1
      have x6 := HX2.out.c2
      have x7 := HX2.out.c3
      have x8 := HX2.out.c4
      have x9 := HX2.out.c5
      have x10 := HX2.out.c6
      have x11 := HX2.out.c7
      have x12 := HX2.out.cl
      have x13 := HX2.out.cg
      have r0 := HR2.out.n0
      have r1 := HR2.out.n1
      have r2 := HR2.out.n2
      have r3 := HR2.out.n3
      have r4 := HR2.out.c0
      have r5 := HR2.out.c1
      have r6 := HR2.out.c2
      have r7 := HR2.out.c3
      have r8 := HR2.out.c4
      have r9 := HR2.out.c5
      have r10 := HR2.out.c6
      have r11 := HR2.out.c7
      have r12 := HR2.out.cl
      have r13 := HR2.out.cg
      have rf := HR2.out.f
      go_wp2_with fail
      change bodyPost _ _ _ _ _ (pts w2 (w.heap.size + 1) (genL n r mt z s L G))
      have hby := HR2.out.all n r mt z s L G
      have HBz := Lib.hid (pts_below (B := w.heap.size) (b := (w.heap.size + 1)) (by omega) (genL n r mt z s L G) HB2.out)
      have hrd := HRf.out (pts w2 (w.heap.size + 1) (genL n r mt z s L G))
      rw [HPR.out]
      generalize pts w2 (w.heap.size + 1) (genL n r mt z s L G) = V at *
      exact bodyPost_ret (v := .tuple #[genV n r mt z s L G, .int .i64 0]) (by simp [results, Tryz.results129, go_sem, hby.n0, hby.n1, hby.n2, hby.n3, hby.c0, hby.c1, hby.c2, hby.c3, hby.c4, hby.c5, hby.c6, hby.c7, hby.cl, hby.cg]) rfl ⟨⟨_, rfl, hrd⟩, HBz.out⟩
    · have HPR := Lib.hid (show TG = (12, gn0) by rw [HG.out, if_pos rfl, if_neg hm])
      have e0 : (md == frm) = false := beq_eq_false_iff_ne.2 hm
      clear HG
      have x0 := HX1.out.n0
      have x1 := HX1.out.n1
      have x2 := HX1.out.n2
      have x3 := HX1.out.n3
      have x4 := HX1.out.c0
      have x5 := HX1.out.c1
      have x6 := HX1.out.c2
      have x7 := HX1.out.c3
      have x8 := HX1.out.c4
      have x9 := HX1.out.c5
      have x10 := HX1.out.c6
      have x11 := HX1.out.c7
      have x12 := HX1.out.cl
      have x13 := HX1.out.cg
      have r0 := HR1.out.n0
      have r1 := HR1.out.n1
      have r2 := HR1.out.n2
      have r3 := HR1.out.n3
      have r4 := HR1.out.c0
      have r5 := HR1.out.c1
      have r6 := HR1.out.c2
      have r7 := HR1.out.c3
      have r8 := HR1.out.c4
      have r9 := HR1.out.c5
      have r10 := HR1.out.c6
      have r11 := HR1.out.c7
      have r12 := HR1.out.cl
      have r13 := HR1.out.cg
      have rf := HR1.out.f
      go_wp2_with fail
      change bodyPost _ _ _ _ _ (pts w1 (w.heap.size + 1) (genL 0 0 0 0 Sl.nil 0 0))
      have hby := HR1.out.all 0 0 0 0 Sl.nil 0 0
      have HBz := Lib.hid (pts_below (B := w.heap.size) (b := (w.heap.size + 1)) (by omega) (genL 0 0 0 0 Sl.nil 0 0) HB1.out)
      have hrd := HR0.out (pts w1 (w.heap.size + 1) (genL 0 0 0 0 Sl.nil 0 0))
      rw [HPR.out]
      generalize pts w1 (w.heap.size + 1) (genL 0 0 0 0 Sl.nil 0 0) = V at *
      exact bodyPost_ret (v := .tuple #[genV 0 0 0 0 Sl.nil 0 0, .int .i64 12]) (by simp [results, Tryz.results129, go_sem, hby.n0, hby.n1, hby.n2, hby.n3, hby.c0, hby.c1, hby.c2, hby.c3, hby.c4, hby.c5, hby.c6, hby.c7, hby.cl, hby.cg]) rfl ⟨⟨_, rfl, hrd⟩, HBz.out⟩
set_option maxRecDepth 100000 in
set_option maxHeartbeats 4000000 in
theorem rfreeze_any (g : Gn) (s : Sl) (w : World) (h : RdM w s g.m.st) (hs : ∀ i, i < 8 → (g.m.st i).length ≤ 10000) :
    Calls Tryz.prog 100 #[genV g.num g.rev g.mode g.size s g.m.live g.m.garb] w (GOO w s g.m.st (turnG g 1)) := by
  have HT := Lib.hid (fun W (hb : Below w.heap.size w W) => moded_any g s 1 W (h.below hb) hs)
  rw [show (1 : Int) + 1 = 2 from rfl] at HT
  clear hs
  generalize turnG g 1 = TG at *
  obtain ⟨n, r, md, z, ⟨f, L, G⟩⟩ := g
  dsimp only at *
  obtain ⟨W, hW, hbx, hbr, hbw⟩ := two_box w n r md z s L G 124
  have HX := Lib.hid hbx
  have HR := Lib.hid hbr
  have HB := Lib.hid hbw
  clear hbx hbr hbw h
  go_enter Tryz.func100, Tryz.ntmps100
  go_upto_region 1 with fail
  change Code.wp _ _ _ _ ((w.alloc (.cells (genC n r md z s L G) 124)).alloc (.cells (genC 0 0 0 0 Sl.nil 0 0) 124))
  rw [hW]
  clear hW
  have x0 := HX.out.n0
  have x1 := HX.out.n1
  have x2 := HX.out.n2
  have x3 := HX.out.n3
  have x4 := HX.out.c0
  have x5 := HX.out.c1
  have x6 := HX.out.c2
  have x7 := HX.out.c3
  have x8 := HX.out.c4
  have x9 := HX.out.c5
  have x10 := HX.out.c6
  have x11 := HX.out.c7
  have x12 := HX.out.cl
  have x13 := HX.out.cg
  go_wp2_with fail
  refine (HT.out _ HB.out).mono ?_
  rintro e w1 ⟨⟨t, rfl, hr⟩, hb⟩
  have HRd := Lib.hid (hr.mono (show w.heap.size + 2 ≤ W.heap.size by have := HR.out.lt; omega))
  have HR1 := Lib.hid (HR.out.below hb)
  have HB1 := Lib.hid (bstep HB.out hb)
  have hlr := HR.out.lt
  clear x0 x1 x2 x3 x4 x5 x6 x7 x8 x9 x10 x11 x12 x13
  clear hr HX HT HR HB
  obtain ⟨er, ⟨n', r', md', z', ⟨f', L', G'⟩⟩⟩ := TG
  dsimp only at *
  have r0 := HR1.out.n0
  have r1 := HR1.out.n1
  have r2 := HR1.out.n2
  have r3 := HR1.out.n3
  have r4 := HR1.out.c0
  have r5 := HR1.out.c1
  have r6 := HR1.out.c2
  have r7 := HR1.out.c3
  have r8 := HR1.out.c4
  have r9 := HR1.out.c5
  have r10 := HR1.out.c6
  have r11 := HR1.out.c7
  have r12 := HR1.out.cl
  have r13 := HR1.out.cg
  have rf := HR1.out.f
  go_wp2_with fail
  change bodyPost _ _ _ _ _ (pts w1 (w.heap.size + 1) (genL n' r' md' z' t L' G'))
  have hby := HR1.out.all n' r' md' z' t L' G'
  have HBz := Lib.hid (pts_below (B := w.heap.size) (b := (w.heap.size + 1)) (by omega) (genL n' r' md' z' t L' G') HB1.out)
  have hrd := (HRd.out.pts (show w.heap.size + 1 < w.heap.size + 2 by omega) (genL n' r' md' z' t L' G')).mono (show w.heap.size ≤ w.heap.size + 2 by omega)
  generalize pts w1 (w.heap.size + 1) (genL n' r' md' z' t L' G') = V at *
  exact bodyPost_ret (v := .tuple #[genV n' r' md' z' t L' G', .int .i64 er]) (by simp [results, Tryz.results100, go_sem, hby.n0, hby.n1, hby.n2, hby.n3, hby.c0, hby.c1, hby.c2, hby.c3, hby.c4, hby.c5, hby.c6, hby.c7, hby.cl, hby.cg]) rfl ⟨⟨_, rfl, hrd⟩, HBz.out⟩
end Go.Proofs.YtenkeodfijladaaGreat
