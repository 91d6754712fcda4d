/- Several texts in one, each over the last: The reference's changes of a needle map, in the words of the program's: the stripes are those that came in, or the call's own. The reference's ends and Valid of generations: the walks. The reference's Valid of generations: the walk. Printed by genHi.py. The reference's Fresh, moded, Freeze, Seal; the law's given: the walks. Printed by genHj.py. -/
import Derived.Test.YtenkeodfijladaaGreatDoorGL
import Derived.Test.YtenkeodfijladaaGreatDoorGE
import Derived.Test.YtenkeodfijladaaGreatDoorGQ
import Derived.Test.YtenkeodfijladaaGreatDoorGv
import Derived.Test.YtenkeodfijladaaGreatDoorQt
import Derived.Test.YtenkeodfijladaaGreatDoorGI
import Derived.Test.YtenkeodfijladaaGreatDoorGJ
namespace Go.Proofs.YtenkeodfijladaaGreatDoor
open Go.RowKit

theorem RdM.eqM {w : World} {s : Sl} {f g : Nat → List It} (h : RdM w s f) (e : ∀ i, i < 8 → g i = f i) : RdM w s g := fun i hi => by rw [e i hi]; exact h i hi
theorem OwnM.eqM {w : World} {B : Nat} {s : Sl} {f g : Nat → List It} (h : OwnM w B s f) (e : ∀ i, i < 8 → g i = f i) : OwnM w B s g := fun i hi => by rw [e i hi]; exact h i hi
theorem OldOwn.eqM {w' : World} {B : Nat} {s s' : Sl} {f0 f g : Nat → List It} (h : OldOwn w' B s f0 s' f) (e : ∀ i, i < 8 → g i = f i) : OldOwn w' B s f0 s' g := by
  rcases h with ⟨h1, h2⟩ | h
  · exact .inl ⟨h1, fun i hi => (e i hi).trans (h2 i hi)⟩
  · exact .inr (h.eqM e)
theorem OldOwn.pts {w : World} {B b : Nat} {s s' : Sl} {f f' : Nat → List It} (h : OldOwn w B s f s' f') (hb : b < B) (vs : List (Nat × Value)) : OldOwn (Go.Proofs.YtenkeodfijladaaGreatDoor.pts w b vs) B s f s' f' := h.imp id fun h => h.pts hb vs
theorem rput_ins (s : Sl) (M : Mp) (x : It) (w : World) (h : RdM w s M.st) (hs : ∀ i, i < 8 → (M.st i).length ≤ 9000) :
    Calls Tryz.prog 38 #[mapV s M.live M.garb, itV x] w fun e w' => (∃ s', e = .returned (mapV s' (insM M x).live (insM M x).garb) ∧ OldOwn w' w.heap.size s M.st s' (insM M x).st) ∧ Below w.heap.size w w' := by
  have e := put_same M x
  refine (rputM_own s M x w h hs).mono ?_
  rintro e' w' ⟨⟨s', rfl, ho⟩, hb⟩
  exact ⟨⟨s', by rw [e.l, e.g], ho.eqM e.st⟩, hb⟩
theorem rdel_del (s : Sl) (M : Mp) (key : Int) (w : World) (h : RdM w s M.st) (hs : ∀ i, i < 8 → (M.st i).length ≤ 9000) :
    Calls Tryz.prog 37 #[mapV s M.live M.garb, .int .u64 key] w fun e w' => (∃ s', e = .returned (mapV s' (delM M key).live (delM M key).garb) ∧ OldOwn w' w.heap.size s M.st s' (delM M key).st) ∧ Below w.heap.size w w' := by
  have e := del_same M key
  refine (rdelM_own s M key w h hs).mono ?_
  rintro e' w' ⟨⟨s', rfl, ho⟩, hb⟩
  exact ⟨⟨s', by rw [e.l, e.g], ho.eqM e.st⟩, hb⟩
/-- What a change of a generation hands back: the stripes are those that came in (s, f), or the call's own. -/
def GOO (w0 : World) (s : Sl) (f : Nat → List It) (p : Int × Gn) (e : Ending) (w' : World) : Prop := (∃ s', e = .returned (.tuple #[genV p.2.num p.2.rev p.2.mode p.2.size s' p.2.m.live p.2.m.garb, .int .i64 p.1]) ∧ OldOwn w' w0.heap.size s f s' p.2.m.st) ∧ Below w0.heap.size w0 w'
theorem GOwn.old {w0 : World} {s : Sl} {f : Nat → List It} {p : Int × Gn} {e : Ending} {w' : World} (h : GOwn w0 p e w') : GOO w0 s f p e w' := ⟨h.1.imp fun _ h => ⟨h.1, .inr h.2⟩, h.2⟩
/-! ### The reference's ends, plain -/
def endsR (l : List It) (size : Int) : Bool := (List.range l.length).all fun i => decide (endI (iat l i) ≤ size) && (List.range l.length).all fun k => decide (k = i) || !(decide ((iat l i).off ≤ (iat l k).off) && decide ((iat l k).off < endI (iat l i)))
theorem endsR_iff (l : List It) (size : Int) : endsR l size = true ↔ ∀ i, i < l.length → endI (iat l i) ≤ size ∧ ∀ k, k < l.length → k ≠ i → ¬ ((iat l i).off ≤ (iat l k).off ∧ (iat l k).off < endI (iat l i)) := by
  unfold endsR
  rw [List.all_eq_true]
  refine ⟨fun h i hi => ?_, fun h i hi => ?_⟩
  · have h1 := h i (List.mem_range.2 hi)
    rw [Bool.and_eq_true, decide_eq_true_eq, List.all_eq_true] at h1
    refine ⟨h1.1, fun k hk hne hc => ?_⟩
    have h2 := h1.2 k (List.mem_range.2 hk)
    rw [decide_eq_false hne, decide_eq_true hc.1, decide_eq_true hc.2] at h2
    cases h2
  · obtain ⟨h1, h2⟩ := h i (List.mem_range.1 hi)
    rw [Bool.and_eq_true, decide_eq_true_eq, List.all_eq_true]
    refine ⟨h1, fun k hk => ?_⟩
    by_cases e : k = i
    · rw [decide_eq_true e]; rfl
    · rw [decide_eq_false e, Bool.false_or, Bool.not_eq_true', Bool.and_eq_false_iff, decide_eq_false_iff_not, decide_eq_false_iff_not]
      have := h2 k (List.mem_range.1 hk) e
      omega
theorem endsR_eq {l : List It} (hok : ∀ x ∈ l, okP x) (size : Int) : endsR l size = endsB l size := by
  refine Bool.eq_iff_iff.2 ((endsR_iff l size).trans (Iff.trans ?_ (decide_eq_true_iff (p := endsP l size)).symm))
  have hm : ∀ i, (h : i < l.length) → iat l i = l[i] := fun i h => by unfold iat; rw [List.getD_eq_getElem?_getD, List.getElem?_eq_getElem h]; rfl
  constructor
  · intro h
    refine ⟨List.pairwise_iff_getElem.2 fun i j hi hj hij => ?_, fun x hx => ?_⟩
    · have h1 := (h i hi).2 j hj (by omega)
      have h2 := (h j hj).2 i hi (by omega)
      rw [hm i hi, hm j hj] at h1 h2
      unfold disj
      omega
    · obtain ⟨i, hi, rfl⟩ := List.getElem_of_mem hx
      have := (h i hi).1
      rwa [hm i hi] at this
  · rintro ⟨hp, hs⟩ i hi
    rw [hm i hi]
    refine ⟨hs _ (List.getElem_mem hi), fun k hk e => ?_⟩
    rw [hm k hk]
    have gi := endI_gt (hok _ (List.getElem_mem hi))
    have gk := endI_gt (hok _ (List.getElem_mem hk))
    rcases Nat.lt_or_gt_of_ne e with hlt | hlt
    · have := List.pairwise_iff_getElem.1 hp k i hk hi hlt
      unfold disj at this
      omega
    · have := List.pairwise_iff_getElem.1 hp i k hi hk hlt
      unfold disj at this
      omega
end Go.Proofs.YtenkeodfijladaaGreatDoor

namespace Go.Proofs.YtenkeodfijladaaGreatDoor
open Go.RowKit

theorem RdT.at2' {w : World} {b off n cap : Nat} {l : List It} (h : RdT w (.slice (some ⟨b, off, none⟩) n cap) l) {j : Nat} (hj : j < n) : w.cell? ⟨b, off + j * 4 + 2, none⟩ = some (.int .i64 (iat l j).off) := by
  obtain ⟨b', o', e, c0, c1, c2, c3⟩ := h.at hj
  injection e with e
  injection e with e1 e2
  subst e1 e2
  exact c2
set_option maxRecDepth 100000 in
set_option maxHeartbeats 8000000 in
theorem rends_any (v : Value) (l : List It) (size : Int) (w : World) (h : RdT w v l) (hok : ∀ x ∈ l, okP x) (hsm : l.length ≤ 1000000) :
    Calls Tryz.prog 67 #[v, .int .i64 size] w fun e w' => e = .returned (.bool (endsR l size)) ∧ Below w.heap.size w w' := by
  have HE := Lib.hid (endsR_iff l size)
  have HOk := Lib.hid (fun i (hi : i < l.length) => hok (iat l i) (iat_mem hi))
  generalize endsR l size = res at *
  clear hok
  obtain ⟨a, cap, rfl, h1, h2⟩ := h.shape
  have hm := lt63 h1 h2
  have Hr := Lib.hid h
  clear h
  generalize hn : l.length = n at *
  clear hn h1 h2
  go_enter Tryz.func67, Tryz.ntmps67
  go_wp2_with fail
  go_loopw [5] (fun iv W => ∃ i : Nat, iv = .int .i64 (i : Int) ∧ i ≤ n ∧ Hid (∀ j, j < i → endI (iat l j) ≤ size ∧ ∀ k, k < n → k ≠ j → ¬ ((iat l j).off ≤ (iat l k).off ∧ (iat l k).off < endI (iat l j))) ∧ Hid (Below w.heap.size w W)) (fun iv _ => n - (intOf iv).toNat)
  case atStart => exact ⟨0, rfl, Nat.zero_le _, Lib.hid (fun j hj => by omega), Lib.hid (Below.refl _ _)⟩
  case round =>
    obtain ⟨i, rfl, hi, HI, HB⟩ := hrel
    by_cases hlt : i < n
    · obtain ⟨b, off, rfl, c0, c1, c2, c3⟩ := (Hr.out.below HB.out).at hlt
      have hx := HOk.out i hlt
      have hsl : szN (iat l i).size.toNat ≤ 4127 := szN_le _
      have hx1 := hx.2.2.1
      have hz0 : ((iat l i).size.toNat : Int) = (iat l i).size := Int.toNat_of_nonneg hx.2.2.2.1
      have HZ := Lib.hid (fun W => rsizeB (iat l i).size.toNat W)
      rw [hz0] at HZ
      have hEnd := Lib.hid (show endI (iat l i) = (iat l i).off + (szN (iat l i).size.toNat : Int) from rfl)
      have i1 : (i : Int) < (n : Int) := by omega
      have hxo : 16 ≤ (iat l i).off ∧ (iat l i).off ≤ 1048576 := ⟨hx.1, hx.2.1⟩
      have HZ2 := Lib.hid (fun W => show Calls Tryz.prog 35 #[.int .i64 (iat l i).size] W fun e w' => e = .returned (.int .i64 (szN (iat l i).size.toNat : Int)) ∧ Below W.heap.size W w' from (HZ.out W).mono fun e w' hh => ⟨hh.1, hh.2 ▸ Below.refl _ _⟩)
      have y2 := cell_by c2
      have y3 := cell_by c3
      clear HZ hx
      generalize szN (iat l i).size.toNat = z at *
      go_wp2_with fail
      refine wp_region_below (by kernel_rfl) (by kernel_rfl) ?_
      repeat (go_big_quiet_step (exact calls_by (HZ2.out _)))
      refine wpQuiet_nil ?_
      intro w2 hw2
      obtain ⟨q, hw2⟩ := hw2
      subst hw2
      have HB2 := Lib.hid (bstep HB.out q.h)
      generalize q.w' = w2 at *
      clear q y2 y3 HZ2 c0 c1 c2 c3
      obtain ⟨en, hen⟩ : ∃ en : Int, (iat l i).off + (z : Int) = en := ⟨_, rfl⟩
      have hen0 : 16 ≤ en ∧ en ≤ 2097152 := by omega
      have HEn := Lib.hid (hEnd.out.trans hen)
      by_cases hsz : size < en
      · have e0 : decide (size < (iat l i).off + (z : Int)) = true := by rw [hen]; exact decide_eq_true hsz
        go_wp2_with fail
        go_ret
        refine ⟨ret_bool ?_, HB2.out⟩
        symm
        rw [← Bool.not_eq_true, HE.out]
        intro hh
        have := (hh i hlt).1
        rw [HEn.out] at this
        omega
      · have e0 : decide (size < (iat l i).off + (z : Int)) = false := by rw [hen]; exact decide_eq_false hsz
        rw [hen] at e0
        go_wp2_with fail
        clear e0
        have HEi := HEn
        go_loopw [7] (fun kv W => ∃ k : Nat, kv = .int .i64 (k : Int) ∧ k ≤ n ∧ Hid (∀ j, j < k → j ≠ i → ¬ ((iat l i).off ≤ (iat l j).off ∧ (iat l j).off < endI (iat l i))) ∧ Hid (Below w.heap.size w W)) (fun kv _ => n - (intOf kv).toNat)
        case atStart => exact ⟨0, rfl, Nat.zero_le _, Lib.hid (fun j hj => by omega), HB2⟩
        case round =>
          obtain ⟨k, rfl, hk, HK, HB3⟩ := hrel
          clear HB2
          by_cases hkn : k < n
          · have ci := (Hr.out.below HB3.out).at2' hlt
            have ck := (Hr.out.below HB3.out).at2' hkn
            have yi := cell_by ci
            have yk := cell_by ck
            have i2 : (k : Int) < (n : Int) := by omega
            clear ci ck
            by_cases hki : k = i
            · have e1 : ((k : Int) != (i : Int)) = false := by rw [hki]; simp
              have hki2 : ¬ k ≠ i := by omega
              have hle : k = i := hki
              clear hki
              go_wp2_with fail
              refine wp_region_below (by kernel_rfl) (by kernel_rfl) ?_
              repeat (go_big_quiet_step (fail))
              refine wpQuiet_nil ?_
              intro w4 hw4
              obtain ⟨q, hw4⟩ := hw4
              subst hw4
              have HB4 := Lib.hid (bstep HB3.out q.h)
              generalize q.w' = w4 at *
              clear q yi yk
              go_wp2_with fail
              go_roundw
              case rel => exact ⟨k + 1, by go_num, by omega, Lib.hid (fun j hj hne hc => by
                by_cases e : j = k
                · subst e
                  have h1 := hc.1
                  have h2 := hc.2
                  rw [HEn.out] at h2
                  omega
                · exact HK.out j (by omega) hne hc), HB4⟩
              case measure => simp [intOf]; omega
            · have e1 : ((k : Int) != (i : Int)) = true := bne_iff_ne.2 (by omega)
              by_cases hge : (iat l i).off ≤ (iat l k).off
              · have e2 : decide ((iat l i).off ≤ (iat l k).off) = true := decide_eq_true hge
                by_cases hlk : (iat l k).off < en
                · have e3 : decide ((iat l k).off < en) = true := decide_eq_true hlk
                  go_wp2_with fail
                  refine wp_region_below (by kernel_rfl) (by kernel_rfl) ?_
                  repeat (go_big_quiet_step (fail))
                  refine wpQuiet_nil ?_
                  intro w4 hw4
                  obtain ⟨q, hw4⟩ := hw4
                  subst hw4
                  have HB4 := Lib.hid (bstep HB3.out q.h)
                  generalize q.w' = w4 at *
                  clear q yi yk
                  go_wp2_with fail
                  go_ret
                  refine ⟨ret_bool ?_, HB4.out⟩
                  symm
                  rw [← Bool.not_eq_true, HE.out]
                  intro hh
                  exact (hh i hlt).2 k hkn hki ⟨hge, by rw [HEn.out]; exact hlk⟩
                · have e3 : decide ((iat l k).off < en) = false := decide_eq_false hlk
                  go_wp2_with fail
                  refine wp_region_below (by kernel_rfl) (by kernel_rfl) ?_
                  repeat (go_big_quiet_step (fail))
                  refine wpQuiet_nil ?_
                  intro w4 hw4
                  obtain ⟨q, hw4⟩ := hw4
                  subst hw4
                  have HB4 := Lib.hid (bstep HB3.out q.h)
                  generalize q.w' = w4 at *
                  clear q yi yk
                  go_wp2_with fail
                  go_roundw
                  case rel => exact ⟨k + 1, by go_num, by omega, Lib.hid (fun j hj hne hc => by
                    by_cases e : j = k
                    · subst e
                      have h1 := hc.1
                      have h2 := hc.2
                      rw [HEn.out] at h2
                      omega
                    · exact HK.out j (by omega) hne hc), HB4⟩
                  case measure => simp [intOf]; omega
              · have e2 : decide ((iat l i).off ≤ (iat l k).off) = false := decide_eq_false hge
                go_wp2_with fail
                refine wp_region_below (by kernel_rfl) (by kernel_rfl) ?_
                repeat (go_big_quiet_step (fail))
                refine wpQuiet_nil ?_
                intro w4 hw4
                obtain ⟨q, hw4⟩ := hw4
                subst hw4
                have HB4 := Lib.hid (bstep HB3.out q.h)
                generalize q.w' = w4 at *
                clear q yi yk
                go_wp2_with fail
                go_roundw
                case rel => exact ⟨k + 1, by go_num, by omega, Lib.hid (fun j hj hne hc => by
                  by_cases e : j = k
                  · subst e
                    have h1 := hc.1
                    have h2 := hc.2
                    rw [HEn.out] at h2
                    omega
                  · exact HK.out j (by omega) hne hc), HB4⟩
                case measure => simp [intOf]; omega
          · obtain rfl : k = n := by omega
            go_wp2_with fail
            go_roundw
            case rel => exact ⟨i + 1, by go_num, by omega, Lib.hid (fun j hj => by
              by_cases e : j = i
              · subst e
                exact ⟨by rw [HEn.out]; omega, fun k hk hne => HK.out k hk hne⟩
              · exact HI.out j (by omega)), HB3⟩
            case measure => simp [intOf]; omega
    · obtain rfl : i = n := by omega
      go_wp2_with fail
      go_ret
      refine ⟨ret_bool ?_, HB.out⟩
      symm
      rw [HE.out]
      exact HI.out
end Go.Proofs.YtenkeodfijladaaGreatDoor

namespace Go.Proofs.YtenkeodfijladaaGreatDoor
open Go.RowKit

def rdS (l : List It) : Sta := ⟨fun v w => ∃ u, v = u ∧ RdT w u l, fun _ _ _ hb ⟨u, h1, h2⟩ => ⟨u, h1, h2.below hb⟩⟩
set_option maxRecDepth 100000 in
set_option maxHeartbeats 8000000 in
theorem rgvalid_any (g : Gn) (s : Sl) (w : World) (h : RdM w s g.m.st) (hs : ∀ i, i < 8 → (g.m.st i).length ≤ 10000) :
    Calls Tryz.prog 33 #[genV g.num g.rev g.mode g.size s g.m.live g.m.garb] w fun e w' => e = .returned (.bool (vldG g)) ∧ Below w.heap.size w w' := by
  have HV := Lib.hid (fun W (hb : Below w.heap.size w W) => rvalidM_any s g.m W (h.below hb) (fun i hi => Nat.le_trans (hs i hi) (by decide)))
  have HI := Lib.hid (fun W (hb : Below w.heap.size w W) => ritemsM_any s g.m W (h.below hb) hs)
  have HNo := Lib.hid (fun h => vldG_not (g := g) h)
  have hIl : (itemsM g.m).length ≤ 1000000 := Nat.le_trans (itemsM_len hs) (by decide)
  have HM := Lib.hid (show vldM g.m = true → (∀ x ∈ itemsM g.m, okP x) ∧ 0 ≤ g.m.live ∧ g.m.live ≤ 400000000 from fun hv =>
    ⟨itemsM_ok ((vldM_iff g.m).1 hv), (live_small ((vldM_iff g.m).1 hv) hs).2⟩)
  have HYes := Lib.hid (vldG_iff g)
  have HEn := Lib.hid (fun W v (hr : RdT W v (itemsM g.m)) (hok : ∀ x ∈ itemsM g.m, okP x) => rends_any v (itemsM g.m) g.size W hr hok hIl)
  have HER := Lib.hid (fun (hok : ∀ x ∈ itemsM g.m, okP x) => endsR_eq hok g.size)
  have HBx := Lib.hid (BoxG.new w g.num g.rev g.mode g.size s g.m.live g.m.garb 27)
  have HB0 := Lib.hid (below_gen w g.num g.rev g.mode g.size s g.m.live g.m.garb 27)
  clear h hs hIl
  generalize hres : vldG g = res at *
  by_cases hA : 1 ≤ g.num ∧ g.num ≤ 8 ∧ 0 ≤ g.rev ∧ g.rev ≤ 4294967295 ∧ 1 ≤ g.mode ∧ g.mode ≤ 3
  · obtain ⟨hA1, hA2, hA3, hA4, hA5, hA6⟩ := hA
    have HNs := Lib.hid (fun (hn : ¬ (16 ≤ g.size ∧ g.size ≤ 1048576 ∧ g.size % 8 = 0)) => HNo.out fun h => hn h.size)
    have HNm := Lib.hid (fun (hn : vldM g.m = false) => HNo.out fun h => by rw [h.m] at hn; cases hn)
    have HFin := Lib.hid (show 16 ≤ g.size ∧ g.size ≤ 1048576 ∧ g.size % 8 = 0 → vldM g.m = true → res = (endsB (itemsM g.m) g.size && (g.size - 16 - g.m.live == g.m.garb)) from fun hB hv => by
      rw [Bool.eq_iff_iff, ← hres, vldG_iff, Bool.and_eq_true, beq_iff_eq]
      exact ⟨fun h => ⟨h.ends, by have := h.sum; omega⟩, fun h => ⟨⟨hA1, hA2⟩, ⟨hA3, hA4⟩, ⟨hA5, hA6⟩, hB, hv, h.1, by have := h.2; omega⟩⟩)
    clear HNo HYes hres
    generalize vldM g.m = vb at *
    generalize itemsM g.m = I at *
    obtain ⟨a, b, c, d, f, L, G⟩ := g
    dsimp only at *
    generalize endsR I d = er at *
    generalize endsB I d = eb at *
    go_enter Tryz.func33, Tryz.ntmps33
    go_upto_region 1 with fail
    obtain ⟨W, hW⟩ : ∃ W, w.alloc (.cells (genC a b c d s L G) 27) = W := ⟨_, rfl⟩
    change Code.wp _ _ _ _ (w.alloc (.cells (genC a b c d s L G) 27))
    rw [hW] at HBx HB0 ⊢
    clear hW
    have hlw := HBx.out.lt
    have x0 := HBx.out.n0
    have x1 := HBx.out.n1
    have x2 := HBx.out.n2
    have x3 := HBx.out.n3
    have x4 := HBx.out.c0
    have x5 := HBx.out.c1
    have x6 := HBx.out.c2
    have x7 := HBx.out.c3
    have x8 := HBx.out.c4
    have x9 := HBx.out.c5
    have x10 := HBx.out.c6
    have x11 := HBx.out.c7
    have x12 := HBx.out.cl
    have x13 := HBx.out.cg
    by_cases hB : 16 ≤ d ∧ d ≤ 1048576 ∧ d % 8 = 0
    · obtain ⟨hd1, hd2, hd3⟩ := hB
      have hdm : d.tmod 8 = 0 := by rw [Int.tmod_eq_emod_of_nonneg (by omega)]; exact hd3
      have e1 : decide (d < 16) = false := by simp; omega
      have e2 : decide (1048576 < d) = false := by simp; omega
      cases vb
      · have HF := Lib.hid (HNm.out rfl)
        have y3 := cell_by HBx.out.n3
        have y4 := cell_by HBx.out.c0
        have y5 := cell_by HBx.out.c1
        have y6 := cell_by HBx.out.c2
        have y7 := cell_by HBx.out.c3
        have y8 := cell_by HBx.out.c4
        have y9 := cell_by HBx.out.c5
        have y10 := cell_by HBx.out.c6
        have y11 := cell_by HBx.out.c7
        have y12 := cell_by HBx.out.cl
        have y13 := cell_by HBx.out.cg
        have HVx := Lib.hid (fun W (hb : Below W.heap.size W W) => HV.out)
        clear HVx
        go_wp2_with fail
        refine wp_region_below (by kernel_rfl) (by kernel_rfl) ?_
        repeat (go_big_quiet_step (exact calls_by (HV.out _ (bstep HB0.out (BelowBy.h _)))))
        refine wpQuiet_nil ?_
        intro w4 hw4
        obtain ⟨q, hw4⟩ := hw4
        subst hw4
        have HB4 := Lib.hid (bstep HB0.out q.h)
        go_wp2_with fail
        go_ret
        exact ⟨ret_bool HF.out.symm, HB4.out⟩
      · obtain ⟨hok, hL1, hL2⟩ := HM.out rfl
        have HR := Lib.hid (HER.out hok)
        have HF := Lib.hid (HFin.out ⟨hd1, hd2, hd3⟩ rfl)
        clear HNs HNm HFin HM HER
        go_wp2_with fail
        clear x0 x1 x2 x3 x4 x5 x6 x7 x8 x9 x10 x11 x12 x13
        refine wp_region_rel [eqS (.pointer (some ⟨w.heap.size, 3, none⟩)), eqS (.int .i64 d), eqS (.bool false), eqS (.bool false), eqS (.pointer (some ⟨w.heap.size, 3, none⟩)), eqS (.int .i64 d), eqS (.bool false), eqS (.bool false), eqS (.bool false), eqS (.pointer (some ⟨w.heap.size, 3, none⟩)), eqS (.int .i64 d), eqS (.int .i64 0), eqS (.bool false), eqS (.bool false), eqS (.bool false), eqS (.pointer (some ⟨w.heap.size, 4, none⟩)), eqS (mapV s L G), eqS (.bool true), eqS (.bool false), eqS (.bool false), eqS (.bool false), eqS (.pointer (some ⟨w.heap.size, 4, none⟩)), eqS (mapV s L G), rdS I, eqS (.pointer (some ⟨w.heap.size, 3, none⟩)), eqS (.int .i64 d), eqS (.bool er), eqS (.bool (!er))] [] 71 (by kernel_rfl) (by kernel_rfl) (by rfl) (by kernel_rfl) (fun f => by simp [frm, dstOf, Act.put]; exact rfl) ?_ ?_
        · refine ⟨?_, ?_, ?_, ?_, ?_, ?_, ?_, ?_, ?_, ?_, ?_, ?_, ?_, ?_, ?_, ?_, ?_, ?_, ?_, ?_, ?_, ?_, ?_, ?_, ?_, ?_, ?_, ?_, trivial⟩
          · intro f w1 hb hd
            clear hd
            dsimp only
            go_wp2_with fail
            exact ⟨rfl, Below.refl _ _, fun t ht => by injection ht with ht; subst ht; exact ⟨rfl, fun h => by simp at h⟩⟩
          · intro f w1 hb hd
            have d0 : f 0 = (.pointer (some ⟨w.heap.size, 3, none⟩)) := hd 0 (by kernel_rfl)
            clear hd
            dsimp only
            rw [d0]
            have hx := HBx.out.below hb
            have x3 := hx.n3
            clear hx
            go_wp2_with fail
            exact ⟨rfl, Below.refl _ _, fun t ht => by injection ht with ht; subst ht; exact ⟨rfl, fun h => by simp at h⟩⟩
          · intro f w1 hb hd
            have d1 : f 1 = (.int .i64 d) := hd 1 (by kernel_rfl)
            clear hd
            dsimp only
            rw [d1]
            go_wp2_with fail
            exact ⟨rfl, Below.refl _ _, fun t ht => by injection ht with ht; subst ht; exact ⟨rfl, fun h => by simp at h⟩⟩
          · intro f w1 hb hd
            have d2 : f 2 = (.bool false) := hd 2 (by kernel_rfl)
            clear hd
            dsimp only
            rw [d2]
            go_wp2_with fail
            exact ⟨rfl, Below.refl _ _, fun t ht => by injection ht with ht; subst ht; exact ⟨rfl, fun h => by simp at h⟩⟩
          · intro f w1 hb hd
            have d3 : f 3 = (.bool false) := hd 3 (by kernel_rfl)
            clear hd
            dsimp only
            rw [d3]
            go_wp2_with fail
            exact ⟨rfl, Below.refl _ _, fun t ht => by injection ht with ht; subst ht; exact ⟨rfl, fun h => by simp at h⟩⟩
          · intro f w1 hb hd
            have d3 : f 3 = (.bool false) := hd 3 (by kernel_rfl)
            have d4 : f 4 = (.pointer (some ⟨w.heap.size, 3, none⟩)) := hd 4 (by kernel_rfl)
            clear hd
            dsimp only
            rw [d3]
            rw [d4]
            have hx := HBx.out.below hb
            have x3 := hx.n3
            clear hx
            go_wp2_with fail
            exact ⟨rfl, Below.refl _ _, fun t ht => by injection ht with ht; subst ht; exact ⟨rfl, fun h => by simp at h⟩⟩
          · intro f w1 hb hd
            have d3 : f 3 = (.bool false) := hd 3 (by kernel_rfl)
            have d5 : f 5 = (.int .i64 d) := hd 5 (by kernel_rfl)
            clear hd
            dsimp only
            rw [d3]
            rw [d5]
            go_wp2_with fail
            exact ⟨rfl, Below.refl _ _, fun t ht => by injection ht with ht; subst ht; exact ⟨rfl, fun h => by simp at h⟩⟩
          · intro f w1 hb hd
            have d3 : f 3 = (.bool false) := hd 3 (by kernel_rfl)
            have d6 : f 6 = (.bool false) := hd 6 (by kernel_rfl)
            clear hd
            dsimp only
            rw [d3]
            rw [d6]
            go_wp2_with fail
            exact ⟨rfl, Below.refl _ _, fun t ht => by injection ht with ht; subst ht; exact ⟨rfl, fun h => by simp at h⟩⟩
          · intro f w1 hb hd
            have d7 : f 7 = (.bool false) := hd 7 (by kernel_rfl)
            clear hd
            dsimp only
            rw [d7]
            go_wp2_with fail
            exact ⟨rfl, Below.refl _ _, fun t ht => by injection ht with ht; subst ht; exact ⟨rfl, fun h => by simp at h⟩⟩
          · intro f w1 hb hd
            have d8 : f 8 = (.bool false) := hd 8 (by kernel_rfl)
            clear hd
            dsimp only
            rw [d8]
            go_wp2_with fail
            exact ⟨rfl, Below.refl _ _, fun t ht => by injection ht with ht; subst ht; exact ⟨rfl, fun h => by simp at h⟩⟩
          · intro f w1 hb hd
            have d8 : f 8 = (.bool false) := hd 8 (by kernel_rfl)
            have d9 : f 9 = (.pointer (some ⟨w.heap.size, 3, none⟩)) := hd 9 (by kernel_rfl)
            clear hd
            dsimp only
            rw [d8]
            rw [d9]
            have hx := HBx.out.below hb
            have x3 := hx.n3
            clear hx
            go_wp2_with fail
            exact ⟨rfl, Below.refl _ _, fun t ht => by injection ht with ht; subst ht; exact ⟨rfl, fun h => by simp at h⟩⟩
          · intro f w1 hb hd
            have d8 : f 8 = (.bool false) := hd 8 (by kernel_rfl)
            have d10 : f 10 = (.int .i64 d) := hd 10 (by kernel_rfl)
            clear hd
            dsimp only
            rw [d8]
            rw [d10]
            go_wp2_with fail
            exact ⟨rfl, Below.refl _ _, fun t ht => by injection ht with ht; subst ht; exact ⟨rfl, fun h => by simp at h⟩⟩
          · intro f w1 hb hd
            have d8 : f 8 = (.bool false) := hd 8 (by kernel_rfl)
            have d11 : f 11 = (.int .i64 0) := hd 11 (by kernel_rfl)
            clear hd
            dsimp only
            rw [d8]
            rw [d11]
            go_wp2_with fail
            exact ⟨rfl, Below.refl _ _, fun t ht => by injection ht with ht; subst ht; exact ⟨rfl, fun h => by simp at h⟩⟩
          · intro f w1 hb hd
            have d8 : f 8 = (.bool false) := hd 8 (by kernel_rfl)
            have d12 : f 12 = (.bool false) := hd 12 (by kernel_rfl)
            clear hd
            dsimp only
            rw [d8]
            rw [d12]
            go_wp2_with fail
            exact ⟨rfl, Below.refl _ _, fun t ht => by injection ht with ht; subst ht; exact ⟨rfl, fun h => by simp at h⟩⟩
          · intro f w1 hb hd
            have d13 : f 13 = (.bool false) := hd 13 (by kernel_rfl)
            clear hd
            dsimp only
            rw [d13]
            go_wp2_with fail
            exact ⟨rfl, Below.refl _ _, fun t ht => by injection ht with ht; subst ht; exact ⟨rfl, fun h => by simp at h⟩⟩
          · intro f w1 hb hd
            have d14 : f 14 = (.bool false) := hd 14 (by kernel_rfl)
            clear hd
            dsimp only
            rw [d14]
            go_wp2_with fail
            exact ⟨rfl, Below.refl _ _, fun t ht => by injection ht with ht; subst ht; exact ⟨rfl, fun h => by simp at h⟩⟩
          · intro f w1 hb hd
            have d14 : f 14 = (.bool false) := hd 14 (by kernel_rfl)
            have d15 : f 15 = (.pointer (some ⟨w.heap.size, 4, none⟩)) := hd 15 (by kernel_rfl)
            clear hd
            dsimp only
            rw [d14]
            rw [d15]
            have hx := HBx.out.below hb
            have m4 := hx.c0
            have m5 := hx.c1
            have m6 := hx.c2
            have m7 := hx.c3
            have m8 := hx.c4
            have m9 := hx.c5
            have m10 := hx.c6
            have m11 := hx.c7
            have m12 := hx.cl
            have m13 := hx.cg
            clear hx
            go_wp2_with fail
            exact ⟨rfl, Below.refl _ _, fun t ht => by injection ht with ht; subst ht; exact ⟨rfl, fun h => by simp at h⟩⟩
          · intro f w1 hb hd
            have d14 : f 14 = (.bool false) := hd 14 (by kernel_rfl)
            have d16 : f 16 = (mapV s L G) := hd 16 (by kernel_rfl)
            clear hd
            dsimp only
            rw [d14]
            rw [d16]
            go_wp2_with fail
            refine (HV.out w1 (bstep HB0.out hb)).mono ?_; rintro e w9 ⟨rfl, hb9⟩
            go_wp2_with fail
            exact ⟨rfl, hb9, fun t ht => by injection ht with ht; subst ht; exact ⟨rfl, fun h => by simp at h⟩⟩
          · intro f w1 hb hd
            have d14 : f 14 = (.bool false) := hd 14 (by kernel_rfl)
            have d17 : f 17 = (.bool true) := hd 17 (by kernel_rfl)
            clear hd
            dsimp only
            rw [d14]
            rw [d17]
            go_wp2_with fail
            exact ⟨rfl, Below.refl _ _, fun t ht => by injection ht with ht; subst ht; exact ⟨rfl, fun h => by simp at h⟩⟩
          · intro f w1 hb hd
            have d14 : f 14 = (.bool false) := hd 14 (by kernel_rfl)
            have d18 : f 18 = (.bool false) := hd 18 (by kernel_rfl)
            clear hd
            dsimp only
            rw [d14]
            rw [d18]
            go_wp2_with fail
            exact ⟨rfl, Below.refl _ _, fun t ht => by injection ht with ht; subst ht; exact ⟨rfl, fun h => by simp at h⟩⟩
          · intro f w1 hb hd
            have d19 : f 19 = (.bool false) := hd 19 (by kernel_rfl)
            clear hd
            dsimp only
            rw [d19]
            go_wp2_with fail
            exact ⟨rfl, Below.refl _ _, fun t ht => by injection ht with ht; subst ht; exact ⟨rfl, fun h => by simp at h⟩⟩
          · intro f w1 hb hd
            have d20 : f 20 = (.bool false) := hd 20 (by kernel_rfl)
            clear hd
            dsimp only
            rw [d20]
            go_wp2_with fail
            exact ⟨rfl, Below.refl _ _, fun t ht => by injection ht with ht; subst ht; exact ⟨rfl, fun h => by simp at h⟩⟩
          · intro f w1 hb hd
            have d20 : f 20 = (.bool false) := hd 20 (by kernel_rfl)
            have d21 : f 21 = (.pointer (some ⟨w.heap.size, 4, none⟩)) := hd 21 (by kernel_rfl)
            clear hd
            dsimp only
            rw [d20]
            rw [d21]
            have hx := HBx.out.below hb
            have m4 := hx.c0
            have m5 := hx.c1
            have m6 := hx.c2
            have m7 := hx.c3
            have m8 := hx.c4
            have m9 := hx.c5
            have m10 := hx.c6
            have m11 := hx.c7
            have m12 := hx.cl
            have m13 := hx.cg
            clear hx
            go_wp2_with fail
            exact ⟨rfl, Below.refl _ _, fun t ht => by injection ht with ht; subst ht; exact ⟨rfl, fun h => by simp at h⟩⟩
          · intro f w1 hb hd
            have d20 : f 20 = (.bool false) := hd 20 (by kernel_rfl)
            have d22 : f 22 = (mapV s L G) := hd 22 (by kernel_rfl)
            clear hd
            dsimp only
            rw [d20]
            rw [d22]
            go_wp2_with fail
            refine (HI.out w1 (bstep HB0.out hb)).mono ?_; rintro e w9 ⟨v9, rfl, ho9, hb9⟩
            go_wp2_with fail
            exact ⟨rfl, hb9, fun t ht => by injection ht with ht; subst ht; exact ⟨⟨_, rfl, OwnT.rd ho9⟩, fun h => by simp at h⟩⟩
          · intro f w1 hb hd
            have d20 : f 20 = (.bool false) := hd 20 (by kernel_rfl)
            clear hd
            dsimp only
            rw [d20]
            go_wp2_with fail
            exact ⟨rfl, Below.refl _ _, fun t ht => by injection ht with ht; subst ht; exact ⟨rfl, fun h => by simp at h⟩⟩
          · intro f w1 hb hd
            have d20 : f 20 = (.bool false) := hd 20 (by kernel_rfl)
            have d24 : f 24 = (.pointer (some ⟨w.heap.size, 3, none⟩)) := hd 24 (by kernel_rfl)
            clear hd
            dsimp only
            rw [d20]
            rw [d24]
            have hx := HBx.out.below hb
            have x3 := hx.n3
            clear hx
            go_wp2_with fail
            exact ⟨rfl, Below.refl _ _, fun t ht => by injection ht with ht; subst ht; exact ⟨rfl, fun h => by simp at h⟩⟩
          · intro f w1 hb hd
            have d20 : f 20 = (.bool false) := hd 20 (by kernel_rfl)
            obtain ⟨v23, d23, r23⟩ := show ∃ u, f 23 = u ∧ RdT w1 u I from hd 23 (by kernel_rfl)
            have d25 : f 25 = (.int .i64 d) := hd 25 (by kernel_rfl)
            clear hd
            dsimp only
            rw [d20]
            rw [d23]
            rw [d25]
            go_wp2_with fail
            refine (HEn.out w1 _ r23 hok).mono ?_; rintro e w9 ⟨rfl, hb9⟩
            go_wp2_with fail
            exact ⟨rfl, hb9, fun t ht => by injection ht with ht; subst ht; exact ⟨rfl, fun h => by simp at h⟩⟩
          · intro f w1 hb hd
            have d20 : f 20 = (.bool false) := hd 20 (by kernel_rfl)
            have d26 : f 26 = (.bool er) := hd 26 (by kernel_rfl)
            clear hd
            dsimp only
            rw [d20]
            rw [d26]
            go_wp2_with fail
            exact ⟨rfl, Below.refl _ _, fun t ht => by injection ht with ht; subst ht; exact ⟨rfl, fun h => by simp at h⟩⟩
        · intro f w5 hb hd hff
          clear hff
          have d19 : f 19 = (.bool false) := hd 19 (show 19 < 28 by decide)
          have d20 : f 20 = (.bool false) := hd 20 (show 20 < 28 by decide)
          have d27 : f 27 = (.bool (!er)) := hd 27 (show 27 < 28 by decide)
          try dsimp only
          rw [d19, d20, d27]
          clear hd d19 d20 d27
          have HX5 := Lib.hid (HBx.out.below hb)
          have HB5 := Lib.hid (bstep HB0.out hb)
          generalize f 0 = g0, f 1 = g1, f 2 = g2, f 3 = g3, f 4 = g4, f 5 = g5, f 6 = g6, f 7 = g7, f 8 = g8, f 9 = g9, f 10 = g10, f 11 = g11, f 12 = g12, f 13 = g13, f 14 = g14, f 15 = g15, f 16 = g16, f 17 = g17, f 18 = g18, f 21 = g21, f 22 = g22, f 23 = g23, f 24 = g24, f 25 = g25, f 26 = g26
          clear f
          have x3 := HX5.out.n3
          have x12 := HX5.out.cl
          have x13 := HX5.out.cg
          cases er
          · go_wp2_with fail
            go_ret
            exact ⟨ret_bool (by rw [HF.out, ← HR.out]; rfl), HB5.out⟩
          · go_wp2_with fail
            go_ret
            exact ⟨ret_bool (by rw [HF.out, ← HR.out]; rfl), HB5.out⟩
    · have HF := Lib.hid (HNs.out hB)
      have y3 := cell_by HBx.out.n3
      by_cases h1 : d < 16
      · have e1 : decide (d < 16) = true := decide_eq_true h1
        go_wp2_with fail
        refine wp_region_below (by kernel_rfl) (by kernel_rfl) ?_
        repeat (go_big_quiet_step (fail))
        refine wpQuiet_nil ?_
        intro w4 hw4
        obtain ⟨q, hw4⟩ := hw4
        subst hw4
        have HB4 := Lib.hid (bstep HB0.out q.h)
        go_wp2_with fail
        go_ret
        exact ⟨ret_bool HF.out.symm, HB4.out⟩
      · have e1 : decide (d < 16) = false := decide_eq_false h1
        by_cases h2 : 1048576 < d
        · have e2 : decide (1048576 < d) = true := decide_eq_true h2
          go_wp2_with fail
          refine wp_region_below (by kernel_rfl) (by kernel_rfl) ?_
          repeat (go_big_quiet_step (fail))
          refine wpQuiet_nil ?_
          intro w4 hw4
          obtain ⟨q, hw4⟩ := hw4
          subst hw4
          have HB4 := Lib.hid (bstep HB0.out q.h)
          go_wp2_with fail
          go_ret
          exact ⟨ret_bool HF.out.symm, HB4.out⟩
        · have e2 : decide (1048576 < d) = false := decide_eq_false h2
          have hdm : d.tmod 8 = d % 8 := Int.tmod_eq_emod_of_nonneg (by omega)
          have e3 : (d % 8 != 0) = true := bne_iff_ne.2 (fun e => hB ⟨by omega, by omega, e⟩)
          go_wp2_with fail
          refine wp_region_below (by kernel_rfl) (by kernel_rfl) ?_
          repeat (go_big_quiet_step (fail))
          refine wpQuiet_nil ?_
          intro w4 hw4
          obtain ⟨q, hw4⟩ := hw4
          subst hw4
          have HB4 := Lib.hid (bstep HB0.out q.h)
          go_wp2_with fail
          go_ret
          exact ⟨ret_bool HF.out.symm, HB4.out⟩
  · have HF := Lib.hid (HNo.out fun h => hA ⟨h.num.1, h.num.2, h.rev.1, h.rev.2, h.mode.1, h.mode.2⟩)
    have HnA := Lib.hid hA
    clear HNo HYes hres HV HI HM HEn HER hA
    obtain ⟨a, b, c, d, f, L, G⟩ := g
    dsimp only at *
    go_enter Tryz.func33, Tryz.ntmps33
    go_upto_region 1 with fail
    obtain ⟨W, hW⟩ : ∃ W, w.alloc (.cells (genC a b c d s L G) 27) = W := ⟨_, rfl⟩
    change Code.wp _ _ _ _ (w.alloc (.cells (genC a b c d s L G) 27))
    rw [hW] at HBx HB0 ⊢
    clear hW
    have x0 := HBx.out.n0
    have x1 := HBx.out.n1
    have x2 := HBx.out.n2
    go_upto_region 3 with fail
    all_goals first | (go_ret; exact ⟨ret_bool HF.out.symm, HB0.out⟩) | (exfalso; exact HnA.out ⟨by omega, by omega, by omega, by omega, by omega, by omega⟩)
end Go.Proofs.YtenkeodfijladaaGreatDoor

namespace Go.Proofs.YtenkeodfijladaaGreatDoor
open Go.RowKit

def freshG (n : Int) : Int × Gn := if 1 ≤ n ∧ n ≤ 8 then (0, fresh n) else (1, gn0)
set_option maxRecDepth 100000 in
set_option maxHeartbeats 4000000 in
theorem rfresh_any (n : Int) (w : World) : Calls Tryz.prog 24 #[.int .i64 n] w (GOwn w (freshG n)) := by
  have HG := Lib.hid (show freshG n = if 1 ≤ n ∧ n ≤ 8 then (0, fresh n) else (1, gn0) from rfl)
  generalize freshG n = TG at *
  have HR := Lib.hid (BoxG.new w 0 0 0 0 Sl.nil 0 0 27)
  have HB := Lib.hid (below_gen w 0 0 0 0 Sl.nil 0 0 27)
  have HR0 := Lib.hid (show ∀ W, OwnM W w.heap.size Sl.nil gn0.m.st from fun W => OwnM.nil W _)
  go_enter Tryz.func24, Tryz.ntmps24
  go_upto_region 1 with fail
  obtain ⟨W, hW⟩ : ∃ W, w.alloc (.cells (genC 0 0 0 0 Sl.nil 0 0) 27) = W := ⟨_, rfl⟩
  change Code.wp _ _ _ _ (w.alloc (.cells (genC 0 0 0 0 Sl.nil 0 0) 27))
  rw [hW] at HR HB ⊢
  clear hW
  by_cases h1 : n < 1
  · have HPR := Lib.hid (show TG = (1, gn0) by rw [HG.out, if_neg (by omega)])
    have e1 : decide (n < 1) = true := decide_eq_true h1
    clear HG
    have r0 := HR.out.n0
    have r1 := HR.out.n1
    have r2 := HR.out.n2
    have r3 := HR.out.n3
    have r4 := HR.out.c0
    have r5 := HR.out.c1
    have r6 := HR.out.c2
    have r7 := HR.out.c3
    have r8 := HR.out.c4
    have r9 := HR.out.c5
    have r10 := HR.out.c6
    have r11 := HR.out.c7
    have r12 := HR.out.cl
    have r13 := HR.out.cg
    have rf := HR.out.f
    go_wp2_with fail
    change bodyPost _ _ _ _ _ (pts W w.heap.size (genL 0 0 0 0 Sl.nil 0 0))
    have hby := HR.out.all 0 0 0 0 Sl.nil 0 0
    have HBz := Lib.hid (pts_below (B := w.heap.size) (b := w.heap.size) (by omega) (genL 0 0 0 0 Sl.nil 0 0) HB.out)
    have hrd := HR0.out (pts W w.heap.size (genL 0 0 0 0 Sl.nil 0 0))
    rw [HPR.out]
    generalize pts W w.heap.size (genL 0 0 0 0 Sl.nil 0 0) = V at *
    exact bodyPost_ret (v := .tuple #[genV 0 0 0 0 Sl.nil 0 0, .int .i64 1]) (by simp [results, Tryz.results24, go_sem, hby.n0, hby.n1, hby.n2, hby.n3, hby.c0, hby.c1, hby.c2, hby.c3, hby.c4, hby.c5, hby.c6, hby.c7, hby.cl, hby.cg]) rfl ⟨⟨_, rfl, hrd⟩, HBz.out⟩
  · have e1 : decide (n < 1) = false := decide_eq_false h1
    by_cases h2 : 8 < n
    · have HPR := Lib.hid (show TG = (1, gn0) by rw [HG.out, if_neg (by omega)])
      have e2 : decide (8 < n) = true := decide_eq_true h2
      clear HG
      have r0 := HR.out.n0
      have r1 := HR.out.n1
      have r2 := HR.out.n2
      have r3 := HR.out.n3
      have r4 := HR.out.c0
      have r5 := HR.out.c1
      have r6 := HR.out.c2
      have r7 := HR.out.c3
      have r8 := HR.out.c4
      have r9 := HR.out.c5
      have r10 := HR.out.c6
      have r11 := HR.out.c7
      have r12 := HR.out.cl
      have r13 := HR.out.cg
      have rf := HR.out.f
      go_wp2_with fail
      change bodyPost _ _ _ _ _ (pts W w.heap.size (genL 0 0 0 0 Sl.nil 0 0))
      have hby := HR.out.all 0 0 0 0 Sl.nil 0 0
      have HBz := Lib.hid (pts_below (B := w.heap.size) (b := w.heap.size) (by omega) (genL 0 0 0 0 Sl.nil 0 0) HB.out)
      have hrd := HR0.out (pts W w.heap.size (genL 0 0 0 0 Sl.nil 0 0))
      rw [HPR.out]
      generalize pts W w.heap.size (genL 0 0 0 0 Sl.nil 0 0) = V at *
      exact bodyPost_ret (v := .tuple #[genV 0 0 0 0 Sl.nil 0 0, .int .i64 1]) (by simp [results, Tryz.results24, go_sem, hby.n0, hby.n1, hby.n2, hby.n3, hby.c0, hby.c1, hby.c2, hby.c3, hby.c4, hby.c5, hby.c6, hby.c7, hby.cl, hby.cg]) rfl ⟨⟨_, rfl, hrd⟩, HBz.out⟩
    · have HPR := Lib.hid (show TG = (0, fresh n) by rw [HG.out, if_pos (by omega)])
      have e2 : decide (8 < n) = false := decide_eq_false h2
      clear HG
      have r0 := HR.out.n0
      have r1 := HR.out.n1
      have r2 := HR.out.n2
      have r3 := HR.out.n3
      have r4 := HR.out.c0
      have r5 := HR.out.c1
      have r6 := HR.out.c2
      have r7 := HR.out.c3
      have r8 := HR.out.c4
      have r9 := HR.out.c5
      have r10 := HR.out.c6
      have r11 := HR.out.c7
      have r12 := HR.out.cl
      have r13 := HR.out.cg
      have rf := HR.out.f
      go_wp2_with fail
      change bodyPost _ _ _ _ _ (pts W w.heap.size (genL n 0 1 16 Sl.nil 0 0))
      have hby := HR.out.all n 0 1 16 Sl.nil 0 0
      have HBz := Lib.hid (pts_below (B := w.heap.size) (b := w.heap.size) (by omega) (genL n 0 1 16 Sl.nil 0 0) HB.out)
      have hrd := HR0.out (pts W w.heap.size (genL n 0 1 16 Sl.nil 0 0))
      rw [HPR.out]
      generalize pts W w.heap.size (genL n 0 1 16 Sl.nil 0 0) = V at *
      exact bodyPost_ret (v := .tuple #[genV n 0 1 16 Sl.nil 0 0, .int .i64 0]) (by simp [results, Tryz.results24, go_sem, hby.n0, hby.n1, hby.n2, hby.n3, hby.c0, hby.c1, hby.c2, hby.c3, hby.c4, hby.c5, hby.c6, hby.c7, hby.cl, hby.cg]) rfl ⟨⟨_, rfl, hrd⟩, HBz.out⟩
set_option maxRecDepth 100000 in
set_option maxHeartbeats 4000000 in
theorem moded_any (g : Gn) (s : Sl) (frm : Int) (w : World) (h : RdM w s g.m.st) (hs : ∀ i, i < 8 → (g.m.st i).length ≤ 10000) :
    Calls Tryz.prog 41 #[genV g.num g.rev g.mode g.size s g.m.live g.m.garb, .int .i64 frm, .int .i64 (frm + 1)] w (GOO w s g.m.st (turnG g frm)) := by
  have HV := Lib.hid (fun W (hb : Below w.heap.size w W) => rgvalid_any g s W (h.below hb) hs)
  have HR0 := Lib.hid (show ∀ W, OldOwn W w.heap.size s g.m.st Sl.nil gn0.m.st from fun W => OldOwn.nil W _ _ _)
  have HRf := Lib.hid (show ∀ W, OldOwn W w.heap.size s g.m.st s g.m.st from fun W => OldOwn.refl W _ _ _)
  have HG := Lib.hid (show turnG g frm = if vldG g = true then (if g.mode = frm then (0, { g with mode := frm + 1 }) else (12, gn0)) else (1, gn0) from rfl)
  generalize vldG g = vb at *
  obtain ⟨n, r, md, z, ⟨f, L, G⟩⟩ := g
  dsimp only at *
  generalize turnG ⟨n, r, md, z, ⟨f, L, G⟩⟩ frm = TG at *
  obtain ⟨W, hW, hbx, hbr, hbw⟩ := two_box w n r md z s L G 27
  have HX := Lib.hid hbx
  have HR := Lib.hid hbr
  have HB := Lib.hid hbw
  clear hbx hbr hbw h hs
  generalize hmt : frm + 1 = mt at *
  clear hmt
  go_enter Tryz.func41, Tryz.ntmps41
  go_upto_region 1 with fail
  change Code.wp _ _ _ _ ((w.alloc (.cells (genC n r md z s L G) 27)).alloc (.cells (genC 0 0 0 0 Sl.nil 0 0) 27))
  rw [hW]
  clear hW
  have x0 := HX.out.n0
  have x1 := HX.out.n1
  have x2 := HX.out.n2
  have x3 := HX.out.n3
  have x4 := HX.out.c0
  have x5 := HX.out.c1
  have x6 := HX.out.c2
  have x7 := HX.out.c3
  have x8 := HX.out.c4
  have x9 := HX.out.c5
  have x10 := HX.out.c6
  have x11 := HX.out.c7
  have x12 := HX.out.cl
  have x13 := HX.out.cg
  go_wp2_with fail
  refine (HV.out _ HB.out).mono ?_
  rintro e w1 ⟨rfl, hb1⟩
  have HX1 := Lib.hid (HX.out.below hb1)
  have HR1 := Lib.hid (HR.out.below hb1)
  have HB1 := Lib.hid (bstep HB.out hb1)
  clear x0 x1 x2 x3 x4 x5 x6 x7 x8 x9 x10 x11 x12 x13
  clear hb1 HX HR HB HV
  have hlr := HR1.out.lt
  cases vb
  · have HPR := Lib.hid (show TG = (1, gn0) from HG.out)
    have r0 := HR1.out.n0
    have r1 := HR1.out.n1
    have r2 := HR1.out.n2
    have r3 := HR1.out.n3
    have r4 := HR1.out.c0
    have r5 := HR1.out.c1
    have r6 := HR1.out.c2
    have r7 := HR1.out.c3
    have r8 := HR1.out.c4
    have r9 := HR1.out.c5
    have r10 := HR1.out.c6
    have r11 := HR1.out.c7
    have r12 := HR1.out.cl
    have r13 := HR1.out.cg
    have rf := HR1.out.f
    go_wp2_with fail
    change bodyPost _ _ _ _ _ (pts w1 (w.heap.size + 1) (genL 0 0 0 0 Sl.nil 0 0))
    have hby := HR1.out.all 0 0 0 0 Sl.nil 0 0
    have HBz := Lib.hid (pts_below (B := w.heap.size) (b := (w.heap.size + 1)) (by omega) (genL 0 0 0 0 Sl.nil 0 0) HB1.out)
    have hrd := HR0.out (pts w1 (w.heap.size + 1) (genL 0 0 0 0 Sl.nil 0 0))
    rw [HPR.out]
    generalize pts w1 (w.heap.size + 1) (genL 0 0 0 0 Sl.nil 0 0) = V at *
    exact bodyPost_ret (v := .tuple #[genV 0 0 0 0 Sl.nil 0 0, .int .i64 1]) (by simp [results, Tryz.results41, go_sem, hby.n0, hby.n1, hby.n2, hby.n3, hby.c0, hby.c1, hby.c2, hby.c3, hby.c4, hby.c5, hby.c6, hby.c7, hby.cl, hby.cg]) rfl ⟨⟨_, rfl, hrd⟩, HBz.out⟩
  · by_cases hm : md = frm
    · subst hm
      have HPR := Lib.hid (show TG = (0, ⟨n, r, mt, z, ⟨f, L, G⟩⟩) by rw [HG.out, if_pos rfl, if_pos rfl])
      clear HG
      have x0 := HX1.out.n0
      have x1 := HX1.out.n1
      have x2 := HX1.out.n2
      have x3 := HX1.out.n3
      have x4 := HX1.out.c0
      have x5 := HX1.out.c1
      have x6 := HX1.out.c2
      have x7 := HX1.out.c3
      have x8 := HX1.out.c4
      have x9 := HX1.out.c5
      have x10 := HX1.out.c6
      have x11 := HX1.out.c7
      have x12 := HX1.out.cl
      have x13 := HX1.out.cg
      have xf := HX1.out.f
      go_upto_region 6 with fail
      change Code.wp _ _ _ _ (pts w1 w.heap.size [(2, .int .i64 mt)])
      have HX2 := Lib.hid (HX1.out.num2 mt)
      have HR2 := Lib.hid (HR1.out.pts_ne (show w.heap.size + 1 ≠ w.heap.size by omega) [(2, .int .i64 mt)])
      have HB2 := Lib.hid (pts_below (B := w.heap.size) (b := w.heap.size) (Nat.le_refl _) [(2, .int .i64 mt)] HB1.out)
      generalize pts w1 w.heap.size [(2, .int .i64 mt)] = w2 at *
      clear x0 x1 x2 x3 x4 x5 x6 x7 x8 x9 x10 x11 x12 x13 xf
      clear HX1 HR1 HB1
      have x0 := HX2.out.n0
      have x1 := HX2.out.n1
      have x2 := HX2.out.n2
      have x3 := HX2.out.n3
      have x4 := HX2.out.c0
      have x5 := HX2.out.c1
      have x6 := HX2.out.c2
      have x7 := HX2.out.c3
      have x8 := HX2.out.c4
      have x9 := HX2.out.c5
      have x10 := HX2.out.c6
      have x11 := HX2.out.c7
      have x12 := HX2.out.cl
      have x13 := HX2.out.cg
      have r0 := HR2.out.n0
      have r1 := HR2.out.n1
      have r2 := HR2.out.n2
      have r3 := HR2.out.n3
      have r4 := HR2.out.c0
      have r5 := HR2.out.c1
      have r6 := HR2.out.c2
      have r7 := HR2.out.c3
      have r8 := HR2.out.c4
      have r9 := HR2.out.c5
      have r10 := HR2.out.c6
      have r11 := HR2.out.c7
      have r12 := HR2.out.cl
      have r13 := HR2.out.cg
      have rf := HR2.out.f
      go_wp2_with fail
      change bodyPost _ _ _ _ _ (pts w2 (w.heap.size + 1) (genL n r mt z s L G))
      have hby := HR2.out.all n r mt z s L G
      have HBz := Lib.hid (pts_below (B := w.heap.size) (b := (w.heap.size + 1)) (by omega) (genL n r mt z s L G) HB2.out)
      have hrd := HRf.out (pts w2 (w.heap.size + 1) (genL n r mt z s L G))
      rw [HPR.out]
      generalize pts w2 (w.heap.size + 1) (genL n r mt z s L G) = V at *
      exact bodyPost_ret (v := .tuple #[genV n r mt z s L G, .int .i64 0]) (by simp [results, Tryz.results41, go_sem, hby.n0, hby.n1, hby.n2, hby.n3, hby.c0, hby.c1, hby.c2, hby.c3, hby.c4, hby.c5, hby.c6, hby.c7, hby.cl, hby.cg]) rfl ⟨⟨_, rfl, hrd⟩, HBz.out⟩
    · have HPR := Lib.hid (show TG = (12, gn0) by rw [HG.out, if_pos rfl, if_neg hm])
      have e0 : (md == frm) = false := beq_eq_false_iff_ne.2 hm
      clear HG
      have x0 := HX1.out.n0
      have x1 := HX1.out.n1
      have x2 := HX1.out.n2
      have x3 := HX1.out.n3
      have x4 := HX1.out.c0
      have x5 := HX1.out.c1
      have x6 := HX1.out.c2
      have x7 := HX1.out.c3
      have x8 := HX1.out.c4
      have x9 := HX1.out.c5
      have x10 := HX1.out.c6
      have x11 := HX1.out.c7
      have x12 := HX1.out.cl
      have x13 := HX1.out.cg
      have r0 := HR1.out.n0
      have r1 := HR1.out.n1
      have r2 := HR1.out.n2
      have r3 := HR1.out.n3
      have r4 := HR1.out.c0
      have r5 := HR1.out.c1
      have r6 := HR1.out.c2
      have r7 := HR1.out.c3
      have r8 := HR1.out.c4
      have r9 := HR1.out.c5
      have r10 := HR1.out.c6
      have r11 := HR1.out.c7
      have r12 := HR1.out.cl
      have r13 := HR1.out.cg
      have rf := HR1.out.f
      go_wp2_with fail
      change bodyPost _ _ _ _ _ (pts w1 (w.heap.size + 1) (genL 0 0 0 0 Sl.nil 0 0))
      have hby := HR1.out.all 0 0 0 0 Sl.nil 0 0
      have HBz := Lib.hid (pts_below (B := w.heap.size) (b := (w.heap.size + 1)) (by omega) (genL 0 0 0 0 Sl.nil 0 0) HB1.out)
      have hrd := HR0.out (pts w1 (w.heap.size + 1) (genL 0 0 0 0 Sl.nil 0 0))
      rw [HPR.out]
      generalize pts w1 (w.heap.size + 1) (genL 0 0 0 0 Sl.nil 0 0) = V at *
      exact bodyPost_ret (v := .tuple #[genV 0 0 0 0 Sl.nil 0 0, .int .i64 12]) (by simp [results, Tryz.results41, go_sem, hby.n0, hby.n1, hby.n2, hby.n3, hby.c0, hby.c1, hby.c2, hby.c3, hby.c4, hby.c5, hby.c6, hby.c7, hby.cl, hby.cg]) rfl ⟨⟨_, rfl, hrd⟩, HBz.out⟩
set_option maxRecDepth 100000 in
set_option maxHeartbeats 4000000 in
theorem rfreeze_any (g : Gn) (s : Sl) (w : World) (h : RdM w s g.m.st) (hs : ∀ i, i < 8 → (g.m.st i).length ≤ 10000) :
    Calls Tryz.prog 16 #[genV g.num g.rev g.mode g.size s g.m.live g.m.garb] w (GOO w s g.m.st (turnG g 1)) := by
  have HT := Lib.hid (fun W (hb : Below w.heap.size w W) => moded_any g s 1 W (h.below hb) hs)
  rw [show (1 : Int) + 1 = 2 from rfl] at HT
  clear hs
  generalize turnG g 1 = TG at *
  obtain ⟨n, r, md, z, ⟨f, L, G⟩⟩ := g
  dsimp only at *
  obtain ⟨W, hW, hbx, hbr, hbw⟩ := two_box w n r md z s L G 27
  have HX := Lib.hid hbx
  have HR := Lib.hid hbr
  have HB := Lib.hid hbw
  clear hbx hbr hbw h
  go_enter Tryz.func16, Tryz.ntmps16
  go_upto_region 1 with fail
  change Code.wp _ _ _ _ ((w.alloc (.cells (genC n r md z s L G) 27)).alloc (.cells (genC 0 0 0 0 Sl.nil 0 0) 27))
  rw [hW]
  clear hW
  have x0 := HX.out.n0
  have x1 := HX.out.n1
  have x2 := HX.out.n2
  have x3 := HX.out.n3
  have x4 := HX.out.c0
  have x5 := HX.out.c1
  have x6 := HX.out.c2
  have x7 := HX.out.c3
  have x8 := HX.out.c4
  have x9 := HX.out.c5
  have x10 := HX.out.c6
  have x11 := HX.out.c7
  have x12 := HX.out.cl
  have x13 := HX.out.cg
  go_wp2_with fail
  refine (HT.out _ HB.out).mono ?_
  rintro e w1 ⟨⟨t, rfl, hr⟩, hb⟩
  have HRd := Lib.hid (hr.mono (show w.heap.size + 2 ≤ W.heap.size by have := HR.out.lt; omega))
  have HR1 := Lib.hid (HR.out.below hb)
  have HB1 := Lib.hid (bstep HB.out hb)
  have hlr := HR.out.lt
  clear x0 x1 x2 x3 x4 x5 x6 x7 x8 x9 x10 x11 x12 x13
  clear hr HX HT HR HB
  obtain ⟨er, ⟨n', r', md', z', ⟨f', L', G'⟩⟩⟩ := TG
  dsimp only at *
  have r0 := HR1.out.n0
  have r1 := HR1.out.n1
  have r2 := HR1.out.n2
  have r3 := HR1.out.n3
  have r4 := HR1.out.c0
  have r5 := HR1.out.c1
  have r6 := HR1.out.c2
  have r7 := HR1.out.c3
  have r8 := HR1.out.c4
  have r9 := HR1.out.c5
  have r10 := HR1.out.c6
  have r11 := HR1.out.c7
  have r12 := HR1.out.cl
  have r13 := HR1.out.cg
  have rf := HR1.out.f
  go_wp2_with fail
  change bodyPost _ _ _ _ _ (pts w1 (w.heap.size + 1) (genL n' r' md' z' t L' G'))
  have hby := HR1.out.all n' r' md' z' t L' G'
  have HBz := Lib.hid (pts_below (B := w.heap.size) (b := (w.heap.size + 1)) (by omega) (genL n' r' md' z' t L' G') HB1.out)
  have hrd := (HRd.out.pts (show w.heap.size + 1 < w.heap.size + 2 by omega) (genL n' r' md' z' t L' G')).mono (show w.heap.size ≤ w.heap.size + 2 by omega)
  generalize pts w1 (w.heap.size + 1) (genL n' r' md' z' t L' G') = V at *
  exact bodyPost_ret (v := .tuple #[genV n' r' md' z' t L' G', .int .i64 er]) (by simp [results, Tryz.results16, go_sem, hby.n0, hby.n1, hby.n2, hby.n3, hby.c0, hby.c1, hby.c2, hby.c3, hby.c4, hby.c5, hby.c6, hby.c7, hby.cl, hby.cg]) rfl ⟨⟨_, rfl, hrd⟩, HBz.out⟩
set_option maxRecDepth 100000 in
set_option maxHeartbeats 4000000 in
theorem rseal_any (g : Gn) (s : Sl) (w : World) (h : RdM w s g.m.st) (hs : ∀ i, i < 8 → (g.m.st i).length ≤ 10000) :
    Calls Tryz.prog 18 #[genV g.num g.rev g.mode g.size s g.m.live g.m.garb] w (GOO w s g.m.st (turnG g 2)) := by
  have HT := Lib.hid (fun W (hb : Below w.heap.size w W) => moded_any g s 2 W (h.below hb) hs)
  rw [show (2 : Int) + 1 = 3 from rfl] at HT
  clear hs
  generalize turnG g 2 = TG at *
  obtain ⟨n, r, md, z, ⟨f, L, G⟩⟩ := g
  dsimp only at *
  obtain ⟨W, hW, hbx, hbr, hbw⟩ := two_box w n r md z s L G 27
  have HX := Lib.hid hbx
  have HR := Lib.hid hbr
  have HB := Lib.hid hbw
  clear hbx hbr hbw h
  go_enter Tryz.func18, Tryz.ntmps18
  go_upto_region 1 with fail
  change Code.wp _ _ _ _ ((w.alloc (.cells (genC n r md z s L G) 27)).alloc (.cells (genC 0 0 0 0 Sl.nil 0 0) 27))
  rw [hW]
  clear hW
  have x0 := HX.out.n0
  have x1 := HX.out.n1
  have x2 := HX.out.n2
  have x3 := HX.out.n3
  have x4 := HX.out.c0
  have x5 := HX.out.c1
  have x6 := HX.out.c2
  have x7 := HX.out.c3
  have x8 := HX.out.c4
  have x9 := HX.out.c5
  have x10 := HX.out.c6
  have x11 := HX.out.c7
  have x12 := HX.out.cl
  have x13 := HX.out.cg
  go_wp2_with fail
  refine (HT.out _ HB.out).mono ?_
  rintro e w1 ⟨⟨t, rfl, hr⟩, hb⟩
  have HRd := Lib.hid (hr.mono (show w.heap.size + 2 ≤ W.heap.size by have := HR.out.lt; omega))
  have HR1 := Lib.hid (HR.out.below hb)
  have HB1 := Lib.hid (bstep HB.out hb)
  have hlr := HR.out.lt
  clear x0 x1 x2 x3 x4 x5 x6 x7 x8 x9 x10 x11 x12 x13
  clear hr HX HT HR HB
  obtain ⟨er, ⟨n', r', md', z', ⟨f', L', G'⟩⟩⟩ := TG
  dsimp only at *
  have r0 := HR1.out.n0
  have r1 := HR1.out.n1
  have r2 := HR1.out.n2
  have r3 := HR1.out.n3
  have r4 := HR1.out.c0
  have r5 := HR1.out.c1
  have r6 := HR1.out.c2
  have r7 := HR1.out.c3
  have r8 := HR1.out.c4
  have r9 := HR1.out.c5
  have r10 := HR1.out.c6
  have r11 := HR1.out.c7
  have r12 := HR1.out.cl
  have r13 := HR1.out.cg
  have rf := HR1.out.f
  go_wp2_with fail
  change bodyPost _ _ _ _ _ (pts w1 (w.heap.size + 1) (genL n' r' md' z' t L' G'))
  have hby := HR1.out.all n' r' md' z' t L' G'
  have HBz := Lib.hid (pts_below (B := w.heap.size) (b := (w.heap.size + 1)) (by omega) (genL n' r' md' z' t L' G') HB1.out)
  have hrd := (HRd.out.pts (show w.heap.size + 1 < w.heap.size + 2 by omega) (genL n' r' md' z' t L' G')).mono (show w.heap.size ≤ w.heap.size + 2 by omega)
  generalize pts w1 (w.heap.size + 1) (genL n' r' md' z' t L' G') = V at *
  exact bodyPost_ret (v := .tuple #[genV n' r' md' z' t L' G', .int .i64 er]) (by simp [results, Tryz.results18, go_sem, hby.n0, hby.n1, hby.n2, hby.n3, hby.c0, hby.c1, hby.c2, hby.c3, hby.c4, hby.c5, hby.c6, hby.c7, hby.cl, hby.cg]) rfl ⟨⟨_, rfl, hrd⟩, HBz.out⟩
set_option maxRecDepth 100000 in
set_option maxHeartbeats 4000000 in
theorem ggiven_any (n r md z : Int) (s : Sl) (L G : Int) (w : World) : Calls Tryz.prog 9 #[genV n r md z s L G] w fun e w' => e = .returned (genV n r md z s L G) ∧ Below w.heap.size w w' := by
  obtain ⟨W0, hW0⟩ : ∃ W, w.alloc (.cells (genC n r md z s L G) 27) = W := ⟨_, rfl⟩
  have HX0 := Lib.hid (show BoxG W0 w.heap.size n r md z s L G from hW0 ▸ BoxG.new w n r md z s L G 27)
  have HB0 := Lib.hid (show Below w.heap.size w W0 from hW0 ▸ below_gen w n r md z s L G 27)
  have HR := Lib.hid (BoxG.new W0 0 0 0 0 Sl.nil 0 0 43)
  have HX := Lib.hid (HX0.out.below (below_gen W0 0 0 0 0 Sl.nil 0 0 43))
  have HB := Lib.hid (bstep HB0.out (below_gen W0 0 0 0 0 Sl.nil 0 0 43))
  have hlz : w.heap.size ≤ W0.heap.size := HB0.out.size
  have hz0 : W0.heap.size = w.heap.size + 1 := by rw [← hW0]; simp
  go_enter Tryz.func9, Tryz.ntmps9
  go_upto_region 1 with fail
  change Code.wp _ _ _ _ (W0.alloc (.cells (genC 0 0 0 0 Sl.nil 0 0) 43))
  clear hW0 HX0 HB0
  obtain ⟨W, hW⟩ : ∃ W, W0.alloc (.cells (genC 0 0 0 0 Sl.nil 0 0) 43) = W := ⟨_, rfl⟩
  rw [hW] at HX HB HR ⊢
  clear hW
  rw [hz0] at HR
  clear hz0
  have x0 := HX.out.n0
  have x1 := HX.out.n1
  have x2 := HX.out.n2
  have x3 := HX.out.n3
  have x4 := HX.out.c0
  have x5 := HX.out.c1
  have x6 := HX.out.c2
  have x7 := HX.out.c3
  have x8 := HX.out.c4
  have x9 := HX.out.c5
  have x10 := HX.out.c6
  have x11 := HX.out.c7
  have x12 := HX.out.cl
  have x13 := HX.out.cg
  have r0 := HR.out.n0
  have r1 := HR.out.n1
  have r2 := HR.out.n2
  have r3 := HR.out.n3
  have r4 := HR.out.c0
  have r5 := HR.out.c1
  have r6 := HR.out.c2
  have r7 := HR.out.c3
  have r8 := HR.out.c4
  have r9 := HR.out.c5
  have r10 := HR.out.c6
  have r11 := HR.out.c7
  have r12 := HR.out.cl
  have r13 := HR.out.cg
  have rf := HR.out.f
  go_wp2_with fail
  change bodyPost _ _ _ _ _ (pts W (w.heap.size + 1) (genL n r md z s L G))
  have hby := HR.out.all n r md z s L G
  have HBz := Lib.hid (pts_below (B := w.heap.size) (b := w.heap.size + 1) (by omega) (genL n r md z s L G) HB.out)
  generalize pts W (w.heap.size + 1) (genL n r md z s L G) = V at *
  exact bodyPost_ret (v := genV n r md z s L G) (by simp [results, Tryz.results9, go_sem, hby.n0, hby.n1, hby.n2, hby.n3, hby.c0, hby.c1, hby.c2, hby.c3, hby.c4, hby.c5, hby.c6, hby.c7, hby.cl, hby.cg]) rfl ⟨rfl, HBz.out⟩
end Go.Proofs.YtenkeodfijladaaGreatDoor
