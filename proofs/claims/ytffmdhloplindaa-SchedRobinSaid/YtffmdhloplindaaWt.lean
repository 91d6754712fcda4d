/- SchedRobin: the walk. -/
import Derived.Test.YtffmdhloplindaaWo
import Derived.Test.YtffmdhloplindaaPr
namespace Go.Proofs.Ytffmdhloplindaa
open Go.RowKit Go.Maps

def lastR (k s : Nat) : Int := if s = 0 then -1 else 10 * (((s - 1) % k : Nat) : Int)
theorem next_robin {k s : Nat} (hk : 0 < k) (hk6 : k ≤ 6) : Pl.nextV (Pr.tasks k) (lastR k s) = 10 * ((s % k : Nat) : Int) := by
  unfold lastR
  by_cases h0 : s = 0
  · subst h0
    rw [if_pos rfl, Nat.zero_mod]
    have := Pl.next_at (l := Pr.tasks k) (last := -1) (i := 0) (by rw [Pr.tasks_length]; exact hk) (by rw [Pr.tasks_at hk]; decide) (fun j hj => by omega)
    rw [this, Pr.tasks_at hk]
  · rw [if_neg h0]
    have hr : (s - 1) % k < k := Nat.mod_lt _ hk
    by_cases h1 : (s - 1) % k + 1 < k
    · have e : s % k = (s - 1) % k + 1 := by
        obtain rfl | rfl | rfl | rfl | rfl | rfl : k = 1 ∨ k = 2 ∨ k = 3 ∨ k = 4 ∨ k = 5 ∨ k = 6 := by omega
        all_goals omega
      have := Pl.next_at (l := Pr.tasks k) (last := 10 * (((s - 1) % k : Nat) : Int)) (i := (s - 1) % k + 1) (by rw [Pr.tasks_length]; exact h1) (by rw [Pr.tasks_at h1]; omega) (fun j hj => by rw [Pr.tasks_at (by omega)]; omega)
      rw [this, Pr.tasks_at h1, e]
    · have e : s % k = 0 := by
        obtain rfl | rfl | rfl | rfl | rfl | rfl : k = 1 ∨ k = 2 ∨ k = 3 ∨ k = 4 ∨ k = 5 ∨ k = 6 := by omega
        all_goals omega
      have := Pl.next_no (l := Pr.tasks k) (last := 10 * (((s - 1) % k : Nat) : Int)) (fun j hj => by rw [Pr.tasks_length] at hj; rw [Pr.tasks_at hj]; omega)
      rw [this, Pr.tasks_at hk, e]
theorem next_tasks {k s : Nat} (hk : 0 < k) (hk6 : k ≤ 6) : nextW (Pr.tasks k) (lastR k s) = 10 * ((s % k : Nat) : Int) ∧ nextE (Pr.tasks k) = 0 := by
  have := next_yes (l := Pr.tasks k) (n := lastR k s) ⟨by rw [Pr.tasks_length]; exact hk, (Pl.asc_iff _).2 (Pr.tasks_asc k)⟩
  rw [this.1, next_robin hk hk6]
  exact ⟨rfl, this.2⟩

/-- How often each task has been picked. -/
def cf (k j : Nat) (x : Int) : Nat := if x % 10 = 0 ∧ 0 ≤ x ∧ x / 10 < (k : Int) then Pr.cnt k j (x / 10).toNat else 0
theorem cf_at {k j c : Nat} (hc : c < k) : cf k j (10 * (c : Int)) = Pr.cnt k j c := by
  unfold cf
  rw [if_pos (by omega), show (10 * (c : Int) / 10).toNat = c by omega]
theorem cf_zero {k : Nat} (hk : 0 < k) (x : Int) : cf k 0 x = 0 := by
  unfold cf
  split
  · exact Pr.cnt_zero hk
  · rfl
theorem cf_step {k j : Nat} (hk : 0 < k) (hk6 : k ≤ 6) (y : Int) : cf k (j + 1) y = if y = 10 * ((j % k : Nat) : Int) then cf k j (10 * ((j % k : Nat) : Int)) + 1 else cf k j y := by
  have hm : j % k < k := Nat.mod_lt _ hk
  by_cases e : y = 10 * ((j % k : Nat) : Int)
  · rw [if_pos e, e, cf_at hm, cf_at hm, Pr.cnt_step hk hk6 hm, if_pos rfl]
  · rw [if_neg e]
    unfold cf
    by_cases h : y % 10 = 0 ∧ 0 ≤ y ∧ y / 10 < (k : Int)
    · rw [if_pos h, if_pos h, Pr.cnt_step hk hk6 (by omega), if_neg (by omega)]
    · rw [if_neg h, if_neg h]
/-- The entries behind j steps; v: the list of tasks. -/
def rps (k : Nat) (v : Value) (j : Nat) : List (Value × En) := (List.range j).map fun i => (v, ⟨Pr.tasks k, 10 * ((i % k : Nat) : Int)⟩)
theorem rps_succ (k : Nat) (v : Value) (j : Nat) : (rps k v (j + 1)).flatMap enCells = (rps k v j).flatMap enCells ++ [v, .int .i64 (10 * ((j % k : Nat) : Int))] := by
  simp [rps, List.range_succ, enCells]
theorem rps_snd (k : Nat) (v : Value) (j : Nat) : (rps k v j).map Prod.snd = Pr.robin k j := by simp [rps, Pr.robin]

set_option maxHeartbeats 1000000 in
theorem robin_core (nb s : Nat) (w : World) (hn : nb < 256) (hs : s < 256) :
    Calls Try.prog 6 #[.int .u8 (nb : Int), .int .u8 (s : Int)] w fun e w' => e = .returned (.bool true) ∧ Below w.heap.size w w' := by
  obtain ⟨k, hk, hk1, hk6⟩ : ∃ k : Nat, 1 + (nb : Int) % 6 = (k : Int) ∧ 0 < k ∧ k ≤ 6 := ⟨1 + nb % 6, by omega, by omega, by omega⟩
  have hmm := @run_makeMap Try.prog
  go_enter Try.func6, Try.ntmps6
  go_wp2_with fail
  go_loopw [6, 7] (fun v iv wr => ∃ j : Nat, iv = .int .i64 (j : Int) ∧ j ≤ k ∧ wr.ownsRow w.heap.size 3 1 v (Pr.tasks j).length ((Pr.tasks j).map intV) ∧ Below w.heap.size w wr) (fun _ iv _ => k - (intOf iv).toNat)
  case atStart => exact ⟨0, rfl, by omega, World.ownsRow_nil _ _ _ _, Below.refl _ _⟩
  case round =>
    obtain ⟨j, rfl, hj, hown, hbel⟩ := hrel
    have Hown := Lib.hid hown
    have Hb := Lib.hid hbel
    have hB := hbel.size
    have HS := Lib.hid (Pr.tasks_succ j)
    have hlen := Pr.tasks_length j
    clear hown hbel
    by_cases hjk : j < k
    · go_wp2_with (at_builtin; refine wpList_app rfl (.tmp 26) (.tmp 29) 22 rfl elem22 w.heap.size rfl (Hown.out.alloc _) rfl (rd_one _ _ _) (one_map intV (fun _ => rfl) [10 * (j : Int)]) (by unfold maxLen; omega) (by omega) (by simp; omega) ?_; intro v2 w2 hown2 hgr2 hv2; clear hv2)
      have hO : w2.ownsRow w.heap.size 3 1 v2 (Pr.tasks (j + 1)).length ((Pr.tasks (j + 1)).map intV) := by rw [HS.out, List.length_append, map_snoc]; exact hown2
      exact ⟨⟨j + 1, by go_num, by omega, hO, own_below (Hb.out.alloc hB _) (Hown.out.alloc _) (by simp; omega) hgr2⟩, by simp [intOf]; omega⟩
    · obtain rfl : k = j := by omega
      have hrt : RdI wr _ (Pr.tasks k) := own_rdl Hown.out
      obtain ⟨ta, tc, rfl, htc⟩ := hrt.shape0
      clear htc Hown
      rw [hlen] at hrt
      rw [hlen]
      have HRt := Lib.hid hrt
      clear hrt
      go_wp2_with fail
      clear hmm
      obtain ⟨wo, ewo⟩ : ∃ wo : World, wo = wr := ⟨_, rfl⟩
      subst ewo
      have hmade : MapI (wo.alloc (.map #[] 0)) wo.heap.size 0 (.map []) := World.ownsMap_made wo _ _ _
      have HMd := Lib.hid hmade
      have HBa := Lib.hid ((Below.refl wo.heap.size wo).alloc (Nat.le_refl _) (.map #[] 0))
      have hwa : (wo.alloc (.map #[] 0)).heap.size = wo.heap.size + 1 := by simp
      clear hmade
      generalize (wo.alloc (.map #[] 0)) = wa at *
      generalize hmb : wo.heap.size = mb at *
      go_loopw [8, 9, 11] (fun lv lastv iv wr => ∃ j : Nat, iv = .int .i64 (j : Int) ∧ j ≤ s ∧ lastv = .int .i64 (lastR k j) ∧ wr.ownsRow (mb + 1) 37 2 lv j ((rps k (.slice ta k tc) j).flatMap enCells) ∧ (∃ N D, N ≤ j ∧ MapI wr mb N D ∧ Says D (cf k j)) ∧ Below mb wo wr) (fun _ _ iv _ => s - (intOf iv).toNat)
      case atStart => exact ⟨0, rfl, by omega, rfl, World.ownsRow_nil _ _ _ _, ⟨0, .map [], Nat.le_refl _, HMd.out, says_empty.congr fun x _ => (cf_zero hk1 x).symm⟩, HBa.out⟩
      case round =>
        obtain ⟨j, rfl, hjs, rfl, hown2, ⟨N, D, hN, hmap, hsay⟩, hbj⟩ := hrel
        have Hown := Lib.hid hown2
        have Hmap := Lib.hid hmap
        have Hsay := Lib.hid hsay
        have Hbj := Lib.hid hbj
        have hbs := hbj.size
        have hlt := hmap.lt
        clear hown2 hsay hbj
        by_cases hj : j < s
        · have HNx := Lib.hid (next_any _ (Pr.tasks k) (lastR k j) wr (HRt.out.below (by rw [hmb]; exact Hbj.out)) (by rw [hlen]; omega))
          have hnt := next_tasks (s := j) hk1 hk6
          rw [hnt.1, hnt.2] at HNx
          have hjk6 : j % k < k := Nat.mod_lt _ hk1
          have hcb := (Pr.cnt_bounds (s := j) hk1 hk6 hjk6).2
          rw [← cf_at hjk6] at hcb
          have hdv : j / k ≤ j := Nat.div_le_self _ _
          have HR := Lib.hid (rps_succ k (.slice ta k tc) j)
          have HCf := Lib.hid (fun y => cf_step (j := j) hk1 hk6 y)
          have HLr := Lib.hid (show lastR k (j + 1) = 10 * ((j % k : Nat) : Int) by unfold lastR; rw [if_neg (by omega)]; rfl)
          clear hnt
          generalize lastR k j = lj at *
          have ht0 : 0 ≤ (10 * ((j % k : Nat) : Int)) ∧ (10 * ((j % k : Nat) : Int)) ≤ 60 := by omega
          generalize (10 * ((j % k : Nat) : Int)) = t at *
          generalize hct : cf k j t = ct at *
          have HCt := Lib.hid hct
          have hwt : Wf t := WalkArith.wf_i64 (by omega)
          clear hct
          go_wp2_with fail
          refine HNx.out.mono ?_; rintro e w3 ⟨rfl, rfl⟩
          go_wp2_with (first | (at_builtin; refine wpList_app rfl (.tmp 46) (.tmp 50) 31 rfl elem31 (mb + 1) rfl (Hown.out.alloc _) rfl (rd_two _ _ _ _ _ (by simp)) (by intro u hu; simp at hu; rcases hu with rfl | rfl <;> rfl) (by unfold maxLen; omega) (by omega) (by simp; omega) ?_; intro v2 w2 hown3 hgr3 hv3; clear hv3; have hmap2 := (Hmap.out.alloc _).kept hgr3 (fun e => by have := (Hown.out.lt _ e.symm).1; omega)) | (at_lookup; refine wpList_lookup_own_int _ rfl (.tmp 53) (.tmp 54) 42 rfl 3 3 .i64 law3 Try.underlying42 Try.underlying3 (zero3 _) mb N D rfl hmap2 _ (key t) rfl (hkey hwt) ?_; intro c hat hwc; obtain rfl := (Hsay.out.look hwt hat).trans (congrArg Nat.cast HCt.out); clear hat hwc) | (at_mapUpdate; refine wpList_mapUpdate_own _ rfl (.tmp 53) (.tmp 54) (.tmp 56) 42 rfl 3 3 law3 Try.underlying42 _ mb N D rfl hmap2 (by unfold maxLen; omega) _ _ (key t) rfl rfl (hkey hwt) _ [] (plainElem_int Try.underlying3 (WalkArith.wf_i64 (by omega))) ?_; intro w4 hown4 hg4))
          have hob := own_below (Hbj.out.alloc (by omega) _) ((own_lower Hown.out (by omega)).alloc _) (by simp; omega) hgr3
          have hfin : Below mb wo w4 := hob.grown hg4 (by have := hob.size; omega) (by intro r hr; injection hr with hr; omega)
          exact ⟨⟨j + 1, by go_num, by omega, by rw [HLr.out], by rw [HR.out]; exact hown3.kept hg4 (.inr fun e => by have := (hown3.lt _ e).1; omega), ⟨N + 1, _, by omega, hown4, (Hsay.out.put t _ (ct + 1) (by omega)).congr fun y _ => (HCf.out y).symm⟩, hfin⟩, by simp [intOf]; omega⟩
        · obtain rfl : s = j := by omega
          have hrt2 := HRt.out.below (by rw [hmb]; exact Hbj.out)
          have hro := own_rde Hown.out (fun p hp => by obtain ⟨i, _, rfl⟩ := List.mem_map.1 hp; exact hrt2)
          rw [rps_snd] at hro
          obtain ⟨la, lc, rfl, hsh⟩ := hro.shape
          clear hsh
          have HRo := Lib.hid hro
          have HRt2 := Lib.hid hrt2
          clear hro hrt2
          go_wp2_with fail
          obtain ⟨wq, ewq⟩ : ∃ wq : World, wq = wr := ⟨_, rfl⟩
          subst ewq
          clear hmap
          go_loopw [59] (fun cv wr => ∃ c : Nat, cv = .int .i64 (c : Int) ∧ c ≤ k ∧ Below wq.heap.size wq wr) (fun cv _ => k - (intOf cv).toNat)
          case atStart => exact ⟨0, rfl, by omega, Below.refl _ _⟩
          case round =>
            obtain ⟨c, rfl, hck, hbc⟩ := hrel
            have Hbc := Lib.hid hbc
            have hm3 : MapI wr mb N D := Hmap.out.kept ⟨hbc.os, hbc.tape, hbc.output, hbc.size, fun k hk _ => hbc.block k hk⟩ (row := none) (by simp)
            clear hbc
            by_cases hc : c < k
            · have hr9 : RdI wr (.slice ta k tc) (Pr.tasks k) := HRt2.out.below Hbc.out
              obtain ⟨_, _, e9, _, _, _, hsh⟩ := hr9.shape0
              clear hr9
              injection e9 with e9 e9b e9c
              clear e9b
              subst e9
              subst e9c
              obtain ⟨br, offr, rfl, hcr⟩ := hsh (by rw [hlen]; omega)
              have hcell := hcr c (by rw [hlen]; omega)
              rw [Pr.tasks_at hc] at hcell
              have hwt : Wf (10 * (c : Int)) := WalkArith.wf_i64 (by omega)
              obtain ⟨q1, q2⟩ := Pr.cnt_bounds (s := s) hk1 hk6 hc
              have hct := cf_at (j := s) hc
              generalize Pr.cnt k s c = ct at *
              have HCt := Lib.hid hct
              have hq1 : (s : Int).tdiv (k : Int) = ((s / k : Nat) : Int) := rfl
              have hq2 : (s : Int) / (k : Int) = ((s / k : Nat) : Int) := rfl
              have hqs : s / k ≤ s := Nat.div_le_self _ _
              clear hct hcr hsh
              generalize s / k = qk at *
              go_wp2_with fail
              have hlk : ∀ n, (Instr.lookup 42 (.map (some mb)) (.int .i64 (10 * (c : Int))) false).run Try.prog (wr.drewN n) = .ok (.int .i64 (ct : Int)) (wr.drewN n) := fun n => by
                have hbn := below_drewN (Below.refl wr.heap.size wr) n
                have hmn : MapI (wr.drewN n) mb N D := hm3.kept ⟨hbn.os, hbn.tape, hbn.output, hbn.size, fun k hk _ => hbn.block k hk⟩ (row := none) (by simp)
                obtain ⟨c2, hrun, hat, hwc⟩ := hmn.lookup_int law3 Try.underlying42 Try.underlying3 (zero3 _) (hkey hwt)
                obtain rfl := (Hsay.out.look hwt hat).trans (congrArg Nat.cast HCt.out)
                exact hrun
              go_quiet (fail)
              go_wp2_with fail
              exact ⟨⟨c + 1, by go_num, by omega, below_drewN Hbc.out nq⟩, by simp [intOf]; omega⟩
            · obtain rfl : k = c := by omega
              have HRr := Lib.hid (HRo.out.below Hbc.out)
              have hval := Pr.robin_valid hk1 s
              have htiny : Tiny (Pr.robin k s) := ⟨by rw [Pr.robin_length]; omega, fun j hj => by rw [Pr.robin_length] at hj; rw [Pr.robin_at hj]; show (Pr.tasks k).length ≤ 1000; omega⟩
              have hwf : AllWf (Pr.robin k s) := fun e he x hx => by
                obtain ⟨i, _, rfl⟩ := List.mem_map.1 he
                obtain ⟨c, hc, rfl⟩ := Pr.of_mem hx
                exact WalkArith.wf_i64 (by omega)
              have HF := Lib.hid fun n w' (hb : Below wr.heap.size wr w') => fair_any _ (Pr.robin k s) n w' (HRr.out.below hb) htiny hwf
              have e1 : fairB (Pr.robin k s) (k : Int) = true := by have := Pr.worst_robin (s := s) hk1 hk6; unfold fairB; rw [hval, Bool.true_and, decide_eq_true_eq]; omega
              have e2 : 2 * k ≤ s → fairB (Pr.robin k s) ((k : Int) - 1) = false := fun h => by have := Pr.robin_worst hk1 hk6 h; unfold fairB; rw [hval, Bool.true_and, decide_eq_false_iff_not]; omega
              have HF1 := Lib.hid (HF.out (k : Int) wr (Below.refl _ _))
              rw [e1] at HF1
              clear htiny hwf hval e1
              have hB8 : Below wo.heap.size wo wr := bstep (by rw [hmb]; exact Hbj.out) Hbc.out
              have hB9 : Below w.heap.size w wr := bup Hb.out Hb.out.size hB8
              clear hB8
              have HB9 := Lib.hid hB9
              clear hB9
              have HE2 := Lib.hid e2
              clear e2 hck hc hm3 hlt hN hbs hjs hn hB
              go_wp2_with fail
              refine HF1.out.mono ?_; rintro e w5 ⟨rfl, hb5⟩
              have HB5 := Lib.hid hb5
              clear hb5
              by_cases h2k : (s : Int) < 2 * (k : Int)
              · go_wp2_with fail
                refine (awake_any _).mono ?_; rintro e w9 ⟨rfl, hb9⟩
                go_wp2_with fail
                go_ret
                exact ⟨rfl, bstep (bstep HB9.out HB5.out) hb9⟩
              · by_cases hk1' : k = 1
                · subst hk1'
                  go_wp2_with fail
                  refine (awake_any _).mono ?_; rintro e w9 ⟨rfl, hb9⟩
                  go_wp2_with fail
                  go_ret
                  exact ⟨rfl, bstep (bstep HB9.out HB5.out) hb9⟩
                · have hk1b : ((k : Int) == 1) = false := beq_eq_false_iff_ne.2 (by omega)
                  have HF2 := Lib.hid (HF.out ((k : Int) - 1) w5 HB5.out)
                  rw [HE2.out (by omega)] at HF2
                  clear hk1'
                  go_wp2_with fail
                  refine HF2.out.mono ?_; rintro e w6 ⟨rfl, hb6⟩
                  have HB6 := Lib.hid hb6
                  clear hb6
                  go_wp2_with fail
                  refine (awake_any _).mono ?_; rintro e w9 ⟨rfl, hb9⟩
                  go_wp2_with fail
                  go_ret
                  exact ⟨rfl, bstep (bstep (bstep HB9.out HB5.out) HB6.out) hb9⟩
theorem robin_walk (n s : Int) (w : World) (hn : (Lit.int .u8 n).wf = true) (hs : (Lit.int .u8 s).wf = true) :
    Calls Try.prog 6 #[.int .u8 n, .int .u8 s] w fun e w' => e = .returned (.bool true) ∧ Below w.heap.size w w' := by
  obtain ⟨m, rfl, hm⟩ := nat_of_u8 hn
  obtain ⟨k, rfl, hk⟩ := nat_of_u8 hs
  exact robin_core m k w hm hk
end Go.Proofs.Ytffmdhloplindaa
