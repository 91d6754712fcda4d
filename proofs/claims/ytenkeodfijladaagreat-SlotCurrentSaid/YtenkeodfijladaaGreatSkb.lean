/- made of the law of slots: the walk. Printed by mkSkb.py. -/
import Derived.Test.YtenkeodfijladaaGreatSC
import Derived.Test.YtenkeodfijladaaGreatGN
import Derived.Test.YtenkeodfijladaaGreatSB
import Derived.Test.YtenkeodfijladaaGreatGR
namespace Go.Proofs.YtenkeodfijladaaGreat
open Go.RowKit

theorem rchg_any (i l : Int) (r : Bool) (a : Option Addr) (n c : Nat) (L : List GP) (w : World) (h : RdG w (.slice a n c) L) (hs : ∀ p ∈ L, ∀ j, j < 8 → (p.1.m.st j).length ≤ 10000) (y : GP) (hy : RdM w y.2 y.1.m.st) (hyl : ∀ j, j < 8 → (y.1.m.st j).length ≤ 10000) : Calls Tryz.prog 54 #[sloV i l r a n c, genV y.1.num y.1.rev y.1.mode y.1.size y.2 y.1.m.live y.1.m.garb] w (SRes w (chgS ⟨i, l, r, gns L⟩ y.1)) := by
  cases hv : vldSl ⟨i, l, r, gns L⟩
  · exact rchg_no i l r a n c L w h hs y hy hyl hv
  · exact rchg_yes i l r a n c L w h hs y hy hyl hv
/-- The steps, in memory. -/
structure RdA (w : World) (v : Value) (ac : List AcP) : Prop where
  r : RdS 4 acC w v ac
  n : ∀ x ∈ ac, RdN w x.lv x.l ∧ (∀ p ∈ x.l, p.1.Wf) ∧ RdU w x.kv x.keys
theorem RdA.below {w w' : World} {v : Value} {ac : List AcP} (h : RdA w v ac) (hb : Below w.heap.size w w') : RdA w' v ac := ⟨RdS.below h.r hb, fun x hx => ⟨(h.n x hx).1.below hb, (h.n x hx).2.1, RdL.below (h.n x hx).2.2 hb⟩⟩
theorem RdA.shape {w : World} {v : Value} {ac : List AcP} (h : RdA w v ac) : ∃ a cap, v = .slice a ac.length cap ∧ ac.length ≤ cap ∧ cap ≤ maxLen := by
  obtain ⟨a, cap, h1, h2, h3, _⟩ := RdS.shape h.r (by decide) acP0
  exact ⟨a, cap, h1, h2, h3⟩
theorem RdA.at {w : World} {a : Option Addr} {n cap : Nat} {ac : List AcP} (h : RdA w (.slice a n cap) ac) {j : Nat} (hj : j < n) : ∃ b off, a = some ⟨b, off, none⟩ ∧ w.cell? ⟨b, off + j * 4, none⟩ = some (.int .i64 (acAt ac j).kind) ∧ w.cell? ⟨b, off + j * 4 + 1, none⟩ = some (acAt ac j).lv ∧ w.cell? ⟨b, off + j * 4 + 2, none⟩ = some (.int .i64 (acAt ac j).gen) ∧ w.cell? ⟨b, off + j * 4 + 3, none⟩ = some (acAt ac j).kv ∧ RdN w (acAt ac j).lv (acAt ac j).l ∧ (∀ p ∈ (acAt ac j).l, p.1.Wf) ∧ RdU w (acAt ac j).kv (acAt ac j).keys := by
  obtain ⟨a', cap', e, h2, h3, _, h5⟩ := RdS.shape h.r (by decide) acP0
  injection e with e1 e2 e3
  subst e1 e2 e3
  obtain ⟨b, off, e, hc⟩ := h5 (by omega)
  refine ⟨b, off, e, ?_, hc j hj 1 _ rfl, hc j hj 2 _ rfl, hc j hj 3 _ rfl, h.n _ (acAt_mem hj)⟩
  have := hc j hj 0 _ rfl; rwa [Nat.add_zero] at this
def SlR (w0 : World) (p : Slt) (e : Ending) (w' : World) : Prop := (∃ a n c L, e = .returned (sloV p.id p.lim p.ro a n c) ∧ RdG w' (.slice a n c) L ∧ gns L = p.gens) ∧ Below w0.heap.size w0 w'
theorem i64_and3 (n : Int) : bits .and .i64 n 3 = n % 4 := by
  have hm : (BitVec.ofInt 64 3).toNat = 2 ^ 2 - 1 := by decide
  have key : (BitVec.ofInt 64 n &&& BitVec.ofInt 64 3).toNat = (n % ((2 ^ 64 : Nat) : Int)).toNat % 2 ^ 2 := by
    rw [BitVec.toNat_and, BitVec.toNat_ofInt, hm, Nat.and_two_pow_sub_one_eq_mod]
  show IntKind.i64.wrap ((BitVec.ofInt 64 n &&& BitVec.ofInt 64 3).toNat : Nat) = n % 4
  rw [key, IntKind.wrap_i64]
  omega
theorem mod_gen (g : Int) (m : Nat) (hm : 0 < m) : ∃ (t : Int) (k : Nat), g.tmod (m : Int) = t ∧ -(m : Int) < t ∧ t < (m : Int) ∧ (t + (m : Int)).tmod (m : Int) = (k : Int) ∧ (t + (m : Int)) % (m : Int) = (k : Int) ∧ k < m ∧ g % (m : Int) = (k : Int) := by
  have h0 := Int.emod_nonneg g (show (m : Int) ≠ 0 by omega)
  have h1 := Int.emod_lt_of_pos g (show (0 : Int) < (m : Int) by omega)
  have h2 := Int.lt_tmod_of_pos g (show (0 : Int) < (m : Int) by omega)
  have h3 := Int.tmod_lt_of_pos g (show (0 : Int) < (m : Int) by omega)
  have h4 : (g.tmod (m : Int) + (m : Int)) % (m : Int) = g % (m : Int) := by
    rw [Int.add_emod_right, Int.tmod_def, Int.sub_mul_emod_self_left]
  refine ⟨g.tmod (m : Int), (g % (m : Int)).toNat, rfl, by omega, h3, ?_, by omega, by omega, by omega⟩
  rw [Int.tmod_eq_emod_of_nonneg (by omega), h4]
  omega
theorem addG_len {K : Nat} (g : Gn) (l : List Nd) (h : ∀ i, i < 8 → (g.m.st i).length ≤ K) : ∀ i, i < 8 → ((addG g l).2.m.st i).length ≤ K + l.length := fun i hi => by
  unfold addG
  split
  · split
    · split
      · exact addAll_len l g h i hi
      · exact Nat.zero_le _
    · exact Nat.zero_le _
  · exact Nat.zero_le _
theorem killG_len {K : Nat} (g : Gn) (l : List Int) (h : ∀ i, i < 8 → (g.m.st i).length ≤ K) : ∀ i, i < 8 → ((killG g l).2.m.st i).length ≤ K := fun i hi => by
  unfold killG
  split
  · split
    · exact Nat.zero_le _
    · exact delAll_len l g.m h i hi
  · exact Nat.zero_le _
def AcE (W : World) (b : Nat) (kind : Int) (l : Value) (g : Int) (k : Value) : Prop := BlkE W b #[.int .i64 kind, l, .int .i64 g, k] 129
set_option maxRecDepth 100000 in
set_option maxHeartbeats 32000000 in
theorem smade_any (v : Value) (ac : List AcP) (w : World) (h : RdA w v ac) : Calls Tryz.prog 13 #[v] w (SlR w (madeS ac)) := by
  obtain ⟨va, vc, rfl, hv1, hv2⟩ := h.shape
  have HA := Lib.hid h
  have HIn := Lib.hid (fun k (hk : k ≤ ac.length) => stepsS_inv ac k hk)
  have HSn := Lib.hid (fun k (hk : k < ac.length) => stepsS_snoc ac k hk)
  have HEnd := Lib.hid (show ∀ k, (k = 8 ∨ (k = ac.length ∧ k ≤ 8)) → madeS ac = stepsS sl0 (ac.take k) from fun k hk => by
    unfold madeS
    rcases hk with rfl | ⟨rfl, hk⟩
    · rfl
    · rw [List.take_of_length_le hk, List.take_of_length_le (Nat.le_refl _)])
  have hcap : ac.length ≤ 9223372036854775807 := Nat.le_trans hv1 hv2
  have HNw := Lib.hid (fun W => rnew_slot 1 9000 (by decide) W)
  clear h hv1 hv2
  generalize hn : ac.length = n at *
  clear hn
  go_enter Tryz.func13, Tryz.ntmps13
  go_upto_region 1 with fail
  change Code.wp _ _ _ _ (w.alloc (.cells (sloC 0 0 false none 0 0) 24))
  have HZ := Lib.hid (BlkE.new w (sloC 0 0 false none 0 0) 24)
  have HB := Lib.hid (below_slo w 0 0 false none 0 0 24)
  generalize w.alloc (.cells (sloC 0 0 false none 0 0) 24) = w0 at *
  go_wp2_with fail
  refine (HNw.out w0).mono ?_
  rintro e w1 ⟨b, rfl, hbb, hg, hb⟩
  have HR := Lib.hid (newL_rd hg)
  replace HZ := Lib.hid (HZ.out.below hb)
  replace HB := Lib.hid (bstep HB.out hb)
  clear hg hb hbb HNw
  have hbS := HZ.out.lt
  go_upto_region 2 with fail
  change Code.wp _ _ _ _ (w1.alloc (.cells (sloC 1 9000 false (some ⟨b, 0, none⟩) 1 1) 24))
  have hbq := below_slo w1 1 9000 false (some ⟨b, 0, none⟩) 1 1 24
  have HS := Lib.hid (BlkE.new w1 (sloC 1 9000 false (some ⟨b, 0, none⟩) 1 1) 24)
  replace HZ := Lib.hid (HZ.out.below hbq)
  replace HB := Lib.hid (bstep HB.out hbq)
  replace HR := Lib.hid (HR.out.below hbq)
  clear hbq
  generalize w1.alloc (.cells (sloC 1 9000 false (some ⟨b, 0, none⟩) 1 1) 24) = w2 at *
  generalize w1.heap.size = bS at *
  go_wp2_with fail
  go_loopw [5] (fun iv V => ∃ (k : Nat) (a : Option Addr) (m c : Nat) (L : List GP), iv = .int .i64 (k : Int) ∧ k ≤ n ∧ k ≤ 8 ∧ Hid (BlkE V bS (sloC 1 9000 false a m c) 24) ∧ Hid (RdG V (.slice a m c) L) ∧ Hid (gns L = (stepsS sl0 (ac.take k)).gens) ∧ Hid (BlkE V w.heap.size (sloC 0 0 false none 0 0) 24) ∧ Hid (Below w.heap.size w V)) (fun iv _ => n - (intOf iv).toNat)
  case atStart => exact ⟨0, _, _, _, newL, rfl, Nat.zero_le _, Nat.zero_le _, HS, HR, Lib.hid rfl, HZ, HB⟩
  case round =>
    clear HS HR HZ HB
    obtain ⟨k, a, m, c, L, rfl, hk, hk8, HS, HR, HE, HZ, HB⟩ := hrel
    by_cases hlt : k < n
    · have i1 : (k : Int) < (n : Int) := by omega
      by_cases hlt8 : k < 8
      · have i2 : (k : Int) < 8 := by omega
        obtain ⟨bq, oq, rfl, c0, c1, c2, c3, hN, hWf, hU⟩ := (HA.out.below HB.out).at hlt
        have HI := HIn.out k hk
        have hst := HSn.out k hlt
        unfold stepS at hst
        generalize acAt ac k = x at *
        obtain ⟨kind, lv, nl, gen, kv, keys⟩ := x
        dsimp only at *
        obtain ⟨la, lc, rfl, hl1, hl2⟩ := hN.shape
        obtain ⟨ka, kc, rfl, hk1, hk2⟩ := hU.shape0
        have HSm := Lib.hid (fun W (hb : Below wr.heap.size wr W) => (ssmall_any (.slice la nl.length lc) nl W (hN.below hb) hWf).mono fun e w' hq => Sm6R.nd hq (hN.below hb))
        have HU := Lib.hid hU
        have hsn := sm6L_len (nl.map (·.1))
        have hsd := sm6L_dlen (nl.map (·.1))
        clear hN hWf hU hl1 hl2
        generalize nl.map (·.1) = ND at *
        generalize nl.length = nn at *
        obtain ⟨hIv, hIi, hIl, hIr, hIn, hIz⟩ := HI
        generalize stepsS sl0 (ac.take k) = sk at *
        generalize hk1s : stepsS sl0 (ac.take (k + 1)) = sk1 at *
        have Hk1s := Lib.hid hk1s
        clear hk1s
        obtain ⟨sid, slim, sro, sg⟩ := sk
        dsimp only at hIi hIl hIr hIn hIz HE
        subst hIi hIl hIr
        obtain rfl : sg = gns L := HE.out.symm
        have HSt := Lib.hid hst
        clear hst HE
        have hlen := hIv.len
        have hLm : L.length = m := by
          obtain ⟨_, _, e, _⟩ := HR.out.shape
          injection e with _ e _; exact e.symm
        dsimp only at hlen
        rw [gns_len, hLm] at hlen
        obtain ⟨j, rfl⟩ : ∃ j, m = j + 1 := ⟨m - 1, by omega⟩
        have hj7 : j ≤ 7 := by omega
        have HLn := Lib.hid (len_gns (k := 6 * k) hIn (by omega))
        have HLn48 := Lib.hid (show ∀ p ∈ L, ∀ i, i < 8 → (p.1.m.st i).length ≤ 48 from fun p hp i hi => Nat.le_trans (hIn p.1 (List.mem_map_of_mem hp) i hi) (by omega))
        have HLm := Lib.hid hLm
        clear hIv hIn hIz hlen hLm
        go_upto_region 6 with fail
        clear c0 c1 c2 c3
        change Code.wp _ _ _ _ (wr.alloc (.cells #[.int .i64 kind, .slice la nn lc, .int .i64 gen, .slice ka keys.length kc] 129))
        have hbq := (Below.refl wr.heap.size wr).alloc (Nat.le_refl _) (.cells #[.int .i64 kind, .slice la nn lc, .int .i64 gen, .slice ka keys.length kc] 129)
        have HAc := Lib.hid (show AcE (wr.alloc (.cells #[.int .i64 kind, .slice la nn lc, .int .i64 gen, .slice ka keys.length kc] 129)) wr.heap.size kind (.slice la nn lc) gen (.slice ka keys.length kc) from BlkE.new wr _ _)
        replace HS := Lib.hid (HS.out.below hbq)
        replace HR := Lib.hid (HR.out.below hbq)
        replace HZ := Lib.hid (HZ.out.below hbq)
        replace HB := Lib.hid (bstep HB.out hbq)
        replace HU := Lib.hid (RdL.below HU.out hbq)
        replace HSm := Lib.hid (fun W (hb : Below _ _ W) => HSm.out W (bstep hbq hb))
        clear hbq
        generalize wr.alloc (.cells #[.int .i64 kind, .slice la nn lc, .int .i64 gen, .slice ka keys.length kc] 129) = v0 at *
        generalize wr.heap.size = bA at *
        obtain ⟨bg, og, rfl, hg⟩ := HR.out.at (show j < j + 1 by omega)
        have HG := Lib.hid hg
        clear hg
        have q0 : v0.cell? ⟨bA, 0, none⟩ = some (.int .i64 kind) := BlkE.cell HAc.out rfl
        obtain ⟨kd, hkd, hkd4⟩ : ∃ kd, bits .and .i64 kind 3 = kd ∧ (kd = 0 ∨ kd = 1 ∨ kd = 2 ∨ kd = 3) := ⟨_, rfl, by rw [i64_and3]; omega⟩
        have HS4 := Lib.hid hkd4
        clear hkd4
        rw [hkd] at HSt
        go_upto_if 40 with fail
        clear hkd q0
        go_cut [40] (fun v wx => v = .bool (decide (kd = 0 ∨ kd = 1)) ∧ wx = v0)
        case first =>
          rcases HS4.out with rfl | rfl | rfl | rfl
          · go_wp2_with fail
            go_meet
            case rel => exact ⟨rfl, rfl⟩
          · go_wp2_with fail
            go_meet
            case rel => exact ⟨rfl, rfl⟩
          · go_wp2_with fail
            go_meet
            case rel => exact ⟨rfl, rfl⟩
          · go_wp2_with fail
            go_meet
            case rel => exact ⟨rfl, rfl⟩
        case rest =>
          obtain ⟨rfl, hwc⟩ := hcut
          generalize wc = w5 at *
          replace hwc := hwc.symm
          subst hwc
          by_cases hk01 : kd = 0 ∨ kd = 1
          · have hk2 : (decide (kd = 0 ∨ kd = 1)) = true := decide_eq_true hk01
            rw [hk2]
            have HSu := Lib.hid (HSt.out.trans (show stepK ⟨1, 9000, false, gns L⟩ kd ND gen keys = chgOr ⟨1, 9000, false, gns L⟩ (addG (topG ⟨1, 9000, false, gns L⟩) (sm6L ND)) from by
              rcases hk01 with rfl | rfl <;> rfl))
            clear hk01 hk2 HS4 HSt
            go_upto_region 9 with fail
            have HMp := Lib.hid (HR.out.m _ (pat_mem (l := L) (i := j) (by have := HLm.out; omega)))
            have HLp := Lib.hid (HLn48.out _ (pat_mem (l := L) (i := j) (by have := HLm.out; omega)))
            have HSt2 := Lib.hid (show sk1 = chgOr ⟨1, 9000, false, gns L⟩ (addG (pat L j).1 (sm6L ND)) from by rw [← topG_pat (i := 1) (l := 9000) (r := false) HLm.out]; exact HSu.out)
            clear HSu
            generalize pat L j = p at *
            obtain ⟨⟨num, rev, md, sz, ⟨fs, LV, GA⟩⟩, s⟩ := p
            dsimp only at HMp HLp HSt2
            generalize sm6L ND = SN at *
            have HAd := Lib.hid (show ∀ lv es W, Below v0.heap.size v0 W → RdN W lv es → es.map (·.1) = SN → Calls Tryz.prog 53 #[genV num rev md sz s LV GA, lv] W fun e w' => (∃ s', e = .returned (.tuple #[genV (addG ⟨num, rev, md, sz, ⟨fs, LV, GA⟩⟩ SN).2.num (addG ⟨num, rev, md, sz, ⟨fs, LV, GA⟩⟩ SN).2.rev (addG ⟨num, rev, md, sz, ⟨fs, LV, GA⟩⟩ SN).2.mode (addG ⟨num, rev, md, sz, ⟨fs, LV, GA⟩⟩ SN).2.size s' (addG ⟨num, rev, md, sz, ⟨fs, LV, GA⟩⟩ SN).2.m.live (addG ⟨num, rev, md, sz, ⟨fs, LV, GA⟩⟩ SN).2.m.garb, .int .i64 (addG ⟨num, rev, md, sz, ⟨fs, LV, GA⟩⟩ SN).1]) ∧ RdM w' s' (addG ⟨num, rev, md, sz, ⟨fs, LV, GA⟩⟩ SN).2.m.st) ∧ Below W.heap.size W w' from fun lv es W hb h2 h3 => by
              have hle : es.length ≤ 6 := by have := congrArg List.length h3; rw [List.length_map] at this; omega
              have h9 := radd_any ⟨num, rev, md, sz, ⟨fs, LV, GA⟩⟩ s lv es 48 W (HMp.out.below hb) HLp.out h2 (by omega) (fun p hp => by have := hsd p.1 (h3 ▸ List.mem_map_of_mem hp); omega)
              rw [h3] at h9
              exact h9.mono fun e w' hq => ⟨hq.1.imp fun s' hs' => ⟨hs'.1, hs'.2.rd (HMp.out.below hb) hq.2⟩, hq.2⟩)
            have HLa := Lib.hid (show ∀ i, i < 8 → ((addG ⟨num, rev, md, sz, ⟨fs, LV, GA⟩⟩ SN).2.m.st i).length ≤ 10000 from fun i hi => Nat.le_trans (addG_len (K := 48) ⟨num, rev, md, sz, ⟨fs, LV, GA⟩⟩ SN HLp.out i hi) (by omega))
            clear HMp HLp hsd
            generalize addG ⟨num, rev, md, sz, ⟨fs, LV, GA⟩⟩ SN = TG at *
            obtain ⟨er, ⟨an, ar, am, az, ⟨af, aL, aG⟩⟩⟩ := TG
            dsimp only at HAd HLa HSt2
            have j3 : IntKind.i64.wrap (j : Int) = (j : Int) := IntWalk.i64_in _ (by omega)
            have i3 : (j : Int) < ((j + 1 : Nat) : Int) := by omega
            go_cut [7, 8] (fun vb ve wx => ∃ b s, vb = .pointer (some ⟨b, 0, none⟩) ∧ ve = .int .i64 er ∧ v0.heap.size ≤ b ∧ Hid (BlkE wx b (genC an ar am az s aL aG) 124) ∧ Hid (RdM wx s af) ∧ Hid (Below v0.heap.size v0 wx))
            case first =>
              refine wp_region_late [eqS (.pointer (some ⟨bS, 3, none⟩)), eqS (.slice (some ⟨bg, og, none⟩) (j + 1) c), eqS (.pointer (some ⟨bS, 3, none⟩)), eqS (.slice (some ⟨bg, og, none⟩) (j + 1) c), eqS (.int .i64 ((j : Int) + 1)), eqS (.int .i64 (j : Int)), eqS (.pointer (some ⟨bg, og + j * 14, none⟩)), eqS (genV num rev md sz s LV GA), eqS (.pointer (some ⟨bA, 1, none⟩)), eqS (.slice la nn lc), needR SN, tupR er an ar am az af aL aG, tupR er an ar am az af aL aG, genRd an ar am az af aL aG, eqS (.int .i64 er), boxGB 124 v0.heap.size] [] 128 14 (by kernel_rfl) (by kernel_rfl) rfl rfl (by decide) (by rfl) (by kernel_rfl) (fun f => by simp [frm, dstOf, Act.put]; exact rfl) ?_ ?_ ?_
              · refine ⟨?_, ?_, ?_, ?_, ?_, ?_, ?_, ?_, ?_, ?_, ?_, ?_, ?_, ?_, ?_, ?_, trivial⟩
                · intro f w1 hb hd
                  clear hd
                  dsimp only
                  go_wp2_with fail
                  exact ⟨rfl, Below.refl _ _, fun t ht => by injection ht with ht; subst ht; exact ⟨rfl, fun h => by simp at h⟩⟩
                · intro f w1 hb hd
                  have d0 : f 0 = (.pointer (some ⟨bS, 3, none⟩)) := hd 0 (by kernel_rfl)
                  clear hd
                  dsimp only
                  rw [d0]
                  have q3 := (BlkE.slo (HS.out.below hb)).c3
                  go_wp2_with fail
                  exact ⟨rfl, Below.refl _ _, fun t ht => by injection ht with ht; subst ht; exact ⟨rfl, fun h => by simp at h⟩⟩
                · intro f w1 hb hd
                  clear hd
                  dsimp only
                  go_wp2_with fail
                  exact ⟨rfl, Below.refl _ _, fun t ht => by injection ht with ht; subst ht; exact ⟨rfl, fun h => by simp at h⟩⟩
                · intro f w1 hb hd
                  have d2 : f 2 = (.pointer (some ⟨bS, 3, none⟩)) := hd 2 (by kernel_rfl)
                  clear hd
                  dsimp only
                  rw [d2]
                  have q3 := (BlkE.slo (HS.out.below hb)).c3
                  go_wp2_with fail
                  exact ⟨rfl, Below.refl _ _, fun t ht => by injection ht with ht; subst ht; exact ⟨rfl, fun h => by simp at h⟩⟩
                · intro f w1 hb hd
                  have d3 : f 3 = (.slice (some ⟨bg, og, none⟩) (j + 1) c) := hd 3 (by kernel_rfl)
                  clear hd
                  dsimp only
                  rw [d3]
                  go_wp2_with fail
                  exact ⟨rfl, Below.refl _ _, fun t ht => by injection ht with ht; subst ht; exact ⟨rfl, fun h => by simp at h⟩⟩
                · intro f w1 hb hd
                  have d4 : f 4 = (.int .i64 ((j : Int) + 1)) := hd 4 (by kernel_rfl)
                  clear hd
                  dsimp only
                  rw [d4]
                  go_wp2_with fail
                  exact ⟨rfl, Below.refl _ _, fun t ht => by injection ht with ht; subst ht; exact ⟨rfl, fun h => by simp at h⟩⟩
                · intro f w1 hb hd
                  have d1 : f 1 = (.slice (some ⟨bg, og, none⟩) (j + 1) c) := hd 1 (by kernel_rfl)
                  have d5 : f 5 = (.int .i64 (j : Int)) := hd 5 (by kernel_rfl)
                  clear hd
                  dsimp only
                  rw [d1]
                  rw [d5]
                  go_wp2_with fail
                  exact ⟨rfl, Below.refl _ _, fun t ht => by injection ht with ht; subst ht; exact ⟨rfl, fun h => by simp at h⟩⟩
                · intro f w1 hb hd
                  have d6 : f 6 = (.pointer (some ⟨bg, og + j * 14, none⟩)) := hd 6 (by kernel_rfl)
                  clear hd
                  dsimp only
                  rw [d6]
                  have zo := HG.out.below hb
                  have q0 := zo.n0
                  have q1 := zo.n1
                  have q2 := zo.n2
                  have q3 := zo.n3
                  have q4 := zo.c0
                  have q5 := zo.c1
                  have q6 := zo.c2
                  have q7 := zo.c3
                  have q8 := zo.c4
                  have q9 := zo.c5
                  have q10 := zo.c6
                  have q11 := zo.c7
                  have q12 := zo.cl
                  have q13 := zo.cg
                  clear zo
                  dsimp only at q0 q1 q2 q3 q4 q5 q6 q7 q8 q9 q10 q11 q12 q13
                  go_wp2_with fail
                  exact ⟨rfl, Below.refl _ _, fun t ht => by injection ht with ht; subst ht; exact ⟨rfl, fun h => by simp at h⟩⟩
                · intro f w1 hb hd
                  clear hd
                  dsimp only
                  go_wp2_with fail
                  exact ⟨rfl, Below.refl _ _, fun t ht => by injection ht with ht; subst ht; exact ⟨rfl, fun h => by simp at h⟩⟩
                · intro f w1 hb hd
                  have d8 : f 8 = (.pointer (some ⟨bA, 1, none⟩)) := hd 8 (by kernel_rfl)
                  clear hd
                  dsimp only
                  rw [d8]
                  have q1 : w1.cell? ⟨bA, 1, none⟩ = some (.slice la nn lc) := BlkE.cell (BlkE.below HAc.out hb) rfl
                  go_wp2_with fail
                  exact ⟨rfl, Below.refl _ _, fun t ht => by injection ht with ht; subst ht; exact ⟨rfl, fun h => by simp at h⟩⟩
                · intro f w1 hb hd
                  have d9 : f 9 = (.slice la nn lc) := hd 9 (by kernel_rfl)
                  clear hd
                  dsimp only
                  rw [d9]
                  go_wp2_with fail
                  refine (HSm.out w1 hb).mono ?_
                  rintro e w9 ⟨qa, qn, qc, es, rfl, hrd, hes, hb9⟩
                  go_wp2_with fail
                  exact ⟨rfl, hb9, fun t ht => by injection ht with ht; subst ht; exact ⟨⟨qa, qn, qc, es, rfl, hrd, hes⟩, fun h => by simp at h⟩⟩
                · intro f w1 hb hd
                  have d7 : f 7 = (genV num rev md sz s LV GA) := hd 7 (by kernel_rfl)
                  obtain ⟨a10, n10, c10, e10, d10, r10, m10⟩ := show ∃ a n c es, f 10 = .slice a n c ∧ RdN w1 (.slice a n c) es ∧ es.map (·.1) = SN from hd 10 (by kernel_rfl)
                  clear hd
                  dsimp only
                  rw [d7]
                  rw [d10]
                  go_wp2_with fail
                  refine (HAd.out _ e10 w1 hb r10 m10).mono ?_
                  rintro e w9 ⟨⟨s9, rfl, ho9⟩, hb9⟩
                  go_wp2_with fail
                  exact ⟨rfl, hb9, fun t ht => by injection ht with ht; subst ht; exact ⟨⟨s9, rfl, ho9⟩, fun h => by simp at h⟩⟩
                · intro f w1 hb hd
                  obtain ⟨s11, d11, r11⟩ := show ∃ s, f 11 = .tuple #[genV an ar am az s aL aG, .int .i64 er] ∧ RdM w1 s af from hd 11 (by kernel_rfl)
                  clear hd
                  dsimp only
                  rw [d11]
                  go_wp2_with fail
                  exact ⟨rfl, Below.refl _ _, fun t ht => by injection ht with ht; subst ht; exact ⟨⟨s11, rfl, r11⟩, fun h => by simp at h⟩⟩
                · intro f w1 hb hd
                  obtain ⟨s12, d12, r12⟩ := show ∃ s, f 12 = .tuple #[genV an ar am az s aL aG, .int .i64 er] ∧ RdM w1 s af from hd 12 (by kernel_rfl)
                  clear hd
                  dsimp only
                  rw [d12]
                  go_wp2_with fail
                  exact ⟨rfl, Below.refl _ _, fun t ht => by injection ht with ht; subst ht; exact ⟨⟨s12, rfl, r12⟩, fun h => by simp at h⟩⟩
                · intro f w1 hb hd
                  obtain ⟨s12, d12, r12⟩ := show ∃ s, f 12 = .tuple #[genV an ar am az s aL aG, .int .i64 er] ∧ RdM w1 s af from hd 12 (by kernel_rfl)
                  clear hd
                  dsimp only
                  rw [d12]
                  go_wp2_with fail
                  exact ⟨rfl, Below.refl _ _, fun t ht => by injection ht with ht; subst ht; exact ⟨rfl, fun h => by simp at h⟩⟩
                · intro f w1 hb hd
                  clear hd
                  dsimp only
                  have hbs := hb.size
                  have hty := BlkE.new w1 (genC 0 0 0 0 Sl.nil 0 0) 124
                  go_wp2_with fail
                  exact ⟨rfl, below_gen w1 0 0 0 0 Sl.nil 0 0 124, fun t ht => by injection ht with ht; subst ht; exact ⟨⟨_, rfl, hbs, hty⟩, fun h => by simp at h⟩⟩
              · intro f w5 hb hd hff
                clear hff
                obtain ⟨s5, d5, r5⟩ := show ∃ s, f 13 = genV an ar am az s aL aG ∧ RdM w5 s af from hd 13 (show 13 < 16 by decide)
                have d6 : f 14 = .int .i64 er := hd 14 (show 14 < 16 by decide)
                obtain ⟨b7, d7, lo7, bx7⟩ := show ∃ b, f 15 = .pointer (some ⟨b, 0, none⟩) ∧ v0.heap.size ≤ b ∧ BlkE w5 b (genC 0 0 0 0 Sl.nil 0 0) 124 from hd 15 (show 15 < 16 by decide)
                try dsimp only
                rw [d5, d6, d7]
                clear hd d5 d6 d7
                have hbn := Lib.hid (pts_below (B := v0.heap.size) (b := b7) lo7 (genL an ar am az s5 aL aG) hb)
                have HX5 := Lib.hid (BlkE.gen bx7)
                have HN5 := Lib.hid (BlkE.genAll bx7 an ar am az s5 aL aG)
                have HR5 := Lib.hid (r5.gen bx7 (genL an ar am az s5 aL aG))
                have HL5 := Lib.hid lo7
                clear bx7 r5 hb lo7
                generalize f 0 = zq0, f 1 = zq1, f 2 = zq2, f 3 = zq3, f 4 = zq4, f 5 = zq5, f 6 = zq6, f 7 = zq7, f 8 = zq8, f 9 = zq9, f 10 = zq10, f 11 = zq11, f 12 = zq12
                clear f
                have xf := HX5.out.f
                have x0 := HX5.out.n0
                have x1 := HX5.out.n1
                have x2 := HX5.out.n2
                have x3 := HX5.out.n3
                have x4 := HX5.out.c0
                have x5 := HX5.out.c1
                have x6 := HX5.out.c2
                have x7 := HX5.out.c3
                have x8 := HX5.out.c4
                have x9 := HX5.out.c5
                have x10 := HX5.out.c6
                have x11 := HX5.out.c7
                have x12 := HX5.out.cl
                have x13 := HX5.out.cg
                change wpList _ _ _ (_ :: _ :: []) _ _
                go_wp2_with fail
                go_meet
                case rel => exact ⟨b7, s5, rfl, rfl, HL5.out, HN5, HR5, hbn⟩
              · intro f w5 hb hd hff
                clear hff
                obtain ⟨s5, d5, r5⟩ := show ∃ s, f 13 = genV an ar am az s aL aG ∧ RdM w5 s af from hd 13 (show 13 < 16 by decide) (show 13 ≠ 14 by decide)
                obtain ⟨s4, d4, r4⟩ := show ∃ s, f 12 = .tuple #[genV an ar am az s aL aG, .int .i64 er] ∧ RdM w5 s af from hd 12 (show 12 < 16 by decide) (show 12 ≠ 14 by decide)
                clear r4
                obtain ⟨b7, d7, lo7, bx7⟩ := show ∃ b, f 15 = .pointer (some ⟨b, 0, none⟩) ∧ v0.heap.size ≤ b ∧ BlkE w5 b (genC 0 0 0 0 Sl.nil 0 0) 124 from hd 15 (show 15 < 16 by decide) (show 15 ≠ 14 by decide)
                try dsimp only
                rw [d4, d5, d7]
                clear hd d4 d5 d7
                have hbn := Lib.hid (pts_below (B := v0.heap.size) (b := b7) lo7 (genL an ar am az s5 aL aG) hb)
                have HX5 := Lib.hid (BlkE.gen bx7)
                have HN5 := Lib.hid (BlkE.genAll bx7 an ar am az s5 aL aG)
                have HR5 := Lib.hid (r5.gen bx7 (genL an ar am az s5 aL aG))
                have HL5 := Lib.hid lo7
                clear bx7 r5 hb lo7
                generalize f 0 = zq0, f 1 = zq1, f 2 = zq2, f 3 = zq3, f 4 = zq4, f 5 = zq5, f 6 = zq6, f 7 = zq7, f 8 = zq8, f 9 = zq9, f 10 = zq10, f 11 = zq11, f 14 = zq14
                clear f
                have xf := HX5.out.f
                have x0 := HX5.out.n0
                have x1 := HX5.out.n1
                have x2 := HX5.out.n2
                have x3 := HX5.out.n3
                have x4 := HX5.out.c0
                have x5 := HX5.out.c1
                have x6 := HX5.out.c2
                have x7 := HX5.out.c3
                have x8 := HX5.out.c4
                have x9 := HX5.out.c5
                have x10 := HX5.out.c6
                have x11 := HX5.out.c7
                have x12 := HX5.out.cl
                have x13 := HX5.out.cg
                change wpList _ _ _ (_ :: _ :: _ :: []) _ _
                go_wp2_with fail
                go_meet
                case rel => exact ⟨b7, s5, rfl, rfl, HL5.out, HN5, HR5, hbn⟩
            case rest =>
              as_aux_lemma =>
              obtain ⟨bG, sb, rfl, rfl, loG, XG, RG, hbn⟩ := hcut
              generalize hwc : wc = v1 at *
              clear hwc
              replace HS := Lib.hid (HS.out.below hbn.out)
              replace HR := Lib.hid (HR.out.below hbn.out)
              replace HZ := Lib.hid (HZ.out.below hbn.out)
              replace HB := Lib.hid (bstep HB.out hbn.out)
              clear hbn HAc HG HSm HU HAd
              have g0 := (BlkE.gen XG.out).n0
              have g1 := (BlkE.gen XG.out).n1
              have g2 := (BlkE.gen XG.out).n2
              have g3 := (BlkE.gen XG.out).n3
              have g4 := (BlkE.gen XG.out).c0
              have g5 := (BlkE.gen XG.out).c1
              have g6 := (BlkE.gen XG.out).c2
              have g7 := (BlkE.gen XG.out).c3
              have g8 := (BlkE.gen XG.out).c4
              have g9 := (BlkE.gen XG.out).c5
              have g10 := (BlkE.gen XG.out).c6
              have g11 := (BlkE.gen XG.out).c7
              have g12 := (BlkE.gen XG.out).cl
              have g13 := (BlkE.gen XG.out).cg
              have k0 := (BlkE.slo HS.out).c0
              have k1 := (BlkE.slo HS.out).c1
              have k2 := (BlkE.slo HS.out).c2
              have k3 := (BlkE.slo HS.out).c3
              have HCh := Lib.hid (rchg_any 1 9000 false (some ⟨bg, og, none⟩) (j + 1) c L v1 HR.out HLn.out (⟨an, ar, am, az, ⟨af, aL, aG⟩⟩, sb) RG.out HLa.out)
              have HOk := Lib.hid (fun h => chgS_ok (s := ⟨1, 9000, false, gns L⟩) (g := ⟨an, ar, am, az, ⟨af, aL, aG⟩⟩) h)
              have HS3 := Lib.hid (HSt2.out.trans (show chgOr ⟨1, 9000, false, gns L⟩ (er, ⟨an, ar, am, az, ⟨af, aL, aG⟩⟩) = if er = 0 ∧ (chgS ⟨1, 9000, false, gns L⟩ ⟨an, ar, am, az, ⟨af, aL, aG⟩⟩).2 = 0 then (chgS ⟨1, 9000, false, gns L⟩ ⟨an, ar, am, az, ⟨af, aL, aG⟩⟩).1 else ⟨1, 9000, false, gns L⟩ from rfl))
              clear HSt2
              dsimp only at HCh
              generalize chgS ⟨1, 9000, false, gns L⟩ ⟨an, ar, am, az, ⟨af, aL, aG⟩⟩ = CS at *
              obtain ⟨⟨cid, clim, cro, cg⟩, fe⟩ := CS
              go_wp2_with fail
              refine HCh.out.mono ?_
              rintro e w9 ⟨⟨xa, xn, xc, xL, rfl, hxr, hxg⟩, hb⟩
              dsimp only at hxg HOk HS3 ⊢
              clear k0 k1 k2 k3
              clear g0 g1 g2 g3 g4 g5 g6 g7 g8 g9 g10 g11 g12 g13
              replace HS := Lib.hid (HS.out.below hb)
              replace HR := Lib.hid (HR.out.below hb)
              replace HZ := Lib.hid (HZ.out.below hb)
              replace HB := Lib.hid (bstep HB.out hb)
              have HXr := Lib.hid hxr
              have HXg := Lib.hid hxg
              clear hxr hxg hb HCh XG RG HLa
              go_upto_region 11 with fail
              change Code.wp _ _ _ _ (w9.alloc (.cells (sloC cid clim cro xa xn xc) 24))
              have hbq := below_slo w9 cid clim cro xa xn xc 24
              have HX := Lib.hid (BlkE.new w9 (sloC cid clim cro xa xn xc) 24)
              replace HXr := Lib.hid (HXr.out.below hbq)
              replace HS := Lib.hid (HS.out.below hbq)
              replace HR := Lib.hid (HR.out.below hbq)
              replace HZ := Lib.hid (HZ.out.below hbq)
              replace HB := Lib.hid (bstep HB.out hbq)
              clear hbq
              generalize w9.alloc (.cells (sloC cid clim cro xa xn xc) 24) = w10 at *
              generalize w9.heap.size = bX at *
              by_cases he0 : er = 0
              · subst he0
                by_cases hf0 : fe = 0
                · subst hf0
                  obtain ⟨rfl, rfl, rfl⟩ : cid = 1 ∧ clim = 9000 ∧ cro = false := by
                    have h9 := HOk.out rfl
                    injection h9 with h1 h2 h3 h4
                    exact ⟨h1, h2, h3⟩
                  have z0 := (BlkE.slo HX.out).c0
                  have z1 := (BlkE.slo HX.out).c1
                  have z2 := (BlkE.slo HX.out).c2
                  have z3 := (BlkE.slo HX.out).c3
                  have y0 := (BlkE.slo HS.out).c0
                  have y1 := (BlkE.slo HS.out).c1
                  have y2 := (BlkE.slo HS.out).c2
                  have y3 := (BlkE.slo HS.out).c3
                  have yf := (BlkE.slo HS.out).f
                  have HSn2 := Lib.hid (BlkE.sloAll HS.out 1 9000 false xa xn xc)
                  have HRn := Lib.hid (RdG.slo HXr.out HS.out (sloL 1 9000 false xa xn xc))
                  have HZn := Lib.hid (BlkE.pts_ne (c := bS) (by omega) (sloL 1 9000 false xa xn xc) HZ.out)
                  have HBn := Lib.hid (pts_below (B := w.heap.size) (b := bS) (by omega) (sloL 1 9000 false xa xn xc) HB.out)
                  have HGn := Lib.hid (show gns xL = (stepsS sl0 (ac.take (k + 1))).gens from by rw [Hk1s.out, HS3.out, if_pos ⟨rfl, rfl⟩]; exact HXg.out)
                  go_wp2_with fail
                  exact ⟨⟨k + 1, xa, xn, xc, xL, by go_num, by omega, by omega, HSn2, HRn, HGn, HZn, HBn⟩, by simp [intOf]; omega⟩
                · have hz : (fe == 0) = false := beq_eq_false_iff_ne.2 hf0
                  have HGn := Lib.hid (show gns L = (stepsS sl0 (ac.take (k + 1))).gens from by rw [Hk1s.out, HS3.out, if_neg (fun h => hf0 h.2)])
                  go_wp2_with fail
                  exact ⟨⟨k + 1, _, _, _, L, by go_num, by omega, by omega, HS, HR, HGn, HZ, HB⟩, by simp [intOf]; omega⟩
              · have hz : (er == 0) = false := beq_eq_false_iff_ne.2 he0
                have HGn := Lib.hid (show gns L = (stepsS sl0 (ac.take (k + 1))).gens from by rw [Hk1s.out, HS3.out, if_neg (fun h => he0 h.1)])
                go_wp2_with fail
                exact ⟨⟨k + 1, _, _, _, L, by go_num, by omega, by omega, HS, HR, HGn, HZ, HB⟩, by simp [intOf]; omega⟩
          · have hk2 : (decide (kd = 0 ∨ kd = 1)) = false := decide_eq_false hk01
            rw [hk2]
            obtain rfl | rfl : kd = 2 ∨ kd = 3 := by have := HS4.out; omega
            · clear hk01 hk2 HS4
              as_aux_lemma =>
              clear HSm HU HAc HG
              have k0 := (BlkE.slo HS.out).c0
              have k1 := (BlkE.slo HS.out).c1
              have k2 := (BlkE.slo HS.out).c2
              have k3 := (BlkE.slo HS.out).c3
              have HCh := Lib.hid (rrot_any 1 9000 false (some ⟨bg, og, none⟩) (j + 1) c L v0 HR.out HLn.out)
              have HOk := Lib.hid (fun h => rotS_ok (s := ⟨1, 9000, false, gns L⟩) h)
              have HS3 := Lib.hid (HSt.out.trans (show stepK ⟨1, 9000, false, gns L⟩ 2 ND gen keys = if (rotS ⟨1, 9000, false, gns L⟩).2 = 0 then (rotS ⟨1, 9000, false, gns L⟩).1 else ⟨1, 9000, false, gns L⟩ from rfl))
              clear HSt
              generalize rotS ⟨1, 9000, false, gns L⟩ = CS at *
              obtain ⟨⟨cid, clim, cro, cg⟩, fe⟩ := CS
              go_wp2_with fail
              refine HCh.out.mono ?_
              rintro e w9 ⟨⟨xa, xn, xc, xL, rfl, hxr, hxg⟩, hb⟩
              dsimp only at hxg HOk HS3 ⊢
              clear k0 k1 k2 k3
              replace HS := Lib.hid (HS.out.below hb)
              replace HR := Lib.hid (HR.out.below hb)
              replace HZ := Lib.hid (HZ.out.below hb)
              replace HB := Lib.hid (bstep HB.out hb)
              have HXr := Lib.hid hxr
              have HXg := Lib.hid hxg
              clear hxr hxg hb HCh
              go_upto_region 15 with fail
              change Code.wp _ _ _ _ (w9.alloc (.cells (sloC cid clim cro xa xn xc) 24))
              have hbq := below_slo w9 cid clim cro xa xn xc 24
              have HX := Lib.hid (BlkE.new w9 (sloC cid clim cro xa xn xc) 24)
              replace HXr := Lib.hid (HXr.out.below hbq)
              replace HS := Lib.hid (HS.out.below hbq)
              replace HR := Lib.hid (HR.out.below hbq)
              replace HZ := Lib.hid (HZ.out.below hbq)
              replace HB := Lib.hid (bstep HB.out hbq)
              clear hbq
              generalize w9.alloc (.cells (sloC cid clim cro xa xn xc) 24) = w10 at *
              generalize w9.heap.size = bX at *
              by_cases hf0 : fe = 0
              · subst hf0
                obtain ⟨rfl, rfl, rfl⟩ : cid = 1 ∧ clim = 9000 ∧ cro = false := by
                  have h9 := HOk.out rfl
                  injection h9 with h1 h2 h3 h4
                  exact ⟨h1, h2, h3⟩
                have z0 := (BlkE.slo HX.out).c0
                have z1 := (BlkE.slo HX.out).c1
                have z2 := (BlkE.slo HX.out).c2
                have z3 := (BlkE.slo HX.out).c3
                have y0 := (BlkE.slo HS.out).c0
                have y1 := (BlkE.slo HS.out).c1
                have y2 := (BlkE.slo HS.out).c2
                have y3 := (BlkE.slo HS.out).c3
                have yf := (BlkE.slo HS.out).f
                have HSn2 := Lib.hid (BlkE.sloAll HS.out 1 9000 false xa xn xc)
                have HRn := Lib.hid (RdG.slo HXr.out HS.out (sloL 1 9000 false xa xn xc))
                have HZn := Lib.hid (BlkE.pts_ne (c := bS) (by omega) (sloL 1 9000 false xa xn xc) HZ.out)
                have HBn := Lib.hid (pts_below (B := w.heap.size) (b := bS) (by omega) (sloL 1 9000 false xa xn xc) HB.out)
                have HGn := Lib.hid (show gns xL = (stepsS sl0 (ac.take (k + 1))).gens from by rw [Hk1s.out, HS3.out, if_pos rfl]; exact HXg.out)
                go_wp2_with fail
                exact ⟨⟨k + 1, xa, xn, xc, xL, by go_num, by omega, by omega, HSn2, HRn, HGn, HZn, HBn⟩, by simp [intOf]; omega⟩
              · have hz : (fe == 0) = false := beq_eq_false_iff_ne.2 hf0
                have HGn := Lib.hid (show gns L = (stepsS sl0 (ac.take (k + 1))).gens from by rw [Hk1s.out, HS3.out, if_neg hf0])
                go_wp2_with fail
                exact ⟨⟨k + 1, _, _, _, L, by go_num, by omega, by omega, HS, HR, HGn, HZ, HB⟩, by simp [intOf]; omega⟩
            · clear hk01 hk2 HS4
              have hlp : 0 < j + 1 := by omega
              obtain ⟨t, kk, e1, e2, e3, e4, e5, e6, e7⟩ := mod_gen gen (j + 1) hlp
              have HSt2 := Lib.hid (show sk1 = chgOr ⟨1, 9000, false, gns L⟩ (killG (pat L kk).1 (keys.take 8)) from by
                rw [HSt.out]
                show chgOr _ (killG (gat (gns L) (gen % ((gns L).length : Int)).toNat) _) = _
                rw [gns_len, HLm.out, e7, Int.toNat_natCast, gat_gns])
              clear HSt e7 HSm
              simp only [Int.natCast_add, Int.natCast_one] at e1 e2 e3 e4 e5
              go_upto_region 18 with fail
              have q2 := cell_by (show v0.cell? ⟨bA, 2, none⟩ = some (.int .i64 gen) from BlkE.cell HAc.out rfl)
              have k3 := cell_by (BlkE.slo HS.out).c3
              refine wp_region_below (by kernel_rfl) (by kernel_rfl) ?_
              repeat (go_big_quiet_step (fail))
              refine wpQuiet_nil ?_
              intro _ hw'
              obtain ⟨q, hw'⟩ := hw'
              subst hw'
              replace HS := Lib.hid (HS.out.below q.h)
              replace HR := Lib.hid (HR.out.below q.h)
              replace HZ := Lib.hid (HZ.out.below q.h)
              replace HB := Lib.hid (bstep HB.out q.h)
              replace HU := Lib.hid (RdL.below HU.out q.h)
              replace HAc := Lib.hid (show AcE q.w' bA kind (.slice la nn lc) gen (.slice ka keys.length kc) from BlkE.below HAc.out q.h)
              clear q2 k3 HG
              generalize q.w' = v1 at *
              clear q e1 e2 e3 e4 e5
              have q3 : v1.cell? ⟨bA, 3, none⟩ = some (.slice ka keys.length kc) := BlkE.cell HAc.out rfl
              go_upto_if 101 with fail
              go_cut [14] (fun kv wx => (∃ m', kv = .slice ka m' kc ∧ Hid (RdU v1 (.slice ka m' kc) (keys.take 8))) ∧ wx = v1)
              case first =>
                by_cases hk8 : 8 < keys.length
                · have hd : decide ((8 : Int) < (keys.length : Int)) = true := by simp; omega
                  obtain ⟨bk, ok, rfl, _⟩ := RdU.at HU.out (show 0 < keys.length by omega)
                  have gto := slice_to (P := Tryz.prog) elemU (a := some ⟨bk, ok, none⟩) (n := keys.length) (cap := kc) (fun x hx => ⟨bk, ok, by injection hx with hx; exact hx.symm⟩) 8 (by omega)
                  rw [show ((8 : Nat) : Int) = 8 from rfl] at gto
                  have HT := Lib.hid (show RdU v1 (.slice (some ⟨bk, ok, none⟩) 8 kc) (keys.take 8) from RdL.take HU.out 8 (by omega))
                  go_wp2_with fail
                  go_meet
                  case rel => exact ⟨⟨_, rfl, HT⟩, rfl⟩
                · have hd : decide ((8 : Int) < (keys.length : Int)) = false := by simp; omega
                  have HT := Lib.hid (show RdU v1 (.slice ka keys.length kc) (keys.take 8) from by rw [List.take_of_length_le (by omega)]; exact HU.out)
                  go_wp2_with fail
                  go_meet
                  case rel => exact ⟨⟨_, rfl, HT⟩, rfl⟩
              case rest =>
                obtain ⟨⟨m', rfl, HT⟩, hwc⟩ := hcut
                generalize wc = w5 at *
                subst hwc
                clear q3 HAc HU
                as_aux_lemma =>
                have hmem := pat_mem (l := L) (i := kk) (by have := HLm.out; omega)
                have HMp := Lib.hid (HR.out.m _ hmem)
                have HLp := Lib.hid (HLn48.out _ hmem)
                have HG := Lib.hid (HR.out.at2 e6)
                clear hmem
                generalize pat L kk = p at *
                obtain ⟨⟨num, rev, md, sz, ⟨fs, LV, GA⟩⟩, s⟩ := p
                dsimp only at HMp HLp HSt2
                have HKi := Lib.hid (rkill_any ⟨num, rev, md, sz, ⟨fs, LV, GA⟩⟩ s (.slice ka m' kc) (keys.take 8) w5 HMp.out (fun i hi => Nat.le_trans (HLp.out i hi) (by decide)) HT.out (by rw [List.length_take]; omega))
                have HLa := Lib.hid (show ∀ i, i < 8 → ((killG ⟨num, rev, md, sz, ⟨fs, LV, GA⟩⟩ (keys.take 8)).2.m.st i).length ≤ 10000 from fun i hi => Nat.le_trans (killG_len (K := 48) ⟨num, rev, md, sz, ⟨fs, LV, GA⟩⟩ _ HLp.out i hi) (by decide))
                dsimp only at HKi
                generalize killG ⟨num, rev, md, sz, ⟨fs, LV, GA⟩⟩ (keys.take 8) = TG at *
                obtain ⟨er, ⟨an, ar, am, az, ⟨af, aL, aG⟩⟩⟩ := TG
                dsimp only at HLa HSt2
                have k3 := (BlkE.slo HS.out).c3
                have i3 : (kk : Int) < (j : Int) + 1 := by omega
                have i4 : (kk : Int) < ((j + 1 : Nat) : Int) := by omega
                have i5 : kk < j + 1 := e6
                have g0 := HG.out.n0
                have g1 := HG.out.n1
                have g2 := HG.out.n2
                have g3 := HG.out.n3
                have g4 := HG.out.c0
                have g5 := HG.out.c1
                have g6 := HG.out.c2
                have g7 := HG.out.c3
                have g8 := HG.out.c4
                have g9 := HG.out.c5
                have g10 := HG.out.c6
                have g11 := HG.out.c7
                have g12 := HG.out.cl
                have g13 := HG.out.cg
                dsimp only at g0 g1 g2 g3 g4 g5 g6 g7 g8 g9 g10 g11 g12 g13
                go_wp2_with fail
                refine HKi.out.mono ?_
                rintro e w6 ⟨⟨sb, rfl, ho⟩, hb⟩
                dsimp only at ho ⊢
                clear k3
                clear g0 g1 g2 g3 g4 g5 g6 g7 g8 g9 g10 g11 g12 g13
                have RG := Lib.hid (ho.rd HMp.out hb)
                replace HS := Lib.hid (HS.out.below hb)
                replace HR := Lib.hid (HR.out.below hb)
                replace HZ := Lib.hid (HZ.out.below hb)
                replace HB := Lib.hid (bstep HB.out hb)
                clear ho hb HKi HMp HLp HT HG
                go_upto_region 23 with fail
                change Code.wp _ _ _ _ (w6.alloc (.cells (genC an ar am az sb aL aG) 124))
                have hbq := below_gen w6 an ar am az sb aL aG 124
                have XG := Lib.hid (BlkE.new w6 (genC an ar am az sb aL aG) 124)
                replace RG := Lib.hid (RG.out.below hbq)
                replace HS := Lib.hid (HS.out.below hbq)
                replace HR := Lib.hid (HR.out.below hbq)
                replace HZ := Lib.hid (HZ.out.below hbq)
                replace HB := Lib.hid (bstep HB.out hbq)
                clear hbq
                generalize w6.alloc (.cells (genC an ar am az sb aL aG) 124) = w7 at *
                generalize w6.heap.size = bG at *
                have g0 := (BlkE.gen XG.out).n0
                have g1 := (BlkE.gen XG.out).n1
                have g2 := (BlkE.gen XG.out).n2
                have g3 := (BlkE.gen XG.out).n3
                have g4 := (BlkE.gen XG.out).c0
                have g5 := (BlkE.gen XG.out).c1
                have g6 := (BlkE.gen XG.out).c2
                have g7 := (BlkE.gen XG.out).c3
                have g8 := (BlkE.gen XG.out).c4
                have g9 := (BlkE.gen XG.out).c5
                have g10 := (BlkE.gen XG.out).c6
                have g11 := (BlkE.gen XG.out).c7
                have g12 := (BlkE.gen XG.out).cl
                have g13 := (BlkE.gen XG.out).cg
                have k0 := (BlkE.slo HS.out).c0
                have k1 := (BlkE.slo HS.out).c1
                have k2 := (BlkE.slo HS.out).c2
                have k3 := (BlkE.slo HS.out).c3
                have HCh := Lib.hid (rchg_any 1 9000 false (some ⟨bg, og, none⟩) (j + 1) c L w7 HR.out HLn.out (⟨an, ar, am, az, ⟨af, aL, aG⟩⟩, sb) RG.out HLa.out)
                have HOk := Lib.hid (fun h => chgS_ok (s := ⟨1, 9000, false, gns L⟩) (g := ⟨an, ar, am, az, ⟨af, aL, aG⟩⟩) h)
                have HS3 := Lib.hid (HSt2.out.trans (show chgOr ⟨1, 9000, false, gns L⟩ (er, ⟨an, ar, am, az, ⟨af, aL, aG⟩⟩) = if er = 0 ∧ (chgS ⟨1, 9000, false, gns L⟩ ⟨an, ar, am, az, ⟨af, aL, aG⟩⟩).2 = 0 then (chgS ⟨1, 9000, false, gns L⟩ ⟨an, ar, am, az, ⟨af, aL, aG⟩⟩).1 else ⟨1, 9000, false, gns L⟩ from rfl))
                clear HSt2
                dsimp only at HCh
                generalize chgS ⟨1, 9000, false, gns L⟩ ⟨an, ar, am, az, ⟨af, aL, aG⟩⟩ = CS at *
                obtain ⟨⟨cid, clim, cro, cg⟩, fe⟩ := CS
                go_wp2_with fail
                refine HCh.out.mono ?_
                rintro e w9 ⟨⟨xa, xn, xc, xL, rfl, hxr, hxg⟩, hb⟩
                dsimp only at hxg HOk HS3 ⊢
                clear k0 k1 k2 k3
                clear g0 g1 g2 g3 g4 g5 g6 g7 g8 g9 g10 g11 g12 g13
                replace HS := Lib.hid (HS.out.below hb)
                replace HR := Lib.hid (HR.out.below hb)
                replace HZ := Lib.hid (HZ.out.below hb)
                replace HB := Lib.hid (bstep HB.out hb)
                have HXr := Lib.hid hxr
                have HXg := Lib.hid hxg
                clear hxr hxg hb HCh XG RG HLa
                go_upto_region 24 with fail
                change Code.wp _ _ _ _ (w9.alloc (.cells (sloC cid clim cro xa xn xc) 24))
                have hbq := below_slo w9 cid clim cro xa xn xc 24
                have HX := Lib.hid (BlkE.new w9 (sloC cid clim cro xa xn xc) 24)
                replace HXr := Lib.hid (HXr.out.below hbq)
                replace HS := Lib.hid (HS.out.below hbq)
                replace HR := Lib.hid (HR.out.below hbq)
                replace HZ := Lib.hid (HZ.out.below hbq)
                replace HB := Lib.hid (bstep HB.out hbq)
                clear hbq
                generalize w9.alloc (.cells (sloC cid clim cro xa xn xc) 24) = w10 at *
                generalize w9.heap.size = bX at *
                by_cases he0 : er = 0
                · subst he0
                  by_cases hf0 : fe = 0
                  · subst hf0
                    obtain ⟨rfl, rfl, rfl⟩ : cid = 1 ∧ clim = 9000 ∧ cro = false := by
                      have h9 := HOk.out rfl
                      injection h9 with h1 h2 h3 h4
                      exact ⟨h1, h2, h3⟩
                    have z0 := (BlkE.slo HX.out).c0
                    have z1 := (BlkE.slo HX.out).c1
                    have z2 := (BlkE.slo HX.out).c2
                    have z3 := (BlkE.slo HX.out).c3
                    have y0 := (BlkE.slo HS.out).c0
                    have y1 := (BlkE.slo HS.out).c1
                    have y2 := (BlkE.slo HS.out).c2
                    have y3 := (BlkE.slo HS.out).c3
                    have yf := (BlkE.slo HS.out).f
                    have HSn2 := Lib.hid (BlkE.sloAll HS.out 1 9000 false xa xn xc)
                    have HRn := Lib.hid (RdG.slo HXr.out HS.out (sloL 1 9000 false xa xn xc))
                    have HZn := Lib.hid (BlkE.pts_ne (c := bS) (by omega) (sloL 1 9000 false xa xn xc) HZ.out)
                    have HBn := Lib.hid (pts_below (B := w.heap.size) (b := bS) (by omega) (sloL 1 9000 false xa xn xc) HB.out)
                    have HGn := Lib.hid (show gns xL = (stepsS sl0 (ac.take (k + 1))).gens from by rw [Hk1s.out, HS3.out, if_pos ⟨rfl, rfl⟩]; exact HXg.out)
                    go_wp2_with fail
                    exact ⟨⟨k + 1, xa, xn, xc, xL, by go_num, by omega, by omega, HSn2, HRn, HGn, HZn, HBn⟩, by simp [intOf]; omega⟩
                  · have hz : (fe == 0) = false := beq_eq_false_iff_ne.2 hf0
                    have HGn := Lib.hid (show gns L = (stepsS sl0 (ac.take (k + 1))).gens from by rw [Hk1s.out, HS3.out, if_neg (fun h => hf0 h.2)])
                    go_wp2_with fail
                    exact ⟨⟨k + 1, _, _, _, L, by go_num, by omega, by omega, HS, HR, HGn, HZ, HB⟩, by simp [intOf]; omega⟩
                · have hz : (er == 0) = false := beq_eq_false_iff_ne.2 he0
                  have HGn := Lib.hid (show gns L = (stepsS sl0 (ac.take (k + 1))).gens from by rw [Hk1s.out, HS3.out, if_neg (fun h => he0 h.1)])
                  go_wp2_with fail
                  exact ⟨⟨k + 1, _, _, _, L, by go_num, by omega, by omega, HS, HR, HGn, HZ, HB⟩, by simp [intOf]; omega⟩
      · have i2 : ¬ (k : Int) < 8 := by omega
        have hE := Lib.hid (HEnd.out k (.inl (by omega)))
        have HI := HIn.out k hk
        rw [← hE.out] at HE HI
        generalize madeS ac = MS at *
        obtain ⟨sid, slim, sro, sg⟩ := MS
        obtain ⟨_, hIi, hIl, hIr, _, _⟩ := HI
        dsimp only at hIi hIl hIr HE
        subst hIi hIl hIr
        have HZ2 := Lib.hid (BlkE.slo HZ.out)
        have k0 := (BlkE.slo HS.out).c0
        have k1 := (BlkE.slo HS.out).c1
        have k2 := (BlkE.slo HS.out).c2
        have k3 := (BlkE.slo HS.out).c3
        have z0 := HZ2.out.c0
        have z1 := HZ2.out.c1
        have z2 := HZ2.out.c2
        have z3 := HZ2.out.c3
        have zf := HZ2.out.f
        go_wp2_with fail
        change bodyPost _ _ _ _ _ (pts wr w.heap.size (sloL 1 9000 false a m c))
        have HRz := Lib.hid (RdG.slo HR.out HZ.out (sloL 1 9000 false a m c))
        have hby := HZ2.out.all 1 9000 false a m c
        have HBz := Lib.hid (pts_below (B := w.heap.size) (b := w.heap.size) (by omega) (sloL 1 9000 false a m c) HB.out)
        generalize pts wr w.heap.size (sloL 1 9000 false a m c) = V at *
        exact bodyPost_ret (v := sloV 1 9000 false a m c) (by simp [results, Tryz.results13, go_sem, hby.c0, hby.c1, hby.c2, hby.c3]) rfl (⟨⟨a, m, c, L, rfl, HRz.out, HE.out⟩, HBz.out⟩)
    · have i1 : ¬ (k : Int) < (n : Int) := by omega
      have hE := Lib.hid (HEnd.out k (.inr ⟨by omega, hk8⟩))
      have HI := HIn.out k hk
      rw [← hE.out] at HE HI
      generalize madeS ac = MS at *
      obtain ⟨sid, slim, sro, sg⟩ := MS
      obtain ⟨_, hIi, hIl, hIr, _, _⟩ := HI
      dsimp only at hIi hIl hIr HE
      subst hIi hIl hIr
      have HZ2 := Lib.hid (BlkE.slo HZ.out)
      have k0 := (BlkE.slo HS.out).c0
      have k1 := (BlkE.slo HS.out).c1
      have k2 := (BlkE.slo HS.out).c2
      have k3 := (BlkE.slo HS.out).c3
      have z0 := HZ2.out.c0
      have z1 := HZ2.out.c1
      have z2 := HZ2.out.c2
      have z3 := HZ2.out.c3
      have zf := HZ2.out.f
      go_wp2_with fail
      change bodyPost _ _ _ _ _ (pts wr w.heap.size (sloL 1 9000 false a m c))
      have HRz := Lib.hid (RdG.slo HR.out HZ.out (sloL 1 9000 false a m c))
      have hby := HZ2.out.all 1 9000 false a m c
      have HBz := Lib.hid (pts_below (B := w.heap.size) (b := w.heap.size) (by omega) (sloL 1 9000 false a m c) HB.out)
      generalize pts wr w.heap.size (sloL 1 9000 false a m c) = V at *
      exact bodyPost_ret (v := sloV 1 9000 false a m c) (by simp [results, Tryz.results13, go_sem, hby.c0, hby.c1, hby.c2, hby.c3]) rfl (⟨⟨a, m, c, L, rfl, HRz.out, HE.out⟩, HBz.out⟩)
end Go.Proofs.YtenkeodfijladaaGreat
