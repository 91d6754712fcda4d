/- Several texts in one, each over the last: The statement SlotOldest: the walk. Printed by mkSmb.py. SlotOldest, from what the form gives of its arguments. -/
import Derived.Test.YtenkeodfijladaaGreatSD
import Derived.Test.YtenkeodfijladaaGreatSF
import Derived.Test.YtenkeodfijladaaGreatOP
namespace Go.Proofs.YtenkeodfijladaaGreat
open Go.RowKit

/-- Where the law's slot stands behind k removals. -/
def OlS (S : Slt) (key : Int) (k : Nat) (W : World) (b : Nat) : Prop := ∃ (c : Nat) (s : Slt) (a : Option Addr) (n cp : Nat) (L : List GP), Dn S key c s ∧ (oldF S.gens key c).length = k ∧ c + 1 ≤ S.gens.length ∧ BlkE W b (sloC s.id s.lim s.ro a n cp) 41 ∧ RdG W (.slice a n cp) L ∧ gns L = s.gens
theorem OlS.below {S : Slt} {key : Int} {k : Nat} {W W' : World} {b : Nat} (h : OlS S key k W b) (hb : Below W.heap.size W W') : OlS S key k W' b := by
  obtain ⟨c, s, a, n, cp, L, h1, h2, h3, h4, h5, h6⟩ := h
  exact ⟨c, s, a, n, cp, L, h1, h2, h3, h4.below hb, h5.below hb, h6⟩
/-- The slot s in its box, whatever row holds its generations. -/
def SlB (s : Slt) (W : World) (b : Nat) : Prop := ∃ (a : Option Addr) (n cp : Nat) (L : List GP), BlkE W b (sloC s.id s.lim s.ro a n cp) 41 ∧ RdG W (.slice a n cp) L ∧ gns L = s.gens
theorem SlB.below {s : Slt} {W W' : World} {b : Nat} (h : SlB s W b) (hb : Below W.heap.size W W') : SlB s W' b := by
  obtain ⟨a, n, cp, L, h4, h5, h6⟩ := h
  exact ⟨a, n, cp, L, h4.below hb, h5.below hb, h6⟩
theorem SlB.size {s : Slt} {W : World} {b : Nat} (h : SlB s W b) : b < W.heap.size := by
  obtain ⟨a, n, cp, L, h4, h5, h6⟩ := h
  exact h4.lt
theorem sfind_law (s : Slt) (a : Option Addr) (n c : Nat) (L : List GP) (W : World) (hr : RdG W (.slice a n c) L) (hg : gns L = s.gens) (hl : LenS 48 s.gens) (key : Int) :
    Calls Tryz.prog 14 #[sloV s.id s.lim s.ro a n c, .int .u64 key] W fun e w' => e = .returned (.tuple #[plV ((allSl s key).headD fnd0), .bool (!(allSl s key).isEmpty)]) ∧ Below W.heap.size W w' := by
  have h := sfind_any s.id s.lim s.ro a n c L W hr (len_gns (hg ▸ hl) (by decide)) key
  obtain ⟨i, l, r, g⟩ := s
  dsimp only at hg h ⊢
  subst hg
  exact h
theorem solder_law (s : Slt) (a : Option Addr) (n c : Nat) (L : List GP) (W : World) (hr : RdG W (.slice a n c) L) (hg : gns L = s.gens) (hl : LenS 48 s.gens) (key : Int) :
    Calls Tryz.prog 17 #[sloV s.id s.lim s.ro a n c, .int .u64 key] W fun e w' => ∃ v', e = .returned v' ∧ OwnI w' W.heap.size v' (olderS s key) ∧ Below W.heap.size W w' := by
  have h := solder_any s.id s.lim s.ro a n c L W hr (len_gns (hg ▸ hl) (by decide)) key
  obtain ⟨i, l, r, g⟩ := s
  dsimp only at hg h ⊢
  subst hg
  exact h
theorem OwnI.at {w : World} {B : Nat} {a : Option Addr} {n cap : Nat} {l : List Int} (h : OwnI w B (.slice a n cap) l) {j : Nat} (hj : j < n) : ∃ b off, a = some ⟨b, off, none⟩ ∧ w.cell? ⟨b, off + j, none⟩ = some (.int .i64 (uat l j)) := by
  have hr : RdL intC w _ l := own_rdl h
  obtain ⟨a', cap', e, h2, h3, _, h5⟩ := RdL.shape hr 0
  injection e with e1 e2 e3
  subst e1 e2 e3
  obtain ⟨b, off, e, hc⟩ := h5 (by omega)
  exact ⟨b, off, e, hc j hj⟩
theorem kill_one (g : Gn) (sl : Sl) (key : Int) (W : World) (hm : RdM W sl g.m.st) (hs : ∀ j, j < 8 → (g.m.st j).length ≤ 48) (hk : killG g [key] = (0, dropG g key)) :
    Calls Tryz.prog 22 #[genV g.num g.rev g.mode g.size sl g.m.live g.m.garb, .slice (some ⟨W.heap.size, 0, none⟩) 1 1] (W.alloc (.cells #[.int .u64 key] 26)) (GOwn (W.alloc (.cells #[.int .u64 key] 26)) (0, dropG g key)) := by
  have hb := (Below.refl W.heap.size W).alloc (Nat.le_refl _) (.cells #[.int .u64 key] 26)
  have h := kill_any g sl (.slice (some ⟨W.heap.size, 0, none⟩) 1 1) [key] (W.alloc (.cells #[.int .u64 key] 26)) (hm.below hb) (fun i hi => Nat.le_trans (hs i hi) (by decide)) (show RdL u64V _ _ [key] from Rd.new W 1 [.int .u64 key] 26 1 rfl (by decide)) (by simp)
  rw [hk] at h
  exact h
theorem chg_law (s : Slt) (a : Option Addr) (n c : Nat) (L : List GP) (W : World) (hr : RdG W (.slice a n c) L) (hg : gns L = s.gens) (hs : ∀ p ∈ L, ∀ j, j < 8 → (p.1.m.st j).length ≤ 10000) (g : Gn) (sl : Sl) (hm : RdM W sl g.m.st) (hl : ∀ j, j < 8 → (g.m.st j).length ≤ 10000) :
    Calls Tryz.prog 23 #[sloV s.id s.lim s.ro a n c, genV g.num g.rev g.mode g.size sl g.m.live g.m.garb] W (SRes W (chgS s g)) := by
  have h := schg_any s.id s.lim s.ro a n c L W hr hs (g, sl) hm hl
  obtain ⟨i, l, r, gs⟩ := s
  dsimp only at hg h ⊢
  subst hg
  exact h
set_option maxRecDepth 100000 in
set_option maxHeartbeats 32000000 in
theorem soldest_law (v : Value) (ac : List AcP) (key : Int) (w : World) (hA : RdA w v ac) :
    Calls Tryz.prog 4 #[v, .int .u64 key] w fun e w' => e = .returned (.bool true) ∧ Below w.heap.size w w' := by
  obtain ⟨va, vc, rfl, hv1, hv2⟩ := hA.shape
  have HMa := Lib.hid (smade_any _ ac w hA)
  have HAw := Lib.hid (fun W => sawake_any W)
  have HI := Lib.hid (madeS_inv ac)
  generalize madeS ac = S at *
  generalize ac.length = an at *
  clear hA hv1 hv2
  have HSV := Lib.hid HI.out.v
  have HSl := Lib.hid (show LenS 48 S.gens from HI.out.len)
  clear HI
  go_enter Tryz.func4, Tryz.ntmps4
  go_wp2_with fail
  refine HMa.out.mono ?_
  rintro e w1 ⟨⟨ma, mn, mc, mL, rfl, hmr, hmg⟩, hb⟩
  have HB := Lib.hid hb
  clear hb HMa
  have hm8 : mn ≤ 1000000 := by
    have h1 := hmr.len
    have h2 := HSV.out.len
    rw [← hmg, gns_len] at h2
    omega
  go_wp2_with fail
  refine (sgiven_any S.id S.lim S.ro ma mn mc mL w1 hmr hm8).mono ?_
  rintro e w2 ⟨⟨ga, gc, rfl, hgr⟩, hb⟩
  replace HB := Lib.hid (bstep HB.out hb)
  have HG := Lib.hid hgr
  have HGg := Lib.hid hmg
  clear hb hmr hm8 hgr hmg
  go_upto_region 2 with fail
  change Code.wp _ _ _ _ (w2.alloc (.cells (sloC S.id S.lim S.ro ga mn gc) 41))
  have hb := below_slo w2 S.id S.lim S.ro ga mn gc 41
  have HS := Lib.hid (BlkE.new w2 (sloC S.id S.lim S.ro ga mn gc) 41)
  have hb5 : w.heap.size ≤ w2.heap.size := HB.out.size
  replace HB := Lib.hid (bstep HB.out hb)
  replace HG := Lib.hid (HG.out.below hb)
  clear hb
  generalize w2.alloc (.cells (sloC S.id S.lim S.ro ga mn gc) 41) = w3 at *
  generalize w2.heap.size = b5 at *
  go_upto_region 3 with fail
  generalize bits BinOp.and IntKind.u64 key 7 = k7
  have HDn := Lib.hid (Dn.start HSV.out HSl.out k7)
  have HFd := Lib.hid (fun (s : Slt) (a : Option Addr) (n c : Nat) (L : List GP) (W : World) (hr : RdG W (.slice a n c) L) (hg : gns L = s.gens) (hl : LenS 48 s.gens) => sfind_law s a n c L W hr hg hl k7)
  have HOd := Lib.hid (fun (s : Slt) (a : Option Addr) (n c : Nat) (L : List GP) (W : World) (hr : RdG W (.slice a n c) L) (hg : gns L = s.gens) (hl : LenS 48 s.gens) => solder_law s a n c L W hr hg hl k7)
  have HFi := Lib.hid (fun (s : Slt) (c k : Nat) (h : Dn S k7 c s) (hc : c + 1 ≤ S.gens.length) (hk : (oldF S.gens k7 c).length = k) (hk1 : 1 ≤ k) => old_find HSV.out h hc hk hk1)
  have HSt := Lib.hid (fun (s : Slt) (c i : Nat) (h : Dn S k7 c s) (hc : (oldF S.gens k7 c).length = i) (hi : i < (olderS S k7).length) => old_step HSV.out h hc hi)
  have HEn := Lib.hid (fun (s : Slt) (c : Nat) (h : Dn S k7 c s) (hk : (oldF S.gens k7 c).length = (olderS S k7).length) => old_end HSV.out h hk)
  have HHd := Lib.hid (fun (h : 0 < (olderS S k7).length) => old_had HSV.out h)
  have h1 := HFd.out S ga mn gc mL w3 HG.out HGg.out HSl.out
  have k0 := HS.out.slo.c0
  have k1 := HS.out.slo.c1
  have k2 := HS.out.slo.c2
  have k3 := HS.out.slo.c3
  generalize hF : (allSl S k7).headD fnd0 = Y at *
  clear hF
  generalize hE : (allSl S k7).isEmpty = eY at *
  clear hE
  generalize hO : olderS S k7 = OL at *
  have HOL := Lib.hid hO
  clear hO
  obtain ⟨yg, ym, yr, ⟨yk, yc, yo, yz⟩, ya⟩ := Y
  try dsimp only [plV, plC] at HFi h1
  go_wp2_with fail
  refine h1.mono ?_
  rintro e w4 ⟨rfl, hb⟩
  clear h1 k0 k1 k2 k3
  replace HB := Lib.hid (bstep HB.out hb)
  replace HS := Lib.hid (HS.out.below hb)
  replace HG := Lib.hid (HG.out.below hb)
  clear hb
  have hb5P : b5 < w4.heap.size := HS.out.lt
  go_upto_region 4 with fail
  change Code.wp _ _ _ _ (w4.alloc (.cells #[.int .i64 yg, .int .i64 ym, .int .i64 yr, .int .u64 yk, .int .u32 yc, .int .i64 yo, .int .i64 yz] 36))
  have hb := (Below.refl w4.heap.size w4).alloc (Nat.le_refl _) (.cells #[.int .i64 yg, .int .i64 ym, .int .i64 yr, .int .u64 yk, .int .u32 yc, .int .i64 yo, .int .i64 yz] 36)
  have HP := Lib.hid (BlkE.new w4 #[.int .i64 yg, .int .i64 ym, .int .i64 yr, .int .u64 yk, .int .u32 yc, .int .i64 yo, .int .i64 yz] 36)
  replace HB := Lib.hid (bstep HB.out hb)
  replace HS := Lib.hid (HS.out.below hb)
  replace HG := Lib.hid (HG.out.below hb)
  clear hb
  generalize w4.alloc (.cells #[.int .i64 yg, .int .i64 ym, .int .i64 yr, .int .u64 yk, .int .u32 yc, .int .i64 yo, .int .i64 yz] 36) = w5 at *
  generalize w4.heap.size = bP at *
  have k0 := HS.out.slo.c0
  have k1 := HS.out.slo.c1
  have k2 := HS.out.slo.c2
  have k3 := HS.out.slo.c3
  go_wp2_with fail
  refine (HOd.out S ga mn gc mL w5 HG.out HGg.out HSl.out).mono ?_
  rintro e w6 ⟨ov, rfl, ho, hb⟩
  rw [HOL.out] at ho
  clear HOL
  have hlt5 : b5 < w5.heap.size := HS.out.lt
  have hltP : bP < w5.heap.size := HP.out.lt
  have HO := Lib.hid ho
  obtain ⟨oa, oc, rfl, ho1, ho2, _⟩ := own_form ho
  replace HB := Lib.hid (bstep HB.out hb)
  replace HS := Lib.hid (HS.out.below hb)
  replace HG := Lib.hid (HG.out.below hb)
  replace HP := Lib.hid (HP.out.below hb)
  clear hb
  clear ho k0 k1 k2 k3
  generalize w5.heap.size = B5 at *
  have Hon := Lib.hid (show ∀ j, j < OL.length → OL[j]? = some (uat OL j) from fun j hj => by unfold uat; rw [List.getD_eq_getElem?_getD, List.getElem?_eq_getElem hj]; rfl)
  generalize hoN : OL.length = oN at *
  have HoN := Lib.hid hoN
  clear hoN
  have hoN1 : oN ≤ 9223372036854775807 := by unfold maxLen at ho2; omega
  have HOl := Lib.hid (show OlS S k7 0 w6 b5 from ⟨0, S, ga, mn, gc, mL, HDn.out, rfl, by have := HSV.out.len; omega, HS.out, HG.out, HGg.out⟩)
  clear HS HG HGg HDn ho1 ho2
  go_wp2_with fail
  go_loopw [36] (fun iv W => ∃ i : Nat, iv = .int .i64 (i : Int) ∧ i ≤ oN ∧ Hid (OlS S k7 i W b5) ∧ Hid (BlkE W bP #[.int .i64 yg, .int .i64 ym, .int .i64 yr, .int .u64 yk, .int .u32 yc, .int .i64 yo, .int .i64 yz] 36) ∧ Hid (OwnI W B5 (.slice oa oN oc) OL) ∧ Hid (Below w.heap.size w W)) (fun iv _ => oN - (intOf iv).toNat)
  case atStart => exact ⟨0, rfl, Nat.zero_le _, HOl, HP, HO, HB⟩
  case round =>
    clear HOl HP HO HB
    obtain ⟨i, rfl, hi, HOl, HP, HO, HB⟩ := hrel
    by_cases hlt : i < oN
    · have j1 : (i : Int) < (oN : Int) := by omega
      obtain ⟨c, s, a, n, cp, L, hD, hc, hcl, hS, hR, hg⟩ := HOl.out
      obtain ⟨r, hr1, hr2, hD2, hc2, hk, hch, hne⟩ := HSt.out s c i hD hc (hlt)
      have hLn : L.length = n := hR.len
      have hsl : s.gens.length = n := by rw [← hg, gns_len, hLn]
      have hSn : S.gens.length = n := by rw [← hsl, hD.len]
      have hn8 : n ≤ 8 := by rw [← hSn]; exact HSV.out.len.2
      have hrn : r + 1 < n := by omega
      have hgq : ∀ q, gat s.gens q = (pat L q).1 := fun q => by rw [← hg]; exact gat_gns
      obtain ⟨og, off, e0, hcell⟩ := HO.out.at hlt
      subst e0
      have hu : uat OL i = (gat s.gens r).num := by
        have h1 := Hon.out i hlt
        rw [hr2] at h1
        injection h1 with h1
        exact h1.symm
      rw [hu, hgq] at hcell
      have HNe := Lib.hid (show ∀ q, q < n → q ≠ r → (pat L q).1.num ≠ (pat L r).1.num from fun q hq hqr => by
        have := hne q (by omega) hqr
        rw [hgq, hgq] at this
        exact this)
      have HL48 := Lib.hid (show ∀ q, q < n → ∀ j, j < 8 → ((pat L q).1.m.st j).length ≤ 48 from fun q hq => hD.st _ (by rw [← hg]; exact List.mem_map_of_mem (pat_mem (by omega))))
      have hsP := le48 (show ∀ p ∈ L, ∀ j, j < 8 → (p.1.m.st j).length ≤ 48 from fun p hp => hD.st _ (by rw [← hg]; exact List.mem_map_of_mem hp))
      rw [hgq] at hk hch hD2
      have HKl := Lib.hid (fun (W : World) (hm : RdM W (pat L r).2 (pat L r).1.m.st) => kill_one (pat L r).1 (pat L r).2 k7 W hm (HL48.out r (by omega)) hk)
      have HCh := Lib.hid (fun (W : World) (hr : RdG W (.slice a n cp) L) (s9 : Sl) (hm : RdM W s9 (dropG (pat L r).1 k7).m.st) => chg_law s a n cp L W hr hg hsP (dropG (pat L r).1 k7) s9 hm (fun j hj => Nat.le_trans (delM_len8 _ _ (HL48.out r (by omega)) j hj) (by decide)))
      rw [hch] at HCh
      have HPm := Lib.hid (show ∀ q, q < n → pat L q ∈ L from fun q hq => pat_mem (by omega))
      have HD2 := Lib.hid hD2
      have HC2 := Lib.hid hc2
      have HS := Lib.hid hS
      have HR := Lib.hid hR
      clear hD hc hcl hr2 hD2 hc2 hk hch hne hgq hu hg hsP hsl hLn hS hR HOl
      have hSn2 : n ≤ S.gens.length := by omega
      clear hSn hr1
      generalize hnn : (pat L r).1.num = nn at *
      have Hnn := Lib.hid hnn
      clear hnn
      have HId := Lib.hid (show (setG s r (dropG (pat L r).1 k7)).id = s.id ∧ (setG s r (dropG (pat L r).1 k7)).lim = s.lim ∧ (setG s r (dropG (pat L r).1 k7)).ro = s.ro from ⟨rfl, rfl, rfl⟩)
      generalize hs2 : setG s r (dropG (pat L r).1 k7) = s2 at *
      have Hs2 := Lib.hid hs2
      clear hs2
      have HBi := HB
      clear HB
      obtain ⟨k0, k1, k2, k3, _⟩ := HS.out.slo
      go_wp2_with fail
      have HOr := Lib.hid (show (0 ≤ r ∧ BlkE wr b5 (sloC s.id s.lim s.ro a n cp) 41) ∨ (r < 0 ∧ SlB s2 wr b5) from .inl ⟨Nat.zero_le _, HS.out⟩)
      clear HS k0 k1 k2 k3 hcell
      go_loopw [44] (fun qv W => ∃ q : Nat, qv = .int .i64 (q : Int) ∧ q ≤ n ∧ Hid (RdG W (.slice a n cp) L) ∧ Hid (BlkE W bP #[.int .i64 yg, .int .i64 ym, .int .i64 yr, .int .u64 yk, .int .u32 yc, .int .i64 yo, .int .i64 yz] 36) ∧ Hid (OwnI W B5 (.slice (some ⟨og, off, none⟩) oN oc) OL) ∧ Hid (Below w.heap.size w W) ∧ Hid ((q ≤ r ∧ BlkE W b5 (sloC s.id s.lim s.ro a n cp) 41) ∨ (r < q ∧ SlB s2 W b5))) (fun qv _ => n - (intOf qv).toNat)
      case atStart => exact ⟨0, rfl, Nat.zero_le _, HR, HP, HO, HBi, HOr⟩
      case round =>
        clear HR HP HO HBi HOr
        obtain ⟨q, rfl, hq, HR, HP, HO, HBi, HOr⟩ := hrel
        by_cases hqn : q < n
        · have q1 : (q : Int) < (n : Int) := by omega
          obtain ⟨gb, go, e0, hG⟩ := HR.out.at hqn
          subst e0
          have HNq := Lib.hid (fun h => HNe.out q hqn h)
          have HMp := Lib.hid (HR.out.m _ (HPm.out q hqn))
          generalize hpq : pat L q = pq at *
          have Hpq := Lib.hid hpq
          clear hpq
          have HG := Lib.hid hG
          clear hG
          obtain ⟨⟨num, rev, md, sz, ⟨f, LV, GA⟩⟩, sl⟩ := pq
          dsimp only at HNq HMp
          have g0 := HG.out.n0
          have g1 := HG.out.n1
          have g2 := HG.out.n2
          have g3 := HG.out.n3
          have g4 := HG.out.c0
          have g5 := HG.out.c1
          have g6 := HG.out.c2
          have g7 := HG.out.c3
          have g8 := HG.out.c4
          have g9 := HG.out.c5
          have g10 := HG.out.c6
          have g11 := HG.out.c7
          have g12 := HG.out.cl
          have g13 := HG.out.cg
          try dsimp only at g0 g1 g2 g3 g4 g5 g6 g7 g8 g9 g10 g11 g12 g13
          go_upto_region 11 with fail
          change Code.wp _ _ _ _ (wr.alloc (.cells (genC num rev md sz sl LV GA) 58))
          have hb := (Below.refl wr.heap.size wr).alloc (Nat.le_refl _) (.cells (genC num rev md sz sl LV GA) 58)
          have HX := Lib.hid (BlkE.new wr (genC num rev md sz sl LV GA) 58)
          clear g0 g1 g2 g3 g4 g5 g6 g7 g8 g9 g10 g11 g12 g13 HG
          replace HOr := Lib.hid (HOr.out.imp (fun h => And.intro h.1 (h.2.below hb)) (fun h => And.intro h.1 (h.2.below hb)))
          replace HMp := Lib.hid (HMp.out.below hb)
          replace HR := Lib.hid (HR.out.below hb)
          replace HP := Lib.hid (HP.out.below hb)
          replace HO := Lib.hid (own_keep HO.out hb)
          replace HBi := Lib.hid (bstep HBi.out hb)
          clear hb
          generalize wr.alloc (.cells (genC num rev md sz sl LV GA) 58) = v1 at *
          generalize wr.heap.size = bX at *
          have c0 := HX.out.gen.n0
          by_cases hqr : q = r
          · subst hqr
            have hnn : num = nn := by have h1 := Hnn.out; rw [Hpq.out] at h1; exact h1
            subst hnn
            have hb0 : (num != num) = false := by simp
            have HSq : Hid (BlkE v1 b5 (sloC s.id s.lim s.ro (some ⟨gb, go, none⟩) n cp) 41) := by
              rcases HOr.out with ⟨_, h1⟩ | ⟨h1, _⟩
              · exact Lib.hid h1
              · exact absurd h1 (by omega)
            clear HOr HNq HNe
            rw [Hpq.out] at HKl HCh
            dsimp only [dropG] at HKl HCh
            generalize delM ⟨f, LV, GA⟩ k7 = M2 at *
            obtain ⟨f2, L2, G2⟩ := M2
            dsimp only at HKl HCh
            have c0 := HX.out.gen.n0
            have c1 := HX.out.gen.n1
            have c2 := HX.out.gen.n2
            have c3 := HX.out.gen.n3
            have cc := HX.out.gen.c
            have c4 := cc 0 (by decide)
            have c5 := cc 1 (by decide)
            have c6 := cc 2 (by decide)
            have c7 := cc 3 (by decide)
            have c8 := cc 4 (by decide)
            have c9 := cc 5 (by decide)
            have c10 := cc 6 (by decide)
            have c11 := cc 7 (by decide)
            clear cc
            have c12 := HX.out.gen.cl
            have c13 := HX.out.gen.cg
            go_wp2_with fail
            refine (HKl.out v1 HMp.out).mono ?_
            rintro e v2 ⟨⟨s9, rfl, ho9⟩, hb⟩
            dsimp only at ho9
            clear c0 c1 c2 c3 c4 c5 c6 c7 c8 c9 c10 c11 c12 c13
            have hba := (Below.refl v1.heap.size v1).alloc (Nat.le_refl _) (.cells #[.int .u64 k7] 26)
            replace hb := bstep hba hb
            have HM9 := Lib.hid ho9.rd
            clear hba ho9
            replace HR := Lib.hid (HR.out.below hb)
            replace HP := Lib.hid (HP.out.below hb)
            replace HO := Lib.hid (own_keep HO.out hb)
            replace HBi := Lib.hid (bstep HBi.out hb)
            replace HSq := Lib.hid (HSq.out.below hb)
            clear hb
            clear HKl HMp HX
            go_upto_region 13 with fail
            change Code.wp _ _ _ _ (v2.alloc (.cells (genC num rev md sz s9 L2 G2) 58))
            have hb := (Below.refl v2.heap.size v2).alloc (Nat.le_refl _) (.cells (genC num rev md sz s9 L2 G2) 58)
            have HX := Lib.hid (BlkE.new v2 (genC num rev md sz s9 L2 G2) 58)
            replace HR := Lib.hid (HR.out.below hb)
            replace HP := Lib.hid (HP.out.below hb)
            replace HO := Lib.hid (own_keep HO.out hb)
            replace HBi := Lib.hid (bstep HBi.out hb)
            replace HSq := Lib.hid (HSq.out.below hb)
            replace HM9 := Lib.hid (HM9.out.below hb)
            clear hb
            generalize v2.alloc (.cells (genC num rev md sz s9 L2 G2) 58) = v3 at *
            generalize v2.heap.size = bY at *
            have k0 := HSq.out.slo.c0
            have k1 := HSq.out.slo.c1
            have k2 := HSq.out.slo.c2
            have k3 := HSq.out.slo.c3
            have c0 := HX.out.gen.n0
            have c1 := HX.out.gen.n1
            have c2 := HX.out.gen.n2
            have c3 := HX.out.gen.n3
            have cc := HX.out.gen.c
            have c4 := cc 0 (by decide)
            have c5 := cc 1 (by decide)
            have c6 := cc 2 (by decide)
            have c7 := cc 3 (by decide)
            have c8 := cc 4 (by decide)
            have c9 := cc 5 (by decide)
            have c10 := cc 6 (by decide)
            have c11 := cc 7 (by decide)
            clear cc
            have c12 := HX.out.gen.cl
            have c13 := HX.out.gen.cg
            go_wp2_with fail
            refine (HCh.out v3 HR.out s9 HM9.out).mono ?_
            rintro e v4 ⟨⟨a2, n2, cp2, L2', rfl, hr2, hg2⟩, hb⟩
            try dsimp only
            clear c0 c1 c2 c3 c4 c5 c6 c7 c8 c9 c10 c11 c12 c13 k0 k1 k2 k3
            have HR2 := Lib.hid hr2
            have HG2 := Lib.hid hg2
            clear hr2 hg2
            replace HR := Lib.hid (HR.out.below hb)
            replace HP := Lib.hid (HP.out.below hb)
            replace HO := Lib.hid (own_keep HO.out hb)
            replace HBi := Lib.hid (bstep HBi.out hb)
            replace HSq := Lib.hid (HSq.out.below hb)
            clear hb
            clear HCh HM9 HX
            go_upto_region 14 with fail
            change Code.wp _ _ _ _ (v4.alloc (.cells (sloC s2.id s2.lim s2.ro a2 n2 cp2) 41))
            have hb := below_slo v4 s2.id s2.lim s2.ro a2 n2 cp2 41
            have HT := Lib.hid (BlkE.new v4 (sloC s2.id s2.lim s2.ro a2 n2 cp2) 41)
            have h4 : b5 < v4.heap.size := HSq.out.lt
            replace HR := Lib.hid (HR.out.below hb)
            replace HP := Lib.hid (HP.out.below hb)
            replace HO := Lib.hid (own_keep HO.out hb)
            replace HBi := Lib.hid (bstep HBi.out hb)
            replace HSq := Lib.hid (HSq.out.below hb)
            replace HR2 := Lib.hid (HR2.out.below hb)
            clear hb
            generalize v4.alloc (.cells (sloC s2.id s2.lim s2.ro a2 n2 cp2) 41) = v5 at *
            generalize v4.heap.size = bT at *
            have k0 := HT.out.slo.c0
            have k1 := HT.out.slo.c1
            have k2 := HT.out.slo.c2
            have k3 := HT.out.slo.c3
            have j0 := HSq.out.slo.c0
            have j1 := HSq.out.slo.c1
            have j2 := HSq.out.slo.c2
            have j3 := HSq.out.slo.c3
            have jf := HSq.out.slo.f
            go_upto_region 17 with fail
            change Code.wp _ _ _ _ (pts v5 b5 (sloL s2.id s2.lim s2.ro a2 n2 cp2))
            have HRn := Lib.hid (HR.out.slo HSq.out (sloL s2.id s2.lim s2.ro a2 n2 cp2))
            have HRm := Lib.hid (HR2.out.slo HSq.out (sloL s2.id s2.lim s2.ro a2 n2 cp2))
            have HPn := Lib.hid (HP.out.pts_ne (show bP ≠ b5 by omega) (sloL s2.id s2.lim s2.ro a2 n2 cp2))
            have HOn := Lib.hid (show OwnI _ B5 _ OL from pts_own hlt5 HO.out (sloL s2.id s2.lim s2.ro a2 n2 cp2))
            have HBn := Lib.hid (pts_below hb5 (sloL s2.id s2.lim s2.ro a2 n2 cp2) HBi.out)
            have HSn := Lib.hid (HSq.out.sloAll s2.id s2.lim s2.ro a2 n2 cp2)
            clear k0 k1 k2 k3 j0 j1 j2 j3 jf HR HR2 HP HO HBi HSq HT
            generalize pts v5 b5 (sloL s2.id s2.lim s2.ro a2 n2 cp2) = v6 at *
            go_wp2_with fail
            exact ⟨⟨q + 1, by go_num, by omega, HRn, HPn, HOn, HBn, Lib.hid (.inr ⟨by omega, a2, n2, cp2, L2', HSn.out, HRm.out, HG2.out⟩)⟩, by simp [intOf]; omega⟩
          · have hb0 : (num != nn) = true := by
              have := HNq.out hqr
              simpa using this
            clear HNq HMp
            go_wp2_with fail
            refine ⟨⟨q + 1, by go_num, by omega, HR, HP, HO, HBi, Lib.hid ?_⟩, by simp [intOf]; omega⟩
            rcases HOr.out with ⟨h1, h2⟩ | ⟨h1, h2⟩
            · exact .inl ⟨by omega, h2⟩
            · exact .inr ⟨by omega, h2⟩
        · have q1 : ¬ (q : Int) < (n : Int) := by omega
          have HSb : Hid (SlB s2 wr b5) := by
            rcases HOr.out with ⟨h1, _⟩ | ⟨_, h1⟩
            · exact absurd h1 (by omega)
            · exact Lib.hid h1
          clear HOr HNe HKl HCh HPm Hnn HL48
          obtain ⟨a3, n3, cp3, L3, hS3, hR3, hg3⟩ := HSb.out
          have HS := Lib.hid hS3
          have HR3 := Lib.hid hR3
          have HG3 := Lib.hid hg3
          clear HSb hS3 hR3 hg3 HR hq
          have HF3 := Lib.hid (HFd.out s2 a3 n3 cp3 L3 wr HR3.out HG3.out HD2.out.st)
          have HFi3 := Lib.hid (HFi.out s2 (r + 1) (i + 1) HD2.out (by omega) HC2.out (by omega))
          by_cases hcase : i + 1 < oN ∨ ym = 1
          · have h5 := HFi3.out.1 hcase
            rw [h5.1, h5.2] at HF3
            clear h5 HFi3
            have HF4 := Lib.hid (show Calls Tryz.prog 14 #[sloV s2.id s2.lim s2.ro a3 n3 cp3, .int .u64 k7] wr fun e w' => e = .returned (.tuple #[.agg #[.int .i64 yg, .int .i64 ym, .int .i64 yr, .int .u64 yk, .int .u32 yc, .int .i64 yo, .int .i64 yz], .bool true]) ∧ Below wr.heap.size wr w' from HF3.out)
            clear HF3
            have k0 := HS.out.slo.c0
            have k1 := HS.out.slo.c1
            have k2 := HS.out.slo.c2
            have k3 := HS.out.slo.c3
            go_wp2_with fail
            refine HF4.out.mono ?_
            rintro e v1 ⟨rfl, hb⟩
            clear k0 k1 k2 k3 HF4
            replace HR3 := Lib.hid (HR3.out.below hb)
            replace HP := Lib.hid (HP.out.below hb)
            replace HO := Lib.hid (own_keep HO.out hb)
            replace HBi := Lib.hid (bstep HBi.out hb)
            replace HS := Lib.hid (HS.out.below hb)
            clear hb
            go_upto_region 19 with fail
            change Code.wp _ _ _ _ (v1.alloc (.cells #[.int .i64 yg, .int .i64 ym, .int .i64 yr, .int .u64 yk, .int .u32 yc, .int .i64 yo, .int .i64 yz] 36))
            have hb := (Below.refl v1.heap.size v1).alloc (Nat.le_refl _) (.cells #[.int .i64 yg, .int .i64 ym, .int .i64 yr, .int .u64 yk, .int .u32 yc, .int .i64 yo, .int .i64 yz] 36)
            have HN := Lib.hid (BlkE.new v1 #[.int .i64 yg, .int .i64 ym, .int .i64 yr, .int .u64 yk, .int .u32 yc, .int .i64 yo, .int .i64 yz] 36)
            replace HR3 := Lib.hid (HR3.out.below hb)
            replace HP := Lib.hid (HP.out.below hb)
            replace HO := Lib.hid (own_keep HO.out hb)
            replace HBi := Lib.hid (bstep HBi.out hb)
            replace HS := Lib.hid (HS.out.below hb)
            clear hb
            generalize v1.alloc (.cells #[.int .i64 yg, .int .i64 ym, .int .i64 yr, .int .u64 yk, .int .u32 yc, .int .i64 yo, .int .i64 yz] 36) = v2 at *
            generalize v1.heap.size = bN at *
            have p0 := HP.out.cell (i := 0) rfl
            have p1 := HP.out.cell (i := 1) rfl
            have p2 := HP.out.cell (i := 2) rfl
            have p3 := HP.out.cell (i := 3) rfl
            have p4 := HP.out.cell (i := 4) rfl
            have p5 := HP.out.cell (i := 5) rfl
            have p6 := HP.out.cell (i := 6) rfl
            have z0 := HN.out.cell (i := 0) rfl
            have z1 := HN.out.cell (i := 1) rfl
            have z2 := HN.out.cell (i := 2) rfl
            have z3 := HN.out.cell (i := 3) rfl
            have z4 := HN.out.cell (i := 4) rfl
            have z5 := HN.out.cell (i := 5) rfl
            have z6 := HN.out.cell (i := 6) rfl
            have HRel := Lib.hid (show OlS S k7 (i + 1) v2 b5 from ⟨r + 1, s2, a3, n3, cp3, L3, HD2.out, HC2.out, by omega, HS.out, HR3.out, HG3.out⟩)
            have HPr := HP
            clear HS HR3 HG3 HD2 HC2 HP HN
            by_cases hio : i + 1 < oN
            · have t1 : (i : Int) + 1 < (oN : Int) := by omega
              clear hcase
              go_wp2_with fail
              exact ⟨⟨i + 1, by go_num, by omega, HRel, HPr, HO, HBi⟩, by simp [intOf]; omega⟩
            · have t1 : ¬ (i : Int) + 1 < (oN : Int) := by omega
              have hym : ym = 1 := hcase.resolve_left hio
              clear hcase
              subst hym
              go_wp2_with fail
              exact ⟨⟨i + 1, by go_num, by omega, HRel, HPr, HO, HBi⟩, by simp [intOf]; omega⟩
          · have h5 := HFi3.out.2 hcase
            rw [h5] at HF3
            clear h5 HFi3
            generalize (allSl s2 k7).headD fnd0 = X at *
            obtain ⟨xg, xm, xr, ⟨xk, xc, xo, xz⟩, xa⟩ := X
            have HF4 := Lib.hid (show Calls Tryz.prog 14 #[sloV s2.id s2.lim s2.ro a3 n3 cp3, .int .u64 k7] wr fun e w' => e = .returned (.tuple #[.agg #[.int .i64 xg, .int .i64 xm, .int .i64 xr, .int .u64 xk, .int .u32 xc, .int .i64 xo, .int .i64 xz], .bool false]) ∧ Below wr.heap.size wr w' from HF3.out)
            clear HF3
            have k0 := HS.out.slo.c0
            have k1 := HS.out.slo.c1
            have k2 := HS.out.slo.c2
            have k3 := HS.out.slo.c3
            go_wp2_with fail
            refine HF4.out.mono ?_
            rintro e v1 ⟨rfl, hb⟩
            clear k0 k1 k2 k3 HF4
            replace HR3 := Lib.hid (HR3.out.below hb)
            replace HP := Lib.hid (HP.out.below hb)
            replace HO := Lib.hid (own_keep HO.out hb)
            replace HBi := Lib.hid (bstep HBi.out hb)
            replace HS := Lib.hid (HS.out.below hb)
            clear hb
            go_upto_region 19 with fail
            change Code.wp _ _ _ _ (v1.alloc (.cells #[.int .i64 xg, .int .i64 xm, .int .i64 xr, .int .u64 xk, .int .u32 xc, .int .i64 xo, .int .i64 xz] 36))
            have hb := (Below.refl v1.heap.size v1).alloc (Nat.le_refl _) (.cells #[.int .i64 xg, .int .i64 xm, .int .i64 xr, .int .u64 xk, .int .u32 xc, .int .i64 xo, .int .i64 xz] 36)
            have HN := Lib.hid (BlkE.new v1 #[.int .i64 xg, .int .i64 xm, .int .i64 xr, .int .u64 xk, .int .u32 xc, .int .i64 xo, .int .i64 xz] 36)
            replace HR3 := Lib.hid (HR3.out.below hb)
            replace HP := Lib.hid (HP.out.below hb)
            replace HO := Lib.hid (own_keep HO.out hb)
            replace HBi := Lib.hid (bstep HBi.out hb)
            replace HS := Lib.hid (HS.out.below hb)
            clear hb
            generalize v1.alloc (.cells #[.int .i64 xg, .int .i64 xm, .int .i64 xr, .int .u64 xk, .int .u32 xc, .int .i64 xo, .int .i64 xz] 36) = v2 at *
            generalize v1.heap.size = bN at *
            have p0 := HP.out.cell (i := 0) rfl
            have p1 := HP.out.cell (i := 1) rfl
            have p2 := HP.out.cell (i := 2) rfl
            have p3 := HP.out.cell (i := 3) rfl
            have p4 := HP.out.cell (i := 4) rfl
            have p5 := HP.out.cell (i := 5) rfl
            have p6 := HP.out.cell (i := 6) rfl
            have z0 := HN.out.cell (i := 0) rfl
            have z1 := HN.out.cell (i := 1) rfl
            have z2 := HN.out.cell (i := 2) rfl
            have z3 := HN.out.cell (i := 3) rfl
            have z4 := HN.out.cell (i := 4) rfl
            have z5 := HN.out.cell (i := 5) rfl
            have z6 := HN.out.cell (i := 6) rfl
            have HRel := Lib.hid (show OlS S k7 (i + 1) v2 b5 from ⟨r + 1, s2, a3, n3, cp3, L3, HD2.out, HC2.out, by omega, HS.out, HR3.out, HG3.out⟩)
            have HPr := HP
            clear HS HR3 HG3 HD2 HC2 HP HN
            have t1 : ¬ (i : Int) + 1 < (oN : Int) := by omega
            have hym : ym ≠ 1 := fun h => hcase (.inr h)
            have t2 : (ym == 1) = false := by simpa using hym
            clear hcase
            go_wp2_with fail
            exact ⟨⟨i + 1, by go_num, by omega, HRel, HPr, HO, HBi⟩, by simp [intOf]; omega⟩
    · have j1 : ¬ (i : Int) < (oN : Int) := by omega
      have hin : i = oN := by omega
      subst hin
      obtain ⟨c, s, a, n, cp, L, hD, hc, hcl, hS, hR, hg⟩ := HOl.out
      have HR := Lib.hid hR
      have HE := Lib.hid (HEn.out s c hD hc)
      have HOq := Lib.hid (HOd.out s a n cp L wr hR hg hD.st)
      rw [HE.out] at HOq
      obtain ⟨k0, k1, k2, k3, _⟩ := hS.slo
      clear hD hc hcl hS hR hg HOl HE
      go_wp2_with fail
      refine HOq.out.mono ?_
      rintro e v1 ⟨ov, rfl, ho, hb⟩
      obtain ⟨ea, ec, rfl, ho1, ho2, _⟩ := own_form ho
      have HBv := Lib.hid (bstep HB.out hb)
      clear ho hb HOq k0 k1 k2 k3 ho1 ho2
      cases eY with
      | false =>
        go_wp2_with fail
        refine (HAw.out _).mono ?_
        rintro e w2 ⟨rfl, hb⟩
        have HBz := Lib.hid (bstep HBv.out hb)
        go_wp2_with fail
        go_ret
        exact ⟨rfl, HBz.out⟩
      | true =>
        have h0 : i = 0 := by
          by_cases e : 0 < i
          · exact absurd (HHd.out e) (by decide)
          · omega
        subst h0
        go_wp2_with fail
        refine (HAw.out _).mono ?_
        rintro e w2 ⟨rfl, hb⟩
        have HBz := Lib.hid (bstep HBv.out hb)
        go_wp2_with fail
        go_ret
        exact ⟨rfl, HBz.out⟩
end Go.Proofs.YtenkeodfijladaaGreat

namespace Go.Proofs.YtenkeodfijladaaGreat
open Go.RowKit

theorem soldest_open (a : Option Addr) (n cap : Nat) (key : Int) (w : World) (h1 : ∃ l : List AcP, RdA w (.slice a n cap) l) (_hw : (Lit.int .u64 key).wf = true) :
    Calls Tryz.prog 4 #[.slice a n cap, .int .u64 key] w fun e w' => e = .returned (.bool true) ∧ Below w.heap.size w w' := by
  obtain ⟨l, hl⟩ := h1
  exact soldest_law _ l key w hl
end Go.Proofs.YtenkeodfijladaaGreat
