/- A part of the walk. -/
import Derived.Test.YtcgfilmmokmdjaaGreatQAS
import Derived.Test.YtcgfilmmokmdjaaGreatSkb
import Derived.Test.YtcgfilmmokmdjaaGreatQAP
import Derived.Test.YtcgfilmmokmdjaaGreatQAQ
import Derived.Test.YtcgfilmmokmdjaaGreatQAN
set_option linter.all false
set_option maxRecDepth 100000
set_option maxHeartbeats 32000000
namespace Go.Proofs.YtcgfilmmokmdjaaGreat
open Go.RowKit
def SRo (w0 : World) (p : Slt × Int) (e : Ending) (w' : World) : Prop := (∃ a n c L, e = .returned (.tuple #[zhq p.1.id p.1.lim p.1.ro a n c, .int .i64 p.2]) ∧ OwnGs w' w0.heap.size (.slice a n c) n L ∧ gns L = p.1.gens) ∧ Below w0.heap.size w0 w'
theorem OwnGs.nil (w : World) (B : Nat) : OwnGs w B (.slice Option.none 0 0) 0 [] := ⟨World.ownsRow_nil _ _ _ _, rfl, fun p hp => by cases hp⟩
theorem SRo.no {w0 w : World} {c : Int} (h : Below w0.heap.size w0 w) : SRo w0 (wS, c) (.returned (.tuple #[zhq 0 0 false Option.none 0 0, .int .i64 c])) w := ⟨⟨Option.none, 0, 0, [], rfl, OwnGs.nil _ _, rfl⟩, h⟩
theorem zGZ {s : Slt} (hV : VldSl s) {k : Nat} (hk : k < s.gens.length) {y : Gn} (h : (gat s.gens k).num = y.num) : uj s.gens y = s.gens.set k y := by
 have hasc : ∀ i j, i < j → j < s.gens.length → (gat s.gens i).num < (gat s.gens j).num := by
  intro i j hij
  induction j with
  | zero => omega
  | succ j ih =>
   intro hj;have h1 := (hV.g (j + 1) hj).2.1 (by omega);rw [show j + 1 - 1 = j by omega] at h1
   by_cases e : i = j
   ·
    subst e; exact h1
   have := ih (by omega) (by omega); omega
 refine List.ext_getElem? fun i => ?_
 unfold uj;rw [List.getElem?_map, List.getElem?_set]
 by_cases hi : i < s.gens.length
 ·
  have eg : gat s.gens i = s.gens[i] := by unfold gat; rw [List.getD_eq_getElem?_getD, List.getElem?_eq_getElem hi]; rfl
  rw [List.getElem?_eq_getElem hi, ← eg]
  by_cases e : k = i
  ·
   subst e;simp [h, hi]
  rw [if_neg e];have hne : (gat s.gens i).num ≠ y.num := by
   rw [← h];rcases Nat.lt_or_gt_of_ne e with h1 | h1
   ·
    have := hasc k i h1 hi; omega
   have := hasc i k h1 hk; omega
  simp [hne]
 rw [List.getElem?_eq_none (by omega)]
 by_cases e : k = i
 ·
  omega
 rw [if_neg e]; rfl
theorem zJ0 (i l : Int) (r : Bool) (a : Option Addr) (n c : Nat) (L : List GP) (w : World) (h : RdG w (.slice a n c) L) (hs : ∀ p ∈ L, ∀ j, j < 8 → (p.1.m.st j).length ≤ 10000) (y : GP) (hy : RdM w y.2 y.1.m.st) (hyl : ∀ j, j < 8 → (y.1.m.st j).length ≤ 10000) (hv : zg ⟨i, l, r, gns L⟩ = false) :
  Calls Tryz.prog 14 #[zhq i l r a n c, ze y.1.num y.1.rev y.1.mode y.1.size y.2 y.1.m.live y.1.m.garb] w (SRo w (yb ⟨i, l, r, gns L⟩ y.1)) := by
 have HSv := zh (fun W (hb : Below w.heap.size w W) => yY i l r a n c L W (h.below hb) hs);have HC := zh (show yb ⟨i, l, r, gns L⟩ y.1 = (wS, 1) by unfold yb; rw [hv]; rfl);rw [hv] at HSv;clear h hs hv hy hyl
 go_enter Tryz.func14, Tryz.ntmps14
 go_upto_region 1 with fail;change Code.wp _ _ _ _ (((w.alloc (.cells (zS i l r a n c) 27)).alloc (.cells (zX y.1.num y.1.rev y.1.mode y.1.size y.2 y.1.m.live y.1.m.garb) 38)).alloc (.cells (zS 0 0 false none 0 0) 27));obtain ⟨W, hW, hbx, hbg, hbr, hbw⟩ := tZ w i l r a n c y 27 38;rw [hW];have HX := zh hbx;have HG := zh hbg;have HR := zh hbr;have HB := zh hbw;clear hW hbx hbg hbr hbw;obtain ⟨k0, k1, k2, k3⟩ := HX.out.q;go_wp2_with fail;refine (HSv.out _ HB.out).mono ?_;rintro e w1 ⟨rfl, hb⟩;replace HX := zh (HX.out.below hb);replace HR := zh (HR.out.below hb);replace HB := zh (zA HB.out hb);clear hb;clear k0 k1 k2 k3;obtain ⟨z0, z1, z2, z3⟩ := HR.out.q;have zf := HR.out.f;go_wp2_with fail;change bodyPost _ _ _ _ _ (pts w1 (w.heap.size + 2) (zU 0 0 false none 0 0));have hby := HR.out.all 0 0 false none 0 0
 have HBz := zh (zD (B := w.heap.size) (b := (w.heap.size + 2)) (by omega) (zU 0 0 false none 0 0) HB.out);generalize pts w1 (w.heap.size + 2) (zU 0 0 false none 0 0) = V at *;exact bodyPost_ret (v := .tuple #[zhq 0 0 false none 0 0, .int .i64 1]) (by simp [results, Tryz.results14, go_sem, hby.c0, hby.c1, hby.c2, hby.c3]) rfl (by rw [HC.out]; exact SRo.no HBz.out)
theorem zHl (i l : Int) (r : Bool) (a : Option Addr) (n c : Nat) (L : List GP) (w : World) (h : RdG w (.slice a n c) L) (hs : ∀ p ∈ L, ∀ j, j < 8 → (p.1.m.st j).length ≤ 10000) (y : GP) (hy : RdM w y.2 y.1.m.st) (hyl : ∀ j, j < 8 → (y.1.m.st j).length ≤ 10000) (hv : zg ⟨i, l, r, gns L⟩ = true) :
  Calls Tryz.prog 14 #[zhq i l r a n c, ze y.1.num y.1.rev y.1.mode y.1.size y.2 y.1.m.live y.1.m.garb] w (SRo w (yb ⟨i, l, r, gns L⟩ y.1)) := by
 have HSv := zh (fun W (hb : Below w.heap.size w W) => yY i l r a n c L W (h.below hb) hs);have hV := (zT _).1 hv;have hLn : L.length = n := by
  obtain ⟨_, _, e, _⟩ := h.shape;injection e with _ e _; exact e.symm
 have hl : (gns L).length = n := by rw [zz, hLn]
 have hn : 1 ≤ n ∧ n ≤ 8 := by have := hV.len; simp only [hl] at this; exact this
 have HC := zh (show yb ⟨i, l, r, gns L⟩ y.1 = (if qP L y.1.num n = true then (if zg ⟨i, l, r, uj (gns L) y.1⟩ = true then (⟨i, l, r, uj (gns L) y.1⟩, 0) else (wS, 1)) else (wS, 6)) by
  unfold yb; rw [if_pos hv, zEL L y.1.num n hLn.symm])
 have HPf := zh (fun k (hk : k < n) (e : (pat L k).1.num = y.1.num) => show uj (gns L) y.1 = (gns L).set k y.1 from zGZ hV (k := k) (by rw [hl]; exact hk) (by rw [xD]; exact e))
 have HMy := zh (show ∀ k, k < n → (pat L k).1.num = y.1.num → qP L y.1.num n = true from fun k hk e => by
  unfold qP
  rw [List.any_eq_true]
  refine ⟨pat L k, ?_, by simp [e]⟩
  rw [List.take_of_length_le (by omega)]
  exact xI (by omega))
 have HMn := zh (show (∀ j, j < L.length → (pat L j).1.num ≠ y.1.num) → qP L y.1.num n = false from fun hh => by
  unfold qP
  rw [Bool.eq_false_iff]
  intro ht
  rw [List.any_eq_true] at ht
  obtain ⟨x, hx, e⟩ := ht
  obtain ⟨j, hj, rfl⟩ := List.getElem_of_mem (List.mem_of_mem_take hx)
  have h1 := hh j hj
  unfold pat at h1
  rw [List.getD_eq_getElem?_getD, List.getElem?_eq_getElem hj] at h1
  exact h1 (of_decide_eq_true e))
 rw [hv] at HSv;have HRw := zh h;have HSs := zh hs;have HMp := zh hy;have HLp := zh hyl;have HLn := zh hLn;clear h hs hv hV hLn hl hy hyl;obtain ⟨⟨num, rev, md, sz, ⟨fs, LV, GA⟩⟩, s⟩ := y;dsimp only at *
 go_enter Tryz.func14, Tryz.ntmps14
 go_upto_region 1 with fail;change Code.wp _ _ _ _ (((w.alloc (.cells (zS i l r a n c) 27)).alloc (.cells (zX num rev md sz s LV GA) 38)).alloc (.cells (zS 0 0 false none 0 0) 27));obtain ⟨W, hW, hbx, hbg, hbr, hbw⟩ := tZ w i l r a n c (⟨num, rev, md, sz, ⟨fs, LV, GA⟩⟩, s) 27 38;rw [hW];have HX := zh hbx;have HG := zh hbg;have HR := zh hbr;have HB := zh hbw;clear hW hbx hbg hbr hbw;have hB0 : w.heap.size + 3 ≤ W.heap.size := by have := HR.out.lt; omega
 dsimp only at HG;obtain ⟨k0, k1, k2, k3⟩ := HX.out.q;go_wp2_with fail;refine (HSv.out _ HB.out).mono ?_;rintro e w1 ⟨rfl, hb⟩;replace HX := zh (HX.out.below hb);replace HG := zh (HG.out.below hb);replace HR := zh (HR.out.below hb);replace HB := zh (zA HB.out hb);have hB1 := Nat.le_trans hB0 hb.size;clear hb HSv;clear k0 k1 k2 k3;have HIx := zh (zE6 a n c L (w.heap.size + 1) num rev md sz s LV GA w1 (HRw.out.below HB.out) (by omega) HG.out);have k3 := HX.out.c3;go_wp2_with fail;refine HIx.out.mono ?_;rintro e w2 ⟨⟨z, rfl, hF⟩, hb⟩;replace HX := zh (HX.out.below hb);replace HG := zh (HG.out.below hb);replace HR := zh (HR.out.below hb);replace HB := zh (zA HB.out hb);have hB2 := Nat.le_trans hB1 hb.size;clear hb k3 HIx;rcases hF with ⟨k, hk, rfl, hkn, _⟩ | ⟨rfl, hF⟩
 ·
  have hk' : k < n := by rw [← HLn.out]; exact hk
  have HC2 := zh (HC.out.trans (if_pos (HMy.out k hk' hkn)));have hpf := HPf.out k hk' hkn;rw [hpf] at HC2;clear HC HMy HMn HPf hpf hk hkn;have i1 : ¬ (k : Int) < 0 := by omega
  obtain ⟨k0, k1, k2, k3⟩ := HX.out.q;go_wp2_with fail;refine (zEa i l r a n c L w2 (HRw.out.below HB.out) HSs.out (by omega)).mono ?_;rintro e w3 hq;obtain ⟨⟨a1, c1, M, rfl, ho, hg⟩, hb⟩ := hq;have HOw := zh (ho.lower hB2);have HGn := zh hg;clear k0 k1 k2 k3 ho hg;replace HX := zh (HX.out.below hb);replace HG := zh (HG.out.below hb);replace HR := zh (HR.out.below hb);replace HB := zh (zA HB.out hb);have hB3 := Nat.le_trans hB2 hb.size;clear hb;obtain ⟨k0, k1, k2, k3⟩ := HX.out.q;have kf := HX.out.f;go_upto_region 7 with fail;clear k0 k1 k2 k3 kf;obtain ⟨g, rfl, hgB, hgl⟩ := tJ HOw.out.row (by omega);have HX4 := zh (HX.out.all i l r (some ⟨g, 0, none⟩) n c1);have HG4 := zh (HG.out.pts_ne (c := w.heap.size) (by omega) (zU i l r (some ⟨g, 0, none⟩) n c1));have HR4 := zh (HR.out.pts_ne (d := w.heap.size) (by omega) (zU i l r (some ⟨g, 0, none⟩) n c1))
  have HB4 := zh (zD (B := w.heap.size) (b := w.heap.size) (Nat.le_refl _) (zU i l r (some ⟨g, 0, none⟩) n c1) HB.out);have HO4 := zh (HOw.out.pts (b := w.heap.size) (by omega) (zU i l r (some ⟨g, 0, none⟩) n c1));have hB4 : w.heap.size + 3 ≤ (pts w3 w.heap.size (zU i l r (some ⟨g, 0, none⟩) n c1)).heap.size := by rw [tA]; exact hB3
  clear HX HG HR HB HOw;change Code.wp _ _ _ _ (pts w3 w.heap.size (zU i l r (some ⟨g, 0, none⟩) n c1));generalize pts w3 w.heap.size (zU i l r (some ⟨g, 0, none⟩) n c1) = w4 at *;have HCp := zh (fun W (hb : Below w4.heap.size w4 W) => qA ⟨num, rev, md, sz, ⟨fs, LV, GA⟩⟩ s W (HMp.out.below (zA HB4.out hb)) HLp.out);dsimp only at HCp;refine yt [eqS (.pointer (some ⟨w.heap.size, 3, none⟩)), eqS (.slice (some ⟨g, 0, none⟩) n c1), eqS (.int .i64 (k : Int)), eqS (ze num rev md sz s LV GA), zLP (w.heap.size + 3) ⟨num, rev, md, sz, ⟨fs, LV, GA⟩⟩] [] 31 (by kernel_rfl) (by kernel_rfl) (by rfl) (by kernel_rfl) (fun f => by simp [frm, zN, Act.put]; exact rfl) ?_ ?_
  ·
   refine ⟨?_, ?_, ?_, ?_, ?_, trivial⟩
   ·
    intro f w1 hb hd;clear hd;dsimp only;go_wp2_with fail;exact pS rfl (by simp)
   ·
    intro f w1 hb hd;have d0 : f 0 = (.pointer (some ⟨w.heap.size, 3, none⟩)) := hd 0 (by kernel_rfl);clear hd;dsimp only;rw [d0];have q3 := (HX4.out.below hb).c3;go_wp2_with fail;exact pS rfl (by simp)
   ·
    intro f w1 hb hd;clear hd;dsimp only;go_wp2_with fail;exact pS rfl (by simp)
   ·
    intro f w1 hb hd;clear hd;dsimp only;have zo := HG4.out.below hb;obtain ⟨q0, q1, q2, q3, q4, q5, q6, q7, q8, q9, q10, q11, q12, q13⟩ := zo.q;clear zo;go_wp2_with fail;exact pS rfl (by simp)
   intro f w1 hb hd;have d3 : f 3 = (ze num rev md sz s LV GA) := hd 3 (by kernel_rfl);clear hd;dsimp only;rw [d3];go_wp2_with fail;refine (HCp.out w1 hb).mono ?_;rintro e w9 ⟨⟨s9, rfl, ho9⟩, hb9⟩;have HO9 := zh (ho9.mono (Nat.le_trans hB4 hb.size));clear ho9;go_wp2_with fail;exact ⟨rfl, hb9, fun t ht => by injection ht with ht; subst ht; exact ⟨⟨s9, rfl, HO9.out⟩, fun h => by simp at h⟩⟩
  intro f w5 hb hd hff;clear hff;have d1 : f 1 = .slice (some ⟨g, 0, none⟩) n c1 := hd 1 (show 1 < 5 by decide);have d2 : f 2 = .int .i64 (k : Int) := hd 2 (show 2 < 5 by decide);obtain ⟨s4, d4, ho4⟩ := show ∃ s, f 4 = ze num rev md sz s LV GA ∧ OwnM w5 (w.heap.size + 3) s fs from hd 4 (show 4 < 5 by decide);clear hd
  try dsimp only
  rw [d1, d2, d4];clear d1 d2 d4;generalize f 0 = z0;generalize f 3 = z3;clear f;have ho5 := HO4.out.keep hb;have HT5 := zh ((zCg ho5.row ho5.len hk').there (wg ho5.row));have HO5 := zh (ho5.set k hk' ((⟨num, rev, md, sz, ⟨fs, LV, GA⟩⟩ : Gn), s4) ho4);dsimp only at HO5;have HX5 := zh ((HX4.out.below hb).pts_ne (d := g) (by omega) (gpL (k * 14) num rev md sz s4 LV GA));have HR5 := zh ((HR4.out.below hb).pts_ne (d := g) (by omega) (gpL (k * 14) num rev md sz s4 LV GA));have HB5 := zh (zD (B := w.heap.size) (b := g) (by omega) (gpL (k * 14) num rev md sz s4 LV GA) (zA HB4.out hb));have HGs := zh (show gns (M.set k ((⟨num, rev, md, sz, ⟨fs, LV, GA⟩⟩ : Gn), s4)) = (gns L).set k (⟨num, rev, md, sz, ⟨fs, LV, GA⟩⟩ : Gn) from by rw [zFa, HGn.out])
  have HLs := zh (show ∀ p ∈ M.set k ((⟨num, rev, md, sz, ⟨fs, LV, GA⟩⟩ : Gn), s4), ∀ j, j < 8 → (p.1.m.st j).length ≤ 10000 from fun p hp j hj => by
   rcases List.mem_or_eq_of_mem_set hp with hp | rfl
   ·
    have h1 : p.1 ∈ gns L := HGn.out ▸ List.mem_map_of_mem hp
    obtain ⟨q, hq, e⟩ := List.mem_map.1 h1
    rw [← e]; exact HSs.out q hq j hj
   exact HLp.out j hj)
  clear ho5 ho4 hb HCp HX4 HG4 HR4 HB4 HO4 HGn;change wpList _ _ _ (_ :: _ :: []) _ _;go_wp2_with (first | ((with_reducible refine wpList_store_mid ?_ 38 (.tmp 25) (.tmp 24) ?_ g (k * 14) (zX num rev md sz s4 LV GA) ?_ ?_ ?_ ?_ ?_ ?_); rfl; rfl; rfl; rfl; exact HT5.out; exact zFg; exact zBL _ _ _ _ _ _ _; rw [zA8]; generalize (pts w5 g (gpL (k * 14) num rev md sz s4 LV GA)) = w6 at *; have k0 := HX5.out.c0; have k1 := HX5.out.c1; have k2 := HX5.out.c2; have k3 := HX5.out.c3));refine (yY i l r (some ⟨g, 0, none⟩) n c1 _ w6 HO5.out.rd HLs.out).mono ?_;rintro e w7 ⟨rfl, hb⟩;rw [HGs.out];replace HX5 := zh (HX5.out.below hb);replace HR5 := zh (HR5.out.below hb);replace HB5 := zh (zA HB5.out hb);replace HO5 := zh (HO5.out.keep hb);clear hb k0 k1 k2 k3 HLs;generalize hvn : zg ⟨i, l, r, (gns L).set k (⟨num, rev, md, sz, ⟨fs, LV, GA⟩⟩ : Gn)⟩ = bv at *
  cases bv
  ·
   have HC := zh (HC2.out.trans (if_neg (by decide)));clear HC2 hvn;obtain ⟨z0, z1, z2, z3⟩ := HR5.out.q;have zf := HR5.out.f;go_wp2_with fail;change bodyPost _ _ _ _ _ (pts w7 (w.heap.size + 2) (zU 0 0 false none 0 0));have hby := HR5.out.all 0 0 false none 0 0;have HBz := zh (zD (B := w.heap.size) (b := (w.heap.size + 2)) (by omega) (zU 0 0 false none 0 0) HB5.out);generalize pts w7 (w.heap.size + 2) (zU 0 0 false none 0 0) = V at *;exact bodyPost_ret (v := .tuple #[zhq 0 0 false none 0 0, .int .i64 1]) (by simp [results, Tryz.results14, go_sem, hby.c0, hby.c1, hby.c2, hby.c3]) rfl (by rw [HC.out]; exact SRo.no HBz.out)
  have HC := zh (HC2.out.trans (if_pos rfl));clear HC2 hvn;obtain ⟨k0, k1, k2, k3⟩ := HX5.out.q;obtain ⟨z0, z1, z2, z3⟩ := HR5.out.q;have zf := HR5.out.f;go_wp2_with fail;change bodyPost _ _ _ _ _ (pts w7 (w.heap.size + 2) (zU i l r (some ⟨g, 0, none⟩) n c1));have HOz := zh (HO5.out.pts (b := w.heap.size + 2) (by omega) (zU i l r (some ⟨g, 0, none⟩) n c1));have hby := HR5.out.all i l r (some ⟨g, 0, none⟩) n c1;have HBz := zh (zD (B := w.heap.size) (b := (w.heap.size + 2)) (by omega) (zU i l r (some ⟨g, 0, none⟩) n c1) HB5.out);generalize pts w7 (w.heap.size + 2) (zU i l r (some ⟨g, 0, none⟩) n c1) = V at *;exact bodyPost_ret (v := .tuple #[zhq i l r (some ⟨g, 0, none⟩) n c1, .int .i64 0]) (by simp [results, Tryz.results14, go_sem, hby.c0, hby.c1, hby.c2, hby.c3]) rfl (by rw [HC.out]; exact ⟨⟨_, n, c1, _, rfl, HOz.out.lower (by omega), HGs.out⟩, HBz.out⟩)
 have HC2 := zh (HC.out.trans (if_neg (by rw [HMn.out hF]; decide)));clear HC HMy HMn HPf hF;obtain ⟨z0, z1, z2, z3⟩ := HR.out.q;have zf := HR.out.f;go_wp2_with fail;change bodyPost _ _ _ _ _ (pts w2 (w.heap.size + 2) (zU 0 0 false none 0 0));have hby := HR.out.all 0 0 false none 0 0;have HBz := zh (zD (B := w.heap.size) (b := (w.heap.size + 2)) (by omega) (zU 0 0 false none 0 0) HB.out);generalize pts w2 (w.heap.size + 2) (zU 0 0 false none 0 0) = V at *;exact bodyPost_ret (v := .tuple #[zhq 0 0 false none 0 0, .int .i64 6]) (by simp [results, Tryz.results14, go_sem, hby.c0, hby.c1, hby.c2, hby.c3]) rfl (by rw [HC2.out]; exact SRo.no HBz.out)
theorem zIc (i l : Int) (r : Bool) (a : Option Addr) (n c : Nat) (L : List GP) (w : World) (h : RdG w (.slice a n c) L) (hs : ∀ p ∈ L, ∀ j, j < 8 → (p.1.m.st j).length ≤ 10000) (y : GP) (hy : RdM w y.2 y.1.m.st) (hyl : ∀ j, j < 8 → (y.1.m.st j).length ≤ 10000) : Calls Tryz.prog 14 #[zhq i l r a n c, ze y.1.num y.1.rev y.1.mode y.1.size y.2 y.1.m.live y.1.m.garb] w (SRo w (yb ⟨i, l, r, gns L⟩ y.1)) := by
 cases hv : zg ⟨i, l, r, gns L⟩
 ·
  exact zJ0 i l r a n c L w h hs y hy hyl hv
 exact zHl i l r a n c L w h hs y hy hyl hv
def zBc (z : Int) : Value := .int .i64 z
def OwnI (w : World) (B : Nat) (v : Value) (l : List Int) : Prop := w.ownsRow B 3 1 v l.length (l.map zBc)
theorem zDn (l : List Gn) (key : Int) : ∀ n, (qW l key n).length ≤ n
 | 0 => Nat.zero_le _
 | n + 1 => by
  have := zDn l key n;unfold qW;rw [List.length_append]
  cases zW (gat l n).m key <;> simp <;> omega
end Go.Proofs.YtcgfilmmokmdjaaGreat
namespace Go.Proofs.YtcgfilmmokmdjaaGreat
open Go.RowKit
def KRd (W : World) (B : Nat) (T : TypeId) (sz : Nat) (v : Value) (n : Nat) (xs : List Value) : Prop := Rd W sz v n xs ∧ ∀ g, v.ownBlock = some g → xs = [] ∨ g < B ∨ ∃ c f, W.heap[g]? = some (.cells c T f)
structure Oth (W W' : World) (B b : Nat) (T : TypeId) : Prop where
 lo : B ≤ b
 ty : ∃ c f, W.heap[b]? = some (.cells c T f)
 blk : ∀ k, k < W.heap.size → k ≠ b → W'.heap[k]? = W.heap[k]?
theorem Oth.pts {W : World} {B b : Nat} {T : TypeId} (hB : B ≤ b) (ht : ∃ c f, W.heap[b]? = some (.cells c T f)) : ∀ (vs : List (Nat × Value)), Oth W (Go.Proofs.YtcgfilmmokmdjaaGreat.pts W b vs) B b T := by
 have key : ∀ (vs : List (Nat × Value)) (W : World) (k : Nat), k ≠ b → (Go.Proofs.YtcgfilmmokmdjaaGreat.pts W b vs).heap[k]? = W.heap[k]? := by
  intro vs
  induction vs with
  | nil => intro W k _; rfl
  | cons p r ih =>
   intro W k hk;obtain ⟨i, u⟩ := p
   show (Go.Proofs.YtcgfilmmokmdjaaGreat.pts (W.setCell ⟨b, i, none⟩ u) b r).heap[k]? = _
   rw [ih _ k hk];exact Below.heap_setCell W ⟨b, i, none⟩ u k hk
 exact fun vs => ⟨hB, ht, fun k _ hk => key vs W k hk⟩
theorem Oth.grown {W W' : World} {B b : Nat} {T : TypeId} {row : Option Nat} (hB : B ≤ b) (ht : ∃ c f, W.heap[b]? = some (.cells c T f)) (hg : W.grownBy W' row) (hr : row = none ∨ row = some b) : Oth W W' B b T :=
 ⟨hB, ht, fun k hk hne => hg.block k hk (fun e => by rcases hr with h | h <;> rw [h] at e <;> cases e; exact hne rfl)⟩
theorem KRd.below {W W' : World} {B : Nat} {T : TypeId} {sz : Nat} {v : Value} {n : Nat} {xs : List Value} (h : KRd W B T sz v n xs) (hb : Below W.heap.size W W') : KRd W' B T sz v n xs :=
 ⟨h.1.below hb, fun g hg => (h.2 g hg).imp id fun h => h.imp id fun ⟨c, f, h⟩ => ⟨c, f, by rw [hb.block g (Array.getElem?_eq_some_iff.1 h).1]; exact h⟩⟩
theorem KRd.oth {W W' : World} {B b : Nat} {T T' : TypeId} {sz : Nat} {v : Value} {n : Nat} {xs : List Value} (h : KRd W B T sz v n xs) (ho : Oth W W' B b T') (hne : T ≠ T') : KRd W' B T sz v n xs := by
 obtain ⟨⟨h0, a, cap, e, h1, h2, h3, h4⟩, h5⟩ := h;subst e;have key : ∀ g, a.map (·.block) = some g → xs ≠ [] → g ≠ b := fun g hg hx e => by
  subst e;have hg' : (Value.slice a n cap).ownBlock = some g := by
   cases a with
   | none => cases hg
   | some y => simpa [Value.ownBlock] using hg
  rcases h5 g hg' with h | h | ⟨c, f, h⟩
  ·
   exact hx h
  ·
   have := ho.lo; omega
  obtain ⟨c', f', h'⟩ := ho.ty;rw [h] at h';injection h' with h';injection h' with _ h';exact hne h'
 refine ⟨⟨h0, a, cap, rfl, h1, h2, h3, fun hp => ?_⟩, fun g hg => ?_⟩
 ·
  obtain ⟨b', off, e, hc⟩ := h4 hp;refine ⟨b', off, e, fun j u hj => ?_⟩;have hc' := hc j u hj;have hlt := World.block_lt_of_cell? W _ hc';have hn := key b' (by rw [e]; rfl) (fun e => by rw [e] at hp; cases hp);exact (World.cell?_of_block (ho.blk b' hlt hn)).trans hc'
 by_cases hx : xs = []
 ·
  exact .inl hx
 have hg2 : a.map (·.block) = some g := by
  cases a with
  | none => cases hg
  | some y => simpa [Value.ownBlock] using hg
 rcases h5 g hg with h | h | ⟨c, f, h⟩
 ·
  exact .inl h
 ·
  exact .inr (.inl h)
 exact .inr (.inr ⟨c, f, by rw [ho.blk g (Array.getElem?_eq_some_iff.1 h).1 (key g hg2 hx)]; exact h⟩)
theorem KRd.old {W : World} {B : Nat} {T : TypeId} {sz : Nat} {v : Value} {n : Nat} {xs : List Value} (h : Rd W sz v n xs) (hB : W.heap.size ≤ B) : KRd W B T sz v n xs := by
 refine ⟨h, fun g hg => ?_⟩;obtain ⟨h0, a, cap, e, h1, h2, h3, h4⟩ := h
 by_cases hx : xs = []
 ·
  exact .inl hx
 right; left
 have hp : 0 < xs.length := by
  cases xs with
  | nil => exact absurd rfl hx
  | cons x r => simp
 obtain ⟨b', off, e', hc⟩ := h4 hp;subst e e';have hg' : b' = g := by simpa [Value.ownBlock] using hg
 subst hg';have := World.block_lt_of_cell? W _ (hc 0 _ (List.getElem?_eq_getElem hp));exact Nat.lt_of_lt_of_le this hB
theorem KRd.own {W : World} {B B' : Nat} {T : TypeId} {sz : Nat} {v : Value} {n : Nat} {xs : List Value} (h : W.ownsRow B' T sz v n xs) : KRd W B T sz v n xs :=
 ⟨zv h, fun g hg => .inr (.inr (Lib.ownsRow_kind h g hg))⟩
theorem zJl {W W' : World} {B B' b : Nat} {T T' : TypeId} {sz n : Nat} {v : Value} {xs : List Value} (h : W.ownsRow B' T sz v n xs) (ho : Oth W W' B b T') (hne : v.ownBlock ≠ some b) : W'.ownsRow B' T sz v n xs := by
 obtain ⟨h1, h2⟩ := h;refine ⟨h1, ?_⟩;rcases h2 with h2 | ⟨g, cap, cur, e, hb, hg, h3⟩
 ·
  exact .inl h2
 refine .inr ⟨g, cap, cur, e, hb, ?_, h3⟩;rw [ho.blk g (Array.getElem?_eq_some_iff.1 hg).1 (fun e2 => hne (by rw [e, e2]; rfl))];exact hg
theorem xU {W W' : World} {B B' b : Nat} {T T' : TypeId} {sz n : Nat} {v : Value} {xs : List Value} (h : W.ownsRow B' T sz v n xs) (ho : Oth W W' B b T') (hne : T ≠ T') : W'.ownsRow B' T sz v n xs :=
 zJl h ho fun e => by
  obtain ⟨c, f, h1⟩ := Lib.ownsRow_kind h b e;obtain ⟨c', f', h2⟩ := ho.ty;rw [h1] at h2;injection h2 with h2;injection h2 with _ h2;exact hne h2
/-! ### Generations -/
def KRdM (W : World) (B : Nat) (s : Sl) (f : Nat → List It) : Prop := ∀ i, i < 8 → KRd W B 49 4 (s.v i) (f i).length (zL (f i))
theorem KRdM.rd {W : World} {B : Nat} {s : Sl} {f : Nat → List It} (h : KRdM W B s f) : RdM W s f := fun i hi => yS (h i hi).1
theorem KRdM.below {W W' : World} {B : Nat} {s : Sl} {f : Nat → List It} (h : KRdM W B s f) (hb : Below W.heap.size W W') : KRdM W' B s f := fun i hi => (h i hi).below hb
structure KRdG (W : World) (B : Nat) (v : Value) (L : List GP) : Prop where
 r : KRd W B 38 14 v L.length (L.flatMap gpC)
 m : ∀ p ∈ L, KRdM W B p.2 p.1.m.st
theorem KRdG.rd {W : World} {B : Nat} {v : Value} {L : List GP} (h : KRdG W B v L) : RdG W v L := ⟨⟨fun x _ => qR x, h.r.1⟩, fun p hp => (h.m p hp).rd⟩
theorem KRdG.below {W W' : World} {B : Nat} {v : Value} {L : List GP} (h : KRdG W B v L) (hb : Below W.heap.size W W') : KRdG W' B v L := ⟨h.r.below hb, fun p hp => (h.m p hp).below hb⟩
theorem KRdG.oth {W W' : World} {B b : Nat} {T' : TypeId} {v : Value} {L : List GP} (h : KRdG W B v L) (ho : Oth W W' B b T') (h1 : 38 ≠ T') (h2 : 49 ≠ T') : KRdG W' B v L := ⟨h.r.oth ho h1, fun p hp i hi => (h.m p hp i hi).oth ho h2⟩
theorem KRdG.old {W : World} {B : Nat} {v : Value} {L : List GP} (h : RdG W v L) (hB : W.heap.size ≤ B) : KRdG W B v L := ⟨KRd.old h.r.2 hB, fun p hp i hi => KRd.old (uo (h.m p hp i hi)) hB⟩
theorem KRdG.own {W : World} {B B' n : Nat} {v : Value} {L : List GP} (h : OwnGs W B' v n L) : KRdG W B v L := ⟨by have := h.row; rw [h.len] at this; exact KRd.own this, fun p hp i hi => KRd.own (h.m p hp i hi)⟩
/-! ### Requests -/
def rqC (p : Rq × Value) : List Value := [.int .i64 p.1.tk, .int .i64 p.1.kind, .int .u64 (p.1.key : Int), .int .u32 (p.1.ck : Int), p.2]
theorem tE (p : Rq × Value) : (rqC p).length = 5 := rfl
abbrev rqV (tk kind key ck : Int) (d : Value) : Value := .agg #[.int .i64 tk, .int .i64 kind, .int .u64 key, .int .u32 ck, d]
structure RdQ (w : World) (v : Value) (qs : List (Rq × Value)) : Prop where
 row : RdS 5 rqC w v qs
 dat : ∀ p ∈ qs, RdB w p.2 p.1.data
theorem RdQ.below {w w' : World} {v : Value} {qs : List (Rq × Value)} (h : RdQ w v qs) (hb : Below w.heap.size w w') : RdQ w' v qs := ⟨RdS.below h.row hb, fun p hp => RdL.below (h.dat p hp) hb⟩
def qat (l : List (Rq × Value)) (i : Nat) : Rq × Value := l.getD i (rq0, .slice none 0 0)
theorem zAO {l : List (Rq × Value)} {i : Nat} (h : i < l.length) : qat l i ∈ l := by
 unfold qat;rw [List.getD_eq_getElem?_getD, List.getElem?_eq_getElem h]; exact List.getElem_mem h
theorem RdQ.shape {w : World} {v : Value} {qs : List (Rq × Value)} (h : RdQ w v qs) : ∃ a cap, v = .slice a qs.length cap ∧ qs.length ≤ cap ∧ cap ≤ maxLen := by
 obtain ⟨a, cap, h1, h2, h3, _⟩ := RdS.shape h.row (by decide) (rq0, .slice none 0 0);exact ⟨a, cap, h1, h2, h3⟩
theorem RdQ.at {w : World} {a : Option Addr} {n cap : Nat} {qs : List (Rq × Value)} (h : RdQ w (.slice a n cap) qs) {j : Nat} (hj : j < n) : ∃ b off, a = some ⟨b, off, none⟩ ∧ RdB w (qat qs j).2 (qat qs j).1.data ∧
  w.cell? ⟨b, off + j * 5, none⟩ = some (.int .i64 (qat qs j).1.tk) ∧ w.cell? ⟨b, off + j * 5 + 1, none⟩ = some (.int .i64 (qat qs j).1.kind) ∧ w.cell? ⟨b, off + j * 5 + 2, none⟩ = some (.int .u64 ((qat qs j).1.key : Int)) ∧
  w.cell? ⟨b, off + j * 5 + 3, none⟩ = some (.int .u32 ((qat qs j).1.ck : Int)) ∧ w.cell? ⟨b, off + j * 5 + 4, none⟩ = some (qat qs j).2 := by
 obtain ⟨a', cap', e, h2, h3, _, h5⟩ := RdS.shape h.row (by decide) (rq0, .slice none 0 0);injection e with e1 e2 e3;subst e1 e2 e3;obtain ⟨b, off, e, hc⟩ := h5 (by omega);refine ⟨b, off, e, h.dat _ (zAO hj), ?_, hc j hj 1 _ rfl, hc j hj 2 _ rfl, hc j hj 3 _ rfl, hc j hj 4 _ rfl⟩;have := hc j hj 0 _ rfl; rwa [Nat.add_zero] at this
/-! ### Needles of the call's own, their bytes read -/
def KDat (W : World) (B : Nat) (v : Value) (d : List UInt8) : Prop := KRd W B 5 1 v d.length (d.map xh)
theorem KDat.rd {W : World} {B : Nat} {v : Value} {d : List UInt8} (h : KDat W B v d) : RdB W v d := h.1
structure OwnNk (W : World) (B : Nat) (v : Value) (es : List (Nd × Value)) : Prop where
 row : W.ownsRow B 56 4 v es.length (wL es)
 dat : ∀ p ∈ es, KDat W B p.2 p.1.data
theorem OwnNk.below {W W' : World} {B : Nat} {v : Value} {es : List (Nd × Value)} (h : OwnNk W B v es) (hb : Below W.heap.size W W') : OwnNk W' B v es := ⟨zH h.row hb, fun p hp => (h.dat p hp).below hb⟩
theorem OwnNk.oth {W W' : World} {B b : Nat} {T' : TypeId} {v : Value} {es : List (Nd × Value)} (h : OwnNk W B v es) (ho : Oth W W' B b T') (h1 : 56 ≠ T') (h2 : 5 ≠ T') : OwnNk W' B v es := ⟨xU h.row ho h1, fun p hp => (h.dat p hp).oth ho h2⟩
/-! ### Kills of the call's own -/
abbrev KP := Int × Value × List Int
def klC (p : KP) : List Value := [.int .i64 p.1, p.2.1]
theorem uJ (p : KP) : (klC p).length = 2 := rfl
def kls (l : List KP) : List Kl := l.map fun p => (p.1, p.2.2)
def kat (l : List KP) (i : Nat) : KP := l.getD i (0, .slice none 0 0, [])
structure OwnKs (W : World) (B : Nat) (v : Value) (ks : List KP) : Prop where
 row : W.ownsRow B 89 2 v ks.length (ks.flatMap klC)
 keys : ∀ p ∈ ks, W.ownsRow B 24 1 p.2.1 p.2.2.length (p.2.2.map zHw)
 apart : ks.Pairwise fun p q => p.2.1.ownBlock = none ∨ p.2.1.ownBlock ≠ q.2.1.ownBlock
theorem OwnKs.below {W W' : World} {B : Nat} {v : Value} {ks : List KP} (h : OwnKs W B v ks) (hb : Below W.heap.size W W') : OwnKs W' B v ks := ⟨zH h.row hb, fun p hp => zH (h.keys p hp) hb, h.apart⟩
theorem OwnKs.oth {W W' : World} {B b : Nat} {T' : TypeId} {v : Value} {ks : List KP} (h : OwnKs W B v ks) (ho : Oth W W' B b T') (h1 : 89 ≠ T') (h2 : 24 ≠ T') : OwnKs W' B v ks := ⟨xU h.row ho h1, fun p hp => xU (h.keys p hp) ho h2, h.apart⟩
/-! ### The planner -/
abbrev uz (i l : Int) (r : Bool) (ga : Option Addr) (gn gc : Nat) (rot : Bool) (kv nv rv : Value) (by_ : Int) : Array Value := #[.int .i64 i, .int .i64 l, .bool r, .slice ga gn gc, .bool rot, .int .i64 0, kv, nv, rv, .int .i64 by_]
structure PlR (W : World) (B : Nat) (P : Pst) (ga : Option Addr) (gn gc : Nat) (L : List GP) (kv : Value) (ks : List KP) (nv : Value) (es : List (Nd × Value)) (rv : Value) : Prop where
 g : KRdG W B (.slice ga gn gc) L
 gg : gns L = P.t.gens
 k : OwnKs W B kv ks
 kk : kls ks = P.kills
 n : OwnNk W B nv es
 nn : es.map (·.1) = P.needs
 r : W.ownsRow B 39 1 rv P.res.length (P.res.map zBc)
section
variable {W W' : World} {B b : Nat} {P : Pst} {ga : Option Addr} {gn gc : Nat} {L : List GP} {kv : Value} {ks : List KP} {nv : Value} {es : List (Nd × Value)} {rv : Value}
theorem PlR.below (h : PlR W B P ga gn gc L kv ks nv es rv) (hb : Below W.heap.size W W') : PlR W' B P ga gn gc L kv ks nv es rv :=
 ⟨h.g.below hb, h.gg, h.k.below hb, h.kk, h.n.below hb, h.nn, zH h.r hb⟩
theorem PlR.oth (h : PlR W B P ga gn gc L kv ks nv es rv) (ho : Oth W W' B b 145) : PlR W' B P ga gn gc L kv ks nv es rv :=
 ⟨h.g.oth ho (by decide) (by decide), h.gg, h.k.oth ho (by decide) (by decide), h.kk, h.n.oth ho (by decide) (by decide), h.nn, xU h.r ho (by decide)⟩
end
abbrev PlB (W : World) (b : Nat) (i l : Int) (r : Bool) (ga : Option Addr) (gn gc : Nat) (rot : Bool) (kv nv rv : Value) (by_ : Int) : Prop := BlkE W b (uz i l r ga gn gc rot kv nv rv by_) 145
def PlM (W : World) (B b : Nat) (P : Pst) : Prop := ∃ ga gn gc L kv ks nv es rv, B ≤ b ∧ PlB W b P.t.id P.t.lim P.t.ro ga gn gc P.rot kv nv rv P.bytes ∧ PlR W B P ga gn gc L kv ks nv es rv
theorem PlM.below {W W' : World} {B b : Nat} {P : Pst} (h : PlM W B b P) (hb : Below W.heap.size W W') : PlM W' B b P := by
 obtain ⟨ga, gn, gc, L, kv, ks, nv, es, rv, h1, h2, h3⟩ := h;exact ⟨ga, gn, gc, L, kv, ks, nv, es, rv, h1, h2.below hb, h3.below hb⟩
end Go.Proofs.YtcgfilmmokmdjaaGreat
namespace Go.Proofs.YtcgfilmmokmdjaaGreat
theorem uD {l : List Kl} {i : Nat} (h : i < l.length) : ye l i ∈ l := by
 unfold ye;rw [List.getD_eq_getElem?_getD, List.getElem?_eq_getElem h]; exact List.getElem_mem h
theorem xj {l : List Kl} {i : Nat} (h : i < l.length) : l[i] = ye l i := by
 unfold ye; rw [List.getD_eq_getElem?_getD, List.getElem?_eq_getElem h]; rfl
theorem zCk {l : List Kl} (ha : l.Pairwise fun a b => a.1 < b.1) {i j : Nat} (hij : i < j) (hj : j < l.length) : (ye l i).1 < (ye l j).1 := by
 have := List.pairwise_iff_getElem.1 ha i j (by omega) hj hij;rw [xj, xj] at this;exact this
theorem zKn {l : List Kl} {num : Int} {i : Nat} (hi : i ≤ l.length) (h1 : ∀ k, i = k + 1 → (ye l k).1 < num) (h2 : i < l.length → ¬ (ye l i).1 < num) (ha : l.Pairwise fun a b => a.1 < b.1) : klI l num = i := by
 have hlo : ∀ j, j < i → (ye l j).1 < num := fun j hj => by
  obtain ⟨k, rfl⟩ : ∃ k, i = k + 1 := ⟨i - 1, by omega⟩
  have h3 := h1 k rfl
  by_cases e : j = k
  ·
   rw [e]; exact h3
  have := zCk ha (show j < k by omega) (by omega); omega
 unfold klI
 by_cases hin : i < l.length
 ·
  rw [(List.findIdx?_eq_some_iff_getElem (p := fun k : Kl => decide (num ≤ k.1)) (i := i)).2 ⟨hin, by rw [xj hin]; have := h2 hin; simp; omega, fun j hj => by rw [xj (show j < l.length by omega)]; have := hlo j hj; simp; omega⟩]
  rfl
 have e : i = l.length := by omega
 rw [List.findIdx?_eq_none_iff.2 fun x hx => by
  obtain ⟨j, hj, rfl⟩ := List.getElem_of_mem hx
  rw [xj hj]
  have := hlo j (by omega)
  simp; omega]
 exact e.symm
theorem zE4 (l : List Kl) (num : Int) : klI l num ≤ l.length := by
 unfold klI
 cases h : l.findIdx? fun k => decide (num ≤ k.1) with
 | none => exact Nat.le_refl _
 | some i => have := (List.findIdx?_eq_some_iff_getElem.1 h).1; exact Nat.le_of_lt this
theorem zLC (l : List Kl) (num : Int) {j : Nat} (h : j < klI l num) : (ye l j).1 < num := by
 unfold klI at h
 cases e : l.findIdx? fun k => decide (num ≤ k.1) with
 | none =>
  rw [e] at h;have h : j < l.length := h;have := List.findIdx?_eq_none_iff.1 e _ (uD h)
  simpa using this
 | some i =>
  rw [e] at h;have h : j < i := h;obtain ⟨h1, h2, h3⟩ := List.findIdx?_eq_some_iff_getElem.1 e;have := h3 j h;rw [xj (show j < l.length by omega)] at this
  simpa using this
theorem zKl (l : List Kl) (num : Int) (h : klI l num < l.length) : num ≤ (ye l (klI l num)).1 := by
 have h0 := h;unfold klI at h0
 cases e : l.findIdx? fun k => decide (num ≤ k.1) with
 | none => rw [e] at h0; exact absurd h0 (Nat.lt_irrefl _)
 | some i =>
  obtain ⟨h1, h2, _⟩ := List.findIdx?_eq_some_iff_getElem.1 e;have e2 : klI l num = i := by unfold klI; rw [e]; rfl
  rw [e2, ← xj h1]
  simpa using h2
structure SmK (M : Nat) (l : List Kl) : Prop where
 asc : l.Pairwise fun a b => a.1 < b.1
 num : ∀ x ∈ l, 1 ≤ x.1 ∧ x.1 ≤ 8
 len : ∀ x ∈ l, x.2.length ≤ M
theorem SmK.mono {M M' : Nat} {l : List Kl} (h : SmK M l) (hm : M ≤ M') : SmK M' l := ⟨h.asc, h.num, fun x hx => Nat.le_trans (h.len x hx) hm⟩
theorem SmK.le8 {M : Nat} {l : List Kl} (h : SmK M l) : l.length ≤ 8 := by
 have key : ∀ j, j < l.length → (j : Int) + 1 ≤ (ye l j).1 := by
  intro j
  induction j with
  | zero => intro hj; have := (h.num _ (uD hj)).1; omega
  | succ j ih =>
   intro hj;have h1 := ih (by omega);have h2 := zCk h.asc (show j < j + 1 by omega) hj;omega
 by_cases e : 0 < l.length
 ·
  have h1 := key (l.length - 1) (by omega);have h2 := (h.num _ (uD (show l.length - 1 < l.length by omega))).2;omega
 omega
theorem SmK.nil (M : Nat) : SmK M [] := ⟨List.Pairwise.nil, (fun x hx => by cases hx), (fun x hx => by cases hx)⟩
theorem zDW {l : List Kl} {num key : Int} (h : klI l num < l.length ∧ (ye l (klI l num)).1 = num) : zBV l num key = l.set (klI l num) (num, (ye l (klI l num)).2 ++ [key]) := by unfold zBV; rw [if_pos h]
theorem zBv {l : List Kl} {num key : Int} (h : ¬ (klI l num < l.length ∧ (ye l (klI l num)).1 = num)) : zBV l num key = l.take (klI l num) ++ (num, [key]) :: l.drop (klI l num) := by unfold zBV; rw [if_neg h]
theorem SmK.ins {M : Nat} {l : List Kl} (h : SmK M l) {num : Int} (hn : 1 ≤ num ∧ num ≤ 8) (key : Int) : SmK (M + 1) (zBV l num key) := by
 by_cases hh : klI l num < l.length ∧ (ye l (klI l num)).1 = num
 ·
  rw [zDW hh];refine ⟨?_, fun x hx => ?_, fun x hx => ?_⟩
  ·
   rw [List.pairwise_iff_getElem];intro i j hi hj hij;rw [List.length_set] at hi hj;have := List.pairwise_iff_getElem.1 h.asc i j hi hj hij;rw [List.getElem_set, List.getElem_set];have e : l[klI l num] = ye l (klI l num) := xj hh.1
   split
   ·
    rename_i e1
    split
    ·
     omega
    subst e1
    show num < l[j].1
    rw [e, hh.2] at this;exact this
   split
   ·
    rename_i e1 e2;subst e2
    show l[i].1 < num
    rw [e, hh.2] at this;exact this
   exact this
  ·
   rcases List.mem_or_eq_of_mem_set hx with hx | rfl
   ·
    exact h.num x hx
   exact hn
  rcases List.mem_or_eq_of_mem_set hx with hx | rfl
  ·
   exact Nat.le_succ_of_le (h.len x hx)
  have := h.len _ (uD hh.1)
  show ((ye l (klI l num)).2 ++ [key]).length ≤ _
  rw [List.length_append];exact Nat.succ_le_succ this
 rw [zBv hh];have hle := zE4 l num;have hlo := fun j (hj : j < klI l num) => zLC l num hj
 have hup : ∀ x ∈ l.drop (klI l num), num < x.1 := fun x hx => by
  obtain ⟨j, hj, rfl⟩ := List.getElem_of_mem hx;rw [List.length_drop] at hj;rw [List.getElem_drop, xj (show klI l num + j < l.length by omega)];have h1 := zKl l num (by omega);have h2 : (ye l (klI l num)).1 ≠ num := fun e => hh ⟨by omega, e⟩
  by_cases e : j = 0
  ·
   subst e; rw [Nat.add_zero]; omega
  have := zCk h.asc (show klI l num < klI l num + j by omega) (by omega); omega
 have hdn : ∀ x ∈ l.take (klI l num), x.1 < num := fun x hx => by
  obtain ⟨j, hj, rfl⟩ := List.getElem_of_mem hx;rw [List.length_take] at hj;rw [List.getElem_take, xj (show j < l.length by omega)];exact hlo j (by omega)
 refine ⟨?_, fun x hx => ?_, fun x hx => ?_⟩
 ·
  rw [List.pairwise_append, List.pairwise_cons];refine ⟨h.asc.sublist (List.take_sublist _ _), ⟨fun y hy => hup y hy, h.asc.sublist (List.drop_sublist _ _)⟩, fun x hx y hy => ?_⟩;have h1 := hdn x hx;rcases List.mem_cons.1 hy with rfl | hy
  ·
   exact h1
  have := hup y hy; omega
 ·
  rcases List.mem_append.1 hx with hx | hx
  ·
   exact h.num x (List.mem_of_mem_take hx)
  rcases List.mem_cons.1 hx with rfl | hx
  ·
   exact hn
  exact h.num x (List.mem_of_mem_drop hx)
 rcases List.mem_append.1 hx with hx | hx
 ·
  exact Nat.le_succ_of_le (h.len x (List.mem_of_mem_take hx))
 rcases List.mem_cons.1 hx with rfl | hx
 ·
  show [key].length ≤ _; simp
 exact Nat.le_succ_of_le (h.len x (List.mem_of_mem_drop hx))
theorem uH (l : List KP) : (kls l).length = l.length := List.length_map ..
theorem zEX {l : List KP} (i : Nat) : ye (kls l) i = ((kat l i).1, (kat l i).2.2) := by
 unfold ye kls kat;rw [List.getD_eq_getElem?_getD, List.getD_eq_getElem?_getD, List.getElem?_map]
 cases l[i]? <;> rfl
theorem zAQ {l : List KP} {i : Nat} (h : i < l.length) : kat l i ∈ l := by
 unfold kat;rw [List.getD_eq_getElem?_getD, List.getElem?_eq_getElem h]; exact List.getElem_mem h
theorem qI {s : Slt} {key : Int} {n : Int} (h : n ∈ zj s key) : 1 ≤ n ∧ n ≤ 8 := by
 unfold zj at h
 split at h
 ·
  rename_i hv;have hV := (zT s).1 hv;obtain ⟨i, hi, e⟩ := List.getElem_of_mem h;obtain ⟨r, h1, h2, _, _⟩ := zCI s.gens key _ i hi;rw [List.getElem?_eq_getElem hi, e] at h2;injection h2 with h2;have := (hV.vg (show r < s.gens.length by omega)).num;rw [h2]; exact this
 cases h
theorem zAa (s : Slt) (key : Int) : (zj s key).length ≤ 8 := by
 unfold zj
 split
 ·
  rename_i hv;have hV := (zT s).1 hv;have h1 := zDn s.gens key (s.gens.length - 1);have h2 := hV.len;omega
 exact Nat.zero_le _
theorem LenS.set {K : Nat} {l : List Gn} (h : LenS K l) {g : Gn} (hg : ∀ i, i < 8 → (g.m.st i).length ≤ K) : LenS K (uj l g) := fun x hx i hi => by
 rcases zAn hx with hx | rfl
 ·
  exact h x hx i hi
 exact hg i hi
theorem zBi {s : Slt} {g : Gn} {K : Nat} (h : LenS K s.gens) (hg : ∀ i, i < 8 → (g.m.st i).length ≤ K) : LenS K (yb s g).1.gens := by
 by_cases hc : (yb s g).2 = 0
 ·
  rw [zAR hc]; exact h.set hg
 have e : (yb s g).1 = wS := by
  unfold yb at hc ⊢
  split
  ·
   rename_i h1;rw [if_pos h1] at hc
   split
   ·
    rename_i h2;rw [if_pos h2] at hc
    split
    ·
     rename_i h3; rw [if_pos h3] at hc; exact absurd rfl hc
    rfl
   rfl
  rfl
 rw [e]; exact fun x hx => by cases hx
theorem zA9 {s : Slt} {num : Int} {keys : List Int} {K : Nat} (h : LenS K s.gens) : LenS K (wv s num keys).1.gens := by
 unfold wv
 split
 ·
  rename_i h1
  split
  ·
   refine zBi h fun i hi => ?_
   have hk := h _ (tF h1);have h0 : ((gn0).m.st i).length ≤ K := Nat.zero_le _;unfold yW
   split
   ·
    split
    ·
     exact h0
    exact xu keys _ hk i hi
   exact h0
  exact fun x hx => by cases hx
 exact fun x hx => by cases hx
end Go.Proofs.YtcgfilmmokmdjaaGreat
namespace Go.Proofs.YtcgfilmmokmdjaaGreat
open Go.RowKit
theorem zBr (i l : Int) (r : Bool) (a : Option Addr) (n c : Nat) (L : List GP) (w : World) (h : RdG w (.slice a n c) L) (hs : ∀ p ∈ L, ∀ j, j < 8 → (p.1.m.st j).length ≤ 10000) (m : Int) :
  Calls Tryz.prog 36 #[zhq i l r a n c, .int .i64 m] w fun e w' => e = .returned (.bool (wH ⟨i, l, r, gns L⟩ m)) ∧ Below w.heap.size w w' := by
 have HSv := zh (fun W (hb : Below w.heap.size w W) => yY i l r a n c L W (h.below hb) hs);have HBx := zh (BoxV.new w i l r a n c 27);have HB0 := zh (zP w i l r a n c 27);have hcs : wH ⟨i, l, r, gns L⟩ m = (zg ⟨i, l, r, gns L⟩ && (decide (0 ≤ m) && decide (m ≤ 4096)) && decide ((zY ⟨i, l, r, gns L⟩).size + (szN m.toNat : Nat) ≤ l)) := rfl
 cases hv : zg ⟨i, l, r, gns L⟩
 ·
  rw [hv] at HSv hcs;have HF := zh (show wH ⟨i, l, r, gns L⟩ m = false by rw [hcs]; rfl);clear h hs hv hcs;generalize wH ⟨i, l, r, gns L⟩ m = F at *
  go_enter Tryz.func36, Tryz.ntmps36
  go_upto_region 1 with fail;obtain ⟨W, hW⟩ : ∃ W, w.alloc (.cells (zS i l r a n c) 27) = W := ⟨_, rfl⟩
  change Code.wp _ _ _ _ (w.alloc (.cells (zS i l r a n c) 27));rw [hW] at HBx HB0 ⊢;clear hW;have hlw := HBx.out.lt;obtain ⟨k0, k1, k2, k3⟩ := HBx.out.q;go_wp2_with fail;refine (HSv.out _ HB0.out).mono ?_;rintro e w1 ⟨rfl, hb1⟩;have HB1 := zh (zA HB0.out hb1);clear k0 k1 k2 k3 hb1;go_wp2_with fail;go_ret;exact ⟨by rw [HF.out]; rfl, HB1.out⟩
 by_cases h1 : m < 0
 ·
  rw [hv] at HSv hcs;have HF := zh (show wH ⟨i, l, r, gns L⟩ m = false by rw [hcs, show decide (0 ≤ m) = false by simp; omega]; rfl);have e1 : decide (m < 0) = true := by simp; omega
  clear h hs hv hcs;generalize wH ⟨i, l, r, gns L⟩ m = F at *
  go_enter Tryz.func36, Tryz.ntmps36
  go_upto_region 1 with fail;obtain ⟨W, hW⟩ : ∃ W, w.alloc (.cells (zS i l r a n c) 27) = W := ⟨_, rfl⟩
  change Code.wp _ _ _ _ (w.alloc (.cells (zS i l r a n c) 27));rw [hW] at HBx HB0 ⊢;clear hW;have hlw := HBx.out.lt;obtain ⟨k0, k1, k2, k3⟩ := HBx.out.q;go_wp2_with fail;refine (HSv.out _ HB0.out).mono ?_;rintro e w1 ⟨rfl, hb1⟩;have HB1 := zh (zA HB0.out hb1);clear k0 k1 k2 k3 hb1;go_wp2_with fail;go_ret;exact ⟨by rw [HF.out]; rfl, HB1.out⟩
 by_cases h2 : 4096 < m
 ·
  rw [hv] at HSv hcs;have HF := zh (show wH ⟨i, l, r, gns L⟩ m = false by rw [hcs, show decide (m ≤ 4096) = false by simp; omega]; simp);have e1 : decide (m < 0) = false := by simp; omega
  have e2 : decide ((4096 : Int) < m) = true := by simp; omega
  clear h hs hv hcs;generalize wH ⟨i, l, r, gns L⟩ m = F at *
  go_enter Tryz.func36, Tryz.ntmps36
  go_upto_region 1 with fail;obtain ⟨W, hW⟩ : ∃ W, w.alloc (.cells (zS i l r a n c) 27) = W := ⟨_, rfl⟩
  change Code.wp _ _ _ _ (w.alloc (.cells (zS i l r a n c) 27));rw [hW] at HBx HB0 ⊢;clear hW;have hlw := HBx.out.lt;obtain ⟨k0, k1, k2, k3⟩ := HBx.out.q;go_wp2_with fail;refine (HSv.out _ HB0.out).mono ?_;rintro e w1 ⟨rfl, hb1⟩;have HB1 := zh (zA HB0.out hb1);clear k0 k1 k2 k3 hb1;go_wp2_with fail;go_ret;exact ⟨by rw [HF.out]; rfl, HB1.out⟩
 obtain ⟨k, rfl⟩ : ∃ k : Nat, m = (k : Int) := ⟨m.toNat, by omega⟩
 have hLn : L.length = n := by
  obtain ⟨_, _, e, _⟩ := h.shape;injection e with _ e _; exact e.symm
 have hV := (zT _).1 hv;have hn : 1 ≤ n := by have := hV.len; simp only [zz, hLn] at this; exact this.1
 obtain ⟨j, rfl⟩ : ∃ j, n = j + 1 := ⟨n - 1, by omega⟩
 refine (zGe i l r a (j + 1) c L w h hs hv k (by omega)).mono fun e w' ⟨he, hb⟩ => ⟨?_, hb⟩
 rw [he, hcs, hv, vz hLn, show decide ((0 : Int) ≤ (k : Int)) = true by simp, show decide ((k : Int) ≤ 4096) = true by simp; omega];simp
end Go.Proofs.YtcgfilmmokmdjaaGreat
