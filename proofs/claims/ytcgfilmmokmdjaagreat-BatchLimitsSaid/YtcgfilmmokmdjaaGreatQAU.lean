/- A part of the walk. -/
import Derived.Test.YtcgfilmmokmdjaaGreatBe
import Derived.Test.YtcgfilmmokmdjaaGreatHe
import Derived.Test.YtcgfilmmokmdjaaGreatQAT
import Derived.Test.YtcgfilmmokmdjaaGreatQAE
import Derived.Test.YtcgfilmmokmdjaaGreatQAH
import Derived.Test.YtcgfilmmokmdjaaGreatProg
import Derived.Lib.AppendZerosOnto
import Derived.Deep.Onto
import Derived.Lib.Overlaps
import Derived.Laws.Externs
set_option linter.all false
set_option maxRecDepth 100000
set_option maxHeartbeats 32000000
namespace Go.Proofs.YtcgfilmmokmdjaaGreat
open Go.RowKit
theorem zIi (y : GP) (bg : Nat) (num : Int) (kv : Value) (w : World) (hg : BlkE w bg #[.int .i64 num, kv] 89) :
  Calls Tryz.prog 112 #[ze y.1.num y.1.rev y.1.mode y.1.size y.2 y.1.m.live y.1.m.garb, .pointer (some ⟨bg, 0, none⟩)] w fun e w' => e = .returned (.bool (y.1.num == num)) ∧ Below w.heap.size w w' := by
 obtain ⟨⟨yn, yr, ym, yz, ⟨yf, yL, yG⟩⟩, ys⟩ := y;dsimp only;have hbq := zZ w yn yr ym yz ys yL yG 38;have HY := zh (BoxG.new w yn yr ym yz ys yL yG 38);have HG := zh (hg.below hbq);have HB := zh hbq;clear hg hbq
 go_enter Tryz.func112, Tryz.ntmps112
 go_upto_region 1 with fail;change Code.wp _ _ _ _ (w.alloc (.cells (zX yn yr ym yz ys yL yG) 38));generalize w.alloc (.cells (zX yn yr ym yz ys yL yG) 38) = w1 at *;have q0 := HY.out.n0;have q1 := HG.out.cell (i := 0) rfl;go_wp2_with fail;go_ret;exact ⟨rfl, HB.out⟩
theorem zEU (a : Option Addr) (n c : Nat) (L : List GP) (bg : Nat) (num : Int) (kv : Value) (w : World) (h : RdG w (.slice a n c) L) (hn : n ≤ 1000000) (hg : BlkE w bg #[.int .i64 num, kv] 89) :
  Calls Tryz.prog 57 #[.slice a n c, .func (.func 112) #[] #[.pointer (some ⟨bg, 0, none⟩)]] w fun e w' => (∃ z, e = .returned (.int .i64 z) ∧ kW L num z) ∧ Below w.heap.size w w' := by
 have hLn : L.length = n := by
  obtain ⟨_, _, e, _⟩ := h.shape;injection e with _ e _; exact e.symm
 have Hr := zh h;have Hg := zh hg;have HLn := zh hLn;clear h hg hLn
 go_enter Tryz.func57, Tryz.ntmps57
 go_wp2_with fail
 go_loopw [8] (fun i wr => ∃ k : Nat, k ≤ n ∧ i = .int .i64 (k : Int) ∧ Hid (∀ j, j < k → (pat L j).1.num ≠ num) ∧ Hid (Below w.heap.size w wr)) (fun i _ => n - (intOf i).toNat)
 case atStart => exact ⟨0, Nat.zero_le _, rfl, zh (fun j hj => absurd hj (by omega)), zh (Below.refl _ _)⟩
 obtain ⟨k, hk, rfl, Hok, Hb⟩ := hrel
 by_cases hlt : k < n
 ·
  have hr := Hr.out.below Hb.out;obtain ⟨b, off, rfl, hat⟩ := hr.at hlt;have HV := zh (fun W (hb : Below wr.heap.size wr W) => zIi (pat L k) bg num kv W ((Hg.out.below Hb.out).below hb))
  have HOs := zh (show (pat L k).1.num ≠ num → ∀ j, j < k + 1 → (pat L j).1.num ≠ num from fun ho j hj => by
   by_cases e : j = k
   ·
    subst e; exact ho
   exact Hok.out j (by omega))
  have HYs := zh (show (pat L k).1.num = num → kW L num (k : Int) from fun e => .inl ⟨k, by rw [HLn.out]; exact hlt, rfl, e, Hok.out⟩);clear hr;generalize pat L k = p at *;obtain ⟨⟨xn, xr, xm, xz, ⟨xf, xL, xG⟩⟩, xs⟩ := p;obtain ⟨g0, g1, g2, g3, g4, g5, g6, g7, g8, g9, g10, g11, g12, g13⟩ := hat;dsimp only at g0 g1 g2 g3 g4 g5 g6 g7 g8 g9 g10 g11 g12 g13 HV HOs HYs;have i1 : (k : Int) < (n : Int) := by omega
  go_wp2_with fail;refine (HV.out _ (Below.refl _ _)).mono ?_; rintro e w1 ⟨rfl, hb1⟩;have Hb1 := zh (zA Hb.out hb1)
  by_cases hx : xn = num
  ·
   have HF := zh (HYs.out hx);have hx1 : (xn == num) = true := by simp [hx]
   clear hb1 hx HOs HYs HV;go_wp2_with fail;go_ret;exact ⟨⟨_, rfl, HF.out⟩, Hb1.out⟩
  have HF := zh (HOs.out hx);have hx1 : (xn == num) = false := by simp [hx]
  clear hb1 hx HOs HYs HV;go_wp2_with fail;exact ⟨⟨k + 1, by omega, by go_num, HF, Hb1⟩, by simp [intOf]; omega⟩
 obtain rfl : k = n := by omega
 have i1 : ¬ (k : Int) < (k : Int) := by omega
 have HF := zh (show kW L num (-1) from .inr ⟨rfl, by rw [HLn.out]; exact Hok.out⟩);go_wp2_with fail;go_ret;exact ⟨⟨_, rfl, HF.out⟩, Hb.out⟩
theorem zBE {l : List Gn} {num : Int} {k : Nat} (hk : k < l.length) (h1 : (gat l k).num = num) (h2 : ∀ j, j < k → (gat l j).num ≠ num) : qi l num = k := by
 have e : ∀ j (hj : j < l.length), l[j] = gat l j := fun j hj => by unfold gat; rw [List.getD_eq_getElem?_getD, List.getElem?_eq_getElem hj]; rfl
 unfold qi;rw [(List.findIdx?_eq_some_iff_getElem (p := fun g : Gn => decide (g.num = num)) (i := k)).2 ⟨hk, by rw [e k hk]; simpa using h1, fun j hj => by rw [e j (by omega)]; simpa using h2 j hj⟩]
 rfl
theorem zHA {l : List Gn} {num : Int} (h : ∀ j, j < l.length → (gat l j).num ≠ num) : qi l num = l.length := by
 unfold qi
 rw [List.findIdx?_eq_none_iff.2 fun x hx => by
  obtain ⟨j, hj, rfl⟩ := List.getElem_of_mem hx
  have := h j hj
  unfold gat at this
  rw [List.getD_eq_getElem?_getD, List.getElem?_eq_getElem hj] at this
  simpa using this]
 rfl
theorem zDs (l : List Int) : ∀ (M : Mp) {K : Nat}, (∀ i, i < 8 → (M.st i).length ≤ K) → ∀ i, i < 8 → ((l.foldl yF M).st i).length ≤ K := fun M _ h => xu l M h
theorem zEj (g : Gn) (l : List Int) {K : Nat} (h : ∀ i, i < 8 → (g.m.st i).length ≤ K) : ∀ i, i < 8 → ((yW g l).2.m.st i).length ≤ K := fun i hi => by
 have h0 : ((gn0).m.st i).length ≤ K := Nat.zero_le _;unfold yW
 split
 ·
  split
  ·
   exact h0
  exact zDs l g.m h i hi
 exact h0
def zKa (er a b md z : Int) (f : Nat → List It) (L G : Int) : Sta := ⟨fun v w => ∃ s, v = .tuple #[ze a b md z s L G, .int .i64 er] ∧ RdM w s f, fun _ _ _ hb ⟨s, h1, h2⟩ => ⟨s, h1, h2.below hb⟩⟩
def zLJ (a b md z : Int) (f : Nat → List It) (L G : Int) : Sta := ⟨fun v w => ∃ s, v = ze a b md z s L G ∧ RdM w s f, fun _ _ _ hb ⟨s, h1, h2⟩ => ⟨s, h1, h2.below hb⟩⟩
theorem zD1 (n' r' md' z' : Int) (s' : Sl) (l' g' : Int) : (zO n' r' md' z' s' l' g').foldl (fun cs p => cs.setIfInBounds p.1 p.2) (zX 0 0 0 0 Sl.nil 0 0) = zX n' r' md' z' s' l' g' := by
 simp only [List.foldl_cons, List.foldl_nil, List.setIfInBounds_toArray, List.set_cons_zero, List.set_cons_succ]
theorem zGr (s : Slt) (a : Option Addr) (n c : Nat) (L : List GP) (w : World) (h : RdG w (.slice a n c) L) (hg : gns L = s.gens) (hl : LenS 1000 s.gens) (hn : n ≤ 1000000) (num : Int) (kv : Value) (keys : List Int) (hk : RdU w kv keys) (hkl : keys.length ≤ 1000) :
  Calls Tryz.prog 71 #[zhq s.id s.lim s.ro a n c, .agg #[.int .i64 num, kv]] w (SRo w (wv s num keys)) := by
 have hLn : L.length = n := by
  obtain ⟨_, _, e, _⟩ := h.shape;injection e with _ e _; exact e.symm
 have Hkl := zh hkl;have HIx := zh (fun W bg (hb : Below w.heap.size w W) (hq : BlkE W bg #[.int .i64 num, kv] 89) => zEU a n c L bg num kv W (h.below hb) hn hq);have HE := zh (show wv s num keys = if qi s.gens num < s.gens.length then (if (yW (gat s.gens (qi s.gens num)) keys).1 = 0 then yb s (yW (gat s.gens (qi s.gens num)) keys).2 else (wS, (yW (gat s.gens (qi s.gens num)) keys).1)) else (wS, 6) from rfl);have hsn : s.gens.length = n := by rw [← hg, zz]; exact hLn
 have hgq : ∀ q, gat s.gens q = (pat L q).1 := fun q => by rw [← hg]; exact xD
 obtain ⟨ka, kc, rfl, _, _⟩ := hk.shape0;have HKu := zh hk;clear hkl hk;generalize hkn0 : keys.length = kn at *;have Hkn0 := zh hkn0;clear hkn0;obtain ⟨W, hW⟩ : ∃ W, ((w.alloc (.cells (zS s.id s.lim s.ro a n c) 27)).alloc (.cells #[.int .i64 num, .slice ka kn kc] 89)).alloc (.cells (zS 0 0 false none 0 0) 27) = W := ⟨_, rfl⟩
 have hb1 := zP w s.id s.lim s.ro a n c 27;have hb2 := (Below.refl (w.alloc (.cells (zS s.id s.lim s.ro a n c) 27)).heap.size (w.alloc (.cells (zS s.id s.lim s.ro a n c) 27))).alloc (Nat.le_refl _) (.cells #[.int .i64 num, .slice ka kn kc] 89);have hb3 := zP ((w.alloc (.cells (zS s.id s.lim s.ro a n c) 27)).alloc (.cells #[.int .i64 num, .slice ka kn kc] 89)) 0 0 false none 0 0 27;have HX := zh (show BlkE W w.heap.size (zS s.id s.lim s.ro a n c) 27 from hW ▸ ((BlkE.new w (zS s.id s.lim s.ro a n c) 27).below hb2).below hb3)
 have HK := zh (show BlkE W (w.heap.size + 1) #[.int .i64 num, .slice ka kn kc] 89 from hW ▸ (show BlkE _ (w.heap.size + 1) #[.int .i64 num, .slice ka kn kc] 89 from by
  have h := BlkE.new (w.alloc (.cells (zS s.id s.lim s.ro a n c) 27)) #[.int .i64 num, .slice ka kn kc] 89
  rwa [show (w.alloc (.cells (zS s.id s.lim s.ro a n c) 27)).heap.size = w.heap.size + 1 by simp] at h).below hb3)
 have HR := zh (show BoxV W (w.heap.size + 1 + 1) 0 0 false none 0 0 from hW ▸ (by
  have h := BoxV.new ((w.alloc (.cells (zS s.id s.lim s.ro a n c) 27)).alloc (.cells #[.int .i64 num, .slice ka kn kc] 89)) 0 0 false none 0 0 27
  rwa [show ((w.alloc (.cells (zS s.id s.lim s.ro a n c) 27)).alloc (.cells #[.int .i64 num, .slice ka kn kc] 89)).heap.size = w.heap.size + 1 + 1 by simp] at h))
 have HB := zh (show Below w.heap.size w W from hW ▸ zA (zA hb1 hb2) hb3);have HM := zh (show ∀ q, q < n → RdM w (pat L q).2 (pat L q).1.m.st ∧ ∀ j, j < 8 → ((pat L q).1.m.st j).length ≤ 1000 from fun q hq => ⟨h.m _ (xI (by omega)), fun j hj => hl _ (by rw [← hgq]; exact tF (by omega)) j hj⟩);have HRd := zh h;have HCh := zh (fun W g sl (hb : Below w.heap.size w W) (hm : RdM W sl g.m.st) (hgl : ∀ j, j < 8 → (g.m.st j).length ≤ 10000) => zFZ s a n c L W (h.below hb) hg hl g sl hm hgl);have Hgq := zh hgq;have Hsn := zh hsn;clear hb1 hb2 hb3 h hg hl hgq hsn
 go_enter Tryz.func71, Tryz.ntmps71
 go_upto_region 1 with fail;clear hW;have k3 := HX.out.cell (i := 3) rfl;go_wp2_with fail;refine (HIx.out W (w.heap.size + 1) HB.out HK.out).mono ?_;rintro e w1 ⟨⟨z, rfl, hz⟩, hb⟩;clear k3 HIx;replace HX := zh (HX.out.below hb);replace HK := zh (HK.out.below hb);replace HR := zh (HR.out.below hb);replace HB := zh (zA HB.out hb);clear hb;rcases hz with ⟨k, hk1, rfl, hk2, hk3⟩ | ⟨rfl, hz⟩
 ·
  have hkn : k < n := by omega
  have HG := zh (show qi s.gens num = k from zBE (by rw [Hsn.out]; exact hkn) (by rw [Hgq.out]; exact hk2) fun j hj => by rw [Hgq.out]; exact hk3 j hj);have HE2 := zh (show wv s num keys = if (yW (pat L k).1 keys).1 = 0 then yb s (yW (pat L k).1 keys).2 else (wS, (yW (pat L k).1 keys).1) by rw [HE.out, HG.out, if_pos (by rw [Hsn.out]; exact hkn), Hgq.out]);have HMk := HM.out k hkn;have HKl := zh (fun W2 (hb : Below w1.heap.size w1 W2) => zI1 (pat L k).1 (pat L k).2 (.slice ka kn kc) keys W2 (HMk.1.below (zA HB.out hb)) (fun j hj => Nat.le_trans (HMk.2 j hj) (by decide)) (RdL.below HKu.out (zA HB.out hb)) (by rw [Hkn0.out]; exact Nat.le_trans Hkl.out (by decide)));have hlen : ∀ j, j < 8 → ((yW (pat L k).1 keys).2.m.st j).length ≤ 10000 := fun j hj => Nat.le_trans (zEj (pat L k).1 keys HMk.2 j hj) (by decide)
  have HLe := zh hlen;obtain ⟨gb, go, e0, hat⟩ := (HRd.out.below HB.out).at hkn;subst e0;have HGA := zh hat;clear HE HG HM HMk hlen hat hk2 hk3;generalize wv s num keys = RR at *;generalize hK : yW (pat L k).1 keys = KG at *;clear hK;obtain ⟨er, ⟨tn, tr, tm, tz, ⟨tf, tL, tG⟩⟩⟩ := KG;generalize pat L k = p at *;obtain ⟨⟨pn, pr, pm, pz, ⟨pf, pL, pG⟩⟩, ps⟩ := p;dsimp only at HKl HE2 HLe;have hkn2 : (0 : Int) ≤ (k : Int) := by omega
  have hkn3 : (k : Int) < (n : Int) := by omega
  have i1 : ¬ (k : Int) < 0 := by omega
  go_upto_region 4 with fail
  go_cut [7, 8] (fun vb ve wx => ∃ bG s9, vb = .pointer (some ⟨bG, 0, none⟩) ∧ ve = .int .i64 er ∧ w1.heap.size ≤ bG ∧ Hid (BlkE wx bG (zX tn tr tm tz s9 tL tG) 38) ∧ Hid (RdM wx s9 tf) ∧ Hid (Below w1.heap.size w1 wx))
  case first =>
   refine xQ [eqS (.pointer (some ⟨w.heap.size, 3, none⟩)), eqS (.slice (some ⟨gb, go, none⟩) n c), eqS (.int .i64 (k : Int)), eqS (.pointer (some ⟨gb, go + k * 14, none⟩)), eqS (ze pn pr pm pz ps pL pG), eqS (.pointer (some ⟨w.heap.size + 1, 1, none⟩)), eqS (.slice ka kn kc), zKa er tn tr tm tz tf tL tG, zKa er tn tr tm tz tf tL tG, zLJ tn tr tm tz tf tL tG, eqS (.int .i64 er), zLU 38 w1.heap.size] [11] 36 10 (by kernel_rfl) (by kernel_rfl) rfl rfl (by decide) (by rfl) (by kernel_rfl) (fun f => by simp [frm, zN, Act.put]; exact rfl) ?_ ?_ ?_
   ·
    refine ⟨?_, ?_, ?_, ?_, ?_, ?_, ?_, ?_, ?_, ?_, ?_, ?_, trivial⟩
    ·
     intro f w2 hb hd;clear hd;dsimp only;go_wp2_with fail;exact pS rfl (by simp)
    ·
     intro f w2 hb hd;have d0 : f 0 = (.pointer (some ⟨w.heap.size, 3, none⟩)) := hd 0 (by kernel_rfl);clear hd;dsimp only;rw [d0];have q3 := (HX.out.below hb).cell (i := 3) rfl;go_wp2_with fail;exact pS rfl (by simp)
    ·
     intro f w2 hb hd;clear hd;dsimp only;go_wp2_with fail;exact pS rfl (by simp)
    ·
     intro f w2 hb hd;have d1 : f 1 = (.slice (some ⟨gb, go, none⟩) n c) := hd 1 (by kernel_rfl);have d2 : f 2 = (.int .i64 (k : Int)) := hd 2 (by kernel_rfl);clear hd;dsimp only;rw [d1];rw [d2];have j0 := hkn2;have j1 := hkn3;go_wp2_with fail;exact pS rfl (by simp)
    ·
     intro f w2 hb hd;have d3 : f 3 = (.pointer (some ⟨gb, go + k * 14, none⟩)) := hd 3 (by kernel_rfl);clear hd;dsimp only;rw [d3];have hx := HGA.out.below hb;obtain ⟨q0, q1, q2, q3, q4, q5, q6, q7, q8, q9, q10, q11, q12, q13⟩ := hx.q;clear hx;dsimp only at q0 q1 q2 q3 q4 q5 q6 q7 q8 q9 q10 q11 q12 q13;go_wp2_with fail;exact pS rfl (by simp)
    ·
     intro f w2 hb hd;clear hd;dsimp only;go_wp2_with fail;exact pS rfl (by simp)
    ·
     intro f w2 hb hd;have d5 : f 5 = (.pointer (some ⟨w.heap.size + 1, 1, none⟩)) := hd 5 (by kernel_rfl);clear hd;dsimp only;rw [d5];have q1 := (HK.out.below hb).cell (i := 1) rfl;go_wp2_with fail;exact pS rfl (by simp)
    ·
     intro f w2 hb hd;have d4 : f 4 = (ze pn pr pm pz ps pL pG) := hd 4 (by kernel_rfl);have d6 : f 6 = (.slice ka kn kc) := hd 6 (by kernel_rfl);clear hd;dsimp only;rw [d4];rw [d6];go_wp2_with fail;refine (HKl.out w2 hb).mono ?_;rintro e w9 ⟨⟨s9, rfl, ho9⟩, hb9⟩;have HO9 := zh ho9.rd;clear ho9;go_wp2_with fail;exact ⟨rfl, hb9, fun t ht => by injection ht with ht; subst ht; exact ⟨⟨s9, rfl, HO9.out⟩, fun h => by simp at h⟩⟩
    ·
     intro f w2 hb hd;obtain ⟨s7, d7, r7⟩ := show ∃ s, f 7 = .tuple #[ze tn tr tm tz s tL tG, .int .i64 er] ∧ RdM w2 s tf from hd 7 (by kernel_rfl);clear hd;dsimp only;rw [d7];have HO9 := zh r7;clear r7;go_wp2_with fail;exact ⟨rfl, Below.refl _ _, fun t ht => by injection ht with ht; subst ht; exact ⟨⟨s7, rfl, HO9.out⟩, fun h => by simp at h⟩⟩
    ·
     intro f w2 hb hd;obtain ⟨s8, d8, r8⟩ := show ∃ s, f 8 = .tuple #[ze tn tr tm tz s tL tG, .int .i64 er] ∧ RdM w2 s tf from hd 8 (by kernel_rfl);clear hd;dsimp only;rw [d8];have HO9 := zh r8;clear r8;go_wp2_with fail;exact ⟨rfl, Below.refl _ _, fun t ht => by injection ht with ht; subst ht; exact ⟨⟨s8, rfl, HO9.out⟩, fun h => by simp at h⟩⟩
    ·
     intro f w2 hb hd;obtain ⟨s8, d8, r8⟩ := show ∃ s, f 8 = .tuple #[ze tn tr tm tz s tL tG, .int .i64 er] ∧ RdM w2 s tf from hd 8 (by kernel_rfl);clear hd;dsimp only;rw [d8];clear r8;go_wp2_with fail;exact pS rfl (by simp)
    intro f w2 hb hd;clear hd;dsimp only;have hbs := hb.size;have hnw := BlkE.new w2 (zX 0 0 0 0 Sl.nil 0 0) 38;go_wp2_with fail;exact ⟨rfl, (Below.refl _ _).alloc (Nat.le_refl _) _, fun t ht => by injection ht with ht; subst ht; exact ⟨⟨_, rfl, hbs, hnw⟩, fun _ => ⟨Nat.le_refl _, by simp [blk]⟩⟩⟩
   ·
    intro f w8 hb hd hff;clear hff;obtain ⟨s9, d9, r9⟩ := show ∃ s, f 9 = ze tn tr tm tz s tL tG ∧ RdM w8 s tf from hd 9 (show 9 < 12 by decide);obtain ⟨bG, d11, lo, bx⟩ := show ∃ b, f 11 = .pointer (some ⟨b, 0, none⟩) ∧ w1.heap.size ≤ b ∧ BlkE w8 b (zX 0 0 0 0 Sl.nil 0 0) 38 from hd 11 (show 11 < 12 by decide);have d10 : f 10 = .int .i64 er := hd 10 (show 10 < 12 by decide)
    try dsimp only
    rw [d9, d10, d11];clear hd d9 d10 d11;have HGn := zh (show BlkE (pts w8 bG (zO tn tr tm tz s9 tL tG)) bG (zX tn tr tm tz s9 tL tG) 38 from (by have h := BlkE.sets (zO tn tr tm tz s9 tL tG) bx; rw [zD1] at h; exact h));have HRn := zh (RdM.gen r9 bx (zO tn tr tm tz s9 tL tG));have HBn := zh (zD (B := w1.heap.size) (b := bG) lo (zO tn tr tm tz s9 tL tG) hb);have bg := bx.gen;obtain ⟨g0, g1, g2, g3, g4, g5, g6, g7, g8, g9, g10, g11, g12, g13⟩ := bg.q;have gf := bg.f;clear r9 bx bg hb;generalize f 0 = zq0, f 1 = zq1, f 2 = zq2, f 3 = zq3, f 4 = zq4, f 5 = zq5, f 6 = zq6, f 7 = zq7, f 8 = zq8;clear f;change wpList _ _ _ (_ :: _ :: []) _ _;go_wp2_with fail;go_meet
    case rel => exact ⟨bG, s9, rfl, rfl, lo, HGn, HRn, HBn⟩
   intro f w8 hb hd hff;clear hff;obtain ⟨s9, d9, r9⟩ := show ∃ s, f 9 = ze tn tr tm tz s tL tG ∧ RdM w8 s tf from hd 9 (show 9 < 12 by decide) (show 9 ≠ 10 by decide);obtain ⟨bG, d11, lo, bx⟩ := show ∃ b, f 11 = .pointer (some ⟨b, 0, none⟩) ∧ w1.heap.size ≤ b ∧ BlkE w8 b (zX 0 0 0 0 Sl.nil 0 0) 38 from hd 11 (show 11 < 12 by decide) (show 11 ≠ 10 by decide);obtain ⟨s8, d8, r8⟩ := show ∃ s, f 8 = .tuple #[ze tn tr tm tz s tL tG, .int .i64 er] ∧ RdM w8 s tf from hd 8 (show 8 < 12 by decide) (show 8 ≠ 10 by decide);clear r8
   try dsimp only
   rw [d8, d9, d11];clear hd d8 d9 d11;have HGn := zh (show BlkE (pts w8 bG (zO tn tr tm tz s9 tL tG)) bG (zX tn tr tm tz s9 tL tG) 38 from (by have h := BlkE.sets (zO tn tr tm tz s9 tL tG) bx; rw [zD1] at h; exact h));have HRn := zh (RdM.gen r9 bx (zO tn tr tm tz s9 tL tG));have HBn := zh (zD (B := w1.heap.size) (b := bG) lo (zO tn tr tm tz s9 tL tG) hb);have bg := bx.gen;obtain ⟨g0, g1, g2, g3, g4, g5, g6, g7, g8, g9, g10, g11, g12, g13⟩ := bg.q;have gf := bg.f;clear r9 bx bg hb;generalize f 0 = zq0, f 1 = zq1, f 2 = zq2, f 3 = zq3, f 4 = zq4, f 5 = zq5, f 6 = zq6, f 7 = zq7, f 10 = zq10;clear f;change wpList _ _ _ (_ :: _ :: _ :: []) _ _;go_wp2_with fail;go_meet
   case rel => exact ⟨bG, s9, rfl, rfl, lo, HGn, HRn, HBn⟩
  obtain ⟨bG, s9, rfl, rfl, hlo, HGe, HRg, HBn⟩ := hcut;generalize wc = w3 at *;replace HX := zh (HX.out.below HBn.out);replace HK := zh (HK.out.below HBn.out);replace HR := zh (HR.out.below HBn.out);replace HB := zh (zA HB.out HBn.out);clear HBn HKl HGA
  by_cases her : er = 0
  ·
   subst her;have HE3 := zh (show RR = yb s ⟨tn, tr, tm, tz, ⟨tf, tL, tG⟩⟩ by rw [HE2.out, if_pos rfl]);have HCw := zh (HCh.out w3 ⟨tn, tr, tm, tz, ⟨tf, tL, tG⟩⟩ s9 HB.out HRg.out HLe.out);clear HE2 HCh;rw [← HE3.out] at HCw;clear HE3;obtain ⟨R, rc⟩ := RR;dsimp only at HCw;have hb3 : w.heap.size + 1 + 1 < w3.heap.size := HR.out.lt;have x0 := HX.out.cell (i := 0) rfl;have x1 := HX.out.cell (i := 1) rfl;have x2 := HX.out.cell (i := 2) rfl;have x3 := HX.out.cell (i := 3) rfl;obtain ⟨g0, g1, g2, g3, g4, g5, g6, g7, g8, g9, g10, g11, g12, g13⟩ := HGe.out.gen.q;go_wp2_with fail;refine HCw.out.mono ?_;rintro e w4 ⟨⟨ra, rn, rcp, RL, rfl, hown, hgn⟩, hb⟩;dsimp only;have HO := zh hown;have HGn := zh hgn;clear hown hgn x0 x1 x2 x3 g0 g1 g2 g3 g4 g5 g6 g7 g8 g9 g10 g11 g12 g13;replace HR := zh (HR.out.below hb);replace HB := zh (zA HB.out hb);clear hb HCw;obtain ⟨z0, z1, z2, z3⟩ := HR.out.q
   have zf := HR.out.f;go_wp2_with fail;change bodyPost _ _ _ _ _ (pts w4 (w.heap.size + 1 + 1) (zU R.id R.lim R.ro ra rn rcp));have hby := HR.out.all R.id R.lim R.ro ra rn rcp;have HBz := zh (zD (B := w.heap.size) (b := w.heap.size + 1 + 1) (by omega) (zU R.id R.lim R.ro ra rn rcp) HB.out);have HOz := zh ((HO.out.pts (b := w.heap.size + 1 + 1) hb3 (zU R.id R.lim R.ro ra rn rcp)).lower (show w.heap.size ≤ w3.heap.size by omega));generalize pts w4 (w.heap.size + 1 + 1) (zU R.id R.lim R.ro ra rn rcp) = V at *;exact bodyPost_ret (v := .tuple #[zhq R.id R.lim R.ro ra rn rcp, .int .i64 rc]) (by simp [results, Tryz.results71, go_sem, hby.c0, hby.c1, hby.c2, hby.c3]) rfl (⟨⟨_, _, _, RL, rfl, HOz.out, HGn.out⟩, HBz.out⟩)
  have HE3 := zh (show RR = (wS, er) by rw [HE2.out, if_neg her]);have e1 : (er != 0) = true := by simpa using her
  clear HE2 her;obtain ⟨z0, z1, z2, z3⟩ := HR.out.q;have zf := HR.out.f;go_wp2_with fail;change bodyPost _ _ _ _ _ (pts w3 (w.heap.size + 1 + 1) (zU 0 0 false none 0 0));have hby := HR.out.all 0 0 false none 0 0;have HBz := zh (zD (B := w.heap.size) (b := w.heap.size + 1 + 1) (by omega) (zU 0 0 false none 0 0) HB.out);generalize pts w3 (w.heap.size + 1 + 1) (zU 0 0 false none 0 0) = V at *;exact bodyPost_ret (v := .tuple #[zhq 0 0 false none 0 0, .int .i64 er]) (by simp [results, Tryz.results71, go_sem, hby.c0, hby.c1, hby.c2, hby.c3]) rfl (by rw [HE3.out]; exact SRo.no HBz.out)
 have HE3 := zh (show wv s num keys = (wS, 6) by
  rw [HE.out, zHA fun j hj => by rw [Hgq.out]; exact hz j (by rw [Hsn.out] at hj; omega), if_neg (by omega)])
 clear hz HE;generalize wv s num keys = RR at *;obtain ⟨z0, z1, z2, z3⟩ := HR.out.q;have zf := HR.out.f;go_wp2_with fail;change bodyPost _ _ _ _ _ (pts w1 (w.heap.size + 1 + 1) (zU 0 0 false none 0 0));have hby := HR.out.all 0 0 false none 0 0;have HBz := zh (zD (B := w.heap.size) (b := w.heap.size + 1 + 1) (by omega) (zU 0 0 false none 0 0) HB.out);generalize pts w1 (w.heap.size + 1 + 1) (zU 0 0 false none 0 0) = V at *;exact bodyPost_ret (v := .tuple #[zhq 0 0 false none 0 0, .int .i64 6]) (by simp [results, Tryz.results71, go_sem, hby.c0, hby.c1, hby.c2, hby.c3]) rfl (by rw [HE3.out]; exact SRo.no HBz.out)
abbrev RdKs (w : World) (v : Value) (ks : List KP) : Prop := RdS 2 klC w v ks
theorem RdKs.at {w : World} {a : Option Addr} {n cap : Nat} {ks : List KP} (h : RdKs w (.slice a n cap) ks) {j : Nat} (hj : j < n) : ∃ b off, a = some ⟨b, off, none⟩ ∧ w.cell? ⟨b, off + j * 2, none⟩ = some (.int .i64 (kat ks j).1) ∧ w.cell? ⟨b, off + j * 2 + 1, none⟩ = some (kat ks j).2.1 := by
 obtain ⟨a', cap', e, h2, h3, _, h5⟩ := RdS.shape h (by decide) (0, .slice none 0 0, []);injection e with e1 e2 e3;subst e1 e2 e3;obtain ⟨b, off, e, hc⟩ := h5 (by omega);refine ⟨b, off, e, ?_, hc j hj 1 _ rfl⟩;have := hc j hj 0 _ rfl; rwa [Nat.add_zero] at this
theorem RdKs.len {w : World} {a : Option Addr} {n cap : Nat} {ks : List KP} (h : RdKs w (.slice a n cap) ks) : ks.length = n := by
 obtain ⟨_, _, e, _⟩ := RdS.shape h (by decide) (0, .slice none 0 0, []);injection e with _ e _; exact e.symm
theorem kF (g num : Int) (kv : Value) (w : World) (h1 : -1000 ≤ g ∧ g ≤ 1000) (h2 : -1000 ≤ num ∧ num ≤ 1000) : Calls Tryz.prog 183 #[.agg #[.int .i64 g, kv], .int .i64 num] w fun e w' => e = .returned (.int .i64 (g - num)) ∧ Below w.heap.size w w' := by
 have hb := (Below.refl w.heap.size w).alloc (Nat.le_refl _) (.cells #[.int .i64 g, kv] 89);have HY := zh (BlkE.new w #[.int .i64 g, kv] 89);have HB := zh hb;obtain ⟨a1, a2⟩ := h1;obtain ⟨b1, b2⟩ := h2;clear hb
 go_enter Tryz.func183, Tryz.ntmps183
 go_upto_region 1 with fail;change Code.wp _ _ _ _ (w.alloc (.cells #[.int .i64 g, kv] 89));generalize w.alloc (.cells #[.int .i64 g, kv] 89) = w1 at *;have q0 := HY.out.cell (i := 0) rfl;go_wp2_with fail;go_ret;exact ⟨rfl, HB.out⟩
theorem zJJ (a : Option Addr) (n cap : Nat) (ks : List KP) (num : Int) (w : World) (h : RdKs w (.slice a n cap) ks) (ha : (kls ks).Pairwise fun a b => a.1 < b.1) (hk : ∀ x ∈ kls ks, 1 ≤ x.1 ∧ x.1 ≤ 8) (hnum : 1 ≤ num ∧ num ≤ 8) (hs : n ≤ 1000000) :
  Calls Tryz.prog 182 #[.slice a n cap, .int .i64 num, .func (.func 183) #[] #[]] w fun e w' =>
   e = .returned (.tuple #[.int .i64 (klI (kls ks) num : Int), .bool (decide (klI (kls ks) num < n) && (ye (kls ks) (klI (kls ks) num)).1 == num)]) ∧ Below w.heap.size w w' := by
 have hln : (kls ks).length = n := by rw [uH]; exact h.len
 have HR := zh h;have HL := zh (fun i (hi : i ≤ n) x (y : i < n → num ≤ (ye (kls ks) i).1) => zKn (l := kls ks) (num := num) (i := i) (by rw [hln]; exact hi) x (by rw [hln]; exact fun h => by have := y h; omega) ha);have HNm := zh (show ∀ i, i < n → 1 ≤ (ye (kls ks) i).1 ∧ (ye (kls ks) i).1 ≤ 8 from fun i hi => hk _ (uD (by omega)));have HKa := zh (show ∀ i, (kat ks i).1 = (ye (kls ks) i).1 from fun i => by rw [zEX]);obtain ⟨m1, m2⟩ := hnum;clear h ha hk hln;generalize kls ks = KS at *
 go_enter Tryz.func182, Tryz.ntmps182
 go_wp2_with fail
 go_loopw [9, 10] (fun iv jv W => ∃ i j : Nat, iv = .int .i64 (i : Int) ∧ jv = .int .i64 (j : Int) ∧ i ≤ j ∧ j ≤ n ∧ Hid (∀ k, i = k + 1 → (ye KS k).1 < num) ∧ Hid (j < n → num ≤ (ye KS j).1) ∧ Hid (Below w.heap.size w W)) (fun iv jv _ => (intOf jv - intOf iv).toNat)
 case atStart => exact ⟨0, n, rfl, rfl, Nat.zero_le _, Nat.le_refl _, zh (fun k hk => by omega), zh (fun h => absurd h (by omega)), zh (Below.refl _ _)⟩
 obtain ⟨i, j, rfl, rfl, hij, hj, HLw, HHi, HB⟩ := hrel
 by_cases hlt : i < j
 ·
  obtain ⟨m, hm, hm1, hm2⟩ : ∃ m : Nat, (i + j) / 2 = m ∧ i ≤ m ∧ m < j := ⟨(i + j) / 2, rfl, by omega, by omega⟩
  have hmi : ((i : Int) + (j : Int)) / 2 = (m : Int) := by omega
  have i1 : (i : Int) < (j : Int) := by omega
  obtain ⟨bb, off, rfl, c0, c1⟩ := (show RdKs _ _ _ from RdS.below HR.out HB.out).at (show m < n by omega);rw [HKa.out] at c0;obtain ⟨n1, n2⟩ := HNm.out m (by omega)
  have HX0 := zh (show ∀ k, m + 1 = k + 1 → (ye KS m).1 < num → (ye KS k).1 < num from fun k hk hx => by
   obtain rfl : m = k := by omega
   exact hx)
  have HX1 := zh (fun (hx : num ≤ (ye KS m).1) => (fun (_ : m < n) => hx));clear hm;generalize hgE : (ye KS m).1 = g at *;have HgE := zh hgE;clear hgE;generalize (kat ks m).2.1 = kv at *
  by_cases hneg : g - num < 0
  ·
   have hx : g < num := by omega
   go_wp2_with fail;refine (kF g num kv _ ⟨by omega, by omega⟩ ⟨by omega, by omega⟩).mono ?_;rintro e w1 ⟨rfl, hb1⟩;have HB1 := zh (zA HB.out hb1);clear hb1;go_wp2_with fail;exact ⟨⟨m + 1, j, by go_num, rfl, by omega, hj, zh (fun k hk => HX0.out k hk hx), HHi, HB1⟩, by simp [intOf]; omega⟩
  have hx : num ≤ g := by omega
  go_wp2_with fail;refine (kF g num kv _ ⟨by omega, by omega⟩ ⟨by omega, by omega⟩).mono ?_;rintro e w1 ⟨rfl, hb1⟩;have HB1 := zh (zA HB.out hb1);clear hb1;go_wp2_with fail;exact ⟨⟨i, m, rfl, rfl, hm1, by omega, HLw, zh (fun _ => by rw [HgE.out]; exact hx), HB1⟩, by simp [intOf]; omega⟩
 obtain rfl : i = j := by omega
 have HE := zh (HL.out i hj HLw.out HHi.out)
 by_cases hin : i < n
 ·
  have i1 : (i : Int) < (n : Int) := by omega
  obtain ⟨bb, off, rfl, c0, c1⟩ := (show RdKs _ _ _ from RdS.below HR.out HB.out).at hin;rw [HKa.out] at c0;obtain ⟨n1, n2⟩ := HNm.out i hin
  have HF := zh (show (decide (klI KS num < n) && (ye KS (klI KS num)).1 == num) = ((ye KS i).1 - num == 0) by
   rw [HE.out, decide_eq_true hin, Bool.true_and]
   by_cases e : (ye KS i).1 = num
   ·
    rw [e]; simp
   rw [beq_eq_false_iff_ne.2 e, beq_eq_false_iff_ne.2 (by omega)])
  generalize (ye KS i).1 = g at *;generalize (kat ks i).2.1 = kv at *;go_wp2_with fail;refine (kF g num kv _ ⟨by omega, by omega⟩ ⟨by omega, by omega⟩).mono ?_;rintro e w1 ⟨rfl, hb1⟩;have HB1 := zh (zA HB.out hb1);clear hb1;go_wp2_with fail;go_ret2;exact ⟨by rw [HF.out, HE.out]; rfl, HB1.out⟩
 have i1 : ¬ (i : Int) < (n : Int) := by omega
 have HF := zh (show (decide (klI KS num < n) && (ye KS (klI KS num)).1 == num) = false by rw [HE.out, decide_eq_false hin, Bool.false_and]);go_wp2_with fail;go_ret2;exact ⟨by rw [HF.out, HE.out]; rfl, HB.out⟩
def fzK : List Value := [.int .i64 0, .slice none 0 0]
def filV0K : Value := .agg #[.int .i64 0, .slice none 0 0]
def um (k : Nat) : List Value := (List.replicate k fzK).flatMap id
theorem qp (k : Nat) : (um k).length = k * 2 := by
 unfold um;rw [yK 2 id _ (fun x hx => by rw [(List.mem_replicate.1 hx).2]; rfl), List.length_replicate]
theorem qV : ∀ m : Nat, (Builtin.zeroCells filV0K.cells m).toList = um m
 | 0 => by simp [Builtin.zeroCells, um]
 | m + 1 => by
  have e0 : um (m + 1) = um m ++ fzK := by unfold um; rw [List.replicate_succ', List.flatMap_append]; simp
  rw [e0, ← qV m]
  show (Array.map _ (Array.range ((m + 1) * 2))).toList = (Array.map _ (Array.range (m * 2))).toList ++ _
  have e : (m + 1) * 2 = m * 2 + 1 + 1 := by omega
  rw [e];simp only [Array.toList_map, Array.toList_range, List.range_succ, List.map_append, List.map_cons, List.map_nil, List.append_assoc]
  congr 1
  show _ = [Value.int .i64 0, .slice none 0 0]
  have s4 : filV0K.cells.size = 2 := rfl;rw [s4];rw [show m * 2 % 2 = 0 by omega, show (m * 2 + 1) % 2 = 1 by omega]
  rfl
theorem zLD {n cap : Nat} (h1 : n ≤ cap) (h2 : cap ≤ maxLen) : (n : Int) ≤ 9223372036854775807 := by unfold maxLen at h2; omega
theorem zCu : (Tryz.prog.info? 89).map (fun i => (i.zero, i.size, i.bytes)) = some (some filV0K, 2, 32) := by kernel_rfl
theorem xZ : xe Tryz.prog 68 89 2 32 := by
 obtain ⟨i, h1, h2, h3, h4⟩ := info_parts zCu;exact ⟨Tryz.underlying68, by decide, i, _, h1, h2, h3, h4, rfl⟩
theorem zBo {a b c : World} {row : Option Nat} (h : a.grownBy b row) (k : b.grownBy c row) : a.grownBy c row :=
 ⟨k.os.trans h.os, k.tape.trans h.tape, k.output.trans h.output, Nat.le_trans h.size k.size, fun i hi hr => (k.block i (Nat.lt_of_lt_of_le hi h.size) hr).trans (h.block i hi hr)⟩
theorem k5 {w w' : World} (h : Below w.heap.size w w') (row : Option Nat) : w.grownBy w' row := ⟨h.os, h.tape, h.output, h.size, fun k hk _ => h.block k hk⟩
theorem zC9 (w : World) (row : Option Nat) : w.grownBy w.drew row := k5 (zi (Below.refl _ _)) row
theorem tP {P : Program} {dT sT elem : TypeId} {sz bytes : Nat} (hE : xe P dT elem sz bytes) {w : World} {base : Nat} {e : TypeId} {n cap g : Nat} {xs : List Value} (h : w.ownsRow base e sz (.slice (some ⟨g, 0, none⟩) n cap) n xs)
  {sa : Option Addr} {m sc : Nat} {news : List Value} (hs : Rd w sz (.slice sa m sc) m news) (o dl dc k : Nat) (hk : k = Nat.min m dl) (h0 : 0 < k) (hsz : 0 < sz) (ho : o + k ≤ n) (h1 : ∀ u ∈ news.take (k * sz), u.oneCell' = true) :
  ∃ w', (∀ ty, (Builtin.copy_ #[dT, sT] ty #[.slice (some ⟨g, o * sz, none⟩) dl dc, .slice sa m sc]).run P w = .ok (.int .i64 (k : Int)) w') ∧
   w'.ownsRow base e sz (.slice (some ⟨g, 0, none⟩) n cap) n (xs.take (o * sz) ++ news.take (k * sz) ++ xs.drop (o * sz + k * sz)) ∧ w.grownBy w' (some g) := by
 obtain ⟨hl, a', cap', e1, _, _, _, hc⟩ := hs;injection e1 with e1 e2 e3;subst e1 e3;have hkm : k ≤ m := by rw [hk]; exact Nat.min_le_left _ _
 have hlk : (news.take (k * sz)).length = k * sz := by rw [List.length_take, hl]; exact Nat.min_eq_left (Nat.mul_le_mul_right _ hkm)
 have hp : 0 < news.length := by rw [hl]; exact Nat.mul_pos (by omega) hsz
 obtain ⟨b, off, e4, hcell⟩ := hc hp;subst e4;obtain ⟨w', hrun, hown, hgr⟩ := tH (P := P) h (o * sz) (news.take (k * sz)) (by rw [hlk, ← Nat.add_mul]; exact Nat.mul_le_mul_right _ ho) h1;rw [hlk] at hown;refine ⟨w', fun ty => ?_, hown, hgr⟩
 have hf := run_firstCells_some (P := P) (w := w) sz k ⟨b, off, none⟩ m sc (news.take (k * sz)) hlk (fun j v hj => by
  rw [yJ]
  refine hcell j v ?_
  rw [List.getElem?_take] at hj
  split at hj
  ·
   exact hj
  cases hj)
 obtain ⟨ht, hZ⟩ := wI hE;simp [Builtin.copy_, run_underlying ht, Builtin.lenOf, hZ, ← hk, hf, hrun, goInt]
theorem zGu {w : World} {base : Nat} {e : TypeId} {sz n cap g : Nat} {xs : List Value} (h : w.ownsRow base e sz (.slice (some ⟨g, 0, none⟩) n cap) n xs) (k : Nat) (hk : n + k ≤ cap) :
  ∃ ys, ys.length = k * sz ∧ w.ownsRow base e sz (.slice (some ⟨g, 0, none⟩) (n + k) cap) (n + k) (xs ++ ys) := by
 have hx := h.1;rcases h.2 with ⟨h', _⟩ | ⟨g', cap', cur, h', hb, hg, hnc, hcm, hcs, htake⟩
 ·
  cases h'
 injection h' with h' _ h'';injection h' with h';injection h' with h' _;subst h' h'';have hN : (n + k) * sz ≤ cur.toList.length := by rw [Array.length_toList, hcs]; exact Nat.mul_le_mul_right _ hk
 rw [Nat.add_mul] at hN;refine ⟨(cur.toList.drop (n * sz)).take (k * sz), by rw [List.length_take, List.length_drop]; omega, ?_, .inr ⟨g, cap, cur, rfl, hb, hg, hk, hcm, hcs, ?_⟩⟩
 ·
  rw [List.length_append, hx, List.length_take, List.length_drop, Nat.add_mul]; omega
 rw [Nat.add_mul, List.take_add, htake]
theorem uY {P : Program} {t e : TypeId} {sz bytes : Nat} (hE : xe P t e sz bytes) (g n cap k : Nat) (hk : k ≤ n) (hc : k < cap) :
  ∀ W kl, (Instr.slice t (.slice (some ⟨g, 0, none⟩) n cap) (some (.int kl (k : Int))) none none).run P W = .ok (.slice (some ⟨g, k * sz, none⟩) (n - k) (cap - k)) W := by
 obtain ⟨h1, h2⟩ := wI hE;intro W kl;rw [run_slice_l W t (some ⟨g, 0, none⟩) n cap h1 kl (k : Int) (by omega) (by omega), h2];have : cap ≠ k := by omega
 simp [Result.andThen, sliced, this, yJ]
theorem zFF {w : World} {B : Nat} {a : Option Addr} {n cap : Nat} {xs : List Value} (h : w.ownsRow B 89 2 (.slice a n cap) n xs) (i k : Nat) (hi : i ≤ n) (h0 : 0 < n) (hk : cap < i + k) (hs : i + k ≤ 1000001) :
  ∃ w' c', (∀ ty, (Builtin.append_ #[68, 3] ty #[.slice a i cap, .int .i64 (k : Int)]).run Tryz.prog w = .ok (.slice (some ⟨w.heap.size, 0, none⟩) (i + k) c') w') ∧
   w'.ownsRow w.heap.size 89 2 (.slice (some ⟨w.heap.size, 0, none⟩) (i + k) c') (i + k) (xs.take (i * 2) ++ um k) ∧ Below w.heap.size w w' ∧ c' ≤ maxLen := by
 obtain ⟨x, hx⟩ : ∃ x, Tryz.prog.info? 89 = some x := by
  cases hq : Tryz.prog.info? 89 with
  | none => have := zCu; rw [hq] at this; cases this
  | some x => exact ⟨x, rfl⟩
 have hI := zCu;rw [hx] at hI;injection hI with hI;injection hI with hz hI;injection hI with hs4 hb32;have hz : x.zero = some filV0K := hz;have hcap : 0 < cap := by
  rcases h.2 with ⟨e, _⟩ | ⟨g, c, _, e, _, _, hnc, _⟩
  ·
   injection e with _ e2 _; omega
  injection e with _ _ e3; omega
 obtain ⟨hl0, a', cap', e1, _, _, _, hc⟩ := zv h;injection e1 with e1 e2 e3;subst e1 e3;have hl : (xs.take (i * 2)).length = i * 2 := by rw [List.length_take, hl0]; exact Nat.min_eq_left (Nat.mul_le_mul_right _ hi)
 have hold : (Builtin.firstCells x.size i (.slice a i cap)).run Tryz.prog w.drew = .ok (xs.take (i * 2)).toArray w.drew := by
  obtain ⟨b, off, e4, hcell⟩ := hc (by rw [hl0]; omega);subst e4;rw [hs4];refine run_firstCells_some (P := Tryz.prog) (w := w.drew) 2 i ⟨b, off, none⟩ i cap _ hl (fun j v hj => ?_);rw [yJ];refine hcell j v ?_;rw [List.getElem?_take] at hj
  split at hj
  ·
   exact hj
  cases hj
 have hnb : Builtin.nextslicecap (i + k) cap * x.bytes ≤ 281474976710656 := growslice_fits hk (by rw [hb32]; omega);have hr : ∀ ty, _ := fun ty => Lib.run_append_grow_zeros (P := Tryz.prog) w 68 3 ty 89 x filV0K .i64 .i64 Tryz.underlying68 Tryz.underlying3 hx hz a i cap (xs.take (i * 2)) hold k (by omega) (by rw [hs4]; decide) hk (by omega) (by rw [hb32]; omega) hnb
 refine ⟨_, _, hr, ?_, (Below.drew (Below.refl _ _)).alloc (Nat.le_refl _) _, grownCap_le_maxLen w (i + k) cap _ (by unfold maxLen; omega)⟩;have hge := grownCap_ge w (i + k) cap 89;have hcm : grownCap w (i + k) cap 89 ≤ maxLen := grownCap_le_maxLen w (i + k) cap _ (by unfold maxLen; omega);have hzl : (um k).length = k * 2 := by rw [qp]
 have hlen : (xs.take (i * 2) ++ um k).length = (i + k) * 2 := by rw [List.length_append, hl, hzl, Nat.add_mul]
 refine ⟨hlen, .inr ⟨w.heap.size, _, _, rfl, Nat.le_refl _, heap_alloc_new w.drew _, hge, hcm, ?_, ?_⟩⟩
 ·
  have z4 : filV0K.cells.size = 2 := rfl;simp only [Array.size_append, List.size_toArray, size_zeroCells, z4, hl, ← Nat.add_mul];rw [show i + k + (grownCap w (i + k) cap 89 - (i + k)) = grownCap w (i + k) cap 89 from by omega]
 simp only [Array.toList_append];rw [qV, ← hlen];exact List.take_left
theorem zGX {xs z c : List Value} {n i : Nat} (hi : i ≤ n) (hx : xs.length = n * 2) (hz : z.length = (n + 1 - i) * 2) (hc : c.length = 2) :
  ((xs.take (i * 2) ++ z).take (i * 2) ++ c ++ (xs.take (i * 2) ++ z).drop (i * 2 + 2)).take ((i + 1) * 2) ++ xs.drop (i * 2) ++ ((xs.take (i * 2) ++ z).take (i * 2) ++ c ++ (xs.take (i * 2) ++ z).drop (i * 2 + 2)).drop ((i + 1) * 2 + (n - i) * 2) = xs.take (i * 2) ++ c ++ xs.drop (i * 2) := by
 have hl : (xs.take (i * 2)).length = i * 2 := by rw [List.length_take, hx]; omega
 have e1 : (xs.take (i * 2) ++ z).take (i * 2) = xs.take (i * 2) := List.take_left' hl;have e2 : (xs.take (i * 2) ++ z).drop (i * 2 + 2) = z.drop 2 := by rw [← List.drop_drop, List.drop_left' hl]
 have l2 : (xs.take (i * 2) ++ c).length = (i + 1) * 2 := by rw [List.length_append, hl, hc]; omega
 have e3 : (xs.take (i * 2) ++ c ++ z.drop 2).drop ((i + 1) * 2 + (n - i) * 2) = [] := List.drop_of_length_le (by rw [List.length_append, l2, List.length_drop, hz]; omega);rw [e1, e2, List.take_left' l2, e3, List.append_nil]
theorem zFA {xs ys c : List Value} {n i : Nat} (hi : i ≤ n) (hx : xs.length = n * 2) (hy : ys.length = 2) :
  ((xs ++ ys).take ((i + 1) * 2) ++ ((xs ++ ys).drop (i * 2)).take ((n - i) * 2) ++ (xs ++ ys).drop ((i + 1) * 2 + (n - i) * 2)).take (i * 2) ++ c ++ ((xs ++ ys).take ((i + 1) * 2) ++ ((xs ++ ys).drop (i * 2)).take ((n - i) * 2) ++ (xs ++ ys).drop ((i + 1) * 2 + (n - i) * 2)).drop (i * 2 + 2) = xs.take (i * 2) ++ c ++ xs.drop (i * 2) := by
 have ld : (xs.drop (i * 2)).length = (n - i) * 2 := by rw [List.length_drop, hx]; omega
 have e1 : ((xs ++ ys).drop (i * 2)).take ((n - i) * 2) = xs.drop (i * 2) := by
  rw [List.drop_append_of_le_length (by omega), List.take_left' ld]
 have e2 : (xs ++ ys).drop ((i + 1) * 2 + (n - i) * 2) = [] := List.drop_of_length_le (by rw [List.length_append, hx, hy]; omega);have l3 : ((xs ++ ys).take ((i + 1) * 2)).length = (i + 1) * 2 := by rw [List.length_take, List.length_append, hx, hy]; omega
 rw [e1, e2, List.append_nil];have e3 : ((xs ++ ys).take ((i + 1) * 2) ++ xs.drop (i * 2)).take (i * 2) = xs.take (i * 2) := by
  rw [List.take_append_of_le_length (by omega), List.take_take, Nat.min_eq_left (by omega), List.take_append_of_le_length (by omega)]
 have e4 : ((xs ++ ys).take ((i + 1) * 2) ++ xs.drop (i * 2)).drop (i * 2 + 2) = xs.drop (i * 2) := List.drop_left' (by rw [l3]; omega);rw [e3, e4]
theorem zBS {w : World} {hb g : Nat} {ca cb : Array Value} (hne : hb ≠ g) (ha : w.heap[hb]? = some (.cells ca 89 (0, 0))) (hb' : w.heap[g]? = some (.cells cb 89 (0, 0))) (hn : cb.size ≠ 0) (off : Nat) :
  ∀ la c lb d, (callFunc 201 #[.slice (some ⟨hb, 0, none⟩) la c, .slice (some ⟨g, off, none⟩) lb d]).run Tryz.prog w = .ok (.value (.bool false)) w := fun la c lb d => by
 rw [run_callFunc_extern Tryz.func201 (by kernel_rfl) (by kernel_rfl) (by kernel_rfl) (e := Extern.SlicesOverlaps.overlaps #[68, 68] #[4]) (by kernel_rfl),
  Lib.run_overlaps_apart w 68 4 89 Tryz.underlying68 2 (wI xZ).2 ⟨hb, 0, none⟩ ⟨g, off, none⟩ la c lb d hne 89 89 ca.size cb.size (by simp [World.shape?, ha]) (by simp [World.shape?, hb']) hn (by simp [World.frozen?, ha]) (by simp [World.frozen?, ha])]
 rfl
theorem kZ (g n cap k : Nat) (hk : k + 1 ≤ n) (hc : k + 1 < cap) :
  ∀ W kl, (Instr.slice 68 (.slice (some ⟨g, 0, none⟩) n cap) (some (.int kl ((k : Int) + 1))) none none).run Tryz.prog W = .ok (.slice (some ⟨g, (k + 1) * 2, none⟩) (n - (k + 1)) (cap - (k + 1))) W := fun W kl => by
 have := uY (P := Tryz.prog) xZ g n cap (k + 1) hk hc W kl;rw [Int.natCast_add] at this;exact this
theorem zB3 {w : World} {B g n cap : Nat} {xs : List Value} (h : w.ownsRow B 89 2 (.slice (some ⟨g, 0, none⟩) n cap) n xs) (k : Nat) (hk : k ≤ n) (hc : k < cap) :
  Rd w 2 (.slice (some ⟨g, k * 2, none⟩) (n - k) (cap - k)) (n - k) (xs.drop (k * 2)) := by
 have hx := h.1;have := kR (zv h) k n hk (Nat.le_refl _);have hne : cap ≠ k := by omega
 unfold sliced at this;rw [if_neg hne] at this;simp only [Option.map_some, yJ, Nat.zero_add] at this;rw [List.take_of_length_le (by rw [List.length_drop, hx, Nat.sub_mul]; omega)] at this;exact this
theorem zDY {w : World} {B g n cap : Nat} {xs : List Value} (h : w.ownsRow B 89 2 (.slice (some ⟨g, 0, none⟩) n cap) n xs) : ∃ cur, w.heap[g]? = some (.cells cur 89 (0, 0)) ∧ cur.size = cap * 2 ∧ n ≤ cap := by
 rcases h.2 with ⟨h', _⟩ | ⟨g', c2, cur, h', hb, hg, hnc, hcm, hcs, htake⟩
 ·
  cases h'
 injection h' with h' _ h'';injection h' with h';injection h' with h' _;subst h' h'';exact ⟨cur, hg, hcs, hnc⟩
theorem zGp (v : Value) (xs c : List Value) (n i hb B : Nat) (w : World) (hown : w.ownsRow B 89 2 v n xs) (hB : B ≤ w.heap.size) (hi : i ≤ n) (hs : n ≤ 1000000) (hone : ∀ u ∈ xs, u.oneCell' = true) (hon1 : ∀ u ∈ c, u.oneCell' = true) (hl1 : c.length = 2)
  (hh : w.heap[hb]? = some (.cells c.toArray 89 (0, 0))) (hne : ∀ k, v.ownBlock = some k → k ≠ hb) :
  Calls Tryz.prog 184 #[v, .int .i64 (i : Int), .slice (some ⟨hb, 0, none⟩) 1 1] w fun e w' => ∃ v', e = .returned v' ∧ w'.ownsRow B 89 2 v' (n + 1) (xs.take (i * 2) ++ c ++ xs.drop (i * 2)) ∧ w.grownBy w' v.ownBlock := by
 have hv1 : Rd w 2 (.slice (some ⟨hb, 0, none⟩) 1 1) 1 c := by
  refine ⟨hl1, some ⟨hb, 0, none⟩, 1, rfl, Nat.le_refl _, by unfold maxLen; omega, fun h => (by cases h), fun _ => ⟨hb, 0, rfl, fun j u hj => ?_⟩⟩;have : w.cell? ⟨hb, 0 + j, none⟩ = c.toArray[0 + j]? := by simp [World.cell?, hh]
  rw [this, Nat.zero_add, List.getElem?_toArray]; exact hj
 have hl := hown.1;obtain ⟨oa, oc, rfl, ho1, ho2, ho3⟩ := zJ hown;have hm := zLD ho1 ho2;have Hown := zh hown;have Hv := zh hv1;have Hh := zh hh;have Hone := zh hone;have Hon1 := zh hon1;have HL := zh hl;have HL1 := zh hl1;clear hown hv1 hh hl hl1 ho3 hone hon1
 by_cases hin : i = n
 ·
  subst hin;obtain ⟨x1, y1, g1, _, _⟩ := vK (P := Tryz.prog) xZ (zv Hown.out) i (Nat.le_refl _);clear hne
  go_enter Tryz.func184, Tryz.ntmps184
  go_wp2_with (at_builtin; go_must (refine za rfl (.tmp 23) (.tmp 24) 68 rfl xZ B rfl Hown.out rfl Hv.out Hon1.out (by unfold maxLen; omega) (by omega) hB ?_); intro v4 w4 hown4 hgr4 hv4; clear hv4);go_ret;refine ⟨_, rfl, ?_, hgr4⟩;rw [List.take_of_length_le (by rw [HL.out]; omega), List.drop_of_length_le (by rw [HL.out]; omega), List.append_nil];exact hown4
 obtain ⟨g, rfl⟩ : ∃ g, oa = some ⟨g, 0, none⟩ := by
  rcases Hown.out.2 with ⟨e, h0⟩ | ⟨g, _, _, e, _⟩
  ·
   omega
  injection e with e; exact ⟨g, e⟩
 have hgh : g ≠ hb := hne g rfl;have hneq : ((i : Int) == (n : Int)) = false := beq_eq_false_iff_ne.2 (by omega);have g1 := uY (P := Tryz.prog) xZ g n oc i hi (by omega);clear hne
 by_cases hr : oc < n + 1
 ·
  obtain ⟨w2, c2, ha, hown2, hb2, hc2⟩ := zFF Hown.out i (n + 1 - i) hi (by omega) (by omega) (by omega);have ha : ∀ ty, (Builtin.append_ #[68, 3] ty #[.slice (some ⟨g, 0, none⟩) i oc, .int .i64 ((n : Int) + 1 - (i : Int))]).run Tryz.prog w = .ok (.slice (some ⟨w.heap.size, 0, none⟩) (n + 1) c2) w2 := fun ty => by
   have := ha ty;rw [show ((n + 1 - i : Nat) : Int) = (n : Int) + 1 - (i : Int) by omega, show i + (n + 1 - i) = n + 1 by omega] at this;exact this
  rw [show i + (n + 1 - i) = n + 1 by omega] at hown2;obtain ⟨_, _, _, hnc2⟩ := zDY hown2;have gto := yU (P := Tryz.prog) xZ (a := some ⟨g, 0, none⟩) (n := n) (cap := oc) (fun x hx => ⟨g, 0, by injection hx with hx; exact hx.symm⟩) i (by omega);have g2 := uY (P := Tryz.prog) xZ w.heap.size (n + 1) c2 i (by omega) (by omega);obtain ⟨w3, hcp1, hown3, hgr3⟩ := tP (P := Tryz.prog) (sT := 68) xZ hown2 (Hv.out.below hb2) i (n + 1 - i) (c2 - i) 1 (by simp [Nat.min_def]; omega) (by decide) (by decide) (by omega) (fun u hu => Hon1.out u (List.mem_of_mem_take hu));have hb3 : Below w.heap.size w w3 := hb2.grown hgr3 hb2.size (by intro r hr; injection hr with hr; omega);have g3 := kZ w.heap.size (n + 1) c2 i (by omega) (by omega)
  obtain ⟨w4, hcp2, hown4, hgr4⟩ := tP (P := Tryz.prog) (sT := 68) xZ hown3.drew ((zB3 Hown.out i hi (by omega)).below hb3.drew) (i + 1) (n - i) (c2 - (i + 1)) (n - i) (by simp) (by omega) (by decide) (by omega) (fun u hu => Hone.out u (List.mem_of_mem_drop (List.mem_of_mem_take hu)));have hb4 : Below w.heap.size w w4 := hb3.drew.grown hgr4 hb3.drew.size (by intro r hr; injection hr with hr; omega);have hgo : ((oc : Int) < (n : Int) + 1) := by omega
  have hw2 := zh (Hown.out.1);have hRes := zh hown4;have HB4 := zh hb4;clear hb2 hb3 hb4 hown2 hown3 hown4 hgr3 hgr4 hnc2
  go_enter Tryz.func184, Tryz.ntmps184
  go_wp2_with (at_builtin; go_must (refine Lib.wpList_append_run _ rfl (.tmp 34) (.tmp 39) 68 3 rfl _ _ rfl rfl _ _ (ha _) ?_));have j1 : IntKind.i64.wrap ((i : Int) + 1) = (i : Int) + 1 := IntWalk.i64_in _ (by omega);have j2 : (0 : Int) ≤ (i : Int) + 1 := by omega
  have j3 : (i : Int) + 1 ≤ (n : Int) + 1 := by omega
  have j4 : ((i : Int) + 1).toNat = i + 1 := by omega
  have j5 : (i : Int) ≤ (n : Int) := by omega
  go_region_held3 (fun _ => True) (trivial) (fail)
  go_wp2_with fail;go_ret;refine ⟨_, rfl, ?_, k5 HB4.out _⟩;have hRm := World.ownsRow.mono hRes.out hB;refine (congrArg (World.ownsRow _ _ _ _ _ _) ?_).mp hRm;have hz : (um (n + 1 - i)).length = (n + 1 - i) * 2 := qp _;have hc1 : c.take (1 * 2) = c := List.take_of_length_le (by rw [HL1.out]; omega);have hx1 : (xs.drop (i * 2)).take ((n - i) * 2) = xs.drop (i * 2) := List.take_of_length_le (by rw [List.length_drop, HL.out]; omega);rw [hc1, hx1];exact zGX hi HL.out hz HL1.out
 obtain ⟨ys, hy, hown1⟩ := zGu Hown.out 1 (by omega);have gto := yU (P := Tryz.prog) xZ (a := some ⟨g, 0, none⟩) (n := n) (cap := oc) (fun x hx => ⟨g, 0, by injection hx with hx; exact hx.symm⟩) (n + 1) (by omega);simp only [Int.natCast_add] at gto;rw [show ((1 : Nat) : Int) = 1 from rfl] at gto;have g2 := uY (P := Tryz.prog) xZ g (n + 1) oc i (by omega) (by omega);have g3 := kZ g (n + 1) oc i (by omega) (by omega);obtain ⟨cur, hg, hcs, _⟩ := zDY hown1;have hov := zBS (Ne.symm hgh) Hh.out hg (by omega) ((i + 1) * 2)
 obtain ⟨w3, hcp1, hown3, hgr3⟩ := tP (P := Tryz.prog) (sT := 68) xZ hown1.drew (zB3 hown1.drew i (by omega) (by omega)) (i + 1) (n - i) (oc - (i + 1)) (n - i) (by simp [Nat.min_def]; omega) (by omega) (by decide) (by omega) (fun u hu => Hone.out u (by
  rw [List.drop_append_of_le_length (by rw [HL.out]; omega), List.take_left' (by rw [List.length_drop, HL.out]; omega)] at hu
  exact List.mem_of_mem_drop hu))
 have hv3 := Rd.grown (Hv.out.drew) hgr3 (fun y hy => by injection hy with hy; subst hy; intro e; injection e with e; exact hgh e.symm);obtain ⟨w4, hcp2, hown4, hgr4⟩ := tP (P := Tryz.prog) (sT := 68) xZ hown3 hv3 i (n + 1 - i) (oc - i) 1 (by simp [Nat.min_def]; omega) (by decide) (by decide) (by omega) (fun u hu => Hon1.out u (List.mem_of_mem_take hu));have hb4 : w.grownBy w4 (some g) := zBo (zBo (zC9 _ _) hgr3) hgr4;have hRes := zh hown4;have HB4 := zh hb4;have HY := zh hy;have hgo : ¬ ((oc : Int) < (n : Int) + 1) := by omega
 have j1 : IntKind.i64.wrap ((i : Int) + 1) = (i : Int) + 1 := IntWalk.i64_in _ (by omega);have j2 : (0 : Int) ≤ (i : Int) + 1 := by omega
 have j3 : (i : Int) + 1 ≤ (n : Int) + 1 := by omega
 have j4 : ((i : Int) + 1).toNat = i + 1 := by omega
 have j5 : (i : Int) ≤ (n : Int) := by omega
 clear hb4 hown1 hown3 hown4 hgr3 hgr4 hv3 hy hcs hg
 go_enter Tryz.func184, Tryz.ntmps184
 go_wp2_with (simp only [hov]);have j6 : (i : Int) ≤ (n : Int) + 1 := by omega
 go_region_held3 (fun _ => True) (trivial) (fail)
 go_wp2_with fail;go_ret;refine ⟨_, rfl, ?_, HB4.out⟩;refine (congrArg (World.ownsRow _ _ _ _ _ _) ?_).mp hRes.out;have hc1 : c.take (1 * 2) = c := List.take_of_length_le (by rw [HL1.out]; omega);rw [hc1];exact zFA hi HL.out (by rw [HY.out])
end Go.Proofs.YtcgfilmmokmdjaaGreat
