/- A part of the walk. -/
import Derived.Test.YtcgfilmmokmdjaaGreatQAR
import Derived.Test.YtcgfilmmokmdjaaGreatQAM
set_option maxRecDepth 100000
set_option maxHeartbeats 32000000
namespace Go.Proofs.YtcgfilmmokmdjaaGreat
open Go.RowKit
theorem YZ (s : eE) (a : Option Addr) (n c : Nat) (L : List GP) (W : World) (hr : fl W (.slice a n c) L) (hg : dV L = s.dP) (hl : eV 1000 s.dP) (key : Int) :
  Calls Tryz.prog 16 #[zZ s.id s.lim s.ro a n c, .int .u64 key] W fun e w' => e = .returned (.tuple #[JT ((yM s key).headD us), .bool (!(yM s key).isEmpty)]) ∧ Below W.heap.size W w' := by
 have h := zGt s.id s.lim s.ro a n c L W hr (wm (hg ▸ hl) (by decide)) key;obtain ⟨i, l, r, g⟩ := s;dsimp only at hg h ⊢;subst hg;exact h
theorem zLn (s : eE) (a : Option Addr) (n c : Nat) (L : List GP) (W : World) (hr : fl W (.slice a n c) L) (hg : dV L = s.dP) (hl : eV 1000 s.dP) (m : Int) :
  Calls Tryz.prog 36 #[zZ s.id s.lim s.ro a n c, .int .i64 m] W fun e w' => e = .returned (.bool (wW s m)) ∧ Below W.heap.size W w' := by
 have h := zHE s.id s.lim s.ro a n c L W hr (wm (hg ▸ hl) (by decide)) m;obtain ⟨i, l, r, g⟩ := s;dsimp only at hg h ⊢;subst hg;exact h
theorem zHt (tk kind key ck : Int) (da : Option Addr) (dn dc : Nat) (w : World) (hd : dn ≤ 1000000) : Calls Tryz.prog 108 #[CN tk kind key ck (.slice da dn dc)] w fun e w' => e = .returned (.int .i64 (if kind = 2 then 24 else (eG dn : Int))) ∧ Below w.heap.size w w' := by
 by_cases hk : kind = 2
 ·
  have e1 : (kind == 2) = true := by simpa using hk
  have HE := zh (show (if kind = 2 then (24 : Int) else (eG dn : Int)) = 24 from ag hk);have H0 := zh (fun W => t8 0 W (by decide));generalize (if kind = 2 then (24 : Int) else (eG dn : Int)) = R at *;clear hk;obtain ⟨W, hW⟩ : ∃ W, w.alloc (.cells #[.int .i64 tk, .int .i64 kind, .int .u64 key, .int .u32 ck, .slice da dn dc] 85) = W := ⟨_, rfl⟩
  have HQ := zh (show dQ W w.heap.size #[.int .i64 tk, .int .i64 kind, .int .u64 key, .int .u32 ck, .slice da dn dc] 85 from hW ▸ dQ.new w #[.int .i64 tk, .int .i64 kind, .int .u64 key, .int .u32 ck, .slice da dn dc] 85);have hb0 := (aj w.heap.size w).alloc (ai _) (.cells #[.int .i64 tk, .int .i64 kind, .int .u64 key, .int .u32 ck, .slice da dn dc] 85);rw [hW] at hb0;have HB := zh hb0;clear hb0
  go_enter Tryz.func108, Tryz.ntmps108
  go_upto_region 1 with fail;clear hW;have c1 := HQ.out.cell (i := 1) rfl;have c4 := HQ.out.cell (i := 4) rfl;go_wp2_with fail;refine (H0.out _).mono ?_;rintro e w1 ⟨rfl, rfl⟩;rw [show ((eG 0 : Nat) : Int) = 24 by decide];go_wp2_with fail;go_ret;exact ⟨by rw [HE.out]; rfl, HB.out⟩
 have e1 : (kind == 2) = false := by simpa using hk
 have HE := zh (show (if kind = 2 then (24 : Int) else (eG dn : Int)) = (eG dn : Int) from ah hk);have H0 := zh (fun W => t8 dn W hd);generalize (if kind = 2 then (24 : Int) else (eG dn : Int)) = R at *;clear hk;obtain ⟨W, hW⟩ : ∃ W, w.alloc (.cells #[.int .i64 tk, .int .i64 kind, .int .u64 key, .int .u32 ck, .slice da dn dc] 85) = W := ⟨_, rfl⟩
 have HQ := zh (show dQ W w.heap.size #[.int .i64 tk, .int .i64 kind, .int .u64 key, .int .u32 ck, .slice da dn dc] 85 from hW ▸ dQ.new w #[.int .i64 tk, .int .i64 kind, .int .u64 key, .int .u32 ck, .slice da dn dc] 85);have hb0 := (aj w.heap.size w).alloc (ai _) (.cells #[.int .i64 tk, .int .i64 kind, .int .u64 key, .int .u32 ck, .slice da dn dc] 85);rw [hW] at hb0;have HB := zh hb0;clear hb0
 go_enter Tryz.func108, Tryz.ntmps108
 go_upto_region 1 with fail;clear hW;have c1 := HQ.out.cell (i := 1) rfl;have c4 := HQ.out.cell (i := 4) rfl;go_wp2_with fail;refine (H0.out _).mono ?_;rintro e w1 ⟨rfl, rfl⟩;go_wp2_with fail;go_ret;exact ⟨by rw [HE.out]; rfl, HB.out⟩
theorem zFo (b : Nat) (t : eE) (ga : Option Addr) (gn gc : Nat) (L : List GP) (ep : Bool) (kv nv rv : Value) (l9 : Int) (tk kind key ck : Int) (da : Option Addr) (dn dc : Nat) (w : World) (hb : oI w b t.id t.lim t.ro ga gn gc ep kv nv rv l9) (hg : fl w (.slice ga gn gc) L) (nN : dV L = t.dP) (hl : eV 1000 t.dP) (hd : dn ≤ 1000000) (q : Rq) (hq : q.data.length = dn) :
  Calls Tryz.prog 144 #[.pointer (some ⟨b, 0, none⟩), CN tk kind key ck (.slice da dn dc)] w fun e w' => e = .returned (.int .i64 (zy t q)) ∧ Below w.heap.size w w' := by
 have EZ := zh (fun W (hb : Below w.heap.size w W) => zLn t ga gn gc L W (hg.below hb) nN hl (dn : Int))
 by_cases h1 : 4096 < dn
 ·
  have e1 : (4096 : Int) < (dn : Int) := by omega
  have HE := zh (show zy t q = 8 by unfold zy; rw [hq, ag h1]);generalize zy t q = R at *;clear hq;obtain ⟨W, hW⟩ : ∃ W, w.alloc (.cells #[.int .i64 tk, .int .i64 kind, .int .u64 key, .int .u32 ck, .slice da dn dc] 85) = W := ⟨_, rfl⟩
  have HQ := zh (show dQ W w.heap.size #[.int .i64 tk, .int .i64 kind, .int .u64 key, .int .u32 ck, .slice da dn dc] 85 from hW ▸ dQ.new w #[.int .i64 tk, .int .i64 kind, .int .u64 key, .int .u32 ck, .slice da dn dc] 85);have hb0 := (aj w.heap.size w).alloc (ai _) (.cells #[.int .i64 tk, .int .i64 kind, .int .u64 key, .int .u32 ck, .slice da dn dc] 85);rw [hW] at hb0;have HB := zh hb0;clear hb0
  go_enter Tryz.func144, Tryz.ntmps144
  go_upto_region 1 with fail;clear hW;have c4 := HQ.out.cell (i := 4) rfl;go_wp2_with fail;go_ret;exact ⟨by rw [HE.out]; rfl, HB.out⟩
 have e1 : ¬ (4096 : Int) < (dn : Int) := by omega
 have HE := zh (show zy t q = if wW t (dn : Int) = true then 0 else 9 by unfold zy; rw [hq, ah h1]);generalize zy t q = R at *;clear hq;obtain ⟨W, hW⟩ : ∃ W, w.alloc (.cells #[.int .i64 tk, .int .i64 kind, .int .u64 key, .int .u32 ck, .slice da dn dc] 85) = W := ⟨_, rfl⟩
 have HQ := zh (show dQ W w.heap.size #[.int .i64 tk, .int .i64 kind, .int .u64 key, .int .u32 ck, .slice da dn dc] 85 from hW ▸ dQ.new w #[.int .i64 tk, .int .i64 kind, .int .u64 key, .int .u32 ck, .slice da dn dc] 85);have hb0 := (aj w.heap.size w).alloc (ai _) (.cells #[.int .i64 tk, .int .i64 kind, .int .u64 key, .int .u32 ck, .slice da dn dc] 85);rw [hW] at hb0;have HB := zh hb0;have HP := zh (hb.below hb0);clear hb0 hb
 go_enter Tryz.func144, Tryz.ntmps144
 go_upto_region 1 with fail;clear hW;have c4 := HQ.out.cell (i := 4) rfl;go_upto_region 3 with fail;have Ah := zh (HQ.out.below (zz (aj _ W)));have Gb := zh (HP.out.below (zz (aj _ W)));have Y0 := zh (zz HB.out);have c4' := Ah.out.cell (i := 4) rfl;have p0 := Gb.out.cell (i := 0) rfl;have p1 := Gb.out.cell (i := 1) rfl;have p2 := Gb.out.cell (i := 2) rfl;have p3 := Gb.out.cell (i := 3) rfl;clear c4;refine wp_region_still_tail 7 (by kernel_rfl) (by kernel_rfl) ?_;simp only [List.take_succ_cons, List.take_zero, List.drop_succ_cons, List.drop_zero];change wpStill Tryz.prog _ (World.drew _) _ _ _
 repeat still_step
 refine wpStill_nil ?_;change wpList _ _ _ _ _ (World.drew _);generalize World.drew W = W1 at *;go_wp2_with fail;refine (EZ.out W1 Y0.out).mono ?_;rintro e w1 ⟨rfl, hb⟩;have ea := zh (zA Y0.out hb);clear hb p0 p1 p2 p3 c4' EZ Ah Gb
 cases hf : wW t (dn : Int)
 ·
  rw [hf] at HE;clear hf;go_wp2_with fail;go_ret;exact ⟨by rw [HE.out]; rfl, ea.out⟩
 rw [hf] at HE;clear hf;go_wp2_with fail;go_ret;exact ⟨by rw [HE.out]; rfl, ea.out⟩
def zL5 (t : TypeId) (B : Nat) : lQ := ⟨fun v w => ∃ b, v = .pointer (some ⟨b, 0, none⟩) ∧ B ≤ b ∧ dQ w b #[.int .i64 0, .int .i64 0, .int .i64 0, .int .u64 0, .int .u32 0, .int .i64 0, .int .i64 0] t, fun _ _ _ hb ⟨b, h1, h2, h3⟩ => ⟨b, h1, h2, h3.below hb⟩⟩
theorem zE2 (b : Nat) (t : eE) (ga : Option Addr) (gn gc : Nat) (L : List GP) (ep : Bool) (kv nv rv : Value) (l9 : Int) (tk kind key ck : Int) (da : Option Addr) (dn dc : Nat) (w : World) (hb : oI w b t.id t.lim t.ro ga gn gc ep kv nv rv l9) (hg : fl w (.slice ga gn gc) L) (nN : dV L = t.dP) (hl : eV 1000 t.dP) (q : Rq) (hk : (q.key : Int) = key) (hc : (q.ck : Int) = ck) :
  Calls Tryz.prog 149 #[.pointer (some ⟨b, 0, none⟩), CN tk kind key ck (.slice da dn dc)] w fun e w' => e = .returned (.int .i64 (xI t q)) ∧ Below w.heap.size w w' := by
 have Aq := zh (fun W (hb : Below w.heap.size w W) => YZ t ga gn gc L W (hg.below hb) nN hl key);have HE := zh (show xI t q = if (yM t key).isEmpty = false ∧ ((yM t key).headD us).it.ck = ck then 0 else 6 by unfold xI; rw [hk, hc]);generalize xI t q = R at *;generalize (yM t key).headD us = Y at *;obtain ⟨fo, hfo⟩ : ∃ fo, (!(yM t key).isEmpty) = fo := ⟨_, rfl⟩
 rw [hfo] at Aq;have sr := zh (show R = if fo = true ∧ Y.it.ck = ck then 0 else 6 by rw [HE.out, ← hfo]; simp);clear hfo HE hk hc;obtain ⟨yg, ym, yr, ⟨yk, yc, yo, yz⟩, ya⟩ := Y;dsimp only [JT, Oq] at Aq sr;obtain ⟨W, hW⟩ : ∃ W, w.alloc (.cells #[.int .i64 tk, .int .i64 kind, .int .u64 key, .int .u32 ck, .slice da dn dc] 85) = W := ⟨_, rfl⟩
 have HQ := zh (show dQ W w.heap.size #[.int .i64 tk, .int .i64 kind, .int .u64 key, .int .u32 ck, .slice da dn dc] 85 from hW ▸ dQ.new w #[.int .i64 tk, .int .i64 kind, .int .u64 key, .int .u32 ck, .slice da dn dc] 85);have hb0 := (aj w.heap.size w).alloc (ai _) (.cells #[.int .i64 tk, .int .i64 kind, .int .u64 key, .int .u32 ck, .slice da dn dc] 85);rw [hW] at hb0;have HB := zh hb0;have HP := zh (hb.below hb0);clear hb0 hb hg nN hl
 go_enter Tryz.func149, Tryz.ntmps149
 go_upto_region 1 with fail;clear hW
 go_cut [5, 6] (fun vb ve wx => ∃ b, vb = .pointer (some ⟨b, 0, none⟩) ∧ ve = .bool fo ∧ Hid (dQ wx b ([(0, .int .i64 yg), (1, .int .i64 ym), (2, .int .i64 yr), (3, .int .u64 yk), (4, .int .u32 yc), (5, .int .i64 yo), (6, .int .i64 yz)].foldl (fun cs p => cs.setIfInBounds p.1 p.2) #[.int .i64 0, .int .i64 0, .int .i64 0, .int .u64 0, .int .u32 0, .int .i64 0, .int .i64 0]) 51) ∧ Hid (Below W.heap.size W wx))
 case first =>
  refine xJ [eP (.pointer (some ⟨b, 0, none⟩)), eP (.pointer (some ⟨b, 0, none⟩)), eP (.pointer (some ⟨b, 0, none⟩)), eP (zZ t.id t.lim t.ro ga gn gc), eP (.pointer (some ⟨w.heap.size, 2, none⟩)), eP (.int .u64 key), eP (.tuple #[.agg #[.int .i64 yg, .int .i64 ym, .int .i64 yr, .int .u64 yk, .int .u32 yc, .int .i64 yo, .int .i64 yz], .bool fo]), eP (.tuple #[.agg #[.int .i64 yg, .int .i64 ym, .int .i64 yr, .int .u64 yk, .int .u32 yc, .int .i64 yo, .int .i64 yz], .bool fo]), eP (.agg #[.int .i64 yg, .int .i64 ym, .int .i64 yr, .int .u64 yk, .int .u32 yc, .int .i64 yo, .int .i64 yz]), eP (.bool fo), zL5 51 W.heap.size] [10] 27 9 (by kernel_rfl) (by kernel_rfl) rfl rfl (by decide) (by rfl) (by kernel_rfl) (fun f => by simp [fq, zX, Act.put]; exact rfl) ?_ ?_ ?_
  ·
   refine ⟨?_, ?_, ?_, ?_, ?_, ?_, ?_, ?_, ?_, ?_, ?_, trivial⟩
   ·
    intro f w1 hb hd;clear hd;dsimp only;go_wp2_with fail;exact pS rfl (by simp)
   ·
    intro f w1 hb hd;have d0 : f 0 = (.pointer (some ⟨b, 0, none⟩)) := hd 0 (by kernel_rfl);clear hd;dsimp only;rw [d0];go_wp2_with fail;exact pS rfl (by simp)
   ·
    intro f w1 hb hd;have d1 : f 1 = (.pointer (some ⟨b, 0, none⟩)) := hd 1 (by kernel_rfl);clear hd;dsimp only;rw [d1];go_wp2_with fail;exact pS rfl (by simp)
   ·
    intro f w1 hb hd;have d2 : f 2 = (.pointer (some ⟨b, 0, none⟩)) := hd 2 (by kernel_rfl);clear hd;dsimp only;rw [d2];have hx := HP.out.below hb;have q0 := hx.cell (i := 0) rfl;have q1 := hx.cell (i := 1) rfl;have q2 := hx.cell (i := 2) rfl;have q3 := hx.cell (i := 3) rfl;clear hx;go_wp2_with fail;exact pS rfl (by simp)
   ·
    intro f w1 hb hd;clear hd;dsimp only;go_wp2_with fail;exact pS rfl (by simp)
   ·
    intro f w1 hb hd;have d4 : f 4 = (.pointer (some ⟨w.heap.size, 2, none⟩)) := hd 4 (by kernel_rfl);clear hd;dsimp only;rw [d4];have q2 := (HQ.out.below hb).cell (i := 2) rfl;go_wp2_with fail;exact pS rfl (by simp)
   ·
    intro f w1 hb hd;have d3 : f 3 = (zZ t.id t.lim t.ro ga gn gc) := hd 3 (by kernel_rfl);have d5 : f 5 = (.int .u64 key) := hd 5 (by kernel_rfl);clear hd;dsimp only;rw [d3];rw [d5];go_wp2_with fail;refine (Aq.out w1 (zA HB.out hb)).mono ?_;rintro e w9 ⟨rfl, fP⟩;go_wp2_with fail;exact pT rfl (by simp) fP
   ·
    intro f w1 hb hd;have d6 : f 6 = (.tuple #[.agg #[.int .i64 yg, .int .i64 ym, .int .i64 yr, .int .u64 yk, .int .u32 yc, .int .i64 yo, .int .i64 yz], .bool fo]) := hd 6 (by kernel_rfl);clear hd;dsimp only;rw [d6];go_wp2_with fail;exact pS rfl (by simp)
   ·
    intro f w1 hb hd;have d7 : f 7 = (.tuple #[.agg #[.int .i64 yg, .int .i64 ym, .int .i64 yr, .int .u64 yk, .int .u32 yc, .int .i64 yo, .int .i64 yz], .bool fo]) := hd 7 (by kernel_rfl);clear hd;dsimp only;rw [d7];go_wp2_with fail;exact pS rfl (by simp)
   ·
    intro f w1 hb hd;have d7 : f 7 = (.tuple #[.agg #[.int .i64 yg, .int .i64 ym, .int .i64 yr, .int .u64 yk, .int .u32 yc, .int .i64 yo, .int .i64 yz], .bool fo]) := hd 7 (by kernel_rfl);clear hd;dsimp only;rw [d7];go_wp2_with fail;exact pS rfl (by simp)
   intro f w1 hb hd;clear hd;dsimp only;have o5 := hb.size;have Ek := dQ.new w1 #[.int .i64 0, .int .i64 0, .int .i64 0, .int .u64 0, .int .u32 0, .int .i64 0, .int .i64 0] 51;go_wp2_with fail;exact ⟨rfl, (aj _ _).alloc (ai _) _, fun t ht => by injection ht with ht; subst ht; exact ⟨⟨_, rfl, o5, Ek⟩, fun _ => ⟨ai _, by simp [blk]⟩⟩⟩
  ·
   intro f w5 hb hd jc;clear jc;have d8 : f 8 = (.agg #[.int .i64 yg, .int .i64 ym, .int .i64 yr, .int .u64 yk, .int .u32 yc, .int .i64 yo, .int .i64 yz]) := hd 8 (show 8 < 11 by decide);have d9 : f 9 = (.bool fo) := hd 9 (show 9 < 11 by decide);obtain ⟨Me, d10, IB, iJ⟩ := show ∃ b, f 10 = .pointer (some ⟨b, 0, none⟩) ∧ W.heap.size ≤ b ∧ dQ w5 b #[.int .i64 0, .int .i64 0, .int .i64 0, .int .u64 0, .int .u32 0, .int .i64 0, .int .i64 0] 51 from hd 10 (show 10 < 11 by decide)
   try dsimp only
   rw [d8, d9, d10];clear hd d8 d9 d10;have gI := zh (zD (B := W.heap.size) (b := Me) IB [(0, .int .i64 yg), (1, .int .i64 ym), (2, .int .i64 yr), (3, .int .u64 yk), (4, .int .u32 yc), (5, .int .i64 yo), (6, .int .i64 yz)] hb);have HX := zh (dQ.sets [(0, .int .i64 yg), (1, .int .i64 ym), (2, .int .i64 yr), (3, .int .u64 yk), (4, .int .u32 yc), (5, .int .i64 yo), (6, .int .i64 yz)] iJ);have H0 := zh iJ;have x0 := iJ.cell (i := 0) rfl;have x1 := iJ.cell (i := 1) rfl;have x2 := iJ.cell (i := 2) rfl;have x3 := iJ.cell (i := 3) rfl;have x4 := iJ.cell (i := 4) rfl;have x5 := iJ.cell (i := 5) rfl;have x6 := iJ.cell (i := 6) rfl;have xf := iJ.frozen;clear iJ hb;generalize f 0 = Ai, f 1 = sX, f 2 = sY, f 3 = sZ, f 4 = s6, f 5 = s_, f 6 = Aj, f 7 = CO;clear f;change wpList _ _ _ (_ :: _ :: []) _ _;go_wp2_with fail;go_meet
   case rel => exact ⟨Me, rfl, rfl, HX, gI⟩
  intro f w5 hb hd jc;clear jc;have d7 : f 7 = (.tuple #[.agg #[.int .i64 yg, .int .i64 ym, .int .i64 yr, .int .u64 yk, .int .u32 yc, .int .i64 yo, .int .i64 yz], .bool fo]) := hd 7 (show 7 < 11 by decide) (show 7 ≠ 9 by decide);have d8 : f 8 = (.agg #[.int .i64 yg, .int .i64 ym, .int .i64 yr, .int .u64 yk, .int .u32 yc, .int .i64 yo, .int .i64 yz]) := hd 8 (show 8 < 11 by decide) (show 8 ≠ 9 by decide);obtain ⟨Me, d10, IB, iJ⟩ := show ∃ b, f 10 = .pointer (some ⟨b, 0, none⟩) ∧ W.heap.size ≤ b ∧ dQ w5 b #[.int .i64 0, .int .i64 0, .int .i64 0, .int .u64 0, .int .u32 0, .int .i64 0, .int .i64 0] 51 from hd 10 (show 10 < 11 by decide) (show 10 ≠ 9 by decide)
  try dsimp only
  rw [d7, d8, d10];clear hd d7 d8 d10;have gI := zh (zD (B := W.heap.size) (b := Me) IB [(0, .int .i64 yg), (1, .int .i64 ym), (2, .int .i64 yr), (3, .int .u64 yk), (4, .int .u32 yc), (5, .int .i64 yo), (6, .int .i64 yz)] hb);have HX := zh (dQ.sets [(0, .int .i64 yg), (1, .int .i64 ym), (2, .int .i64 yr), (3, .int .u64 yk), (4, .int .u32 yc), (5, .int .i64 yo), (6, .int .i64 yz)] iJ);have H0 := zh iJ;have x0 := iJ.cell (i := 0) rfl;have x1 := iJ.cell (i := 1) rfl;have x2 := iJ.cell (i := 2) rfl;have x3 := iJ.cell (i := 3) rfl;have x4 := iJ.cell (i := 4) rfl;have x5 := iJ.cell (i := 5) rfl;have x6 := iJ.cell (i := 6) rfl;have xf := iJ.frozen;clear iJ hb;generalize f 0 = Ai, f 1 = sX, f 2 = sY, f 3 = sZ, f 4 = s6, f 5 = s_, f 6 = Aj, f 9 = El;clear f;change wpList _ _ _ (_ :: _ :: _ :: []) _ _;go_wp2_with fail;go_meet
  case rel => exact ⟨Me, rfl, rfl, HX, gI⟩
 obtain ⟨bx, rfl, rfl, HX, gI⟩ := fZ;generalize wc = W2 at *;have x4 := HX.out.cell (i := 4) (u := .int .u32 yc) (by simp);have c3 := (HQ.out.below gI.out).cell (i := 3) rfl;have ea := zh (zA HB.out gI.out);clear HX gI HQ HP HB Aq
 cases fo with
 | false =>
  have HR := zh (show R = 6 by rw [sr.out]; exact ah fun h => by cases h.1);go_wp2_with fail;go_ret;exact ⟨by rw [HR.out]; rfl, ea.out⟩
 | true =>
  by_cases Cg : yc = ck
  ·
   have HR := zh (show R = 0 by rw [sr.out]; exact ag ⟨rfl, Cg⟩);subst Cg;go_wp2_with fail;go_ret;exact ⟨by rw [HR.out]; rfl, ea.out⟩
  have HR := zh (show R = 6 by rw [sr.out]; exact ah fun h => Cg h.2);have e1 : (yc != ck) = true := by simpa using Cg
  clear Cg;go_wp2_with fail;go_ret;exact ⟨by rw [HR.out]; rfl, ea.out⟩
theorem Y1 (b : Nat) (t : eE) (ga : Option Addr) (gn gc : Nat) (L : List GP) (ep : Bool) (kv nv rv : Value) (l9 : Int) (key : Int) (w : World) (hb : oI w b t.id t.lim t.ro ga gn gc ep kv nv rv l9) (hg : fl w (.slice ga gn gc) L) (nN : dV L = t.dP) (hl : eV 1000 t.dP) :
  Calls Tryz.prog 151 #[.pointer (some ⟨b, 0, none⟩), .int .u64 key] w fun e w' => e = .returned (.bool (vI t key)) ∧ Below w.heap.size w w' := by
 have Aq := zh (YZ t ga gn gc L w hg nN hl key);have HE := zh (show vI t key = (!(yM t key).isEmpty && decide (((yM t key).headD us).mode = 1)) from rfl);generalize vI t key = R at *;generalize (yM t key).headD us = Y at *;generalize (!(yM t key).isEmpty) = fo at *;obtain ⟨yg, ym, yr, ⟨yk, yc, yo, yz⟩, ya⟩ := Y;dsimp only [JT, Oq] at Aq HE;have p0 := hb.cell (i := 0) rfl;have p1 := hb.cell (i := 1) rfl;have p2 := hb.cell (i := 2) rfl;have p3 := hb.cell (i := 3) rfl;clear hb hg nN hl
 go_enter Tryz.func151, Tryz.ntmps151
 go_wp2_with fail;refine Aq.out.mono ?_;rintro e w1 ⟨rfl, hb⟩;have HB := zh hb;clear hb Aq p0 p1 p2 p3;go_upto_region 2 with fail;change Code.wp _ _ _ _ (w1.alloc (.cells #[.int .i64 yg, .int .i64 ym, .int .i64 yr, .int .u64 yk, .int .u32 yc, .int .i64 yo, .int .i64 yz] 51));have HX := zh (dQ.new w1 #[.int .i64 yg, .int .i64 ym, .int .i64 yr, .int .u64 yk, .int .u32 yc, .int .i64 yo, .int .i64 yz] 51);replace HB := zh (zA HB.out ((aj w1.heap.size w1).alloc (ai _) (.cells #[.int .i64 yg, .int .i64 ym, .int .i64 yr, .int .u64 yk, .int .u32 yc, .int .i64 yo, .int .i64 yz] 51)));generalize w1.alloc (.cells #[.int .i64 yg, .int .i64 ym, .int .i64 yr, .int .u64 yk, .int .u32 yc, .int .i64 yo, .int .i64 yz] 51) = w2 at *;generalize w1.heap.size = bx at *;have x1 := HX.out.cell (i := 1) rfl
 cases fo with
 | false =>
  have HR := zh (show R = false by rw [HE.out]; rfl);go_wp2_with fail;go_ret;exact ⟨by rw [HR.out]; rfl, HB.out⟩
 | true =>
  by_cases hm : ym = 1
  ·
   have HR := zh (show R = true by rw [HE.out, hm]; rfl);subst hm;go_wp2_with fail;go_ret;exact ⟨by rw [HR.out]; rfl, HB.out⟩
  have HR := zh (show R = false by rw [HE.out]; simpa using hm);have e1 : (ym == 1) = false := by simpa using hm
  clear hm;go_wp2_with fail;go_ret;exact ⟨by rw [HR.out]; rfl, HB.out⟩
end Go.Proofs.YtcgfilmmokmdjaaGreat
