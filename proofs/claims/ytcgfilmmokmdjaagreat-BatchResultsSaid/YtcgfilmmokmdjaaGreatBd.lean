/- A part of the walk. -/
import Derived.Test.YtcgfilmmokmdjaaGreatQAR
import Derived.Test.YtcgfilmmokmdjaaGreatQAM
set_option linter.all false
set_option maxRecDepth 100000
set_option maxHeartbeats 32000000
namespace Go.Proofs.YtcgfilmmokmdjaaGreat
open Go.RowKit
theorem YE (s : eL) (a : Option Addr) (n c : Nat) (L : List GP) (W : World) (hr : fq W (.slice a n c) L) (hg : dZ L = s.dU) (hl : eV 1000 s.dU) (key : Int) :
  Calls Tryz.prog 16 #[zZ s.id s.lim s.ro a n c, .int .u64 key] W fun e w' => e = .returned (.tuple #[JA ((yM s key).headD us), .bool (!(yM s key).isEmpty)]) ∧ Below W.heap.size W w' := by
 have h := zGt s.id s.lim s.ro a n c L W hr (wm (hg ▸ hl) (by decide)) key;obtain ⟨i, l, r, g⟩ := s;dsimp only at hg h ⊢;subst hg;exact h
theorem zLn (s : eL) (a : Option Addr) (n c : Nat) (L : List GP) (W : World) (hr : fq W (.slice a n c) L) (hg : dZ L = s.dU) (hl : eV 1000 s.dU) (m : Int) :
  Calls Tryz.prog 36 #[zZ s.id s.lim s.ro a n c, .int .i64 m] W fun e w' => e = .returned (.bool (wW s m)) ∧ Below W.heap.size W w' := by
 have h := zHE s.id s.lim s.ro a n c L W hr (wm (hg ▸ hl) (by decide)) m;obtain ⟨i, l, r, g⟩ := s;dsimp only at hg h ⊢;subst hg;exact h
theorem zHt (tk kind key ck : Int) (da : Option Addr) (dn dc : Nat) (w : World) (hd : dn ≤ 1000000) : Calls Tryz.prog 108 #[CG tk kind key ck (.slice da dn dc)] w fun e w' => e = .returned (.int .i64 (if kind = 2 then 24 else (eM dn : Int))) ∧ Below w.heap.size w w' := by
 by_cases hk : kind = 2
 ·
  have e1 : (kind == 2) = true := by simpa using hk
  have HE := zh (show (if kind = 2 then (24 : Int) else (eM dn : Int)) = 24 from ag hk);have H0 := zh (fun W => t8 0 W (by decide));generalize (if kind = 2 then (24 : Int) else (eM dn : Int)) = R at *;clear hk;obtain ⟨W, hW⟩ : ∃ W, w.alloc (.cells #[.int .i64 tk, .int .i64 kind, .int .u64 key, .int .u32 ck, .slice da dn dc] 85) = W := ⟨_, rfl⟩
  have HQ := zh (show dV W w.heap.size #[.int .i64 tk, .int .i64 kind, .int .u64 key, .int .u32 ck, .slice da dn dc] 85 from hW ▸ dV.new w #[.int .i64 tk, .int .i64 kind, .int .u64 key, .int .u32 ck, .slice da dn dc] 85);have hb0 := (aj w.heap.size w).alloc (ai _) (.cells #[.int .i64 tk, .int .i64 kind, .int .u64 key, .int .u32 ck, .slice da dn dc] 85);rw [hW] at hb0;have HB := zh hb0;clear hb0
  go_enter Tryz.func108, Tryz.ntmps108
  go_upto_region 1 with fail;clear hW;have c1 := HQ.out.cell (i := 1) rfl;have c4 := HQ.out.cell (i := 4) rfl;go_wp2_with fail;refine (H0.out _).mono ?_;rintro e w1 ⟨rfl, rfl⟩;rw [show ((eM 0 : Nat) : Int) = 24 by decide];go_wp2_with fail;go_ret;exact ⟨by rw [HE.out]; rfl, HB.out⟩
 have e1 : (kind == 2) = false := by simpa using hk
 have HE := zh (show (if kind = 2 then (24 : Int) else (eM dn : Int)) = (eM dn : Int) from ah hk);have H0 := zh (fun W => t8 dn W hd);generalize (if kind = 2 then (24 : Int) else (eM dn : Int)) = R at *;clear hk;obtain ⟨W, hW⟩ : ∃ W, w.alloc (.cells #[.int .i64 tk, .int .i64 kind, .int .u64 key, .int .u32 ck, .slice da dn dc] 85) = W := ⟨_, rfl⟩
 have HQ := zh (show dV W w.heap.size #[.int .i64 tk, .int .i64 kind, .int .u64 key, .int .u32 ck, .slice da dn dc] 85 from hW ▸ dV.new w #[.int .i64 tk, .int .i64 kind, .int .u64 key, .int .u32 ck, .slice da dn dc] 85);have hb0 := (aj w.heap.size w).alloc (ai _) (.cells #[.int .i64 tk, .int .i64 kind, .int .u64 key, .int .u32 ck, .slice da dn dc] 85);rw [hW] at hb0;have HB := zh hb0;clear hb0
 go_enter Tryz.func108, Tryz.ntmps108
 go_upto_region 1 with fail;clear hW;have c1 := HQ.out.cell (i := 1) rfl;have c4 := HQ.out.cell (i := 4) rfl;go_wp2_with fail;refine (H0.out _).mono ?_;rintro e w1 ⟨rfl, rfl⟩;go_wp2_with fail;go_ret;exact ⟨by rw [HE.out]; rfl, HB.out⟩
theorem zFo (b : Nat) (t : eL) (ga : Option Addr) (gn gc : Nat) (L : List GP) (ey : Bool) (kv nv rv : Value) (mf : Int) (tk kind key ck : Int) (da : Option Addr) (dn dc : Nat) (w : World) (hb : oL w b t.id t.lim t.ro ga gn gc ey kv nv rv mf) (hg : fq w (.slice ga gn gc) L) (nP : dZ L = t.dU) (hl : eV 1000 t.dU) (hd : dn ≤ 1000000) (q : Rq) (hq : q.data.length = dn) :
  Calls Tryz.prog 144 #[.pointer (some ⟨b, 0, none⟩), CG tk kind key ck (.slice da dn dc)] w fun e w' => e = .returned (.int .i64 (zy t q)) ∧ Below w.heap.size w w' := by
 have ER := zh (fun W (hb : Below w.heap.size w W) => zLn t ga gn gc L W (hg.below hb) nP hl (dn : Int))
 by_cases h1 : 4096 < dn
 ·
  have e1 : (4096 : Int) < (dn : Int) := by omega
  have HE := zh (show zy t q = 8 by unfold zy; rw [hq, ag h1]);generalize zy t q = R at *;clear hq;obtain ⟨W, hW⟩ : ∃ W, w.alloc (.cells #[.int .i64 tk, .int .i64 kind, .int .u64 key, .int .u32 ck, .slice da dn dc] 85) = W := ⟨_, rfl⟩
  have HQ := zh (show dV W w.heap.size #[.int .i64 tk, .int .i64 kind, .int .u64 key, .int .u32 ck, .slice da dn dc] 85 from hW ▸ dV.new w #[.int .i64 tk, .int .i64 kind, .int .u64 key, .int .u32 ck, .slice da dn dc] 85);have hb0 := (aj w.heap.size w).alloc (ai _) (.cells #[.int .i64 tk, .int .i64 kind, .int .u64 key, .int .u32 ck, .slice da dn dc] 85);rw [hW] at hb0;have HB := zh hb0;clear hb0
  go_enter Tryz.func144, Tryz.ntmps144
  go_upto_region 1 with fail;clear hW;have c4 := HQ.out.cell (i := 4) rfl;go_wp2_with fail;go_ret;exact ⟨by rw [HE.out]; rfl, HB.out⟩
 have e1 : ¬ (4096 : Int) < (dn : Int) := by omega
 have HE := zh (show zy t q = if wW t (dn : Int) = true then 0 else 9 by unfold zy; rw [hq, ah h1]);generalize zy t q = R at *;clear hq;obtain ⟨W, hW⟩ : ∃ W, w.alloc (.cells #[.int .i64 tk, .int .i64 kind, .int .u64 key, .int .u32 ck, .slice da dn dc] 85) = W := ⟨_, rfl⟩
 have HQ := zh (show dV W w.heap.size #[.int .i64 tk, .int .i64 kind, .int .u64 key, .int .u32 ck, .slice da dn dc] 85 from hW ▸ dV.new w #[.int .i64 tk, .int .i64 kind, .int .u64 key, .int .u32 ck, .slice da dn dc] 85);have hb0 := (aj w.heap.size w).alloc (ai _) (.cells #[.int .i64 tk, .int .i64 kind, .int .u64 key, .int .u32 ck, .slice da dn dc] 85);rw [hW] at hb0;have HB := zh hb0;have HP := zh (hb.below hb0);clear hb0 hb
 go_enter Tryz.func144, Tryz.ntmps144
 go_upto_region 1 with fail;clear hW;have c4 := HQ.out.cell (i := 4) rfl;go_upto_region 3 with fail;have Af := zh (HQ.out.below (zz (aj _ W)));have F5 := zh (HP.out.below (zz (aj _ W)));have YF := zh (zz HB.out);have c4' := Af.out.cell (i := 4) rfl;have p0 := F5.out.cell (i := 0) rfl;have p1 := F5.out.cell (i := 1) rfl;have p2 := F5.out.cell (i := 2) rfl;have p3 := F5.out.cell (i := 3) rfl;clear c4;refine wp_region_still_tail 7 (by kernel_rfl) (by kernel_rfl) ?_;simp only [List.take_succ_cons, List.take_zero, List.drop_succ_cons, List.drop_zero];change wpStill Tryz.prog _ (World.drew _) _ _ _
 repeat still_step
 refine wpStill_nil ?_;change wpList _ _ _ _ _ (World.drew _);generalize World.drew W = W1 at *;go_wp2_with fail;refine (ER.out W1 YF.out).mono ?_;rintro e w1 ⟨rfl, hb⟩;have ek := zh (zA YF.out hb);clear hb p0 p1 p2 p3 c4' ER Af F5
 cases hf : wW t (dn : Int)
 ·
  rw [hf] at HE;clear hf;go_wp2_with fail;go_ret;exact ⟨by rw [HE.out]; rfl, ek.out⟩
 rw [hf] at HE;clear hf;go_wp2_with fail;go_ret;exact ⟨by rw [HE.out]; rfl, ek.out⟩
def zL5 (t : TypeId) (B : Nat) : lT := ⟨fun v w => ∃ b, v = .pointer (some ⟨b, 0, none⟩) ∧ B ≤ b ∧ dV w b #[.int .i64 0, .int .i64 0, .int .i64 0, .int .u64 0, .int .u32 0, .int .i64 0, .int .i64 0] t, fun _ _ _ hb ⟨b, h1, h2, h3⟩ => ⟨b, h1, h2, h3.below hb⟩⟩
theorem zE2 (b : Nat) (t : eL) (ga : Option Addr) (gn gc : Nat) (L : List GP) (ey : Bool) (kv nv rv : Value) (mf : Int) (tk kind key ck : Int) (da : Option Addr) (dn dc : Nat) (w : World) (hb : oL w b t.id t.lim t.ro ga gn gc ey kv nv rv mf) (hg : fq w (.slice ga gn gc) L) (nP : dZ L = t.dU) (hl : eV 1000 t.dU) (q : Rq) (hk : (q.key : Int) = key) (hc : (q.ck : Int) = ck) :
  Calls Tryz.prog 149 #[.pointer (some ⟨b, 0, none⟩), CG tk kind key ck (.slice da dn dc)] w fun e w' => e = .returned (.int .i64 (xI t q)) ∧ Below w.heap.size w w' := by
 have Am := zh (fun W (hb : Below w.heap.size w W) => YE t ga gn gc L W (hg.below hb) nP hl key);have HE := zh (show xI t q = if (yM t key).isEmpty = false ∧ ((yM t key).headD us).it.ck = ck then 0 else 6 by unfold xI; rw [hk, hc]);generalize xI t q = R at *;generalize (yM t key).headD us = Y at *;obtain ⟨fo, hfo⟩ : ∃ fo, (!(yM t key).isEmpty) = fo := ⟨_, rfl⟩
 rw [hfo] at Am;have r_ := zh (show R = if fo = true ∧ Y.it.ck = ck then 0 else 6 by rw [HE.out, ← hfo]; simp);clear hfo HE hk hc;obtain ⟨yg, ym, yr, ⟨yk, yc, yo, yz⟩, ya⟩ := Y;dsimp only [JA, N3] at Am r_;obtain ⟨W, hW⟩ : ∃ W, w.alloc (.cells #[.int .i64 tk, .int .i64 kind, .int .u64 key, .int .u32 ck, .slice da dn dc] 85) = W := ⟨_, rfl⟩
 have HQ := zh (show dV W w.heap.size #[.int .i64 tk, .int .i64 kind, .int .u64 key, .int .u32 ck, .slice da dn dc] 85 from hW ▸ dV.new w #[.int .i64 tk, .int .i64 kind, .int .u64 key, .int .u32 ck, .slice da dn dc] 85);have hb0 := (aj w.heap.size w).alloc (ai _) (.cells #[.int .i64 tk, .int .i64 kind, .int .u64 key, .int .u32 ck, .slice da dn dc] 85);rw [hW] at hb0;have HB := zh hb0;have HP := zh (hb.below hb0);clear hb0 hb hg nP hl
 go_enter Tryz.func149, Tryz.ntmps149
 go_upto_region 1 with fail;clear hW
 go_cut [5, 6] (fun vb ve wx => ∃ b, vb = .pointer (some ⟨b, 0, none⟩) ∧ ve = .bool fo ∧ Hid (dV wx b ([(0, .int .i64 yg), (1, .int .i64 ym), (2, .int .i64 yr), (3, .int .u64 yk), (4, .int .u32 yc), (5, .int .i64 yo), (6, .int .i64 yz)].foldl (fun cs p => cs.setIfInBounds p.1 p.2) #[.int .i64 0, .int .i64 0, .int .i64 0, .int .u64 0, .int .u32 0, .int .i64 0, .int .i64 0]) 51) ∧ Hid (Below W.heap.size W wx))
 case first =>
  refine xJ [eR (.pointer (some ⟨b, 0, none⟩)), eR (.pointer (some ⟨b, 0, none⟩)), eR (.pointer (some ⟨b, 0, none⟩)), eR (zZ t.id t.lim t.ro ga gn gc), eR (.pointer (some ⟨w.heap.size, 2, none⟩)), eR (.int .u64 key), eR (.tuple #[.agg #[.int .i64 yg, .int .i64 ym, .int .i64 yr, .int .u64 yk, .int .u32 yc, .int .i64 yo, .int .i64 yz], .bool fo]), eR (.tuple #[.agg #[.int .i64 yg, .int .i64 ym, .int .i64 yr, .int .u64 yk, .int .u32 yc, .int .i64 yo, .int .i64 yz], .bool fo]), eR (.agg #[.int .i64 yg, .int .i64 ym, .int .i64 yr, .int .u64 yk, .int .u32 yc, .int .i64 yo, .int .i64 yz]), eR (.bool fo), zL5 51 W.heap.size] [10] 27 9 (by kernel_rfl) (by kernel_rfl) rfl rfl (by decide) (by rfl) (by kernel_rfl) (fun f => by simp [fA, zX, Act.put]; exact rfl) ?_ ?_ ?_
  ·
   refine ⟨?_, ?_, ?_, ?_, ?_, ?_, ?_, ?_, ?_, ?_, ?_, trivial⟩
   ·
    intro f w1 hb hd;clear hd;dsimp only;go_wp2_with fail;exact pS rfl (by simp)
   ·
    intro f w1 hb hd;have d0 : f 0 = (.pointer (some ⟨b, 0, none⟩)) := hd 0 (by kernel_rfl);clear hd;dsimp only;rw [d0];go_wp2_with fail;exact pS rfl (by simp)
   ·
    intro f w1 hb hd;have d1 : f 1 = (.pointer (some ⟨b, 0, none⟩)) := hd 1 (by kernel_rfl);clear hd;dsimp only;rw [d1];go_wp2_with fail;exact pS rfl (by simp)
   ·
    intro f w1 hb hd;have d2 : f 2 = (.pointer (some ⟨b, 0, none⟩)) := hd 2 (by kernel_rfl);clear hd;dsimp only;rw [d2];have hx := HP.out.below hb;have q0 := hx.cell (i := 0) rfl;have q1 := hx.cell (i := 1) rfl;have q2 := hx.cell (i := 2) rfl;have q3 := hx.cell (i := 3) rfl;clear hx;go_wp2_with fail;exact pS rfl (by simp)
   ·
    intro f w1 hb hd;clear hd;dsimp only;go_wp2_with fail;exact pS rfl (by simp)
   ·
    intro f w1 hb hd;have d4 : f 4 = (.pointer (some ⟨w.heap.size, 2, none⟩)) := hd 4 (by kernel_rfl);clear hd;dsimp only;rw [d4];have q2 := (HQ.out.below hb).cell (i := 2) rfl;go_wp2_with fail;exact pS rfl (by simp)
   ·
    intro f w1 hb hd;have d3 : f 3 = (zZ t.id t.lim t.ro ga gn gc) := hd 3 (by kernel_rfl);have d5 : f 5 = (.int .u64 key) := hd 5 (by kernel_rfl);clear hd;dsimp only;rw [d3];rw [d5];go_wp2_with fail;refine (Am.out w1 (zA HB.out hb)).mono ?_;rintro e w9 ⟨rfl, fT⟩;go_wp2_with fail;exact pT rfl (by simp) fT
   ·
    intro f w1 hb hd;have d6 : f 6 = (.tuple #[.agg #[.int .i64 yg, .int .i64 ym, .int .i64 yr, .int .u64 yk, .int .u32 yc, .int .i64 yo, .int .i64 yz], .bool fo]) := hd 6 (by kernel_rfl);clear hd;dsimp only;rw [d6];go_wp2_with fail;exact pS rfl (by simp)
   ·
    intro f w1 hb hd;have d7 : f 7 = (.tuple #[.agg #[.int .i64 yg, .int .i64 ym, .int .i64 yr, .int .u64 yk, .int .u32 yc, .int .i64 yo, .int .i64 yz], .bool fo]) := hd 7 (by kernel_rfl);clear hd;dsimp only;rw [d7];go_wp2_with fail;exact pS rfl (by simp)
   ·
    intro f w1 hb hd;have d7 : f 7 = (.tuple #[.agg #[.int .i64 yg, .int .i64 ym, .int .i64 yr, .int .u64 yk, .int .u32 yc, .int .i64 yo, .int .i64 yz], .bool fo]) := hd 7 (by kernel_rfl);clear hd;dsimp only;rw [d7];go_wp2_with fail;exact pS rfl (by simp)
   intro f w1 hb hd;clear hd;dsimp only;have o8 := hb.size;have Eg := dV.new w1 #[.int .i64 0, .int .i64 0, .int .i64 0, .int .u64 0, .int .u32 0, .int .i64 0, .int .i64 0] 51;go_wp2_with fail;exact ⟨rfl, (aj _ _).alloc (ai _) _, fun t ht => by injection ht with ht; subst ht; exact ⟨⟨_, rfl, o8, Eg⟩, fun _ => ⟨ai _, by simp [blk]⟩⟩⟩
  ·
   intro f w5 hb hd jc;clear jc;have d8 : f 8 = (.agg #[.int .i64 yg, .int .i64 ym, .int .i64 yr, .int .u64 yk, .int .u32 yc, .int .i64 yo, .int .i64 yz]) := hd 8 (show 8 < 11 by decide);have d9 : f 9 = (.bool fo) := hd 9 (show 9 < 11 by decide);obtain ⟨LL, d10, Ii, iK⟩ := show ∃ b, f 10 = .pointer (some ⟨b, 0, none⟩) ∧ W.heap.size ≤ b ∧ dV w5 b #[.int .i64 0, .int .i64 0, .int .i64 0, .int .u64 0, .int .u32 0, .int .i64 0, .int .i64 0] 51 from hd 10 (show 10 < 11 by decide)
   try dsimp only
   rw [d8, d9, d10];clear hd d8 d9 d10;have gN := zh (zD (B := W.heap.size) (b := LL) Ii [(0, .int .i64 yg), (1, .int .i64 ym), (2, .int .i64 yr), (3, .int .u64 yk), (4, .int .u32 yc), (5, .int .i64 yo), (6, .int .i64 yz)] hb);have HX := zh (dV.sets [(0, .int .i64 yg), (1, .int .i64 ym), (2, .int .i64 yr), (3, .int .u64 yk), (4, .int .u32 yc), (5, .int .i64 yo), (6, .int .i64 yz)] iK);have H0 := zh iK;have x0 := iK.cell (i := 0) rfl;have x1 := iK.cell (i := 1) rfl;have x2 := iK.cell (i := 2) rfl;have x3 := iK.cell (i := 3) rfl;have x4 := iK.cell (i := 4) rfl;have x5 := iK.cell (i := 5) rfl;have x6 := iK.cell (i := 6) rfl;have xf := iK.frozen;clear iK hb;generalize f 0 = Ag, f 1 = sW, f 2 = sX, f 3 = sY, f 4 = sZ, f 5 = s6, f 6 = Ah, f 7 = CH;clear f;change wpList _ _ _ (_ :: _ :: []) _ _;go_wp2_with fail;go_meet
   case rel => exact ⟨LL, rfl, rfl, HX, gN⟩
  intro f w5 hb hd jc;clear jc;have d7 : f 7 = (.tuple #[.agg #[.int .i64 yg, .int .i64 ym, .int .i64 yr, .int .u64 yk, .int .u32 yc, .int .i64 yo, .int .i64 yz], .bool fo]) := hd 7 (show 7 < 11 by decide) (show 7 ≠ 9 by decide);have d8 : f 8 = (.agg #[.int .i64 yg, .int .i64 ym, .int .i64 yr, .int .u64 yk, .int .u32 yc, .int .i64 yo, .int .i64 yz]) := hd 8 (show 8 < 11 by decide) (show 8 ≠ 9 by decide);obtain ⟨LL, d10, Ii, iK⟩ := show ∃ b, f 10 = .pointer (some ⟨b, 0, none⟩) ∧ W.heap.size ≤ b ∧ dV w5 b #[.int .i64 0, .int .i64 0, .int .i64 0, .int .u64 0, .int .u32 0, .int .i64 0, .int .i64 0] 51 from hd 10 (show 10 < 11 by decide) (show 10 ≠ 9 by decide)
  try dsimp only
  rw [d7, d8, d10];clear hd d7 d8 d10;have gN := zh (zD (B := W.heap.size) (b := LL) Ii [(0, .int .i64 yg), (1, .int .i64 ym), (2, .int .i64 yr), (3, .int .u64 yk), (4, .int .u32 yc), (5, .int .i64 yo), (6, .int .i64 yz)] hb);have HX := zh (dV.sets [(0, .int .i64 yg), (1, .int .i64 ym), (2, .int .i64 yr), (3, .int .u64 yk), (4, .int .u32 yc), (5, .int .i64 yo), (6, .int .i64 yz)] iK);have H0 := zh iK;have x0 := iK.cell (i := 0) rfl;have x1 := iK.cell (i := 1) rfl;have x2 := iK.cell (i := 2) rfl;have x3 := iK.cell (i := 3) rfl;have x4 := iK.cell (i := 4) rfl;have x5 := iK.cell (i := 5) rfl;have x6 := iK.cell (i := 6) rfl;have xf := iK.frozen;clear iK hb;generalize f 0 = Ag, f 1 = sW, f 2 = sX, f 3 = sY, f 4 = sZ, f 5 = s6, f 6 = Ah, f 9 = Eh;clear f;change wpList _ _ _ (_ :: _ :: _ :: []) _ _;go_wp2_with fail;go_meet
  case rel => exact ⟨LL, rfl, rfl, HX, gN⟩
 obtain ⟨bx, rfl, rfl, HX, gN⟩ := hcut;generalize wc = W2 at *;have x4 := HX.out.cell (i := 4) (u := .int .u32 yc) (by simp);have c3 := (HQ.out.below gN.out).cell (i := 3) rfl;have ek := zh (zA HB.out gN.out);clear HX gN HQ HP HB Am
 cases fo with
 | false =>
  have HR := zh (show R = 6 by rw [r_.out]; exact ah fun h => by cases h.1);go_wp2_with fail;go_ret;exact ⟨by rw [HR.out]; rfl, ek.out⟩
 | true =>
  by_cases hcc : yc = ck
  ·
   have HR := zh (show R = 0 by rw [r_.out]; exact ag ⟨rfl, hcc⟩);subst hcc;go_wp2_with fail;go_ret;exact ⟨by rw [HR.out]; rfl, ek.out⟩
  have HR := zh (show R = 6 by rw [r_.out]; exact ah fun h => hcc h.2);have e1 : (yc != ck) = true := by simpa using hcc
  clear hcc;go_wp2_with fail;go_ret;exact ⟨by rw [HR.out]; rfl, ek.out⟩
theorem YG (b : Nat) (t : eL) (ga : Option Addr) (gn gc : Nat) (L : List GP) (ey : Bool) (kv nv rv : Value) (mf : Int) (key : Int) (w : World) (hb : oL w b t.id t.lim t.ro ga gn gc ey kv nv rv mf) (hg : fq w (.slice ga gn gc) L) (nP : dZ L = t.dU) (hl : eV 1000 t.dU) :
  Calls Tryz.prog 151 #[.pointer (some ⟨b, 0, none⟩), .int .u64 key] w fun e w' => e = .returned (.bool (vI t key)) ∧ Below w.heap.size w w' := by
 have Am := zh (YE t ga gn gc L w hg nP hl key);have HE := zh (show vI t key = (!(yM t key).isEmpty && decide (((yM t key).headD us).mode = 1)) from rfl);generalize vI t key = R at *;generalize (yM t key).headD us = Y at *;generalize (!(yM t key).isEmpty) = fo at *;obtain ⟨yg, ym, yr, ⟨yk, yc, yo, yz⟩, ya⟩ := Y;dsimp only [JA, N3] at Am HE;have p0 := hb.cell (i := 0) rfl;have p1 := hb.cell (i := 1) rfl;have p2 := hb.cell (i := 2) rfl;have p3 := hb.cell (i := 3) rfl;clear hb hg nP hl
 go_enter Tryz.func151, Tryz.ntmps151
 go_wp2_with fail;refine Am.out.mono ?_;rintro e w1 ⟨rfl, hb⟩;have HB := zh hb;clear hb Am p0 p1 p2 p3;go_upto_region 2 with fail;change Code.wp _ _ _ _ (w1.alloc (.cells #[.int .i64 yg, .int .i64 ym, .int .i64 yr, .int .u64 yk, .int .u32 yc, .int .i64 yo, .int .i64 yz] 51));have HX := zh (dV.new w1 #[.int .i64 yg, .int .i64 ym, .int .i64 yr, .int .u64 yk, .int .u32 yc, .int .i64 yo, .int .i64 yz] 51);replace HB := zh (zA HB.out ((aj w1.heap.size w1).alloc (ai _) (.cells #[.int .i64 yg, .int .i64 ym, .int .i64 yr, .int .u64 yk, .int .u32 yc, .int .i64 yo, .int .i64 yz] 51)));generalize w1.alloc (.cells #[.int .i64 yg, .int .i64 ym, .int .i64 yr, .int .u64 yk, .int .u32 yc, .int .i64 yo, .int .i64 yz] 51) = w2 at *;generalize w1.heap.size = bx at *;have x1 := HX.out.cell (i := 1) rfl
 cases fo with
 | false =>
  have HR := zh (show R = false by rw [HE.out]; rfl);go_wp2_with fail;go_ret;exact ⟨by rw [HR.out]; rfl, HB.out⟩
 | true =>
  by_cases hm : ym = 1
  ·
   have HR := zh (show R = true by rw [HE.out, hm]; rfl);subst hm;go_wp2_with fail;go_ret;exact ⟨by rw [HR.out]; rfl, HB.out⟩
  have HR := zh (show R = false by rw [HE.out]; simpa using hm);have e1 : (ym == 1) = false := by simpa using hm
  clear hm;go_wp2_with fail;go_ret;exact ⟨by rw [HR.out]; rfl, HB.out⟩
end Go.Proofs.YtcgfilmmokmdjaaGreat
