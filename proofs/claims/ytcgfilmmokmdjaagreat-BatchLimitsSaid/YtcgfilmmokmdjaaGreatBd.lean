/- A part of the walk. -/
import Derived.Test.YtcgfilmmokmdjaaGreatQAT
import Derived.Test.YtcgfilmmokmdjaaGreatQAO
set_option linter.all false
set_option maxRecDepth 100000
set_option maxHeartbeats 32000000
namespace Go.Proofs.YtcgfilmmokmdjaaGreat
open Go.RowKit
theorem zKc (s : Slt) (a : Option Addr) (n c : Nat) (L : List GP) (W : World) (hr : RdG W (.slice a n c) L) (hg : gns L = s.gens) (hl : LenS 1000 s.gens) (key : Int) :
  Calls Tryz.prog 16 #[zhq s.id s.lim s.ro a n c, .int .u64 key] W fun e w' => e = .returned (.tuple #[plV ((yI s key).headD uU), .bool (!(yI s key).isEmpty)]) ∧ Below W.heap.size W w' := by
 have h := zGJ s.id s.lim s.ro a n c L W hr (uc (hg ▸ hl) (by decide)) key;obtain ⟨i, l, r, g⟩ := s;dsimp only at hg h ⊢;subst hg;exact h
theorem zLH (s : Slt) (a : Option Addr) (n c : Nat) (L : List GP) (W : World) (hr : RdG W (.slice a n c) L) (hg : gns L = s.gens) (hl : LenS 1000 s.gens) (m : Int) :
  Calls Tryz.prog 36 #[zhq s.id s.lim s.ro a n c, .int .i64 m] W fun e w' => e = .returned (.bool (wH s m)) ∧ Below W.heap.size W w' := by
 have h := zBr s.id s.lim s.ro a n c L W hr (uc (hg ▸ hl) (by decide)) m;obtain ⟨i, l, r, g⟩ := s;dsimp only at hg h ⊢;subst hg;exact h
theorem zHM (tk kind key ck : Int) (da : Option Addr) (dn dc : Nat) (w : World) (hd : dn ≤ 1000000) : Calls Tryz.prog 108 #[rqV tk kind key ck (.slice da dn dc)] w fun e w' => e = .returned (.int .i64 (if kind = 2 then 24 else (szN dn : Int))) ∧ Below w.heap.size w w' := by
 by_cases hk : kind = 2
 ·
  have e1 : (kind == 2) = true := by simpa using hk
  have HE := zh (show (if kind = 2 then (24 : Int) else (szN dn : Int)) = 24 from if_pos hk);have H0 := zh (fun W => tR 0 W (by decide));generalize (if kind = 2 then (24 : Int) else (szN dn : Int)) = R at *;clear hk;obtain ⟨W, hW⟩ : ∃ W, w.alloc (.cells #[.int .i64 tk, .int .i64 kind, .int .u64 key, .int .u32 ck, .slice da dn dc] 85) = W := ⟨_, rfl⟩
  have HQ := zh (show BlkE W w.heap.size #[.int .i64 tk, .int .i64 kind, .int .u64 key, .int .u32 ck, .slice da dn dc] 85 from hW ▸ BlkE.new w #[.int .i64 tk, .int .i64 kind, .int .u64 key, .int .u32 ck, .slice da dn dc] 85);have hb0 := (Below.refl w.heap.size w).alloc (Nat.le_refl _) (.cells #[.int .i64 tk, .int .i64 kind, .int .u64 key, .int .u32 ck, .slice da dn dc] 85);rw [hW] at hb0;have HB := zh hb0;clear hb0
  go_enter Tryz.func108, Tryz.ntmps108
  go_upto_region 1 with fail;clear hW;have c1 := HQ.out.cell (i := 1) rfl;have c4 := HQ.out.cell (i := 4) rfl;go_wp2_with fail;refine (H0.out _).mono ?_;rintro e w1 ⟨rfl, rfl⟩;rw [show ((szN 0 : Nat) : Int) = 24 by decide];go_wp2_with fail;go_ret;exact ⟨by rw [HE.out]; rfl, HB.out⟩
 have e1 : (kind == 2) = false := by simpa using hk
 have HE := zh (show (if kind = 2 then (24 : Int) else (szN dn : Int)) = (szN dn : Int) from if_neg hk);have H0 := zh (fun W => tR dn W hd);generalize (if kind = 2 then (24 : Int) else (szN dn : Int)) = R at *;clear hk;obtain ⟨W, hW⟩ : ∃ W, w.alloc (.cells #[.int .i64 tk, .int .i64 kind, .int .u64 key, .int .u32 ck, .slice da dn dc] 85) = W := ⟨_, rfl⟩
 have HQ := zh (show BlkE W w.heap.size #[.int .i64 tk, .int .i64 kind, .int .u64 key, .int .u32 ck, .slice da dn dc] 85 from hW ▸ BlkE.new w #[.int .i64 tk, .int .i64 kind, .int .u64 key, .int .u32 ck, .slice da dn dc] 85);have hb0 := (Below.refl w.heap.size w).alloc (Nat.le_refl _) (.cells #[.int .i64 tk, .int .i64 kind, .int .u64 key, .int .u32 ck, .slice da dn dc] 85);rw [hW] at hb0;have HB := zh hb0;clear hb0
 go_enter Tryz.func108, Tryz.ntmps108
 go_upto_region 1 with fail;clear hW;have c1 := HQ.out.cell (i := 1) rfl;have c4 := HQ.out.cell (i := 4) rfl;go_wp2_with fail;refine (H0.out _).mono ?_;rintro e w1 ⟨rfl, rfl⟩;go_wp2_with fail;go_ret;exact ⟨by rw [HE.out]; rfl, HB.out⟩
theorem zFD (b : Nat) (t : Slt) (ga : Option Addr) (gn gc : Nat) (L : List GP) (rot : Bool) (kv nv rv : Value) (by_ : Int) (tk kind key ck : Int) (da : Option Addr) (dn dc : Nat) (w : World) (hb : PlB w b t.id t.lim t.ro ga gn gc rot kv nv rv by_) (hg : RdG w (.slice ga gn gc) L) (hgg : gns L = t.gens) (hl : LenS 1000 t.gens) (hd : dn ≤ 1000000) (q : Rq) (hq : q.data.length = dn) :
  Calls Tryz.prog 144 #[.pointer (some ⟨b, 0, none⟩), rqV tk kind key ck (.slice da dn dc)] w fun e w' => e = .returned (.int .i64 (zx t q)) ∧ Below w.heap.size w w' := by
 have HFi := zh (fun W (hb : Below w.heap.size w W) => zLH t ga gn gc L W (hg.below hb) hgg hl (dn : Int))
 by_cases h1 : 4096 < dn
 ·
  have e1 : (4096 : Int) < (dn : Int) := by omega
  have HE := zh (show zx t q = 8 by unfold zx; rw [hq, if_pos h1]);generalize zx t q = R at *;clear hq;obtain ⟨W, hW⟩ : ∃ W, w.alloc (.cells #[.int .i64 tk, .int .i64 kind, .int .u64 key, .int .u32 ck, .slice da dn dc] 85) = W := ⟨_, rfl⟩
  have HQ := zh (show BlkE W w.heap.size #[.int .i64 tk, .int .i64 kind, .int .u64 key, .int .u32 ck, .slice da dn dc] 85 from hW ▸ BlkE.new w #[.int .i64 tk, .int .i64 kind, .int .u64 key, .int .u32 ck, .slice da dn dc] 85);have hb0 := (Below.refl w.heap.size w).alloc (Nat.le_refl _) (.cells #[.int .i64 tk, .int .i64 kind, .int .u64 key, .int .u32 ck, .slice da dn dc] 85);rw [hW] at hb0;have HB := zh hb0;clear hb0
  go_enter Tryz.func144, Tryz.ntmps144
  go_upto_region 1 with fail;clear hW;have c4 := HQ.out.cell (i := 4) rfl;go_wp2_with fail;go_ret;exact ⟨by rw [HE.out]; rfl, HB.out⟩
 have e1 : ¬ (4096 : Int) < (dn : Int) := by omega
 have HE := zh (show zx t q = if wH t (dn : Int) = true then 0 else 9 by unfold zx; rw [hq, if_neg h1]);generalize zx t q = R at *;clear hq;obtain ⟨W, hW⟩ : ∃ W, w.alloc (.cells #[.int .i64 tk, .int .i64 kind, .int .u64 key, .int .u32 ck, .slice da dn dc] 85) = W := ⟨_, rfl⟩
 have HQ := zh (show BlkE W w.heap.size #[.int .i64 tk, .int .i64 kind, .int .u64 key, .int .u32 ck, .slice da dn dc] 85 from hW ▸ BlkE.new w #[.int .i64 tk, .int .i64 kind, .int .u64 key, .int .u32 ck, .slice da dn dc] 85);have hb0 := (Below.refl w.heap.size w).alloc (Nat.le_refl _) (.cells #[.int .i64 tk, .int .i64 kind, .int .u64 key, .int .u32 ck, .slice da dn dc] 85);rw [hW] at hb0;have HB := zh hb0;have HP := zh (hb.below hb0);clear hb0 hb
 go_enter Tryz.func144, Tryz.ntmps144
 go_upto_region 1 with fail;clear hW;have c4 := HQ.out.cell (i := 4) rfl;go_upto_region 3 with fail;have HQd := zh (HQ.out.below (zi (Below.refl _ W)));have HPd := zh (HP.out.below (zi (Below.refl _ W)));have HBd := zh (zi HB.out);have c4' := HQd.out.cell (i := 4) rfl;have p0 := HPd.out.cell (i := 0) rfl;have p1 := HPd.out.cell (i := 1) rfl;have p2 := HPd.out.cell (i := 2) rfl;have p3 := HPd.out.cell (i := 3) rfl;clear c4;refine wp_region_still_tail 7 (by kernel_rfl) (by kernel_rfl) ?_;simp only [List.take_succ_cons, List.take_zero, List.drop_succ_cons, List.drop_zero];change wpStill Tryz.prog _ (World.drew _) _ _ _
 repeat still_step
 refine wpStill_nil ?_;change wpList _ _ _ _ _ (World.drew _);generalize World.drew W = W1 at *;go_wp2_with fail;refine (HFi.out W1 HBd.out).mono ?_;rintro e w1 ⟨rfl, hb⟩;have HBz := zh (zA HBd.out hb);clear hb p0 p1 p2 p3 c4' HFi HQd HPd
 cases hf : wH t (dn : Int)
 ·
  rw [hf] at HE;clear hf;go_wp2_with fail;go_ret;exact ⟨by rw [HE.out]; rfl, HBz.out⟩
 rw [hf] at HE;clear hf;go_wp2_with fail;go_ret;exact ⟨by rw [HE.out]; rfl, HBz.out⟩
def zLa (t : TypeId) (B : Nat) : Sta := ⟨fun v w => ∃ b, v = .pointer (some ⟨b, 0, none⟩) ∧ B ≤ b ∧ BlkE w b #[.int .i64 0, .int .i64 0, .int .i64 0, .int .u64 0, .int .u32 0, .int .i64 0, .int .i64 0] t, fun _ _ _ hb ⟨b, h1, h2, h3⟩ => ⟨b, h1, h2, h3.below hb⟩⟩
theorem zEV (b : Nat) (t : Slt) (ga : Option Addr) (gn gc : Nat) (L : List GP) (rot : Bool) (kv nv rv : Value) (by_ : Int) (tk kind key ck : Int) (da : Option Addr) (dn dc : Nat) (w : World) (hb : PlB w b t.id t.lim t.ro ga gn gc rot kv nv rv by_) (hg : RdG w (.slice ga gn gc) L) (hgg : gns L = t.gens) (hl : LenS 1000 t.gens) (q : Rq) (hk : (q.key : Int) = key) (hc : (q.ck : Int) = ck) :
  Calls Tryz.prog 149 #[.pointer (some ⟨b, 0, none⟩), rqV tk kind key ck (.slice da dn dc)] w fun e w' => e = .returned (.int .i64 (yw t q)) ∧ Below w.heap.size w w' := by
 have HFd := zh (fun W (hb : Below w.heap.size w W) => zKc t ga gn gc L W (hg.below hb) hgg hl key);have HE := zh (show yw t q = if (yI t key).isEmpty = false ∧ ((yI t key).headD uU).it.ck = ck then 0 else 6 by unfold yw; rw [hk, hc]);generalize yw t q = R at *;generalize (yI t key).headD uU = Y at *;obtain ⟨fo, hfo⟩ : ∃ fo, (!(yI t key).isEmpty) = fo := ⟨_, rfl⟩
 rw [hfo] at HFd;have HE2 := zh (show R = if fo = true ∧ Y.it.ck = ck then 0 else 6 by rw [HE.out, ← hfo]; simp);clear hfo HE hk hc;obtain ⟨yg, ym, yr, ⟨yk, yc, yo, yz⟩, ya⟩ := Y;dsimp only [plV, plC] at HFd HE2;obtain ⟨W, hW⟩ : ∃ W, w.alloc (.cells #[.int .i64 tk, .int .i64 kind, .int .u64 key, .int .u32 ck, .slice da dn dc] 85) = W := ⟨_, rfl⟩
 have HQ := zh (show BlkE W w.heap.size #[.int .i64 tk, .int .i64 kind, .int .u64 key, .int .u32 ck, .slice da dn dc] 85 from hW ▸ BlkE.new w #[.int .i64 tk, .int .i64 kind, .int .u64 key, .int .u32 ck, .slice da dn dc] 85);have hb0 := (Below.refl w.heap.size w).alloc (Nat.le_refl _) (.cells #[.int .i64 tk, .int .i64 kind, .int .u64 key, .int .u32 ck, .slice da dn dc] 85);rw [hW] at hb0;have HB := zh hb0;have HP := zh (hb.below hb0);clear hb0 hb hg hgg hl
 go_enter Tryz.func149, Tryz.ntmps149
 go_upto_region 1 with fail;clear hW
 go_cut [5, 6] (fun vb ve wx => ∃ b, vb = .pointer (some ⟨b, 0, none⟩) ∧ ve = .bool fo ∧ Hid (BlkE wx b ([(0, .int .i64 yg), (1, .int .i64 ym), (2, .int .i64 yr), (3, .int .u64 yk), (4, .int .u32 yc), (5, .int .i64 yo), (6, .int .i64 yz)].foldl (fun cs p => cs.setIfInBounds p.1 p.2) #[.int .i64 0, .int .i64 0, .int .i64 0, .int .u64 0, .int .u32 0, .int .i64 0, .int .i64 0]) 51) ∧ Hid (Below W.heap.size W wx))
 case first =>
  refine xQ [eqS (.pointer (some ⟨b, 0, none⟩)), eqS (.pointer (some ⟨b, 0, none⟩)), eqS (.pointer (some ⟨b, 0, none⟩)), eqS (zhq t.id t.lim t.ro ga gn gc), eqS (.pointer (some ⟨w.heap.size, 2, none⟩)), eqS (.int .u64 key), eqS (.tuple #[.agg #[.int .i64 yg, .int .i64 ym, .int .i64 yr, .int .u64 yk, .int .u32 yc, .int .i64 yo, .int .i64 yz], .bool fo]), eqS (.tuple #[.agg #[.int .i64 yg, .int .i64 ym, .int .i64 yr, .int .u64 yk, .int .u32 yc, .int .i64 yo, .int .i64 yz], .bool fo]), eqS (.agg #[.int .i64 yg, .int .i64 ym, .int .i64 yr, .int .u64 yk, .int .u32 yc, .int .i64 yo, .int .i64 yz]), eqS (.bool fo), zLa 51 W.heap.size] [10] 27 9 (by kernel_rfl) (by kernel_rfl) rfl rfl (by decide) (by rfl) (by kernel_rfl) (fun f => by simp [frm, zN, Act.put]; exact rfl) ?_ ?_ ?_
  ·
   refine ⟨?_, ?_, ?_, ?_, ?_, ?_, ?_, ?_, ?_, ?_, ?_, trivial⟩
   ·
    intro f w1 hb hd;clear hd;dsimp only;go_wp2_with fail;exact pS rfl (by simp)
   ·
    intro f w1 hb hd;have d0 : f 0 = (.pointer (some ⟨b, 0, none⟩)) := hd 0 (by kernel_rfl);clear hd;dsimp only;rw [d0];go_wp2_with fail;exact pS rfl (by simp)
   ·
    intro f w1 hb hd;have d1 : f 1 = (.pointer (some ⟨b, 0, none⟩)) := hd 1 (by kernel_rfl);clear hd;dsimp only;rw [d1];go_wp2_with fail;exact pS rfl (by simp)
   ·
    intro f w1 hb hd;have d2 : f 2 = (.pointer (some ⟨b, 0, none⟩)) := hd 2 (by kernel_rfl);clear hd;dsimp only;rw [d2];have hx := HP.out.below hb;have q0 := hx.cell (i := 0) rfl;have q1 := hx.cell (i := 1) rfl;have q2 := hx.cell (i := 2) rfl;have q3 := hx.cell (i := 3) rfl;clear hx;go_wp2_with fail;exact pS rfl (by simp)
   ·
    intro f w1 hb hd;clear hd;dsimp only;go_wp2_with fail;exact pS rfl (by simp)
   ·
    intro f w1 hb hd;have d4 : f 4 = (.pointer (some ⟨w.heap.size, 2, none⟩)) := hd 4 (by kernel_rfl);clear hd;dsimp only;rw [d4];have q2 := (HQ.out.below hb).cell (i := 2) rfl;go_wp2_with fail;exact pS rfl (by simp)
   ·
    intro f w1 hb hd;have d3 : f 3 = (zhq t.id t.lim t.ro ga gn gc) := hd 3 (by kernel_rfl);have d5 : f 5 = (.int .u64 key) := hd 5 (by kernel_rfl);clear hd;dsimp only;rw [d3];rw [d5];go_wp2_with fail;refine (HFd.out w1 (zA HB.out hb)).mono ?_;rintro e w9 ⟨rfl, hb9⟩;go_wp2_with fail;exact pT rfl (by simp) hb9
   ·
    intro f w1 hb hd;have d6 : f 6 = (.tuple #[.agg #[.int .i64 yg, .int .i64 ym, .int .i64 yr, .int .u64 yk, .int .u32 yc, .int .i64 yo, .int .i64 yz], .bool fo]) := hd 6 (by kernel_rfl);clear hd;dsimp only;rw [d6];go_wp2_with fail;exact pS rfl (by simp)
   ·
    intro f w1 hb hd;have d7 : f 7 = (.tuple #[.agg #[.int .i64 yg, .int .i64 ym, .int .i64 yr, .int .u64 yk, .int .u32 yc, .int .i64 yo, .int .i64 yz], .bool fo]) := hd 7 (by kernel_rfl);clear hd;dsimp only;rw [d7];go_wp2_with fail;exact pS rfl (by simp)
   ·
    intro f w1 hb hd;have d7 : f 7 = (.tuple #[.agg #[.int .i64 yg, .int .i64 ym, .int .i64 yr, .int .u64 yk, .int .u32 yc, .int .i64 yo, .int .i64 yz], .bool fo]) := hd 7 (by kernel_rfl);clear hd;dsimp only;rw [d7];go_wp2_with fail;exact pS rfl (by simp)
   intro f w1 hb hd;clear hd;dsimp only;have hbs := hb.size;have hnw := BlkE.new w1 #[.int .i64 0, .int .i64 0, .int .i64 0, .int .u64 0, .int .u32 0, .int .i64 0, .int .i64 0] 51;go_wp2_with fail;exact ⟨rfl, (Below.refl _ _).alloc (Nat.le_refl _) _, fun t ht => by injection ht with ht; subst ht; exact ⟨⟨_, rfl, hbs, hnw⟩, fun _ => ⟨Nat.le_refl _, by simp [blk]⟩⟩⟩
  ·
   intro f w5 hb hd hff;clear hff;have d8 : f 8 = (.agg #[.int .i64 yg, .int .i64 ym, .int .i64 yr, .int .u64 yk, .int .u32 yc, .int .i64 yo, .int .i64 yz]) := hd 8 (show 8 < 11 by decide);have d9 : f 9 = (.bool fo) := hd 9 (show 9 < 11 by decide);obtain ⟨b10, d10, lo10, bx10⟩ := show ∃ b, f 10 = .pointer (some ⟨b, 0, none⟩) ∧ W.heap.size ≤ b ∧ BlkE w5 b #[.int .i64 0, .int .i64 0, .int .i64 0, .int .u64 0, .int .u32 0, .int .i64 0, .int .i64 0] 51 from hd 10 (show 10 < 11 by decide)
   try dsimp only
   rw [d8, d9, d10];clear hd d8 d9 d10;have HBn := zh (zD (B := W.heap.size) (b := b10) lo10 [(0, .int .i64 yg), (1, .int .i64 ym), (2, .int .i64 yr), (3, .int .u64 yk), (4, .int .u32 yc), (5, .int .i64 yo), (6, .int .i64 yz)] hb);have HX := zh (BlkE.sets [(0, .int .i64 yg), (1, .int .i64 ym), (2, .int .i64 yr), (3, .int .u64 yk), (4, .int .u32 yc), (5, .int .i64 yo), (6, .int .i64 yz)] bx10);have H0 := zh bx10;have x0 := bx10.cell (i := 0) rfl;have x1 := bx10.cell (i := 1) rfl;have x2 := bx10.cell (i := 2) rfl;have x3 := bx10.cell (i := 3) rfl;have x4 := bx10.cell (i := 4) rfl;have x5 := bx10.cell (i := 5) rfl;have x6 := bx10.cell (i := 6) rfl;have xf := bx10.frozen;clear bx10 hb;generalize f 0 = zq0, f 1 = zq1, f 2 = zq2, f 3 = zq3, f 4 = zq4, f 5 = zq5, f 6 = zq6, f 7 = zq7;clear f;change wpList _ _ _ (_ :: _ :: []) _ _;go_wp2_with fail;go_meet
   case rel => exact ⟨b10, rfl, rfl, HX, HBn⟩
  intro f w5 hb hd hff;clear hff;have d7 : f 7 = (.tuple #[.agg #[.int .i64 yg, .int .i64 ym, .int .i64 yr, .int .u64 yk, .int .u32 yc, .int .i64 yo, .int .i64 yz], .bool fo]) := hd 7 (show 7 < 11 by decide) (show 7 ≠ 9 by decide);have d8 : f 8 = (.agg #[.int .i64 yg, .int .i64 ym, .int .i64 yr, .int .u64 yk, .int .u32 yc, .int .i64 yo, .int .i64 yz]) := hd 8 (show 8 < 11 by decide) (show 8 ≠ 9 by decide);obtain ⟨b10, d10, lo10, bx10⟩ := show ∃ b, f 10 = .pointer (some ⟨b, 0, none⟩) ∧ W.heap.size ≤ b ∧ BlkE w5 b #[.int .i64 0, .int .i64 0, .int .i64 0, .int .u64 0, .int .u32 0, .int .i64 0, .int .i64 0] 51 from hd 10 (show 10 < 11 by decide) (show 10 ≠ 9 by decide)
  try dsimp only
  rw [d7, d8, d10];clear hd d7 d8 d10;have HBn := zh (zD (B := W.heap.size) (b := b10) lo10 [(0, .int .i64 yg), (1, .int .i64 ym), (2, .int .i64 yr), (3, .int .u64 yk), (4, .int .u32 yc), (5, .int .i64 yo), (6, .int .i64 yz)] hb);have HX := zh (BlkE.sets [(0, .int .i64 yg), (1, .int .i64 ym), (2, .int .i64 yr), (3, .int .u64 yk), (4, .int .u32 yc), (5, .int .i64 yo), (6, .int .i64 yz)] bx10);have H0 := zh bx10;have x0 := bx10.cell (i := 0) rfl;have x1 := bx10.cell (i := 1) rfl;have x2 := bx10.cell (i := 2) rfl;have x3 := bx10.cell (i := 3) rfl;have x4 := bx10.cell (i := 4) rfl;have x5 := bx10.cell (i := 5) rfl;have x6 := bx10.cell (i := 6) rfl;have xf := bx10.frozen;clear bx10 hb;generalize f 0 = zq0, f 1 = zq1, f 2 = zq2, f 3 = zq3, f 4 = zq4, f 5 = zq5, f 6 = zq6, f 9 = zq9;clear f;change wpList _ _ _ (_ :: _ :: _ :: []) _ _;go_wp2_with fail;go_meet
  case rel => exact ⟨b10, rfl, rfl, HX, HBn⟩
 obtain ⟨bx, rfl, rfl, HX, HBn⟩ := hcut;generalize wc = W2 at *;have x4 := HX.out.cell (i := 4) (u := .int .u32 yc) (by simp);have c3 := (HQ.out.below HBn.out).cell (i := 3) rfl;have HBz := zh (zA HB.out HBn.out);clear HX HBn HQ HP HB HFd
 cases fo with
 | false =>
  have HR := zh (show R = 6 by rw [HE2.out]; exact if_neg fun h => by cases h.1);go_wp2_with fail;go_ret;exact ⟨by rw [HR.out]; rfl, HBz.out⟩
 | true =>
  by_cases hcc : yc = ck
  ·
   have HR := zh (show R = 0 by rw [HE2.out]; exact if_pos ⟨rfl, hcc⟩);subst hcc;go_wp2_with fail;go_ret;exact ⟨by rw [HR.out]; rfl, HBz.out⟩
  have HR := zh (show R = 6 by rw [HE2.out]; exact if_neg fun h => hcc h.2);have e1 : (yc != ck) = true := by simpa using hcc
  clear hcc;go_wp2_with fail;go_ret;exact ⟨by rw [HR.out]; rfl, HBz.out⟩
theorem zDo (b : Nat) (t : Slt) (ga : Option Addr) (gn gc : Nat) (L : List GP) (rot : Bool) (kv nv rv : Value) (by_ : Int) (key : Int) (w : World) (hb : PlB w b t.id t.lim t.ro ga gn gc rot kv nv rv by_) (hg : RdG w (.slice ga gn gc) L) (hgg : gns L = t.gens) (hl : LenS 1000 t.gens) :
  Calls Tryz.prog 151 #[.pointer (some ⟨b, 0, none⟩), .int .u64 key] w fun e w' => e = .returned (.bool (vQ t key)) ∧ Below w.heap.size w w' := by
 have HFd := zh (zKc t ga gn gc L w hg hgg hl key);have HE := zh (show vQ t key = (!(yI t key).isEmpty && decide (((yI t key).headD uU).mode = 1)) from rfl);generalize vQ t key = R at *;generalize (yI t key).headD uU = Y at *;generalize (!(yI t key).isEmpty) = fo at *;obtain ⟨yg, ym, yr, ⟨yk, yc, yo, yz⟩, ya⟩ := Y;dsimp only [plV, plC] at HFd HE;have p0 := hb.cell (i := 0) rfl;have p1 := hb.cell (i := 1) rfl;have p2 := hb.cell (i := 2) rfl;have p3 := hb.cell (i := 3) rfl;clear hb hg hgg hl
 go_enter Tryz.func151, Tryz.ntmps151
 go_wp2_with fail;refine HFd.out.mono ?_;rintro e w1 ⟨rfl, hb⟩;have HB := zh hb;clear hb HFd p0 p1 p2 p3;go_upto_region 2 with fail;change Code.wp _ _ _ _ (w1.alloc (.cells #[.int .i64 yg, .int .i64 ym, .int .i64 yr, .int .u64 yk, .int .u32 yc, .int .i64 yo, .int .i64 yz] 51));have HX := zh (BlkE.new w1 #[.int .i64 yg, .int .i64 ym, .int .i64 yr, .int .u64 yk, .int .u32 yc, .int .i64 yo, .int .i64 yz] 51);replace HB := zh (zA HB.out ((Below.refl w1.heap.size w1).alloc (Nat.le_refl _) (.cells #[.int .i64 yg, .int .i64 ym, .int .i64 yr, .int .u64 yk, .int .u32 yc, .int .i64 yo, .int .i64 yz] 51)));generalize w1.alloc (.cells #[.int .i64 yg, .int .i64 ym, .int .i64 yr, .int .u64 yk, .int .u32 yc, .int .i64 yo, .int .i64 yz] 51) = w2 at *;generalize w1.heap.size = bx at *;have x1 := HX.out.cell (i := 1) rfl
 cases fo with
 | false =>
  have HR := zh (show R = false by rw [HE.out]; rfl);go_wp2_with fail;go_ret;exact ⟨by rw [HR.out]; rfl, HB.out⟩
 | true =>
  by_cases hm : ym = 1
  ·
   have HR := zh (show R = true by rw [HE.out, hm]; rfl);subst hm;go_wp2_with fail;go_ret;exact ⟨by rw [HR.out]; rfl, HB.out⟩
  have HR := zh (show R = false by rw [HE.out]; simpa using hm);have e1 : (ym == 1) = false := by simpa using hm
  clear hm;go_wp2_with fail;go_ret;exact ⟨by rw [HR.out]; rfl, HB.out⟩
end Go.Proofs.YtcgfilmmokmdjaaGreat
