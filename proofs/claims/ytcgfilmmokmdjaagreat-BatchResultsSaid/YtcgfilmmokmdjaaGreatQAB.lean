/- A part of the walk. -/
import Derived.Test.YtcgfilmmokmdjaaGreatQAA
import Derived.Shelf.SlSortCmp.KitK
import Derived.Ground.SlsfProg
import Derived.Deep.Onto
set_option linter.all false
set_option maxRecDepth 100000
set_option maxHeartbeats 32000000
namespace Go.Proofs.YtcgfilmmokmdjaaGreat
open Go.RowKit
theorem Pg (v : Value) (l : List It) (w : World) (h : iQ w v l) (hs : l.length ≤ 1000000) :
  Calls Tryz.prog 134 #[v] w fun e w' => ∃ v', e = .returned v' ∧ fg w' w.heap.size v' l ∧ Below w.heap.size w w' := by
 obtain ⟨a, cap, rfl, h1, h2⟩ := h.shape;have UE : ∀ (w : World) (a : Option Addr) (n c n' c' : Nat), (binOp .eql 33 (.slice a n c) (.slice none n' c')).run Tryz.prog w = .ok (.bool a.isNone) w := fun w a n c n' c' => Lib.run_eql_slice_nil w _ _ a n c n' c' Tryz.underlying33
 cases a with
 | none =>
  have h0 : l = [] := by
   obtain ⟨_, a', cap', e, _, _, h5, _⟩ := h.2;injection e with e1 e2 e3;have := h5 e1.symm;exact List.length_eq_zero_iff.1 (by omega)
  subst h0;clear h
  go_enter Tryz.func134, Tryz.ntmps134
  go_wp2_with fail;go_ret;exact ⟨_, rfl, aU _ _ _ _, aj _ _⟩
 | some p =>
  have Hr := zh (tK h);generalize hn : l.length = n at *;clear h
  go_enter Tryz.func134, Tryz.ntmps134
  go_wp2_with (at_builtin; go_must (refine zd rfl (.tmp 5) (.tmp 6) 33 rfl yE w.heap.size rfl (dr (size := 4) _ #[] 0 (ai _) (by decide) rfl) rfl (Hr.out.alloc _) (zn _) (by unfold maxLen; omega) (by omega) (by simp) ?_); intro v3 w3 ei eW hv3; clear hv3);have HB := zh (zM ((aj w.heap.size w).alloc (ai _) _) (dr (e := 49) (size := 4) w #[] 0 (ai _) (by decide) rfl) (by simp) eW);have HO := zh (yI ei (bT _));clear ei eW;go_wp2_with fail;go_ret;exact ⟨_, rfl, HO.out, HB.out⟩
def wR (l : List It) : Prop := ∀ (v : Value) (w : World), iQ w v l → Calls Tryz.prog 135 #[v] w fun e w' => ∃ v', e = .returned v' ∧ fg w' w.heap.size v' (fC l) ∧ Below w.heap.size w w'
theorem zF2 (l : List It) (ha : jZ l) (hs : l.length ≤ 1000000) : wR l := by
 intro v w h;have HC := zh (Pg v l w h hs);have HA := zh (fun v w h => O6 v l w h);rw [(uh l).2 ha] at HA;have HS := zh (yK ha);obtain ⟨a, cap, rfl, h1, h2⟩ := h.shape;clear h ha
 go_enter Tryz.func135, Tryz.ntmps135
 go_wp2_with fail;refine HC.out.mono ?_; rintro e w1 ⟨v1, rfl, hown1, hb1⟩;have HO := zh hown1;have HB := zh hb1;clear hown1 hb1;go_wp2_with fail;refine (HA.out _ _ HO.out.rd).mono ?_; rintro e w2 ⟨rfl, hb2⟩;have gj := zh (zH HO.out hb2);have eP := zh (zA HB.out hb2);clear hb2;go_wp2_with fail;go_ret;exact ⟨_, rfl, by rw [HS.out]; exact gj.out, eP.out⟩
structure pN (w : World) (lb kb : Nat) (a : Option Addr) (n cap : Nat) (l : List It) (key : Int) : Prop where
 lv : w.cell? ⟨lb, 0, none⟩ = some (.slice a n cap)
 kv : w.cell? ⟨kb, 0, none⟩ = some (.int .u64 key)
 rd : iQ w (.slice a n cap) l
theorem pN.below {w w' : World} {lb kb : Nat} {a : Option Addr} {n cap : Nat} {l : List It} {key : Int} (h : pN w lb kb a n cap l key) (hb : Below w.heap.size w w') : pN w' lb kb a n cap l key :=
 ⟨Below.keeps hb _ _ h.lv, Below.keeps hb _ _ h.kv, h.rd.below hb⟩
theorem zKx (i lb kb : Nat) (a : Option Addr) (n cap : Nat) (l : List It) (key : Int) (w : World) (h : pN w lb kb a n cap l key) (hi : i < n) (_hn : n ≤ 1000000) :
  Calls Tryz.prog 177 #[.int .i64 (i : Int), .pointer (some ⟨lb, 0, none⟩), .pointer (some ⟨kb, 0, none⟩)] w fun e w' => e = .returned (.bool (decide (key ≤ (dX l i).key))) ∧ Below w.heap.size w w' := by
 obtain ⟨h1, h2, h3⟩ := h;obtain ⟨b, off, rfl, c0, _⟩ := h3.at hi;generalize (dX l i).key = x at *;have i1 : (i : Int) < (n : Int) := by omega
 clear h3
 go_enter Tryz.func177, Tryz.ntmps177
 go_wp2_with fail
 go_quiet (fail)
 go_wp2_with fail;go_ret;exact ⟨rfl, below_drewN (aj _ _) _⟩
theorem zEy (lb kb : Nat) (a : Option Addr) (n cap : Nat) (l : List It) (key : Int) (w : World) (h : pN w lb kb a n cap l key) (hn : n ≤ 1000000) :
  Calls Tryz.prog 176 #[.int .i64 (n : Int), .func (.func 177) #[] #[.pointer (some ⟨lb, 0, none⟩), .pointer (some ⟨kb, 0, none⟩)]] w fun e w' =>
   (∃ r : Nat, e = .returned (.int .i64 (r : Int)) ∧ r ≤ n ∧ (∀ j, r = j + 1 → (dX l j).key < key) ∧ (r < n → key ≤ (dX l r).key)) ∧ Below w.heap.size w w' := by
 have H := zh h;clear h
 go_enter Tryz.func176, Tryz.ntmps176
 go_wp2_with fail
 go_loopw [5, 6] (fun iv jv wr => ∃ i j : Nat, iv = .int .i64 (i : Int) ∧ jv = .int .i64 (j : Int) ∧ i ≤ j ∧ j ≤ n ∧ (∀ k, i = k + 1 → (dX l k).key < key) ∧ (j < n → key ≤ (dX l j).key) ∧ Below w.heap.size w wr) (fun iv jv _ => (intOf jv - intOf iv).toNat)
 case atStart => exact ⟨0, n, rfl, rfl, au _, ai _, fun k hk => by omega, fun h => by omega, aj _ _⟩
 obtain ⟨i, j, rfl, rfl, hij, hj, hlo, hhi, hb⟩ := hrel;have HL := zh hlo;have HH := zh hhi;have Hb := zh hb;clear hlo hhi hb
 by_cases hlt : i < j
 ·
  obtain ⟨m, hm, hm1, jD⟩ : ∃ m : Nat, (i + j) / 2 = m ∧ i ≤ m ∧ m < j := ⟨(i + j) / 2, rfl, by omega, by omega⟩
  have HC := zh (fun W hW => zKx m lb kb a n cap l key W (H.out.below hW) (by omega) hn);have Na : ((i : Int) + (j : Int)) / 2 = (m : Int) := by omega
  have HMi := zh hm;clear hm;generalize hq : decide (key ≤ (dX l m).key) = q at *;have HQ := zh hq;clear hq;go_wp2_with fail;refine (HC.out _ Hb.out).mono ?_; rintro e w1 ⟨rfl, hb1⟩;have lV := zh (zA Hb.out hb1);clear hb1
  cases q
  ·
   go_wp2_with fail;refine ⟨⟨m + 1, j, by go_num, rfl, by omega, hj, fun k hk => ?_, HH.out, lV.out⟩, by simp [intOf]; omega⟩;obtain rfl : m = k := by omega
   have := cD HQ.out;omega
  go_wp2_with fail;exact ⟨⟨i, m, rfl, rfl, hm1, by omega, HL.out, fun _ => aY HQ.out, lV.out⟩, by simp [intOf]; omega⟩
 obtain rfl : i = j := by omega
 go_wp2_with fail;go_ret;exact ⟨⟨i, rfl, hj, HL.out, HH.out⟩, Hb.out⟩
theorem qe (v : Value) (l : List It) (key : Int) (w : World) (h : iQ w v l) (hs : l.length ≤ 1000000) :
  Calls Tryz.prog 136 #[v, .int .u64 key] w fun e w' => (∃ r : Nat, Place l key r ∧ e = .returned (.tuple #[.int .i64 (r : Int), .bool (decide (r < l.length ∧ (dX l r).key = key))])) ∧ Below w.heap.size w w' := by
 obtain ⟨a, cap, rfl, h1, h2⟩ := h.shape;have HP := zh (show ∀ r, r ≤ l.length → (∀ j, r = j + 1 → (dX l j).key < key) → (r < l.length → key ≤ (dX l r).key) → Place l key r from fun r a b c => ⟨a, b, c⟩);generalize hn : l.length = n at *;have Hr := zh h;have HW := zh (show Below w.heap.size w ((w.alloc (.cells #[.slice a n cap] 33)).alloc (.cells #[.int .u64 key] 24)) from ((aj _ _).alloc (ai _) _).alloc (by simp) _);have HC := zh (zEy w.heap.size (w.heap.size + 1) a n cap l key ((w.alloc (.cells #[.slice a n cap] 33)).alloc (.cells #[.int .u64 key] 24)) ⟨by simp, by simp, Hr.out.below HW.out⟩ hs);have HX := zh (show pN ((w.alloc (.cells #[.slice a n cap] 33)).alloc (.cells #[.int .u64 key] 24)) w.heap.size (w.heap.size + 1) a n cap l key from ⟨by simp, by simp, Hr.out.below HW.out⟩);clear h hn h1 h2
 go_enter Tryz.func136, Tryz.ntmps136
 go_wp2_with fail;refine HC.out.mono ?_; rintro e w1 ⟨⟨r, rfl, r1, r2, r3⟩, hb1⟩;have HR := zh (HP.out r r1 r2 r3);obtain ⟨x1, x2, x3⟩ := HX.out.below hb1;have lV := zh (zA HW.out hb1);clear hb1 r2 r3
 by_cases Nb : r < n
 ·
  obtain ⟨b, off, rfl, c0, _⟩ := x3.at Nb;have i1 : (r : Int) < (n : Int) := by omega
  have HE := zh (show ((dX l r).key == key) = decide (r < n ∧ (dX l r).key = key) by rw [dw]; simp [Nb]);generalize hy : (dX l r).key = y at *;have HY := zh hy;clear x3 hy;go_wp2_with fail
  go_quiet (fail)
  go_wp2_with fail;go_ret2;exact ⟨⟨r, HR.out, Uo (by rw [HY.out]; exact HE.out)⟩, below_drewN lV.out _⟩
 obtain rfl : r = n := by omega
 have HE := zh (show false = decide (r < r ∧ (dX l r).key = key) by simp);clear x3;go_wp2_with fail
 go_quiet (fail)
 go_wp2_with fail;go_ret2;exact ⟨⟨r, HR.out, Uo HE.out⟩, below_drewN lV.out _⟩
theorem UF (v : Value) (l : List It) (key : Int) (w : World) (h : iQ w v l) (hk : wR l) (hs : l.length ≤ 1000000) :
  Calls Tryz.prog 100 #[v, .int .u64 key] w fun e w' => e = .returned (.tuple #[jB ((fG (fC l) key).getD fJ), .bool (fG (fC l) key).isSome]) ∧ Below w.heap.size w w' := by
 have HS := zh (fun w h => hk v w h);have hlen := yU l;have HA := zh (wi l);have HF := zh (fun v w h => qe v (fC l) key w h (by omega));have Hr := zh h;obtain ⟨a, cap, rfl, _, _⟩ := h.shape;generalize fC l = s at *;have HW := zh (show Below w.heap.size w (w.alloc (.cells #[.int .u64 0, .int .u32 0, .int .i64 0, .int .i64 0] 49)) from (aj _ _).alloc (ai _) _);have hW : (w.alloc (.cells #[.int .u64 0, .int .u32 0, .int .i64 0, .int .i64 0] 49)).heap.size = w.heap.size + 1 := by simp
 clear h hk
 go_enter Tryz.func100, Tryz.ntmps100
 go_wp2_with fail;refine (HS.out _ (Hr.out.below HW.out)).mono ?_; rintro e w1 ⟨v1, rfl, hown1, hb1⟩;have HO := zh hown1;have HB := zh hb1;clear hown1 hb1;go_wp2_with fail;refine (HF.out _ _ HO.out.rd).mono ?_; rintro e w2 ⟨⟨r, hp, rfl⟩, hb2⟩;have eP := zh (HB.out.trans (hb2.mono HB.out.size));have g : ∀ i u, (w.alloc (.cells #[.int .u64 0, .int .u32 0, .int .i64 0, .int .i64 0] 49)).cell? ⟨w.heap.size, i, none⟩ = some u → w2.cell? ⟨w.heap.size, i, none⟩ = some u := fun i u hu => (eP.out.cell (p := ⟨w.heap.size, i, none⟩) (by simp)).trans hu
 have f : ∀ i, w2.frozen? ⟨w.heap.size, i, none⟩ = false := fun i => (eP.out.frozen (p := ⟨w.heap.size, i, none⟩) (by simp)).trans (by simp)
 have g0 := g 0 _ (by simp; rfl);have g1 := g 1 _ (by simp; rfl);have g2 := g 2 _ (by simp; rfl);have g3 := g 3 _ (by simp; rfl);have f0 := f 0;have f1 := f 1;have f2 := f 2;have f3 := f 3;have hs2 : w.heap.size < w2.heap.size := by have := eP.out.size; omega
 have Jh := zh (show Below w.heap.size w w2 from HW.out.trans (eP.out.mono (by omega)));have lR := zh (HO.out.rd.below hb2);have HP := zh hp;clear g f hb2 hp hW
 by_cases hy : r < s.length ∧ (dX s r).key = key
 ·
  have Am := zh (HP.out.found HA.out hy.1 hy.2);rw [aF hy];obtain ⟨_, cv, rfl, _, _⟩ := lR.out.shape;obtain ⟨b, off, rfl, c0, c1, c2, c3⟩ := lR.out.at hy.1;have hrl := hy.1;generalize hx : dX s r = x at *;have HX := zh hx;clear hx hy;go_wp2_with fail;exact aw (v := .tuple #[jB x, .bool true]) (by simp [results, Tryz.results100, go_sem, g0, g1, g2, g3]) rfl ⟨by rw [Am.out]; rfl, ((((Jh.out.setCell (ai _) _).setCell (ai _) _).setCell (ai _) _).setCell (ai _) _)⟩
 have Am := zh (HP.out.not HA.out (fun h h' => hy ⟨h, h'⟩));rw [aD hy];clear hy;go_wp2_with fail;exact aw (v := .tuple #[jB fJ, .bool false]) (by simp [results, Tryz.results100, go_sem, g0, g1, g2, g3, fJ]) rfl ⟨by rw [Am.out]; rfl, ((((Jh.out.setCell (ai _) _).setCell (ai _) _).setCell (ai _) _).setCell (ai _) _)⟩
end Go.Proofs.YtcgfilmmokmdjaaGreat
namespace Go.Proofs.YtcgfilmmokmdjaaGreat
open Go.RowKit Go.Shelf
def zHk : Go.Shelf.Ren := ⟨fun | 6 => 129 | 15 => 167 | 14 => 166 | 28 => 194 | 29 => 195 | 20 => 186 | 21 => 187 | 22 => 188 | 23 => 189 | 24 => 190 | 25 => 191 | 26 => 192 | 27 => 193 | 46 => 204 | 47 => 205 | 48 => 206 | 49 => 207 | 50 => 208 | 57 => 213 | n => n, fun | 22 => 33 | 24 => 49 | 25 => 216 | 3 => 3 | 39 => 185 | 0 => 0 | 53 => 47 | 55 => 24 | 4 => 4 | 46 => 256 | 45 => 255 | 50 => 221 | 5 => 5 | 9 => 9 | 66 => 270 | 70 => 274 | 76 => 278 | 77 => 279 | n => n, fun | n => n⟩
theorem UG : Go.Proofs.SlLaysF0.n6 Tryz.prog zHk := {
 mixed := by kernel_rfl
 f6 := ⟨Tryz.f129.name, by decide, Tryz.func129.trans (aS some (by kernel_rfl))⟩
 f14 := ⟨Tryz.f166.name, by decide, Tryz.func166.trans (aS some (by kernel_rfl))⟩
 f15 := Tryz.func167.trans (aS some (by kernel_rfl))
 f20 := ⟨Tryz.f186.name, by decide, Tryz.func186.trans (aS some (by kernel_rfl))⟩
 f21 := ⟨Tryz.f187.name, by decide, Tryz.func187.trans (aS some (by kernel_rfl))⟩
 f22 := ⟨Tryz.f188.name, by decide, Tryz.func188.trans (aS some (by kernel_rfl))⟩
 f23 := ⟨Tryz.f189.name, by decide, Tryz.func189.trans (aS some (by kernel_rfl))⟩
 f24 := ⟨Tryz.f190.name, by decide, Tryz.func190.trans (aS some (by kernel_rfl))⟩
 f25 := ⟨Tryz.f191.name, by decide, Tryz.func191.trans (aS some (by kernel_rfl))⟩
 f26 := ⟨Tryz.f192.name, by decide, Tryz.func192.trans (aS some (by kernel_rfl))⟩
 f27 := ⟨Tryz.f193.name, by decide, Tryz.func193.trans (aS some (by kernel_rfl))⟩
 f28 := Tryz.func194.trans (aS some (by kernel_rfl))
 f29 := Tryz.func195.trans (aS some (by kernel_rfl))
 f46 := ⟨Tryz.f204.name, by decide, Tryz.func204.trans (aS some (by kernel_rfl))⟩
 f47 := Tryz.func205.trans (aS some (by kernel_rfl))
 f48 := Tryz.func206.trans (aS some (by kernel_rfl))
 f49 := ⟨Tryz.f207.name, by decide, Tryz.func207.trans (aS some (by kernel_rfl))⟩
 f50 := ⟨Tryz.f208.name, by decide, Tryz.func208.trans (aS some (by kernel_rfl))⟩
 f57 := ⟨Tryz.f213.name, by decide, Tryz.func213.trans (aS some (by kernel_rfl))⟩
 t0 := Tryz.underlying0
 a0 := Tryz.isAgg0
 z0 := Tryz.sizeOf0
 v0 := Tryz.zeroValue0
 t3 := Tryz.underlying3
 a3 := Tryz.isAgg3
 z3 := Tryz.sizeOf3
 v3 := Tryz.zeroValue3
 t4 := Tryz.underlying4
 a4 := Tryz.isAgg4
 z4 := Tryz.sizeOf4
 v4 := Tryz.zeroValue4
 t5 := Tryz.underlying5
 a5 := Tryz.isAgg5
 z5 := Tryz.sizeOf5
 v5 := Tryz.zeroValue5
 t9 := Tryz.underlying9
 a9 := Tryz.isAgg9
 z9 := Tryz.sizeOf9
 v9 := Tryz.zeroValue9
 t22 := Tryz.underlying33
 a22 := Tryz.isAgg33
 z22 := Tryz.sizeOf33
 v22 := Tryz.zeroValue33
 t25 := Tryz.underlying216
 a25 := Tryz.isAgg216
 z25 := Tryz.sizeOf216
 v25 := Tryz.zeroValue216
 t39 := Tryz.underlying185
 a39 := Tryz.isAgg185
 z39 := Tryz.sizeOf185
 v39 := Tryz.zeroValue185
 t45 := Tryz.underlying255
 a45 := Tryz.isAgg255
 z45 := Tryz.sizeOf255
 v45 := Tryz.zeroValue255
 t46 := Tryz.underlying256
 a46 := Tryz.isAgg256
 z46 := Tryz.sizeOf256
 v46 := Tryz.zeroValue256
 t50 := Tryz.underlying221
 a50 := Tryz.isAgg221
 z50 := Tryz.sizeOf221
 v50 := Tryz.zeroValue221
 t53 := Tryz.underlying47
 a53 := Tryz.isAgg47
 z53 := Tryz.sizeOf47
 v53 := Tryz.zeroValue47
 t55 := Tryz.underlying24
 a55 := Tryz.isAgg24
 z55 := Tryz.sizeOf24
 v55 := Tryz.zeroValue24
 t66 := Tryz.underlying270
 a66 := Tryz.isAgg270
 z66 := Tryz.sizeOf270
 v66 := Tryz.zeroValue270
 t70 := Tryz.underlying274
 a70 := Tryz.isAgg274
 z70 := Tryz.sizeOf274
 v70 := Tryz.zeroValue274
 t76 := Tryz.underlying278
 a76 := Tryz.isAgg278
 z76 := Tryz.sizeOf278
 v76 := Tryz.zeroValue278
 t77 := Tryz.underlying279
 a77 := Tryz.isAgg279
 z77 := Tryz.sizeOf279
 v77 := Tryz.zeroValue279 }
def Fu (x y : Int) : Int := if x < y then -1 else if y < x then 1 else 0
theorem Nc (x y : Int) : (decide (Fu x y < 0)) = decide (x < y) := by
 unfold Fu
 by_cases h : x < y
 ·
  rw [ag h]; simp [h]
 rw [ah h]
 by_cases h2 : y < x
 ·
  rw [ag h2]; simp [h]
 rw [ah h2]; simp [h]
theorem wN (x : Int) (w : World) : Calls Tryz.prog 168 #[.int .i64 x] w fun e w' => e = .returned (.bool false) ∧ w' = w := by
 go_enter Tryz.func168, Tryz.ntmps168
 have hx : (x != x) = false := by simp
 go_wp2_with fail;go_ret;exact ⟨rfl, rfl⟩
theorem zCA (x y : Int) (w : World) : Calls Tryz.prog 131 #[.int .i64 x, .int .i64 y] w fun e w' => e = .returned (.int .i64 (Fu x y)) ∧ w' = w := by
 unfold Fu
 by_cases h : x < y
 ·
  rw [ag h]
  go_enter Tryz.func131, Tryz.ntmps131
  go_wp2_with fail;refine (wN _ _).mono ?_; rintro e w1 ⟨rfl, rfl⟩;go_wp2_with fail;refine (wN _ _).mono ?_; rintro e w2 ⟨rfl, rfl⟩;go_wp2_with fail;go_ret;exact ⟨rfl, rfl⟩
 rw [ah h]
 by_cases h2 : y < x
 ·
  rw [ag h2]
  go_enter Tryz.func131, Tryz.ntmps131
  go_wp2_with fail;refine (wN _ _).mono ?_; rintro e w1 ⟨rfl, rfl⟩;go_wp2_with fail;refine (wN _ _).mono ?_; rintro e w2 ⟨rfl, rfl⟩;go_wp2_with fail;go_ret;exact ⟨rfl, rfl⟩
 rw [ah h2]
 go_enter Tryz.func131, Tryz.ntmps131
 go_wp2_with fail;refine (wN _ _).mono ?_; rintro e w1 ⟨rfl, rfl⟩;go_wp2_with fail;refine (wN _ _).mono ?_; rintro e w2 ⟨rfl, rfl⟩;go_wp2_with fail;go_ret;exact ⟨rfl, rfl⟩
theorem zHN (x y : It) (w : World) : Calls Tryz.prog 130 #[jB x, jB y] w fun e w' => e = .returned (.int .i64 (Fu x.off y.off)) ∧ ∃ q os', w' = Sort.grow (w.drewN q) os' := by
 go_enter Tryz.func130, Tryz.ntmps130
 go_wp2_with fail;refine (zCA _ _ _).mono ?_; rintro e w1 ⟨rfl, rfl⟩;go_wp2_with fail;go_ret;exact ⟨rfl, 0, _, by rw [Sort.alloc_eq_grow, Sort.alloc_eq_grow, Sort.grow_grow]; rfl⟩
theorem UH (l : List It) (t : Nat) (h : t < l.length * 4) : (zU l)[t]? = some ((gZ l.toArray[t / 4]!)[t % 4]!) := by
 have h4 : t / 4 < l.length := by omega
 have e := ux 4 gZ fJ l (fun x _ => wY x) (t / 4) (t % 4) h4 (by omega);rw [show t / 4 * 4 + t % 4 = t from by omega] at e;have e2 : l.toArray[t / 4]! = l.getD (t / 4) fJ := by
  rw [getElem!_pos _ _ (by simpa using h4), ax, aB h4];simp
 rw [e2];unfold zU;rw [e];have h5 : t % 4 < (gZ (l.getD (t / 4) fJ)).length := by rw [wY]; omega
 rw [aB h5, getElem!_pos (gZ (l.getD (t / 4) fJ)) (t % 4) h5]
theorem UI {w : World} {g n : Nat} {l : List It} {cur : Array Value} {e : TypeId} (hg : w.heap[g]? = some (.cells cur e (0, 0))) (hn : l.length = n) (ht : cur.toList.take (n * 4) = zU l) : Sort.HoldsK gZ 4 w g 0 l.toArray := by
 intro j hj;rw [Sort.size_flatK, bZ] at hj;rw [Sort.get_flatK _ _ _ _ (by rw [bZ]; exact hj), aJ];refine ⟨?_, by simp [World.frozen?, hg]⟩;rw [cell_of_row w g j cur e (0, 0) hg];have h := UH l j hj;rw [← ht, cL, ag (by omega)] at h
 simpa using h
theorem zG3 {w : World} {g cap : Nat} {d : Array It} (h : Sort.HoldsK gZ 4 w g 0 d) (hn : d.size ≤ cap) (hc : cap ≤ maxLen) : iQ w (.slice (some ⟨g, 0, none⟩) d.size cap) d.toList := by
 refine yj (n := d.size) ⟨by rw [yF]; simp, some ⟨g, 0, none⟩, cap, rfl, hn, hc, fun h => by simp at h, fun _ => ⟨g, 0, rfl, fun j u hj => ?_⟩⟩;have Ph : j < d.toList.length * 4 := by
  have := (List.getElem?_eq_some_iff.1 hj).1
  rwa [yF] at this
 have h2 := (h j (by rw [Sort.size_flatK]; simpa using Ph)).1;rw [Sort.get_flatK _ _ _ _ (by simpa using Ph)] at h2;rw [UH _ _ Ph] at hj;injection hj with hj;subst hj;exact h2
theorem zC2 {w : World} {B g n : Nat} {d : Array It} {os : Array Obj} (hB : B ≤ g) (hg : g < w.heap.size) : Below B w (sortWorldK gZ 4 w g 0 n d os) := by
 refine ⟨rfl, rfl, rfl, size_sortWorldK_c gZ 4 w g 0 n d os, fun k hk => ?_⟩;unfold sortWorldK Sort.grow Sort.putRowK Sort.putRow Sort.mapBlock
 show ((Array.modify _ g _) ++ os)[k]? = _
 rw [Array.getElem?_append_left (by rw [Array.size_modify]; show k < w.heap.size; omega), Array.getElem?_modify, ah (by omega)]
 rfl
theorem zJ8 {l : List It} {d' : Array It} (h : Sort.PermIn 0 l.toArray.size l.toArray d') : l.Perm d'.toList := by
 obtain ⟨h1, _, h2⟩ := h;have e1 : (d'.extract 0 l.toArray.size) = d' := by rw [← h1]; simp
 have e2 : (l.toArray.extract 0 l.toArray.size) = l.toArray := by simp
 rw [e1, e2] at h2;exact h2.symm
theorem zHm {d' : Array It} {n : Nat} (hn : d'.size = n) (h : Sort.SortedIn (ltOf fun x y : It => Fu x.off y.off) 0 n d') : d'.toList.Pairwise fun a b => a.off ≤ b.off := by
 rw [List.pairwise_iff_getElem];intro i j hi hj hij;have hi' : i < d'.size := by simpa using hi
 have hj' : j < d'.size := by simpa using hj
 have h2 := h i j (au _) hij (by omega);unfold ltOf at h2;rw [Nc, decide_eq_false_iff_not, getElem!_pos d' i hi', getElem!_pos d' j hj'] at h2
 simpa using h2
theorem zMR : Sort.SWO (ltOf fun x y : It => Fu x.off y.off) where
 irrefl x := by unfold ltOf; rw [Nc]; simp
 trans x y z h1 h2 := by unfold ltOf at *; rw [Nc] at *; simp at *; omega
 ntrans x y z h1 h2 := by unfold ltOf at *; rw [Nc] at *; simp at *; omega
end Go.Proofs.YtcgfilmmokmdjaaGreat
namespace Go.Proofs.YtcgfilmmokmdjaaGreat
open Go.RowKit
abbrev Ji (n : Int) : Value := .int .u64 n
abbrev lX (w : World) (v : Value) (l : List Int) : Prop := iw Ji w v l
def oJ (l : List Int) (j : Nat) : Int := l.getD j 0
theorem lX.gw {w : World} {v : Value} {l : List Int} (h : lX w v l) : ∃ a cap, v = .slice a l.length cap ∧ l.length ≤ cap ∧ cap ≤ maxLen := by
 obtain ⟨a, cap, h1, h2, h3, _⟩ := iw.shape h 0;exact ⟨a, cap, h1, h2, h3⟩
theorem lX.at {w : World} {a : Option Addr} {n cap : Nat} {l : List Int} (h : lX w (.slice a n cap) l) {j : Nat} (hj : j < n) : ∃ b off, a = some ⟨b, off, none⟩ ∧ w.cell? ⟨b, off + j, none⟩ = some (.int .u64 (oJ l j)) := by
 obtain ⟨a', cap', e, h2, h3, _, h5⟩ := iw.shape h 0;injection e with e1 e2 e3;subst e1 e2 e3;obtain ⟨b, off, e, hc⟩ := h5 (by omega);exact ⟨b, off, e, hc j hj⟩
theorem Pj {l : List Int} {j : Nat} (h : j < l.length) : oJ l j ∈ l := by
 unfold oJ;rw [ax, aB h]; exact bI h
theorem zD3 {l : List Int} {x : Int} {j : Nat} (h : j < l.length) (h' : oJ l j = x) : l.contains x = true := by
 rw [List.contains_iff_mem]; rw [← h']; exact Pj h
theorem zDQ {l : List Int} {x : Int} (h : ∀ j, j < l.length → oJ l j ≠ x) : l.contains x = false := by
 cases e : l.contains x with
 | false => rfl
 | true =>
  rw [List.contains_iff_mem] at e;obtain ⟨j, hj, e⟩ := List.mem_iff_getElem.1 e;exact absurd (by simp [oJ, aB hj, e]) (h j hj)
theorem zE8 (v : Value) (l : List Int) (x : Int) (w : World) (h : lX w v l) :
  Calls Tryz.prog 196 #[v, .int .u64 x] w fun e w' => (∃ k : Int, e = .returned (.int .i64 k) ∧ decide (0 ≤ k) = l.contains x) ∧ w = w' := by
 obtain ⟨a, cap, rfl, h1, h2⟩ := h.gw;have HT := zh (show (∀ j, j < l.length → oJ l j ≠ x) → l.contains x = false from zDQ);have HF := zh (show ∀ j, j < l.length → oJ l j = x → l.contains x = true from fun j => zD3);have hm := BM h1 h2;generalize l.contains x = r at *;generalize hn : l.length = n at *;have Hr := zh h;clear h h1 h2 hn
 go_enter Tryz.func196, Tryz.ntmps196
 go_wp2_with fail
 go_loop [8] (fun i => ∃ k : Nat, k ≤ n ∧ i = .int .i64 (k : Int) ∧ (∀ j, j < k → oJ l j ≠ x)) (fun i => n - (intOf i).toNat)
 case atStart => exact ⟨0, au _, rfl, fun j hj => absurd hj (by omega)⟩
 obtain ⟨k, hk, rfl, hno⟩ := hrel;have UJ := zh hno;clear hno
 by_cases hlt : k < n
 ·
  obtain ⟨b, off, rfl, c0⟩ := Hr.out.at hlt;generalize hy : oJ l k = y at *;have HY := zh hy;clear hy
  by_cases hxy : x = y
  ·
   have hd : (x == y) = true := beq_iff_eq.2 hxy;have HR := zh (HF.out k hlt (by rw [HY.out, hxy]));clear hxy;go_wp2_with fail;go_ret;exact ⟨⟨k, rfl, by rw [HR.out]; simp⟩, rfl⟩
  have hd : (x == y) = false := beq_eq_false_iff_ne.2 hxy;have mJ := zh hxy;clear hxy;go_wp2_with fail;refine ⟨⟨k + 1, by omega, by go_num, fun j hj => ?_⟩, by simp [intOf]; omega⟩
  by_cases e : j = k
  ·
   rw [e, HY.out]; exact fun e => mJ.out e.symm
  exact UJ.out j (by omega)
 obtain rfl : k = n := by omega
 go_wp2_with fail;go_ret;exact ⟨⟨-1, rfl, by rw [HT.out UJ.out]; rfl⟩, rfl⟩
theorem zB4 (v : Value) (l : List Int) (x : Int) (w : World) (h : lX w v l) :
  Calls Tryz.prog 171 #[v, .int .u64 x] w fun e w' => e = .returned (.bool (l.contains x)) ∧ w = w' := by
 have HX := zh (zE8 v l x w h);obtain ⟨a, cap, rfl, _, _⟩ := h.gw;generalize l.contains x = r at *;clear h
 go_enter Tryz.func171, Tryz.ntmps171
 go_wp2_with fail;refine HX.out.mono ?_; rintro e w1 ⟨⟨k, rfl, hk⟩, rfl⟩;have HK := zh hk;clear hk;go_wp2_with fail;go_ret;exact ⟨zE HK.out, rfl⟩
def Gone (w : World) (gb : Nat) (gone : List Int) : Prop := ∃ a n cap, w.cell? ⟨gb, 0, none⟩ = some (.slice a n cap) ∧ lX w (.slice a n cap) gone
theorem Gone.below {w w' : World} {gb : Nat} {gone : List Int} (h : Gone w gb gone) (hb : Below w.heap.size w w') : Gone w' gb gone := by
 obtain ⟨a, n, cap, h1, h2⟩ := h;exact ⟨a, n, cap, Below.keeps hb _ _ h1, h2.below hb⟩
theorem UK (k c o s : Int) (gb : Nat) (gone : List Int) (w : World) (h : Gone w gb gone) :
  Calls Tryz.prog 170 #[.agg #[.int .u64 k, .int .u32 c, .int .i64 o, .int .i64 s], .pointer (some ⟨gb, 0, none⟩)] w fun e w' => e = .returned (.bool (gone.contains k)) ∧ Below w.heap.size w w' := by
 have HW := zh (show Below w.heap.size w (w.alloc (.cells #[.int .u64 k, .int .u32 c, .int .i64 o, .int .i64 s] 49)) from (aj _ _).alloc (ai _) _);obtain ⟨a, n, cap, h1, h2⟩ := h;have HC := zh (zB4 (.slice a n cap) gone k (w.alloc (.cells #[.int .u64 k, .int .u32 c, .int .i64 o, .int .i64 s] 49)) (h2.below HW.out));have h1' := Below.keeps HW.out _ _ h1;generalize gone.contains k = r at *;clear h2
 go_enter Tryz.func170, Tryz.ntmps170
 go_wp2_with fail;refine HC.out.mono ?_; rintro e w1 ⟨rfl, rfl⟩;go_wp2_with fail;go_ret;exact ⟨rfl, HW.out⟩
def kept (gone : List Int) (l : List It) : List It := l.filter fun x => !gone.contains x.key
theorem zHO (gone : List Int) {l : List It} {j : Nat} (h : j < l.length) : kept gone (l.take (j + 1)) = kept gone (l.take j) ++ (if gone.contains (dX l j).key then [] else [dX l j]) := by
 unfold kept;rw [xB h, cQ]
 congr 1
 cases e : gone.contains (dX l j).key <;> simp only [cu, List.filter_nil, e] <;> rfl
theorem UL {gone : List Int} {l : List It} (h : ∀ j, j < l.length → gone.contains (dX l j).key = false) : kept gone l = l := by
 unfold kept;rw [List.filter_eq_self];intro x hx;obtain ⟨j, hj, rfl⟩ := vw hx;rw [h j hj]; rfl
theorem UM (y : It) : ∀ (l : List It) (k : Nat), k < l.length → ((((zU l).set (k * 4) (.int .u64 y.key)).set (k * 4 + 1) (.int .u32 y.ck)).set (k * 4 + 2) (.int .i64 y.off)).set (k * 4 + 3) (.int .i64 y.size) = zU (l.set k y)
 | [], _, h => by simp at h
 | x :: r, 0, _ => rfl
 | x :: r, k + 1, h => by
  have ih := UM y r k (by simpa using h);have e0 : (k + 1) * 4 = k * 4 + 1 + 1 + 1 + 1 := by omega
  have e1 : (k + 1) * 4 + 1 = k * 4 + 1 + 1 + 1 + 1 + 1 := by omega
  have e2 : (k + 1) * 4 + 2 = k * 4 + 2 + 1 + 1 + 1 + 1 := by omega
  have e3 : (k + 1) * 4 + 3 = k * 4 + 3 + 1 + 1 + 1 + 1 := by omega
  rw [e1, e2, e3, e0]
  show _ = gZ x ++ zU (r.set k y)
  rw [← ih]
  rfl
theorem Pk {w : World} {B g n cap : Nat} {l : List It} (h : w.ownsRow B 49 4 (.slice (some ⟨g, 0, none⟩) n cap) n (zU l)) (k : Nat) (hk : k < l.length) (y : It) :
  ((((w.setCell ⟨g, k * 4, none⟩ (.int .u64 y.key)).setCell ⟨g, k * 4 + 1, none⟩ (.int .u32 y.ck)).setCell ⟨g, k * 4 + 2, none⟩ (.int .i64 y.off)).setCell ⟨g, k * 4 + 3, none⟩ (.int .i64 y.size)).ownsRow B 49 4 (.slice (some ⟨g, 0, none⟩) n cap) n (zU (l.set k y)) := by
 rw [← UM y l k hk];exact ((((h.stored _ _).1.stored _ _).1.stored _ _).1.stored _ _).1
theorem vv : ∀ m : Nat, (Builtin.zeroCells (jB fJ).cells m).toList = zU (List.replicate m fJ)
 | 0 => by simp [Builtin.zeroCells, zU]
 | m + 1 => by
  rw [List.replicate_succ', zu, ← vv m, xM]
  show (Array.map _ (Array.range ((m + 1) * 4))).toList = (Array.map _ (Array.range (m * 4))).toList ++ _
  have e : (m + 1) * 4 = m * 4 + 1 + 1 + 1 + 1 := by omega
  rw [e];simp only [Array.toList_map, Array.toList_range, List.range_succ, bV, List.map_cons, List.map_nil, bp]
  congr 1
  show _ = [Value.int .u64 0, .int .u32 0, .int .i64 0, .int .i64 0]
  have s4 : (jB fJ).cells.size = 4 := rfl;rw [s4];rw [show m * 4 % 4 = 0 by omega, show (m * 4 + 1) % 4 = 1 by omega, show (m * 4 + 1 + 1) % 4 = 2 by omega, show (m * 4 + 1 + 1 + 1) % 4 = 3 by omega]
  rfl
theorem zH0 {w : World} {B g n cap : Nat} {l : List It} (h : w.ownsRow B 49 4 (.slice (some ⟨g, 0, none⟩) n cap) n (zU l)) (i : Nat) (hi : i < n) :
  ∃ w', (∀ ty c, (Builtin.clear_ #[33] ty #[.slice (some ⟨g, i * 4, none⟩) (n - i) c]).run Tryz.prog w = .ok (.tuple #[]) w') ∧ w'.ownsRow B 49 4 (.slice (some ⟨g, 0, none⟩) n cap) n (zU (l.take i ++ List.replicate (n - i) fJ)) ∧ w.grownBy w' (some g) := by
 have hl : l.length = n := by have := h.1; rw [yF] at this; omega
 obtain ⟨w', h1, h2, h3⟩ := tj (P := Tryz.prog) h (i * 4) (zU (List.replicate (n - i) fJ)) (by rw [yF, dy]; omega) (zn _);refine ⟨w', fun ty c => ?_, ?_, h3⟩
 ·
  obtain ⟨m, hm⟩ : ∃ m, n - i = m + 1 := ⟨n - i - 1, by omega⟩
  rw [hm] at h1 ⊢;simp only [Builtin.clear_];simp [run_underlying Tryz.underlying33];have hz := vv (m + 1);simp only [jB, fJ] at hz;rw [hz, show zU (List.replicate (m + 1) ⟨0, 0, 0, 0⟩) = zU (List.replicate (m + 1) fJ) from rfl, h1]
  rfl
 rw [zu, xl];rw [bQ (by rw [yF, yF, dy]; omega), bW] at h2;exact h2
theorem zJB (v : Value) (l : List It) (gb : Nat) (gone : List Int) (w : World) (h : iQ w v l) (hg : Gone w gb gone) :
  Calls Tryz.prog 178 #[v, .func (.func 170) #[] #[.pointer (some ⟨gb, 0, none⟩)]] w fun e w' =>
   ((e = .returned (.int .i64 (-1)) ∧ ∀ j, j < l.length → gone.contains (dX l j).key = false) ∨ ∃ k : Nat, k < l.length ∧ e = .returned (.int .i64 (k : Int)) ∧ gone.contains (dX l k).key = true ∧ ∀ j, j < k → gone.contains (dX l j).key = false) ∧ Below w.heap.size w w' := by
 obtain ⟨a, cap, rfl, h1, h2⟩ := h.shape;have hm := BM h1 h2;have Hg := zh hg;generalize hn : l.length = n at *;have Hr := zh h;clear h h1 h2 hn hg
 go_enter Tryz.func178, Tryz.ntmps178
 go_wp2_with fail
 go_loopw [8] (fun i wr => ∃ k : Nat, k ≤ n ∧ i = .int .i64 (k : Int) ∧ (∀ j, j < k → gone.contains (dX l j).key = false) ∧ Below w.heap.size w wr) (fun i _ => n - (intOf i).toNat)
 case atStart => exact ⟨0, au _, rfl, fun j hj => absurd hj (by omega), aj _ _⟩
 obtain ⟨k, hk, rfl, hok, hb⟩ := hrel;have lI := zh hok;have Hb := zh hb;have hB := hb.size;clear hok hb
 by_cases hlt : k < n
 ·
  have hr := Hr.out.below Hb.out;obtain ⟨b, off, rfl, c0, c1, c2, c3⟩ := hr.at hlt;have HV := zh (UK (dX l k).key (dX l k).ck (dX l k).off (dX l k).size gb gone wr (Hg.out.below Hb.out));generalize hx : dX l k = x at *;have EX := zh hx;clear hr hx;go_wp2_with fail;refine HV.out.mono ?_; rintro e w1 ⟨rfl, hb1⟩;have lV := zh (zA Hb.out hb1)
  cases hx : gone.contains x.key
  ·
   have HX := zh hx;clear hb1 hx;go_wp2_with fail;refine ⟨⟨k + 1, by omega, by go_num, fun j hj => ?_, lV.out⟩, by simp [intOf]; omega⟩
   by_cases e : j = k
   ·
    rw [e, EX.out]; exact HX.out
   exact lI.out j (by omega)
  have HX := zh hx;clear hb1 hx;go_wp2_with fail;go_ret;exact ⟨.inr ⟨k, hlt, rfl, by rw [EX.out]; exact HX.out, lI.out⟩, lV.out⟩
 obtain rfl : k = n := by omega
 go_wp2_with fail;go_ret;exact ⟨.inl ⟨rfl, lI.out⟩, Hb.out⟩
theorem zLd (v : Value) (l : List It) (gb : Nat) (gone : List Int) (B : Nat) (w : World) (hown : fg w B v l) (hB : B ≤ w.heap.size) (hg : ∀ W, Below B w W → Gone W gb gone) :
  Calls Tryz.prog 169 #[v, .func (.func 170) #[] #[.pointer (some ⟨gb, 0, none⟩)]] w fun e w' => ∃ v', e = .returned v' ∧ fg w' B v' (kept gone l) ∧ Below B w w' := by
 have HI := zh (zJB v l gb gone w hown.rd (hg w (aj _ _)));have HG := zh hg;have Eu := zh (show (∀ j, j < l.length → _) → _ from UL (gone := gone) (l := l));have UN := zh (show ∀ j, j < l.length → _ from fun j hj => zHO gone (l := l) (j := j) hj);have HKE := zh (show kept gone (l.take l.length) = kept gone l by rw [ct]);obtain ⟨oa, oc, rfl, ho1, ho2, oT⟩ := zO hown;have hm := BM ho1 ho2;have gP := zh (show w.ownsRow B 49 4 _ l.length (zU l) from hown);have J5 := zh oT;generalize hn : l.length = n at *;have HN := zh hn;clear hg oT hn hown
 go_enter Tryz.func169, Tryz.ntmps169
 go_wp2_with fail;refine HI.out.mono ?_; rintro e w1 ⟨hres, hb1⟩;have eQ := zh (show Below B w w1 from hb1.mono hB);have mR := zh (zH gP.out hb1);clear hb1;rcases hres with ⟨rfl, hno⟩ | ⟨i0, Pm, rfl, Kh, hno⟩
 ·
  have HK := zh (Eu.out hno);clear hno;go_wp2_with fail;go_ret;exact ⟨_, rfl, yI mR.out (by rw [HK.out]), eQ.out⟩
 have hneg : ((i0 : Int) == -1) = false := beq_eq_false_iff_ne.2 (by omega);have hk0 : kept gone (l.take (i0 + 1)) = l.take i0 := by
  rw [UN.out i0 Pm, Kh];simp only [if_true, bW];refine UL fun j hj => ?_
  rw [ay] at hj;rw [wX (by omega)];exact hno j (by omega)
 have Fv := zh hk0;obtain ⟨g, rfl⟩ : ∃ g, oa = some ⟨g, 0, none⟩ := by
  rcases mR.out.2 with ⟨e, h0⟩ | ⟨g, _, _, e, _⟩
  ·
   omega
  injection e with e; exact ⟨g, e⟩
 have hgB := (mR.out.lt g rfl).1;clear Kh hno hk0;go_wp2_with fail
 go_loopw [5, 6] (fun iv jv wr => ∃ (i j : Nat) (a : List It), iv = .int .i64 (i : Int) ∧ jv = .int .i64 (j : Int) ∧ i < j ∧ j ≤ n ∧ a.length = n ∧ wr.ownsRow B 49 4 (.slice (some ⟨g, 0, none⟩) n oc) n (zU a) ∧ a.take i = kept gone (l.take j) ∧ a.drop j = l.drop j ∧ Below B w wr) (fun _ jv _ => n - (intOf jv).toNat)
 case atStart => exact ⟨i0, i0 + 1, l, rfl, by go_num, by omega, by omega, HN.out, mR.out, Fv.out.symm, rfl, eQ.out⟩
 obtain ⟨i, j, a, rfl, rfl, hij, hj, ha, hown, UO, hdj, hb⟩ := hrel;have HA := zh ha;have HO := zh hown;have HT := zh UO;have HD := zh hdj;have Hb := zh hb;have DV : B ≤ wr.heap.size := ak hB hb.size;have hgr := (hown.lt g rfl).2;clear ha hown UO hdj hb
 by_cases hlt : j < n
 ·
  obtain ⟨_, _, e, c0, c1, c2, c3⟩ := (yj (zr HO.out)).at hlt;injection e with e; injection e with e1 e2; subst e1 e2;simp only [aJ] at c0 c1 c2 c3;have Pn : dX a j = dX l j := by
   have h1 := xg a j 0;rw [HD.out, xg, bn] at h1;exact h1.symm
  rw [Pn] at c0 c1 c2 c3;have UP := zh (UN.out j hlt);have HAX := zh Pn;clear Pn;generalize dX l j = x at *;have oU := zh (show Below B w (wr.alloc (.cells #[.int .u64 x.key, .int .u32 x.ck, .int .i64 x.off, .int .i64 x.size] 49)) from Hb.out.alloc DV _);have HM := zh (UK x.key x.ck x.off x.size gb gone (wr.alloc (.cells #[.int .u64 x.key, .int .u32 x.ck, .int .i64 x.off, .int .i64 x.size] 49)) (HG.out _ oU.out));go_wp2_with fail;refine HM.out.mono ?_; rintro e w2 ⟨rfl, hb2⟩;have gj := zh (zH (HO.out.alloc _) hb2);have eP := zh (show Below B w w2 from oU.out.trans (hb2.mono (by simp; omega)));have d0 := Below.keeps hb2 ⟨wr.heap.size, 0, none⟩ (.int .u64 x.key) (by simp);have d1 := Below.keeps hb2 ⟨wr.heap.size, 1, none⟩ (.int .u32 x.ck) (by simp);have d2 := Below.keeps hb2 ⟨wr.heap.size, 2, none⟩ (.int .i64 x.off) (by simp)
  have d3 := Below.keeps hb2 ⟨wr.heap.size, 3, none⟩ (.int .i64 x.size) (by simp);have hs2 : B ≤ w2.heap.size := ak hB eP.out.size;clear hb2 c0 c1 c2 c3
  cases hr : gone.contains x.key
  ·
   have HR := zh hr;obtain ⟨_, _, e, c0, c1, c2, c3⟩ := (yj (zr gj.out)).at (show i < n by omega);injection e with e; injection e with e1 e2; subst e1 e2;simp only [aJ] at c0 c1 c2 c3;have f0 := gj.out.frozenAt (i * 4);have f1 := gj.out.frozenAt (i * 4 + 1);have f2 := gj.out.frozenAt (i * 4 + 2);have f3 := gj.out.frozenAt (i * 4 + 3);have HS := zh (Pk gj.out i (by rw [HA.out]; omega) x);clear hr;go_wp2_with fail;have hdr : (a.set i x).drop (j + 1) = l.drop (j + 1) := by
    rw [List.drop_set_of_lt (by omega), ← bU, HD.out, bU]
   have htk : (a.set i x).take (i + 1) = kept gone (l.take (j + 1)) := by
    rw [UP.out, HR.out, ← HT.out, uB a i x (by rw [HA.out]; omega)]
    rfl
   refine ⟨⟨i + 1, j + 1, a.set i x, by go_num, by go_num, by omega, by omega, by rw [aZ]; exact HA.out, HS.out, htk, hdr, ?_⟩, by simp [intOf]; omega⟩;exact ((((eP.out.setCell hgB _).setCell hgB _).setCell hgB _).setCell hgB _)
  have HR := zh hr;clear hr;go_wp2_with fail;have hdr : a.drop (j + 1) = l.drop (j + 1) := by
   rw [← bU, HD.out, bU]
  refine ⟨⟨i, j + 1, a, rfl, by go_num, by omega, by omega, HA.out, gj.out, ?_, hdr, eP.out⟩, by simp [intOf]; omega⟩;rw [UP.out, HR.out, HT.out]; simp
 obtain rfl : j = n := by omega
 obtain ⟨w3, hcl, ei, eW⟩ := zH0 HO.out i (by omega);have lB := zh (vL ei i (by omega));have fV := zh (Hb.out.grown eW DV (by intro r hr; injection hr with hr; omega));have Cn := yq (P := Tryz.prog) yE (n := j) (cap := oc) J5.out i (by omega);clear ei eW;go_wp2_with fail;go_ret;refine ⟨_, rfl, yI lB.out ?_, fV.out⟩;have hia : i ≤ a.length := by rw [HA.out]; omega
 rw [← xl, dN (by rw [ay]; omega), dh, Nat.min_self, HT.out, HKE.out]
def Ng (old fresh : List It) (gone : List Int) : List It := fC (kept gone (fC old) ++ fC fresh)
theorem UQ (gone : List Int) (l : List It) : (kept gone l).length ≤ l.length := List.length_filter_le _ _
theorem zHi (vo vf vg : Value) (old fresh : List It) (gone : List Int) (w : World) (ho : iQ w vo old) (hf : iQ w vf fresh) (hg : lX w vg gone)
  (so : wR old) (sf : wR fresh) (sm : wR (kept gone (fC old) ++ fC fresh)) (h1 : old.length ≤ 100000) (h2 : fresh.length ≤ 100000) :
  Calls Tryz.prog 132 #[vo, vf, vg] w fun e w' => ∃ v', e = .returned v' ∧ fg w' w.heap.size v' (Ng old fresh gone) ∧ Below w.heap.size w w' := by
 have SO := zh (fun w h => so vo w h);have SF := zh (fun w h => sf vf w h);have SM := zh (fun v w h => sm v w h);have HM := zh (show Ng old fresh gone = fC (kept gone (fC old) ++ fC fresh) from rfl);obtain ⟨a1, c1, rfl, _, _⟩ := ho.shape;obtain ⟨a2, c2, rfl, _, _⟩ := hf.shape;obtain ⟨a3, c3, rfl, _, _⟩ := hg.gw;have l1 := yU old;have l2 := yU fresh;have l3 := UQ gone (fC old);generalize fC old = s1 at *;generalize fC fresh = s2 at *;obtain ⟨W0, hW0⟩ : ∃ W0, W0 = w.alloc (.cells #[.slice a3 gone.length c3] 87) := ⟨_, rfl⟩
 have oU := zh hW0;have eD := zh (show Below w.heap.size w W0 by rw [hW0]; exact (aj _ _).alloc (ai _) _);have Po := zh (show Gone W0 w.heap.size gone from ⟨a3, gone.length, c3, by rw [hW0]; simp, hg.below eD.out⟩);have hs0 : w.heap.size ≤ W0.heap.size := eD.out.size;have Ho := zh ho;have Hf := zh hf;have HDF := zh (fun v w' B (h : fg w' B v s1) hB hg => zLd v s1 w.heap.size gone B w' h hB hg);generalize hk : kept gone s1 = k1 at *;have HK := zh hk;clear ho hf hg so sf sm hW0 hk
 go_enter Tryz.func132, Tryz.ntmps132
 go_wp2_with fail;rw [← oU.out];refine (SO.out _ (Ho.out.below eD.out)).mono ?_; rintro e w1 ⟨v1, rfl, hown1, hb1⟩;have mR := zh hown1;have eQ := zh hb1;clear hown1 hb1;go_wp2_with fail;refine (HDF.out v1 w1 W0.heap.size mR.out eQ.out.size (fun W h => Po.out.below (eQ.out.trans h))).mono ?_; rintro e w2 ⟨v2, rfl, ew, hb2⟩;have gj := zh ew;have eP := zh (eQ.out.trans hb2);have Ao := zh (iP eD.out hs0 (eQ.out.trans hb2));clear ew hb2;go_wp2_with fail;refine (SF.out _ (Hf.out.below Ao.out)).mono ?_; rintro e w3 ⟨v3, rfl, ei, hb3⟩;have lB := zh (zH gj.out hb3);have mh := zh (tK ei.rd);have fV := zh (eP.out.trans (hb3.mono eP.out.size));clear ei hb3;go_wp2_with (at_builtin; go_must (refine zd rfl (.tmp 13) (.tmp 15) 33 rfl yE W0.heap.size rfl lB.out rfl mh.out (zn _) (by unfold maxLen; omega) (by omega) fV.out.size ?_); intro v4 w4 eZ gK hv4; clear hv4);have iB := zh (yI eZ (zu k1 s2).symm)
 have fQ := zh (zM fV.out lB.out fV.out.size gK);clear eZ gK;go_wp2_with fail;refine (SM.out _ _ iB.out.rd).mono ?_; rintro e w5 ⟨v5, rfl, fF, hb5⟩;have jE := zh fF;have gp := zh (fQ.out.trans (hb5.mono fQ.out.size));clear fF hb5;go_wp2_with fail;go_ret;refine ⟨_, rfl, ?_, eD.out.trans (gp.out.mono hs0)⟩;rw [HM.out];exact jE.out.mono (ak hs0 fQ.out.size)
end Go.Proofs.YtcgfilmmokmdjaaGreat
namespace Go.Proofs.YtcgfilmmokmdjaaGreat
def gl (l : List It) (key : Int) : List It := l.filter fun y => !(y.key == key)
theorem zl (y : It) (r : List It) (key : Int) : fG (y :: r) key = if y.key = key then some y else fG r key := by
 unfold fG;rw [List.find?_cons]
 by_cases h : y.key = key
 ·
  rw [ag h, show (y.key == key) = true from beq_iff_eq.2 h]
 rw [ah h, show (y.key == key) = false from beq_eq_false_iff_ne.2 h]
theorem vG (x : It) : ∀ l : List It, fG (ins l x) x.key = some x
 | [] => by rw [show ins [] x = [x] from rfl, zl, ag rfl]
 | y :: r => by
  unfold ins
  split
  ·
   rw [zl, ah (by omega)]; exact vG x r
  split <;> rw [zl, ag rfl]
theorem wl (x : It) (key : Int) (h : key ≠ x.key) : ∀ l : List It, fG (ins l x) key = fG l key
 | [] => by rw [show ins [] x = [x] from rfl, zl, ah (aO h)]
 | y :: r => by
  have ih := wl x key h r;unfold ins
  split
  ·
   rw [zl, zl, ih]
  split
  ·
   rw [zl, zl, ah (aO h), ah (by omega)]
  rw [zl, ah (aO h)]
theorem kW (l : List It) (key : Int) : fG (gl l key) key = none := by
 unfold fG gl;rw [List.find?_eq_none];intro x hx;have := (List.mem_filter.1 hx).2;simp at this ⊢;exact this
theorem uH (k key : Int) (h : key ≠ k) : ∀ l : List It, fG (gl l k) key = fG l key
 | [] => rfl
 | y :: r => by
  have ih := uH k key h r;unfold gl at ih ⊢;rw [cu]
  by_cases e : y.key = k
  ·
   rw [ah (by simp [e]), zl, ah (by omega), ih]
  rw [ag (by simp [e]), zl, zl, ih]
theorem vE {l : List It} {r : Nat} (h : r < l.length) : l[r] = dX l r := by
 unfold dX; rw [ax, aB h]; rfl
theorem uw : ∀ {l : List It}, lW l → l.Pairwise fun a b => a.key < b.key
 | [], _ => .nil
 | x :: r, h => by
  have hp := uw h.tail;refine .cons (fun y hy => ?_) hp
  cases r with
  | nil => cases hy
  | cons z r =>
   have hz : x.key < z.key := h.1
   cases hy with
   | head => exact hz
   | tail _ hy => have := (List.pairwise_cons.1 hp).1 y hy; omega
theorem Pq : ∀ {l : List It}, (l.Pairwise fun a b => a.key < b.key) → lW l
 | [], _ => trivial
 | [x], _ => trivial
 | x :: y :: r, h => ⟨(List.pairwise_cons.1 h).1 y (by simp), Pq (List.pairwise_cons.1 h).2⟩
theorem Pr {l : List It} (h : jZ l) (key : Int) : jZ (gl l key) :=
 (xX _).1 (Pq (List.Pairwise.filter _ (uw ((xX _).2 h))))
theorem UR {l : List It} (h : jZ l) (x : It) : jZ (ins l x) := (xX _).1 (qP x l ((xX _).2 h))
theorem uZ (l : List It) (key : Int) : (gl l key).length ≤ l.length := List.length_filter_le _ _
theorem zLb {l : List It} {x : It} {r : Nat} (h : Place l x.key r) (ha : jZ l) : ins l x = if r < l.length ∧ (dX l r).key = x.key then l.set r x else l.take r ++ x :: l.drop r := by
 have := M_ l x r h.1 (fun j hj => h.lt ha hj) (fun hr => h.2.2 hr);rw [this]
 split
 ·
  rename_i hc;rw [dS, ag hc.1]
 rfl
theorem zG1 {l : List It} {key : Int} {r : Nat} (h : Place l key r) (ha : jZ l) : gl l key = if r < l.length ∧ (dX l r).key = key then l.take r ++ l.drop (r + 1) else l := by
 have Gr : ∀ (q : List It), (∀ x ∈ q, x.key ≠ key) → gl q key = q := fun q hq => by
  unfold gl;rw [List.filter_eq_self];intro x hx;simp;exact hq x hx
 have pw := uw ((xX _).2 ha)
 split
 ·
  rename_i hc;have e : l = l.take r ++ dX l r :: l.drop (r + 1) := by
   have e1 : l.drop r = dX l r :: l.drop (r + 1) := by
    rw [cR hc.1, vE hc.1]
   rw [← e1, bJ]
  have US := pw;rw [e, List.pairwise_append] at US;obtain ⟨_, p2, p3⟩ := US;have h1 : gl (l.take r) key = l.take r := Gr _ fun y hy => by have := p3 y hy (dX l r) (by simp); omega
  have h2 : gl (l.drop (r + 1)) key = l.drop (r + 1) := Gr _ fun y hy => by have := (List.pairwise_cons.1 p2).1 y hy; omega
  conv => lhs; rw [e]
  unfold gl at h1 h2 ⊢;rw [cQ, h1, cu, ah (by simp [hc.2]), h2]
 rename_i hc;refine Gr _ fun y hy => ?_
 obtain ⟨j, hj, rfl⟩ := vw hy;rcases bD j r with UT | UT
 ·
  have := h.lt ha UT; omega
 by_cases Ps : j = r
 ·
  subst Ps; exact fun e => hc ⟨hj, e⟩
 have h1 := h.2.2 (by omega);have h2 : (dX l r).key < (dX l j).key := by
  have := List.pairwise_iff_getElem.1 pw r j (by omega) hj (by omega);rw [vE, vE] at this;exact this
 omega
end Go.Proofs.YtcgfilmmokmdjaaGreat
