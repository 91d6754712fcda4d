/- A part of the walk. -/
import Derived.Test.YtcgfilmmokmdjaaGreatQAA
import Derived.Shelf.SlSortCmp.KitK
import Derived.Ground.SlsfProg
import Derived.Deep.Onto
set_option maxRecDepth 100000
set_option maxHeartbeats 32000000
namespace Go.Proofs.YtcgfilmmokmdjaaGreat
open Go.RowKit
theorem PF (v : Value) (l : List It) (w : World) (h : iP w v l) (hs : l.length ≤ 1000000) :
  Calls Tryz.prog 134 #[v] w fun e w' => ∃ v', e = .returned v' ∧ fc w' w.heap.size v' l ∧ Below w.heap.size w w' := by
 obtain ⟨a, cap, rfl, h1, h2⟩ := h.shape;have UW : ∀ (w : World) (a : Option Addr) (n c n' c' : Nat), (binOp .eql 33 (.slice a n c) (.slice none n' c')).run Tryz.prog w = .ok (.bool a.isNone) w := fun w a n c n' c' => Lib.run_eql_slice_nil w _ _ a n c n' c' de
 cases a with
 | none =>
  have h0 : l = [] := by
   obtain ⟨_, a', cap', e, _, _, h5, _⟩ := h.2;injection e with e1 e2 e3;have := h5 e1.symm;exact List.length_eq_zero_iff.1 (by omega)
  subst h0;clear h
  go_enter Tryz.func134, Tryz.ntmps134
  go_wp2_with fail;go_ret;exact ⟨_, rfl, aV _ _ _ _, aj _ _⟩
 | some p =>
  have Hr := zh (tK h);generalize hn : l.length = n at *;clear h
  go_enter Tryz.func134, Tryz.ntmps134
  go_wp2_with (at_builtin; go_must (refine zd rfl (.tmp 5) (.tmp 6) 33 rfl yE w.heap.size rfl (db (size := 4) _ #[] 0 (ai _) (by decide) rfl) rfl (Hr.out.alloc _) (zn _) (by unfold maxLen; omega) (by omega) (by simp) ?_); intro v3 w3 d_ eW mH; clear mH);have HB := zh (zM ((aj w.heap.size w).alloc (ai _) _) (db (e := 49) (size := 4) w #[] 0 (ai _) (by decide) rfl) (by simp) eW);have HO := zh (yI d_ (bU _));clear d_ eW;go_wp2_with fail;go_ret;exact ⟨_, rfl, HO.out, HB.out⟩
def wR (l : List It) : Prop := ∀ (v : Value) (w : World), iP w v l → Calls Tryz.prog 135 #[v] w fun e w' => ∃ v', e = .returned v' ∧ fc w' w.heap.size v' (fw l) ∧ Below w.heap.size w w'
theorem zF2 (l : List It) (ha : jZ l) (hs : l.length ≤ 1000000) : wR l := by
 intro v w h;have HC := zh (PF v l w h hs);have HA := zh (fun v w h => Ps v l w h);rw [(uh l).2 ha] at HA;have HS := zh (yK ha);obtain ⟨a, cap, rfl, h1, h2⟩ := h.shape;clear h ha
 go_enter Tryz.func135, Tryz.ntmps135
 go_wp2_with fail;refine HC.out.mono ?_; rintro e w1 ⟨v1, rfl, eM, dW⟩;have HO := zh eM;have HB := zh dW;clear eM dW;go_wp2_with fail;refine (HA.out _ _ HO.out.rd).mono ?_; rintro e w2 ⟨rfl, ez⟩;have fW := zh (zH HO.out ez);have eN := zh (zA HB.out ez);clear ez;go_wp2_with fail;go_ret;exact ⟨_, rfl, by rw [HS.out]; exact fW.out, eN.out⟩
structure pH (w : World) (lb kb : Nat) (a : Option Addr) (n cap : Nat) (l : List It) (key : Int) : Prop where
 lv : w.cell? ⟨lb, 0, none⟩ = some (.slice a n cap)
 kv : w.cell? ⟨kb, 0, none⟩ = some (.int .u64 key)
 rd : iP w (.slice a n cap) l
theorem pH.below {w w' : World} {lb kb : Nat} {a : Option Addr} {n cap : Nat} {l : List It} {key : Int} (h : pH w lb kb a n cap l key) (hb : Below w.heap.size w w') : pH w' lb kb a n cap l key :=
 ⟨Below.keeps hb _ _ h.lv, Below.keeps hb _ _ h.kv, h.rd.below hb⟩
theorem zKx (i lb kb : Nat) (a : Option Addr) (n cap : Nat) (l : List It) (key : Int) (w : World) (h : pH w lb kb a n cap l key) (hi : i < n) (_hn : n ≤ 1000000) :
  Calls Tryz.prog 177 #[.int .i64 (i : Int), .pointer (some ⟨lb, 0, none⟩), .pointer (some ⟨kb, 0, none⟩)] w fun e w' => e = .returned (.bool (decide (key ≤ (dS l i).key))) ∧ Below w.heap.size w w' := by
 obtain ⟨h1, h2, h3⟩ := h;obtain ⟨b, off, rfl, c0, _⟩ := h3.at hi;generalize (dS l i).key = x at *;have i1 : (i : Int) < (n : Int) := by omega
 clear h3
 go_enter Tryz.func177, Tryz.ntmps177
 go_wp2_with fail
 go_quiet (fail)
 go_wp2_with fail;go_ret;exact ⟨rfl, aR (aj _ _) _⟩
theorem zEy (lb kb : Nat) (a : Option Addr) (n cap : Nat) (l : List It) (key : Int) (w : World) (h : pH w lb kb a n cap l key) (hn : n ≤ 1000000) :
  Calls Tryz.prog 176 #[.int .i64 (n : Int), .func (.func 177) #[] #[.pointer (some ⟨lb, 0, none⟩), .pointer (some ⟨kb, 0, none⟩)]] w fun e w' =>
   (∃ r : Nat, e = .returned (.int .i64 (r : Int)) ∧ r ≤ n ∧ (∀ j, r = j + 1 → (dS l j).key < key) ∧ (r < n → key ≤ (dS l r).key)) ∧ Below w.heap.size w w' := by
 have H := zh h;clear h
 go_enter Tryz.func176, Tryz.ntmps176
 go_wp2_with fail
 go_loopw [5, 6] (fun iv jv wr => ∃ i j : Nat, iv = .int .i64 (i : Int) ∧ jv = .int .i64 (j : Int) ∧ i ≤ j ∧ j ≤ n ∧ (∀ k, i = k + 1 → (dS l k).key < key) ∧ (j < n → key ≤ (dS l j).key) ∧ Below w.heap.size w wr) (fun iv jv _ => (intOf jv - intOf iv).toNat)
 case atStart => exact ⟨0, n, rfl, rfl, au _, ai _, fun k hk => by omega, fun h => by omega, aj _ _⟩
 obtain ⟨i, j, rfl, rfl, hij, hj, hlo, hhi, hb⟩ := eT;have HL := zh hlo;have HH := zh hhi;have Hb := zh hb;clear hlo hhi hb
 by_cases hlt : i < j
 ·
  obtain ⟨m, hm, Cr, jD⟩ : ∃ m : Nat, (i + j) / 2 = m ∧ i ≤ m ∧ m < j := ⟨(i + j) / 2, rfl, by omega, by omega⟩
  have HC := zh (fun W hW => zKx m lb kb a n cap l key W (H.out.below hW) (by omega) hn);have Ny : ((i : Int) + (j : Int)) / 2 = (m : Int) := by omega
  have HMi := zh hm;clear hm;generalize hq : decide (key ≤ (dS l m).key) = q at *;have HQ := zh hq;clear hq;go_wp2_with fail;refine (HC.out _ Hb.out).mono ?_; rintro e w1 ⟨rfl, dW⟩;have lS := zh (zA Hb.out dW);clear dW
  cases q
  ·
   go_wp2_with fail;refine ⟨⟨m + 1, j, by go_num, rfl, by omega, hj, fun k hk => ?_, HH.out, lS.out⟩, by simp [intOf]; omega⟩;obtain rfl : m = k := by omega
   have := cC HQ.out;omega
  go_wp2_with fail;exact ⟨⟨i, m, rfl, rfl, Cr, by omega, HL.out, fun _ => a_ HQ.out, lS.out⟩, by simp [intOf]; omega⟩
 obtain rfl : i = j := by omega
 go_wp2_with fail;go_ret;exact ⟨⟨i, rfl, hj, HL.out, HH.out⟩, Hb.out⟩
theorem qe (v : Value) (l : List It) (key : Int) (w : World) (h : iP w v l) (hs : l.length ≤ 1000000) :
  Calls Tryz.prog 136 #[v, .int .u64 key] w fun e w' => (∃ r : Nat, Place l key r ∧ e = .returned (.tuple #[.int .i64 (r : Int), .bool (decide (r < l.length ∧ (dS l r).key = key))])) ∧ Below w.heap.size w w' := by
 obtain ⟨a, cap, rfl, h1, h2⟩ := h.shape;have HP := zh (show ∀ r, r ≤ l.length → (∀ j, r = j + 1 → (dS l j).key < key) → (r < l.length → key ≤ (dS l r).key) → Place l key r from fun r a b c => ⟨a, b, c⟩);generalize hn : l.length = n at *;have Hr := zh h;have HW := zh (show Below w.heap.size w ((w.alloc (.cells #[.slice a n cap] 33)).alloc (.cells #[.int .u64 key] 24)) from ((aj _ _).alloc (ai _) _).alloc (by simp) _);have HC := zh (zEy w.heap.size (w.heap.size + 1) a n cap l key ((w.alloc (.cells #[.slice a n cap] 33)).alloc (.cells #[.int .u64 key] 24)) ⟨by simp, by simp, Hr.out.below HW.out⟩ hs);have HX := zh (show pH ((w.alloc (.cells #[.slice a n cap] 33)).alloc (.cells #[.int .u64 key] 24)) w.heap.size (w.heap.size + 1) a n cap l key from ⟨by simp, by simp, Hr.out.below HW.out⟩);clear h hn h1 h2
 go_enter Tryz.func136, Tryz.ntmps136
 go_wp2_with fail;refine HC.out.mono ?_; rintro e w1 ⟨⟨r, rfl, r1, r2, r3⟩, dW⟩;have HR := zh (HP.out r r1 r2 r3);obtain ⟨x1, x2, x3⟩ := HX.out.below dW;have lS := zh (zA HW.out dW);clear dW r2 r3
 by_cases Nz : r < n
 ·
  obtain ⟨b, off, rfl, c0, _⟩ := x3.at Nz;have i1 : (r : Int) < (n : Int) := by omega
  have HE := zh (show ((dS l r).key == key) = decide (r < n ∧ (dS l r).key = key) by rw [dh]; simp [Nz]);generalize hy : (dS l r).key = y at *;have HY := zh hy;clear x3 hy;go_wp2_with fail
  go_quiet (fail)
  go_wp2_with fail;go_ret2;exact ⟨⟨r, HR.out, UF (by rw [HY.out]; exact HE.out)⟩, aR lS.out _⟩
 obtain rfl : r = n := by omega
 have HE := zh (show false = decide (r < r ∧ (dS l r).key = key) by simp);clear x3;go_wp2_with fail
 go_quiet (fail)
 go_wp2_with fail;go_ret2;exact ⟨⟨r, HR.out, UF HE.out⟩, aR lS.out _⟩
theorem UX (v : Value) (l : List It) (key : Int) (w : World) (h : iP w v l) (hk : wR l) (hs : l.length ≤ 1000000) :
  Calls Tryz.prog 100 #[v, .int .u64 key] w fun e w' => e = .returned (.tuple #[jB ((fD (fw l) key).getD fF), .bool (fD (fw l) key).isSome]) ∧ Below w.heap.size w w' := by
 have HS := zh (fun w h => hk v w h);have hlen := yU l;have HA := zh (wi l);have HF := zh (fun v w h => qe v (fw l) key w h (by omega));have Hr := zh h;obtain ⟨a, cap, rfl, _, _⟩ := h.shape;generalize fw l = s at *;have HW := zh (show Below w.heap.size w (w.alloc (.cells #[.int .u64 0, .int .u32 0, .int .i64 0, .int .i64 0] 49)) from (aj _ _).alloc (ai _) _);have hW : (w.alloc (.cells #[.int .u64 0, .int .u32 0, .int .i64 0, .int .i64 0] 49)).heap.size = w.heap.size + 1 := by simp
 clear h hk
 go_enter Tryz.func100, Tryz.ntmps100
 go_wp2_with fail;refine (HS.out _ (Hr.out.below HW.out)).mono ?_; rintro e w1 ⟨v1, rfl, eM, dW⟩;have HO := zh eM;have HB := zh dW;clear eM dW;go_wp2_with fail;refine (HF.out _ _ HO.out.rd).mono ?_; rintro e w2 ⟨⟨r, hp, rfl⟩, ez⟩;have eN := zh (HB.out.trans (ez.mono HB.out.size));have g : ∀ i u, (w.alloc (.cells #[.int .u64 0, .int .u32 0, .int .i64 0, .int .i64 0] 49)).cell? ⟨w.heap.size, i, none⟩ = some u → w2.cell? ⟨w.heap.size, i, none⟩ = some u := fun i u hu => (eN.out.cell (p := ⟨w.heap.size, i, none⟩) (by simp)).trans hu
 have f : ∀ i, w2.frozen? ⟨w.heap.size, i, none⟩ = false := fun i => (eN.out.frozen (p := ⟨w.heap.size, i, none⟩) (by simp)).trans (by simp)
 have g0 := g 0 _ (by simp; rfl);have g1 := g 1 _ (by simp; rfl);have g2 := g 2 _ (by simp; rfl);have g3 := g 3 _ (by simp; rfl);have f0 := f 0;have f1 := f 1;have f2 := f 2;have f3 := f 3;have hs2 : w.heap.size < w2.heap.size := by have := eN.out.size; omega
 have Jw := zh (show Below w.heap.size w w2 from HW.out.trans (eN.out.mono (by omega)));have lN := zh (HO.out.rd.below ez);have HP := zh hp;clear g f ez hp hW
 by_cases hy : r < s.length ∧ (dS s r).key = key
 ·
  have Aq := zh (HP.out.found HA.out hy.1 hy.2);rw [aF hy];obtain ⟨_, cv, rfl, _, _⟩ := lN.out.shape;obtain ⟨b, off, rfl, c0, c1, c2, c3⟩ := lN.out.at hy.1;have hrl := hy.1;generalize hx : dS s r = x at *;have HX := zh hx;clear hx hy;go_wp2_with fail;exact aw (v := .tuple #[jB x, .bool true]) (by simp [results, Tryz.results100, go_sem, g0, g1, g2, g3]) rfl ⟨by rw [Aq.out]; rfl, ((((Jw.out.setCell (ai _) _).setCell (ai _) _).setCell (ai _) _).setCell (ai _) _)⟩
 have Aq := zh (HP.out.not HA.out (fun h h' => hy ⟨h, h'⟩));rw [aD hy];clear hy;go_wp2_with fail;exact aw (v := .tuple #[jB fF, .bool false]) (by simp [results, Tryz.results100, go_sem, g0, g1, g2, g3, fF]) rfl ⟨by rw [Aq.out]; rfl, ((((Jw.out.setCell (ai _) _).setCell (ai _) _).setCell (ai _) _).setCell (ai _) _)⟩
end Go.Proofs.YtcgfilmmokmdjaaGreat
namespace Go.Proofs.YtcgfilmmokmdjaaGreat
open Go.RowKit Go.Shelf
def zHk : Go.Shelf.Ren := ⟨fun | 6 => 129 | 15 => 167 | 14 => 166 | 28 => 194 | 29 => 195 | 20 => 186 | 21 => 187 | 22 => 188 | 23 => 189 | 24 => 190 | 25 => 191 | 26 => 192 | 27 => 193 | 46 => 204 | 47 => 205 | 48 => 206 | 49 => 207 | 50 => 208 | 57 => 213 | n => n, fun | 22 => 33 | 24 => 49 | 25 => 216 | 3 => 3 | 39 => 185 | 0 => 0 | 53 => 47 | 55 => 24 | 4 => 4 | 46 => 256 | 45 => 255 | 50 => 221 | 5 => 5 | 9 => 9 | 66 => 270 | 70 => 274 | 76 => 278 | 77 => 279 | n => n, fun | n => n⟩
theorem UY : Go.Proofs.SlLaysF0.n6 Tryz.prog zHk := {
 mixed := by kernel_rfl
 f6 := ⟨Tryz.f129.name, by decide, Tryz.func129.trans (aT some (by kernel_rfl))⟩
 f14 := ⟨Tryz.f166.name, by decide, Tryz.func166.trans (aT some (by kernel_rfl))⟩
 f15 := Tryz.func167.trans (aT some (by kernel_rfl))
 f20 := ⟨Tryz.f186.name, by decide, Tryz.func186.trans (aT some (by kernel_rfl))⟩
 f21 := ⟨Tryz.f187.name, by decide, Tryz.func187.trans (aT some (by kernel_rfl))⟩
 f22 := ⟨Tryz.f188.name, by decide, Tryz.func188.trans (aT some (by kernel_rfl))⟩
 f23 := ⟨Tryz.f189.name, by decide, Tryz.func189.trans (aT some (by kernel_rfl))⟩
 f24 := ⟨Tryz.f190.name, by decide, Tryz.func190.trans (aT some (by kernel_rfl))⟩
 f25 := ⟨Tryz.f191.name, by decide, Tryz.func191.trans (aT some (by kernel_rfl))⟩
 f26 := ⟨Tryz.f192.name, by decide, Tryz.func192.trans (aT some (by kernel_rfl))⟩
 f27 := ⟨Tryz.f193.name, by decide, Tryz.func193.trans (aT some (by kernel_rfl))⟩
 f28 := Tryz.func194.trans (aT some (by kernel_rfl))
 f29 := Tryz.func195.trans (aT some (by kernel_rfl))
 f46 := ⟨Tryz.f204.name, by decide, Tryz.func204.trans (aT some (by kernel_rfl))⟩
 f47 := Tryz.func205.trans (aT some (by kernel_rfl))
 f48 := Tryz.func206.trans (aT some (by kernel_rfl))
 f49 := ⟨Tryz.f207.name, by decide, Tryz.func207.trans (aT some (by kernel_rfl))⟩
 f50 := ⟨Tryz.f208.name, by decide, Tryz.func208.trans (aT some (by kernel_rfl))⟩
 f57 := ⟨Tryz.f213.name, by decide, Tryz.func213.trans (aT some (by kernel_rfl))⟩
 t0 := Tryz.underlying0
 a0 := Tryz.isAgg0
 z0 := Tryz.sizeOf0
 v0 := Tryz.zeroValue0
 t3 := dB
 a3 := Tryz.isAgg3
 z3 := Tryz.sizeOf3
 v3 := Tryz.zeroValue3
 t4 := Tryz.underlying4
 a4 := Tryz.isAgg4
 z4 := Tryz.sizeOf4
 v4 := Tryz.zeroValue4
 t5 := Tryz.underlying5
 a5 := Tryz.isAgg5
 z5 := Tryz.sizeOf5
 v5 := Tryz.zeroValue5
 t9 := Tryz.underlying9
 a9 := Tryz.isAgg9
 z9 := Tryz.sizeOf9
 v9 := Tryz.zeroValue9
 t22 := de
 a22 := Tryz.isAgg33
 z22 := Tryz.sizeOf33
 v22 := Tryz.zeroValue33
 t25 := Tryz.underlying216
 a25 := Tryz.isAgg216
 z25 := Tryz.sizeOf216
 v25 := Tryz.zeroValue216
 t39 := Tryz.underlying185
 a39 := Tryz.isAgg185
 z39 := Tryz.sizeOf185
 v39 := Tryz.zeroValue185
 t45 := Tryz.underlying255
 a45 := Tryz.isAgg255
 z45 := Tryz.sizeOf255
 v45 := Tryz.zeroValue255
 t46 := Tryz.underlying256
 a46 := Tryz.isAgg256
 z46 := Tryz.sizeOf256
 v46 := Tryz.zeroValue256
 t50 := Tryz.underlying221
 a50 := Tryz.isAgg221
 z50 := Tryz.sizeOf221
 v50 := Tryz.zeroValue221
 t53 := Tryz.underlying47
 a53 := Tryz.isAgg47
 z53 := Tryz.sizeOf47
 v53 := Tryz.zeroValue47
 t55 := Tryz.underlying24
 a55 := Tryz.isAgg24
 z55 := Tryz.sizeOf24
 v55 := Tryz.zeroValue24
 t66 := Tryz.underlying270
 a66 := Tryz.isAgg270
 z66 := Tryz.sizeOf270
 v66 := Tryz.zeroValue270
 t70 := Tryz.underlying274
 a70 := Tryz.isAgg274
 z70 := Tryz.sizeOf274
 v70 := Tryz.zeroValue274
 t76 := Tryz.underlying278
 a76 := Tryz.isAgg278
 z76 := Tryz.sizeOf278
 v76 := Tryz.zeroValue278
 t77 := Tryz.underlying279
 a77 := Tryz.isAgg279
 z77 := Tryz.sizeOf279
 v77 := Tryz.zeroValue279 }
def FC (x y : Int) : Int := if x < y then -1 else if y < x then 1 else 0
theorem NA (x y : Int) : (decide (FC x y < 0)) = decide (x < y) := by
 unfold FC
 by_cases h : x < y
 ·
  rw [ag h]; simp [h]
 rw [ah h]
 by_cases h2 : y < x
 ·
  rw [ag h2]; simp [h]
 rw [ah h2]; simp [h]
theorem wN (x : Int) (w : World) : Calls Tryz.prog 168 #[.int .i64 x] w fun e w' => e = .returned (.bool false) ∧ w' = w := by
 go_enter Tryz.func168, Tryz.ntmps168
 have hx : (x != x) = false := by simp
 go_wp2_with fail;go_ret;exact ⟨rfl, rfl⟩
theorem zCA (x y : Int) (w : World) : Calls Tryz.prog 131 #[.int .i64 x, .int .i64 y] w fun e w' => e = .returned (.int .i64 (FC x y)) ∧ w' = w := by
 unfold FC
 by_cases h : x < y
 ·
  rw [ag h]
  go_enter Tryz.func131, Tryz.ntmps131
  go_wp2_with fail;refine (wN _ _).mono ?_; rintro e w1 ⟨rfl, rfl⟩;go_wp2_with fail;refine (wN _ _).mono ?_; rintro e w2 ⟨rfl, rfl⟩;go_wp2_with fail;go_ret;exact ⟨rfl, rfl⟩
 rw [ah h]
 by_cases h2 : y < x
 ·
  rw [ag h2]
  go_enter Tryz.func131, Tryz.ntmps131
  go_wp2_with fail;refine (wN _ _).mono ?_; rintro e w1 ⟨rfl, rfl⟩;go_wp2_with fail;refine (wN _ _).mono ?_; rintro e w2 ⟨rfl, rfl⟩;go_wp2_with fail;go_ret;exact ⟨rfl, rfl⟩
 rw [ah h2]
 go_enter Tryz.func131, Tryz.ntmps131
 go_wp2_with fail;refine (wN _ _).mono ?_; rintro e w1 ⟨rfl, rfl⟩;go_wp2_with fail;refine (wN _ _).mono ?_; rintro e w2 ⟨rfl, rfl⟩;go_wp2_with fail;go_ret;exact ⟨rfl, rfl⟩
theorem zHN (x y : It) (w : World) : Calls Tryz.prog 130 #[jB x, jB y] w fun e w' => e = .returned (.int .i64 (FC x.off y.off)) ∧ ∃ q os', w' = Sort.grow (w.drewN q) os' := by
 go_enter Tryz.func130, Tryz.ntmps130
 go_wp2_with fail;refine (zCA _ _ _).mono ?_; rintro e w1 ⟨rfl, rfl⟩;go_wp2_with fail;go_ret;exact ⟨rfl, 0, _, by rw [Sort.alloc_eq_grow, Sort.alloc_eq_grow, Sort.grow_grow]; rfl⟩
theorem UZ (l : List It) (t : Nat) (h : t < l.length * 4) : (zU l)[t]? = some ((gW l.toArray[t / 4]!)[t % 4]!) := by
 have h4 : t / 4 < l.length := by omega
 have e := ux 4 gW fF l (fun x _ => wY x) (t / 4) (t % 4) h4 (by omega);rw [show t / 4 * 4 + t % 4 = t from by omega] at e;have e2 : l.toArray[t / 4]! = l.getD (t / 4) fF := by
  rw [getElem!_pos _ _ (by simpa using h4), ax, aB h4];simp
 rw [e2];unfold zU;rw [e];have h5 : t % 4 < (gW (l.getD (t / 4) fF)).length := by rw [wY]; omega
 rw [aB h5, getElem!_pos (gW (l.getD (t / 4) fF)) (t % 4) h5]
theorem U0 {w : World} {g n : Nat} {l : List It} {cur : Array Value} {e : TypeId} (hg : w.heap[g]? = some (.cells cur e (0, 0))) (hn : l.length = n) (ht : cur.toList.take (n * 4) = zU l) : Sort.HoldsK gW 4 w g 0 l.toArray := by
 intro j hj;rw [Sort.size_flatK, b5] at hj;rw [Sort.get_flatK _ _ _ _ (by rw [b5]; exact hj), aJ];refine ⟨?_, by simp [World.frozen?, hg]⟩;rw [cell_of_row w g j cur e (0, 0) hg];have h := UZ l j hj;rw [← ht, cI, ag (by omega)] at h
 simpa using h
theorem zG3 {w : World} {g cap : Nat} {d : Array It} (h : Sort.HoldsK gW 4 w g 0 d) (hn : d.size ≤ cap) (hc : cap ≤ maxLen) : iP w (.slice (some ⟨g, 0, none⟩) d.size cap) d.toList := by
 refine yj (n := d.size) ⟨by rw [yF]; simp, some ⟨g, 0, none⟩, cap, rfl, hn, hc, fun h => by simp at h, fun _ => ⟨g, 0, rfl, fun j u hj => ?_⟩⟩;have PH : j < d.toList.length * 4 := by
  have := (List.getElem?_eq_some_iff.1 hj).1
  rwa [yF] at this
 have h2 := (h j (by rw [Sort.size_flatK]; simpa using PH)).1;rw [Sort.get_flatK _ _ _ _ (by simpa using PH)] at h2;rw [UZ _ _ PH] at hj;injection hj with hj;subst hj;exact h2
theorem zC2 {w : World} {B g n : Nat} {d : Array It} {os : Array Obj} (hB : B ≤ g) (hg : g < w.heap.size) : Below B w (sortWorldK gW 4 w g 0 n d os) := by
 refine ⟨rfl, rfl, rfl, size_sortWorldK_c gW 4 w g 0 n d os, fun k hk => ?_⟩;unfold sortWorldK Sort.grow Sort.putRowK Sort.putRow Sort.mapBlock
 show ((Array.modify _ g _) ++ os)[k]? = _
 rw [Array.getElem?_append_left (by rw [Array.size_modify]; show k < w.heap.size; omega), Array.getElem?_modify, ah (by omega)]
 rfl
theorem zJ8 {l : List It} {d' : Array It} (h : Sort.PermIn 0 l.toArray.size l.toArray d') : l.Perm d'.toList := by
 obtain ⟨h1, _, h2⟩ := h;have e1 : (d'.extract 0 l.toArray.size) = d' := by rw [← h1]; simp
 have e2 : (l.toArray.extract 0 l.toArray.size) = l.toArray := by simp
 rw [e1, e2] at h2;exact h2.symm
theorem zHm {d' : Array It} {n : Nat} (hn : d'.size = n) (h : Sort.SortedIn (ltOf fun x y : It => FC x.off y.off) 0 n d') : d'.toList.Pairwise fun a b => a.off ≤ b.off := by
 rw [List.pairwise_iff_getElem];intro i j hi hj hij;have hi' : i < d'.size := by simpa using hi
 have hj' : j < d'.size := by simpa using hj
 have h2 := h i j (au _) hij (by omega);unfold ltOf at h2;rw [NA, decide_eq_false_iff_not, getElem!_pos d' i hi', getElem!_pos d' j hj'] at h2
 simpa using h2
theorem zMR : Sort.SWO (ltOf fun x y : It => FC x.off y.off) where
 irrefl x := by unfold ltOf; rw [NA]; simp
 trans x y z h1 h2 := by unfold ltOf at *; rw [NA] at *; simp at *; omega
 ntrans x y z h1 h2 := by unfold ltOf at *; rw [NA] at *; simp at *; omega
end Go.Proofs.YtcgfilmmokmdjaaGreat
namespace Go.Proofs.YtcgfilmmokmdjaaGreat
open Go.RowKit
abbrev Jy (n : Int) : Value := .int .u64 n
abbrev lU (w : World) (v : Value) (l : List Int) : Prop := ik Jy w v l
def oF (l : List Int) (j : Nat) : Int := l.getD j 0
theorem lU.gq {w : World} {v : Value} {l : List Int} (h : lU w v l) : ∃ a cap, v = .slice a l.length cap ∧ l.length ≤ cap ∧ cap ≤ maxLen := by
 obtain ⟨a, cap, h1, h2, h3, _⟩ := ik.shape h 0;exact ⟨a, cap, h1, h2, h3⟩
theorem lU.at {w : World} {a : Option Addr} {n cap : Nat} {l : List Int} (h : lU w (.slice a n cap) l) {j : Nat} (hj : j < n) : ∃ b off, a = some ⟨b, off, none⟩ ∧ w.cell? ⟨b, off + j, none⟩ = some (.int .u64 (oF l j)) := by
 obtain ⟨a', cap', e, h2, h3, _, h5⟩ := ik.shape h 0;injection e with e1 e2 e3;subst e1 e2 e3;obtain ⟨b, off, e, hc⟩ := h5 (by omega);exact ⟨b, off, e, hc j hj⟩
theorem PI {l : List Int} {j : Nat} (h : j < l.length) : oF l j ∈ l := by
 unfold oF;rw [ax, aB h]; exact bJ h
theorem zD3 {l : List Int} {x : Int} {j : Nat} (h : j < l.length) (h' : oF l j = x) : l.contains x = true := by
 rw [List.contains_iff_mem]; rw [← h']; exact PI h
theorem zDQ {l : List Int} {x : Int} (h : ∀ j, j < l.length → oF l j ≠ x) : l.contains x = false := by
 cases e : l.contains x with
 | false => rfl
 | true =>
  rw [List.contains_iff_mem] at e;obtain ⟨j, hj, e⟩ := List.mem_iff_getElem.1 e;exact absurd (by simp [oF, aB hj, e]) (h j hj)
theorem zE8 (v : Value) (l : List Int) (x : Int) (w : World) (h : lU w v l) :
  Calls Tryz.prog 196 #[v, .int .u64 x] w fun e w' => (∃ k : Int, e = .returned (.int .i64 k) ∧ decide (0 ≤ k) = l.contains x) ∧ w = w' := by
 obtain ⟨a, cap, rfl, h1, h2⟩ := h.gq;have HT := zh (show (∀ j, j < l.length → oF l j ≠ x) → l.contains x = false from zDQ);have HF := zh (show ∀ j, j < l.length → oF l j = x → l.contains x = true from fun j => zD3);have hm := BL h1 h2;generalize l.contains x = r at *;generalize hn : l.length = n at *;have Hr := zh h;clear h h1 h2 hn
 go_enter Tryz.func196, Tryz.ntmps196
 go_wp2_with fail
 go_loop [8] (fun i => ∃ k : Nat, k ≤ n ∧ i = .int .i64 (k : Int) ∧ (∀ j, j < k → oF l j ≠ x)) (fun i => n - (intOf i).toNat)
 case atStart => exact ⟨0, au _, rfl, fun j hj => absurd hj (by omega)⟩
 obtain ⟨k, hk, rfl, hno⟩ := eT;have U1 := zh hno;clear hno
 by_cases hlt : k < n
 ·
  obtain ⟨b, off, rfl, c0⟩ := Hr.out.at hlt;generalize hy : oF l k = y at *;have HY := zh hy;clear hy
  by_cases hxy : x = y
  ·
   have hd : (x == y) = true := beq_iff_eq.2 hxy;have HR := zh (HF.out k hlt (by rw [HY.out, hxy]));clear hxy;go_wp2_with fail;go_ret;exact ⟨⟨k, rfl, by rw [HR.out]; simp⟩, rfl⟩
  have hd : (x == y) = false := beq_eq_false_iff_ne.2 hxy;have mI := zh hxy;clear hxy;go_wp2_with fail;refine ⟨⟨k + 1, by omega, by go_num, fun j hj => ?_⟩, by simp [intOf]; omega⟩
  by_cases e : j = k
  ·
   rw [e, HY.out]; exact fun e => mI.out e.symm
  exact U1.out j (by omega)
 obtain rfl : k = n := by omega
 go_wp2_with fail;go_ret;exact ⟨⟨-1, rfl, by rw [HT.out U1.out]; rfl⟩, rfl⟩
theorem zB4 (v : Value) (l : List Int) (x : Int) (w : World) (h : lU w v l) :
  Calls Tryz.prog 171 #[v, .int .u64 x] w fun e w' => e = .returned (.bool (l.contains x)) ∧ w = w' := by
 have HX := zh (zE8 v l x w h);obtain ⟨a, cap, rfl, _, _⟩ := h.gq;generalize l.contains x = r at *;clear h
 go_enter Tryz.func171, Tryz.ntmps171
 go_wp2_with fail;refine HX.out.mono ?_; rintro e w1 ⟨⟨k, rfl, hk⟩, rfl⟩;have HK := zh hk;clear hk;go_wp2_with fail;go_ret;exact ⟨zE HK.out, rfl⟩
def Gone (w : World) (gb : Nat) (gone : List Int) : Prop := ∃ a n cap, w.cell? ⟨gb, 0, none⟩ = some (.slice a n cap) ∧ lU w (.slice a n cap) gone
theorem Gone.below {w w' : World} {gb : Nat} {gone : List Int} (h : Gone w gb gone) (hb : Below w.heap.size w w') : Gone w' gb gone := by
 obtain ⟨a, n, cap, h1, h2⟩ := h;exact ⟨a, n, cap, Below.keeps hb _ _ h1, h2.below hb⟩
theorem U2 (k c o s : Int) (gb : Nat) (gone : List Int) (w : World) (h : Gone w gb gone) :
  Calls Tryz.prog 170 #[.agg #[.int .u64 k, .int .u32 c, .int .i64 o, .int .i64 s], .pointer (some ⟨gb, 0, none⟩)] w fun e w' => e = .returned (.bool (gone.contains k)) ∧ Below w.heap.size w w' := by
 have HW := zh (show Below w.heap.size w (w.alloc (.cells #[.int .u64 k, .int .u32 c, .int .i64 o, .int .i64 s] 49)) from (aj _ _).alloc (ai _) _);obtain ⟨a, n, cap, h1, h2⟩ := h;have HC := zh (zB4 (.slice a n cap) gone k (w.alloc (.cells #[.int .u64 k, .int .u32 c, .int .i64 o, .int .i64 s] 49)) (h2.below HW.out));have h1' := Below.keeps HW.out _ _ h1;generalize gone.contains k = r at *;clear h2
 go_enter Tryz.func170, Tryz.ntmps170
 go_wp2_with fail;refine HC.out.mono ?_; rintro e w1 ⟨rfl, rfl⟩;go_wp2_with fail;go_ret;exact ⟨rfl, HW.out⟩
def kept (gone : List Int) (l : List It) : List It := l.filter fun x => !gone.contains x.key
theorem zHO (gone : List Int) {l : List It} {j : Nat} (h : j < l.length) : kept gone (l.take (j + 1)) = kept gone (l.take j) ++ (if gone.contains (dS l j).key then [] else [dS l j]) := by
 unfold kept;rw [xB h, cO]
 congr 1
 cases e : gone.contains (dS l j).key <;> simp only [cu, List.filter_nil, e] <;> rfl
theorem U3 {gone : List Int} {l : List It} (h : ∀ j, j < l.length → gone.contains (dS l j).key = false) : kept gone l = l := by
 unfold kept;rw [List.filter_eq_self];intro x hx;obtain ⟨j, hj, rfl⟩ := vw hx;rw [h j hj]; rfl
theorem U4 (y : It) : ∀ (l : List It) (k : Nat), k < l.length → ((((zU l).set (k * 4) (.int .u64 y.key)).set (k * 4 + 1) (.int .u32 y.ck)).set (k * 4 + 2) (.int .i64 y.off)).set (k * 4 + 3) (.int .i64 y.size) = zU (l.set k y)
 | [], _, h => by simp at h
 | x :: r, 0, _ => rfl
 | x :: r, k + 1, h => by
  have ih := U4 y r k (by simpa using h);have e0 : (k + 1) * 4 = k * 4 + 1 + 1 + 1 + 1 := by omega
  have e1 : (k + 1) * 4 + 1 = k * 4 + 1 + 1 + 1 + 1 + 1 := by omega
  have e2 : (k + 1) * 4 + 2 = k * 4 + 2 + 1 + 1 + 1 + 1 := by omega
  have e3 : (k + 1) * 4 + 3 = k * 4 + 3 + 1 + 1 + 1 + 1 := by omega
  rw [e1, e2, e3, e0]
  show _ = gW x ++ zU (r.set k y)
  rw [← ih]
  rfl
theorem PJ {w : World} {B g n cap : Nat} {l : List It} (h : w.ownsRow B 49 4 (.slice (some ⟨g, 0, none⟩) n cap) n (zU l)) (k : Nat) (hk : k < l.length) (y : It) :
  ((((w.setCell ⟨g, k * 4, none⟩ (.int .u64 y.key)).setCell ⟨g, k * 4 + 1, none⟩ (.int .u32 y.ck)).setCell ⟨g, k * 4 + 2, none⟩ (.int .i64 y.off)).setCell ⟨g, k * 4 + 3, none⟩ (.int .i64 y.size)).ownsRow B 49 4 (.slice (some ⟨g, 0, none⟩) n cap) n (zU (l.set k y)) := by
 rw [← U4 y l k hk];exact ((((h.stored _ _).1.stored _ _).1.stored _ _).1.stored _ _).1
theorem vv : ∀ m : Nat, (Builtin.zeroCells (jB fF).cells m).toList = zU (List.replicate m fF)
 | 0 => by simp [Builtin.zeroCells, zU]
 | m + 1 => by
  rw [List.replicate_succ', zu, ← vv m, xM]
  show (Array.map _ (Array.range ((m + 1) * 4))).toList = (Array.map _ (Array.range (m * 4))).toList ++ _
  have e : (m + 1) * 4 = m * 4 + 1 + 1 + 1 + 1 := by omega
  rw [e];simp only [Array.toList_map, Array.toList_range, List.range_succ, bW, List.map_cons, List.map_nil, bt]
  congr 1
  show _ = [Value.int .u64 0, .int .u32 0, .int .i64 0, .int .i64 0]
  have s4 : (jB fF).cells.size = 4 := rfl;rw [s4];rw [show m * 4 % 4 = 0 by omega, show (m * 4 + 1) % 4 = 1 by omega, show (m * 4 + 1 + 1) % 4 = 2 by omega, show (m * 4 + 1 + 1 + 1) % 4 = 3 by omega]
  rfl
theorem zH0 {w : World} {B g n cap : Nat} {l : List It} (h : w.ownsRow B 49 4 (.slice (some ⟨g, 0, none⟩) n cap) n (zU l)) (i : Nat) (hi : i < n) :
  ∃ w', (∀ ty c, (Builtin.clear_ #[33] ty #[.slice (some ⟨g, i * 4, none⟩) (n - i) c]).run Tryz.prog w = .ok (.tuple #[]) w') ∧ w'.ownsRow B 49 4 (.slice (some ⟨g, 0, none⟩) n cap) n (zU (l.take i ++ List.replicate (n - i) fF)) ∧ w.grownBy w' (some g) := by
 have hl : l.length = n := by have := h.1; rw [yF] at this; omega
 obtain ⟨w', h1, h2, h3⟩ := tj (P := Tryz.prog) h (i * 4) (zU (List.replicate (n - i) fF)) (by rw [yF, dm]; omega) (zn _);refine ⟨w', fun ty c => ?_, ?_, h3⟩
 ·
  obtain ⟨m, hm⟩ : ∃ m, n - i = m + 1 := ⟨n - i - 1, by omega⟩
  rw [hm] at h1 ⊢;simp only [Builtin.clear_];simp [run_underlying de];have hz := vv (m + 1);simp only [jB, fF] at hz;rw [hz, show zU (List.replicate (m + 1) ⟨0, 0, 0, 0⟩) = zU (List.replicate (m + 1) fF) from rfl, h1]
  rfl
 rw [zu, xl];rw [bT (by rw [yF, yF, dm]; omega), bY] at h2;exact h2
theorem zJB (v : Value) (l : List It) (gb : Nat) (gone : List Int) (w : World) (h : iP w v l) (hg : Gone w gb gone) :
  Calls Tryz.prog 178 #[v, .func (.func 170) #[] #[.pointer (some ⟨gb, 0, none⟩)]] w fun e w' =>
   ((e = .returned (.int .i64 (-1)) ∧ ∀ j, j < l.length → gone.contains (dS l j).key = false) ∨ ∃ k : Nat, k < l.length ∧ e = .returned (.int .i64 (k : Int)) ∧ gone.contains (dS l k).key = true ∧ ∀ j, j < k → gone.contains (dS l j).key = false) ∧ Below w.heap.size w w' := by
 obtain ⟨a, cap, rfl, h1, h2⟩ := h.shape;have hm := BL h1 h2;have Hg := zh hg;generalize hn : l.length = n at *;have Hr := zh h;clear h h1 h2 hn hg
 go_enter Tryz.func178, Tryz.ntmps178
 go_wp2_with fail
 go_loopw [8] (fun i wr => ∃ k : Nat, k ≤ n ∧ i = .int .i64 (k : Int) ∧ (∀ j, j < k → gone.contains (dS l j).key = false) ∧ Below w.heap.size w wr) (fun i _ => n - (intOf i).toNat)
 case atStart => exact ⟨0, au _, rfl, fun j hj => absurd hj (by omega), aj _ _⟩
 obtain ⟨k, hk, rfl, hok, hb⟩ := eT;have lG := zh hok;have Hb := zh hb;have hB := hb.size;clear hok hb
 by_cases hlt : k < n
 ·
  have hr := Hr.out.below Hb.out;obtain ⟨b, off, rfl, c0, c1, c2, c3⟩ := hr.at hlt;have HV := zh (U2 (dS l k).key (dS l k).ck (dS l k).off (dS l k).size gb gone wr (Hg.out.below Hb.out));generalize hx : dS l k = x at *;have EX := zh hx;clear hr hx;go_wp2_with fail;refine HV.out.mono ?_; rintro e w1 ⟨rfl, dW⟩;have lS := zh (zA Hb.out dW)
  cases hx : gone.contains x.key
  ·
   have HX := zh hx;clear dW hx;go_wp2_with fail;refine ⟨⟨k + 1, by omega, by go_num, fun j hj => ?_, lS.out⟩, by simp [intOf]; omega⟩
   by_cases e : j = k
   ·
    rw [e, EX.out]; exact HX.out
   exact lG.out j (by omega)
  have HX := zh hx;clear dW hx;go_wp2_with fail;go_ret;exact ⟨.inr ⟨k, hlt, rfl, by rw [EX.out]; exact HX.out, lG.out⟩, lS.out⟩
 obtain rfl : k = n := by omega
 go_wp2_with fail;go_ret;exact ⟨.inl ⟨rfl, lG.out⟩, Hb.out⟩
theorem zLd (v : Value) (l : List It) (gb : Nat) (gone : List Int) (B : Nat) (w : World) (hown : fc w B v l) (hB : B ≤ w.heap.size) (hg : ∀ W, Below B w W → Gone W gb gone) :
  Calls Tryz.prog 169 #[v, .func (.func 170) #[] #[.pointer (some ⟨gb, 0, none⟩)]] w fun e w' => ∃ v', e = .returned v' ∧ fc w' B v' (kept gone l) ∧ Below B w w' := by
 have HI := zh (zJB v l gb gone w hown.rd (hg w (aj _ _)));have HG := zh hg;have EA := zh (show (∀ j, j < l.length → _) → _ from U3 (gone := gone) (l := l));have U5 := zh (show ∀ j, j < l.length → _ from fun j hj => zHO gone (l := l) (j := j) hj);have HKE := zh (show kept gone (l.take l.length) = kept gone l by rw [ct]);obtain ⟨oa, oc, rfl, Ap, Cp, oP⟩ := zO hown;have hm := BL Ap Cp;have gK := zh (show w.ownsRow B 49 4 _ l.length (zU l) from hown);have Kr := zh oP;generalize hn : l.length = n at *;have HN := zh hn;clear hg oP hn hown
 go_enter Tryz.func169, Tryz.ntmps169
 go_wp2_with fail;refine HI.out.mono ?_; rintro e w1 ⟨hres, dW⟩;have eO := zh (show Below B w w1 from dW.mono hB);have mQ := zh (zH gK.out dW);clear dW;rcases hres with ⟨rfl, hno⟩ | ⟨i0, PK, rfl, KD, hno⟩
 ·
  have HK := zh (EA.out hno);clear hno;go_wp2_with fail;go_ret;exact ⟨_, rfl, yI mQ.out (by rw [HK.out]), eO.out⟩
 have hneg : ((i0 : Int) == -1) = false := beq_eq_false_iff_ne.2 (by omega);have BN : kept gone (l.take (i0 + 1)) = l.take i0 := by
  rw [U5.out i0 PK, KD];simp only [if_true, bY];refine U3 fun j hj => ?_
  rw [ay] at hj;rw [wX (by omega)];exact hno j (by omega)
 have FD := zh BN;obtain ⟨g, rfl⟩ : ∃ g, oa = some ⟨g, 0, none⟩ := by
  rcases mQ.out.2 with ⟨e, h0⟩ | ⟨g, _, _, e, _⟩
  ·
   omega
  injection e with e; exact ⟨g, e⟩
 have hgB := (mQ.out.lt g rfl).1;clear KD hno BN;go_wp2_with fail
 go_loopw [5, 6] (fun iv jv wr => ∃ (i j : Nat) (a : List It), iv = .int .i64 (i : Int) ∧ jv = .int .i64 (j : Int) ∧ i < j ∧ j ≤ n ∧ a.length = n ∧ wr.ownsRow B 49 4 (.slice (some ⟨g, 0, none⟩) n oc) n (zU a) ∧ a.take i = kept gone (l.take j) ∧ a.drop j = l.drop j ∧ Below B w wr) (fun _ jv _ => n - (intOf jv).toNat)
 case atStart => exact ⟨i0, i0 + 1, l, rfl, by go_num, by omega, by omega, HN.out, mQ.out, FD.out.symm, rfl, eO.out⟩
 obtain ⟨i, j, a, rfl, rfl, hij, hj, ha, hown, U6, hdj, hb⟩ := eT;have HA := zh ha;have HO := zh hown;have HT := zh U6;have HD := zh hdj;have Hb := zh hb;have DY : B ≤ wr.heap.size := ak hB hb.size;have lV := (hown.lt g rfl).2;clear ha hown U6 hdj hb
 by_cases hlt : j < n
 ·
  obtain ⟨_, _, e, c0, c1, c2, c3⟩ := (yj (zr HO.out)).at hlt;injection e with e; injection e with e1 e2; subst e1 e2;simp only [aJ] at c0 c1 c2 c3;have PL : dS a j = dS l j := by
   have h1 := xg a j 0;rw [HD.out, xg, bp] at h1;exact h1.symm
  rw [PL] at c0 c1 c2 c3;have U7 := zh (U5.out j hlt);have HAX := zh PL;clear PL;generalize dS l j = x at *;have oQ := zh (show Below B w (wr.alloc (.cells #[.int .u64 x.key, .int .u32 x.ck, .int .i64 x.off, .int .i64 x.size] 49)) from Hb.out.alloc DY _);have HM := zh (U2 x.key x.ck x.off x.size gb gone (wr.alloc (.cells #[.int .u64 x.key, .int .u32 x.ck, .int .i64 x.off, .int .i64 x.size] 49)) (HG.out _ oQ.out));go_wp2_with fail;refine HM.out.mono ?_; rintro e w2 ⟨rfl, ez⟩;have fW := zh (zH (HO.out.alloc _) ez);have eN := zh (show Below B w w2 from oQ.out.trans (ez.mono (by simp; omega)));have d0 := Below.keeps ez ⟨wr.heap.size, 0, none⟩ (.int .u64 x.key) (by simp);have d1 := Below.keeps ez ⟨wr.heap.size, 1, none⟩ (.int .u32 x.ck) (by simp);have d2 := Below.keeps ez ⟨wr.heap.size, 2, none⟩ (.int .i64 x.off) (by simp)
  have d3 := Below.keeps ez ⟨wr.heap.size, 3, none⟩ (.int .i64 x.size) (by simp);have hs2 : B ≤ w2.heap.size := ak hB eN.out.size;clear ez c0 c1 c2 c3
  cases hr : gone.contains x.key
  ·
   have HR := zh hr;obtain ⟨_, _, e, c0, c1, c2, c3⟩ := (yj (zr fW.out)).at (show i < n by omega);injection e with e; injection e with e1 e2; subst e1 e2;simp only [aJ] at c0 c1 c2 c3;have f0 := fW.out.frozenAt (i * 4);have f1 := fW.out.frozenAt (i * 4 + 1);have f2 := fW.out.frozenAt (i * 4 + 2);have f3 := fW.out.frozenAt (i * 4 + 3);have HS := zh (PJ fW.out i (by rw [HA.out]; omega) x);clear hr;go_wp2_with fail;have PN : (a.set i x).drop (j + 1) = l.drop (j + 1) := by
    rw [List.drop_set_of_lt (by omega), ← bV, HD.out, bV]
   have htk : (a.set i x).take (i + 1) = kept gone (l.take (j + 1)) := by
    rw [U7.out, HR.out, ← HT.out, uB a i x (by rw [HA.out]; omega)]
    rfl
   refine ⟨⟨i + 1, j + 1, a.set i x, by go_num, by go_num, by omega, by omega, by rw [bd]; exact HA.out, HS.out, htk, PN, ?_⟩, by simp [intOf]; omega⟩;exact ((((eN.out.setCell hgB _).setCell hgB _).setCell hgB _).setCell hgB _)
  have HR := zh hr;clear hr;go_wp2_with fail;have PN : a.drop (j + 1) = l.drop (j + 1) := by
   rw [← bV, HD.out, bV]
  refine ⟨⟨i, j + 1, a, rfl, by go_num, by omega, by omega, HA.out, fW.out, ?_, PN, eN.out⟩, by simp [intOf]; omega⟩;rw [U7.out, HR.out, HT.out]; simp
 obtain rfl : j = n := by omega
 obtain ⟨w3, q_, d_, eW⟩ := zH0 HO.out i (by omega);have lz := zh (vL d_ i (by omega));have fS := zh (Hb.out.grown eW DY (by intro r hr; injection hr with hr; omega));have Cq := yq (P := Tryz.prog) yE (n := j) (cap := oc) Kr.out i (by omega);clear d_ eW;go_wp2_with fail;go_ret;refine ⟨_, rfl, yI lz.out ?_, fS.out⟩;have hia : i ≤ a.length := by rw [HA.out]; omega
 rw [← xl, dI (by rw [ay]; omega), cZ, Nat.min_self, HT.out, HKE.out]
def NC (old fresh : List It) (gone : List Int) : List It := fw (kept gone (fw old) ++ fw fresh)
theorem U8 (gone : List Int) (l : List It) : (kept gone l).length ≤ l.length := List.length_filter_le _ _
theorem zHi (vo vf vg : Value) (old fresh : List It) (gone : List Int) (w : World) (ho : iP w vo old) (hf : iP w vf fresh) (hg : lU w vg gone)
  (so : wR old) (sf : wR fresh) (sm : wR (kept gone (fw old) ++ fw fresh)) (h1 : old.length ≤ 100000) (h2 : fresh.length ≤ 100000) :
  Calls Tryz.prog 132 #[vo, vf, vg] w fun e w' => ∃ v', e = .returned v' ∧ fc w' w.heap.size v' (NC old fresh gone) ∧ Below w.heap.size w w' := by
 have SO := zh (fun w h => so vo w h);have SF := zh (fun w h => sf vf w h);have SM := zh (fun v w h => sm v w h);have HM := zh (show NC old fresh gone = fw (kept gone (fw old) ++ fw fresh) from rfl);obtain ⟨a1, c1, rfl, _, _⟩ := ho.shape;obtain ⟨a2, c2, rfl, _, _⟩ := hf.shape;obtain ⟨a3, c3, rfl, _, _⟩ := hg.gq;have l1 := yU old;have l2 := yU fresh;have l3 := U8 gone (fw old);generalize fw old = s1 at *;generalize fw fresh = s2 at *;obtain ⟨W0, eR⟩ : ∃ W0, W0 = w.alloc (.cells #[.slice a3 gone.length c3] 87) := ⟨_, rfl⟩
 have oQ := zh eR;have eA := zh (show Below w.heap.size w W0 by rw [eR]; exact (aj _ _).alloc (ai _) _);have PO := zh (show Gone W0 w.heap.size gone from ⟨a3, gone.length, c3, by rw [eR]; simp, hg.below eA.out⟩);have hs0 : w.heap.size ≤ W0.heap.size := eA.out.size;have Ho := zh ho;have Hf := zh hf;have HDF := zh (fun v w' B (h : fc w' B v s1) hB hg => zLd v s1 w.heap.size gone B w' h hB hg);generalize hk : kept gone s1 = k1 at *;have HK := zh hk;clear ho hf hg so sf sm eR hk
 go_enter Tryz.func132, Tryz.ntmps132
 go_wp2_with fail;rw [← oQ.out];refine (SO.out _ (Ho.out.below eA.out)).mono ?_; rintro e w1 ⟨v1, rfl, eM, dW⟩;have mQ := zh eM;have eO := zh dW;clear eM dW;go_wp2_with fail;refine (HDF.out v1 w1 W0.heap.size mQ.out eO.out.size (fun W h => PO.out.below (eO.out.trans h))).mono ?_; rintro e w2 ⟨v2, rfl, eo, ez⟩;have fW := zh eo;have eN := zh (eO.out.trans ez);have Ar := zh (iO eA.out hs0 (eO.out.trans ez));clear eo ez;go_wp2_with fail;refine (SF.out _ (Hf.out.below Ar.out)).mono ?_; rintro e w3 ⟨v3, rfl, d_, eU⟩;have lz := zh (zH fW.out eU);have me := zh (tK d_.rd);have fS := zh (eN.out.trans (eU.mono eN.out.size));clear d_ eU;go_wp2_with (at_builtin; go_must (refine zd rfl (.tmp 13) (.tmp 15) 33 rfl yE W0.heap.size rfl lz.out rfl me.out (zn _) (by unfold maxLen; omega) (by omega) fS.out.size ?_); intro v4 w4 eZ gF C5; clear C5);have iy := zh (yI eZ (zu k1 s2).symm)
 have fM := zh (zM fS.out lz.out fS.out.size gF);clear eZ gF;go_wp2_with fail;refine (SM.out _ _ iy.out.rd).mono ?_; rintro e w5 ⟨v5, rfl, fC, iU⟩;have jE := zh fC;have gj := zh (fM.out.trans (iU.mono fM.out.size));clear fC iU;go_wp2_with fail;go_ret;refine ⟨_, rfl, ?_, eA.out.trans (gj.out.mono hs0)⟩;rw [HM.out];exact jE.out.mono (ak hs0 fM.out.size)
end Go.Proofs.YtcgfilmmokmdjaaGreat
namespace Go.Proofs.YtcgfilmmokmdjaaGreat
def gd (l : List It) (key : Int) : List It := l.filter fun y => !(y.key == key)
theorem zl (y : It) (r : List It) (key : Int) : fD (y :: r) key = if y.key = key then some y else fD r key := by
 unfold fD;rw [List.find?_cons]
 by_cases h : y.key = key
 ·
  rw [ag h, show (y.key == key) = true from beq_iff_eq.2 h]
 rw [ah h, show (y.key == key) = false from beq_eq_false_iff_ne.2 h]
theorem vG (x : It) : ∀ l : List It, fD (ins l x) x.key = some x
 | [] => by rw [show ins [] x = [x] from rfl, zl, ag rfl]
 | y :: r => by
  unfold ins
  split
  ·
   rw [zl, ah (by omega)]; exact vG x r
  split <;> rw [zl, ag rfl]
theorem wl (x : It) (key : Int) (h : key ≠ x.key) : ∀ l : List It, fD (ins l x) key = fD l key
 | [] => by rw [show ins [] x = [x] from rfl, zl, ah (aO h)]
 | y :: r => by
  have ih := wl x key h r;unfold ins
  split
  ·
   rw [zl, zl, ih]
  split
  ·
   rw [zl, zl, ah (aO h), ah (by omega)]
  rw [zl, ah (aO h)]
theorem kW (l : List It) (key : Int) : fD (gd l key) key = none := by
 unfold fD gd;rw [List.find?_eq_none];intro x hx;have := (List.mem_filter.1 hx).2;simp at this ⊢;exact this
theorem uH (k key : Int) (h : key ≠ k) : ∀ l : List It, fD (gd l k) key = fD l key
 | [] => rfl
 | y :: r => by
  have ih := uH k key h r;unfold gd at ih ⊢;rw [cu]
  by_cases e : y.key = k
  ·
   rw [ah (by simp [e]), zl, ah (by omega), ih]
  rw [ag (by simp [e]), zl, zl, ih]
theorem vE {l : List It} {r : Nat} (h : r < l.length) : l[r] = dS l r := by
 unfold dS; rw [ax, aB h]; rfl
theorem uw : ∀ {l : List It}, lT l → l.Pairwise fun a b => a.key < b.key
 | [], _ => .nil
 | x :: r, h => by
  have hp := uw h.tail;refine .cons (fun y hy => ?_) hp
  cases r with
  | nil => cases hy
  | cons z r =>
   have hz : x.key < z.key := h.1
   cases hy with
   | head => exact hz
   | tail _ hy => have := (List.pairwise_cons.1 hp).1 y hy; omega
theorem PQ : ∀ {l : List It}, (l.Pairwise fun a b => a.key < b.key) → lT l
 | [], _ => trivial
 | [x], _ => trivial
 | x :: y :: r, h => ⟨(List.pairwise_cons.1 h).1 y (by simp), PQ (List.pairwise_cons.1 h).2⟩
theorem PR {l : List It} (h : jZ l) (key : Int) : jZ (gd l key) :=
 (xX _).1 (PQ (List.Pairwise.filter _ (uw ((xX _).2 h))))
theorem U9 {l : List It} (h : jZ l) (x : It) : jZ (ins l x) := (xX _).1 (qP x l ((xX _).2 h))
theorem uZ (l : List It) (key : Int) : (gd l key).length ≤ l.length := List.length_filter_le _ _
theorem zLb {l : List It} {x : It} {r : Nat} (h : Place l x.key r) (ha : jZ l) : ins l x = if r < l.length ∧ (dS l r).key = x.key then l.set r x else l.take r ++ x :: l.drop r := by
 have := Nx l x r h.1 (fun j hj => h.lt ha hj) (fun hr => h.2.2 hr);rw [this]
 split
 ·
  rename_i hc;rw [dO, ag hc.1]
 rfl
theorem zG1 {l : List It} {key : Int} {r : Nat} (h : Place l key r) (ha : jZ l) : gd l key = if r < l.length ∧ (dS l r).key = key then l.take r ++ l.drop (r + 1) else l := by
 have Gz : ∀ (q : List It), (∀ x ∈ q, x.key ≠ key) → gd q key = q := fun q hq => by
  unfold gd;rw [List.filter_eq_self];intro x hx;simp;exact hq x hx
 have pw := uw ((xX _).2 ha)
 split
 ·
  rename_i hc;have e : l = l.take r ++ dS l r :: l.drop (r + 1) := by
   have e1 : l.drop r = dS l r :: l.drop (r + 1) := by
    rw [cQ hc.1, vE hc.1]
   rw [← e1, bM]
  have U_ := pw;rw [e, List.pairwise_append] at U_;obtain ⟨_, p2, p3⟩ := U_;have h1 : gd (l.take r) key = l.take r := Gz _ fun y hy => by have := p3 y hy (dS l r) (by simp); omega
  have h2 : gd (l.drop (r + 1)) key = l.drop (r + 1) := Gz _ fun y hy => by have := (List.pairwise_cons.1 p2).1 y hy; omega
  conv => lhs; rw [e]
  unfold gd at h1 h2 ⊢;rw [cO, h1, cu, ah (by simp [hc.2]), h2]
 rename_i hc;refine Gz _ fun y hy => ?_
 obtain ⟨j, hj, rfl⟩ := vw hy;rcases bE j r with Va | Va
 ·
  have := h.lt ha Va; omega
 by_cases PS : j = r
 ·
  subst PS; exact fun e => hc ⟨hj, e⟩
 have h1 := h.2.2 (by omega);have h2 : (dS l r).key < (dS l j).key := by
  have := List.pairwise_iff_getElem.1 pw r j (by omega) hj (by omega);rw [vE, vE] at this;exact this
 omega
end Go.Proofs.YtcgfilmmokmdjaaGreat
