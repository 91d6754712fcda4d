/- A part of the walk. -/
import Derived.Test.YtcgfilmmokmdjaaGreatQAX
import Derived.Test.YtcgfilmmokmdjaaGreatQAL
import Derived.Laws.MakeOwn
set_option maxRecDepth 100000
set_option maxHeartbeats 32000000
namespace Go.Proofs.YtcgfilmmokmdjaaGreat
open Go.RowKit
def Et (jk : Bool) (q : Rq) : Rq := ⟨q.tk, 1 + q.kind % 2, q.key % 8, q.ck % 2, (if (jk && decide (q.tk % 4 = 0)) = true then List.replicate 4076 0 else []) ++ q.data.take 30⟩
theorem zLf (n : Int) : bits .and .i64 n 1 = n % 2 := by
 have hm : (BitVec.ofInt 64 1).toNat = 2 ^ 1 - 1 := by decide
 have key : (BitVec.ofInt 64 n &&& BitVec.ofInt 64 1).toNat = (n % ((2 ^ 64 : Nat) : Int)).toNat % 2 ^ 1 := by
  rw [BitVec.toNat_and, BitVec.toNat_ofInt, hm, dN]
 show IntKind.i64.wrap ((BitVec.ofInt 64 n &&& BitVec.ofInt 64 1).toNat : Nat) = n % 2
 rw [key, IntKind.wrap_i64];omega
theorem zLc (n : Int) : bits .and .i64 n 3 = n % 4 := by
 have hm : (BitVec.ofInt 64 3).toNat = 2 ^ 2 - 1 := by decide
 have key : (BitVec.ofInt 64 n &&& BitVec.ofInt 64 3).toNat = (n % ((2 ^ 64 : Nat) : Int)).toNat % 2 ^ 2 := by
  rw [BitVec.toNat_and, BitVec.toNat_ofInt, hm, dN]
 show IntKind.i64.wrap ((BitVec.ofInt 64 n &&& BitVec.ofInt 64 3).toNat : Nat) = n % 4
 rw [key, IntKind.wrap_i64];omega
theorem zJi (n : Nat) : bits .and .u64 (n : Int) 7 = ((n % 8 : Nat) : Int) := by
 have hm : (BitVec.ofInt 64 7).toNat = 2 ^ 3 - 1 := by decide
 have key : (BitVec.ofInt 64 (n : Int) &&& BitVec.ofInt 64 7).toNat = ((n : Int) % ((2 ^ 64 : Nat) : Int)).toNat % 2 ^ 3 := by
  rw [BitVec.toNat_and, BitVec.toNat_ofInt, hm, dN]
 show IntKind.u64.wrap ((BitVec.ofInt 64 (n : Int) &&& BitVec.ofInt 64 7).toNat : Nat) = _
 rw [key];simp [IntKind.wrap, IntKind.signed, IntKind.bits];omega
theorem zJe (n : Nat) : bits .and .u32 (n : Int) 1 = ((n % 2 : Nat) : Int) := by
 have hm : (BitVec.ofInt 32 1).toNat = 2 ^ 1 - 1 := by decide
 have key : (BitVec.ofInt 32 (n : Int) &&& BitVec.ofInt 32 1).toNat = ((n : Int) % ((2 ^ 32 : Nat) : Int)).toNat % 2 ^ 1 := by
  rw [BitVec.toNat_and, BitVec.toNat_ofInt, hm, dN]
 show IntKind.u32.wrap ((BitVec.ofInt 32 (n : Int) &&& BitVec.ofInt 32 1).toNat : Nat) = _
 rw [key];simp [IntKind.wrap, IntKind.signed, IntKind.bits];omega
theorem zLa : xj Tryz.prog 60 63 5 56 := by
 obtain ⟨i, hi, hz, hs, hb⟩ := cn (P := Tryz.prog) (e := 63) (z := .agg #[.int .i64 0, .int .i64 0, .int .u64 0, .int .u32 0, .slice none 0 0]) (size := 5) (bytes := 56) (by kernel_rfl);exact ⟨Tryz.underlying60, by decide, i, _, hi, hz, hs, hb, rfl⟩
theorem zJy : ∃ zc : Array Value, zc.size = 4076 ∧ zc.toList = (List.replicate 4076 (0 : UInt8)).map vh ∧ ∀ w : World, (Instr.makeSlice 54 (.int .i64 4076) (.int .i64 4076)).run Tryz.prog w = .ok (.slice (some ⟨w.heap.size, 0, none⟩) 4076 4076) (w.alloc (.cells zc 5)) := by
 obtain ⟨i, hi, hz, hs, hb⟩ := cn (P := Tryz.prog) (e := 5) (z := .int .u8 0) (size := 1) (bytes := 1) (by kernel_rfl);refine ⟨madeCells (Value.int .u8 0).cells (4076 * i.size), ?_, ?_, fun w => ?_⟩
 ·
  rw [hs]; simp [madeCells]
 ·
  rw [hs, List.map_replicate];unfold madeCells;rw [Array.toList_map, Array.toList_range];refine List.eq_replicate_iff.2 ⟨by rw [aI, List.length_range], fun b hb => ?_⟩;obtain ⟨j, _, rfl⟩ := List.mem_map.1 hb
  show (#[Value.int .u8 0])[j % 1]! = _
  rw [Nat.mod_one]
  rfl
 have h := run_make (P := Tryz.prog) w 54 5 i (.int .u8 0) Tryz.underlying54 hi hz .i64 .i64 4076 4076 (by decide) (by decide) (by rw [hb]; decide) (by decide);exact h
structure gY (W : World) (B : Nat) (v : Value) (qs : List (Rq × Value)) : Prop where
 row : W.ownsRow B 63 5 v qs.length (qs.flatMap nu)
 dat : ∀ p ∈ qs, gu W B p.2 p.1.data
theorem gY.nil (W : World) (B : Nat) : gY W B (.slice none 0 0) [] := ⟨aV _ _ _ _, fun p hp => by cases hp⟩
theorem gY.below {W W' : World} {B : Nat} {v : Value} {qs : List (Rq × Value)} (h : gY W B v qs) (hb : Below W.heap.size W W') : gY W' B v qs := ⟨zH h.row hb, fun p hp => ix.below (h.dat p hp) hb⟩
theorem gY.jw {W W' : World} {B b : Nat} {T' : TypeId} {v : Value} {qs : List (Rq × Value)} (h : gY W B v qs) (ho : iI W W' B b T') (h1 : v.ownBlock ≠ some b) (h2 : 5 ≠ T') : gY W' B v qs := by
 obtain ⟨h3, h4⟩ := h;refine ⟨⟨h3.1, ?_⟩, fun p hp => ix.jw (h4 p hp) ho h2⟩;rcases h3.2 with h5 | ⟨g, cap, cur, e, hb, hg, h6⟩
 ·
  exact .inl h5
 exact .inr ⟨g, cap, cur, e, hb, by rw [ho.blk g (Array.getElem?_eq_some_iff.1 hg).1 (fun e2 => h1 (by rw [e, e2]; rfl))]; exact hg, h6⟩
theorem gu.DO {W : World} {B : Nat} {a : Option Addr} {n c : Nat} {d : List UInt8} (h : gu W B (.slice a n c) d) (hk : 30 ≤ n) : gu W B (.slice a 30 c) (d.take 30) := by
 have hn : d.length = n := by obtain ⟨⟨_, _, _, e, _⟩, _⟩ := h; injection e with _ e _; exact e.symm
 have h1 : oD W (.slice a 30 c) (d.take 30) := ik.take h.rd 30 (by omega);refine ⟨h1, fun g hg => ?_⟩;have Hd : (Value.slice a n c).ownBlock = some g := by
  cases a with
  | none => cases hg
  | some y => simpa [Value.ownBlock] using hg
 rcases h.2 g Hd with h2 | h2
 ·
  left
  have : d = [] := List.map_eq_nil_iff.1 h2;rw [this]; rfl
 exact .inr h2
theorem gY.push {W W' : World} {B : Nat} {v v' : Value} {qs : List (Rq × Value)} {p : Rq × Value} (h : gY W B v qs) (hd : gu W B p.2 p.1.data) (ho : W'.ownsRow B 63 5 v' (qs.length + 1) (qs.flatMap nu ++ nu p)) (hg : W.grownBy W' v.ownBlock) : gY W' B v' (qs ++ [p]) := by
 have hO : gC W W' B 63 := gC.row h.row hg (ai _);refine ⟨?_, fun x hx => ?_⟩
 ·
  rw [aA, cm, cN, List.flatMap_nil, bY]; exact ho
 rcases List.mem_append.1 hx with hx | hx
 ·
  exact ix.gl (h.dat x hx) hO (by decide)
 obtain rfl := List.mem_singleton.1 hx;exact ix.gl hd hO (by decide)
theorem zDA (l : List Rq) (jk : Bool) (most i : Nat) (h : i < l.length) (q : Rq) (hq : l[i]? = some q) : ((l.take (i + 1)).map (Et jk)) = (l.take i).map (Et jk) ++ [Et jk q] := by
 rw [cU, hq, bW]; rfl
theorem zES (v : Value) (qs : List (Rq × Value)) (most : Nat) (jk : Bool) (w : World) (h : oz w v qs) (hm : most ≤ 1000) :
  Calls Tryz.prog 21 #[v, .int .i64 (most : Int), .bool jk] w fun e w' => ∃ v' A7, e = .returned v' ∧ gY w' w.heap.size v' A7 ∧ A7.map (·.1) = ((qs.map (·.1)).take most).map (Et jk) ∧ Below w.heap.size w w' := by
 obtain ⟨a, cap, rfl, h1, h2⟩ := h.shape;have HQ := zh h;have rB := zh (fun i (hi : i < qs.length) => h.dat _ (kQ hi));have jI := zh (fun i (hi : i < qs.length) => zDA (qs.map (·.1)) jk most i (by rw [aI]; exact hi) (jX qs i).1 (by rw [b8]; unfold jX; rw [ax, aB hi]; rfl))
 have HE := zh (show ∀ i, i ≤ qs.length → i ≤ most → ¬ (i < qs.length ∧ i < most) → (qs.map (·.1)).take i = (qs.map (·.1)).take most from fun i h1 h2 h3 => by
  by_cases e : i = most
  ·
   rw [e]
  rw [aS (by rw [aI]; omega), aS (by rw [aI]; omega)])
 clear h;generalize hn : qs.length = n at *;clear hn;generalize qs.map (·.1) = N at *
 go_enter Tryz.func21, Tryz.ntmps21
 go_wp2_with fail
 go_loopw [7, 8] (fun ov iv W => ∃ (i : Nat) (A7 : List (Rq × Value)), iv = .int .i64 (i : Int) ∧ i ≤ n ∧ i ≤ most ∧ A7.length = i ∧ Hid (gY W w.heap.size ov A7) ∧ Hid (A7.map (·.1) = (N.take i).map (Et jk)) ∧ Hid (Below w.heap.size w W)) (fun _ iv _ => n - (intOf iv).toNat)
 case atStart => exact ⟨0, [], rfl, au _, au _, rfl, zh (gY.nil _ _), zh rfl, zh (aj _ _)⟩
 obtain ⟨i, A7, rfl, hi, hi2, hl, HO, Fi, HB⟩ := eT;have hsz : w.heap.size ≤ wr.heap.size := HB.out.size
 by_cases hin : i < n ∧ i < most
 ·
  obtain ⟨hin, him⟩ := hin;have i1 : (i : Int) < (n : Int) := by omega
  have i2 : decide ((i : Int) < (n : Int)) = true := aF i1;have i3 : decide ((i : Int) < (most : Int)) = true := aF (by omega);obtain ⟨qb, qo, e0, _, c0, c1, c2, c3, c4⟩ := (HQ.out.below HB.out).at (j := i) hin;subst e0;have Jb := rB.out i hin;have hst := jI.out i hin;generalize jX qs i = X at *;obtain ⟨⟨tk, kd, ky, ck, dl⟩, dv⟩ := X;dsimp only at *;obtain ⟨da, dc, rfl, oE, hd2⟩ := Jb.gq;have M_ := zh Jb;have Jc := zh hst;have e1 := zLf kd;have e2 := zJi ky;have e3 := zJe ck;clear Jb hst;go_upto_if 41 with fail;have eC := (aj wr.heap.size wr).alloc (ai _) (.cells #[.int .i64 tk, .int .i64 (1 + kd % 2), .int .u64 ((ky : Int) % 8), .int .u32 ((ck : Int) % 2), .slice da dl.length dc] 63);have HX := zh (dQ.new wr #[.int .i64 tk, .int .i64 (1 + kd % 2), .int .u64 ((ky : Int) % 8), .int .u32 ((ck : Int) % 2), .slice da dl.length dc] 63)
  have hnb : ∀ g, u7.ownBlock = some g → g ≠ wr.heap.size := fun g hg e => by have := (HO.out.row.lt g hg).2; omega
  have jE := zh (HO.out.below eC);have gj := zh (HB.out.trans (eC.mono hsz));have Fs := zh (show gu _ w.heap.size (.slice da dl.length dc) dl from ix.below (ix.below (ix.old M_.out (ai _)) HB.out) eC);change Code.wp _ _ _ _ (wr.alloc (.cells #[.int .i64 tk, .int .i64 (1 + kd % 2), .int .u64 ((ky : Int) % 8), .int .u32 ((ck : Int) % 2), .slice da dl.length dc] 63));clear eC HO HB M_ c0 c1 c2 c3 c4;generalize IZ : wr.heap.size = bR at *;clear IZ;generalize wr.alloc (.cells #[.int .i64 tk, .int .i64 (1 + kd % 2), .int .u64 ((ky : Int) % 8), .int .u32 ((ck : Int) % 2), .slice da dl.length dc] 63) = w5 at *
  go_cut [9] (fun pv wx => pv = .pointer (some ⟨bR, 0, none⟩) ∧ ∃ (DP : Option Addr) (DQ : Nat), Hid (dQ wx bR #[.int .i64 tk, .int .i64 (1 + kd % 2), .int .u64 ((ky : Int) % 8), .int .u32 ((ck : Int) % 2), .slice DP (dl.take 30).length DQ] 63) ∧ Hid (gu wx w.heap.size (.slice DP (dl.take 30).length DQ) (dl.take 30)) ∧ Hid (gY wx w.heap.size u7 A7) ∧ Hid (Below w.heap.size w wx))
  case first =>
   have x4 := HX.out.cell (i := 4) rfl
   by_cases h30 : 30 < dl.length
   ·
    have Cq := fun W kh => yq (P := Tryz.prog) Nt (a := da) (n := dl.length) (cap := dc) (ik.spot Fs.out.rd (by omega)) 30 (by omega) W kh
    rw [show ((30 : Nat) : Int) = 30 from rfl] at Cq;have A_ : decide ((30 : Int) < (dl.length : Int)) = true := by simp; omega
    have DR : (dl.take 30).length = 30 := by rw [ay]; omega
    have BH : dQ (w5.setCell ⟨bR, 4, none⟩ (.slice da 30 dc)) bR #[.int .i64 tk, .int .i64 (1 + kd % 2), .int .u64 ((ky : Int) % 8), .int .u32 ((ck : Int) % 2), .slice da 30 dc] 63 := by
     have h := HX.out.set 4 (.slice da 30 dc);simp only [aP, aQ, aN] at h;exact h
    have mJ := zh BH;have oL : iI w5 (w5.setCell ⟨bR, 4, none⟩ (.slice da 30 dc)) w.heap.size bR 63 := iI.pts hsz ⟨_, _, HX.out⟩ [(4, .slice da 30 dc)];have i_ := zh (jE.out.jw oL (fun e => hnb _ e rfl) (by decide));have BG := zh (ix.jw (show gu w5 w.heap.size (.slice da 30 dc) (dl.take 30) from Fs.out.DO (by omega)) oL (by decide));have lJ := zh (zD (B := w.heap.size) (b := bR) hsz [(4, .slice da 30 dc)] gj.out);have f4 := HX.out.frozen 4;clear BH oL;go_wp2_with fail;go_meet
    case rel => exact ⟨rfl, da, dc, by rw [DR]; exact mJ, by rw [DR]; exact BG, i_, lJ⟩
   have A_ : decide ((30 : Int) < (dl.length : Int)) = false := by simp; omega
   have he : dl.take 30 = dl := aS (by omega);go_wp2_with fail;go_meet
   case rel => exact ⟨rfl, da, dc, by rw [he]; exact HX, by rw [he]; exact Fs, jE, gj⟩
  clear HX Fs jE gj;obtain ⟨rfl, DP, DQ, HX, HK, HO, HB⟩ := fZ;generalize wc = w6 at *;have akl : (dl.take 30).length ≤ 30 := by rw [ay]; omega
  have Aa := zh (show Et jk ⟨tk, kd, ky, ck, dl⟩ = ⟨tk, 1 + kd % 2, ky % 8, ck % 2, (if (jk && decide (tk % 4 = 0)) = true then List.replicate 4076 0 else []) ++ dl.take 30⟩ from rfl);generalize dl.take 30 = D at *;obtain ⟨pre, hpre⟩ : ∃ pre : List UInt8, (if (jk && decide (tk % 4 = 0)) = true then List.replicate 4076 0 else []) = pre := ⟨_, rfl⟩
  rw [hpre] at Aa;have nK := zh hpre;clear hpre;have e4 := zLc tk;have x0 := HX.out.cell (i := 0) rfl;have x4 := HX.out.cell (i := 4) rfl;obtain ⟨mb, T0⟩ : ∃ mb, (jk && decide (tk % 4 = 0)) = mb := ⟨_, rfl⟩
  rw [T0] at nK;have HMb := zh T0;clear T0;go_upto_region 9 with fail
  go_cut [52] (fun bv wx => bv = .bool mb ∧ w6 = wx)
  case first =>
   cases jk
   ·
    have T1 := HMb.out;rw [Bool.false_and] at T1;subst T1;go_wp2_with fail;go_meet
    case rel => exact ⟨rfl, rfl⟩
   have T1 : (tk % 4 == 0) = mb := by
    rw [← HMb.out, cE]
    by_cases h : tk % 4 = 0
    ·
     simp [h]
    simp [h]
   go_wp2_with fail;go_meet
   case rel => exact ⟨rfl, rfl⟩
  obtain ⟨rfl, rfl⟩ := fZ;go_upto_if 52 with fail
  go_cut [9] (fun pv wx => pv = .pointer (some ⟨bR, 0, none⟩) ∧ ∃ (sB : Option Addr) (sC : Nat) (D2 : List UInt8), Hid (D2 = pre ++ D) ∧ Hid (dQ wx bR #[.int .i64 tk, .int .i64 (1 + kd % 2), .int .u64 ((ky : Int) % 8), .int .u32 ((ck : Int) % 2), .slice sB D2.length sC] 63) ∧ Hid (gu wx w.heap.size (.slice sB D2.length sC) D2) ∧ Hid (gY wx w.heap.size u7 A7) ∧ Hid (Below w.heap.size w wx))
  case first =>
   cases mb
   ·
    have Na : [] = pre := nK.out;subst Na;go_wp2_with fail;go_meet
    case rel => exact ⟨rfl, DP, DQ, D, zh rfl, HX, HK, HO, HB⟩
   have Na : List.replicate 4076 0 = pre := nK.out;obtain ⟨zc, mf, gV, hmk⟩ := zJy;rw [Na] at gV;have Ft : pre.length = 4076 := by rw [← Na, dm]
   clear Na nK;have eC := zz ((aj w6.heap.size w6).alloc (ai _) (.cells zc 5));have DS : (World.drew (w6.alloc (.cells zc 5))).ownsRow w6.heap.size 5 1 (.slice (some ⟨w6.heap.size, 0, none⟩) 4076 4076) 4076 (pre.map vh) := ⟨by rw [aI, Ft], .inr ⟨w6.heap.size, 4076, zc, rfl, ai _, cW w6 _, ai _, by decide, mf, by rw [gV, aS (by rw [aI, Ft]; decide)]⟩⟩
   have HZ := zh DS;have J4 := zh (HX.out.below eC);have Iw := zh (ix.below HK.out eC);have hs6 : w6.heap.size ≤ (World.drew (w6.alloc (.cells zc 5))).heap.size := eC.size
   have n9 := zh (fun W9 va vc (hown : World.ownsRow W9 w6.heap.size 5 1 (.slice va (4076 + D.length) vc) (4076 + D.length) (pre.map vh ++ D.map vh)) (lV : (World.drew (w6.alloc (.cells zc 5))).grownBy W9 (Value.slice (some ⟨w6.heap.size, 0, none⟩) 4076 4076).ownBlock) => show dQ W9 bR #[.int .i64 tk, .int .i64 (1 + kd % 2), .int .u64 ((ky : Int) % 8), .int .u32 ((ck : Int) % 2), .slice DP D.length DQ] 63 ∧ gu W9 w.heap.size (.slice va (pre ++ D).length vc) (pre ++ D) ∧ gY W9 w.heap.size u7 A7 ∧ Below w6.heap.size w6 W9 by
    have hb := zM eC DS hs6 lV
    refine ⟨HX.out.below hb, ?_, HO.out.below hb, hb⟩
    have e : (pre ++ D).length = 4076 + D.length := by rw [aA, Ft]
    unfold gu
    rw [e, bW]
    exact ix.own hown)
   clear DS eC gV;have xa4 := J4.out.cell (i := 4) rfl;have T3 := zh (show Rd (World.drew (w6.alloc (.cells zc 5))) 1 (.slice DP D.length DQ) D.length (D.map vh) from Iw.out.1);go_upto_region 10 with fail
   go_region_law ((refine ww (n := 4076) (m := D.length) (by rfl) (.tmp 53) (.tmp 55) 54 (by rfl) Nt w6.heap.size (by rfl) HZ.out (by rfl) T3.out (UD D) (by unfold maxLen; omega) (by omega) hs6 ?_; intro v9 w9 eo fm oG; clear oG; obtain ⟨mL, mM, oG, _, _, _⟩ := zO eo; subst oG; obtain ⟨r1, r2, r3, r4⟩ := n9.out _ _ _ eo fm; have x9 := r1.cell (i := 4) rfl; have f9 := r1.frozen 4))
   all_goals
    have e : (pre ++ D).length = 4076 + D.length := by rw [aA, Ft]
    rw [e] at r2;have oL : iI w9 (w9.setCell ⟨bR, 4, none⟩ (.slice mL (4076 + D.length) mM)) w.heap.size bR 63 := iI.pts hsz ⟨_, _, r1⟩ [(4, .slice mL (4076 + D.length) mM)];have BH : dQ (w9.setCell ⟨bR, 4, none⟩ (.slice mL (4076 + D.length) mM)) bR #[.int .i64 tk, .int .i64 (1 + kd % 2), .int .u64 ((ky : Int) % 8), .int .u32 ((ck : Int) % 2), .slice mL (4076 + D.length) mM] 63 := by
     have h := r1.set 4 (.slice mL (4076 + D.length) mM);simp only [aP, aQ, aN] at h;exact h
    have mJ := zh BH;have BG := zh (ix.jw r2 oL (by decide));have i_ := zh (r3.jw oL (fun e => hnb _ e rfl) (by decide));have lJ := zh (zD (B := w.heap.size) (b := bR) hsz [(4, .slice mL (4076 + D.length) mM)] (HB.out.trans (r4.mono HB.out.size)));clear r1 r2 r3 r4 oL BH x9 f9 eo fm;go_wp2_with fail;go_meet
    case rel => exact ⟨rfl, mL, mM, pre ++ D, zh rfl, by rw [e]; exact mJ, by rw [e]; exact BG, i_, lJ⟩
  clear HX HK HO HB nK;obtain ⟨rfl, sB, sC, D2, Jw, HX, HK, HO, HB⟩ := fZ;generalize wc = w7 at *;obtain ⟨oa, oc, sH, _, _, _⟩ := zO HO.out.row;subst sH;have Nb : w.heap.size ≤ w7.heap.size := HB.out.size;have x0 := HX.out.cell (i := 0) rfl;have x1 := HX.out.cell (i := 1) rfl;have x2 := HX.out.cell (i := 2) rfl;have x3 := HX.out.cell (i := 3) rfl;have x4 := HX.out.cell (i := 4) rfl;have eC := (aj w7.heap.size w7).alloc (ai _) (.cells #[.int .i64 tk, .int .i64 (1 + kd % 2), .int .u64 ((ky : Int) % 8), .int .u32 ((ck : Int) % 2), .slice sB D2.length sC] 63);have mA := zh (HO.out.below eC);have T4 := zh (ix.below HK.out eC);have lX := zh (HB.out.trans (eC.mono Nb));have DT := zh mA.out.row;have Nc := ak Nb eC.size;clear eC HX HK HO HB
  go_wp2_with (at_builtin; go_must (refine zd (n := A7.length) (m := 1) rfl (.tmp 58) (.tmp 60) 60 rfl zLa w.heap.size rfl DT.out rfl (Rd.np w7.heap.size w7 rfl 5 [.int .i64 tk, .int .i64 (1 + kd % 2), .int .u64 ((ky : Int) % 8), .int .u32 ((ck : Int) % 2), .slice sB D2.length sC] 63 1 rfl (by decide)) (fun u hu => by simp only [cA, cB, or_false] at hu; rcases hu with h | h | h | h | h <;> rw [h] <;> rfl) (by unfold maxLen; omega) (by omega) Nc ?_); intro v3 w9 d_ eW mH; clear mH);have i_ := zh (mA.out.push (p := ((⟨tk, 1 + kd % 2, ky % 8, ck % 2, D2⟩ : Rq), (.slice sB D2.length sC : Value))) T4.out d_ eW);have lJ := zh (zM lX.out DT.out Nc eW);have T5 := zh (show (A7 ++ [((⟨tk, 1 + kd % 2, ky % 8, ck % 2, D2⟩ : Rq), (.slice sB D2.length sC : Value))]).map (·.1) = (N.take (i + 1)).map (Et jk) by rw [bW, Fi.out, Jc.out, Aa.out, Jw.out]; rfl)
  have OZ : (A7 ++ [((⟨tk, 1 + kd % 2, ky % 8, ck % 2, D2⟩ : Rq), (.slice sB D2.length sC : Value))]).length = i + 1 := by rw [aA, hl]; rfl
  clear d_ eW;go_wp2_with fail;exact ⟨⟨i + 1, _, by go_num, by omega, by omega, OZ, i_, T5, lJ⟩, by simp [intOf]; omega⟩
 have D7 := zh (HE.out i hi hi2 hin)
 by_cases h5 : i < n
 ·
  have i2 : decide ((i : Int) < (n : Int)) = true := aF (by omega);have i3 : decide ((i : Int) < (most : Int)) = false := aD (by omega);go_wp2_with fail;go_ret;exact ⟨_, A7, rfl, HO.out, by rw [Fi.out, D7.out], HB.out⟩
 have i2 : decide ((i : Int) < (n : Int)) = false := aD (by omega);go_wp2_with fail;go_ret;exact ⟨_, A7, rfl, HO.out, by rw [Fi.out, D7.out], HB.out⟩
theorem zJr (n : Nat) : bits .and .u32 (n : Int) 3 = ((n % 4 : Nat) : Int) := by
 have hm : (BitVec.ofInt 32 3).toNat = 2 ^ 2 - 1 := by decide
 have key : (BitVec.ofInt 32 (n : Int) &&& BitVec.ofInt 32 3).toNat = ((n : Int) % ((2 ^ 32 : Nat) : Int)).toNat % 2 ^ 2 := by
  rw [BitVec.toNat_and, BitVec.toNat_ofInt, hm, dN]
 show IntKind.u32.wrap ((BitVec.ofInt 32 (n : Int) &&& BitVec.ofInt 32 3).toNat : Nat) = _
 rw [key];simp [IntKind.wrap, IntKind.signed, IntKind.bits];omega
theorem fO.Jd {W W' : World} {B b : Nat} {T' : TypeId} {v : Value} {es : List (Nd × Value)} (h : fO W B v es) (ho : iI W W' B b T') (h1 : v.ownBlock ≠ some b) (h2 : 5 ≠ T') : fO W' B v es := by
 obtain ⟨h3, h4⟩ := h;refine ⟨⟨h3.1, ?_⟩, fun p hp => ix.jw (h4 p hp) ho h2⟩;rcases h3.2 with h5 | ⟨g, cap, cur, e, hb, hg, h6⟩
 ·
  exact .inl h5
 exact .inr ⟨g, cap, cur, e, hb, by rw [ho.blk g (Array.getElem?_eq_some_iff.1 hg).1 (fun e2 => h1 (by rw [e, e2]; rfl))]; exact hg, h6⟩
theorem fO.nil (W : World) (B : Nat) : fO W B (.slice none 0 0) [] := ⟨aV _ _ _ _, fun p hp => by cases hp⟩
theorem fO.push {W W' : World} {B : Nat} {v v' : Value} {es : List (Nd × Value)} {p : Nd × Value} (h : fO W B v es) (hd : gu W B p.2 p.1.data) (ho : W'.ownsRow B 56 4 v' (es.length + 1) (wM es ++ vy p)) (hg : W.grownBy W' v.ownBlock) : fO W' B v' (es ++ [p]) := by
 have hO : gC W W' B 56 := gC.row h.row hg (ai _);refine ⟨?_, fun x hx => ?_⟩
 ·
  have e : wM (es ++ [p]) = wM es ++ vy p := by unfold wM; rw [cm]; simp
  rw [e, aA]; exact ho
 rcases List.mem_append.1 hx with hx | hx
 ·
  exact ix.gl (h.dat x hx) hO (by decide)
 obtain rfl := List.mem_singleton.1 hx;exact ix.gl hd hO (by decide)
theorem zE3 (v : Value) (ns : List (Nd × Value)) (most : Nat) (w : World) (h : mK w v ns) (hm : most ≤ 1000) :
  Calls Tryz.prog 37 #[v, .int .i64 (most : Int)] w fun e w' => ∃ v' es, e = .returned v' ∧ fO w' w.heap.size v' es ∧ es.map (·.1) = CV most (ns.map (·.1)) ∧ Below w.heap.size w w' := by
 obtain ⟨a, cap, rfl, h1, h2⟩ := h.shape;have HQ := zh h;have rB := zh (fun i (hi : i < ns.length) => h.dat _ (uM hi))
 have jI := zh (show ∀ i, i < ns.length → ((ns.map (·.1)).take (i + 1)).map Es = ((ns.map (·.1)).take i).map Es ++ [Es (xb ns i).1] from fun i hi => by
  rw [cU, b8, aB hi, bW]
  unfold xb
  rw [ax, aB hi]; rfl)
 have HE := zh (show ∀ i, i ≤ ns.length → i ≤ most → ¬ (i < ns.length ∧ i < most) → ((ns.map (·.1)).take i).map Es = CV most (ns.map (·.1)) from fun i h1 h2 h3 => by
  unfold CV
  by_cases e : i = most
  ·
   rw [e]
  rw [aS (by rw [aI]; omega), aS (by rw [aI]; omega)])
 clear h;generalize hn : ns.length = n at *;clear hn;generalize ns.map (·.1) = N at *
 go_enter Tryz.func37, Tryz.ntmps37
 go_wp2_with fail
 go_loopw [5, 6] (fun ov iv W => ∃ (i : Nat) (es : List (Nd × Value)), iv = .int .i64 (i : Int) ∧ i ≤ n ∧ i ≤ most ∧ es.length = i ∧ Hid (fO W w.heap.size ov es) ∧ Hid (es.map (·.1) = (N.take i).map Es) ∧ Hid (Below w.heap.size w W)) (fun _ iv _ => n - (intOf iv).toNat)
 case atStart => exact ⟨0, [], rfl, au _, au _, rfl, zh (fO.nil _ _), zh rfl, zh (aj _ _)⟩
 obtain ⟨i, es, rfl, hi, hi2, hl, HO, Fi, HB⟩ := eT;have hsz : w.heap.size ≤ wr.heap.size := HB.out.size
 by_cases hin : i < n ∧ i < most
 ·
  obtain ⟨hin, him⟩ := hin;have i1 : (i : Int) < (n : Int) := by omega
  have i2 : decide ((i : Int) < (n : Int)) = true := aF i1;have i3 : decide ((i : Int) < (most : Int)) = true := aF (by omega);obtain ⟨qb, qo, e0, _, c0, c1, c2, c3⟩ := (HQ.out.below HB.out).at (j := i) hin;subst e0;have Jb := rB.out i hin;have hst := jI.out i hin;generalize xb ns i = X at *;obtain ⟨⟨ky, ck, dd, dl⟩, dv⟩ := X;dsimp only at *;obtain ⟨da, dc, rfl, oE, hd2⟩ := Jb.gq;have M_ := zh Jb;have Jc := zh hst;have e2 := zJi ky;have e3 := zJr ck;clear Jb hst;go_upto_if 26 with fail;have eC := (aj wr.heap.size wr).alloc (ai _) (.cells #[.int .u64 (ky : Int), .int .u32 (ck : Int), .bool dd, .slice da dl.length dc] 56);have HX := zh (dQ.new wr #[.int .u64 (ky : Int), .int .u32 (ck : Int), .bool dd, .slice da dl.length dc] 56);have hnb : ∀ g, u5.ownBlock = some g → g ≠ wr.heap.size := fun g hg e => by have := (HO.out.row.lt g hg).2; omega
  have jE := zh (HO.out.below eC);have gj := zh (HB.out.trans (eC.mono hsz));have Fs := zh (show gu _ w.heap.size (.slice da dl.length dc) dl from ix.below (ix.below (ix.old M_.out (ai _)) HB.out) eC);change Code.wp _ _ _ _ (wr.alloc (.cells #[.int .u64 (ky : Int), .int .u32 (ck : Int), .bool dd, .slice da dl.length dc] 56));clear eC HO HB M_ c0 c1 c2 c3;generalize IZ : wr.heap.size = bR at *;clear IZ;generalize wr.alloc (.cells #[.int .u64 (ky : Int), .int .u32 (ck : Int), .bool dd, .slice da dl.length dc] 56) = w5 at *
  go_cut [7] (fun pv wx => pv = .pointer (some ⟨bR, 0, none⟩) ∧ ∃ (DP : Option Addr) (DQ : Nat), Hid (dQ wx bR #[.int .u64 (ky : Int), .int .u32 (ck : Int), .bool dd, .slice DP (dl.take 30).length DQ] 56) ∧ Hid (gu wx w.heap.size (.slice DP (dl.take 30).length DQ) (dl.take 30)) ∧ Hid (fO wx w.heap.size u5 es) ∧ Hid (Below w.heap.size w wx))
  case first =>
   have x4 := HX.out.cell (i := 3) rfl
   by_cases h30 : 30 < dl.length
   ·
    have Cq := fun W kh => yq (P := Tryz.prog) Nt (a := da) (n := dl.length) (cap := dc) (ik.spot Fs.out.rd (by omega)) 30 (by omega) W kh
    rw [show ((30 : Nat) : Int) = 30 from rfl] at Cq;have A_ : decide ((30 : Int) < (dl.length : Int)) = true := by simp; omega
    have DR : (dl.take 30).length = 30 := by rw [ay]; omega
    have BH : dQ (w5.setCell ⟨bR, 3, none⟩ (.slice da 30 dc)) bR #[.int .u64 (ky : Int), .int .u32 (ck : Int), .bool dd, .slice da 30 dc] 56 := by
     have h := HX.out.set 3 (.slice da 30 dc);simp only [aP, aQ, aN] at h;exact h
    have mJ := zh BH;have oL : iI w5 (w5.setCell ⟨bR, 3, none⟩ (.slice da 30 dc)) w.heap.size bR 56 := iI.pts hsz ⟨_, _, HX.out⟩ [(3, .slice da 30 dc)];have i_ := zh (jE.out.Jd oL (fun e => hnb _ e rfl) (by decide));have BG := zh (ix.jw (show gu w5 w.heap.size (.slice da 30 dc) (dl.take 30) from Fs.out.DO (by omega)) oL (by decide));have lJ := zh (zD (B := w.heap.size) (b := bR) hsz [(3, .slice da 30 dc)] gj.out);have f4 := HX.out.frozen 3;clear BH oL;go_wp2_with fail;go_meet
    case rel => exact ⟨rfl, da, dc, by rw [DR]; exact mJ, by rw [DR]; exact BG, i_, lJ⟩
   have A_ : decide ((30 : Int) < (dl.length : Int)) = false := by simp; omega
   have he : dl.take 30 = dl := aS (by omega);go_wp2_with fail;go_meet
   case rel => exact ⟨rfl, da, dc, by rw [he]; exact HX, by rw [he]; exact Fs, jE, gj⟩
  clear HX Fs jE gj;obtain ⟨rfl, DP, DQ, HX, HK, HO, HB⟩ := fZ;generalize wc = w6 at *;have Aa := zh (show Es ⟨ky, ck, dd, dl⟩ = ⟨ky % 8, ck % 4, dd, if dd then [] else dl.take 30⟩ from rfl);generalize dl.take 30 = D at *;have x2 := HX.out.cell (i := 2) rfl;go_upto_if 32 with fail
  go_cut [7] (fun pv wx => pv = .pointer (some ⟨bR, 0, none⟩) ∧ ∃ (sB : Option Addr) (sC : Nat) (D2 : List UInt8), Hid (D2 = if dd then [] else D) ∧ Hid (dQ wx bR #[.int .u64 (ky : Int), .int .u32 (ck : Int), .bool dd, .slice sB D2.length sC] 56) ∧ Hid (gu wx w.heap.size (.slice sB D2.length sC) D2) ∧ Hid (fO wx w.heap.size u5 es) ∧ Hid (Below w.heap.size w wx))
  case first =>
   cases dd
   ·
    go_wp2_with fail;go_meet
    case rel => exact ⟨rfl, DP, DQ, D, zh rfl, HX, HK, HO, HB⟩
   have x3 := HX.out.cell (i := 3) rfl;have f3 := HX.out.frozen 3;have BH : dQ (w6.setCell ⟨bR, 3, none⟩ (.slice none 0 0)) bR #[.int .u64 (ky : Int), .int .u32 (ck : Int), .bool true, .slice none 0 0] 56 := by
    have h := HX.out.set 3 (.slice none 0 0);simp only [aP, aQ, aN] at h;exact h
   have mJ := zh BH;have oL : iI w6 (w6.setCell ⟨bR, 3, none⟩ (.slice none 0 0)) w.heap.size bR 56 := iI.pts hsz ⟨_, _, HX.out⟩ [(3, .slice none 0 0)];have i_ := zh (HO.out.Jd oL (fun e => hnb _ e rfl) (by decide));have BG := zh (show gu (w6.setCell ⟨bR, 3, none⟩ (.slice none 0 0)) w.heap.size (.slice none 0 0) [] from ⟨⟨rfl, none, 0, rfl, ai _, au _, fun _ => rfl, fun h => (by cases h)⟩, fun g hg => (by cases hg)⟩);have lJ := zh (zD (B := w.heap.size) (b := bR) hsz [(3, .slice none 0 0)] HB.out);clear BH oL;go_wp2_with fail;go_meet
   case rel => exact ⟨rfl, none, 0, [], zh rfl, mJ, BG, i_, lJ⟩
  clear HX HK HO HB;obtain ⟨rfl, sB, sC, D2, Jw, HX, HK, HO, HB⟩ := fZ;generalize wc = w7 at *;have x0 := HX.out.cell (i := 0) rfl;have x1 := HX.out.cell (i := 1) rfl;have f0 := HX.out.frozen 0;have f1 := HX.out.frozen 1;have BH : dQ (pts w7 bR [(0, .int .u64 ((ky : Int) % 8)), (1, .int .u32 ((ck : Int) % 4))]) bR #[.int .u64 ((ky : Int) % 8), .int .u32 ((ck : Int) % 4), .bool dd, .slice sB D2.length sC] 56 := by
   have h := dQ.sets [(0, .int .u64 ((ky : Int) % 8)), (1, .int .u32 ((ck : Int) % 4))] HX.out;simp only [dD, List.foldl_nil, aP, aQ, aN] at h;exact h
  have oL : iI w7 (pts w7 bR [(0, .int .u64 ((ky : Int) % 8)), (1, .int .u32 ((ck : Int) % 4))]) w.heap.size bR 56 := iI.pts hsz ⟨_, _, HX.out⟩ _;have i_ := zh (HO.out.Jd oL (fun e => hnb _ e rfl) (by decide));have BG := zh (ix.jw HK.out oL (by decide));have lJ := zh (zD (B := w.heap.size) (b := bR) hsz [(0, .int .u64 ((ky : Int) % 8)), (1, .int .u32 ((ck : Int) % 4))] HB.out);have mJ := zh BH;clear BH oL HX HK HO HB;go_upto_region 12 with fail;change Code.wp _ _ _ _ (pts w7 bR [(0, .int .u64 ((ky : Int) % 8)), (1, .int .u32 ((ck : Int) % 4))]);generalize pts w7 bR [(0, .int .u64 ((ky : Int) % 8)), (1, .int .u32 ((ck : Int) % 4))] = w8 at *;clear x0 x1 f0 f1;have x0 := mJ.out.cell (i := 0) rfl;have x1 := mJ.out.cell (i := 1) rfl;have x2 := mJ.out.cell (i := 2) rfl;have x3 := mJ.out.cell (i := 3) rfl;obtain ⟨oa, oc, sH, _, _, _⟩ := zO i_.out.row;subst sH
  have Nb : w.heap.size ≤ w8.heap.size := lJ.out.size;have eC := (aj w8.heap.size w8).alloc (ai _) (.cells #[.int .u64 ((ky : Int) % 8), .int .u32 ((ck : Int) % 4), .bool dd, .slice sB D2.length sC] 56);have mA := zh (i_.out.below eC);have T4 := zh (ix.below BG.out eC);have lX := zh (lJ.out.trans (eC.mono Nb));have DT := zh mA.out.row;have Nc := ak Nb eC.size;clear eC mJ BG i_ lJ;go_wp2_with (at_builtin; go_must (refine zd (n := es.length) (m := 1) rfl (.tmp 42) (.tmp 44) 23 rfl WT w.heap.size rfl DT.out rfl (Rd.np w8.heap.size w8 rfl 4 [.int .u64 ((ky : Int) % 8), .int .u32 ((ck : Int) % 4), .bool dd, .slice sB D2.length sC] 56 1 rfl (by decide)) (fun u hu => by simp only [cA, cB, or_false] at hu; rcases hu with h | h | h | h <;> rw [h] <;> rfl) (by unfold maxLen; omega) (by omega) Nc ?_); intro v3 w9 d_ eW mH; clear mH)
  have i_ := zh (mA.out.push (p := ((⟨ky % 8, ck % 4, dd, D2⟩ : Nd), (.slice sB D2.length sC : Value))) T4.out d_ eW);have lJ := zh (zM lX.out DT.out Nc eW);have T5 := zh (show (es ++ [((⟨ky % 8, ck % 4, dd, D2⟩ : Nd), (.slice sB D2.length sC : Value))]).map (·.1) = (N.take (i + 1)).map Es by rw [bW, Fi.out, Jc.out, Aa.out, Jw.out]; rfl);have OZ : (es ++ [((⟨ky % 8, ck % 4, dd, D2⟩ : Nd), (.slice sB D2.length sC : Value))]).length = i + 1 := by rw [aA, hl]; rfl
  clear d_ eW;go_wp2_with fail;exact ⟨⟨i + 1, _, by go_num, by omega, by omega, OZ, i_, T5, lJ⟩, by simp [intOf]; omega⟩
 have D7 := zh (HE.out i hi hi2 hin)
 by_cases h5 : i < n
 ·
  have i2 : decide ((i : Int) < (n : Int)) = true := aF (by omega);have i3 : decide ((i : Int) < (most : Int)) = false := aD (by omega);go_wp2_with fail;go_ret;exact ⟨_, es, rfl, HO.out, by rw [Fi.out, D7.out], HB.out⟩
 have i2 : decide ((i : Int) < (n : Int)) = false := aD (by omega);go_wp2_with fail;go_ret;exact ⟨_, es, rfl, HO.out, by rw [Fi.out, D7.out], HB.out⟩
end Go.Proofs.YtcgfilmmokmdjaaGreat
