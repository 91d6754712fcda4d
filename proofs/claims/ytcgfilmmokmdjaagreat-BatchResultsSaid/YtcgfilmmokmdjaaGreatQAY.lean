/- A part of the walk. -/
import Derived.Test.YtcgfilmmokmdjaaGreatQAX
import Derived.Test.YtcgfilmmokmdjaaGreatQAL
import Derived.Laws.MakeOwn
set_option linter.all false
set_option maxRecDepth 100000
set_option maxHeartbeats 32000000
namespace Go.Proofs.YtcgfilmmokmdjaaGreat
open Go.RowKit
def En (much : Bool) (q : Rq) : Rq := ⟨q.tk, 1 + q.kind % 2, q.key % 8, q.ck % 2, (if (much && decide (q.tk % 4 = 0)) = true then List.replicate 4076 0 else []) ++ q.data.take 30⟩
theorem zLf (n : Int) : bits .and .i64 n 1 = n % 2 := by
 have hm : (BitVec.ofInt 64 1).toNat = 2 ^ 1 - 1 := by decide
 have key : (BitVec.ofInt 64 n &&& BitVec.ofInt 64 1).toNat = (n % ((2 ^ 64 : Nat) : Int)).toNat % 2 ^ 1 := by
  rw [BitVec.toNat_and, BitVec.toNat_ofInt, hm, dR]
 show IntKind.i64.wrap ((BitVec.ofInt 64 n &&& BitVec.ofInt 64 1).toNat : Nat) = n % 2
 rw [key, IntKind.wrap_i64];omega
theorem zLc (n : Int) : bits .and .i64 n 3 = n % 4 := by
 have hm : (BitVec.ofInt 64 3).toNat = 2 ^ 2 - 1 := by decide
 have key : (BitVec.ofInt 64 n &&& BitVec.ofInt 64 3).toNat = (n % ((2 ^ 64 : Nat) : Int)).toNat % 2 ^ 2 := by
  rw [BitVec.toNat_and, BitVec.toNat_ofInt, hm, dR]
 show IntKind.i64.wrap ((BitVec.ofInt 64 n &&& BitVec.ofInt 64 3).toNat : Nat) = n % 4
 rw [key, IntKind.wrap_i64];omega
theorem zJi (n : Nat) : bits .and .u64 (n : Int) 7 = ((n % 8 : Nat) : Int) := by
 have hm : (BitVec.ofInt 64 7).toNat = 2 ^ 3 - 1 := by decide
 have key : (BitVec.ofInt 64 (n : Int) &&& BitVec.ofInt 64 7).toNat = ((n : Int) % ((2 ^ 64 : Nat) : Int)).toNat % 2 ^ 3 := by
  rw [BitVec.toNat_and, BitVec.toNat_ofInt, hm, dR]
 show IntKind.u64.wrap ((BitVec.ofInt 64 (n : Int) &&& BitVec.ofInt 64 7).toNat : Nat) = _
 rw [key];simp [IntKind.wrap, IntKind.signed, IntKind.bits];omega
theorem zJe (n : Nat) : bits .and .u32 (n : Int) 1 = ((n % 2 : Nat) : Int) := by
 have hm : (BitVec.ofInt 32 1).toNat = 2 ^ 1 - 1 := by decide
 have key : (BitVec.ofInt 32 (n : Int) &&& BitVec.ofInt 32 1).toNat = ((n : Int) % ((2 ^ 32 : Nat) : Int)).toNat % 2 ^ 1 := by
  rw [BitVec.toNat_and, BitVec.toNat_ofInt, hm, dR]
 show IntKind.u32.wrap ((BitVec.ofInt 32 (n : Int) &&& BitVec.ofInt 32 1).toNat : Nat) = _
 rw [key];simp [IntKind.wrap, IntKind.signed, IntKind.bits];omega
theorem zLa : xj Tryz.prog 60 63 5 56 := by
 obtain ⟨i, hi, hz, hs, hb⟩ := cn (P := Tryz.prog) (e := 63) (z := .agg #[.int .i64 0, .int .i64 0, .int .u64 0, .int .u32 0, .slice none 0 0]) (size := 5) (bytes := 56) (by kernel_rfl);exact ⟨Tryz.underlying60, by decide, i, _, hi, hz, hs, hb, rfl⟩
theorem zJy : ∃ zc : Array Value, zc.size = 4076 ∧ zc.toList = (List.replicate 4076 (0 : UInt8)).map vh ∧ ∀ w : World, (Instr.makeSlice 54 (.int .i64 4076) (.int .i64 4076)).run Tryz.prog w = .ok (.slice (some ⟨w.heap.size, 0, none⟩) 4076 4076) (w.alloc (.cells zc 5)) := by
 obtain ⟨i, hi, hz, hs, hb⟩ := cn (P := Tryz.prog) (e := 5) (z := .int .u8 0) (size := 1) (bytes := 1) (by kernel_rfl);refine ⟨madeCells (Value.int .u8 0).cells (4076 * i.size), ?_, ?_, fun w => ?_⟩
 ·
  rw [hs]; simp [madeCells]
 ·
  rw [hs, List.map_replicate];unfold madeCells;rw [Array.toList_map, Array.toList_range];refine List.eq_replicate_iff.2 ⟨by rw [aI, List.length_range], fun b hb => ?_⟩;obtain ⟨j, _, rfl⟩ := List.mem_map.1 hb
  show (#[Value.int .u8 0])[j % 1]! = _
  rw [Nat.mod_one]
  rfl
 have h := run_make (P := Tryz.prog) w 54 5 i (.int .u8 0) Tryz.underlying54 hi hz .i64 .i64 4076 4076 (by decide) (by decide) (by rw [hb]; decide) (by decide);exact h
structure h_ (W : World) (B : Nat) (v : Value) (qs : List (Rq × Value)) : Prop where
 row : W.ownsRow B 63 5 v qs.length (qs.flatMap ny)
 dat : ∀ p ∈ qs, gy W B p.2 p.1.data
theorem h_.nil (W : World) (B : Nat) : h_ W B (.slice none 0 0) [] := ⟨aU _ _ _ _, fun p hp => by cases hp⟩
theorem h_.below {W W' : World} {B : Nat} {v : Value} {qs : List (Rq × Value)} (h : h_ W B v qs) (hb : Below W.heap.size W W') : h_ W' B v qs := ⟨zH h.row hb, fun p hp => iA.below (h.dat p hp) hb⟩
theorem h_.jw {W W' : World} {B b : Nat} {T' : TypeId} {v : Value} {qs : List (Rq × Value)} (h : h_ W B v qs) (ho : iJ W W' B b T') (h1 : v.ownBlock ≠ some b) (h2 : 5 ≠ T') : h_ W' B v qs := by
 obtain ⟨h3, h4⟩ := h;refine ⟨⟨h3.1, ?_⟩, fun p hp => iA.jw (h4 p hp) ho h2⟩;rcases h3.2 with h5 | ⟨g, cap, cur, e, hb, hg, h6⟩
 ·
  exact .inl h5
 exact .inr ⟨g, cap, cur, e, hb, by rw [ho.blk g (Array.getElem?_eq_some_iff.1 hg).1 (fun e2 => h1 (by rw [e, e2]; rfl))]; exact hg, h6⟩
theorem gy.DK {W : World} {B : Nat} {a : Option Addr} {n c : Nat} {d : List UInt8} (h : gy W B (.slice a n c) d) (hk : 30 ≤ n) : gy W B (.slice a 30 c) (d.take 30) := by
 have hn : d.length = n := by obtain ⟨⟨_, _, _, e, _⟩, _⟩ := h; injection e with _ e _; exact e.symm
 have h1 : oH W (.slice a 30 c) (d.take 30) := iw.take h.rd 30 (by omega);refine ⟨h1, fun g hg => ?_⟩;have GX : (Value.slice a n c).ownBlock = some g := by
  cases a with
  | none => cases hg
  | some y => simpa [Value.ownBlock] using hg
 rcases h.2 g GX with h2 | h2
 ·
  left
  have : d = [] := List.map_eq_nil_iff.1 h2;rw [this]; rfl
 exact .inr h2
theorem h_.push {W W' : World} {B : Nat} {v v' : Value} {qs : List (Rq × Value)} {p : Rq × Value} (h : h_ W B v qs) (hd : gy W B p.2 p.1.data) (ho : W'.ownsRow B 63 5 v' (qs.length + 1) (qs.flatMap ny ++ ny p)) (hg : W.grownBy W' v.ownBlock) : h_ W' B v' (qs ++ [p]) := by
 have hO : gH W W' B 63 := gH.row h.row hg (ai _);refine ⟨?_, fun x hx => ?_⟩
 ·
  rw [aA, b_, cO, List.flatMap_nil, bW]; exact ho
 rcases List.mem_append.1 hx with hx | hx
 ·
  exact iA.gq (h.dat x hx) hO (by decide)
 obtain rfl := List.mem_singleton.1 hx;exact iA.gq hd hO (by decide)
theorem zDA (l : List Rq) (much : Bool) (most i : Nat) (h : i < l.length) (q : Rq) (hq : l[i]? = some q) : ((l.take (i + 1)).map (En much)) = (l.take i).map (En much) ++ [En much q] := by
 rw [cV, hq, bV]; rfl
theorem zES (v : Value) (qs : List (Rq × Value)) (most : Nat) (much : Bool) (w : World) (h : oC w v qs) (hm : most ≤ 1000) :
  Calls Tryz.prog 21 #[v, .int .i64 (most : Int), .bool much] w fun e w' => ∃ v' A7, e = .returned v' ∧ h_ w' w.heap.size v' A7 ∧ A7.map (·.1) = ((qs.map (·.1)).take most).map (En much) ∧ Below w.heap.size w w' := by
 obtain ⟨a, cap, rfl, h1, h2⟩ := h.shape;have HQ := zh h;have rD := zh (fun i (hi : i < qs.length) => h.dat _ (kQ hi));have jI := zh (fun i (hi : i < qs.length) => zDA (qs.map (·.1)) much most i (by rw [aI]; exact hi) (jX qs i).1 (by rw [cm]; unfold jX; rw [ax, aB hi]; rfl))
 have HE := zh (show ∀ i, i ≤ qs.length → i ≤ most → ¬ (i < qs.length ∧ i < most) → (qs.map (·.1)).take i = (qs.map (·.1)).take most from fun i h1 h2 h3 => by
  by_cases e : i = most
  ·
   rw [e]
  rw [aR (by rw [aI]; omega), aR (by rw [aI]; omega)])
 clear h;generalize hn : qs.length = n at *;clear hn;generalize qs.map (·.1) = N at *
 go_enter Tryz.func21, Tryz.ntmps21
 go_wp2_with fail
 go_loopw [7, 8] (fun ov iv W => ∃ (i : Nat) (A7 : List (Rq × Value)), iv = .int .i64 (i : Int) ∧ i ≤ n ∧ i ≤ most ∧ A7.length = i ∧ Hid (h_ W w.heap.size ov A7) ∧ Hid (A7.map (·.1) = (N.take i).map (En much)) ∧ Hid (Below w.heap.size w W)) (fun _ iv _ => n - (intOf iv).toNat)
 case atStart => exact ⟨0, [], rfl, au _, au _, rfl, zh (h_.nil _ _), zh rfl, zh (aj _ _)⟩
 obtain ⟨i, A7, rfl, hi, hi2, hl, HO, Fa, HB⟩ := hrel;have hsz : w.heap.size ≤ wr.heap.size := HB.out.size
 by_cases hin : i < n ∧ i < most
 ·
  obtain ⟨hin, him⟩ := hin;have i1 : (i : Int) < (n : Int) := by omega
  have i2 : decide ((i : Int) < (n : Int)) = true := aF i1;have i3 : decide ((i : Int) < (most : Int)) = true := aF (by omega);obtain ⟨qb, qo, e0, _, c0, c1, c2, c3, c4⟩ := (HQ.out.below HB.out).at (j := i) hin;subst e0;have IX := rD.out i hin;have hst := jI.out i hin;generalize jX qs i = X at *;obtain ⟨⟨tk, kd, ky, ck, dl⟩, dv⟩ := X;dsimp only at *;obtain ⟨da, dc, rfl, oI, hd2⟩ := IX.gw;have ML := zh IX;have IY := zh hst;have e1 := zLf kd;have e2 := zJi ky;have e3 := zJe ck;clear IX hst;go_upto_if 41 with fail;have eG := (aj wr.heap.size wr).alloc (ai _) (.cells #[.int .i64 tk, .int .i64 (1 + kd % 2), .int .u64 ((ky : Int) % 8), .int .u32 ((ck : Int) % 2), .slice da dl.length dc] 63);have HX := zh (dV.new wr #[.int .i64 tk, .int .i64 (1 + kd % 2), .int .u64 ((ky : Int) % 8), .int .u32 ((ck : Int) % 2), .slice da dl.length dc] 63)
  have hnb : ∀ g, u7.ownBlock = some g → g ≠ wr.heap.size := fun g hg e => by have := (HO.out.row.lt g hg).2; omega
  have jE := zh (HO.out.below eG);have gp := zh (HB.out.trans (eG.mono hsz));have Fj := zh (show gy _ w.heap.size (.slice da dl.length dc) dl from iA.below (iA.below (iA.old ML.out (ai _)) HB.out) eG);change Code.wp _ _ _ _ (wr.alloc (.cells #[.int .i64 tk, .int .i64 (1 + kd % 2), .int .u64 ((ky : Int) % 8), .int .u32 ((ck : Int) % 2), .slice da dl.length dc] 63));clear eG HO HB ML c0 c1 c2 c3 c4;generalize IE : wr.heap.size = bR at *;clear IE;generalize wr.alloc (.cells #[.int .i64 tk, .int .i64 (1 + kd % 2), .int .u64 ((ky : Int) % 8), .int .u32 ((ck : Int) % 2), .slice da dl.length dc] 63) = w5 at *
  go_cut [9] (fun pv wx => pv = .pointer (some ⟨bR, 0, none⟩) ∧ ∃ (DL : Option Addr) (DM : Nat), Hid (dV wx bR #[.int .i64 tk, .int .i64 (1 + kd % 2), .int .u64 ((ky : Int) % 8), .int .u32 ((ck : Int) % 2), .slice DL (dl.take 30).length DM] 63) ∧ Hid (gy wx w.heap.size (.slice DL (dl.take 30).length DM) (dl.take 30)) ∧ Hid (h_ wx w.heap.size u7 A7) ∧ Hid (Below w.heap.size w wx))
  case first =>
   have x4 := HX.out.cell (i := 4) rfl
   by_cases h30 : 30 < dl.length
   ·
    have Cn := fun W kh => yq (P := Tryz.prog) M6 (a := da) (n := dl.length) (cap := dc) (iw.spot Fj.out.rd (by omega)) 30 (by omega) W kh
    rw [show ((30 : Nat) : Int) = 30 from rfl] at Cn;have hdd : decide ((30 : Int) < (dl.length : Int)) = true := by simp; omega
    have DN : (dl.take 30).length = 30 := by rw [ay]; omega
    have BI : dV (w5.setCell ⟨bR, 4, none⟩ (.slice da 30 dc)) bR #[.int .i64 tk, .int .i64 (1 + kd % 2), .int .u64 ((ky : Int) % 8), .int .u32 ((ck : Int) % 2), .slice da 30 dc] 63 := by
     have h := HX.out.set 4 (.slice da 30 dc);simp only [aP, aQ, aN] at h;exact h
    have mK := zh BI;have oO : iJ w5 (w5.setCell ⟨bR, 4, none⟩ (.slice da 30 dc)) w.heap.size bR 63 := iJ.pts hsz ⟨_, _, HX.out⟩ [(4, .slice da 30 dc)];have i_ := zh (jE.out.jw oO (fun e => hnb _ e rfl) (by decide));have BH := zh (iA.jw (show gy w5 w.heap.size (.slice da 30 dc) (dl.take 30) from Fj.out.DK (by omega)) oO (by decide));have lL := zh (zD (B := w.heap.size) (b := bR) hsz [(4, .slice da 30 dc)] gp.out);have f4 := HX.out.frozen 4;clear BI oO;go_wp2_with fail;go_meet
    case rel => exact ⟨rfl, da, dc, by rw [DN]; exact mK, by rw [DN]; exact BH, i_, lL⟩
   have hdd : decide ((30 : Int) < (dl.length : Int)) = false := by simp; omega
   have he : dl.take 30 = dl := aR (by omega);go_wp2_with fail;go_meet
   case rel => exact ⟨rfl, da, dc, by rw [he]; exact HX, by rw [he]; exact Fj, jE, gp⟩
  clear HX Fj jE gp;obtain ⟨rfl, DL, DM, HX, HK, HO, HB⟩ := hcut;generalize wc = w6 at *;have ajP : (dl.take 30).length ≤ 30 := by rw [ay]; omega
  have z_ := zh (show En much ⟨tk, kd, ky, ck, dl⟩ = ⟨tk, 1 + kd % 2, ky % 8, ck % 2, (if (much && decide (tk % 4 = 0)) = true then List.replicate 4076 0 else []) ++ dl.take 30⟩ from rfl);generalize dl.take 30 = D at *;obtain ⟨pre, hpre⟩ : ∃ pre : List UInt8, (if (much && decide (tk % 4 = 0)) = true then List.replicate 4076 0 else []) = pre := ⟨_, rfl⟩
  rw [hpre] at z_;have nM := zh hpre;clear hpre;have e4 := zLc tk;have x0 := HX.out.cell (i := 0) rfl;have x4 := HX.out.cell (i := 4) rfl;obtain ⟨mb, TI⟩ : ∃ mb, (much && decide (tk % 4 = 0)) = mb := ⟨_, rfl⟩
  rw [TI] at nM;have HMb := zh TI;clear TI;go_upto_region 9 with fail
  go_cut [52] (fun bv wx => bv = .bool mb ∧ w6 = wx)
  case first =>
   cases much
   ·
    have TJ := HMb.out;rw [Bool.false_and] at TJ;subst TJ;go_wp2_with fail;go_meet
    case rel => exact ⟨rfl, rfl⟩
   have TJ : (tk % 4 == 0) = mb := by
    rw [← HMb.out, cG]
    by_cases h : tk % 4 = 0
    ·
     simp [h]
    simp [h]
   go_wp2_with fail;go_meet
   case rel => exact ⟨rfl, rfl⟩
  obtain ⟨rfl, rfl⟩ := hcut;go_upto_if 52 with fail
  go_cut [9] (fun pv wx => pv = .pointer (some ⟨bR, 0, none⟩) ∧ ∃ (sw : Option Addr) (sx : Nat) (D2 : List UInt8), Hid (D2 = pre ++ D) ∧ Hid (dV wx bR #[.int .i64 tk, .int .i64 (1 + kd % 2), .int .u64 ((ky : Int) % 8), .int .u32 ((ck : Int) % 2), .slice sw D2.length sx] 63) ∧ Hid (gy wx w.heap.size (.slice sw D2.length sx) D2) ∧ Hid (h_ wx w.heap.size u7 A7) ∧ Hid (Below w.heap.size w wx))
  case first =>
   cases mb
   ·
    have MN : [] = pre := nM.out;subst MN;go_wp2_with fail;go_meet
    case rel => exact ⟨rfl, DL, DM, D, zh rfl, HX, HK, HO, HB⟩
   have MN : List.replicate 4076 0 = pre := nM.out;obtain ⟨zc, hz1, hz2, hmk⟩ := zJy;rw [MN] at hz2;have hpl : pre.length = 4076 := by rw [← MN, dy]
   clear MN nM;have eG := zz ((aj w6.heap.size w6).alloc (ai _) (.cells zc 5));have DO : (World.drew (w6.alloc (.cells zc 5))).ownsRow w6.heap.size 5 1 (.slice (some ⟨w6.heap.size, 0, none⟩) 4076 4076) 4076 (pre.map vh) := ⟨by rw [aI, hpl], .inr ⟨w6.heap.size, 4076, zc, rfl, ai _, dg w6 _, ai _, by decide, hz1, by rw [hz2, aR (by rw [aI, hpl]; decide)]⟩⟩
   have HZ := zh DO;have JK := zh (HX.out.below eG);have Ic := zh (iA.below HK.out eG);have hs6 : w6.heap.size ≤ (World.drew (w6.alloc (.cells zc 5))).heap.size := eG.size
   have oh := zh (fun W9 va vc (hown : World.ownsRow W9 w6.heap.size 5 1 (.slice va (4076 + D.length) vc) (4076 + D.length) (pre.map vh ++ D.map vh)) (hgr : (World.drew (w6.alloc (.cells zc 5))).grownBy W9 (Value.slice (some ⟨w6.heap.size, 0, none⟩) 4076 4076).ownBlock) => show dV W9 bR #[.int .i64 tk, .int .i64 (1 + kd % 2), .int .u64 ((ky : Int) % 8), .int .u32 ((ck : Int) % 2), .slice DL D.length DM] 63 ∧ gy W9 w.heap.size (.slice va (pre ++ D).length vc) (pre ++ D) ∧ h_ W9 w.heap.size u7 A7 ∧ Below w6.heap.size w6 W9 by
    have hb := zM eG DO hs6 hgr
    refine ⟨HX.out.below hb, ?_, HO.out.below hb, hb⟩
    have e : (pre ++ D).length = 4076 + D.length := by rw [aA, hpl]
    unfold gy
    rw [e, bV]
    exact iA.own hown)
   clear DO eG hz2;have xa4 := JK.out.cell (i := 4) rfl;have TK := zh (show Rd (World.drew (w6.alloc (.cells zc 5))) 1 (.slice DL D.length DM) D.length (D.map vh) from Ic.out.1);go_upto_region 10 with fail
   go_region_law ((refine ww (n := 4076) (m := D.length) (by rfl) (.tmp 53) (.tmp 55) 54 (by rfl) M6 w6.heap.size (by rfl) HZ.out (by rfl) TK.out (Um D) (by unfold maxLen; omega) (by omega) hs6 ?_; intro v9 w9 ew fu hv2; clear hv2; obtain ⟨mM, mN, hv2, _, _, _⟩ := zO ew; subst hv2; obtain ⟨r1, r2, r3, r4⟩ := oh.out _ _ _ ew fu; have x9 := r1.cell (i := 4) rfl; have f9 := r1.frozen 4))
   all_goals
    have e : (pre ++ D).length = 4076 + D.length := by rw [aA, hpl]
    rw [e] at r2;have oO : iJ w9 (w9.setCell ⟨bR, 4, none⟩ (.slice mM (4076 + D.length) mN)) w.heap.size bR 63 := iJ.pts hsz ⟨_, _, r1⟩ [(4, .slice mM (4076 + D.length) mN)];have BI : dV (w9.setCell ⟨bR, 4, none⟩ (.slice mM (4076 + D.length) mN)) bR #[.int .i64 tk, .int .i64 (1 + kd % 2), .int .u64 ((ky : Int) % 8), .int .u32 ((ck : Int) % 2), .slice mM (4076 + D.length) mN] 63 := by
     have h := r1.set 4 (.slice mM (4076 + D.length) mN);simp only [aP, aQ, aN] at h;exact h
    have mK := zh BI;have BH := zh (iA.jw r2 oO (by decide));have i_ := zh (r3.jw oO (fun e => hnb _ e rfl) (by decide));have lL := zh (zD (B := w.heap.size) (b := bR) hsz [(4, .slice mM (4076 + D.length) mN)] (HB.out.trans (r4.mono HB.out.size)));clear r1 r2 r3 r4 oO BI x9 f9 ew fu;go_wp2_with fail;go_meet
    case rel => exact ⟨rfl, mM, mN, pre ++ D, zh rfl, by rw [e]; exact mK, by rw [e]; exact BH, i_, lL⟩
  clear HX HK HO HB nM;obtain ⟨rfl, sw, sx, D2, Jh, HX, HK, HO, HB⟩ := hcut;generalize wc = w7 at *;obtain ⟨oa, oc, sH, _, _, _⟩ := zO HO.out.row;subst sH;have MO : w.heap.size ≤ w7.heap.size := HB.out.size;have x0 := HX.out.cell (i := 0) rfl;have x1 := HX.out.cell (i := 1) rfl;have x2 := HX.out.cell (i := 2) rfl;have x3 := HX.out.cell (i := 3) rfl;have x4 := HX.out.cell (i := 4) rfl;have eG := (aj w7.heap.size w7).alloc (ai _) (.cells #[.int .i64 tk, .int .i64 (1 + kd % 2), .int .u64 ((ky : Int) % 8), .int .u32 ((ck : Int) % 2), .slice sw D2.length sx] 63);have mD := zh (HO.out.below eG);have TL := zh (iA.below HK.out eG);have lZ := zh (HB.out.trans (eG.mono MO));have DR := zh mD.out.row;have MP := ak MO eG.size;clear eG HX HK HO HB
  go_wp2_with (at_builtin; go_must (refine zd (n := A7.length) (m := 1) rfl (.tmp 58) (.tmp 60) 60 rfl zLa w.heap.size rfl DR.out rfl (Rd.nu w7.heap.size w7 rfl 5 [.int .i64 tk, .int .i64 (1 + kd % 2), .int .u64 ((ky : Int) % 8), .int .u32 ((ck : Int) % 2), .slice sw D2.length sx] 63 1 rfl (by decide)) (fun u hu => by simp only [cB, cC, or_false] at hu; rcases hu with h | h | h | h | h <;> rw [h] <;> rfl) (by unfold maxLen; omega) (by omega) MP ?_); intro v3 w9 ei eW hv3; clear hv3);have i_ := zh (mD.out.push (p := ((⟨tk, 1 + kd % 2, ky % 8, ck % 2, D2⟩ : Rq), (.slice sw D2.length sx : Value))) TL.out ei eW);have lL := zh (zM lZ.out DR.out MP eW);have TM := zh (show (A7 ++ [((⟨tk, 1 + kd % 2, ky % 8, ck % 2, D2⟩ : Rq), (.slice sw D2.length sx : Value))]).map (·.1) = (N.take (i + 1)).map (En much) by rw [bV, Fa.out, IY.out, z_.out, Jh.out]; rfl)
  have OA : (A7 ++ [((⟨tk, 1 + kd % 2, ky % 8, ck % 2, D2⟩ : Rq), (.slice sw D2.length sx : Value))]).length = i + 1 := by rw [aA, hl]; rfl
  clear ei eW;go_wp2_with fail;exact ⟨⟨i + 1, _, by go_num, by omega, by omega, OA, i_, TM, lL⟩, by simp [intOf]; omega⟩
 have D3 := zh (HE.out i hi hi2 hin)
 by_cases h5 : i < n
 ·
  have i2 : decide ((i : Int) < (n : Int)) = true := aF (by omega);have i3 : decide ((i : Int) < (most : Int)) = false := aD (by omega);go_wp2_with fail;go_ret;exact ⟨_, A7, rfl, HO.out, by rw [Fa.out, D3.out], HB.out⟩
 have i2 : decide ((i : Int) < (n : Int)) = false := aD (by omega);go_wp2_with fail;go_ret;exact ⟨_, A7, rfl, HO.out, by rw [Fa.out, D3.out], HB.out⟩
theorem zJr (n : Nat) : bits .and .u32 (n : Int) 3 = ((n % 4 : Nat) : Int) := by
 have hm : (BitVec.ofInt 32 3).toNat = 2 ^ 2 - 1 := by decide
 have key : (BitVec.ofInt 32 (n : Int) &&& BitVec.ofInt 32 3).toNat = ((n : Int) % ((2 ^ 32 : Nat) : Int)).toNat % 2 ^ 2 := by
  rw [BitVec.toNat_and, BitVec.toNat_ofInt, hm, dR]
 show IntKind.u32.wrap ((BitVec.ofInt 32 (n : Int) &&& BitVec.ofInt 32 3).toNat : Nat) = _
 rw [key];simp [IntKind.wrap, IntKind.signed, IntKind.bits];omega
theorem fS.IZ {W W' : World} {B b : Nat} {T' : TypeId} {v : Value} {es : List (Nd × Value)} (h : fS W B v es) (ho : iJ W W' B b T') (h1 : v.ownBlock ≠ some b) (h2 : 5 ≠ T') : fS W' B v es := by
 obtain ⟨h3, h4⟩ := h;refine ⟨⟨h3.1, ?_⟩, fun p hp => iA.jw (h4 p hp) ho h2⟩;rcases h3.2 with h5 | ⟨g, cap, cur, e, hb, hg, h6⟩
 ·
  exact .inl h5
 exact .inr ⟨g, cap, cur, e, hb, by rw [ho.blk g (Array.getElem?_eq_some_iff.1 hg).1 (fun e2 => h1 (by rw [e, e2]; rfl))]; exact hg, h6⟩
theorem fS.nil (W : World) (B : Nat) : fS W B (.slice none 0 0) [] := ⟨aU _ _ _ _, fun p hp => by cases hp⟩
theorem fS.push {W W' : World} {B : Nat} {v v' : Value} {es : List (Nd × Value)} {p : Nd × Value} (h : fS W B v es) (hd : gy W B p.2 p.1.data) (ho : W'.ownsRow B 56 4 v' (es.length + 1) (wM es ++ vy p)) (hg : W.grownBy W' v.ownBlock) : fS W' B v' (es ++ [p]) := by
 have hO : gH W W' B 56 := gH.row h.row hg (ai _);refine ⟨?_, fun x hx => ?_⟩
 ·
  have e : wM (es ++ [p]) = wM es ++ vy p := by unfold wM; rw [b_]; simp
  rw [e, aA]; exact ho
 rcases List.mem_append.1 hx with hx | hx
 ·
  exact iA.gq (h.dat x hx) hO (by decide)
 obtain rfl := List.mem_singleton.1 hx;exact iA.gq hd hO (by decide)
theorem zE3 (v : Value) (ns : List (Nd × Value)) (most : Nat) (w : World) (h : mL w v ns) (hm : most ≤ 1000) :
  Calls Tryz.prog 37 #[v, .int .i64 (most : Int)] w fun e w' => ∃ v' es, e = .returned v' ∧ fS w' w.heap.size v' es ∧ es.map (·.1) = CO most (ns.map (·.1)) ∧ Below w.heap.size w w' := by
 obtain ⟨a, cap, rfl, h1, h2⟩ := h.shape;have HQ := zh h;have rD := zh (fun i (hi : i < ns.length) => h.dat _ (uM hi))
 have jI := zh (show ∀ i, i < ns.length → ((ns.map (·.1)).take (i + 1)).map Em = ((ns.map (·.1)).take i).map Em ++ [Em (xb ns i).1] from fun i hi => by
  rw [cV, cm, aB hi, bV]
  unfold xb
  rw [ax, aB hi]; rfl)
 have HE := zh (show ∀ i, i ≤ ns.length → i ≤ most → ¬ (i < ns.length ∧ i < most) → ((ns.map (·.1)).take i).map Em = CO most (ns.map (·.1)) from fun i h1 h2 h3 => by
  unfold CO
  by_cases e : i = most
  ·
   rw [e]
  rw [aR (by rw [aI]; omega), aR (by rw [aI]; omega)])
 clear h;generalize hn : ns.length = n at *;clear hn;generalize ns.map (·.1) = N at *
 go_enter Tryz.func37, Tryz.ntmps37
 go_wp2_with fail
 go_loopw [5, 6] (fun ov iv W => ∃ (i : Nat) (es : List (Nd × Value)), iv = .int .i64 (i : Int) ∧ i ≤ n ∧ i ≤ most ∧ es.length = i ∧ Hid (fS W w.heap.size ov es) ∧ Hid (es.map (·.1) = (N.take i).map Em) ∧ Hid (Below w.heap.size w W)) (fun _ iv _ => n - (intOf iv).toNat)
 case atStart => exact ⟨0, [], rfl, au _, au _, rfl, zh (fS.nil _ _), zh rfl, zh (aj _ _)⟩
 obtain ⟨i, es, rfl, hi, hi2, hl, HO, Fa, HB⟩ := hrel;have hsz : w.heap.size ≤ wr.heap.size := HB.out.size
 by_cases hin : i < n ∧ i < most
 ·
  obtain ⟨hin, him⟩ := hin;have i1 : (i : Int) < (n : Int) := by omega
  have i2 : decide ((i : Int) < (n : Int)) = true := aF i1;have i3 : decide ((i : Int) < (most : Int)) = true := aF (by omega);obtain ⟨qb, qo, e0, _, c0, c1, c2, c3⟩ := (HQ.out.below HB.out).at (j := i) hin;subst e0;have IX := rD.out i hin;have hst := jI.out i hin;generalize xb ns i = X at *;obtain ⟨⟨ky, ck, dd, dl⟩, dv⟩ := X;dsimp only at *;obtain ⟨da, dc, rfl, oI, hd2⟩ := IX.gw;have ML := zh IX;have IY := zh hst;have e2 := zJi ky;have e3 := zJr ck;clear IX hst;go_upto_if 26 with fail;have eG := (aj wr.heap.size wr).alloc (ai _) (.cells #[.int .u64 (ky : Int), .int .u32 (ck : Int), .bool dd, .slice da dl.length dc] 56);have HX := zh (dV.new wr #[.int .u64 (ky : Int), .int .u32 (ck : Int), .bool dd, .slice da dl.length dc] 56);have hnb : ∀ g, u5.ownBlock = some g → g ≠ wr.heap.size := fun g hg e => by have := (HO.out.row.lt g hg).2; omega
  have jE := zh (HO.out.below eG);have gp := zh (HB.out.trans (eG.mono hsz));have Fj := zh (show gy _ w.heap.size (.slice da dl.length dc) dl from iA.below (iA.below (iA.old ML.out (ai _)) HB.out) eG);change Code.wp _ _ _ _ (wr.alloc (.cells #[.int .u64 (ky : Int), .int .u32 (ck : Int), .bool dd, .slice da dl.length dc] 56));clear eG HO HB ML c0 c1 c2 c3;generalize IE : wr.heap.size = bR at *;clear IE;generalize wr.alloc (.cells #[.int .u64 (ky : Int), .int .u32 (ck : Int), .bool dd, .slice da dl.length dc] 56) = w5 at *
  go_cut [7] (fun pv wx => pv = .pointer (some ⟨bR, 0, none⟩) ∧ ∃ (DL : Option Addr) (DM : Nat), Hid (dV wx bR #[.int .u64 (ky : Int), .int .u32 (ck : Int), .bool dd, .slice DL (dl.take 30).length DM] 56) ∧ Hid (gy wx w.heap.size (.slice DL (dl.take 30).length DM) (dl.take 30)) ∧ Hid (fS wx w.heap.size u5 es) ∧ Hid (Below w.heap.size w wx))
  case first =>
   have x4 := HX.out.cell (i := 3) rfl
   by_cases h30 : 30 < dl.length
   ·
    have Cn := fun W kh => yq (P := Tryz.prog) M6 (a := da) (n := dl.length) (cap := dc) (iw.spot Fj.out.rd (by omega)) 30 (by omega) W kh
    rw [show ((30 : Nat) : Int) = 30 from rfl] at Cn;have hdd : decide ((30 : Int) < (dl.length : Int)) = true := by simp; omega
    have DN : (dl.take 30).length = 30 := by rw [ay]; omega
    have BI : dV (w5.setCell ⟨bR, 3, none⟩ (.slice da 30 dc)) bR #[.int .u64 (ky : Int), .int .u32 (ck : Int), .bool dd, .slice da 30 dc] 56 := by
     have h := HX.out.set 3 (.slice da 30 dc);simp only [aP, aQ, aN] at h;exact h
    have mK := zh BI;have oO : iJ w5 (w5.setCell ⟨bR, 3, none⟩ (.slice da 30 dc)) w.heap.size bR 56 := iJ.pts hsz ⟨_, _, HX.out⟩ [(3, .slice da 30 dc)];have i_ := zh (jE.out.IZ oO (fun e => hnb _ e rfl) (by decide));have BH := zh (iA.jw (show gy w5 w.heap.size (.slice da 30 dc) (dl.take 30) from Fj.out.DK (by omega)) oO (by decide));have lL := zh (zD (B := w.heap.size) (b := bR) hsz [(3, .slice da 30 dc)] gp.out);have f4 := HX.out.frozen 3;clear BI oO;go_wp2_with fail;go_meet
    case rel => exact ⟨rfl, da, dc, by rw [DN]; exact mK, by rw [DN]; exact BH, i_, lL⟩
   have hdd : decide ((30 : Int) < (dl.length : Int)) = false := by simp; omega
   have he : dl.take 30 = dl := aR (by omega);go_wp2_with fail;go_meet
   case rel => exact ⟨rfl, da, dc, by rw [he]; exact HX, by rw [he]; exact Fj, jE, gp⟩
  clear HX Fj jE gp;obtain ⟨rfl, DL, DM, HX, HK, HO, HB⟩ := hcut;generalize wc = w6 at *;have z_ := zh (show Em ⟨ky, ck, dd, dl⟩ = ⟨ky % 8, ck % 4, dd, if dd then [] else dl.take 30⟩ from rfl);generalize dl.take 30 = D at *;have x2 := HX.out.cell (i := 2) rfl;go_upto_if 32 with fail
  go_cut [7] (fun pv wx => pv = .pointer (some ⟨bR, 0, none⟩) ∧ ∃ (sw : Option Addr) (sx : Nat) (D2 : List UInt8), Hid (D2 = if dd then [] else D) ∧ Hid (dV wx bR #[.int .u64 (ky : Int), .int .u32 (ck : Int), .bool dd, .slice sw D2.length sx] 56) ∧ Hid (gy wx w.heap.size (.slice sw D2.length sx) D2) ∧ Hid (fS wx w.heap.size u5 es) ∧ Hid (Below w.heap.size w wx))
  case first =>
   cases dd
   ·
    go_wp2_with fail;go_meet
    case rel => exact ⟨rfl, DL, DM, D, zh rfl, HX, HK, HO, HB⟩
   have x3 := HX.out.cell (i := 3) rfl;have f3 := HX.out.frozen 3;have BI : dV (w6.setCell ⟨bR, 3, none⟩ (.slice none 0 0)) bR #[.int .u64 (ky : Int), .int .u32 (ck : Int), .bool true, .slice none 0 0] 56 := by
    have h := HX.out.set 3 (.slice none 0 0);simp only [aP, aQ, aN] at h;exact h
   have mK := zh BI;have oO : iJ w6 (w6.setCell ⟨bR, 3, none⟩ (.slice none 0 0)) w.heap.size bR 56 := iJ.pts hsz ⟨_, _, HX.out⟩ [(3, .slice none 0 0)];have i_ := zh (HO.out.IZ oO (fun e => hnb _ e rfl) (by decide));have BH := zh (show gy (w6.setCell ⟨bR, 3, none⟩ (.slice none 0 0)) w.heap.size (.slice none 0 0) [] from ⟨⟨rfl, none, 0, rfl, ai _, au _, fun _ => rfl, fun h => (by cases h)⟩, fun g hg => (by cases hg)⟩);have lL := zh (zD (B := w.heap.size) (b := bR) hsz [(3, .slice none 0 0)] HB.out);clear BI oO;go_wp2_with fail;go_meet
   case rel => exact ⟨rfl, none, 0, [], zh rfl, mK, BH, i_, lL⟩
  clear HX HK HO HB;obtain ⟨rfl, sw, sx, D2, Jh, HX, HK, HO, HB⟩ := hcut;generalize wc = w7 at *;have x0 := HX.out.cell (i := 0) rfl;have x1 := HX.out.cell (i := 1) rfl;have f0 := HX.out.frozen 0;have f1 := HX.out.frozen 1;have BI : dV (pts w7 bR [(0, .int .u64 ((ky : Int) % 8)), (1, .int .u32 ((ck : Int) % 4))]) bR #[.int .u64 ((ky : Int) % 8), .int .u32 ((ck : Int) % 4), .bool dd, .slice sw D2.length sx] 56 := by
   have h := dV.sets [(0, .int .u64 ((ky : Int) % 8)), (1, .int .u32 ((ck : Int) % 4))] HX.out;simp only [dJ, List.foldl_nil, aP, aQ, aN] at h;exact h
  have oO : iJ w7 (pts w7 bR [(0, .int .u64 ((ky : Int) % 8)), (1, .int .u32 ((ck : Int) % 4))]) w.heap.size bR 56 := iJ.pts hsz ⟨_, _, HX.out⟩ _;have i_ := zh (HO.out.IZ oO (fun e => hnb _ e rfl) (by decide));have BH := zh (iA.jw HK.out oO (by decide));have lL := zh (zD (B := w.heap.size) (b := bR) hsz [(0, .int .u64 ((ky : Int) % 8)), (1, .int .u32 ((ck : Int) % 4))] HB.out);have mK := zh BI;clear BI oO HX HK HO HB;go_upto_region 12 with fail;change Code.wp _ _ _ _ (pts w7 bR [(0, .int .u64 ((ky : Int) % 8)), (1, .int .u32 ((ck : Int) % 4))]);generalize pts w7 bR [(0, .int .u64 ((ky : Int) % 8)), (1, .int .u32 ((ck : Int) % 4))] = w8 at *;clear x0 x1 f0 f1;have x0 := mK.out.cell (i := 0) rfl;have x1 := mK.out.cell (i := 1) rfl;have x2 := mK.out.cell (i := 2) rfl;have x3 := mK.out.cell (i := 3) rfl;obtain ⟨oa, oc, sH, _, _, _⟩ := zO i_.out.row;subst sH
  have MO : w.heap.size ≤ w8.heap.size := lL.out.size;have eG := (aj w8.heap.size w8).alloc (ai _) (.cells #[.int .u64 ((ky : Int) % 8), .int .u32 ((ck : Int) % 4), .bool dd, .slice sw D2.length sx] 56);have mD := zh (i_.out.below eG);have TL := zh (iA.below BH.out eG);have lZ := zh (lL.out.trans (eG.mono MO));have DR := zh mD.out.row;have MP := ak MO eG.size;clear eG mK BH i_ lL;go_wp2_with (at_builtin; go_must (refine zd (n := es.length) (m := 1) rfl (.tmp 42) (.tmp 44) 23 rfl WB w.heap.size rfl DR.out rfl (Rd.nu w8.heap.size w8 rfl 4 [.int .u64 ((ky : Int) % 8), .int .u32 ((ck : Int) % 4), .bool dd, .slice sw D2.length sx] 56 1 rfl (by decide)) (fun u hu => by simp only [cB, cC, or_false] at hu; rcases hu with h | h | h | h <;> rw [h] <;> rfl) (by unfold maxLen; omega) (by omega) MP ?_); intro v3 w9 ei eW hv3; clear hv3)
  have i_ := zh (mD.out.push (p := ((⟨ky % 8, ck % 4, dd, D2⟩ : Nd), (.slice sw D2.length sx : Value))) TL.out ei eW);have lL := zh (zM lZ.out DR.out MP eW);have TM := zh (show (es ++ [((⟨ky % 8, ck % 4, dd, D2⟩ : Nd), (.slice sw D2.length sx : Value))]).map (·.1) = (N.take (i + 1)).map Em by rw [bV, Fa.out, IY.out, z_.out, Jh.out]; rfl);have OA : (es ++ [((⟨ky % 8, ck % 4, dd, D2⟩ : Nd), (.slice sw D2.length sx : Value))]).length = i + 1 := by rw [aA, hl]; rfl
  clear ei eW;go_wp2_with fail;exact ⟨⟨i + 1, _, by go_num, by omega, by omega, OA, i_, TM, lL⟩, by simp [intOf]; omega⟩
 have D3 := zh (HE.out i hi hi2 hin)
 by_cases h5 : i < n
 ·
  have i2 : decide ((i : Int) < (n : Int)) = true := aF (by omega);have i3 : decide ((i : Int) < (most : Int)) = false := aD (by omega);go_wp2_with fail;go_ret;exact ⟨_, es, rfl, HO.out, by rw [Fa.out, D3.out], HB.out⟩
 have i2 : decide ((i : Int) < (n : Int)) = false := aD (by omega);go_wp2_with fail;go_ret;exact ⟨_, es, rfl, HO.out, by rw [Fa.out, D3.out], HB.out⟩
end Go.Proofs.YtcgfilmmokmdjaaGreat
