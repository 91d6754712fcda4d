/- A part of the walk. -/
import Derived.Test.YtcgfilmmokmdjaaGreatQAX
import Derived.Test.YtcgfilmmokmdjaaGreatQAN
import Derived.Laws.MakeOwn
set_option linter.all false
set_option maxRecDepth 100000
set_option maxHeartbeats 32000000
namespace Go.Proofs.YtcgfilmmokmdjaaGreat
open Go.RowKit
def smR (much : Bool) (q : Rq) : Rq := ⟨q.tk, 1 + q.kind % 2, q.key % 8, q.ck % 2, (if (much && decide (q.tk % 4 = 0)) = true then List.replicate 4076 0 else []) ++ q.data.take 30⟩
theorem zK9 (n : Int) : bits .and .i64 n 1 = n % 2 := by
 have hm : (BitVec.ofInt 64 1).toNat = 2 ^ 1 - 1 := by decide
 have key : (BitVec.ofInt 64 n &&& BitVec.ofInt 64 1).toNat = (n % ((2 ^ 64 : Nat) : Int)).toNat % 2 ^ 1 := by
  rw [BitVec.toNat_and, BitVec.toNat_ofInt, hm, Nat.and_two_pow_sub_one_eq_mod]
 show IntKind.i64.wrap ((BitVec.ofInt 64 n &&& BitVec.ofInt 64 1).toNat : Nat) = n % 2
 rw [key, IntKind.wrap_i64];omega
theorem zK6 (n : Int) : bits .and .i64 n 3 = n % 4 := by
 have hm : (BitVec.ofInt 64 3).toNat = 2 ^ 2 - 1 := by decide
 have key : (BitVec.ofInt 64 n &&& BitVec.ofInt 64 3).toNat = (n % ((2 ^ 64 : Nat) : Int)).toNat % 2 ^ 2 := by
  rw [BitVec.toNat_and, BitVec.toNat_ofInt, hm, Nat.and_two_pow_sub_one_eq_mod]
 show IntKind.i64.wrap ((BitVec.ofInt 64 n &&& BitVec.ofInt 64 3).toNat : Nat) = n % 4
 rw [key, IntKind.wrap_i64];omega
theorem zI9 (n : Nat) : bits .and .u64 (n : Int) 7 = ((n % 8 : Nat) : Int) := by
 have hm : (BitVec.ofInt 64 7).toNat = 2 ^ 3 - 1 := by decide
 have key : (BitVec.ofInt 64 (n : Int) &&& BitVec.ofInt 64 7).toNat = ((n : Int) % ((2 ^ 64 : Nat) : Int)).toNat % 2 ^ 3 := by
  rw [BitVec.toNat_and, BitVec.toNat_ofInt, hm, Nat.and_two_pow_sub_one_eq_mod]
 show IntKind.u64.wrap ((BitVec.ofInt 64 (n : Int) &&& BitVec.ofInt 64 7).toNat : Nat) = _
 rw [key];simp [IntKind.wrap, IntKind.signed, IntKind.bits];omega
theorem zI5 (n : Nat) : bits .and .u32 (n : Int) 1 = ((n % 2 : Nat) : Int) := by
 have hm : (BitVec.ofInt 32 1).toNat = 2 ^ 1 - 1 := by decide
 have key : (BitVec.ofInt 32 (n : Int) &&& BitVec.ofInt 32 1).toNat = ((n : Int) % ((2 ^ 32 : Nat) : Int)).toNat % 2 ^ 1 := by
  rw [BitVec.toNat_and, BitVec.toNat_ofInt, hm, Nat.and_two_pow_sub_one_eq_mod]
 show IntKind.u32.wrap ((BitVec.ofInt 32 (n : Int) &&& BitVec.ofInt 32 1).toNat : Nat) = _
 rw [key];simp [IntKind.wrap, IntKind.signed, IntKind.bits];omega
theorem zK4 : xe Tryz.prog 60 63 5 56 := by
 obtain ⟨i, hi, hz, hs, hb⟩ := info_parts (P := Tryz.prog) (e := 63) (z := .agg #[.int .i64 0, .int .i64 0, .int .u64 0, .int .u32 0, .slice none 0 0]) (size := 5) (bytes := 56) (by kernel_rfl);exact ⟨Tryz.underlying60, by decide, i, _, hi, hz, hs, hb, rfl⟩
theorem zJN : ∃ zc : Array Value, zc.size = 4076 ∧ zc.toList = (List.replicate 4076 (0 : UInt8)).map xh ∧ ∀ w : World, (Instr.makeSlice 54 (.int .i64 4076) (.int .i64 4076)).run Tryz.prog w = .ok (.slice (some ⟨w.heap.size, 0, none⟩) 4076 4076) (w.alloc (.cells zc 5)) := by
 obtain ⟨i, hi, hz, hs, hb⟩ := info_parts (P := Tryz.prog) (e := 5) (z := .int .u8 0) (size := 1) (bytes := 1) (by kernel_rfl);refine ⟨madeCells (Value.int .u8 0).cells (4076 * i.size), ?_, ?_, fun w => ?_⟩
 ·
  rw [hs]; simp [madeCells]
 ·
  rw [hs, List.map_replicate];unfold madeCells;rw [Array.toList_map, Array.toList_range];refine List.eq_replicate_iff.2 ⟨by rw [List.length_map, List.length_range], fun b hb => ?_⟩;obtain ⟨j, _, rfl⟩ := List.mem_map.1 hb
  show (#[Value.int .u8 0])[j % 1]! = _
  rw [Nat.mod_one]
  rfl
 have h := run_make (P := Tryz.prog) w 54 5 i (.int .u8 0) Tryz.underlying54 hi hz .i64 .i64 4076 4076 (by decide) (by decide) (by rw [hb]; decide) (by decide);exact h
structure OwnQr (W : World) (B : Nat) (v : Value) (qs : List (Rq × Value)) : Prop where
 row : W.ownsRow B 63 5 v qs.length (qs.flatMap rqC)
 dat : ∀ p ∈ qs, KDat W B p.2 p.1.data
theorem OwnQr.nil (W : World) (B : Nat) : OwnQr W B (.slice none 0 0) [] := ⟨World.ownsRow_nil _ _ _ _, fun p hp => by cases hp⟩
theorem OwnQr.below {W W' : World} {B : Nat} {v : Value} {qs : List (Rq × Value)} (h : OwnQr W B v qs) (hb : Below W.heap.size W W') : OwnQr W' B v qs := ⟨zH h.row hb, fun p hp => KRd.below (h.dat p hp) hb⟩
theorem OwnQr.oth {W W' : World} {B b : Nat} {T' : TypeId} {v : Value} {qs : List (Rq × Value)} (h : OwnQr W B v qs) (ho : Oth W W' B b T') (h1 : v.ownBlock ≠ some b) (h2 : 5 ≠ T') : OwnQr W' B v qs := by
 obtain ⟨h3, h4⟩ := h;refine ⟨⟨h3.1, ?_⟩, fun p hp => KRd.oth (h4 p hp) ho h2⟩;rcases h3.2 with h5 | ⟨g, cap, cur, e, hb, hg, h6⟩
 ·
  exact .inl h5
 exact .inr ⟨g, cap, cur, e, hb, by rw [ho.blk g (Array.getElem?_eq_some_iff.1 hg).1 (fun e2 => h1 (by rw [e, e2]; rfl))]; exact hg, h6⟩
theorem KDat.take30 {W : World} {B : Nat} {a : Option Addr} {n c : Nat} {d : List UInt8} (h : KDat W B (.slice a n c) d) (hk : 30 ≤ n) : KDat W B (.slice a 30 c) (d.take 30) := by
 have hn : d.length = n := by obtain ⟨⟨_, _, _, e, _⟩, _⟩ := h; injection e with _ e _; exact e.symm
 have h1 : RdB W (.slice a 30 c) (d.take 30) := RdL.take h.rd 30 (by omega);refine ⟨h1, fun g hg => ?_⟩;have hg' : (Value.slice a n c).ownBlock = some g := by
  cases a with
  | none => cases hg
  | some y => simpa [Value.ownBlock] using hg
 rcases h.2 g hg' with h2 | h2
 ·
  left
  have : d = [] := List.map_eq_nil_iff.1 h2;rw [this]; rfl
 exact .inr h2
theorem OwnQr.push {W W' : World} {B : Nat} {v v' : Value} {qs : List (Rq × Value)} {p : Rq × Value} (h : OwnQr W B v qs) (hd : KDat W B p.2 p.1.data) (ho : W'.ownsRow B 63 5 v' (qs.length + 1) (qs.flatMap rqC ++ rqC p)) (hg : W.grownBy W' v.ownBlock) : OwnQr W' B v' (qs ++ [p]) := by
 have hO : OthR W W' B 63 := OthR.row h.row hg (Nat.le_refl _);refine ⟨?_, fun x hx => ?_⟩
 ·
  rw [List.length_append, List.flatMap_append, List.flatMap_cons, List.flatMap_nil, List.append_nil]; exact ho
 rcases List.mem_append.1 hx with hx | hx
 ·
  exact KRd.othR (h.dat x hx) hO (by decide)
 obtain rfl := List.mem_singleton.1 hx;exact KRd.othR hd hO (by decide)
theorem zCb (l : List Rq) (much : Bool) (most i : Nat) (h : i < l.length) (q : Rq) (hq : l[i]? = some q) : ((l.take (i + 1)).map (smR much)) = (l.take i).map (smR much) ++ [smR much q] := by
 rw [List.take_add_one, hq, List.map_append]; rfl
theorem zDz (v : Value) (qs : List (Rq × Value)) (most : Nat) (much : Bool) (w : World) (h : RdQ w v qs) (hm : most ≤ 1000) :
  Calls Tryz.prog 21 #[v, .int .i64 (most : Int), .bool much] w fun e w' => ∃ v' qs', e = .returned v' ∧ OwnQr w' w.heap.size v' qs' ∧ qs'.map (·.1) = ((qs.map (·.1)).take most).map (smR much) ∧ Below w.heap.size w w' := by
 obtain ⟨a, cap, rfl, h1, h2⟩ := h.shape;have HQ := zh h;have HMem := zh (fun i (hi : i < qs.length) => h.dat _ (zAO hi));have HSt := zh (fun i (hi : i < qs.length) => zCb (qs.map (·.1)) much most i (by rw [List.length_map]; exact hi) (qat qs i).1 (by rw [List.getElem?_map]; unfold qat; rw [List.getD_eq_getElem?_getD, List.getElem?_eq_getElem hi]; rfl))
 have HE := zh (show ∀ i, i ≤ qs.length → i ≤ most → ¬ (i < qs.length ∧ i < most) → (qs.map (·.1)).take i = (qs.map (·.1)).take most from fun i h1 h2 h3 => by
  by_cases e : i = most
  ·
   rw [e]
  rw [List.take_of_length_le (by rw [List.length_map]; omega), List.take_of_length_le (by rw [List.length_map]; omega)])
 clear h;generalize hn : qs.length = n at *;clear hn;generalize qs.map (·.1) = N at *
 go_enter Tryz.func21, Tryz.ntmps21
 go_wp2_with fail
 go_loopw [7, 8] (fun ov iv W => ∃ (i : Nat) (qs' : List (Rq × Value)), iv = .int .i64 (i : Int) ∧ i ≤ n ∧ i ≤ most ∧ qs'.length = i ∧ Hid (OwnQr W w.heap.size ov qs') ∧ Hid (qs'.map (·.1) = (N.take i).map (smR much)) ∧ Hid (Below w.heap.size w W)) (fun _ iv _ => n - (intOf iv).toNat)
 case atStart => exact ⟨0, [], rfl, Nat.zero_le _, Nat.zero_le _, rfl, zh (OwnQr.nil _ _), zh rfl, zh (Below.refl _ _)⟩
 obtain ⟨i, qs', rfl, hi, hi2, hl, HO, HEs, HB⟩ := hrel;have hsz : w.heap.size ≤ wr.heap.size := HB.out.size
 by_cases hin : i < n ∧ i < most
 ·
  obtain ⟨hin, him⟩ := hin;have i1 : (i : Int) < (n : Int) := by omega
  have i2 : decide ((i : Int) < (n : Int)) = true := decide_eq_true i1;have i3 : decide ((i : Int) < (most : Int)) = true := decide_eq_true (by omega);obtain ⟨qb, qo, e0, _, c0, c1, c2, c3, c4⟩ := (HQ.out.below HB.out).at (j := i) hin;subst e0;have hd0 := HMem.out i hin;have hst := HSt.out i hin;generalize qat qs i = X at *;obtain ⟨⟨tk, kd, ky, ck, dl⟩, dv⟩ := X;dsimp only at *;obtain ⟨da, dc, rfl, hd1, hd2⟩ := hd0.shape0;have HD0 := zh hd0;have HSt1 := zh hst;have e1 := zK9 kd;have e2 := zI9 ky;have e3 := zI5 ck;clear hd0 hst;go_upto_if 41 with fail;have hba := (Below.refl wr.heap.size wr).alloc (Nat.le_refl _) (.cells #[.int .i64 tk, .int .i64 (1 + kd % 2), .int .u64 ((ky : Int) % 8), .int .u32 ((ck : Int) % 2), .slice da dl.length dc] 63)
  have HX := zh (BlkE.new wr #[.int .i64 tk, .int .i64 (1 + kd % 2), .int .u64 ((ky : Int) % 8), .int .u32 ((ck : Int) % 2), .slice da dl.length dc] 63);have hnb : ∀ g, u7.ownBlock = some g → g ≠ wr.heap.size := fun g hg e => by have := (HO.out.row.lt g hg).2; omega
  have HO5 := zh (HO.out.below hba);have HB5 := zh (HB.out.trans (hba.mono hsz));have HK5 := zh (show KDat _ w.heap.size (.slice da dl.length dc) dl from KRd.below (KRd.below (KRd.old HD0.out (Nat.le_refl _)) HB.out) hba);change Code.wp _ _ _ _ (wr.alloc (.cells #[.int .i64 tk, .int .i64 (1 + kd % 2), .int .u64 ((ky : Int) % 8), .int .u32 ((ck : Int) % 2), .slice da dl.length dc] 63));clear hba HO HB HD0 c0 c1 c2 c3 c4;generalize hbR : wr.heap.size = bR at *;clear hbR;generalize wr.alloc (.cells #[.int .i64 tk, .int .i64 (1 + kd % 2), .int .u64 ((ky : Int) % 8), .int .u32 ((ck : Int) % 2), .slice da dl.length dc] 63) = w5 at *
  go_cut [9] (fun pv wx => pv = .pointer (some ⟨bR, 0, none⟩) ∧ ∃ (da' : Option Addr) (dc' : Nat), Hid (BlkE wx bR #[.int .i64 tk, .int .i64 (1 + kd % 2), .int .u64 ((ky : Int) % 8), .int .u32 ((ck : Int) % 2), .slice da' (dl.take 30).length dc'] 63) ∧ Hid (KDat wx w.heap.size (.slice da' (dl.take 30).length dc') (dl.take 30)) ∧ Hid (OwnQr wx w.heap.size u7 qs') ∧ Hid (Below w.heap.size w wx))
  case first =>
   have x4 := HX.out.cell (i := 4) rfl
   by_cases h30 : 30 < dl.length
   ·
    have hto := fun W kh => yU (P := Tryz.prog) ku (a := da) (n := dl.length) (cap := dc) (RdL.spot HK5.out.rd (by omega)) 30 (by omega) W kh
    rw [show ((30 : Nat) : Int) = 30 from rfl] at hto;have hdd : decide ((30 : Int) < (dl.length : Int)) = true := by simp; omega
    have hl30 : (dl.take 30).length = 30 := by rw [List.length_take]; omega
    have hP9 : BlkE (w5.setCell ⟨bR, 4, none⟩ (.slice da 30 dc)) bR #[.int .i64 tk, .int .i64 (1 + kd % 2), .int .u64 ((ky : Int) % 8), .int .u32 ((ck : Int) % 2), .slice da 30 dc] 63 := by
     have h := HX.out.set 4 (.slice da 30 dc);simp only [List.setIfInBounds_toArray, List.set_cons_zero, List.set_cons_succ] at h;exact h
    have HX9 := zh hP9;have hO9 : Oth w5 (w5.setCell ⟨bR, 4, none⟩ (.slice da 30 dc)) w.heap.size bR 63 := Oth.pts hsz ⟨_, _, HX.out⟩ [(4, .slice da 30 dc)];have HO9 := zh (HO5.out.oth hO9 (fun e => hnb _ e rfl) (by decide));have HK9 := zh (KRd.oth (show KDat w5 w.heap.size (.slice da 30 dc) (dl.take 30) from HK5.out.take30 (by omega)) hO9 (by decide));have HB9 := zh (zD (B := w.heap.size) (b := bR) hsz [(4, .slice da 30 dc)] HB5.out);have f4 := HX.out.frozen 4;clear hP9 hO9;go_wp2_with fail;go_meet
    case rel => exact ⟨rfl, da, dc, by rw [hl30]; exact HX9, by rw [hl30]; exact HK9, HO9, HB9⟩
   have hdd : decide ((30 : Int) < (dl.length : Int)) = false := by simp; omega
   have he : dl.take 30 = dl := List.take_of_length_le (by omega);go_wp2_with fail;go_meet
   case rel => exact ⟨rfl, da, dc, by rw [he]; exact HX, by rw [he]; exact HK5, HO5, HB5⟩
  clear HX HK5 HO5 HB5;obtain ⟨rfl, da', dc', HX, HK, HO, HB⟩ := hcut;generalize wc = w6 at *;have hD30 : (dl.take 30).length ≤ 30 := by rw [List.length_take]; omega
  have HSm := zh (show smR much ⟨tk, kd, ky, ck, dl⟩ = ⟨tk, 1 + kd % 2, ky % 8, ck % 2, (if (much && decide (tk % 4 = 0)) = true then List.replicate 4076 0 else []) ++ dl.take 30⟩ from rfl);generalize dl.take 30 = D at *;obtain ⟨pre, hpre⟩ : ∃ pre : List UInt8, (if (much && decide (tk % 4 = 0)) = true then List.replicate 4076 0 else []) = pre := ⟨_, rfl⟩
  rw [hpre] at HSm;have HPr := zh hpre;clear hpre;have e4 := zK6 tk;have x0 := HX.out.cell (i := 0) rfl;have x4 := HX.out.cell (i := 4) rfl;obtain ⟨mb, hmb⟩ : ∃ mb, (much && decide (tk % 4 = 0)) = mb := ⟨_, rfl⟩
  rw [hmb] at HPr;have HMb := zh hmb;clear hmb;go_upto_region 9 with fail
  go_cut [52] (fun bv wx => bv = .bool mb ∧ w6 = wx)
  case first =>
   cases much
   ·
    have hmf := HMb.out;rw [Bool.false_and] at hmf;subst hmf;go_wp2_with fail;go_meet
    case rel => exact ⟨rfl, rfl⟩
   have hmf : (tk % 4 == 0) = mb := by
    rw [← HMb.out, Bool.true_and]
    by_cases h : tk % 4 = 0
    ·
     simp [h]
    simp [h]
   go_wp2_with fail;go_meet
   case rel => exact ⟨rfl, rfl⟩
  obtain ⟨rfl, rfl⟩ := hcut;go_upto_if 52 with fail
  go_cut [9] (fun pv wx => pv = .pointer (some ⟨bR, 0, none⟩) ∧ ∃ (da2 : Option Addr) (dc2 : Nat) (D2 : List UInt8), Hid (D2 = pre ++ D) ∧ Hid (BlkE wx bR #[.int .i64 tk, .int .i64 (1 + kd % 2), .int .u64 ((ky : Int) % 8), .int .u32 ((ck : Int) % 2), .slice da2 D2.length dc2] 63) ∧ Hid (KDat wx w.heap.size (.slice da2 D2.length dc2) D2) ∧ Hid (OwnQr wx w.heap.size u7 qs') ∧ Hid (Below w.heap.size w wx))
  case first =>
   cases mb
   ·
    have hpr : [] = pre := HPr.out;subst hpr;go_wp2_with fail;go_meet
    case rel => exact ⟨rfl, da', dc', D, zh rfl, HX, HK, HO, HB⟩
   have hpr : List.replicate 4076 0 = pre := HPr.out;obtain ⟨zc, hz1, hz2, hmk⟩ := zJN;rw [hpr] at hz2;have hpl : pre.length = 4076 := by rw [← hpr, List.length_replicate]
   clear hpr HPr;have hba := zi ((Below.refl w6.heap.size w6).alloc (Nat.le_refl _) (.cells zc 5));have hownZ : (World.drew (w6.alloc (.cells zc 5))).ownsRow w6.heap.size 5 1 (.slice (some ⟨w6.heap.size, 0, none⟩) 4076 4076) 4076 (pre.map xh) := ⟨by rw [List.length_map, hpl], .inr ⟨w6.heap.size, 4076, zc, rfl, Nat.le_refl _, heap_alloc_new w6 _, Nat.le_refl _, by decide, hz1, by rw [hz2, List.take_of_length_le (by rw [List.length_map, hpl]; decide)]⟩⟩
   have HZ := zh hownZ;have HXa := zh (HX.out.below hba);have HKa := zh (KRd.below HK.out hba);have hs6 : w6.heap.size ≤ (World.drew (w6.alloc (.cells zc 5))).heap.size := hba.size
   have HFin := zh (fun W9 va vc (hown : World.ownsRow W9 w6.heap.size 5 1 (.slice va (4076 + D.length) vc) (4076 + D.length) (pre.map xh ++ D.map xh)) (hgr : (World.drew (w6.alloc (.cells zc 5))).grownBy W9 (Value.slice (some ⟨w6.heap.size, 0, none⟩) 4076 4076).ownBlock) => show BlkE W9 bR #[.int .i64 tk, .int .i64 (1 + kd % 2), .int .u64 ((ky : Int) % 8), .int .u32 ((ck : Int) % 2), .slice da' D.length dc'] 63 ∧ KDat W9 w.heap.size (.slice va (pre ++ D).length vc) (pre ++ D) ∧ OwnQr W9 w.heap.size u7 qs' ∧ Below w6.heap.size w6 W9 by
    have hb := zK hba hownZ hs6 hgr
    refine ⟨HX.out.below hb, ?_, HO.out.below hb, hb⟩
    have e : (pre ++ D).length = 4076 + D.length := by rw [List.length_append, hpl]
    unfold KDat
    rw [e, List.map_append]
    exact KRd.own hown)
   clear hownZ hba hz2;have xa4 := HXa.out.cell (i := 4) rfl;have hRdD := zh (show Rd (World.drew (w6.alloc (.cells zc 5))) 1 (.slice da' D.length dc') D.length (D.map xh) from HKa.out.1);go_upto_region 10 with fail
   go_region_law ((refine xV (n := 4076) (m := D.length) (by rfl) (.tmp 53) (.tmp 55) 54 (by rfl) ku w6.heap.size (by rfl) HZ.out (by rfl) hRdD.out (vE D) (by unfold maxLen; omega) (by omega) hs6 ?_; intro v9 w9 hown2 hgr2 hv2; clear hv2; obtain ⟨oa2, oc2, hv2, _, _, _⟩ := zJ hown2; subst hv2; obtain ⟨r1, r2, r3, r4⟩ := HFin.out _ _ _ hown2 hgr2; have x9 := r1.cell (i := 4) rfl; have f9 := r1.frozen 4))
   all_goals
    have e : (pre ++ D).length = 4076 + D.length := by rw [List.length_append, hpl]
    rw [e] at r2;have hO9 : Oth w9 (w9.setCell ⟨bR, 4, none⟩ (.slice oa2 (4076 + D.length) oc2)) w.heap.size bR 63 := Oth.pts hsz ⟨_, _, r1⟩ [(4, .slice oa2 (4076 + D.length) oc2)];have hP9 : BlkE (w9.setCell ⟨bR, 4, none⟩ (.slice oa2 (4076 + D.length) oc2)) bR #[.int .i64 tk, .int .i64 (1 + kd % 2), .int .u64 ((ky : Int) % 8), .int .u32 ((ck : Int) % 2), .slice oa2 (4076 + D.length) oc2] 63 := by
     have h := r1.set 4 (.slice oa2 (4076 + D.length) oc2);simp only [List.setIfInBounds_toArray, List.set_cons_zero, List.set_cons_succ] at h;exact h
    have HX9 := zh hP9;have HK9 := zh (KRd.oth r2 hO9 (by decide));have HO9 := zh (r3.oth hO9 (fun e => hnb _ e rfl) (by decide));have HB9 := zh (zD (B := w.heap.size) (b := bR) hsz [(4, .slice oa2 (4076 + D.length) oc2)] (HB.out.trans (r4.mono HB.out.size)));clear r1 r2 r3 r4 hO9 hP9 x9 f9 hown2 hgr2;go_wp2_with fail;go_meet
    case rel => exact ⟨rfl, oa2, oc2, pre ++ D, zh rfl, by rw [e]; exact HX9, by rw [e]; exact HK9, HO9, HB9⟩
  clear HX HK HO HB HPr;obtain ⟨rfl, da2, dc2, D2, HD2, HX, HK, HO, HB⟩ := hcut;generalize wc = w7 at *;obtain ⟨oa, oc, hov, _, _, _⟩ := zJ HO.out.row;subst hov;have hs7 : w.heap.size ≤ w7.heap.size := HB.out.size;have x0 := HX.out.cell (i := 0) rfl;have x1 := HX.out.cell (i := 1) rfl;have x2 := HX.out.cell (i := 2) rfl;have x3 := HX.out.cell (i := 3) rfl;have x4 := HX.out.cell (i := 4) rfl;have hba := (Below.refl w7.heap.size w7).alloc (Nat.le_refl _) (.cells #[.int .i64 tk, .int .i64 (1 + kd % 2), .int .u64 ((ky : Int) % 8), .int .u32 ((ck : Int) % 2), .slice da2 D2.length dc2] 63);have HO8 := zh (HO.out.below hba);have HK8 := zh (KRd.below HK.out hba);have HB8 := zh (HB.out.trans (hba.mono hs7));have HRow := zh HO8.out.row;have hs8 := Nat.le_trans hs7 hba.size;clear hba HX HK HO HB
  go_wp2_with (at_builtin; go_must (refine za (n := qs'.length) (m := 1) rfl (.tmp 58) (.tmp 60) 60 rfl zK4 w.heap.size rfl HRow.out rfl (Rd.newK' w7.heap.size w7 rfl 5 [.int .i64 tk, .int .i64 (1 + kd % 2), .int .u64 ((ky : Int) % 8), .int .u32 ((ck : Int) % 2), .slice da2 D2.length dc2] 63 1 rfl (by decide)) (fun u hu => by simp only [List.mem_cons, List.not_mem_nil, or_false] at hu; rcases hu with h | h | h | h | h <;> rw [h] <;> rfl) (by unfold maxLen; omega) (by omega) hs8 ?_); intro v3 w9 hown3 hgr3 hv3; clear hv3);have HO9 := zh (HO8.out.push (p := ((⟨tk, 1 + kd % 2, ky % 8, ck % 2, D2⟩ : Rq), (.slice da2 D2.length dc2 : Value))) HK8.out hown3 hgr3);have HB9 := zh (zK HB8.out HRow.out hs8 hgr3)
  have HE9 := zh (show (qs' ++ [((⟨tk, 1 + kd % 2, ky % 8, ck % 2, D2⟩ : Rq), (.slice da2 D2.length dc2 : Value))]).map (·.1) = (N.take (i + 1)).map (smR much) by rw [List.map_append, HEs.out, HSt1.out, HSm.out, HD2.out]; rfl);have hl9 : (qs' ++ [((⟨tk, 1 + kd % 2, ky % 8, ck % 2, D2⟩ : Rq), (.slice da2 D2.length dc2 : Value))]).length = i + 1 := by rw [List.length_append, hl]; rfl
  clear hown3 hgr3;go_wp2_with fail;exact ⟨⟨i + 1, _, by go_num, by omega, by omega, hl9, HO9, HE9, HB9⟩, by simp [intOf]; omega⟩
 have HEi := zh (HE.out i hi hi2 hin)
 by_cases h5 : i < n
 ·
  have i2 : decide ((i : Int) < (n : Int)) = true := decide_eq_true (by omega);have i3 : decide ((i : Int) < (most : Int)) = false := decide_eq_false (by omega);go_wp2_with fail;go_ret;exact ⟨_, qs', rfl, HO.out, by rw [HEs.out, HEi.out], HB.out⟩
 have i2 : decide ((i : Int) < (n : Int)) = false := decide_eq_false (by omega);go_wp2_with fail;go_ret;exact ⟨_, qs', rfl, HO.out, by rw [HEs.out, HEi.out], HB.out⟩
theorem zJG (n : Nat) : bits .and .u32 (n : Int) 3 = ((n % 4 : Nat) : Int) := by
 have hm : (BitVec.ofInt 32 3).toNat = 2 ^ 2 - 1 := by decide
 have key : (BitVec.ofInt 32 (n : Int) &&& BitVec.ofInt 32 3).toNat = ((n : Int) % ((2 ^ 32 : Nat) : Int)).toNat % 2 ^ 2 := by
  rw [BitVec.toNat_and, BitVec.toNat_ofInt, hm, Nat.and_two_pow_sub_one_eq_mod]
 show IntKind.u32.wrap ((BitVec.ofInt 32 (n : Int) &&& BitVec.ofInt 32 3).toNat : Nat) = _
 rw [key];simp [IntKind.wrap, IntKind.signed, IntKind.bits];omega
theorem OwnNk.othB {W W' : World} {B b : Nat} {T' : TypeId} {v : Value} {es : List (Nd × Value)} (h : OwnNk W B v es) (ho : Oth W W' B b T') (h1 : v.ownBlock ≠ some b) (h2 : 5 ≠ T') : OwnNk W' B v es := by
 obtain ⟨h3, h4⟩ := h;refine ⟨⟨h3.1, ?_⟩, fun p hp => KRd.oth (h4 p hp) ho h2⟩;rcases h3.2 with h5 | ⟨g, cap, cur, e, hb, hg, h6⟩
 ·
  exact .inl h5
 exact .inr ⟨g, cap, cur, e, hb, by rw [ho.blk g (Array.getElem?_eq_some_iff.1 hg).1 (fun e2 => h1 (by rw [e, e2]; rfl))]; exact hg, h6⟩
theorem OwnNk.nil (W : World) (B : Nat) : OwnNk W B (.slice none 0 0) [] := ⟨World.ownsRow_nil _ _ _ _, fun p hp => by cases hp⟩
theorem OwnNk.push {W W' : World} {B : Nat} {v v' : Value} {es : List (Nd × Value)} {p : Nd × Value} (h : OwnNk W B v es) (hd : KDat W B p.2 p.1.data) (ho : W'.ownsRow B 56 4 v' (es.length + 1) (wL es ++ vh p)) (hg : W.grownBy W' v.ownBlock) : OwnNk W' B v' (es ++ [p]) := by
 have hO : OthR W W' B 56 := OthR.row h.row hg (Nat.le_refl _);refine ⟨?_, fun x hx => ?_⟩
 ·
  have e : wL (es ++ [p]) = wL es ++ vh p := by unfold wL; rw [List.flatMap_append]; simp
  rw [e, List.length_append]; exact ho
 rcases List.mem_append.1 hx with hx | hx
 ·
  exact KRd.othR (h.dat x hx) hO (by decide)
 obtain rfl := List.mem_singleton.1 hx;exact KRd.othR hd hO (by decide)
theorem zEW (v : Value) (ns : List (Nd × Value)) (most : Nat) (w : World) (h : RdN w v ns) (hm : most ≤ 1000) :
  Calls Tryz.prog 37 #[v, .int .i64 (most : Int)] w fun e w' => ∃ v' es, e = .returned v' ∧ OwnNk w' w.heap.size v' es ∧ es.map (·.1) = sbL most (ns.map (·.1)) ∧ Below w.heap.size w w' := by
 obtain ⟨a, cap, rfl, h1, h2⟩ := h.shape;have HQ := zh h;have HMem := zh (fun i (hi : i < ns.length) => h.dat _ (vH hi))
 have HSt := zh (show ∀ i, i < ns.length → ((ns.map (·.1)).take (i + 1)).map sbN = ((ns.map (·.1)).take i).map sbN ++ [sbN (yZ ns i).1] from fun i hi => by
  rw [List.take_add_one, List.getElem?_map, List.getElem?_eq_getElem hi, List.map_append]
  unfold yZ
  rw [List.getD_eq_getElem?_getD, List.getElem?_eq_getElem hi]; rfl)
 have HE := zh (show ∀ i, i ≤ ns.length → i ≤ most → ¬ (i < ns.length ∧ i < most) → ((ns.map (·.1)).take i).map sbN = sbL most (ns.map (·.1)) from fun i h1 h2 h3 => by
  unfold sbL
  by_cases e : i = most
  ·
   rw [e]
  rw [List.take_of_length_le (by rw [List.length_map]; omega), List.take_of_length_le (by rw [List.length_map]; omega)])
 clear h;generalize hn : ns.length = n at *;clear hn;generalize ns.map (·.1) = N at *
 go_enter Tryz.func37, Tryz.ntmps37
 go_wp2_with fail
 go_loopw [5, 6] (fun ov iv W => ∃ (i : Nat) (es : List (Nd × Value)), iv = .int .i64 (i : Int) ∧ i ≤ n ∧ i ≤ most ∧ es.length = i ∧ Hid (OwnNk W w.heap.size ov es) ∧ Hid (es.map (·.1) = (N.take i).map sbN) ∧ Hid (Below w.heap.size w W)) (fun _ iv _ => n - (intOf iv).toNat)
 case atStart => exact ⟨0, [], rfl, Nat.zero_le _, Nat.zero_le _, rfl, zh (OwnNk.nil _ _), zh rfl, zh (Below.refl _ _)⟩
 obtain ⟨i, es, rfl, hi, hi2, hl, HO, HEs, HB⟩ := hrel;have hsz : w.heap.size ≤ wr.heap.size := HB.out.size
 by_cases hin : i < n ∧ i < most
 ·
  obtain ⟨hin, him⟩ := hin;have i1 : (i : Int) < (n : Int) := by omega
  have i2 : decide ((i : Int) < (n : Int)) = true := decide_eq_true i1;have i3 : decide ((i : Int) < (most : Int)) = true := decide_eq_true (by omega);obtain ⟨qb, qo, e0, _, c0, c1, c2, c3⟩ := (HQ.out.below HB.out).at (j := i) hin;subst e0;have hd0 := HMem.out i hin;have hst := HSt.out i hin;generalize yZ ns i = X at *;obtain ⟨⟨ky, ck, dd, dl⟩, dv⟩ := X;dsimp only at *;obtain ⟨da, dc, rfl, hd1, hd2⟩ := hd0.shape0;have HD0 := zh hd0;have HSt1 := zh hst;have e2 := zI9 ky;have e3 := zJG ck;clear hd0 hst;go_upto_if 26 with fail;have hba := (Below.refl wr.heap.size wr).alloc (Nat.le_refl _) (.cells #[.int .u64 (ky : Int), .int .u32 (ck : Int), .bool dd, .slice da dl.length dc] 56);have HX := zh (BlkE.new wr #[.int .u64 (ky : Int), .int .u32 (ck : Int), .bool dd, .slice da dl.length dc] 56)
  have hnb : ∀ g, u5.ownBlock = some g → g ≠ wr.heap.size := fun g hg e => by have := (HO.out.row.lt g hg).2; omega
  have HO5 := zh (HO.out.below hba);have HB5 := zh (HB.out.trans (hba.mono hsz));have HK5 := zh (show KDat _ w.heap.size (.slice da dl.length dc) dl from KRd.below (KRd.below (KRd.old HD0.out (Nat.le_refl _)) HB.out) hba);change Code.wp _ _ _ _ (wr.alloc (.cells #[.int .u64 (ky : Int), .int .u32 (ck : Int), .bool dd, .slice da dl.length dc] 56));clear hba HO HB HD0 c0 c1 c2 c3;generalize hbR : wr.heap.size = bR at *;clear hbR;generalize wr.alloc (.cells #[.int .u64 (ky : Int), .int .u32 (ck : Int), .bool dd, .slice da dl.length dc] 56) = w5 at *
  go_cut [7] (fun pv wx => pv = .pointer (some ⟨bR, 0, none⟩) ∧ ∃ (da' : Option Addr) (dc' : Nat), Hid (BlkE wx bR #[.int .u64 (ky : Int), .int .u32 (ck : Int), .bool dd, .slice da' (dl.take 30).length dc'] 56) ∧ Hid (KDat wx w.heap.size (.slice da' (dl.take 30).length dc') (dl.take 30)) ∧ Hid (OwnNk wx w.heap.size u5 es) ∧ Hid (Below w.heap.size w wx))
  case first =>
   have x4 := HX.out.cell (i := 3) rfl
   by_cases h30 : 30 < dl.length
   ·
    have hto := fun W kh => yU (P := Tryz.prog) ku (a := da) (n := dl.length) (cap := dc) (RdL.spot HK5.out.rd (by omega)) 30 (by omega) W kh
    rw [show ((30 : Nat) : Int) = 30 from rfl] at hto;have hdd : decide ((30 : Int) < (dl.length : Int)) = true := by simp; omega
    have hl30 : (dl.take 30).length = 30 := by rw [List.length_take]; omega
    have hP9 : BlkE (w5.setCell ⟨bR, 3, none⟩ (.slice da 30 dc)) bR #[.int .u64 (ky : Int), .int .u32 (ck : Int), .bool dd, .slice da 30 dc] 56 := by
     have h := HX.out.set 3 (.slice da 30 dc);simp only [List.setIfInBounds_toArray, List.set_cons_zero, List.set_cons_succ] at h;exact h
    have HX9 := zh hP9;have hO9 : Oth w5 (w5.setCell ⟨bR, 3, none⟩ (.slice da 30 dc)) w.heap.size bR 56 := Oth.pts hsz ⟨_, _, HX.out⟩ [(3, .slice da 30 dc)];have HO9 := zh (HO5.out.othB hO9 (fun e => hnb _ e rfl) (by decide));have HK9 := zh (KRd.oth (show KDat w5 w.heap.size (.slice da 30 dc) (dl.take 30) from HK5.out.take30 (by omega)) hO9 (by decide));have HB9 := zh (zD (B := w.heap.size) (b := bR) hsz [(3, .slice da 30 dc)] HB5.out);have f4 := HX.out.frozen 3;clear hP9 hO9;go_wp2_with fail;go_meet
    case rel => exact ⟨rfl, da, dc, by rw [hl30]; exact HX9, by rw [hl30]; exact HK9, HO9, HB9⟩
   have hdd : decide ((30 : Int) < (dl.length : Int)) = false := by simp; omega
   have he : dl.take 30 = dl := List.take_of_length_le (by omega);go_wp2_with fail;go_meet
   case rel => exact ⟨rfl, da, dc, by rw [he]; exact HX, by rw [he]; exact HK5, HO5, HB5⟩
  clear HX HK5 HO5 HB5;obtain ⟨rfl, da', dc', HX, HK, HO, HB⟩ := hcut;generalize wc = w6 at *;have HSm := zh (show sbN ⟨ky, ck, dd, dl⟩ = ⟨ky % 8, ck % 4, dd, if dd then [] else dl.take 30⟩ from rfl);generalize dl.take 30 = D at *;have x2 := HX.out.cell (i := 2) rfl;go_upto_if 32 with fail
  go_cut [7] (fun pv wx => pv = .pointer (some ⟨bR, 0, none⟩) ∧ ∃ (da2 : Option Addr) (dc2 : Nat) (D2 : List UInt8), Hid (D2 = if dd then [] else D) ∧ Hid (BlkE wx bR #[.int .u64 (ky : Int), .int .u32 (ck : Int), .bool dd, .slice da2 D2.length dc2] 56) ∧ Hid (KDat wx w.heap.size (.slice da2 D2.length dc2) D2) ∧ Hid (OwnNk wx w.heap.size u5 es) ∧ Hid (Below w.heap.size w wx))
  case first =>
   cases dd
   ·
    go_wp2_with fail;go_meet
    case rel => exact ⟨rfl, da', dc', D, zh rfl, HX, HK, HO, HB⟩
   have x3 := HX.out.cell (i := 3) rfl;have f3 := HX.out.frozen 3;have hP9 : BlkE (w6.setCell ⟨bR, 3, none⟩ (.slice none 0 0)) bR #[.int .u64 (ky : Int), .int .u32 (ck : Int), .bool true, .slice none 0 0] 56 := by
    have h := HX.out.set 3 (.slice none 0 0);simp only [List.setIfInBounds_toArray, List.set_cons_zero, List.set_cons_succ] at h;exact h
   have HX9 := zh hP9;have hO9 : Oth w6 (w6.setCell ⟨bR, 3, none⟩ (.slice none 0 0)) w.heap.size bR 56 := Oth.pts hsz ⟨_, _, HX.out⟩ [(3, .slice none 0 0)];have HO9 := zh (HO.out.othB hO9 (fun e => hnb _ e rfl) (by decide));have HK9 := zh (show KDat (w6.setCell ⟨bR, 3, none⟩ (.slice none 0 0)) w.heap.size (.slice none 0 0) [] from ⟨⟨rfl, none, 0, rfl, Nat.le_refl _, Nat.zero_le _, fun _ => rfl, fun h => (by cases h)⟩, fun g hg => (by cases hg)⟩);have HB9 := zh (zD (B := w.heap.size) (b := bR) hsz [(3, .slice none 0 0)] HB.out);clear hP9 hO9;go_wp2_with fail;go_meet
   case rel => exact ⟨rfl, none, 0, [], zh rfl, HX9, HK9, HO9, HB9⟩
  clear HX HK HO HB;obtain ⟨rfl, da2, dc2, D2, HD2, HX, HK, HO, HB⟩ := hcut;generalize wc = w7 at *;have x0 := HX.out.cell (i := 0) rfl;have x1 := HX.out.cell (i := 1) rfl;have f0 := HX.out.frozen 0;have f1 := HX.out.frozen 1;have hP9 : BlkE (pts w7 bR [(0, .int .u64 ((ky : Int) % 8)), (1, .int .u32 ((ck : Int) % 4))]) bR #[.int .u64 ((ky : Int) % 8), .int .u32 ((ck : Int) % 4), .bool dd, .slice da2 D2.length dc2] 56 := by
   have h := BlkE.sets [(0, .int .u64 ((ky : Int) % 8)), (1, .int .u32 ((ck : Int) % 4))] HX.out;simp only [List.foldl_cons, List.foldl_nil, List.setIfInBounds_toArray, List.set_cons_zero, List.set_cons_succ] at h;exact h
  have hO9 : Oth w7 (pts w7 bR [(0, .int .u64 ((ky : Int) % 8)), (1, .int .u32 ((ck : Int) % 4))]) w.heap.size bR 56 := Oth.pts hsz ⟨_, _, HX.out⟩ _;have HO9 := zh (HO.out.othB hO9 (fun e => hnb _ e rfl) (by decide));have HK9 := zh (KRd.oth HK.out hO9 (by decide));have HB9 := zh (zD (B := w.heap.size) (b := bR) hsz [(0, .int .u64 ((ky : Int) % 8)), (1, .int .u32 ((ck : Int) % 4))] HB.out);have HX9 := zh hP9;clear hP9 hO9 HX HK HO HB;go_upto_region 12 with fail;change Code.wp _ _ _ _ (pts w7 bR [(0, .int .u64 ((ky : Int) % 8)), (1, .int .u32 ((ck : Int) % 4))]);generalize pts w7 bR [(0, .int .u64 ((ky : Int) % 8)), (1, .int .u32 ((ck : Int) % 4))] = w8 at *;clear x0 x1 f0 f1;have x0 := HX9.out.cell (i := 0) rfl;have x1 := HX9.out.cell (i := 1) rfl;have x2 := HX9.out.cell (i := 2) rfl;have x3 := HX9.out.cell (i := 3) rfl;obtain ⟨oa, oc, hov, _, _, _⟩ := zJ HO9.out.row;subst hov
  have hs7 : w.heap.size ≤ w8.heap.size := HB9.out.size;have hba := (Below.refl w8.heap.size w8).alloc (Nat.le_refl _) (.cells #[.int .u64 ((ky : Int) % 8), .int .u32 ((ck : Int) % 4), .bool dd, .slice da2 D2.length dc2] 56);have HO8 := zh (HO9.out.below hba);have HK8 := zh (KRd.below HK9.out hba);have HB8 := zh (HB9.out.trans (hba.mono hs7));have HRow := zh HO8.out.row;have hs8 := Nat.le_trans hs7 hba.size;clear hba HX9 HK9 HO9 HB9
  go_wp2_with (at_builtin; go_must (refine za (n := es.length) (m := 1) rfl (.tmp 42) (.tmp 44) 23 rfl zKb w.heap.size rfl HRow.out rfl (Rd.newK' w8.heap.size w8 rfl 4 [.int .u64 ((ky : Int) % 8), .int .u32 ((ck : Int) % 4), .bool dd, .slice da2 D2.length dc2] 56 1 rfl (by decide)) (fun u hu => by simp only [List.mem_cons, List.not_mem_nil, or_false] at hu; rcases hu with h | h | h | h <;> rw [h] <;> rfl) (by unfold maxLen; omega) (by omega) hs8 ?_); intro v3 w9 hown3 hgr3 hv3; clear hv3);have HO9 := zh (HO8.out.push (p := ((⟨ky % 8, ck % 4, dd, D2⟩ : Nd), (.slice da2 D2.length dc2 : Value))) HK8.out hown3 hgr3);have HB9 := zh (zK HB8.out HRow.out hs8 hgr3);have HE9 := zh (show (es ++ [((⟨ky % 8, ck % 4, dd, D2⟩ : Nd), (.slice da2 D2.length dc2 : Value))]).map (·.1) = (N.take (i + 1)).map sbN by rw [List.map_append, HEs.out, HSt1.out, HSm.out, HD2.out]; rfl)
  have hl9 : (es ++ [((⟨ky % 8, ck % 4, dd, D2⟩ : Nd), (.slice da2 D2.length dc2 : Value))]).length = i + 1 := by rw [List.length_append, hl]; rfl
  clear hown3 hgr3;go_wp2_with fail;exact ⟨⟨i + 1, _, by go_num, by omega, by omega, hl9, HO9, HE9, HB9⟩, by simp [intOf]; omega⟩
 have HEi := zh (HE.out i hi hi2 hin)
 by_cases h5 : i < n
 ·
  have i2 : decide ((i : Int) < (n : Int)) = true := decide_eq_true (by omega);have i3 : decide ((i : Int) < (most : Int)) = false := decide_eq_false (by omega);go_wp2_with fail;go_ret;exact ⟨_, es, rfl, HO.out, by rw [HEs.out, HEi.out], HB.out⟩
 have i2 : decide ((i : Int) < (n : Int)) = false := decide_eq_false (by omega);go_wp2_with fail;go_ret;exact ⟨_, es, rfl, HO.out, by rw [HEs.out, HEi.out], HB.out⟩
end Go.Proofs.YtcgfilmmokmdjaaGreat
