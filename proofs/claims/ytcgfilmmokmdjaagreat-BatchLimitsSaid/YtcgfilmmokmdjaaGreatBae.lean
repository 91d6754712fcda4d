/- A part of the walk. -/
import Derived.Test.YtcgfilmmokmdjaaGreatQAA
import Derived.Test.YtcgfilmmokmdjaaGreatHg
import Derived.Laws.EntriesVeiled
import Derived.Lib.SmallJoins
set_option linter.all false
set_option maxRecDepth 100000
set_option maxHeartbeats 32000000
namespace Go.Proofs.YtcgfilmmokmdjaaGreat
open Go.RowKit
theorem zKQ (w : World) : Wri (w.alloc (.cells #[.slice none 0 0] 203)) w.heap.size w.heap.size [] :=
 ⟨.slice none 0 0, by show (w.heap.push _)[w.heap.size]? = _; exact Array.getElem?_push_size, World.ownsRow_nil _ _ _ _⟩
theorem qM (p c n : Nat) (cI nI : Int) (e1 : cI = c) (e2 : nI = n) (l0 : List UInt8) (w : World) (hw : Wri w p p l0) (hB : p ≤ w.heap.size) (hn : n ≤ 8) (hc : c < 18446744073709551616) (h0 : l0.length ≤ 1000000) :
  Calls Tryz.prog 115 #[.pointer (some ⟨p, 0, none⟩), .int .u64 cI, .int .i64 nI] w fun e w' => e = .returned (.tuple #[]) ∧ Wri w' p p (l0 ++ be c n) ∧ Below p w w' := by
 subst e1 e2;exact zIQ p c n p l0 w (Nat.le_refl _) hw hB hn hc h0
theorem zBz (p c n : Nat) (cI nI : Int) (e1 : cI = c) (e2 : nI = n) (l0 : List UInt8) (w : World) (hw : Wri w p p l0) (hB : p ≤ w.heap.size) (hn : n ≤ 8) (hc : c < 18446744073709551616) (h0 : l0.length ≤ 1000000) :
  Calls Tryz.prog 116 #[.pointer (some ⟨p, 0, none⟩), .int .u64 cI, .int .i64 nI] w fun e w' => e = .returned (.tuple #[]) ∧ Wri w' p p (l0 ++ le c n) ∧ Below p w w' := by
 subst e1 e2;exact zDV p c n p l0 w (Nat.le_refl _) hw hB hn hc h0
def zKZ : Value → Nat
 | .slice _ n _ => n
 | _ => 0
theorem zJn (v : Nat) : be v 1 = [UInt8.ofNat v] := by simp [be]
theorem zLT : le 0 1 = [0] := by simp [le]
theorem zEi (m : Nat) : vO m ++ [0] = vO (m + 1) := List.replicate_succ'.symm
theorem zFB (x : Nd) (dv : Value) (w : World) (hok : x.ok) (hwf : x.Wf) (h : RdB w dv x.data) :
  Calls Tryz.prog 74 #[ndV x dv] w fun e w' => ∃ v', e = .returned (.tuple #[v', .int .i64 0]) ∧ OwnB w' w.heap.size v' (zBT x) ∧ Below w.heap.size w w' := by
 obtain ⟨a, cap, rfl, h1, h2⟩ := h.shape0;have HV := zh (fun W => vu x a cap W);rw [show decide x.ok = true from decide_eq_true hok] at HV;have HEn := zh (show zBT x = [78, 165, if x.del then 1 else 0, 0] ++ be x.ck 4 ++ be x.key 8 ++ be x.data.length 4 ++ x.data ++ ck ([78, 165, if x.del then 1 else 0, 0] ++ be x.ck 4 ++ be x.key 8 ++ be x.data.length 4 ++ x.data) ++ vO (nsz x.data.length - (24 + x.data.length)) from rfl);have hszb := xT x.data.length;have hszd : nsz x.data.length < 24 + x.data.length + 8 := by unfold nsz; omega
 obtain ⟨k, c, d, l⟩ := x;obtain ⟨hl, hdl⟩ := hok;obtain ⟨hk, hc⟩ := hwf;dsimp only at *;have j1 : IntKind.u64.wrap (c : Int) = (c : Int) := IntWalk.u64_in _ (by omega);have j2 : IntKind.u64.wrap (l.length : Int) = (l.length : Int) := IntWalk.u64_in _ (by omega);have d1 : decide ((4096 : Int) < (l.length : Int)) = false := by simp; omega
 have Hw0 := zh h;have HB0 := zh (show Below w.heap.size w (w.alloc (.cells #[.int .u64 (k : Int), .int .u32 (c : Int), .bool d, .slice a l.length cap] 56)) from (Below.refl _ _).alloc (Nat.le_refl _) _);clear h;generalize hn : l.length = n at *;have HL := zh hn;clear hn
 go_enter Tryz.func74, Tryz.ntmps74
 go_wp2_with fail;refine (HV.out _).mono ?_; rintro e w1 ⟨rfl, hb1⟩;have hz1 : w.heap.size + 1 ≤ w1.heap.size := Nat.le_trans (by simp) hb1.size
 have HC := zh (fun w' (h : Below w1.heap.size w1 w') => show w'.cell? ⟨w.heap.size, 0, none⟩ = some (.int .u64 (k : Int)) ∧ w'.cell? ⟨w.heap.size, 1, none⟩ = some (.int .u32 (c : Int)) ∧ w'.cell? ⟨w.heap.size, 2, none⟩ = some (.bool d) ∧ w'.cell? ⟨w.heap.size, 3, none⟩ = some (.slice a n cap) from
  ⟨Below.keeps h _ _ (Below.keeps hb1 _ _ (by simp)), Below.keeps h _ _ (Below.keeps hb1 _ _ (by simp)), Below.keeps h _ _ (Below.keeps hb1 _ _ (by simp)), Below.keeps h _ _ (Below.keeps hb1 _ _ (by simp))⟩)
 have HB1 := zh (zA HB0.out hb1);clear hb1 HV HB0;go_upto_region 6 with fail;change Code.wp _ _ _ _ (w1.alloc (.cells #[.slice none 0 0] 203));have HBa := zh (show Below w1.heap.size w1 (w1.alloc (.cells #[.slice none 0 0] 203)) from (Below.refl _ _).alloc (Nat.le_refl _) _);have HW := zh (zKQ w1);generalize w1.alloc (.cells #[.slice none 0 0] 203) = w2 at *;generalize hp1 : w1.heap.size = p at *;have hps : p ≤ w1.heap.size := by omega
 have hlo : w.heap.size < p := by omega
 clear hp1;generalize hdn : (if d then 1 else 0 : Nat) = dn;have hdn2 : dn < 256 := by cases d <;> (simp at hdn; omega)
 obtain ⟨y0, y1, y2, y3⟩ := HC.out _ HBa.out;go_upto_if 21 with fail;clear y0 y1 y2 y3
 go_cut [6] (fun v wx => v = .int .u64 (dn : Int) ∧ wx = w2)
 case first =>
  cases d
  ·
   subst hdn;go_wp2_with fail;go_meet
   case rel => exact ⟨rfl, rfl⟩
  subst hdn;go_wp2_with fail;go_meet
  case rel => exact ⟨rfl, rfl⟩
 obtain ⟨rfl, hwc⟩ := hcut;generalize wc = w5 at *;replace hwc := hwc.symm;subst hwc;have HLe := zh (fun (m : List UInt8) (h : m.length ≤ 5000) => (show m.length ≤ 1000000 by omega));go_wp2_with fail;refine (qM p 78 1 78 1 rfl rfl [] _ HW.out (Nat.le_trans hps HBa.out.size) (by decide) (by omega) (HLe.out _ (by simp [xW, uB]; try omega))).mono ?_;rintro e wz ⟨rfl, hwz, hbz⟩;replace HW := zh hwz;replace HBa := zh (HBa.out.trans hbz);clear hwz hbz;go_wp2_with fail;refine (qM p 165 1 165 1 rfl rfl ([] ++ be 78 1) _ HW.out (Nat.le_trans hps HBa.out.size) (by decide) (by omega) (HLe.out _ (by simp [xW, uB]; try omega))).mono ?_;rintro e wz ⟨rfl, hwz, hbz⟩;replace HW := zh hwz;replace HBa := zh (HBa.out.trans hbz);clear hwz hbz;go_wp2_with fail
 refine (qM p dn 1 dn 1 rfl rfl ([] ++ be 78 1 ++ be 165 1) _ HW.out (Nat.le_trans hps HBa.out.size) (by decide) (by omega) (HLe.out _ (by simp [xW, uB]; try omega))).mono ?_;rintro e wz ⟨rfl, hwz, hbz⟩;replace HW := zh hwz;replace HBa := zh (HBa.out.trans hbz);clear hwz hbz;go_wp2_with fail;refine (qM p 0 1 0 1 rfl rfl ([] ++ be 78 1 ++ be 165 1 ++ be dn 1) _ HW.out (Nat.le_trans hps HBa.out.size) (by decide) (by omega) (HLe.out _ (by simp [xW, uB]; try omega))).mono ?_;rintro e wz ⟨rfl, hwz, hbz⟩;replace HW := zh hwz;replace HBa := zh (HBa.out.trans hbz);clear hwz hbz;have hH : [] ++ be 78 1 ++ be 165 1 ++ be dn 1 ++ be 0 1 = [78, 165, if d then 1 else 0, 0] := by rw [zJn, zJn, zJn, zJn, ← hdn]; cases d <;> rfl
 rw [hH] at HW;clear hH hdn hdn2;generalize hH4 : ([78, 165, if d then 1 else 0, 0] : List UInt8) = H4 at *;have hl4 : H4.length = 4 := by rw [← hH4]; rfl
 clear hH4;obtain ⟨y0, y1, y2, y3⟩ := HC.out _ HBa.out;go_wp2_with fail;refine (qM p c 4 c 4 rfl rfl H4 _ HW.out (Nat.le_trans hps HBa.out.size) (by decide) (by omega) (HLe.out _ (by simp [hl4]; try omega))).mono ?_;rintro e wz ⟨rfl, hwz, hbz⟩;replace HW := zh hwz;replace HBa := zh (HBa.out.trans hbz);clear hwz hbz;clear y0 y1 y2 y3;obtain ⟨y0, y1, y2, y3⟩ := HC.out _ HBa.out;go_wp2_with fail;refine (qM p k 8 k 8 rfl rfl (H4 ++ be c 4) _ HW.out (Nat.le_trans hps HBa.out.size) (by decide) (by omega) (HLe.out _ (by simp [xW, hl4]; try omega))).mono ?_;rintro e wz ⟨rfl, hwz, hbz⟩;replace HW := zh hwz;replace HBa := zh (HBa.out.trans hbz);clear hwz hbz;clear y0 y1 y2 y3;obtain ⟨y0, y1, y2, y3⟩ := HC.out _ HBa.out;go_wp2_with fail
 refine (qM p n 4 n 4 rfl rfl (H4 ++ be c 4 ++ be k 8) _ HW.out (Nat.le_trans hps HBa.out.size) (by decide) (by omega) (HLe.out _ (by simp [xW, hl4]; try omega))).mono ?_;rintro e wz ⟨rfl, hwz, hbz⟩;replace HW := zh hwz;replace HBa := zh (HBa.out.trans hbz);clear hwz hbz;clear y0 y1 y2 y3;have hl5 : (H4 ++ be c 4 ++ be k 8 ++ be n 4).length = 20 := by simp [xW, hl4]
 generalize H4 ++ be c 4 ++ be k 8 ++ be n 4 = H5 at *;clear hl4;generalize wz = w6 at *;have hr6 := zh (show RdB w6 (.slice a n cap) l from Hw0.out.below (HB1.out.trans (HBa.out.mono (by omega))));obtain ⟨v5, hv5, ho5⟩ := HW.out.h;obtain ⟨oa5, oc5, rfl, _⟩ := zJ ho5;have c5 := cell_of_one hv5;have f5 := free_of_one hv5;have HV5 := zh hv5;have HO5 := zh (show w6.ownsRow p 5 1 (.slice oa5 H5.length oc5) H5.length (H5.map xh) from ho5);have hpw : p < w6.heap.size := World.block_lt_of_cell? _ _ c5;clear hv5 ho5;rw [hl5] at c5 HO5 HV5;have HR5 := zh (show Rd w6 1 (.slice a n cap) n (l.map xh) from by have := hr6.out; unfold RdB RdL at this; rw [HL.out] at this; exact this);clear hr6;obtain ⟨_, _, _, y3⟩ := HC.out _ HBa.out
 have HCP := zh (fun W (h : (w6.drew).grownBy W (Value.slice oa5 20 oc5).ownBlock) => show W.heap[p]? = some (.cells #[.slice oa5 20 oc5] 203 (0, 0)) from by
  rw [h.block p hpw (fun e => wP HO5.out HV5.out (by decide) e.symm)]
  exact HV5.out)
 go_upto_region 17 with fail
 go_cut [4] (fun v wx => v = .pointer (some ⟨p, 0, none⟩) ∧ Hid (Wri wx p p (H5 ++ l)) ∧ Hid (Below p w1 wx))
 case first =>
  go_region_law ((refine xV (by rfl) (.tmp 50) (.tmp 52) 54 (by rfl) ku p (by rfl) HO5.out.drew (by rfl) (Rd.drew HR5.out) (vE _) (by unfold maxLen; omega) (by omega) (by simp; omega) ?_; intro v2 w2 hown2 hgr2 hv2; clear hv2; obtain ⟨oa2, oc2, hv2, _, _, _⟩ := zJ hown2; subst hv2; have hp2 := HCP.out _ hgr2; have c2 := cell_of_one hp2; have f2 := free_of_one hp2))
  all_goals
   have HP3 := one_setCell (u := .slice oa2 (20 + n) oc2) hp2;have HO3 := uG hown2 (p := ⟨p, 0, none⟩) (wP hown2 hp2 (by decide)) (.slice oa2 (20 + n) oc2);have HB3 := (zK (zi HBa.out) HO5.out.drew (by simp; omega) hgr2).setCell (p := ⟨p, 0, none⟩) (Nat.le_refl _) (.slice oa2 (20 + n) oc2);clear hgr2 hp2 c2 f2 hown2;go_wp2_with fail;go_meet
   case rel => exact ⟨rfl, zh ⟨⟨_, HP3, td HO3 (by rw [List.map_append])⟩⟩, zh HB3⟩
 obtain ⟨rfl, HW7, HB7⟩ := hcut;generalize wc = w7 at *;clear HCP HR5 HO5 HV5 c5 f5 y3 HW HBa;replace HW := HW7;replace HBa := HB7;clear HW7 HB7;have hl6 : (H5 ++ l).length = 20 + n := by rw [List.length_append, hl5, HL.out]
 generalize H5 ++ l = H6 at *;have hps7 := Nat.le_trans hps HBa.out.size;obtain ⟨v7, hv7, ho7⟩ := HW.out.h;obtain ⟨oa7, oc7, rfl, _⟩ := zJ ho7;have c7 := cell_of_one hv7;have HSm := zh (zKL (.slice oa7 H6.length oc7) H6 w7 ho7.rd);rw [hl6] at HSm c7;have hsl := Crc.sum_lt H6;have HCk := zh (show ck H6 = le (Crc.sum H6) 4 from (zLr _).symm);generalize Crc.sum H6 = sm at *;have j9 : IntKind.u64.wrap (sm : Int) = (sm : Int) := IntWalk.u64_in _ (by omega);clear hv7 ho7;go_wp2_with fail;refine HSm.out.mono ?_;rintro e wz ⟨rfl, rfl⟩;clear HSm;go_wp2_with fail;refine (zBz p sm 4 sm 4 rfl rfl H6 _ HW.out hps7 (by decide) (by omega) (HLe.out _ (by omega))).mono ?_;rintro e w8 ⟨rfl, hwz, hbz⟩;rw [← HCk.out] at hwz;replace HW := zh hwz;replace HBa := zh (HBa.out.trans hbz);clear hwz hbz HCk c7 j9 hsl;have hl7 : (H6 ++ ck H6).length = 24 + n := by rw [List.length_append, hl6, zBg]; omega
 generalize H6 ++ ck H6 = H7 at *;generalize nsz n = S at *;obtain ⟨hs1, hs2, hs3⟩ := hszb;go_wp2_with fail
 go_loopw [66] (fun fv W => ∃ m : Nat, 24 + n ≤ m ∧ m ≤ S ∧ Hid (Wri W p p (H7 ++ vO (m - (24 + n)))) ∧ Hid (Below p w1 W)) (fun _ W => S - zKZ ((W.cell? ⟨p, 0, none⟩).getD (.int .i64 0)))
 case atStart => exact ⟨24 + n, Nat.le_refl _, by omega, zh (by rw [Nat.sub_self]; simpa [vO] using HW.out), HBa⟩
 obtain ⟨m, hm1, hm2, HWm, HBm⟩ := hrel;clear HW HBa;obtain ⟨v9, hv9, ho9⟩ := HWm.out.h;obtain ⟨oa9, oc9, rfl, _⟩ := zJ ho9;have c9 := cell_of_one hv9;have hlm : (H7 ++ vO (m - (24 + n))).length = m := by rw [List.length_append, hl7]; simp [vO]; omega
 have HO9 := zh ho9;rw [hlm] at c9;clear hv9 ho9;have hps9 := Nat.le_trans hps HBm.out.size;obtain ⟨r, hr1, hr2, hr3⟩ : ∃ r : Int, (m : Int) % 8 = r ∧ (m : Int).tmod 8 = r ∧ (r = 0 ↔ m = S) := ⟨_, rfl, Int.tmod_eq_emod_of_nonneg (by omega), by omega⟩
 by_cases hlt : m < S
 ·
  have q1 : (r == 0) = false := beq_eq_false_iff_ne.2 (by omega);have hlz : (H7 ++ vO (m - (24 + n))).length ≤ 1000000 := by omega
  have hz9 : H7 ++ vO (m - (24 + n)) ++ le 0 1 = H7 ++ vO (m + 1 - (24 + n)) := by rw [zLT, List.append_assoc, zEi, show m - (24 + n) + 1 = m + 1 - (24 + n) by omega]
  go_wp2_with fail;refine (zBz p 0 1 0 1 rfl rfl _ _ HWm.out hps9 (by decide) (by decide) hlz).mono ?_;rintro e w9 ⟨rfl, hwz, hbz⟩;rw [hz9] at hwz;have HWn := zh hwz;have HBn := zh (HBm.out.trans hbz);obtain ⟨va, hva, hoa⟩ := hwz.h;obtain ⟨oaa, oca, rfl, _⟩ := zJ hoa;have ca := cell_of_one hva;have hla : (H7 ++ vO (m + 1 - (24 + n))).length = m + 1 := by rw [List.length_append, hl7]; simp [vO]; omega
  rw [hla] at ca;clear hwz hbz hva hoa;go_wp2_with fail;exact ⟨⟨m + 1, by omega, by omega, HWn, HBn⟩, by rw [ca, c9]; simp [zKZ]; omega⟩
 obtain rfl : m = S := by omega
 have q1 : (r == 0) = true := by rw [hr3.2 rfl]; rfl
 have HO9b := zh (show wr.ownsRow p 5 1 (.slice oa9 m oc9) m ((H7 ++ vO (m - (24 + n))).map xh) from by have := HO9.out; unfold OwnB at this; rw [hlm] at this; exact this);have HF := zh (Go.Joins.ownsRow_le HO9b.out (show w.heap.size ≤ p by omega));have HG := zh (HB1.out.trans (HBm.out.mono (by omega)));go_wp2_with fail;go_ret2;exact ⟨_, rfl, td HF.out (by rw [HEn.out]), HG.out⟩
end Go.Proofs.YtcgfilmmokmdjaaGreat
