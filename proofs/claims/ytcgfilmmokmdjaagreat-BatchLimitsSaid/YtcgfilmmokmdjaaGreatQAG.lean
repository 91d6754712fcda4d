/- A part of the walk. -/
import Derived.Test.YtcgfilmmokmdjaaGreatQAA
import Derived.Test.YtcgfilmmokmdjaaGreatSz
import Derived.Test.YtcgfilmmokmdjaaGreatQAD
import Derived.Lib.AppendZeros
import Derived.Laws.StructEq
import Derived.Test.YtcgfilmmokmdjaaGreatQAB
import Derived.Deep.DeepCutAuto
import Derived.Test.YtcgfilmmokmdjaaGreatQAF
set_option linter.all false
set_option maxRecDepth 100000
set_option maxHeartbeats 32000000
namespace Go.Proofs.YtcgfilmmokmdjaaGreat
open Go.RowKit
theorem zFG {w : World} {base : Nat} {e : TypeId} {sz n cap g : Nat} {xs : List Value} (h : w.ownsRow base e sz (.slice (some ⟨g, 0, none⟩) n cap) n xs) (o : Nat) (vs : List Value) (ho : o + vs.length ≤ n * sz) :
  ∃ cur, w.heap[g]? = some (.cells cur e (0, 0)) ∧ n * sz ≤ cur.size ∧ (w.setRow g (cur.toList.take o ++ vs ++ cur.toList.drop (o + vs.length)).toArray).ownsRow base e sz (.slice (some ⟨g, 0, none⟩) n cap) n (xs.take o ++ vs ++ xs.drop (o + vs.length)) ∧
   w.grownBy (w.setRow g (cur.toList.take o ++ vs ++ cur.toList.drop (o + vs.length)).toArray) (some g) := by
 have hx := h.1;rcases h.2 with ⟨h', _⟩ | ⟨g', cap', cur, h', hb, hg, hnc, hcm, hcs, htake⟩
 ·
  cases h'
 injection h' with h' _ h'';injection h' with h';injection h' with h' _;subst h' h'';have hN : n * sz ≤ cur.size := by rw [hcs]; exact Nat.mul_le_mul_right _ hnc
 refine ⟨cur, hg, hN, ⟨?_, .inr ⟨g, cap, _, rfl, hb, setRow_heap w g cur _ e (0, 0) hg, hnc, hcm, ?_, ?_⟩⟩, ⟨rfl, rfl, rfl, by simp, fun k _ hk => setRow_other w g k _ (fun e => hk (by rw [e]))⟩⟩
 ·
  simp only [List.length_append, List.length_take, List.length_drop, hx]; omega
 ·
  simp only [List.size_toArray, List.length_append, List.length_take, List.length_drop, Array.length_toList]; omega
 have e1 : xs.take o = cur.toList.take o := by rw [← htake, List.take_take, Nat.min_eq_left (by omega)]
 have e2 : xs.drop (o + vs.length) = (cur.toList.drop (o + vs.length)).take (n * sz - (o + vs.length)) := by rw [← htake, List.drop_take]
 rw [e1, e2];have l1 : (cur.toList.take o ++ vs).length = o + vs.length := by rw [List.length_append, List.length_take, Array.length_toList]; omega
 rw [List.take_append, List.take_of_length_le (l := cur.toList.take o ++ vs) (by rw [l1]; exact ho), l1]
theorem zE2 (g n cap B : Nat) (d : List It) (w : World) (hown : w.ownsRow B 49 4 (.slice (some ⟨g, 0, none⟩) n cap) n (zL d)) (hn : d.length = n) (hs : n ≤ 1000000) :
  Calls Tryz.prog 197 #[.slice (some ⟨g, 0, none⟩) n cap, .int .i64 (n : Int), .func (.func 174) #[] #[]] w fun e w' => e = .returned (.tuple #[]) ∧ Left w g n cap 0 n B d w' := by
 have HO := zh hown;have hgr : w.grownBy w (some g) := ⟨rfl, rfl, rfl, Nat.le_refl _, fun _ _ _ => rfl⟩
 have HG := zh hgr;have HN := zh hn;have HL := zh (fun q (h : Moved d q 0 n) => h.len.trans hn);clear hown hgr hn
 go_enter Tryz.func197, Tryz.ntmps197
 go_wp2_with fail
 go_loopw [7, 8] (fun av bv wr => ∃ (k a : Nat) (q : List It), av = .int .i64 (a : Int) ∧ bv = .int .i64 ((a : Int) + 20) ∧ Hid (a = k * 20) ∧ a ≤ n ∧ Blk q 20 0 a ∧ Moved d q 0 n ∧ wr.ownsRow B 49 4 (.slice (some ⟨g, 0, none⟩) n cap) n (zL q) ∧ w.grownBy wr (some g)) (fun av _ _ => n - (intOf av).toNat)
 case atStart => exact ⟨0, 0, d, by go_num, by go_num, (rfl : (0 : Nat) = 0 * 20), by omega, Blk.none _ _ _, Moved.refl _ _ _, HO.out, HG.out⟩
 obtain ⟨k, a, q, rfl, rfl, HK, han, hb, hm, ho, hg⟩ := hrel;have Hb := zh hb;have Hm := zh hm;have Ho := zh ho;have Hg := zh hg;clear hb hm ho hg
 by_cases hlt : a + 20 ≤ n
 ·
  have HC := zh (tv g n cap a (a + 20) B q wr Ho.out (HL.out q Hm.out) hs (by omega) hlt);have e1 : ((a + 20 : Nat) : Int) = (a : Int) + 20 := by omega
  rw [e1] at HC;clear e1;have hle : (a : Int) + 20 ≤ (n : Int) := by omega
  go_wp2_with fail;refine HC.out.mono ?_; rintro _ w2 ⟨rfl, q2, hown2, hm2, hn2, hgr2⟩;have HO2 := zh hown2;have HM2 := zh (Hm.out.trans (hm2.wide (Nat.zero_le _) (by omega) hlt));have HB2 := zh ((Hb.out.keep hm2 (Or.inl (Nat.le_refl _))).more HK.out hn2);have HG2 := zh (zm Hg.out hgr2);have HK2 := zh (show a + 20 = (k + 1) * 20 by rw [HK.out]; omega);clear hown2 hm2 hn2 hgr2;go_wp2_with fail;exact ⟨⟨k + 1, a + 20, q2, by go_num, by go_num, HK2, hlt, HB2.out, HM2.out, HO2.out, HG2.out⟩, by simp [intOf]; omega⟩
 have hle : ¬ (a : Int) + 20 ≤ (n : Int) := by omega
 have HC := zh (tv g n cap a n B q wr Ho.out (HL.out q Hm.out) hs han (Nat.le_refl _));go_wp2_with fail;refine HC.out.mono ?_; rintro _ w2 ⟨rfl, q2, hown2, hm2, hn2, hgr2⟩;have HO2 := zh hown2;have HM2 := zh (Hm.out.trans (hm2.wide (Nat.zero_le _) han (Nat.le_refl _)));have HB2 := zh ((Hb.out.keep hm2 (Or.inl (Nat.le_refl _))).more HK.out hn2);have HG2 := zh (zm Hg.out hgr2);clear hown2 hm2 hn2 hgr2 hle hlt;clear HK Hb Hm Ho Hg HC;go_wp2_with fail
 go_loopw [6] (fun sv wr => ∃ (bs : Nat) (q : List It), sv = .int .i64 (bs : Int) ∧ 0 < bs ∧ bs ≤ 2000000 ∧ Blk q bs 0 n ∧ Moved d q 0 n ∧ wr.ownsRow B 49 4 (.slice (some ⟨g, 0, none⟩) n cap) n (zL q) ∧ w.grownBy wr (some g)) (fun sv _ => n - (intOf sv).toNat)
 case atStart => exact ⟨20, q2, by go_num, by omega, by omega, HB2.out, HM2.out, HO2.out, HG2.out⟩
 obtain ⟨bs, q, rfl, hb0, hb1, hb, hm, ho, hg⟩ := hrel;have Hb := zh hb;have Hm := zh hm;have Ho := zh ho;have Hg := zh hg;clear hb hm ho hg
 by_cases hlt : bs < n
 ·
  go_wp2_with fail
  go_loopw [7, 8] (fun av bv wr => ∃ (k a : Nat) (q : List It), av = .int .i64 (a : Int) ∧ bv = .int .i64 ((a : Int) + 2 * (bs : Int)) ∧ Hid (a = k * (2 * bs)) ∧ a ≤ n ∧ Blk q (2 * bs) 0 a ∧ Blk q bs a n ∧ Moved d q 0 n ∧ wr.ownsRow B 49 4 (.slice (some ⟨g, 0, none⟩) n cap) n (zL q) ∧ w.grownBy wr (some g)) (fun av _ _ => n - (intOf av).toNat)
  case atStart => exact ⟨0, 0, q, by go_num, by go_num, (Nat.zero_mul _).symm, by omega, Blk.none _ _ _, Hb.out, Hm.out, Ho.out, Hg.out⟩
  obtain ⟨k, a, r, rfl, rfl, HK, han, hb, hc, hm, ho, hg⟩ := hrel;have hK2 : k * 2 * bs = a := by rw [HK.out, Nat.mul_assoc]
  have hK3 : (k * 2 + 1) * bs = a + bs := by rw [Nat.succ_mul (k * 2) bs, hK2]
  have HK4 := zh (show a + 2 * bs = (k + 1) * (2 * bs) by rw [Nat.succ_mul k (2 * bs), ← HK.out]);have Hn1 := zh (show a + bs ≤ n → NdI r a (a + bs) from fun h => hc.nd (k := k * 2) (Nat.le_refl _) h (by omega) (by omega));have Hn2 := zh (show ∀ b, a + bs ≤ b → b ≤ n → b ≤ a + 2 * bs → NdI r (a + bs) b from fun b h h' h'' => hc.nd (k := k * 2 + 1) (by omega) h' (by omega) (by omega));have Hn3 := zh (show n ≤ a + bs → NdI r a n from fun h => hc.nd (k := k * 2) (Nat.le_refl _) (Nat.le_refl _) (by omega) (by omega));have Hb := zh hb;have Hc := zh hc;have Hm := zh hm;have Ho := zh ho;have Hg := zh hg;clear hb hc hm ho hg hK2 hK3
  by_cases hle : a + 2 * bs ≤ n
  ·
   have HC := zh (zC0 g n cap B hs (2 * bs) a (a + bs) (a + 2 * bs) r wr (by omega) Ho.out (HL.out r Hm.out) (by omega) (by omega) hle (Hn1.out (by omega)) (Hn2.out _ (by omega) hle (Nat.le_refl _)));have e1 : ((a + bs : Nat) : Int) = (a : Int) + (bs : Int) := by omega
   have e2 : ((a + 2 * bs : Nat) : Int) = (a : Int) + 2 * (bs : Int) := by omega
   rw [e1, e2] at HC;clear e1 e2;have hle' : (a : Int) + 2 * (bs : Int) ≤ (n : Int) := by omega
   go_wp2_with fail;refine HC.out.mono ?_; rintro _ w2 ⟨rfl, q2, hown2, hm2, hn2, hgr2⟩;have HO2 := zh hown2;have HM2 := zh (Hm.out.trans (hm2.wide (Nat.zero_le _) (by omega) hle));have HB2 := zh ((Hb.out.keep hm2 (Or.inl (Nat.le_refl _))).more HK.out hn2);have HC2 := zh ((Hc.out.sub (lo' := a + 2 * bs) (hi' := n) (by omega) (Nat.le_refl _)).keep hm2 (Or.inr (Nat.le_refl _)));have HG2 := zh (zm Hg.out hgr2);clear hown2 hm2 hn2 hgr2;go_wp2_with fail;exact ⟨⟨k + 1, a + 2 * bs, q2, by go_num, by go_num, HK4, hle, HB2.out, HC2.out, HM2.out, HO2.out, HG2.out⟩, by simp [intOf]; omega⟩
  have hle' : ¬ (a : Int) + 2 * (bs : Int) ≤ (n : Int) := by omega
  by_cases hmn : a + bs < n
  ·
   have HC := zh (zC0 g n cap B hs (2 * bs) a (a + bs) n r wr (by omega) Ho.out (HL.out r Hm.out) (by omega) hmn (Nat.le_refl _) (Hn1.out (by omega)) (Hn2.out _ (by omega) (Nat.le_refl _) (by omega)));have e1 : ((a + bs : Nat) : Int) = (a : Int) + (bs : Int) := by omega
   rw [e1] at HC;clear e1;have hmn' : (a : Int) + (bs : Int) < (n : Int) := by omega
   go_wp2_with fail;refine HC.out.mono ?_; rintro _ w2 ⟨rfl, q2, hown2, hm2, hn2, hgr2⟩;have HO2 := zh hown2;have HM2 := zh (Hm.out.trans (hm2.wide (Nat.zero_le _) han (Nat.le_refl _)));have HB2 := zh ((Hb.out.keep hm2 (Or.inl (Nat.le_refl _))).more HK.out hn2);have HG2 := zh (zm Hg.out hgr2);clear hown2 hm2 hn2 hgr2;go_wp2_with fail;exact ⟨⟨2 * bs, q2, by go_num, by omega, by omega, HB2.out, HM2.out, HO2.out, HG2.out⟩, by simp [intOf]; omega⟩
  have hmn' : ¬ (a : Int) + (bs : Int) < (n : Int) := by omega
  have HB2 := zh (Hb.out.more HK.out (Hn3.out (by omega)));go_wp2_with fail;exact ⟨⟨2 * bs, r, by go_num, by omega, by omega, HB2.out, Hm.out, Ho.out, Hg.out⟩, by simp [intOf]; omega⟩
 have HW := zh (Hb.out.whole (by omega));go_wp2_with fail;go_end0;exact ⟨rfl, q, Ho.out, Hm.out, HW.out, Hg.out⟩
theorem zBQ (g n cap B : Nat) (d : List It) (w : World) (hown : w.ownsRow B 49 4 (.slice (some ⟨g, 0, none⟩) n cap) n (zL d)) (hn : d.length = n) (hs : n ≤ 1000000) :
  Calls Tryz.prog 173 #[.slice (some ⟨g, 0, none⟩) n cap, .func (.func 174) #[] #[]] w fun e w' => e = .returned (.tuple #[]) ∧ Left w g n cap 0 n B d w' := by
 have HC := zh (zE2 g n cap B d w hown hn hs);clear hown hn
 go_enter Tryz.func173, Tryz.ntmps173
 go_wp2_with fail;refine HC.out.mono ?_; rintro _ w2 ⟨rfl, hl⟩;have HL := zh hl;clear hl;go_wp2_with fail;go_end0;exact ⟨rfl, HL.out⟩
theorem zKh {w : World} {B g n cap : Nat} {q : List It} (h : w.ownsRow B 49 4 (.slice (some ⟨g, 0, none⟩) n cap) n (zL q)) (hq : q.length = n) (k : Nat) (hk : k < n) {sa : Addr} {sc : Nat} {x : It} (hs : Rd w 4 (.slice (some sa) 1 sc) 1 (itC x)) :
  ∃ w', (∀ ty, (Builtin.append_ #[33, 33] ty #[.slice (some ⟨g, 0, none⟩) k cap, .slice (some sa) 1 sc]).run Tryz.prog w = .ok (.slice (some ⟨g, 0, none⟩) (k + 1) cap) w') ∧
   w'.ownsRow B 49 4 (.slice (some ⟨g, 0, none⟩) n cap) n (zL (q.set k x)) ∧ w.grownBy w' (some g) := by
 obtain ⟨cur, hg, hN, h1, h2⟩ := zFG h (k * 4) (itC x) (by rw [wM]; omega);obtain ⟨ht, hsz, i, z, hi, hz, hs4, hby, hzs⟩ := yA;obtain ⟨_, a', cap', e, _, _, _, hc⟩ := hs;injection e with e1 e2 e3;obtain ⟨b, off, e4, hcell⟩ := hc (by rw [wM]; omega);rw [← e1] at e4;injection e4 with e4;subst e4;have hcap : k + 1 ≤ cap := by
  obtain ⟨_, _, e, hnc, _, _⟩ := zJ h;injection e with _ _ e5;omega
 refine ⟨_, fun ty => run_append_room (P := Tryz.prog) w 33 ty 49 i ht hi g k cap cur hg ⟨b, off, none⟩ 1 sc (itC x) (by rw [hs4]; rfl) (fun j u hj => by rw [yJ]; exact hcell j u hj) (fun u hu => zl [x] u (by rw [yy]; exact hu)) hcap (by rw [hs4, wM]; omega), ?_, ?_⟩
 ·
  rw [hs4];have e : zL (q.set k x) = (zL q).take (k * 4) ++ itC x ++ (zL q).drop (k * 4 + (itC x).length) := by
   rw [List.set_eq_take_append_cons_drop, if_pos (by omega), zp, xX, uA, uE, wM, List.append_assoc]
   congr 3; omega
  rw [e]; exact h1
 rw [hs4]; exact h2
theorem kA {w : World} {ops : Array Oper} {rest : List Oper} {o : Oper} {a : Act} {Q : Exit → Act → World → Prop} (hgd : o.guard = none) (s x : Operand)
  (ho : o.op = .call { callee := .builtin .append, args := #[s, x], argTypes := #[33, 33] }) {B g n cap : Nat} {q : List It} (k : Nat) {sa : Addr} {sc : Nat} {y : It}
  (hs : a.eval s = .slice (some ⟨g, 0, none⟩) k cap) (hx : a.eval x = .slice (some sa) 1 sc) (h : w.ownsRow B 49 4 (.slice (some ⟨g, 0, none⟩) n cap) n (zL q)) (hq : q.length = n) (hk : k < n) (hr : Rd w 4 (.slice (some sa) 1 sc) 1 (itC y))
  (hK : ∀ w', w'.ownsRow B 49 4 (.slice (some ⟨g, 0, none⟩) n cap) n (zL (q.set k y)) → w.grownBy w' (some g) → wpList Tryz.prog ops Q rest (a.put o.dst (.slice (some ⟨g, 0, none⟩) (k + 1) cap)) w') : wpList Tryz.prog ops Q (o :: rest) a w := by
 obtain ⟨w', h1, h2, h3⟩ := zKh h hq k hk hr;exact Lib.wpList_append_run w hgd s x _ _ ho _ _ hs hx _ _ (h1 _) (hK w' h2 h3)
theorem zDm {q : List It} {k i : Nat} {x : It} (h : k ≤ i) : (q.set k x).drop (i + 1) = q.drop (i + 1) := List.drop_set_of_lt (by omega)
structure Pass (d out q : List It) (k i : Nat) : Prop where
 all : out ++ vr (d.drop i) = vr d
 pre : q.take k = out
 rest : q.drop i = d.drop i
 le : k ≤ i
 len : q.length = d.length
theorem Pass.keep {d out q : List It} {k i : Nat} (h : Pass d out q k i) (hi : i < d.length) (hk : i + 1 = d.length ∨ (iat d (i + 1)).key ≠ (iat d i).key) : Pass d (out ++ [iat d i]) (q.set k (iat d i)) (k + 1) (i + 1) := by
 have hle := h.le;have hql := h.len;refine ⟨?_, ?_, ?_, by omega, by rw [List.length_set]; exact h.len⟩
 ·
  rw [List.append_assoc, ← h.all]
  congr 1
  by_cases e : i + 1 = d.length
  ·
   exact (zHz e).symm
  exact (zHO (by omega) (by rcases hk with hk | hk; exact absurd hk e; exact hk)).symm
 ·
  rw [vm q k _ (by omega), h.pre]
 rw [zDm hle, ← List.drop_drop, h.rest, List.drop_drop]
theorem Pass.skip {d out q : List It} {k i : Nat} (h : Pass d out q k i) (hi : i + 1 < d.length) (hk : (iat d (i + 1)).key = (iat d i).key) : Pass d out q k (i + 1) := by
 have hle := h.le;refine ⟨?_, h.pre, ?_, by omega, h.len⟩
 ·
  rw [← h.all, zGR hi hk]
 rw [← List.drop_drop, h.rest, List.drop_drop]
theorem Pass.at {d out q : List It} {k i j : Nat} (h : Pass d out q k i) (hj : i ≤ j) : iat q j = iat d j := by
 have h1 := xS q i (j - i);have h2 := xS d i (j - i);rw [h.rest, h2, show i + (j - i) = j by omega] at h1;exact h1.symm
theorem zFH (l : List It) (ha : kP l = false) (hs : l.length ≤ 1000000) : wC l := by
 intro v w h;have HC := zh (kU v l w h hs);have HA := zh (fun v w h => zCP v l w h);rw [ha] at HA;have hpos : 0 < l.length := by
  cases l with
  | nil => cases ha
  | cons x r => simp
 have HS := zh (fun d (hm : Moved l d 0 l.length) (hn : NdI d 0 l.length) => zJR (l := l) (d := d) (hm.stb (Nat.zero_le _)) (by rw [hm.len]; exact hn));obtain ⟨a, cap, rfl, h1, h2⟩ := h.shape;have HML := zh (fun d (hm : Moved l d 0 l.length) => hm.len);have HSS := zh (fun g cap B w h => zBQ g l.length cap B l w h rfl hs);have HOT := zh (fun w B v (h : OwnT w B v l) => show w.ownsRow B 49 4 v l.length (zL l) from h);generalize hn : l.length = n at *;clear h ha hn
 go_enter Tryz.func135, Tryz.ntmps135
 go_wp2_with fail;refine HC.out.mono ?_; rintro e w1 ⟨v1, rfl, hown1, hb1⟩;have HO := zh hown1;have HB := zh hb1;clear hown1 hb1;go_wp2_with fail;refine (HA.out _ _ HO.out.rd).mono ?_; rintro e w2 ⟨rfl, hb2⟩;have HO2' := zh (HOT.out _ _ _ (zH HO.out hb2));have HB2 := zh (zA HB.out hb2);clear hb2;obtain ⟨oa, oc, rfl, ho1, ho2, _⟩ := zJ HO2'.out;obtain ⟨g, rfl⟩ : ∃ g, oa = some ⟨g, 0, none⟩ := by
  rcases HO2'.out.2 with ⟨e, h0⟩ | ⟨g, _, _, e, _⟩
  ·
   injection e with _ e _; omega
  injection e with e; exact ⟨g, e⟩
 have hgw := (HO2'.out.lt g rfl).1;clear HO;go_wp2_with fail;refine (HSS.out g oc w.heap.size w2 HO2'.out).mono ?_; rintro e w3 ⟨rfl, d, hown3, hm3, hn3, hgr3⟩;have HO3 := zh hown3;have HD := zh (HS.out d hm3 hn3);have HL := zh (HML.out d hm3);have HB3 := zh (HB2.out.grown hgr3 HB2.out.size (by intro r hr; injection hr with hr; omega));clear hown3 hm3 hn3 hgr3 HO2' HB2;have hto := yU (P := Tryz.prog) yA (a := some ⟨g, 0, none⟩) (n := n) (cap := oc) (fun x hx => ⟨g, 0, by injection hx with hx; exact hx.symm⟩) 0 (by omega);have hoc : oc ≤ 9223372036854775807 := by unfold maxLen at ho2; omega
 go_wp2_with fail
 go_loopw [3, 17] (fun ov iv wr => ∃ (k i : Nat) (out q : List It), ov = .slice (some ⟨g, 0, none⟩) k oc ∧ iv = .int .i64 (i : Int) ∧ i ≤ n ∧ Pass d out q k i ∧ wr.ownsRow w.heap.size 49 4 (.slice (some ⟨g, 0, none⟩) n oc) n (zL q) ∧ Below w.heap.size w wr) (fun _ iv _ => n - (intOf iv).toNat)
 case atStart => exact ⟨0, 0, [], d, by rfl, by go_num, by omega, ⟨by simp, rfl, rfl, Nat.le_refl _, rfl⟩, HO3.out, HB3.out⟩
 obtain ⟨k, i, out, q, rfl, rfl, hi, hp, ho, hb⟩ := hrel;have hki := hp.le;have Hp := zh hp;have Ho := zh ho;have Hb := zh hb;have hB := hb.size;have hgr := (ho.lt g rfl).2;have hqn := zh (hp.len.trans HL.out);clear hp ho hb
 by_cases hlt : i < n
 ·
  obtain ⟨_, _, e, c0, c1, c2, c3⟩ := (yS (zv Ho.out)).at hlt;injection e with e; injection e with e1 e2; subst e1 e2;simp only [Nat.zero_add] at c0 c1 c2 c3;rw [Hp.out.at (Nat.le_refl _)] at c0 c1 c2 c3;have HKeep := zh (Hp.out.keep (by rw [HL.out]; exact hlt));have HSkip := zh (fun h : i + 1 < n => Hp.out.skip (by rw [HL.out]; exact h));have j1 : IntKind.i64.wrap ((i : Int) + 1) = (i : Int) + 1 := IntWalk.i64_in _ (by omega)
  by_cases hend : i + 1 = n
  ·
   have hd : ((i : Int) + 1 == (n : Int)) = true := beq_iff_eq.2 (by omega);have HK2 := zh (HKeep.out (Or.inl (by rw [HL.out]; exact hend)));generalize iat d i = x at *;go_wp2_with fail
   go_quiet (fail)
   obtain ⟨W, hW⟩ : ∃ W, (wr.alloc (.cells #[.int .u64 x.key, .int .u32 x.ck, .int .i64 x.off, .int .i64 x.size] 49)).drewN nq = W := ⟨_, rfl⟩
   have HBW := zh (show Below wr.heap.size wr W by rw [← hW]; exact below_drewN ((Below.refl _ _).alloc (Nat.le_refl _) _) _);have x0 : W.cell? ⟨wr.heap.size, 0, none⟩ = some (.int .u64 x.key) := by rw [← hW]; simp
   have x1 : W.cell? ⟨wr.heap.size, 1, none⟩ = some (.int .u32 x.ck) := by rw [← hW]; simp
   have x2 : W.cell? ⟨wr.heap.size, 2, none⟩ = some (.int .i64 x.off) := by rw [← hW]; simp
   have x3 : W.cell? ⟨wr.heap.size, 3, none⟩ = some (.int .i64 x.size) := by rw [← hW]; simp
   rw [hW];clear hW c0 c1 c2 c3 j1 hd;have HOW := zh (zH Ho.out HBW.out);have HbW := zh (zA Hb.out HBW.out);have hW1 := HbW.out.size;go_wp2_with (at_builtin; go_must (refine kA rfl (.tmp 38) (.tmp 40) rfl k rfl rfl (HOW.out.alloc _) hqn.out (by omega) (Rd.new _ 4 (itC x) 49 1 rfl (by decide)) ?_); intro w4 hown4 hgr4);have HO4 := zh hown4;have HB4 := zh ((HbW.out.alloc hW1 _).grown hgr4 (by simp; omega) (by intro r hr; injection hr with hr; omega));clear hown4 hgr4;go_wp2_with fail;exact ⟨⟨k + 1, i + 1, _, _, rfl, by go_num, by omega, HK2.out, HO4.out, HB4.out⟩, by simp [intOf]; omega⟩
  have hd : ((i : Int) + 1 == (n : Int)) = false := beq_eq_false_iff_ne.2 (by omega);have hi1 : i + 1 < n := by omega
  have i2 : (i : Int) + 1 < (n : Int) := by omega
  have i3 : (0 : Int) ≤ (i : Int) + 1 := by omega
  have i4 : ((i : Int) + 1).toNat = i + 1 := by omega
  obtain ⟨_, _, e, d0, _, _, _⟩ := (yS (zv Ho.out)).at hi1;injection e with e; injection e with e1 e2; subst e1 e2;simp only [Nat.zero_add] at d0;rw [Hp.out.at (Nat.le_succ _)] at d0;have HKk := zh (fun h => HKeep.out (Or.inr h));have HSk := zh (HSkip.out hi1);generalize (iat d (i + 1)).key = y at *;have hne : ∀ o n, ((wr.alloc o).drewN n).cell? ⟨g, (i + 1) * 4, none⟩ = some (.int .u64 y) := fun o n => Below.keeps (below_drewN ((Below.refl _ _).alloc (Nat.le_refl _) o) n) _ _ d0
  by_cases hyx : y = (iat d i).key
  ·
   have HS2 := zh (HSk.out hyx);generalize iat d i = x at *;have hd2 : (y != x.key) = false := by rw [hyx]; simp
   clear hyx;go_wp2_with fail
   go_quiet (fail)
   have HBW := zh (show Below wr.heap.size wr ((wr.alloc (.cells #[.int .u64 x.key, .int .u32 x.ck, .int .i64 x.off, .int .i64 x.size] 49)).drewN nq) from below_drewN ((Below.refl _ _).alloc (Nat.le_refl _) _) _);clear j1 hd i2 i3 i4;go_wp2_with fail;exact ⟨⟨k, i + 1, _, _, rfl, by go_num, by omega, HS2.out, zH Ho.out HBW.out, zA Hb.out HBW.out⟩, by simp [intOf]; omega⟩
  have HK2 := zh (HKk.out hyx);have hd2 : (y != (iat d i).key) = true := bne_iff_ne.2 hyx;clear hyx;generalize iat d i = x at *;go_wp2_with fail
  go_quiet (fail)
  obtain ⟨W, hW⟩ : ∃ W, (wr.alloc (.cells #[.int .u64 x.key, .int .u32 x.ck, .int .i64 x.off, .int .i64 x.size] 49)).drewN nq = W := ⟨_, rfl⟩
  have HBW := zh (show Below wr.heap.size wr W by rw [← hW]; exact below_drewN ((Below.refl _ _).alloc (Nat.le_refl _) _) _);have x0 : W.cell? ⟨wr.heap.size, 0, none⟩ = some (.int .u64 x.key) := by rw [← hW]; simp
  have x1 : W.cell? ⟨wr.heap.size, 1, none⟩ = some (.int .u32 x.ck) := by rw [← hW]; simp
  have x2 : W.cell? ⟨wr.heap.size, 2, none⟩ = some (.int .i64 x.off) := by rw [← hW]; simp
  have x3 : W.cell? ⟨wr.heap.size, 3, none⟩ = some (.int .i64 x.size) := by rw [← hW]; simp
  rw [hW];clear hW c0 c1 c2 c3 j1 hd i2 i3 i4 hd2 d0 hne;have HOW := zh (zH Ho.out HBW.out);have HbW := zh (zA Hb.out HBW.out);have hW1 := HbW.out.size;go_wp2_with (at_builtin; go_must (refine kA rfl (.tmp 38) (.tmp 40) rfl k rfl rfl (HOW.out.alloc _) hqn.out (by omega) (Rd.new _ 4 (itC x) 49 1 rfl (by decide)) ?_); intro w4 hown4 hgr4);have HO4 := zh hown4;have HB4 := zh ((HbW.out.alloc hW1 _).grown hgr4 (by simp; omega) (by intro r hr; injection hr with hr; omega));clear hown4 hgr4;go_wp2_with fail;exact ⟨⟨k + 1, i + 1, _, _, rfl, by go_num, by omega, HK2.out, HO4.out, HB4.out⟩, by simp [intOf]; omega⟩
 obtain rfl : i = n := by omega
 have HE := zh (show out = srt l by
  have h := Hp.out.all
  rw [List.drop_eq_nil_of_le (by rw [HL.out]; exact Nat.le_refl _), show vr [] = [] from rfl, List.append_nil] at h
  exact h.trans HD.out)
 have HT := zh (vG Ho.out k hki);have HPr := zh Hp.out.pre;go_wp2_with fail;go_ret;exact ⟨_, rfl, yE HT.out (by rw [← xX, HPr.out, HE.out]), Hb.out⟩
theorem xt (l : List It) (hs : l.length ≤ 1000000) : wC l := by
 cases ha : kP l with
 | true => exact zFP l ((uO l).1 ha) hs
 | false => exact zFH l ha hs
theorem zGs (v : Value) (l : List It) (key : Int) (w : World) (h : RdT w v l) (hs : l.length ≤ 1000000) :
  Calls Tryz.prog 165 #[v, .int .u64 key] w fun e w' => e = .returned (.tuple #[itV ((fnd (srt l) key).getD it0), .bool (fnd (srt l) key).isSome]) ∧ Below w.heap.size w w' := by
 obtain ⟨a, cap, rfl, _, _⟩ := h.shape;have HA := zh (fun r (h1 : r < l.length) h2 h3 => zJ4 (l := l) (key := key) (r := r) h1 h2 h3);have HN := zh (fun h => zG0 (l := l) (key := key) h);generalize fnd (srt l) key = ff at *;generalize hn : l.length = n at *;have Hr := zh h;have HW := zh (show Below w.heap.size w (w.alloc (.cells #[.int .u64 0, .int .u32 0, .int .i64 0, .int .i64 0] 49)) from zu w it0);have HX := zh (BoxT.new w it0);clear h hn
 go_enter Tryz.func165, Tryz.ntmps165
 go_wp2_with fail
 go_loop [6] (fun iv => ∃ i : Nat, iv = .int .i64 ((i : Int) - 1) ∧ i ≤ n ∧ Hid (∀ j, i ≤ j → j < n → (iat l j).key ≠ key)) (fun iv => (intOf iv + 1).toNat)
 case atStart => exact ⟨n, by go_num, Nat.le_refl _, fun j h1 h2 => by omega⟩
 obtain ⟨i, rfl, hi, hno⟩ := hrel
 by_cases h0 : 0 < i
 ·
  obtain ⟨r, rfl⟩ : ∃ r, i = r + 1 := ⟨i - 1, by omega⟩
  obtain ⟨b, off, rfl, c0, c1, c2, c3⟩ := (Hr.out.below HW.out).at (show r < n by omega);have e0 : ((r + 1 : Nat) : Int) - 1 = (r : Int) := by omega
  have i1 : (r : Int) < (n : Int) := by omega
  by_cases hk : (iat l r).key = key
  ·
   have HF := zh (HA.out r (by omega) hk (fun j h1 h2 => hno.out j (by omega) h2));have hd : ((iat l r).key == key) = true := beq_iff_eq.2 hk;rw [e0];generalize iat l r = x at *;clear hk e0 h0;go_wp2_with fail;exact bodyPost_ret (v := .tuple #[itV x, .bool true]) (by simp [results, Tryz.results165, go_sem]) rfl ⟨by rw [HF.out]; rfl, zu w x⟩
  have hd : ((iat l r).key == key) = false := beq_eq_false_iff_ne.2 hk;have HK := zh hk;rw [e0];generalize hx : (iat l r).key = x at *;have HX2 := zh hx;clear hk e0 h0 hx;go_wp2_with fail;refine ⟨⟨r, by go_num, by omega, fun j h1 h2 => ?_⟩, by simp [intOf]⟩
  by_cases e : j = r
  ·
   rw [e, HX2.out]; exact HK.out
  exact hno.out j (by omega) h2
 obtain rfl : i = 0 := by omega
 have HF := zh (HN.out (fun j hj => hno.out j (Nat.zero_le _) hj));go_wp2_with fail;exact bodyPost_ret (v := .tuple #[itV it0, .bool false]) (by simp [results, Tryz.results165, go_sem, it0]) rfl ⟨by rw [HF.out]; rfl, zu w it0⟩
theorem qK (W : World) (x : It) : Rd (W.alloc (yq x)) 4 (.slice (some ⟨W.heap.size, 0, none⟩) 1 1) 1 (itC x) := Rd.new W 4 (itC x) 49 1 rfl (by decide)
theorem zGf (v : Value) (l : List It) (key : Int) (w : World) (h : RdT w v l) (hs : l.length ≤ 1000000) :
  Calls Tryz.prog 126 #[v, .int .u64 key] w fun e w' => ∃ v', e = .returned v' ∧ OwnT w' w.heap.size v' (drp (srt l) key) ∧ Below w.heap.size w w' := by
 have HS := zh (tS v l w h hs);have hsl := yN l;obtain ⟨a, cap, rfl, _, _⟩ := h.shape;generalize srt l = s at *;have HD := zh (fun i (h : i < s.length) => show drp (s.take (i + 1)) key = drp (s.take i) key ++ if (iat s i).key = key then [] else [iat s i] by rw [yj h, zIU]);have HE := zh (show drp (s.take s.length) key = drp s key by rw [List.take_length]);have HL := zh (fun i => show (drp (s.take i) key).length ≤ s.length from Nat.le_trans (uI _ _) (by rw [List.length_take]; omega));clear h
 go_enter Tryz.func126, Tryz.ntmps126
 go_wp2_with fail;refine HS.out.mono ?_; rintro e w1 ⟨v1, rfl, hown1, hb1⟩;have HR := zh hown1.rd;have HB1 := zh hb1;have hB1 := hb1.size;clear hown1 hb1 HS;obtain ⟨sa, sc, rfl, hs1, hs2⟩ := HR.out.shape;have hs3 := kC hs1 hs2;generalize hn : s.length = n at *;clear hn;go_wp2_with fail
 go_loopw [5, 6] (fun ov iv wr => ∃ i : Nat, iv = .int .i64 (i : Int) ∧ i ≤ n ∧ OwnT wr w1.heap.size ov (drp (s.take i) key) ∧ Below w1.heap.size w1 wr) (fun _ iv _ => n - (intOf iv).toNat)
 case atStart => exact ⟨0, by go_num, by omega, World.ownsRow_nil _ _ _ _, Below.refl _ _⟩
 obtain ⟨i, rfl, hi, hown, hb⟩ := hrel;have HO := zh (show wr.ownsRow w1.heap.size 49 4 _ (drp (s.take i) key).length (zL (drp (s.take i) key)) from hown);have Hb := zh hb;have hB := hb.size;clear hown hb
 by_cases hlt : i < n
 ·
  obtain ⟨b, off, rfl, c0, c1, c2, c3⟩ := (HR.out.below Hb.out).at hlt;have i1 : (i : Int) < (n : Int) := by omega
  have HDi := zh (HD.out i hlt);have hLi := HL.out i
  by_cases hk : (iat s i).key = key
  ·
   have hd : ((iat s i).key != key) = false := by rw [hk]; simp
   rw [if_pos hk, List.append_nil] at HDi;generalize iat s i = x at *;clear hk;go_wp2_with fail;exact ⟨⟨i + 1, by go_num, by omega, by rw [HDi.out]; exact HO.out, Hb.out⟩, by simp [intOf]; omega⟩
  have hd : ((iat s i).key != key) = true := bne_iff_ne.2 hk;rw [if_neg hk] at HDi;generalize iat s i = x at *;generalize drp (s.take i) key = o at *;clear hk;go_wp2_with (at_builtin; go_must (refine za (m := 1) (n := o.length) rfl (.tmp 22) (.tmp 27) 33 rfl yA w1.heap.size rfl (HO.out.alloc _) rfl (qK wr x) (zl [x]) (by unfold maxLen; omega) (by omega) (by simp; omega) ?_); intro v8 w8 hown8 hgr8 hv8; clear hv8);have HO8 := zh (show OwnT w8 w1.heap.size v8 (o ++ [x]) from yE hown8 (by simp only [zp, yy]));have HB8 := zh (zK (Hb.out.alloc hB (yq x)) (HO.out.alloc (yq x)) (by simp; omega) hgr8);clear hown8 hgr8;go_wp2_with fail;exact ⟨⟨i + 1, by go_num, by omega, by rw [HDi.out]; exact HO8.out, HB8.out⟩, by simp [intOf]; omega⟩
 obtain rfl : i = n := by omega
 go_wp2_with fail;go_ret;exact ⟨_, rfl, by rw [← HE.out]; exact HO.out.mono hB1, HB1.out.trans (Hb.out.mono hB1)⟩
theorem zIv (v : Value) (l : List It) (x : It) (w : World) (h : RdT w v l) (hs : l.length ≤ 1000000) :
  Calls Tryz.prog 128 #[v, itV x] w fun e w' => ∃ v', e = .returned v' ∧ OwnT w' w.heap.size v' (ins (srt l) x) ∧ Below w.heap.size w w' := by
 have HS := zh (fun w h => tS v l w h hs);have HBX := zh (BoxT.new w x);have HB0 := zh (zu w x);have Hr := zh (h.below HB0.out);have hsl := yN l;have hsa := zh (wU l);obtain ⟨a, cap, rfl, _, _⟩ := h.shape;generalize srt l = s at *;have HE1 := zh (fun out (h : PutW s x s.length true out) => h.end1);have HE0 := zh (fun out (h : PutW s x s.length false out) => h.end0);have HLow := zh (fun i out (h : PutW s x i false out) (hi : i < s.length) => h.low hi);have HHere := zh (fun i out (h : PutW s x i false out) (hi : i < s.length) => h.here hi);have HAhead := zh (fun i out (h : PutW s x i false out) (hi : i < s.length) => h.ahead hi);have HMore := zh (fun i out (h : PutW s x i true out) (hi : i < s.length) => h.more hi);have HGt := zh (fun i out (h : PutW s x i true out) (hi : i < s.length) => h.gt hsa.out hi);clear h
 go_enter Tryz.func128, Tryz.ntmps128
 go_wp2_with fail;refine (HS.out _ Hr.out).mono ?_; rintro e w1 ⟨v1, rfl, hown1, hb1⟩;have HR := zh hown1.rd;have HX1 := zh (HBX.out.below hb1);have HB1 := zh (zA HB0.out hb1);have hB1 := HB1.out.size;clear hown1 hb1 HS HBX HB0;obtain ⟨sa, sc, rfl, hs1, hs2⟩ := HR.out.shape;have hs3 := kC hs1 hs2;generalize hn : s.length = n at *;clear hn;go_wp2_with fail
 go_loopw [5, 6, 7] (fun ov dv iv wr => ∃ (i : Nat) (d : Bool) (out : List It), dv = .bool d ∧ iv = .int .i64 (i : Int) ∧ i ≤ n ∧ Hid (PutW s x i d out) ∧ OwnT wr w1.heap.size ov out ∧ Below w1.heap.size w1 wr) (fun _ _ iv _ => n - (intOf iv).toNat)
 case atStart => exact ⟨0, false, [], rfl, by go_num, by omega, PutW.start s x, World.ownsRow_nil _ _ _ _, Below.refl _ _⟩
 obtain ⟨i, d, out, rfl, rfl, hi, HP, hown, hb⟩ := hrel;have HO := zh (show wr.ownsRow w1.heap.size 49 4 _ out.length (zL out) from hown);have Hb := zh hb;have hB := hb.size;have hlo := HP.out.len;obtain ⟨x0, x1, x2, x3⟩ := HX1.out.below hb;clear hown hb
 by_cases hlt : i < n
 ·
  obtain ⟨b, off, rfl, c0, c1, c2, c3⟩ := (HR.out.below Hb.out).at hlt;have i1 : (i : Int) < (n : Int) := by omega
  have HXr := zh (HX1.out.below Hb.out);have HYx := zh (show ∃ y, iat s i = y from ⟨_, rfl⟩);obtain ⟨y, hy⟩ := HYx.out;have HY := zh hy;have Hbwr := Hb;have HOwr := HO;rw [hy] at c0 c1 c2 c3
  cases d with
  | true =>
   have HG := HGt.out i out HP.out hlt;have HM := zh (HMore.out i out HP.out hlt);rw [hy] at HG HM;have hd : (y.key != x.key) = true := bne_iff_ne.2 (by omega);clear hy HYx HG Hb HO;go_wp2_with fail
   go_quiet (fail)
   obtain ⟨wa, hW, hBwa⟩ : ∃ wa, wr.drewN nq = wa ∧ Below wr.heap.size wr wa := ⟨_, rfl, below_drewN (Below.refl _ _) _⟩
   rw [hW];clear hW;have Hbwa := zh (zA Hbwr.out hBwa);have HOwa := zh (zH HOwr.out hBwa);clear c0 c1 c2 c3 x0 x1 x2 x3 hBwa;obtain ⟨_, _, e, c0, c1, c2, c3⟩ := (HR.out.below Hbwa.out).at hlt;injection e with e; injection e with e1 e2; subst e1 e2;rw [HY.out] at c0 c1 c2 c3;obtain ⟨x0, x1, x2, x3⟩ := HX1.out.below Hbwa.out;go_wp2_with fail
   go_quiet (fail)
   obtain ⟨wb, hW, hBwb⟩ : ∃ wb, wa.drewN nq = wb ∧ Below wa.heap.size wa wb := ⟨_, rfl, below_drewN (Below.refl _ _) _⟩
   rw [hW];clear hW;have Hbwb := zh (zA Hbwa.out hBwb);have HOwb := zh (zH HOwa.out hBwb);clear c0 c1 c2 c3 x0 x1 x2 x3 hBwb;obtain ⟨_, _, e, c0, c1, c2, c3⟩ := (HR.out.below Hbwb.out).at hlt;injection e with e; injection e with e1 e2; subst e1 e2;rw [HY.out] at c0 c1 c2 c3;obtain ⟨x0, x1, x2, x3⟩ := HX1.out.below Hbwb.out;go_wp2_with (at_builtin; go_must (refine za (m := 1) rfl (.tmp 40) (.tmp 45) 33 rfl yA w1.heap.size rfl (HOwb.out.alloc _) rfl (qK wb y) (zl [y]) (by unfold maxLen; omega) (by omega) (by have := Hbwb.out.size; simp; omega) ?_); intro vwc wc hown8 hgr8 hv8; clear hv8);have HOwc := zh (show wc.ownsRow w1.heap.size 49 4 vwc (out ++ [y]).length (zL (out ++ [y])) from yE hown8 (by simp only [zp, yy]));have Hbwc := zh (zK (Hbwb.out.alloc Hbwb.out.size (yq y)) (HOwb.out.alloc (yq y)) (by have := Hbwb.out.size; simp; omega) hgr8);clear hown8 hgr8;go_wp2_with fail
   exact ⟨⟨i + 1, true, _, rfl, by go_num, by omega, HM, HOwc.out, Hbwc.out⟩, by simp [intOf]; omega⟩
  | false =>
   rcases Int.lt_trichotomy y.key x.key with hk | hk | hk
   ·
    have HM := zh (HLow.out i out HP.out hlt (by rw [hy]; exact hk));rw [hy] at HM;have hd : (y.key != x.key) = true := bne_iff_ne.2 (by omega);have hd2 : decide (x.key ≤ y.key) = false := decide_eq_false (by omega);clear hy HYx hk Hb HO;go_wp2_with fail
    go_quiet (fail)
    obtain ⟨wa, hW, hBwa⟩ : ∃ wa, wr.drewN nq = wa ∧ Below wr.heap.size wr wa := ⟨_, rfl, below_drewN (Below.refl _ _) _⟩
    rw [hW];clear hW;have Hbwa := zh (zA Hbwr.out hBwa);have HOwa := zh (zH HOwr.out hBwa);clear c0 c1 c2 c3 x0 x1 x2 x3 hBwa;obtain ⟨_, _, e, c0, c1, c2, c3⟩ := (HR.out.below Hbwa.out).at hlt;injection e with e; injection e with e1 e2; subst e1 e2;rw [HY.out] at c0 c1 c2 c3;obtain ⟨x0, x1, x2, x3⟩ := HX1.out.below Hbwa.out;go_wp2_with fail
    go_quiet (fail)
    obtain ⟨wb, hW, hBwb⟩ : ∃ wb, wa.drewN nq = wb ∧ Below wa.heap.size wa wb := ⟨_, rfl, below_drewN (Below.refl _ _) _⟩
    rw [hW];clear hW;have Hbwb := zh (zA Hbwa.out hBwb);have HOwb := zh (zH HOwa.out hBwb);clear c0 c1 c2 c3 x0 x1 x2 x3 hBwb;obtain ⟨_, _, e, c0, c1, c2, c3⟩ := (HR.out.below Hbwb.out).at hlt;injection e with e; injection e with e1 e2; subst e1 e2;rw [HY.out] at c0 c1 c2 c3;obtain ⟨x0, x1, x2, x3⟩ := HX1.out.below Hbwb.out;go_wp2_with (at_builtin; go_must (refine za (m := 1) rfl (.tmp 40) (.tmp 45) 33 rfl yA w1.heap.size rfl (HOwb.out.alloc _) rfl (qK wb y) (zl [y]) (by unfold maxLen; omega) (by omega) (by have := Hbwb.out.size; simp; omega) ?_); intro vwc wc hown8 hgr8 hv8; clear hv8);have HOwc := zh (show wc.ownsRow w1.heap.size 49 4 vwc (out ++ [y]).length (zL (out ++ [y])) from yE hown8 (by simp only [zp, yy]));have Hbwc := zh (zK (Hbwb.out.alloc Hbwb.out.size (yq y)) (HOwb.out.alloc (yq y)) (by have := Hbwb.out.size; simp; omega) hgr8);clear hown8 hgr8;go_wp2_with fail
    exact ⟨⟨i + 1, false, _, rfl, by go_num, by omega, HM, HOwc.out, Hbwc.out⟩, by simp [intOf]; omega⟩
   ·
    have HM := zh (HHere.out i out HP.out hlt (by rw [hy]; exact hk));have hd : (y.key != x.key) = false := by rw [hk]; simp
    have hd2 : decide (x.key ≤ y.key) = true := decide_eq_true (by omega);have hd3 : x.key ≤ y.key := by omega
    clear hy HYx hk Hb HO;go_wp2_with fail
    go_quiet (fail)
    obtain ⟨wa, hW, hBwa⟩ : ∃ wa, wr.drewN nq = wa ∧ Below wr.heap.size wr wa := ⟨_, rfl, below_drewN (Below.refl _ _) _⟩
    rw [hW];clear hW;have Hbwa := zh (zA Hbwr.out hBwa);have HOwa := zh (zH HOwr.out hBwa);clear c0 c1 c2 c3 x0 x1 x2 x3 hBwa;obtain ⟨_, _, e, c0, c1, c2, c3⟩ := (HR.out.below Hbwa.out).at hlt;injection e with e; injection e with e1 e2; subst e1 e2;rw [HY.out] at c0 c1 c2 c3;obtain ⟨x0, x1, x2, x3⟩ := HX1.out.below Hbwa.out;go_upto_region 9 with (at_builtin; go_must (refine za (m := 1) rfl (.tmp 28) (.tmp 30) 33 rfl yA w1.heap.size rfl (HOwa.out.alloc _) rfl (qK wa x) (zl [x]) (by unfold maxLen; omega) (by omega) (by have := Hbwa.out.size; simp; omega) ?_); intro vwb wb hown8 hgr8 hv8; clear hv8);have HOwb := zh (show wb.ownsRow w1.heap.size 49 4 vwb (out ++ [x]).length (zL (out ++ [x])) from yE hown8 (by simp only [zp, yy]));have Hbwb := zh (zK (Hbwa.out.alloc Hbwa.out.size (yq x)) (HOwa.out.alloc (yq x)) (by have := Hbwa.out.size; simp; omega) hgr8);clear hown8 hgr8
    clear c0 c1 c2 c3 x0 x1 x2 x3;obtain ⟨_, _, e, c0, c1, c2, c3⟩ := (HR.out.below Hbwb.out).at hlt;injection e with e; injection e with e1 e2; subst e1 e2;rw [HY.out] at c0 c1 c2 c3;obtain ⟨x0, x1, x2, x3⟩ := HX1.out.below Hbwb.out;go_wp2_with fail
    go_quiet (fail)
    obtain ⟨wc, hW, hBwc⟩ : ∃ wc, wb.drewN nq = wc ∧ Below wb.heap.size wb wc := ⟨_, rfl, below_drewN (Below.refl _ _) _⟩
    rw [hW];clear hW;have Hbwc := zh (zA Hbwb.out hBwc);have HOwc := zh (zH HOwb.out hBwc);clear c0 c1 c2 c3 x0 x1 x2 x3 hBwc;obtain ⟨_, _, e, c0, c1, c2, c3⟩ := (HR.out.below Hbwc.out).at hlt;injection e with e; injection e with e1 e2; subst e1 e2;rw [HY.out] at c0 c1 c2 c3;obtain ⟨x0, x1, x2, x3⟩ := HX1.out.below Hbwc.out;go_wp2_with fail;exact ⟨⟨i + 1, true, _, rfl, by go_num, by omega, HM, HOwc.out, Hbwc.out⟩, by simp [intOf]; omega⟩
   have HM := zh (HAhead.out i out HP.out hlt (by rw [hy]; exact hk));rw [hy] at HM;have hd : (y.key != x.key) = true := bne_iff_ne.2 (by omega);have hd2 : decide (x.key ≤ y.key) = true := decide_eq_true (by omega);have hd3 : x.key ≤ y.key := by omega
   clear hy HYx hk Hb HO;go_wp2_with fail
   go_quiet (fail)
   obtain ⟨wa, hW, hBwa⟩ : ∃ wa, wr.drewN nq = wa ∧ Below wr.heap.size wr wa := ⟨_, rfl, below_drewN (Below.refl _ _) _⟩
   rw [hW];clear hW;have Hbwa := zh (zA Hbwr.out hBwa);have HOwa := zh (zH HOwr.out hBwa);clear c0 c1 c2 c3 x0 x1 x2 x3 hBwa;obtain ⟨_, _, e, c0, c1, c2, c3⟩ := (HR.out.below Hbwa.out).at hlt;injection e with e; injection e with e1 e2; subst e1 e2;rw [HY.out] at c0 c1 c2 c3;obtain ⟨x0, x1, x2, x3⟩ := HX1.out.below Hbwa.out;go_upto_region 9 with (at_builtin; go_must (refine za (m := 1) rfl (.tmp 28) (.tmp 30) 33 rfl yA w1.heap.size rfl (HOwa.out.alloc _) rfl (qK wa x) (zl [x]) (by unfold maxLen; omega) (by omega) (by have := Hbwa.out.size; simp; omega) ?_); intro vwb wb hown8 hgr8 hv8; clear hv8);have HOwb := zh (show wb.ownsRow w1.heap.size 49 4 vwb (out ++ [x]).length (zL (out ++ [x])) from yE hown8 (by simp only [zp, yy]));have Hbwb := zh (zK (Hbwa.out.alloc Hbwa.out.size (yq x)) (HOwa.out.alloc (yq x)) (by have := Hbwa.out.size; simp; omega) hgr8);clear hown8 hgr8
   clear c0 c1 c2 c3 x0 x1 x2 x3;obtain ⟨_, _, e, c0, c1, c2, c3⟩ := (HR.out.below Hbwb.out).at hlt;injection e with e; injection e with e1 e2; subst e1 e2;rw [HY.out] at c0 c1 c2 c3;obtain ⟨x0, x1, x2, x3⟩ := HX1.out.below Hbwb.out;go_wp2_with fail
   go_quiet (fail)
   obtain ⟨wc, hW, hBwc⟩ : ∃ wc, wb.drewN nq = wc ∧ Below wb.heap.size wb wc := ⟨_, rfl, below_drewN (Below.refl _ _) _⟩
   rw [hW];clear hW;have Hbwc := zh (zA Hbwb.out hBwc);have HOwc := zh (zH HOwb.out hBwc);clear c0 c1 c2 c3 x0 x1 x2 x3 hBwc;obtain ⟨_, _, e, c0, c1, c2, c3⟩ := (HR.out.below Hbwc.out).at hlt;injection e with e; injection e with e1 e2; subst e1 e2;rw [HY.out] at c0 c1 c2 c3;obtain ⟨x0, x1, x2, x3⟩ := HX1.out.below Hbwc.out;go_wp2_with (at_builtin; go_must (refine za (m := 1) rfl (.tmp 40) (.tmp 45) 33 rfl yA w1.heap.size rfl (HOwc.out.alloc _) rfl (qK wc y) (zl [y]) (by unfold maxLen; simp only [List.length_append, List.length_singleton]; omega) (by simp only [List.length_append, List.length_singleton]; omega) (by have := Hbwc.out.size; simp; omega) ?_); intro vwd wd hown8 hgr8 hv8; clear hv8);have HOwd := zh (show wd.ownsRow w1.heap.size 49 4 vwd ((out ++ [x]) ++ [y]).length (zL ((out ++ [x]) ++ [y])) from yE hown8 (by simp only [zp, yy]))
   have Hbwd := zh (zK (Hbwc.out.alloc Hbwc.out.size (yq y)) (HOwc.out.alloc (yq y)) (by have := Hbwc.out.size; simp; omega) hgr8);clear hown8 hgr8;go_wp2_with fail;exact ⟨⟨i + 1, true, _, rfl, by go_num, by omega, HM, HOwd.out, Hbwd.out⟩, by simp [intOf]; omega⟩
 obtain rfl : i = n := by omega
 cases d with
 | true =>
  have HE := zh (HE1.out out HP.out);go_wp2_with fail;go_ret;exact ⟨_, rfl, by rw [← HE.out]; exact HO.out.mono hB1, HB1.out.trans (Hb.out.mono hB1)⟩
 | false =>
  have HE := zh (HE0.out out HP.out);go_wp2_with (at_builtin; go_must (refine za (m := 1) (n := out.length) rfl (.tmp 49) (.tmp 51) 33 rfl yA w1.heap.size rfl (HO.out.alloc _) rfl (qK wr x) (zl [x]) (by unfold maxLen; omega) (by omega) (by simp; omega) ?_); intro v8 w8 hown8 hgr8 hv8; clear hv8);have HO8 := zh (show OwnT w8 w1.heap.size v8 (out ++ [x]) from yE hown8 (by simp only [zp, yy]));have HB8 := zh (zK (Hb.out.alloc hB (yq x)) (HO.out.alloc (yq x)) (by simp; omega) hgr8);clear hown8 hgr8;go_wp2_with fail;go_ret;exact ⟨_, rfl, by rw [← HE.out]; exact HO8.out.mono hB1, HB1.out.trans (HB8.out.mono hB1)⟩
def zG (M : Mp) : List It := if yX M = true then srt (ws M) else []
def zW (M : Mp) (key : Int) : Option It := if yX M = true then fnd (M.st (zb key)) key else none
theorem yO (M : Mp) : Asc (zG M) := by
 unfold zG
 split
 ·
  exact wU _
 exact fun j h => by simp at h
theorem vI (M : Mp) (key : Int) : fnd (srt (zG M)) key = zW M key := by
 rw [yH (yO M)];unfold zG zW
 split
 ·
  rename_i h; exact ((zM M).1 h).fnd key
 rfl
theorem us {M : Mp} (h : ∀ i, i < 8 → (M.st i).length ≤ 10000) : (ws M).length ≤ 80000 := t8 (M := M) (B := 10000) h 8 (Nat.le_refl _)
theorem xw {M : Mp} (h : ∀ i, i < 8 → (M.st i).length ≤ 10000) : (zG M).length ≤ 80000 := by
 unfold zG
 split
 ·
  exact Nat.le_trans (yN _) (us h)
 simp
theorem zGK (v : Value) (l : List It) (w : World) (h : RdT w v l) (hs : l.length ≤ 80000) :
  Calls Tryz.prog 132 #[.slice none 0 0, v, .slice none 0 0] w fun e w' => ∃ v', e = .returned v' ∧ OwnT w' w.heap.size v' (srt l) ∧ Below w.heap.size w w' := by
 have := zG9 (.slice none 0 0) v (.slice none 0 0) [] l [] w (yS (zv (World.ownsRow_nil w 0 49 4))) h (qZ (World.ownsRow_nil w 0 24 1)) (xt _ (by simp)) (xt _ (by omega)) (xt _ (by have := yN l; rw [List.length_append]; have h0 := k6 [] (srt []); rw [zFs] at h0 ⊢; simp at h0; simp [h0]; omega)) (by simp) (by omega)
 rwa [zKC] at this
theorem zAy (s : Sl) (M : Mp) (w : World) (h : RdM w s M.st) (hs : ∀ i, i < 8 → (M.st i).length ≤ 10000) :
  Calls Tryz.prog 89 #[yC s M.live M.garb] w fun e w' => ∃ v', e = .returned v' ∧ OwnT w' w.heap.size v' (zG M) ∧ Below w.heap.size w w' := by
 have HV := zh (fun W h => vL s M W h (fun i hi => Nat.le_trans (hs i hi) (by decide)));have HBx := zh (BoxM.new w s M.live M.garb 36);have HB0 := zh (zR w s M.live M.garb 36);have Hr := zh h;have HC := zh (fun b W hx h => zFE b s M.live M.garb M.st W hx h (Nat.le_trans (us hs) (by decide)));have HM := zh (fun v W h => zGK v (ws M) W h (us hs));have HI := zh (show zG M = if yX M = true then srt (ws M) else [] from rfl);rw [show cat M.st 8 = ws M from rfl] at HC;clear h hs;generalize yX M = vb at *;generalize ws M = A at *;generalize zG M = I at *;obtain ⟨f, L, G⟩ := M;dsimp only at *
 go_enter Tryz.func89, Tryz.ntmps89
 go_wp2_with fail;refine (HV.out _ (Hr.out.below HB0.out)).mono ?_; rintro e w1 ⟨rfl, hb1⟩;have HB1 := zh (zA HB0.out hb1);have HX1 := zh (HBx.out.below hb1);have HR1 := zh (Hr.out.below HB1.out);clear hb1 HV HBx HB0
 cases vb
 ·
  go_wp2_with fail;go_ret;exact ⟨_, rfl, by rw [HI.out, if_neg (by decide)]; exact World.ownsRow_nil _ _ _ _, HB1.out⟩
 rw [if_pos rfl] at HI;go_wp2_with fail;refine (HC.out _ _ HX1.out HR1.out).mono ?_; rintro e w2 ⟨v2, rfl, hown2, hb2⟩;have HB2 := zh (zA HB1.out hb2);have HR2 := zh hown2.rd;have HMg := zh (HM.out v2 w2 hown2.rd);clear hown2 hb2;go_wp2_with fail;refine HMg.out.mono ?_; rintro e w3 ⟨v3, rfl, hown3, hb3⟩;have HO3 := zh (hown3.mono HB2.out.size);have HB3 := zh (zA HB2.out hb3);clear hown3 hb3;go_wp2_with fail;go_ret;exact ⟨_, rfl, by rw [HI.out]; exact HO3.out, HB3.out⟩
structure BoxI (W : World) (b : Nat) (x : It) : Prop where
 t : BoxT W b x
 f : ∀ i, W.frozen? ⟨b, i, none⟩ = false
theorem BoxI.new (w : World) (x : It) : BoxI (w.alloc (yq x)) w.heap.size x := ⟨BoxT.new w x, fun i => by simp⟩
theorem BoxI.lt {W : World} {b : Nat} {x : It} (h : BoxI W b x) : b < W.heap.size := World.block_lt_of_cell? _ ⟨b, 0, none⟩ h.t.c0
theorem BoxI.below {W W' : World} {b : Nat} {x : It} (h : BoxI W b x) (hb : Below W.heap.size W W') : BoxI W' b x := ⟨h.t.below hb, fun i => (hb.frozen (p := ⟨b, i, none⟩) h.lt).trans (h.f i)⟩
theorem BoxI.set_ne {W : World} {b : Nat} {x : It} (h : BoxI W b x) {p : Addr} (hp : p.block ≠ b) (u : Value) : BoxI (W.setCell p u) b x := by
 have ne : ∀ i, p ≠ ⟨b, i, none⟩ := fun i e => hp (by rw [e])
 exact ⟨⟨(World.cell?_setCell_other (h := ne 0) ..).trans h.t.c0, (World.cell?_setCell_other (h := ne 1) ..).trans h.t.c1, (World.cell?_setCell_other (h := ne 2) ..).trans h.t.c2, (World.cell?_setCell_other (h := ne 3) ..).trans h.t.c3⟩, fun i => by simp [h.f]⟩
theorem BoxI.putM_ne {W : World} {b c : Nat} {x : It} (h : BoxI W b x) (hp : c ≠ b) (s' : Sl) (l' g' : Int) : BoxI (z8 W c s' l' g') b x :=
 (((((((((h.set_ne (p := ⟨c, 0, none⟩) hp _).set_ne (p := ⟨c, 1, none⟩) hp _).set_ne (p := ⟨c, 2, none⟩) hp _).set_ne (p := ⟨c, 3, none⟩) hp _).set_ne (p := ⟨c, 4, none⟩) hp _).set_ne (p := ⟨c, 5, none⟩) hp _).set_ne (p := ⟨c, 6, none⟩) hp _).set_ne (p := ⟨c, 7, none⟩) hp _).set_ne (p := ⟨c, 8, none⟩) hp _).set_ne (p := ⟨c, 9, none⟩) hp _
def zCO (W : World) (b : Nat) (y : It) : World := (((W.setCell ⟨b, 0, none⟩ (.int .u64 y.key)).setCell ⟨b, 1, none⟩ (.int .u32 y.ck)).setCell ⟨b, 2, none⟩ (.int .i64 y.off)).setCell ⟨b, 3, none⟩ (.int .i64 y.size)
theorem BoxI.put {W : World} {b : Nat} {x : It} (h : BoxI W b x) (y : It) : BoxI (zCO W b y) b y := ⟨h.t.set y, fun i => by simp [zCO, h.f]⟩
theorem uN {B b : Nat} {w0 W : World} (h : Below B w0 W) (hb : B ≤ b) (y : It) : Below B w0 (zCO W b y) := (((h.setCell hb _).setCell hb _).setCell hb _).setCell hb _
theorem zJI (s : Sl) (M : Mp) (w : World) (h : RdM w s M.st) (hs : ∀ i, i < 8 → (M.st i).length ≤ 10000) :
  Calls Tryz.prog 86 #[yC s M.live M.garb] w fun e w' => e = .returned (.int .i64 ((zG M).length : Int)) ∧ Below w.heap.size w w' := by
 have HB0 := zh (zR w s M.live M.garb 36);have HI := zh (zAy s M _ (h.below HB0.out) hs);generalize zG M = I at *;clear h hs;obtain ⟨f, L, G⟩ := M;dsimp only at *
 go_enter Tryz.func86, Tryz.ntmps86
 go_wp2_with fail;refine HI.out.mono ?_; rintro e w1 ⟨v1, rfl, hown1, hb1⟩;have HB1 := zh (zA HB0.out hb1);obtain ⟨a, c, hv, _⟩ := zJ hown1;subst hv;clear hown1 hb1;go_wp2_with fail;go_ret;exact ⟨rfl, HB1.out⟩
theorem zEO (s : Sl) (M : Mp) (key : Int) (w : World) (h : RdM w s M.st) (hs : ∀ i, i < 8 → (M.st i).length ≤ 10000) :
  Calls Tryz.prog 95 #[yC s M.live M.garb, .int .u64 key] w fun e w' => e = .returned (.tuple #[itV ((zW M key).getD it0), .bool (zW M key).isSome]) ∧ Below w.heap.size w w' := by
 have HV := zh (fun W h => vL s M W h (fun i hi => Nat.le_trans (hs i hi) (by decide)));have HBx := zh ((BoxM.new w s M.live M.garb 36).below (zu (w.alloc (.cells (yQ s M.live M.garb) 36)) it0));have HBt := zh (BoxI.new (w.alloc (.cells (yQ s M.live M.garb) 36)) it0);rw [show (w.alloc (.cells (yQ s M.live M.garb) 36)).heap.size = w.heap.size + 1 by simp] at HBt;have HB0 := zh (zA (zR w s M.live M.garb 36) (zu (w.alloc (.cells (yQ s M.live M.garb) 36)) it0));have Hr := zh h;have hk8 := wD key;have HF := zh (fun W h => zDG (s.v (zb key)) (M.st (zb key)) key W h (xt _ (Nat.le_trans (hs _ hk8) (by decide))) (Nat.le_trans (hs _ hk8) (by decide)));have HS := zh (fun W => uV key W);have HI := zh (show zW M key = if yX M = true then fnd (M.st (zb key)) key else none from rfl);have HA := zh (fun h : yX M = true => yH (vV (((zM M).1 h).ok _ hk8)))
 have HRk := zh (fun W (hb : Below w.heap.size w W) => (h (zb key) hk8).below hb);clear h hs;generalize zW M key = o at *;generalize yX M = vb at *;generalize zb key = k at *;obtain ⟨f, L, G⟩ := M;dsimp only at *
 go_enter Tryz.func95, Tryz.ntmps95
 go_wp2_with fail;refine (HV.out _ (Hr.out.below HB0.out)).mono ?_; rintro e w1 ⟨rfl, hb1⟩;have HB1 := zh (zA HB0.out hb1);have HX1 := zh (HBx.out.below hb1);have HT1 := zh (HBt.out.below hb1);clear hb1 HV HBx HB0 HBt;obtain ⟨d0, d1, d2, d3⟩ := HT1.out.t.q;have F1 := HT1.out.f
 cases vb
 ·
  have HI2 := zh (HI.out.trans (if_neg (by decide)));go_wp2_with fail;change bodyPost _ _ _ _ _ (zCO w1 (w.heap.size + 1) it0);have hby := HT1.out.put it0;have HBz := zh (uN HB1.out (Nat.le_succ _) it0);generalize zCO w1 (w.heap.size + 1) it0 = V at *;obtain ⟨y0, y1, y2, y3⟩ := hby.t.q;exact bodyPost_ret (v := .tuple #[itV it0, .bool false]) (by simp [results, Tryz.results95, go_sem, y0, y1, y2, y3]) rfl ⟨by rw [HI2.out]; rfl, HBz.out⟩
 have HI2 := zh (HI.out.trans (if_pos rfl));have hvk : s.v k = .slice (s.a k) (s.n k) (s.c k) := rfl;have ck := HX1.out.c k hk8;have HFk := zh (HF.out w1 (HRk.out w1 HB1.out));rw [HA.out rfl, ← HI2.out] at HFk;rw [hvk] at ck HFk;generalize s.a k = sa at *;generalize s.n k = sn at *;generalize s.c k = sc at *;clear hvk HF HRk HA;go_wp2_with fail;refine (HS.out _).mono ?_; rintro e w2 ⟨rfl, rfl⟩;go_wp2_with fail;refine HFk.out.mono ?_; rintro e w3 ⟨rfl, hb3⟩;have HT3 := zh (HT1.out.below hb3);have HB3 := zh (zA HB1.out hb3);clear hb3 d0 d1 d2 d3 F1;obtain ⟨d0, d1, d2, d3⟩ := HT3.out.t.q;have F1 := HT3.out.f;obtain ⟨y, hy⟩ : ∃ y, o.getD it0 = y := ⟨_, rfl⟩
 have Hy := zh hy;rw [hy];clear hy;go_wp2_with fail;change bodyPost _ _ _ _ _ (zCO w3 (w.heap.size + 1) y);have hby := HT3.out.put y;have HBz := zh (uN HB3.out (Nat.le_succ _) y);generalize zCO w3 (w.heap.size + 1) y = V at *;obtain ⟨y0, y1, y2, y3⟩ := hby.t.q;exact bodyPost_ret (v := .tuple #[itV y, .bool o.isSome]) (by simp [results, Tryz.results95, go_sem, y0, y1, y2, y3]) rfl ⟨by rw [Hy.out], HBz.out⟩
end Go.Proofs.YtcgfilmmokmdjaaGreat
