/- A part of the walk. -/
import Derived.Test.YtcgfilmmokmdjaaGreatQAA
import Derived.Test.YtcgfilmmokmdjaaGreatSz
import Derived.Test.YtcgfilmmokmdjaaGreatQAD
import Derived.Lib.AppendZeros
import Derived.Laws.StructEq
import Derived.Deep.DeepCutAuto
import Derived.Test.YtcgfilmmokmdjaaGreatQAE
set_option linter.all false
set_option maxRecDepth 100000
set_option maxHeartbeats 32000000
namespace Go.Proofs.YtcgfilmmokmdjaaGreat
open Go.RowKit
theorem zFt {w : World} {base : Nat} {e : TypeId} {sz n cap g : Nat} {xs : List Value} (h : w.ownsRow base e sz (.slice (some ⟨g, 0, none⟩) n cap) n xs) (o : Nat) (vs : List Value) (ho : o + vs.length ≤ n * sz) :
  ∃ cur, w.heap[g]? = some (.cells cur e (0, 0)) ∧ n * sz ≤ cur.size ∧ (w.setRow g (cur.toList.take o ++ vs ++ cur.toList.drop (o + vs.length)).toArray).ownsRow base e sz (.slice (some ⟨g, 0, none⟩) n cap) n (xs.take o ++ vs ++ xs.drop (o + vs.length)) ∧
   w.grownBy (w.setRow g (cur.toList.take o ++ vs ++ cur.toList.drop (o + vs.length)).toArray) (some g) := by
 have hx := h.1;rcases h.2 with ⟨h', _⟩ | ⟨g', cap', cur, h', hb, hg, hnc, hcm, hcs, jd⟩
 ·
  cases h'
 injection h' with h' _ h'';injection h' with h';injection h' with h' _;subst h' h'';have hN : n * sz ≤ cur.size := by rw [hcs]; exact aW _ hnc
 refine ⟨cur, hg, hN, ⟨?_, .inr ⟨g, cap, _, rfl, hb, setRow_heap w g cur _ e (0, 0) hg, hnc, hcm, ?_, ?_⟩⟩, ⟨rfl, rfl, rfl, by simp, fun k _ hk => setRow_other w g k _ (fun e => hk (by rw [e]))⟩⟩
 ·
  simp only [aA, ay, aK, hx]; omega
 ·
  simp only [bZ, aA, ay, aK, dM]; omega
 have e1 : xs.take o = cur.toList.take o := by rw [← jd, dh, bH (by omega)]
 have e2 : xs.drop (o + vs.length) = (cur.toList.drop (o + vs.length)).take (n * sz - (o + vs.length)) := by rw [← jd, List.drop_take]
 rw [e1, e2];have l1 : (cur.toList.take o ++ vs).length = o + vs.length := by rw [aA, ay, dM]; omega
 rw [List.take_append, aR (l := cur.toList.take o ++ vs) (by rw [l1]; exact ho), l1]
theorem zFb (g n cap B : Nat) (d : List It) (w : World) (hown : w.ownsRow B 49 4 (.slice (some ⟨g, 0, none⟩) n cap) n (zU d)) (hn : d.length = n) (hs : n ≤ 1000000) :
  Calls Tryz.prog 197 #[.slice (some ⟨g, 0, none⟩) n cap, .int .i64 (n : Int), .func (.func 174) #[] #[]] w fun e w' => e = .returned (.tuple #[]) ∧ Left w g n cap 0 n B d w' := by
 have HO := zh hown;have hgr : w.grownBy w (some g) := ⟨rfl, rfl, rfl, ai _, fun _ _ _ => rfl⟩
 have HG := zh hgr;have HN := zh hn;have HL := zh (fun q (h : Moved d q 0 n) => h.len.trans hn);clear hown hgr hn
 go_enter Tryz.func197, Tryz.ntmps197
 go_wp2_with fail
 go_loopw [7, 8] (fun av bv wr => ∃ (k a : Nat) (q : List It), av = .int .i64 (a : Int) ∧ bv = .int .i64 ((a : Int) + 20) ∧ Hid (a = k * 20) ∧ a ≤ n ∧ oV q 20 0 a ∧ Moved d q 0 n ∧ wr.ownsRow B 49 4 (.slice (some ⟨g, 0, none⟩) n cap) n (zU q) ∧ w.grownBy wr (some g)) (fun av _ _ => n - (intOf av).toNat)
 case atStart => exact ⟨0, 0, d, by go_num, by go_num, (rfl : (0 : Nat) = 0 * 20), by omega, oV.none _ _ _, Moved.refl _ _ _, HO.out, HG.out⟩
 obtain ⟨k, a, q, rfl, rfl, HK, Nr, hb, hm, ho, hg⟩ := hrel;have Hb := zh hb;have Hm := zh hm;have Ho := zh ho;have Hg := zh hg;clear hb hm ho hg
 by_cases hlt : a + 20 ≤ n
 ·
  have HC := zh (qT g n cap a (a + 20) B q wr Ho.out (HL.out q Hm.out) hs (by omega) hlt);have e1 : ((a + 20 : Nat) : Int) = (a : Int) + 20 := by omega
  rw [e1] at HC;clear e1;have hle : (a : Int) + 20 ≤ (n : Int) := by omega
  go_wp2_with fail;refine HC.out.mono ?_; rintro _ w2 ⟨rfl, q2, ew, jD, lK, fu⟩;have gj := zh ew;have sI := zh (Hm.out.trans (jD.wide (au _) (by omega) hlt));have eP := zh ((Hb.out.keep jD (Or.inl (ai _))).more HK.out lK);have iG := zh (zp Hg.out fu);have CX := zh (show a + 20 = (k + 1) * 20 by rw [HK.out]; omega);clear ew jD lK fu;go_wp2_with fail;exact ⟨⟨k + 1, a + 20, q2, by go_num, by go_num, CX, hlt, eP.out, sI.out, gj.out, iG.out⟩, by simp [intOf]; omega⟩
 have hle : ¬ (a : Int) + 20 ≤ (n : Int) := by omega
 have HC := zh (qT g n cap a n B q wr Ho.out (HL.out q Hm.out) hs Nr (ai _));go_wp2_with fail;refine HC.out.mono ?_; rintro _ w2 ⟨rfl, q2, ew, jD, lK, fu⟩;have gj := zh ew;have sI := zh (Hm.out.trans (jD.wide (au _) Nr (ai _)));have eP := zh ((Hb.out.keep jD (Or.inl (ai _))).more HK.out lK);have iG := zh (zp Hg.out fu);clear ew jD lK fu hle hlt;clear HK Hb Hm Ho Hg HC;go_wp2_with fail
 go_loopw [6] (fun sv wr => ∃ (bs : Nat) (q : List It), sv = .int .i64 (bs : Int) ∧ 0 < bs ∧ bs ≤ 2000000 ∧ oV q bs 0 n ∧ Moved d q 0 n ∧ wr.ownsRow B 49 4 (.slice (some ⟨g, 0, none⟩) n cap) n (zU q) ∧ w.grownBy wr (some g)) (fun sv _ => n - (intOf sv).toNat)
 case atStart => exact ⟨20, q2, by go_num, by omega, by omega, eP.out, sI.out, gj.out, iG.out⟩
 obtain ⟨bs, q, rfl, hb0, hb1, hb, hm, ho, hg⟩ := hrel;have Hb := zh hb;have Hm := zh hm;have Ho := zh ho;have Hg := zh hg;clear hb hm ho hg
 by_cases hlt : bs < n
 ·
  go_wp2_with fail
  go_loopw [7, 8] (fun av bv wr => ∃ (k a : Nat) (q : List It), av = .int .i64 (a : Int) ∧ bv = .int .i64 ((a : Int) + 2 * (bs : Int)) ∧ Hid (a = k * (2 * bs)) ∧ a ≤ n ∧ oV q (2 * bs) 0 a ∧ oV q bs a n ∧ Moved d q 0 n ∧ wr.ownsRow B 49 4 (.slice (some ⟨g, 0, none⟩) n cap) n (zU q) ∧ w.grownBy wr (some g)) (fun av _ _ => n - (intOf av).toNat)
  case atStart => exact ⟨0, 0, q, by go_num, by go_num, (Nat.zero_mul _).symm, by omega, oV.none _ _ _, Hb.out, Hm.out, Ho.out, Hg.out⟩
  obtain ⟨k, a, r, rfl, rfl, HK, Nr, hb, hc, hm, ho, hg⟩ := hrel;have hK2 : k * 2 * bs = a := by rw [HK.out, Nat.mul_assoc]
  have hK3 : (k * 2 + 1) * bs = a + bs := by rw [dm (k * 2) bs, hK2]
  have HK4 := zh (show a + 2 * bs = (k + 1) * (2 * bs) by rw [dm k (2 * bs), ← HK.out]);have VJ := zh (show a + bs ≤ n → iM r a (a + bs) from fun h => hc.nd (k := k * 2) (ai _) h (by omega) (by omega));have VK := zh (show ∀ b, a + bs ≤ b → b ≤ n → b ≤ a + 2 * bs → iM r (a + bs) b from fun b h h' h'' => hc.nd (k := k * 2 + 1) (by omega) h' (by omega) (by omega));have Hn3 := zh (show n ≤ a + bs → iM r a n from fun h => hc.nd (k := k * 2) (ai _) (ai _) (by omega) (by omega));have Hb := zh hb;have Hc := zh hc;have Hm := zh hm;have Ho := zh ho;have Hg := zh hg;clear hb hc hm ho hg hK2 hK3
  by_cases hle : a + 2 * bs ≤ n
  ·
   have HC := zh (P3 g n cap B hs (2 * bs) a (a + bs) (a + 2 * bs) r wr (by omega) Ho.out (HL.out r Hm.out) (by omega) (by omega) hle (VJ.out (by omega)) (VK.out _ (by omega) hle (ai _)));have e1 : ((a + bs : Nat) : Int) = (a : Int) + (bs : Int) := by omega
   have e2 : ((a + 2 * bs : Nat) : Int) = (a : Int) + 2 * (bs : Int) := by omega
   rw [e1, e2] at HC;clear e1 e2;have P4 : (a : Int) + 2 * (bs : Int) ≤ (n : Int) := by omega
   go_wp2_with fail;refine HC.out.mono ?_; rintro _ w2 ⟨rfl, q2, ew, jD, lK, fu⟩;have gj := zh ew;have sI := zh (Hm.out.trans (jD.wide (au _) (by omega) hle));have eP := zh ((Hb.out.keep jD (Or.inl (ai _))).more HK.out lK);have Ao := zh ((Hc.out.sub (lo' := a + 2 * bs) (hi' := n) (by omega) (ai _)).keep jD (Or.inr (ai _)));have iG := zh (zp Hg.out fu);clear ew jD lK fu;go_wp2_with fail;exact ⟨⟨k + 1, a + 2 * bs, q2, by go_num, by go_num, HK4, hle, eP.out, Ao.out, sI.out, gj.out, iG.out⟩, by simp [intOf]; omega⟩
  have P4 : ¬ (a : Int) + 2 * (bs : Int) ≤ (n : Int) := by omega
  by_cases hmn : a + bs < n
  ·
   have HC := zh (P3 g n cap B hs (2 * bs) a (a + bs) n r wr (by omega) Ho.out (HL.out r Hm.out) (by omega) hmn (ai _) (VJ.out (by omega)) (VK.out _ (by omega) (ai _) (by omega)));have e1 : ((a + bs : Nat) : Int) = (a : Int) + (bs : Int) := by omega
   rw [e1] at HC;clear e1;have P6 : (a : Int) + (bs : Int) < (n : Int) := by omega
   go_wp2_with fail;refine HC.out.mono ?_; rintro _ w2 ⟨rfl, q2, ew, jD, lK, fu⟩;have gj := zh ew;have sI := zh (Hm.out.trans (jD.wide (au _) Nr (ai _)));have eP := zh ((Hb.out.keep jD (Or.inl (ai _))).more HK.out lK);have iG := zh (zp Hg.out fu);clear ew jD lK fu;go_wp2_with fail;exact ⟨⟨2 * bs, q2, by go_num, by omega, by omega, eP.out, sI.out, gj.out, iG.out⟩, by simp [intOf]; omega⟩
  have P6 : ¬ (a : Int) + (bs : Int) < (n : Int) := by omega
  have eP := zh (Hb.out.more HK.out (Hn3.out (by omega)));go_wp2_with fail;exact ⟨⟨2 * bs, r, by go_num, by omega, by omega, eP.out, Hm.out, Ho.out, Hg.out⟩, by simp [intOf]; omega⟩
 have HW := zh (Hb.out.whole (by omega));go_wp2_with fail;go_end0;exact ⟨rfl, q, Ho.out, Hm.out, HW.out, Hg.out⟩
theorem zBy (g n cap B : Nat) (d : List It) (w : World) (hown : w.ownsRow B 49 4 (.slice (some ⟨g, 0, none⟩) n cap) n (zU d)) (hn : d.length = n) (hs : n ≤ 1000000) :
  Calls Tryz.prog 173 #[.slice (some ⟨g, 0, none⟩) n cap, .func (.func 174) #[] #[]] w fun e w' => e = .returned (.tuple #[]) ∧ Left w g n cap 0 n B d w' := by
 have HC := zh (zFb g n cap B d w hown hn hs);clear hown hn
 go_enter Tryz.func173, Tryz.ntmps173
 go_wp2_with fail;refine HC.out.mono ?_; rintro _ w2 ⟨rfl, hl⟩;have HL := zh hl;clear hl;go_wp2_with fail;go_end0;exact ⟨rfl, HL.out⟩
theorem zLH {w : World} {B g n cap : Nat} {q : List It} (h : w.ownsRow B 49 4 (.slice (some ⟨g, 0, none⟩) n cap) n (zU q)) (hq : q.length = n) (k : Nat) (hk : k < n) {sa : Addr} {sc : Nat} {x : It} (hs : Rd w 4 (.slice (some sa) 1 sc) 1 (gZ x)) :
  ∃ w', (∀ ty, (Builtin.append_ #[33, 33] ty #[.slice (some ⟨g, 0, none⟩) k cap, .slice (some sa) 1 sc]).run Tryz.prog w = .ok (.slice (some ⟨g, 0, none⟩) (k + 1) cap) w') ∧
   w'.ownsRow B 49 4 (.slice (some ⟨g, 0, none⟩) n cap) n (zU (q.set k x)) ∧ w.grownBy w' (some g) := by
 obtain ⟨cur, hg, hN, h1, h2⟩ := zFt h (k * 4) (gZ x) (by rw [wY]; omega);obtain ⟨ht, hsz, i, z, hi, hz, hs4, hby, hzs⟩ := yE;obtain ⟨_, a', cap', e, _, _, _, hc⟩ := hs;injection e with e1 e2 e3;obtain ⟨b, off, e4, hcell⟩ := hc (by rw [wY]; omega);rw [← e1] at e4;injection e4 with e4;subst e4;have hcap : k + 1 ≤ cap := by
  obtain ⟨_, _, e, hnc, _, _⟩ := zO h;injection e with _ _ e5;omega
 refine ⟨_, fun ty => run_append_room (P := Tryz.prog) w 33 ty 49 i ht hi g k cap cur hg ⟨b, off, none⟩ 1 sc (gZ x) (by rw [hs4]; rfl) (fun j u hj => by rw [yP]; exact hcell j u hj) (fun u hu => zn [x] u (by rw [xM]; exact hu)) hcap (by rw [hs4, wY]; omega), ?_, ?_⟩
 ·
  rw [hs4];have e : zU (q.set k x) = (zU q).take (k * 4) ++ gZ x ++ (zU q).drop (k * 4 + (gZ x).length) := by
   rw [dS, ag (by omega), zu, xl, uO, uR, wY, bp]
   congr 3; omega
  rw [e]; exact h1
 rw [hs4]; exact h2
theorem kw {w : World} {ops : Array Oper} {rest : List Oper} {o : Oper} {a : Act} {Q : Exit → Act → World → Prop} (hgd : o.guard = none) (s x : Operand)
  (ho : o.op = .call { callee := .builtin .append, args := #[s, x], argTypes := #[33, 33] }) {B g n cap : Nat} {q : List It} (k : Nat) {sa : Addr} {sc : Nat} {y : It}
  (hs : a.eval s = .slice (some ⟨g, 0, none⟩) k cap) (hx : a.eval x = .slice (some sa) 1 sc) (h : w.ownsRow B 49 4 (.slice (some ⟨g, 0, none⟩) n cap) n (zU q)) (hq : q.length = n) (hk : k < n) (hr : Rd w 4 (.slice (some sa) 1 sc) 1 (gZ y))
  (hK : ∀ w', w'.ownsRow B 49 4 (.slice (some ⟨g, 0, none⟩) n cap) n (zU (q.set k y)) → w.grownBy w' (some g) → wpList Tryz.prog ops Q rest (a.put o.dst (.slice (some ⟨g, 0, none⟩) (k + 1) cap)) w') : wpList Tryz.prog ops Q (o :: rest) a w := by
 obtain ⟨w', h1, h2, h3⟩ := zLH h hq k hk hr;exact Lib.wpList_append_run w hgd s x _ _ ho _ _ hs hx _ _ (h1 _) (hK w' h2 h3)
theorem zED {q : List It} {k i : Nat} {x : It} (h : k ≤ i) : (q.set k x).drop (i + 1) = q.drop (i + 1) := List.drop_set_of_lt (by omega)
structure Pass (d out q : List It) (k i : Nat) : Prop where
 all : out ++ uD (d.drop i) = uD d
 pre : q.take k = out
 rest : q.drop i = d.drop i
 le : k ≤ i
 len : q.length = d.length
theorem Pass.keep {d out q : List It} {k i : Nat} (h : Pass d out q k i) (hi : i < d.length) (hk : i + 1 = d.length ∨ (dX d (i + 1)).key ≠ (dX d i).key) : Pass d (out ++ [dX d i]) (q.set k (dX d i)) (k + 1) (i + 1) := by
 have hle := h.le;have Jn := h.len;refine ⟨?_, ?_, ?_, by omega, by rw [aZ]; exact h.len⟩
 ·
  rw [bp, ← h.all]
  congr 1
  by_cases e : i + 1 = d.length
  ·
   exact (zIV e).symm
  exact (zHw (by omega) (by rcases hk with hk | hk; exact absurd hk e; exact hk)).symm
 ·
  rw [uB q k _ (by omega), h.pre]
 rw [zED hle, ← bU, h.rest, bU]
theorem Pass.skip {d out q : List It} {k i : Nat} (h : Pass d out q k i) (hi : i + 1 < d.length) (hk : (dX d (i + 1)).key = (dX d i).key) : Pass d out q k (i + 1) := by
 have hle := h.le;refine ⟨?_, h.pre, ?_, by omega, h.len⟩
 ·
  rw [← h.all, zG2 hi hk]
 rw [← bU, h.rest, bU]
theorem Pass.at {d out q : List It} {k i j : Nat} (h : Pass d out q k i) (hj : i ≤ j) : dX q j = dX d j := by
 have h1 := xg q i (j - i);have h2 := xg d i (j - i);rw [h.rest, h2, show i + (j - i) = j by omega] at h1;exact h1.symm
theorem zFu (l : List It) (ha : BL l = false) (hs : l.length ≤ 1000000) : wR l := by
 intro v w h;have HC := zh (Pg v l w h hs);have HA := zh (fun v w h => O6 v l w h);rw [ha] at HA;have hpos : 0 < l.length := by
  cases l with
  | nil => cases ha
  | cons x r => simp
 have HS := zh (fun d (hm : Moved l d 0 l.length) (hn : iM d 0 l.length) => zJ2 (l := l) (d := d) (hm.nV (au _)) (by rw [hm.len]; exact hn));obtain ⟨a, cap, rfl, h1, h2⟩ := h.shape;have HML := zh (fun d (hm : Moved l d 0 l.length) => hm.len);have HSS := zh (fun g cap B w h => zBy g l.length cap B l w h rfl hs);have HOT := zh (fun w B v (h : fg w B v l) => show w.ownsRow B 49 4 v l.length (zU l) from h);generalize hn : l.length = n at *;clear h ha hn
 go_enter Tryz.func135, Tryz.ntmps135
 go_wp2_with fail;refine HC.out.mono ?_; rintro e w1 ⟨v1, rfl, hown1, hb1⟩;have HO := zh hown1;have HB := zh hb1;clear hown1 hb1;go_wp2_with fail;refine (HA.out _ _ HO.out.rd).mono ?_; rintro e w2 ⟨rfl, hb2⟩;have C5 := zh (HOT.out _ _ _ (zH HO.out hb2));have eP := zh (zA HB.out hb2);clear hb2;obtain ⟨oa, oc, rfl, ho1, ho2, _⟩ := zO C5.out;obtain ⟨g, rfl⟩ : ∃ g, oa = some ⟨g, 0, none⟩ := by
  rcases C5.out.2 with ⟨e, h0⟩ | ⟨g, _, _, e, _⟩
  ·
   injection e with _ e _; omega
  injection e with e; exact ⟨g, e⟩
 have hgw := (C5.out.lt g rfl).1;clear HO;go_wp2_with fail;refine (HSS.out g oc w.heap.size w2 C5.out).mono ?_; rintro e w3 ⟨rfl, d, ei, P7, D5, eW⟩;have lB := zh ei;have HD := zh (HS.out d P7 D5);have HL := zh (HML.out d P7);have fV := zh (eP.out.grown eW eP.out.size (by intro r hr; injection hr with hr; omega));clear ei P7 D5 eW C5 eP;have Cn := yq (P := Tryz.prog) yE (a := some ⟨g, 0, none⟩) (n := n) (cap := oc) (fun x hx => ⟨g, 0, by injection hx with hx; exact hx.symm⟩) 0 (by omega);have hoc : oc ≤ 9223372036854775807 := by unfold maxLen at ho2; omega
 go_wp2_with fail
 go_loopw [3, 17] (fun ov iv wr => ∃ (k i : Nat) (out q : List It), ov = .slice (some ⟨g, 0, none⟩) k oc ∧ iv = .int .i64 (i : Int) ∧ i ≤ n ∧ Pass d out q k i ∧ wr.ownsRow w.heap.size 49 4 (.slice (some ⟨g, 0, none⟩) n oc) n (zU q) ∧ Below w.heap.size w wr) (fun _ iv _ => n - (intOf iv).toNat)
 case atStart => exact ⟨0, 0, [], d, by rfl, by go_num, by omega, ⟨by simp, rfl, rfl, ai _, rfl⟩, lB.out, fV.out⟩
 obtain ⟨k, i, out, q, rfl, rfl, hi, hp, ho, hb⟩ := hrel;have hki := hp.le;have Hp := zh hp;have Ho := zh ho;have Hb := zh hb;have hB := hb.size;have hgr := (ho.lt g rfl).2;have Ns := zh (hp.len.trans HL.out);clear hp ho hb
 by_cases hlt : i < n
 ·
  obtain ⟨_, _, e, c0, c1, c2, c3⟩ := (yj (zr Ho.out)).at hlt;injection e with e; injection e with e1 e2; subst e1 e2;simp only [aJ] at c0 c1 c2 c3;rw [Hp.out.at (ai _)] at c0 c1 c2 c3;have Fz := zh (Hp.out.keep (by rw [HL.out]; exact hlt));have Ky := zh (fun h : i + 1 < n => Hp.out.skip (by rw [HL.out]; exact h));have j1 : IntKind.i64.wrap ((i : Int) + 1) = (i : Int) + 1 := aH _ (by omega)
  by_cases hend : i + 1 = n
  ·
   have hd : ((i : Int) + 1 == (n : Int)) = true := beq_iff_eq.2 (by omega);have CX := zh (Fz.out (Or.inl (by rw [HL.out]; exact hend)));generalize dX d i = x at *;go_wp2_with fail
   go_quiet (fail)
   obtain ⟨W, hW⟩ : ∃ W, (wr.alloc (.cells #[.int .u64 x.key, .int .u32 x.ck, .int .i64 x.off, .int .i64 x.size] 49)).drewN nq = W := ⟨_, rfl⟩
   have FA := zh (show Below wr.heap.size wr W by rw [← hW]; exact below_drewN ((aj _ _).alloc (ai _) _) _);have x0 : W.cell? ⟨wr.heap.size, 0, none⟩ = some (.int .u64 x.key) := by rw [← hW]; simp
   have x1 : W.cell? ⟨wr.heap.size, 1, none⟩ = some (.int .u32 x.ck) := by rw [← hW]; simp
   have x2 : W.cell? ⟨wr.heap.size, 2, none⟩ = some (.int .i64 x.off) := by rw [← hW]; simp
   have x3 : W.cell? ⟨wr.heap.size, 3, none⟩ = some (.int .i64 x.size) := by rw [← hW]; simp
   rw [hW];clear hW c0 c1 c2 c3 j1 hd;have P8 := zh (zH Ho.out FA.out);have jK := zh (zA Hb.out FA.out);have hW1 := jK.out.size;go_wp2_with (at_builtin; go_must (refine kw rfl (.tmp 38) (.tmp 40) rfl k rfl rfl (P8.out.alloc _) Ns.out (by omega) (Rd.new _ 4 (gZ x) 49 1 rfl (by decide)) ?_); intro w4 eZ gK);have iB := zh eZ;have fQ := zh ((jK.out.alloc hW1 _).grown gK (by simp; omega) (by intro r hr; injection hr with hr; omega));clear eZ gK;go_wp2_with fail;exact ⟨⟨k + 1, i + 1, _, _, rfl, by go_num, by omega, CX.out, iB.out, fQ.out⟩, by simp [intOf]; omega⟩
  have hd : ((i : Int) + 1 == (n : Int)) = false := beq_eq_false_iff_ne.2 (by omega);have VL : i + 1 < n := by omega
  have i2 : (i : Int) + 1 < (n : Int) := by omega
  have i3 : (0 : Int) ≤ (i : Int) + 1 := by omega
  have i4 : ((i : Int) + 1).toNat = i + 1 := by omega
  obtain ⟨_, _, e, d0, _, _, _⟩ := (yj (zr Ho.out)).at VL;injection e with e; injection e with e1 e2; subst e1 e2;simp only [aJ] at d0;rw [Hp.out.at (Nat.le_succ _)] at d0;have P9 := zh (fun h => Fz.out (Or.inr h));have Cq := zh (Ky.out VL);generalize (dX d (i + 1)).key = y at *;have hne : ∀ o n, ((wr.alloc o).drewN n).cell? ⟨g, (i + 1) * 4, none⟩ = some (.int .u64 y) := fun o n => Below.keeps (below_drewN ((aj _ _).alloc (ai _) o) n) _ _ d0
  by_cases DU : y = (dX d i).key
  ·
   have BR := zh (Cq.out DU);generalize dX d i = x at *;have hd2 : (y != x.key) = false := by rw [DU]; simp
   clear DU;go_wp2_with fail
   go_quiet (fail)
   have FA := zh (show Below wr.heap.size wr ((wr.alloc (.cells #[.int .u64 x.key, .int .u32 x.ck, .int .i64 x.off, .int .i64 x.size] 49)).drewN nq) from below_drewN ((aj _ _).alloc (ai _) _) _);clear j1 hd i2 i3 i4;go_wp2_with fail;exact ⟨⟨k, i + 1, _, _, rfl, by go_num, by omega, BR.out, zH Ho.out FA.out, zA Hb.out FA.out⟩, by simp [intOf]; omega⟩
  have CX := zh (P9.out DU);have hd2 : (y != (dX d i).key) = true := bne_iff_ne.2 DU;clear DU;generalize dX d i = x at *;go_wp2_with fail
  go_quiet (fail)
  obtain ⟨W, hW⟩ : ∃ W, (wr.alloc (.cells #[.int .u64 x.key, .int .u32 x.ck, .int .i64 x.off, .int .i64 x.size] 49)).drewN nq = W := ⟨_, rfl⟩
  have FA := zh (show Below wr.heap.size wr W by rw [← hW]; exact below_drewN ((aj _ _).alloc (ai _) _) _);have x0 : W.cell? ⟨wr.heap.size, 0, none⟩ = some (.int .u64 x.key) := by rw [← hW]; simp
  have x1 : W.cell? ⟨wr.heap.size, 1, none⟩ = some (.int .u32 x.ck) := by rw [← hW]; simp
  have x2 : W.cell? ⟨wr.heap.size, 2, none⟩ = some (.int .i64 x.off) := by rw [← hW]; simp
  have x3 : W.cell? ⟨wr.heap.size, 3, none⟩ = some (.int .i64 x.size) := by rw [← hW]; simp
  rw [hW];clear hW c0 c1 c2 c3 j1 hd i2 i3 i4 hd2 d0 hne;have P8 := zh (zH Ho.out FA.out);have jK := zh (zA Hb.out FA.out);have hW1 := jK.out.size;go_wp2_with (at_builtin; go_must (refine kw rfl (.tmp 38) (.tmp 40) rfl k rfl rfl (P8.out.alloc _) Ns.out (by omega) (Rd.new _ 4 (gZ x) 49 1 rfl (by decide)) ?_); intro w4 eZ gK);have iB := zh eZ;have fQ := zh ((jK.out.alloc hW1 _).grown gK (by simp; omega) (by intro r hr; injection hr with hr; omega));clear eZ gK;go_wp2_with fail;exact ⟨⟨k + 1, i + 1, _, _, rfl, by go_num, by omega, CX.out, iB.out, fQ.out⟩, by simp [intOf]; omega⟩
 obtain rfl : i = n := by omega
 have HE := zh (show out = fC l by
  have h := Hp.out.all
  rw [List.drop_eq_nil_of_le (by rw [HL.out]; exact ai _), show uD [] = [] from rfl, bW] at h
  exact h.trans HD.out)
 have HT := zh (vL Ho.out k hki);have nM := zh Hp.out.pre;go_wp2_with fail;go_ret;exact ⟨_, rfl, yI HT.out (by rw [← xl, nM.out, HE.out]), Hb.out⟩
theorem wG (l : List It) (hs : l.length ≤ 1000000) : wR l := by
 cases ha : BL l with
 | true => exact zF2 l ((uh l).1 ha) hs
 | false => exact zFu l ha hs
theorem itE {α : Sort _} (x y : It) (a b : α) : (if x.key = y.key then if x.ck = y.ck then if x.off = y.off then if x.size = y.size then a else b else b else b else b) = if x = y then a else b := by
 obtain ⟨x1, x2, x3, x4⟩ := x;obtain ⟨y1, y2, y3, y4⟩ := y;simp only [It.mk.injEq]
 by_cases h1 : x1 = y1 <;> by_cases h2 : x2 = y2 <;> by_cases h3 : x3 = y3 <;> by_cases h4 : x4 = y4 <;> simp [h1, h2, h3, h4]
theorem zMG (x y : It) (w : World) : (binOp .neq 49 (jB x) (jB y)).run Tryz.prog w = .ok (.bool (!decide (x = y))) w := by
 have u1 := Tryz.underlying24;have u2 := Tryz.underlying47;have u3 := Tryz.underlying2;have u4 := Tryz.underlying3;have hS : Tryz.prog.underlying 49 = some (.struct (Tryz.prog.fieldsOf 49)) := by kernel_rfl
 have hp : Tryz.prog.stoodInHeld 49 = false := by kernel_rfl
 rw [run_neq_struct, show (10000 : Nat) = 9999 + 1 from rfl, run_equalIn_agg w 9999 49 _ _ hS hp];simp only [Program.fieldsOf, Tryz.underlying49]
 go_simp
 exact itE x y _ _ |>.trans (by by_cases e : x = y <;> simp [e])
theorem zKL {l m : List It} (h : l.length = m.length) (h' : ∀ j, j < l.length → dX l j = dX m j) : l = m := by
 refine List.ext_getElem h fun j h1 h2 => ?_
 have := h' j h1;unfold dX at this
 rwa [ax, ax, aB h1, aB h2] at this
theorem zJo (va vb : Value) (l m : List It) (w : World) (ha : iQ w va l) (hb : iQ w vb m) :
  Calls Tryz.prog 158 #[va, vb] w fun e w' => e = .returned (.bool (decide (l = m))) ∧ Below w.heap.size w w' := by
 obtain ⟨a1, c1, rfl, p1, p2⟩ := ha.shape;obtain ⟨a2, c2, rfl, _, _⟩ := hb.shape;have hm := BM p1 p2
 by_cases hl : l.length = m.length
 ·
  have HT := zh (show (∀ j, j < l.length → dX l j = dX m j) → l = m from zKL hl);rw [← hl] at hb ⊢;generalize hn : l.length = n at *;have Ha := zh ha;have Hb := zh hb;have hnn : ((n : Int) != (n : Int)) = false := by simp
  clear ha hb hl hn p1 p2
  go_enter Tryz.func158, Tryz.ntmps158
  go_wp2_with fail;clear hnn
  go_loopw [5] (fun kv wr => ∃ k : Nat, kv = .int .i64 (k : Int) ∧ k ≤ n ∧ (∀ j, j < k → dX l j = dX m j) ∧ Below w.heap.size w wr) (fun kv _ => n - (intOf kv).toNat)
  case atStart => exact ⟨0, rfl, by omega, fun j hj => absurd hj (by omega), aj _ _⟩
  obtain ⟨k, rfl, hk, heq, nE⟩ := hrel;have VM := zh heq;have C6 := zh nE;clear heq nE
  by_cases hlt : k < n
  ·
   obtain ⟨b1, o1, rfl, x0, x1, x2, x3⟩ := (Ha.out.below C6.out).at hlt;obtain ⟨b2, o2, rfl, y0, y1, y2, y3⟩ := (Hb.out.below C6.out).at hlt;have hq := zMG (dX l k) (dX m k);have HN := zh (show dX l k ≠ dX m k → decide (l = m) = false from fun h => aD fun e => h (by rw [e]));generalize hx : dX l k = x at *;generalize hy : dX m k = y at *;have HX := zh hx;have HY := zh hy;have i1 : (k : Int) < (n : Int) := by omega
   obtain ⟨r, hr⟩ : ∃ r, decide (x = y) = r := ⟨_, rfl⟩
   rw [hr] at hq;have HR := zh hr;clear hx hy hr
   cases r
   ·
    go_wp2_with fail
    go_quiet (fail)
    clear i1 hq;go_wp2_with fail;go_ret;exact ⟨zE (HN.out (cD HR.out)).symm, below_drewN C6.out _⟩
   go_wp2_with fail
   go_quiet (fail)
   clear i1 hq;go_wp2_with fail;refine ⟨⟨k + 1, by go_num, by omega, fun j hj => ?_, below_drewN C6.out _⟩, by simp [intOf]; omega⟩
   by_cases e : j = k
   ·
    rw [e, HX.out, HY.out]; exact aY HR.out
   exact VM.out j (by omega)
  obtain rfl : k = n := by omega
  have HN := zh (show decide (l = m) = true from aF (HT.out VM.out));go_wp2_with fail;go_ret;exact ⟨zE HN.out.symm, C6.out⟩
 have hne : ((l.length : Int) != (m.length : Int)) = true := by rw [bne_iff_ne]; omega
 have HN := zh (show decide (l = m) = false from aD fun e => hl (by rw [e]));clear hl ha hb
 go_enter Tryz.func158, Tryz.ntmps158
 go_wp2_with fail;go_ret;exact ⟨zE HN.out.symm, aj _ _⟩
theorem zHU (v : Value) (l : List It) (key : Int) (w : World) (h : iQ w v l) (hs : l.length ≤ 1000000) :
  Calls Tryz.prog 165 #[v, .int .u64 key] w fun e w' => e = .returned (.tuple #[jB ((fG (fC l) key).getD fJ), .bool (fG (fC l) key).isSome]) ∧ Below w.heap.size w w' := by
 obtain ⟨a, cap, rfl, _, _⟩ := h.shape;have HA := zh (fun r (h1 : r < l.length) h2 h3 => zKa (l := l) (key := key) (r := r) h1 h2 h3);have HN := zh (fun h => zHa (l := l) (key := key) h);generalize fG (fC l) key = ff at *;generalize hn : l.length = n at *;have Hr := zh h;have HW := zh (show Below w.heap.size w (w.alloc (.cells #[.int .u64 0, .int .u32 0, .int .i64 0, .int .i64 0] 49)) from z8 w fJ);have HX := zh (jH.new w fJ);clear h hn
 go_enter Tryz.func165, Tryz.ntmps165
 go_wp2_with fail
 go_loop [6] (fun iv => ∃ i : Nat, iv = .int .i64 ((i : Int) - 1) ∧ i ≤ n ∧ Hid (∀ j, i ≤ j → j < n → (dX l j).key ≠ key)) (fun iv => (intOf iv + 1).toNat)
 case atStart => exact ⟨n, by go_num, ai _, fun j h1 h2 => by omega⟩
 obtain ⟨i, rfl, hi, hno⟩ := hrel
 by_cases h0 : 0 < i
 ·
  obtain ⟨r, rfl⟩ : ∃ r, i = r + 1 := ⟨i - 1, by omega⟩
  obtain ⟨b, off, rfl, c0, c1, c2, c3⟩ := (Hr.out.below HW.out).at (show r < n by omega);have e0 : ((r + 1 : Nat) : Int) - 1 = (r : Int) := by omega
  have i1 : (r : Int) < (n : Int) := by omega
  by_cases hk : (dX l r).key = key
  ·
   have HF := zh (HA.out r (by omega) hk (fun j h1 h2 => hno.out j (by omega) h2));have hd : ((dX l r).key == key) = true := beq_iff_eq.2 hk;rw [e0];generalize dX l r = x at *;clear hk e0 h0;go_wp2_with fail;exact aw (v := .tuple #[jB x, .bool true]) (by simp [results, Tryz.results165, go_sem]) rfl ⟨by rw [HF.out]; rfl, z8 w x⟩
  have hd : ((dX l r).key == key) = false := beq_eq_false_iff_ne.2 hk;have HK := zh hk;rw [e0];generalize hx : (dX l r).key = x at *;have fU := zh hx;clear hk e0 h0 hx;go_wp2_with fail;refine ⟨⟨r, by go_num, by omega, fun j h1 h2 => ?_⟩, by simp [intOf]⟩
  by_cases e : j = r
  ·
   rw [e, fU.out]; exact HK.out
  exact hno.out j (by omega) h2
 obtain rfl : i = 0 := by omega
 have HF := zh (HN.out (fun j hj => hno.out j (au _) hj));go_wp2_with fail;exact aw (v := .tuple #[jB fJ, .bool false]) (by simp [results, Tryz.results165, go_sem, fJ]) rfl ⟨by rw [HF.out]; rfl, z8 w fJ⟩
theorem qt (W : World) (x : It) : Rd (W.alloc (xF x)) 4 (.slice (some ⟨W.heap.size, 0, none⟩) 1 1) 1 (gZ x) := Rd.new W 4 (gZ x) 49 1 rfl (by decide)
theorem zHJ (v : Value) (l : List It) (key : Int) (w : World) (h : iQ w v l) (hs : l.length ≤ 1000000) :
  Calls Tryz.prog 126 #[v, .int .u64 key] w fun e w' => ∃ v', e = .returned v' ∧ fg w' w.heap.size v' (gl (fC l) key) ∧ Below w.heap.size w w' := by
 have HS := zh (qA v l w h hs);have hsl := yU l;obtain ⟨a, cap, rfl, _, _⟩ := h.shape;generalize fC l = s at *;have HD := zh (fun i (h : i < s.length) => show gl (s.take (i + 1)) key = gl (s.take i) key ++ if (dX s i).key = key then [] else [dX s i] by rw [xB h, zI3]);have HE := zh (show gl (s.take s.length) key = gl s key by rw [ct]);have HL := zh (fun i => show (gl (s.take i) key).length ≤ s.length from ak (uZ _ _) (by rw [ay]; omega));clear h
 go_enter Tryz.func126, Tryz.ntmps126
 go_wp2_with fail;refine HS.out.mono ?_; rintro e w1 ⟨v1, rfl, hown1, hb1⟩;have HR := zh hown1.rd;have eQ := zh hb1;have hB1 := hb1.size;clear hown1 hb1 HS;obtain ⟨sa, sc, rfl, hs1, hs2⟩ := HR.out.shape;have hs3 := BM hs1 hs2;generalize hn : s.length = n at *;clear hn;go_wp2_with fail
 go_loopw [5, 6] (fun ov iv wr => ∃ i : Nat, iv = .int .i64 (i : Int) ∧ i ≤ n ∧ fg wr w1.heap.size ov (gl (s.take i) key) ∧ Below w1.heap.size w1 wr) (fun _ iv _ => n - (intOf iv).toNat)
 case atStart => exact ⟨0, by go_num, by omega, aU _ _ _ _, aj _ _⟩
 obtain ⟨i, rfl, hi, hown, hb⟩ := hrel;have HO := zh (show wr.ownsRow w1.heap.size 49 4 _ (gl (s.take i) key).length (zU (gl (s.take i) key)) from hown);have Hb := zh hb;have hB := hb.size;clear hown hb
 by_cases hlt : i < n
 ·
  obtain ⟨b, off, rfl, c0, c1, c2, c3⟩ := (HR.out.below Hb.out).at hlt;have i1 : (i : Int) < (n : Int) := by omega
  have Nt := zh (HD.out i hlt);have hLi := HL.out i
  by_cases hk : (dX s i).key = key
  ·
   have hd : ((dX s i).key != key) = false := by rw [hk]; simp
   rw [ag hk, bW] at Nt;generalize dX s i = x at *;clear hk;go_wp2_with fail;exact ⟨⟨i + 1, by go_num, by omega, by rw [Nt.out]; exact HO.out, Hb.out⟩, by simp [intOf]; omega⟩
  have hd : ((dX s i).key != key) = true := bne_iff_ne.2 hk;rw [ah hk] at Nt;generalize dX s i = x at *;generalize gl (s.take i) key = o at *;clear hk;go_wp2_with (at_builtin; go_must (refine zd (m := 1) (n := o.length) rfl (.tmp 22) (.tmp 27) 33 rfl yE w1.heap.size rfl (HO.out.alloc _) rfl (qt wr x) (zn [x]) (by unfold maxLen; omega) (by omega) (by simp; omega) ?_); intro v8 w8 fD gM Au; clear Au);have mD := zh (show fg w8 w1.heap.size v8 (o ++ [x]) from yI fD (by simp only [zu, xM]));have lZ := zh (zM (Hb.out.alloc hB (xF x)) (HO.out.alloc (xF x)) (by simp; omega) gM);clear fD gM;go_wp2_with fail;exact ⟨⟨i + 1, by go_num, by omega, by rw [Nt.out]; exact mD.out, lZ.out⟩, by simp [intOf]; omega⟩
 obtain rfl : i = n := by omega
 go_wp2_with fail;go_ret;exact ⟨_, rfl, by rw [← HE.out]; exact HO.out.mono hB1, eQ.out.trans (Hb.out.mono hB1)⟩
theorem zJU (v : Value) (l : List It) (x : It) (w : World) (h : iQ w v l) (hs : l.length ≤ 1000000) :
  Calls Tryz.prog 128 #[v, jB x] w fun e w' => ∃ v', e = .returned v' ∧ fg w' w.heap.size v' (ins (fC l) x) ∧ Below w.heap.size w w' := by
 have HS := zh (fun w h => qA v l w h hs);have VN := zh (jH.new w x);have eD := zh (z8 w x);have Hr := zh (h.below eD.out);have hsl := yU l;have hsa := zh (wi l);obtain ⟨a, cap, rfl, _, _⟩ := h.shape;generalize fC l = s at *;have FB := zh (fun out (h : gF s x s.length true out) => h.PD);have HE0 := zh (fun out (h : gF s x s.length false out) => h.PE);have P_ := zh (fun i out (h : gF s x i false out) (hi : i < s.length) => h.low hi);have Kz := zh (fun i out (h : gF s x i false out) (hi : i < s.length) => h.here hi);have Gz := zh (fun i out (h : gF s x i false out) (hi : i < s.length) => h.ahead hi);have KA := zh (fun i out (h : gF s x i true out) (hi : i < s.length) => h.more hi);have Qa := zh (fun i out (h : gF s x i true out) (hi : i < s.length) => h.gt hsa.out hi);clear h
 go_enter Tryz.func128, Tryz.ntmps128
 go_wp2_with fail;refine (HS.out _ Hr.out).mono ?_; rintro e w1 ⟨v1, rfl, hown1, hb1⟩;have HR := zh hown1.rd;have fp := zh (VN.out.below hb1);have eQ := zh (zA eD.out hb1);have hB1 := eQ.out.size;clear hown1 hb1 HS VN eD;obtain ⟨sa, sc, rfl, hs1, hs2⟩ := HR.out.shape;have hs3 := BM hs1 hs2;generalize hn : s.length = n at *;clear hn;go_wp2_with fail
 go_loopw [5, 6, 7] (fun ov dv iv wr => ∃ (i : Nat) (d : Bool) (out : List It), dv = .bool d ∧ iv = .int .i64 (i : Int) ∧ i ≤ n ∧ Hid (gF s x i d out) ∧ fg wr w1.heap.size ov out ∧ Below w1.heap.size w1 wr) (fun _ _ iv _ => n - (intOf iv).toNat)
 case atStart => exact ⟨0, false, [], rfl, by go_num, by omega, gF.start s x, aU _ _ _ _, aj _ _⟩
 obtain ⟨i, d, out, rfl, rfl, hi, HP, hown, hb⟩ := hrel;have HO := zh (show wr.ownsRow w1.heap.size 49 4 _ out.length (zU out) from hown);have Hb := zh hb;have hB := hb.size;have hlo := HP.out.len;obtain ⟨x0, x1, x2, x3⟩ := fp.out.below hb;clear hown hb
 by_cases hlt : i < n
 ·
  obtain ⟨b, off, rfl, c0, c1, c2, c3⟩ := (HR.out.below Hb.out).at hlt;have i1 : (i : Int) < (n : Int) := by omega
  have lj := zh (fp.out.below Hb.out);have KB := zh (show ∃ y, dX s i = y from ⟨_, rfl⟩);obtain ⟨y, hy⟩ := KB.out;have HY := zh hy;have EA := Hb;have EB := HO;rw [hy] at c0 c1 c2 c3
  cases d with
  | true =>
   have HG := Qa.out i out HP.out hlt;have HM := zh (KA.out i out HP.out hlt);rw [hy] at HG HM;have hd : (y.key != x.key) = true := bne_iff_ne.2 (by omega);clear hy KB HG Hb HO;go_wp2_with fail
   go_quiet (fail)
   obtain ⟨wa, hW, l5⟩ : ∃ wa, wr.drewN nq = wa ∧ Below wr.heap.size wr wa := ⟨_, rfl, below_drewN (aj _ _) _⟩
   rw [hW];clear hW;have iY := zh (zA EA.out l5);have ry := zh (zH EB.out l5);clear c0 c1 c2 c3 x0 x1 x2 x3 l5;obtain ⟨_, _, e, c0, c1, c2, c3⟩ := (HR.out.below iY.out).at hlt;injection e with e; injection e with e1 e2; subst e1 e2;rw [HY.out] at c0 c1 c2 c3;obtain ⟨x0, x1, x2, x3⟩ := fp.out.below iY.out;go_wp2_with fail
   go_quiet (fail)
   obtain ⟨wb, hW, Av⟩ : ∃ wb, wa.drewN nq = wb ∧ Below wa.heap.size wa wb := ⟨_, rfl, below_drewN (aj _ _) _⟩
   rw [hW];clear hW;have iZ := zh (zA iY.out Av);have rA := zh (zH ry.out Av);clear c0 c1 c2 c3 x0 x1 x2 x3 Av;obtain ⟨_, _, e, c0, c1, c2, c3⟩ := (HR.out.below iZ.out).at hlt;injection e with e; injection e with e1 e2; subst e1 e2;rw [HY.out] at c0 c1 c2 c3;obtain ⟨x0, x1, x2, x3⟩ := fp.out.below iZ.out;go_wp2_with (at_builtin; go_must (refine zd (m := 1) rfl (.tmp 40) (.tmp 45) 33 rfl yE w1.heap.size rfl (rA.out.alloc _) rfl (qt wb y) (zn [y]) (by unfold maxLen; omega) (by omega) (by have := iZ.out.size; simp; omega) ?_); intro Qb wc fD gM Au; clear Au);have sJ := zh (show wc.ownsRow w1.heap.size 49 4 Qb (out ++ [y]).length (zU (out ++ [y])) from yI fD (by simp only [zu, xM]));have mE := zh (zM (iZ.out.alloc iZ.out.size (xF y)) (rA.out.alloc (xF y)) (by have := iZ.out.size; simp; omega) gM);clear fD gM;go_wp2_with fail
   exact ⟨⟨i + 1, true, _, rfl, by go_num, by omega, HM, sJ.out, mE.out⟩, by simp [intOf]; omega⟩
  | false =>
   rcases Int.lt_trichotomy y.key x.key with hk | hk | hk
   ·
    have HM := zh (P_.out i out HP.out hlt (by rw [hy]; exact hk));rw [hy] at HM;have hd : (y.key != x.key) = true := bne_iff_ne.2 (by omega);have hd2 : decide (x.key ≤ y.key) = false := aD (by omega);clear hy KB hk Hb HO;go_wp2_with fail
    go_quiet (fail)
    obtain ⟨wa, hW, l5⟩ : ∃ wa, wr.drewN nq = wa ∧ Below wr.heap.size wr wa := ⟨_, rfl, below_drewN (aj _ _) _⟩
    rw [hW];clear hW;have iY := zh (zA EA.out l5);have ry := zh (zH EB.out l5);clear c0 c1 c2 c3 x0 x1 x2 x3 l5;obtain ⟨_, _, e, c0, c1, c2, c3⟩ := (HR.out.below iY.out).at hlt;injection e with e; injection e with e1 e2; subst e1 e2;rw [HY.out] at c0 c1 c2 c3;obtain ⟨x0, x1, x2, x3⟩ := fp.out.below iY.out;go_wp2_with fail
    go_quiet (fail)
    obtain ⟨wb, hW, Av⟩ : ∃ wb, wa.drewN nq = wb ∧ Below wa.heap.size wa wb := ⟨_, rfl, below_drewN (aj _ _) _⟩
    rw [hW];clear hW;have iZ := zh (zA iY.out Av);have rA := zh (zH ry.out Av);clear c0 c1 c2 c3 x0 x1 x2 x3 Av;obtain ⟨_, _, e, c0, c1, c2, c3⟩ := (HR.out.below iZ.out).at hlt;injection e with e; injection e with e1 e2; subst e1 e2;rw [HY.out] at c0 c1 c2 c3;obtain ⟨x0, x1, x2, x3⟩ := fp.out.below iZ.out;go_wp2_with (at_builtin; go_must (refine zd (m := 1) rfl (.tmp 40) (.tmp 45) 33 rfl yE w1.heap.size rfl (rA.out.alloc _) rfl (qt wb y) (zn [y]) (by unfold maxLen; omega) (by omega) (by have := iZ.out.size; simp; omega) ?_); intro Qb wc fD gM Au; clear Au);have sJ := zh (show wc.ownsRow w1.heap.size 49 4 Qb (out ++ [y]).length (zU (out ++ [y])) from yI fD (by simp only [zu, xM]));have mE := zh (zM (iZ.out.alloc iZ.out.size (xF y)) (rA.out.alloc (xF y)) (by have := iZ.out.size; simp; omega) gM);clear fD gM;go_wp2_with fail
    exact ⟨⟨i + 1, false, _, rfl, by go_num, by omega, HM, sJ.out, mE.out⟩, by simp [intOf]; omega⟩
   ·
    have HM := zh (Kz.out i out HP.out hlt (by rw [hy]; exact hk));have hd : (y.key != x.key) = false := by rw [hk]; simp
    have hd2 : decide (x.key ≤ y.key) = true := aF (by omega);have Cr : x.key ≤ y.key := by omega
    clear hy KB hk Hb HO;go_wp2_with fail
    go_quiet (fail)
    obtain ⟨wa, hW, l5⟩ : ∃ wa, wr.drewN nq = wa ∧ Below wr.heap.size wr wa := ⟨_, rfl, below_drewN (aj _ _) _⟩
    rw [hW];clear hW;have iY := zh (zA EA.out l5);have ry := zh (zH EB.out l5);clear c0 c1 c2 c3 x0 x1 x2 x3 l5;obtain ⟨_, _, e, c0, c1, c2, c3⟩ := (HR.out.below iY.out).at hlt;injection e with e; injection e with e1 e2; subst e1 e2;rw [HY.out] at c0 c1 c2 c3;obtain ⟨x0, x1, x2, x3⟩ := fp.out.below iY.out;go_upto_region 9 with (at_builtin; go_must (refine zd (m := 1) rfl (.tmp 28) (.tmp 30) 33 rfl yE w1.heap.size rfl (ry.out.alloc _) rfl (qt wa x) (zn [x]) (by unfold maxLen; omega) (by omega) (by have := iY.out.size; simp; omega) ?_); intro Qc wb fD gM Au; clear Au);have rA := zh (show wb.ownsRow w1.heap.size 49 4 Qc (out ++ [x]).length (zU (out ++ [x])) from yI fD (by simp only [zu, xM]));have iZ := zh (zM (iY.out.alloc iY.out.size (xF x)) (ry.out.alloc (xF x)) (by have := iY.out.size; simp; omega) gM);clear fD gM;clear c0 c1 c2 c3 x0 x1 x2 x3
    obtain ⟨_, _, e, c0, c1, c2, c3⟩ := (HR.out.below iZ.out).at hlt;injection e with e; injection e with e1 e2; subst e1 e2;rw [HY.out] at c0 c1 c2 c3;obtain ⟨x0, x1, x2, x3⟩ := fp.out.below iZ.out;go_wp2_with fail
    go_quiet (fail)
    obtain ⟨wc, hW, Aw⟩ : ∃ wc, wb.drewN nq = wc ∧ Below wb.heap.size wb wc := ⟨_, rfl, below_drewN (aj _ _) _⟩
    rw [hW];clear hW;have mE := zh (zA iZ.out Aw);have sJ := zh (zH rA.out Aw);clear c0 c1 c2 c3 x0 x1 x2 x3 Aw;obtain ⟨_, _, e, c0, c1, c2, c3⟩ := (HR.out.below mE.out).at hlt;injection e with e; injection e with e1 e2; subst e1 e2;rw [HY.out] at c0 c1 c2 c3;obtain ⟨x0, x1, x2, x3⟩ := fp.out.below mE.out;go_wp2_with fail;exact ⟨⟨i + 1, true, _, rfl, by go_num, by omega, HM, sJ.out, mE.out⟩, by simp [intOf]; omega⟩
   have HM := zh (Gz.out i out HP.out hlt (by rw [hy]; exact hk));rw [hy] at HM;have hd : (y.key != x.key) = true := bne_iff_ne.2 (by omega);have hd2 : decide (x.key ≤ y.key) = true := aF (by omega);have Cr : x.key ≤ y.key := by omega
   clear hy KB hk Hb HO;go_wp2_with fail
   go_quiet (fail)
   obtain ⟨wa, hW, l5⟩ : ∃ wa, wr.drewN nq = wa ∧ Below wr.heap.size wr wa := ⟨_, rfl, below_drewN (aj _ _) _⟩
   rw [hW];clear hW;have iY := zh (zA EA.out l5);have ry := zh (zH EB.out l5);clear c0 c1 c2 c3 x0 x1 x2 x3 l5;obtain ⟨_, _, e, c0, c1, c2, c3⟩ := (HR.out.below iY.out).at hlt;injection e with e; injection e with e1 e2; subst e1 e2;rw [HY.out] at c0 c1 c2 c3;obtain ⟨x0, x1, x2, x3⟩ := fp.out.below iY.out;go_upto_region 9 with (at_builtin; go_must (refine zd (m := 1) rfl (.tmp 28) (.tmp 30) 33 rfl yE w1.heap.size rfl (ry.out.alloc _) rfl (qt wa x) (zn [x]) (by unfold maxLen; omega) (by omega) (by have := iY.out.size; simp; omega) ?_); intro Qc wb fD gM Au; clear Au);have rA := zh (show wb.ownsRow w1.heap.size 49 4 Qc (out ++ [x]).length (zU (out ++ [x])) from yI fD (by simp only [zu, xM]));have iZ := zh (zM (iY.out.alloc iY.out.size (xF x)) (ry.out.alloc (xF x)) (by have := iY.out.size; simp; omega) gM);clear fD gM;clear c0 c1 c2 c3 x0 x1 x2 x3
   obtain ⟨_, _, e, c0, c1, c2, c3⟩ := (HR.out.below iZ.out).at hlt;injection e with e; injection e with e1 e2; subst e1 e2;rw [HY.out] at c0 c1 c2 c3;obtain ⟨x0, x1, x2, x3⟩ := fp.out.below iZ.out;go_wp2_with fail
   go_quiet (fail)
   obtain ⟨wc, hW, Aw⟩ : ∃ wc, wb.drewN nq = wc ∧ Below wb.heap.size wb wc := ⟨_, rfl, below_drewN (aj _ _) _⟩
   rw [hW];clear hW;have mE := zh (zA iZ.out Aw);have sJ := zh (zH rA.out Aw);clear c0 c1 c2 c3 x0 x1 x2 x3 Aw;obtain ⟨_, _, e, c0, c1, c2, c3⟩ := (HR.out.below mE.out).at hlt;injection e with e; injection e with e1 e2; subst e1 e2;rw [HY.out] at c0 c1 c2 c3;obtain ⟨x0, x1, x2, x3⟩ := fp.out.below mE.out;go_wp2_with (at_builtin; go_must (refine zd (m := 1) rfl (.tmp 40) (.tmp 45) 33 rfl yE w1.heap.size rfl (sJ.out.alloc _) rfl (qt wc y) (zn [y]) (by unfold maxLen; simp only [aA, List.length_singleton]; omega) (by simp only [aA, List.length_singleton]; omega) (by have := mE.out.size; simp; omega) ?_); intro vwd wd fD gM Au; clear Au);have Qd := zh (show wd.ownsRow w1.heap.size 49 4 vwd ((out ++ [x]) ++ [y]).length (zU ((out ++ [x]) ++ [y])) from yI fD (by simp only [zu, xM]))
   have Qe := zh (zM (mE.out.alloc mE.out.size (xF y)) (sJ.out.alloc (xF y)) (by have := mE.out.size; simp; omega) gM);clear fD gM;go_wp2_with fail;exact ⟨⟨i + 1, true, _, rfl, by go_num, by omega, HM, Qd.out, Qe.out⟩, by simp [intOf]; omega⟩
 obtain rfl : i = n := by omega
 cases d with
 | true =>
  have HE := zh (FB.out out HP.out);go_wp2_with fail;go_ret;exact ⟨_, rfl, by rw [← HE.out]; exact HO.out.mono hB1, eQ.out.trans (Hb.out.mono hB1)⟩
 | false =>
  have HE := zh (HE0.out out HP.out);go_wp2_with (at_builtin; go_must (refine zd (m := 1) (n := out.length) rfl (.tmp 49) (.tmp 51) 33 rfl yE w1.heap.size rfl (HO.out.alloc _) rfl (qt wr x) (zn [x]) (by unfold maxLen; omega) (by omega) (by simp; omega) ?_); intro v8 w8 fD gM Au; clear Au);have mD := zh (show fg w8 w1.heap.size v8 (out ++ [x]) from yI fD (by simp only [zu, xM]));have lZ := zh (zM (Hb.out.alloc hB (xF x)) (HO.out.alloc (xF x)) (by simp; omega) gM);clear fD gM;go_wp2_with fail;go_ret;exact ⟨_, rfl, by rw [← HE.out]; exact mD.out.mono hB1, eQ.out.trans (lZ.out.mono hB1)⟩
def zI (M : Mp) : List It := if yw M = true then fC (vA M) else []
def ze (M : Mp) (key : Int) : Option It := if yw M = true then fG (M.st (fl key)) key else none
theorem yV (M : Mp) : jZ (zI M) := by
 unfold zI
 split
 ·
  exact wi _
 exact fun j h => by simp at h
theorem vO (M : Mp) (key : Int) : fG (fC (zI M)) key = ze M key := by
 rw [yK (yV M)];unfold zI ze
 split
 ·
  rename_i h; exact ((zV M).1 h).fG key
 rfl
theorem tR {M : Mp} (h : ∀ i, i < 8 → (M.st i).length ≤ 10000) : (vA M).length ≤ 80000 := qZ (M := M) (B := 10000) h 8 (ai _)
theorem wK {M : Mp} (h : ∀ i, i < 8 → (M.st i).length ≤ 10000) : (zI M).length ≤ 80000 := by
 unfold zI
 split
 ·
  exact ak (yU _) (tR h)
 simp
theorem zGu (v : Value) (l : List It) (w : World) (h : iQ w v l) (hs : l.length ≤ 80000) :
  Calls Tryz.prog 132 #[.slice none 0 0, v, .slice none 0 0] w fun e w' => ∃ v', e = .returned v' ∧ fg w' w.heap.size v' (fC l) ∧ Below w.heap.size w w' := by
 have := zHi (.slice none 0 0) v (.slice none 0 0) [] l [] w (yj (zr (aU w 0 49 4))) h (kJ (aU w 0 24 1)) (wG _ (by simp)) (wG _ (by omega)) (wG _ (by have := yU l; rw [aA]; have h0 := UQ [] (fC []); rw [Uy] at h0 ⊢; simp at h0; simp [h0]; omega)) (by simp) (by omega)
 rwa [zKj] at this
theorem VO (s : Sl) (M : Mp) (w : World) (h : fw w s M.st) (hs : ∀ i, i < 8 → (M.st i).length ≤ 10000) :
  Calls Tryz.prog 89 #[yA s M.live M.dW] w fun e w' => ∃ v', e = .returned v' ∧ fg w' w.heap.size v' (zI M) ∧ Below w.heap.size w w' := by
 have HV := zh (fun W h => vS s M W h (fun i hi => ak (hs i hi) (by decide)));have eE := zh (eB.new w s M.live M.dW 36);have eD := zh (zP w s M.live M.dW 36);have Hr := zh h;have HC := zh (fun b W hx h => zFp b s M.live M.dW M.st W hx h (ak (tR hs) (by decide)));have HM := zh (fun v W h => zGu v (vA M) W h (tR hs));have HI := zh (show zI M = if yw M = true then fC (vA M) else [] from rfl);rw [show cat M.st 8 = vA M from rfl] at HC;clear h hs;generalize yw M = vb at *;generalize vA M = A at *;generalize zI M = I at *;obtain ⟨f, L, G⟩ := M;dsimp only at *
 go_enter Tryz.func89, Tryz.ntmps89
 go_wp2_with fail;refine (HV.out _ (Hr.out.below eD.out)).mono ?_; rintro e w1 ⟨rfl, hb1⟩;have eQ := zh (zA eD.out hb1);have fp := zh (eE.out.below hb1);have eY := zh (Hr.out.below eQ.out);clear hb1 HV eE eD
 cases vb
 ·
  go_wp2_with fail;go_ret;exact ⟨_, rfl, by rw [HI.out, ah (by decide)]; exact aU _ _ _ _, eQ.out⟩
 rw [ag rfl] at HI;go_wp2_with fail;refine (HC.out _ _ fp.out eY.out).mono ?_; rintro e w2 ⟨v2, rfl, ew, hb2⟩;have eP := zh (zA eQ.out hb2);have fZ := zh ew.rd;have HMg := zh (HM.out v2 w2 ew.rd);clear ew hb2;go_wp2_with fail;refine HMg.out.mono ?_; rintro e w3 ⟨v3, rfl, ei, hb3⟩;have lB := zh (ei.mono eP.out.size);have fV := zh (zA eP.out hb3);clear ei hb3;go_wp2_with fail;go_ret;exact ⟨_, rfl, by rw [HI.out]; exact lB.out, fV.out⟩
structure gC (W : World) (b : Nat) (x : It) : Prop where
 t : jH W b x
 f : ∀ i, W.frozen? ⟨b, i, none⟩ = false
theorem gC.new (w : World) (x : It) : gC (w.alloc (xF x)) w.heap.size x := ⟨jH.new w x, fun i => by simp⟩
theorem gC.lt {W : World} {b : Nat} {x : It} (h : gC W b x) : b < W.heap.size := cI _ ⟨b, 0, none⟩ h.t.c0
theorem gC.below {W W' : World} {b : Nat} {x : It} (h : gC W b x) (hb : Below W.heap.size W W') : gC W' b x := ⟨h.t.below hb, fun i => (hb.frozen (p := ⟨b, i, none⟩) h.lt).trans (h.f i)⟩
theorem gC.ea {W : World} {b : Nat} {x : It} (h : gC W b x) {p : Addr} (hp : p.block ≠ b) (u : Value) : gC (W.setCell p u) b x := by
 have ne : ∀ i, p ≠ ⟨b, i, none⟩ := fun i e => hp (by rw [e])
 exact ⟨⟨(cA (h := ne 0) ..).trans h.t.c0, (cA (h := ne 1) ..).trans h.t.c1, (cA (h := ne 2) ..).trans h.t.c2, (cA (h := ne 3) ..).trans h.t.c3⟩, fun i => by simp [h.f]⟩
theorem gC.mr {W : World} {b c : Nat} {x : It} (h : gC W b x) (hp : c ≠ b) (s' : Sl) (l' g' : Int) : gC (yC W c s' l' g') b x :=
 (((((((((h.ea (p := ⟨c, 0, none⟩) hp _).ea (p := ⟨c, 1, none⟩) hp _).ea (p := ⟨c, 2, none⟩) hp _).ea (p := ⟨c, 3, none⟩) hp _).ea (p := ⟨c, 4, none⟩) hp _).ea (p := ⟨c, 5, none⟩) hp _).ea (p := ⟨c, 6, none⟩) hp _).ea (p := ⟨c, 7, none⟩) hp _).ea (p := ⟨c, 8, none⟩) hp _).ea (p := ⟨c, 9, none⟩) hp _
def EC (W : World) (b : Nat) (y : It) : World := (((W.setCell ⟨b, 0, none⟩ (.int .u64 y.key)).setCell ⟨b, 1, none⟩ (.int .u32 y.ck)).setCell ⟨b, 2, none⟩ (.int .i64 y.off)).setCell ⟨b, 3, none⟩ (.int .i64 y.size)
theorem gC.put {W : World} {b : Nat} {x : It} (h : gC W b x) (y : It) : gC (EC W b y) b y := ⟨h.t.set y, fun i => by simp [EC, h.f]⟩
theorem uf {B b : Nat} {w0 W : World} (h : Below B w0 W) (hb : B ≤ b) (y : It) : Below B w0 (EC W b y) := (((h.setCell hb _).setCell hb _).setCell hb _).setCell hb _
theorem zJt (s : Sl) (M : Mp) (w : World) (h : fw w s M.st) (hs : ∀ i, i < 8 → (M.st i).length ≤ 10000) :
  Calls Tryz.prog 86 #[yA s M.live M.dW] w fun e w' => e = .returned (.int .i64 ((zI M).length : Int)) ∧ Below w.heap.size w w' := by
 have eD := zh (zP w s M.live M.dW 36);have HI := zh (VO s M _ (h.below eD.out) hs);generalize zI M = I at *;clear h hs;obtain ⟨f, L, G⟩ := M;dsimp only at *
 go_enter Tryz.func86, Tryz.ntmps86
 go_wp2_with fail;refine HI.out.mono ?_; rintro e w1 ⟨v1, rfl, hown1, hb1⟩;have eQ := zh (zA eD.out hb1);obtain ⟨a, c, hv, _⟩ := zO hown1;subst hv;clear hown1 hb1;go_wp2_with fail;go_ret;exact ⟨rfl, eQ.out⟩
theorem VP (s : Sl) (M : Mp) (key : Int) (w : World) (h : fw w s M.st) (hs : ∀ i, i < 8 → (M.st i).length ≤ 10000) :
  Calls Tryz.prog 95 #[yA s M.live M.dW, .int .u64 key] w fun e w' => e = .returned (.tuple #[jB ((ze M key).getD fJ), .bool (ze M key).isSome]) ∧ Below w.heap.size w w' := by
 have HV := zh (fun W h => vS s M W h (fun i hi => ak (hs i hi) (by decide)));have eE := zh ((eB.new w s M.live M.dW 36).below (z8 (w.alloc (.cells (yN s M.live M.dW) 36)) fJ));have GD := zh (gC.new (w.alloc (.cells (yN s M.live M.dW) 36)) fJ);rw [show (w.alloc (.cells (yN s M.live M.dW) 36)).heap.size = w.heap.size + 1 by simp] at GD;have eD := zh (zA (zP w s M.live M.dW 36) (z8 (w.alloc (.cells (yN s M.live M.dW) 36)) fJ));have Hr := zh h;have jJ := wS key;have HF := zh (fun W h => UF (s.v (fl key)) (M.st (fl key)) key W h (wG _ (ak (hs _ jJ) (by decide))) (ak (hs _ jJ) (by decide)));have HS := zh (fun W => ut key W);have HI := zh (show ze M key = if yw M = true then fG (M.st (fl key)) key else none from rfl);have HA := zh (fun h : yw M = true => yK (vt (((zV M).1 h).ok _ jJ)));have pP := zh (fun W (hb : Below w.heap.size w W) => (h (fl key) jJ).below hb);clear h hs
 generalize ze M key = o at *;generalize yw M = vb at *;generalize fl key = k at *;obtain ⟨f, L, G⟩ := M;dsimp only at *
 go_enter Tryz.func95, Tryz.ntmps95
 go_wp2_with fail;refine (HV.out _ (Hr.out.below eD.out)).mono ?_; rintro e w1 ⟨rfl, hb1⟩;have eQ := zh (zA eD.out hb1);have fp := zh (eE.out.below hb1);have Jo := zh (GD.out.below hb1);clear hb1 HV eE eD GD;obtain ⟨d0, d1, d2, d3⟩ := Jo.out.t.q;have F1 := Jo.out.f
 cases vb
 ·
  have nN := zh (HI.out.trans (ah (by decide)));go_wp2_with fail;change bodyPost _ _ _ _ _ (EC w1 (w.heap.size + 1) fJ);have hby := Jo.out.put fJ;have ek := zh (uf eQ.out (Nat.le_succ _) fJ);generalize EC w1 (w.heap.size + 1) fJ = V at *;obtain ⟨y0, y1, y2, y3⟩ := hby.t.q;exact aw (v := .tuple #[jB fJ, .bool false]) (by simp [results, Tryz.results95, go_sem, y0, y1, y2, y3]) rfl ⟨by rw [nN.out]; rfl, ek.out⟩
 have nN := zh (HI.out.trans (ag rfl));have Ba : s.v k = .slice (s.a k) (s.n k) (s.c k) := rfl;have ck := fp.out.c k jJ;have sK := zh (HF.out w1 (pP.out w1 eQ.out));rw [HA.out rfl, ← nN.out] at sK;rw [Ba] at ck sK;generalize s.a k = sa at *;generalize s.n k = sn at *;generalize s.c k = sc at *;clear Ba HF pP HA;go_wp2_with fail;refine (HS.out _).mono ?_; rintro e w2 ⟨rfl, rfl⟩;go_wp2_with fail;refine sK.out.mono ?_; rintro e w3 ⟨rfl, hb3⟩;have GF := zh (Jo.out.below hb3);have fV := zh (zA eQ.out hb3);clear hb3 d0 d1 d2 d3 F1;obtain ⟨d0, d1, d2, d3⟩ := GF.out.t.q;have F1 := GF.out.f;obtain ⟨y, hy⟩ : ∃ y, o.getD fJ = y := ⟨_, rfl⟩
 have Hy := zh hy;rw [hy];clear hy;go_wp2_with fail;change bodyPost _ _ _ _ _ (EC w3 (w.heap.size + 1) y);have hby := GF.out.put y;have ek := zh (uf fV.out (Nat.le_succ _) y);generalize EC w3 (w.heap.size + 1) y = V at *;obtain ⟨y0, y1, y2, y3⟩ := hby.t.q;exact aw (v := .tuple #[jB y, .bool o.isSome]) (by simp [results, Tryz.results95, go_sem, y0, y1, y2, y3]) rfl ⟨by rw [Hy.out], ek.out⟩
end Go.Proofs.YtcgfilmmokmdjaaGreat
