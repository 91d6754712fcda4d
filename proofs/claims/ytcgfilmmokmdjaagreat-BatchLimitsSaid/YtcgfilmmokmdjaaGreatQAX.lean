/- A part of the walk. -/
import Derived.Test.YtcgfilmmokmdjaaGreatBp
import Derived.Test.YtcgfilmmokmdjaaGreatQAW
import Derived.Test.YtcgfilmmokmdjaaGreatQAN
import Derived.Test.YtcgfilmmokmdjaaGreatQAO
import Derived.Test.YtcgfilmmokmdjaaGreatQAM
set_option linter.all false
set_option maxRecDepth 100000
set_option maxHeartbeats 32000000
namespace Go.Proofs.YtcgfilmmokmdjaaGreat
open Go.RowKit
theorem zKw (s : Slt) (a : Option Addr) (n c : Nat) (L : List GP) (W : World) (hr : RdG W (.slice a n c) L) (hg : gns L = s.gens) (hl : LenS 1000 s.gens) :
  Calls Tryz.prog 47 #[zhq s.id s.lim s.ro a n c] W fun e w' => e = .returned (.bool (zg s)) ∧ Below W.heap.size W w' := by
 have h := yY s.id s.lim s.ro a n c L W hr (uc (hg ▸ hl) (by decide));obtain ⟨i, l, r, g⟩ := s;dsimp only at hg h ⊢;subst hg;exact h
structure PlnO (W : World) (B : Nat) (P : Pst) (kv : Value) (ks : List KP) (nv : Value) (es : List (Nd × Value)) (rv : Value) : Prop where
 k : OwnKs W B kv ks
 kk : kls ks = P.kills
 n : OwnNk W B nv es
 nn : es.map (·.1) = P.needs
 r : W.ownsRow B 39 1 rv P.res.length (P.res.map zBc)
theorem PlnO.oth {W W' : World} {B b : Nat} {P : Pst} {kv : Value} {ks : List KP} {nv : Value} {es : List (Nd × Value)} {rv : Value} (h : PlnO W B P kv ks nv es rv) (ho : Oth W W' B b 71) : PlnO W' B P kv ks nv es rv :=
 ⟨h.k.oth ho (by decide) (by decide), h.kk, h.n.oth ho (by decide) (by decide), h.nn, xU h.r ho (by decide)⟩
theorem PlnO.nil (W : World) (B : Nat) (s : Slt) : PlnO W B (wl s) (.slice none 0 0) [] (.slice none 0 0) [] (.slice none 0 0) :=
 ⟨⟨World.ownsRow_nil _ _ _ _, (fun p hp => by cases hp), List.Pairwise.nil⟩, rfl, ⟨World.ownsRow_nil _ _ _ _, (fun p hp => by cases hp)⟩, rfl, World.ownsRow_nil _ _ _ _⟩
theorem vC {q : Rq} {r : List Rq} {P : Pst} (h : (zd P q).1 = true) : tp (q :: r) P = tp r (zd P q).2 := by
 show (if (zd P q).1 = true then _ else _) = _
 rw [if_pos h]
theorem kI {q : Rq} {r : List Rq} {P : Pst} (h : (zd P q).1 = false) : tp (q :: r) P = (zd P q).2 := by
 show (if (zd P q).1 = true then _ else _) = _
 rw [if_neg (by rw [h]; decide)]
theorem zAi {K G : Nat} : ∀ (l : List Rq) (P : Pst), InvN K G P.res.length P → P.res.length ≤ 16 → (tp l P).res.length ≤ 16 ∧ InvN K G (tp l P).res.length (tp l P)
 | [], P, h, h1 => ⟨h1, h⟩
 | q :: r, P, h, h1 => by
  have h2 := zBj (q := q) h;have h3 := (tj P q h1).1
  cases e : (zd P q).1
  ·
   rw [kI e]; exact ⟨h3, h2⟩
  rw [vC e]; exact zAi r _ h2 h3
abbrev zCL (rot : Bool) (take : Int) (kv nv rv : Value) : List (Nat × Value) := [(0, .bool rot), (1, .int .i64 take), (2, kv), (3, nv), (4, rv)]
theorem zDv {W : World} {b : Nat} {r0 : Bool} {t0 : Int} {k0 n0 v0 : Value} (rot : Bool) (take : Int) (kv nv rv : Value) (h : BlkE W b #[.bool r0, .int .i64 t0, k0, n0, v0] 71) (j : Nat) (u : Value) (hu : [Value.bool rot, .int .i64 take, kv, nv, rv][j]? = some u) :
  (pts W b (zCL rot take kv nv rv)).cell? ⟨b, j, none⟩ = some u := by
 have h1 := BlkE.sets (zCL rot take kv nv rv) h;simp only [List.foldl_cons, List.foldl_nil, List.setIfInBounds_toArray, List.set_cons_zero, List.set_cons_succ] at h1;refine BlkE.cell h1 ?_;rw [← Array.getElem?_toList]; exact hu
theorem zBx (s : Slt) (ga : Option Addr) (gn gc : Nat) (L : List GP) (qa : Option Addr) (qc : Nat) (qs : List (Rq × Value)) (w : World) (hr : RdG w (.slice ga gn gc) L) (hg : gns L = s.gens) (hl : LenS 700 s.gens) (hgl : s.gens.length ≤ 1000000)
  (hq : RdQ w (.slice qa qs.length qc) qs) (hql : qs.length ≤ 1000000) (hdl : ∀ p ∈ qs, p.1.data.length ≤ 1000000) :
  Calls Tryz.prog 22 #[zhq s.id s.lim s.ro ga gn gc, .slice qa qs.length qc] w fun e w' => ∃ kv ks nv es rv, e = .returned (.tuple #[.agg #[.bool (yT s (qs.map (·.1))).1.rot, .int .i64 ((yT s (qs.map (·.1))).1.res.length : Int), kv, nv, rv], .int .i64 (yT s (qs.map (·.1))).2]) ∧ PlnO w' w.heap.size (yT s (qs.map (·.1))).1 kv ks nv es rv ∧ Below w.heap.size w w' := by
 have HV := zh (fun W (hb : Below w.heap.size w W) => zKw s ga gn gc L W (hr.below hb) hg (hl.mono (by decide)));have hb1 := (Below.refl w.heap.size w).alloc (Nat.le_refl _) (.cells #[.int .i64 s.id, .int .i64 s.lim, .bool s.ro, .slice ga gn gc] 27);have hb2 := hb1.trans ((Below.refl _ _).alloc hb1.size (.cells #[.bool false, .int .i64 0, .slice none 0 0, .slice none 0 0, .slice none 0 0] 71));have HX := zh (BlkE.new w #[.int .i64 s.id, .int .i64 s.lim, .bool s.ro, .slice ga gn gc] 27);have HY := zh (BlkE.new (w.alloc (.cells #[.int .i64 s.id, .int .i64 s.lim, .bool s.ro, .slice ga gn gc] 27)) #[.bool false, .int .i64 0, .slice none 0 0, .slice none 0 0, .slice none 0 0] 71);have HX2 := zh (HX.out.below ((Below.refl _ _).alloc (Nat.le_refl _) (.cells #[.bool false, .int .i64 0, .slice none 0 0, .slice none 0 0, .slice none 0 0] 71)))
 have hsz1 : w.heap.size < (w.alloc (.cells #[.int .i64 s.id, .int .i64 s.lim, .bool s.ro, .slice ga gn gc] 27)).heap.size := HX.out.lt;have HB := zh hb2;clear hb1 hb2 HX;have hbe : (w.alloc (.cells #[.int .i64 s.id, .int .i64 s.lim, .bool s.ro, .slice ga gn gc] 27)).heap.size = w.heap.size + 1 := by simp
 rw [hbe] at HY hsz1;clear hbe
 go_enter Tryz.func22, Tryz.ntmps22
 go_upto_region 1 with fail;generalize hbc : w.heap.size + 1 = bc at *;generalize ((w.alloc (.cells #[.int .i64 s.id, .int .i64 s.lim, .bool s.ro, .slice ga gn gc] 27)).alloc (.cells #[.bool false, .int .i64 0, .slice none 0 0, .slice none 0 0, .slice none 0 0] 71)) = w1 at *;have q0 := HX2.out.cell (i := 0) rfl;have q1 := HX2.out.cell (i := 1) rfl;have q2 := HX2.out.cell (i := 2) rfl;have q3 := HX2.out.cell (i := 3) rfl;go_wp2_with fail;refine (HV.out w1 HB.out).mono ?_;rintro e w2 ⟨rfl, hb2⟩;have HB2 := zh (zA HB.out hb2);have HXb := zh (HX2.out.below hb2);have HY2 := zh (HY.out.below hb2);clear hb2 q0 q1 q2 q3 HX2 HY HB HV;have hbcl : w.heap.size ≤ bc := Nat.le_of_lt hsz1
 by_cases hv : zg s = true
 ·
  rw [hv];have HMk := zh (show yT s (qs.map (·.1)) = (tp (qs.map (·.1)) (wl s), 0) by unfold yT; rw [if_pos hv]);have q0 := HXb.out.cell (i := 0) rfl;have q1 := HXb.out.cell (i := 1) rfl;have q2 := HXb.out.cell (i := 2) rfl;have q3 := HXb.out.cell (i := 3) rfl;go_upto_region 3 with fail
  go_cut [6] (fun pv wx => pv = .pointer (some ⟨w2.heap.size, 0, none⟩) ∧ wx = w2.alloc (.cells (uz s.id s.lim s.ro ga gn gc false (.slice none 0 0) (.slice none 0 0) (.slice none 0 0) 0) 145))
  case first =>
   go_wp2_with fail;go_meet
   case rel => exact ⟨rfl, rfl⟩
  obtain ⟨rfl, rfl⟩ := hcut;have hba := (Below.refl w2.heap.size w2).alloc (Nat.le_refl _) (.cells (uz s.id s.lim s.ro ga gn gc false (.slice none 0 0) (.slice none 0 0) (.slice none 0 0) 0) 145);have HPb := zh (BlkE.new w2 (uz s.id s.lim s.ro ga gn gc false (.slice none 0 0) (.slice none 0 0) (.slice none 0 0) 0) 145);have HY3 := zh (HY2.out.below hba);have hlo : w.heap.size ≤ w2.heap.size := HB2.out.size;have hbcb : bc < w2.heap.size := HY2.out.lt;have HB3 := zh (HB2.out.trans (hba.mono hlo));clear hba q0 q1 q2 q3 HXb HY2;generalize hbp : w2.heap.size = b at *;clear hbp;generalize w2.alloc (.cells (uz s.id s.lim s.ro ga gn gc false (.slice none 0 0) (.slice none 0 0) (.slice none 0 0) 0) 145) = w3 at *
  have HP0 := zh (show PlM w3 w.heap.size b (wl s) from ⟨ga, gn, gc, L, .slice none 0 0, [], .slice none 0 0, [], .slice none 0 0, hlo, HPb.out, ⟨(KRdG.old hr (Nat.le_refl _)).below HB3.out, hg, (PlnO.nil w3 w.heap.size s).k, rfl, (PlnO.nil w3 w.heap.size s).n, rfl, (PlnO.nil w3 w.heap.size s).r⟩⟩);have HI0 := zh (show InvN 700 s.gens.length (wl s).res.length (wl s) from ⟨hl, SmK.nil _, Nat.le_refl _, ⟨Int.le_refl _, Int.le_refl _⟩, Nat.le_refl _⟩);have hfin := zAi (K := 700) (G := s.gens.length) (qs.map (·.1)) (wl s) HI0.out (Nat.zero_le _);obtain ⟨FIN, hF0⟩ : ∃ FIN, tp (qs.map (·.1)) (wl s) = FIN := ⟨_, rfl⟩
  rw [hF0] at HMk hfin;have HRn := zh (show tp ((qs.map (·.1)).drop 0) (wl s) = FIN from hF0);have HFn := zh hfin;clear HPb hF0 hfin
  have HDrp := zh (fun k (hk : k < qs.length) => show (qs.map (·.1)).drop k = (qat qs k).1 :: (qs.map (·.1)).drop (k + 1) by
   rw [List.drop_eq_getElem_cons (by rw [List.length_map]; exact hk), List.getElem_map]
   congr 1
   unfold qat
   rw [List.getD_eq_getElem?_getD, List.getElem?_eq_getElem hk]; rfl)
  have HEnd := zh (show (qs.map (·.1)).drop qs.length = [] from List.drop_of_length_le (by rw [List.length_map]; exact Nat.le_refl _));have HQ := zh hq;have HDl := zh (fun k (hk : k < qs.length) => hdl _ (zAO hk));clear hq hdl hr hg hl;generalize hnn : qs.length = n at *;clear hnn
  go_upto_block 0 with fail
  go_cut [18] (fun _ wx => Hid (PlM wx w.heap.size b FIN) ∧ Hid (BlkE wx bc #[.bool false, .int .i64 0, .slice none 0 0, .slice none 0 0, .slice none 0 0] 71) ∧ Hid (BelK w.heap.size w wx))
  case first =>
   go_wp2_with fail
   go_loopw [18] (fun iv W => ∃ (k : Nat) (P : Pst), iv = .int .i64 (k : Int) ∧ k ≤ n ∧ Hid (tp ((qs.map (·.1)).drop k) P = FIN) ∧ P.res.length ≤ 16 ∧ Hid (InvN 700 s.gens.length P.res.length P) ∧ Hid (PlM W w.heap.size b P) ∧ Hid (BlkE W bc #[.bool false, .int .i64 0, .slice none 0 0, .slice none 0 0, .slice none 0 0] 71) ∧ Hid (BelK w.heap.size w W)) (fun iv _ => n - (intOf iv).toNat)
   case atStart => exact ⟨0, wl s, rfl, Nat.zero_le _, HRn, Nat.zero_le _, HI0, HP0, HY3, zh (BelK.of HB3.out (Nat.le_refl _))⟩
   clear HI0 HP0 HRn HY3 HB3;obtain ⟨k, P, rfl, hk, HRn, h16, HI, HP, HY, HB⟩ := hrel
   by_cases hlt : k < n
   ·
    have j1 : (k : Int) < (n : Int) := by omega
    obtain ⟨qb, qo, e0, hd, c0, c1, c2, c3, c4⟩ := (HQ.out.below HB.out.b).at (j := k) hlt;subst e0;have hD1 := HDrp.out k hlt;have hR0 := HRn.out;rw [hD1] at hR0;have hdk := HDl.out k hlt;generalize (qat qs k).1 = q at *;generalize (qat qs k).2 = dv at *;obtain ⟨da, dc, rfl, _, _⟩ := hd.shape0;have HR0 := zh hR0;obtain ⟨ga1, gn1, gc1, L1, kv1, ks1, nv1, es1, rv1, hlo1, hP1, hR1⟩ := HP.out;have hes : es1.length ≤ 900 := by
     have h := congrArg List.length hR1.nn;rw [List.length_map] at h;have := HI.out.e;omega
    have hszw : w.heap.size ≤ wr.heap.size := HB.out.size;have HPl := zh (fun W (hb : Below wr.heap.size wr W) => zGt hlo1 (hP1.below hb) (hR1.below hb) (HI.out.l.mono (by omega)) (Nat.le_trans hszw hb.size) hes (by have h := HI.out.b; omega) (8 * P.res.length) (by omega) HI.out.k (Nat.le_trans HI.out.g hgl) q q.tk q.kind (q.key : Int) (q.ck : Int) da q.data.length dc (RdL.below hd hb) hdk h16 rfl rfl rfl);have hba := (Below.refl wr.heap.size wr).alloc (Nat.le_refl _) (.cells #[.int .i64 q.tk, .int .i64 q.kind, .int .u64 (q.key : Int), .int .u32 (q.ck : Int), .slice da q.data.length dc] 85);have HPl2 := zh (HPl.out _ hba);have HX := zh (BlkE.new wr #[.int .i64 q.tk, .int .i64 q.kind, .int .u64 (q.key : Int), .int .u32 (q.ck : Int), .slice da q.data.length dc] 85);have HB5 := zh (HB.out.step hba hszw);have HY5 := zh (HY.out.below hba);have HI2 := zh (zBj (q := q) HI.out)
    have hlen2 := (tj P q h16).1;have HSt := zh (fun h => (vC (q := q) (r := (qs.map (·.1)).drop (k + 1)) (P := P) h).symm.trans HR0.out);have HSp := zh (fun h => (kI (q := q) (r := (qs.map (·.1)).drop (k + 1)) (P := P) h).symm.trans HR0.out);clear hba hP1 hR1 hes hd hD1 hR0 HR0 HRn HP HI HPl hdk;go_upto_region 7 with fail;change Code.wp _ _ _ _ (wr.alloc (.cells #[.int .i64 q.tk, .int .i64 q.kind, .int .u64 (q.key : Int), .int .u32 (q.ck : Int), .slice da q.data.length dc] 85));generalize wr.alloc (.cells #[.int .i64 q.tk, .int .i64 q.kind, .int .u64 (q.key : Int), .int .u32 (q.ck : Int), .slice da q.data.length dc] 85) = w5 at *;have x0 := HX.out.cell (i := 0) rfl;have x1 := HX.out.cell (i := 1) rfl;have x2 := HX.out.cell (i := 2) rfl;have x3 := HX.out.cell (i := 3) rfl;have x4 := HX.out.cell (i := 4) rfl;generalize (zd P q).2 = P2 at *
    obtain ⟨pb, hpb⟩ : ∃ pb, (zd P q).1 = pb := ⟨_, rfl⟩
    rw [hpb] at HPl2 HSt HSp;clear hpb;go_wp2_with fail;refine HPl2.out.mono ?_;rintro e w6 ⟨rfl, hp6, hb6⟩;have HP6 := zh hp6;have HB6 := zh (HB5.out.trans hb6);have HY6 := zh (hb6.box HY5.out (by decide));clear hp6 hb6 HX HPl2 HB5 HB HY HY5 x0 x1 x2 x3 x4 c0 c1 c2 c3 c4
    cases pb
    ·
     have HPf := zh (show PlM w6 w.heap.size b FIN by rw [← HSp.out rfl]; exact HP6.out);go_wp2_with fail;go_meet
     case rel => exact ⟨HPf, HY6, HB6⟩
    have HRn := zh (HSt.out rfl);go_wp2_with fail;exact ⟨⟨k + 1, P2, by go_num, by omega, HRn, hlen2, HI2, HP6, HY6, HB6⟩, by simp [intOf]; omega⟩
   have j1 : ¬ (k : Int) < (n : Int) := by omega
   obtain rfl : k = n := by omega
   have HPf := zh (show PlM wr w.heap.size b FIN by have h := HRn.out; rw [HEnd.out] at h; rw [← h]; exact HP.out);go_wp2_with fail;go_meet
   case rel => exact ⟨HPf, HY, HB⟩
  obtain ⟨HP, HY, HB⟩ := hcut;generalize wc = v1 at *;obtain ⟨ga1, gn1, gc1, L1, kv1, ks1, nv1, es1, rv1, hlo1, hP1, hR1⟩ := HP.out;have hf16 := HFn.out.1;obtain ⟨ra, rc, hrv, hr1, hr2, _⟩ := zJ hR1.r;subst hrv;obtain ⟨ka, kc, hkv, _, _, _⟩ := zJ hR1.k.row;obtain ⟨na, nc, hnv, _, _, _⟩ := zJ hR1.n.row;subst hkv hnv;have q8 := hP1.cell (i := 8) rfl;have q5 := hP1.cell (i := 5) rfl;have f5 := hP1.frozen 5;have hP2 := hP1.set 5 (.int .i64 (FIN.res.length : Int));simp only [List.setIfInBounds_toArray, List.set_cons_zero, List.set_cons_succ] at hP2;have HP2 := zh hP2;have HR2 := zh (hR1.oth (Oth.pts hlo1 ⟨_, _, hP1⟩ [(5, .int .i64 (FIN.res.length : Int))]));have HB2 := zh (HB.out.pts hlo1 [(5, .int .i64 (FIN.res.length : Int))] ⟨_, _, hP1⟩ (by decide));have HY2 := zh (BlkE.pts_ne (c := b) (by omega) [(5, .int .i64 (FIN.res.length : Int))] HY.out)
  change Hid (PlR (v1.setCell ⟨b, 5, none⟩ (.int .i64 (FIN.res.length : Int))) _ _ _ _ _ _ _ _ _ _ _) at HR2;change Hid (BelK _ _ (v1.setCell ⟨b, 5, none⟩ (.int .i64 (FIN.res.length : Int)))) at HB2;change Hid (BlkE (v1.setCell ⟨b, 5, none⟩ (.int .i64 (FIN.res.length : Int))) _ _ _) at HY2;clear hP1 hR1 hP2 HP HY HB;go_upto_region 10 with fail;change Code.wp _ _ _ _ (v1.setCell ⟨b, 5, none⟩ (.int .i64 (FIN.res.length : Int)));generalize v1.setCell ⟨b, 5, none⟩ (.int .i64 (FIN.res.length : Int)) = v2 at *;clear q8 q5 f5;have q4 := HP2.out.cell (i := 4) rfl;have q5 := HP2.out.cell (i := 5) rfl;have q6 := HP2.out.cell (i := 6) rfl;have q7 := HP2.out.cell (i := 7) rfl;have q8 := HP2.out.cell (i := 8) rfl;have y0 := HY2.out.cell (i := 0) rfl;have y1 := HY2.out.cell (i := 1) rfl;have y2 := HY2.out.cell (i := 2) rfl;have y3 := HY2.out.cell (i := 3) rfl;have y4 := HY2.out.cell (i := 4) rfl
  have yf := HY2.out.frozen;have hne : ¬ b = bc := by omega
  have hne2 : ¬ bc = b := by omega
  go_wp2_with fail;change bodyPost _ _ _ _ _ (pts v2 bc (zCL FIN.rot (FIN.res.length : Int) (.slice ka ks1.length kc) (.slice na es1.length nc) (.slice ra FIN.res.length rc)));have hby := zDv FIN.rot (FIN.res.length : Int) (.slice ka ks1.length kc) (.slice na es1.length nc) (.slice ra FIN.res.length rc) HY2.out;have HBz := zh (zD (B := w.heap.size) (b := bc) hbcl (zCL FIN.rot (FIN.res.length : Int) (.slice ka ks1.length kc) (.slice na es1.length nc) (.slice ra FIN.res.length rc)) HB2.out.b);have HPo := zh ((show PlnO v2 w.heap.size FIN (.slice ka ks1.length kc) ks1 (.slice na es1.length nc) es1 (.slice ra FIN.res.length rc) from ⟨HR2.out.k, HR2.out.kk, HR2.out.n, HR2.out.nn, HR2.out.r⟩).oth (Oth.pts hbcl ⟨_, _, HY2.out⟩ (zCL FIN.rot (FIN.res.length : Int) (.slice ka ks1.length kc) (.slice na es1.length nc) (.slice ra FIN.res.length rc))))
  generalize pts v2 bc (zCL FIN.rot (FIN.res.length : Int) (.slice ka ks1.length kc) (.slice na es1.length nc) (.slice ra FIN.res.length rc)) = V at *;exact bodyPost_ret (v := .tuple #[.agg #[.bool FIN.rot, .int .i64 (FIN.res.length : Int), .slice ka ks1.length kc, .slice na es1.length nc, .slice ra FIN.res.length rc], .int .i64 0]) (by simp [results, Tryz.results22, go_sem, hby 0 _ rfl, hby 1 _ rfl, hby 2 _ rfl, hby 3 _ rfl, hby 4 _ rfl]) rfl ⟨_, ks1, _, es1, _, by rw [HMk.out], by rw [HMk.out]; exact HPo.out, HBz.out⟩
 have hvf : zg s = false := by simpa using hv
 have HMk := zh (show yT s (qs.map (·.1)) = (wl wS, 1) by unfold yT; rw [if_neg hv]);rw [hvf];have y0 := HY2.out.cell (i := 0) rfl;have y1 := HY2.out.cell (i := 1) rfl;have y2 := HY2.out.cell (i := 2) rfl;have y3 := HY2.out.cell (i := 3) rfl;have y4 := HY2.out.cell (i := 4) rfl;have yf := HY2.out.frozen;go_wp2_with fail;change bodyPost _ _ _ _ _ (pts w2 bc (zCL false 0 (.slice none 0 0) (.slice none 0 0) (.slice none 0 0)));have hby := zDv false 0 (.slice none 0 0) (.slice none 0 0) (.slice none 0 0) HY2.out;have HBz := zh (zD (B := w.heap.size) (b := bc) hbcl (zCL false 0 (.slice none 0 0) (.slice none 0 0) (.slice none 0 0)) HB2.out);generalize pts w2 bc (zCL false 0 (.slice none 0 0) (.slice none 0 0) (.slice none 0 0)) = V at *
 exact bodyPost_ret (v := .tuple #[.agg #[.bool false, .int .i64 0, .slice none 0 0, .slice none 0 0, .slice none 0 0], .int .i64 1]) (by simp [results, Tryz.results22, go_sem, hby 0 _ rfl, hby 1 _ rfl, hby 2 _ rfl, hby 3 _ rfl, hby 4 _ rfl]) rfl ⟨_, [], _, [], _, by rw [HMk.out]; rfl, by rw [HMk.out]; exact PlnO.nil _ _ _, HBz.out⟩
/-! ### What Make answers there, in plain Lean -/
def s90 : Slt := ⟨0, 9000, false, [fresh 1]⟩
theorem s90_v : VldSl s90 := (zT _).1 (zAP 0 9000 false (by decide))
def qPut : Rq := ⟨0, 1, 1, 0, []⟩
def qDel : Rq := ⟨0, 2, 1, 0, []⟩
theorem zKJ : (yT s90 []).2 = 0 ∧ (yT s90 []).1.res = [] ∧ (yT s90 []).1.needs.length = 0 := by
 unfold yT;rw [if_pos ((zT _).2 s90_v)];exact ⟨rfl, rfl, rfl⟩
theorem zIG : wH s90 0 = true := by
 unfold wH;rw [(zT _).2 s90_v]
 rfl
theorem zAx : zx s90 qPut = 0 := by
 unfold zx;rw [if_neg (by decide), if_pos (show wH s90 ((qPut.data.length : Nat) : Int) = true from zIG)]
theorem zH6 (key : Int) : zW (zY s90).m key = none := by
 rw [← kE];have h : zG (zY s90).m = [] := kg 1;rw [h]; rfl
theorem zEl {t : Slt} (h : VldSl t) (h1 : t.gens.length = 1) (key : Int) : zj t key = [] := by
 rw [zEN h, h1]; rfl
theorem zFC : yw s90 qDel = 6 := by
 have h : yI s90 (qDel.key : Int) = [] := by
  rw [zCQ s90_v, zAV s90_v, zH6]; rfl
 unfold yw;rw [h, if_neg (by simp)]
theorem zJk : (yT s90 [qDel]).2 = 0 ∧ (yT s90 [qDel]).1.res = [6] ∧ (yT s90 [qDel]).1.needs.length = 0 := by
 have h1 : zd (wl s90) qDel = (true, more (wl s90) 6) := qN (by decide) rfl zFC;unfold yT;rw [if_pos ((zT _).2 s90_v), vC (by rw [h1]), h1];exact ⟨rfl, rfl, rfl⟩
theorem zJs : (yT s90 [qPut, qDel]).2 = 0 ∧ (yT s90 [qPut, qDel]).1.res = [0, 0] ∧ (yT s90 [qPut, qDel]).1.needs.length = 2 := by
 have hc : kX (wl s90).t (ud qPut) := zBI s90_v zAx;have h1 : zd (wl s90) qPut = (true, more (vp (wl s90) (ud qPut)) 0) := kV (by decide) rfl zAx (by simp [wl]);have hk := zCZ (P := wl s90) s90_v hc;have ht := zIS (P := wl s90) s90_v hc;generalize hP : more (vp (wl s90) (ud qPut)) 0 = P1 at *;have hPt : P1.t = (vp (wl s90) (ud qPut)).t := by rw [← hP]; rfl
 have hPr : P1.res = [0] := by rw [← hP]; rfl
 have hPn : P1.needs = [ud qPut] := by rw [← hP]; rfl
 have hPb : P1.bytes = 24 := by rw [← hP]; rfl
 rw [← hPt] at hk ht;have hv := hk.v;have hlen : P1.t.gens.length = 1 := hk.len;have htop : zY P1.t = yM (zY s90) (ud qPut) := by rw [ht]; exact zHD s90_v _
 have hg : zW (zY P1.t).m ((qDel.key : Nat) : Int) = some (itA (zY s90) (ud qPut)) := by
  rw [htop, zEP s90_v.topv.1 ⟨Nat.zero_le _, fun e => (by cases e)⟩ (by decide)]
  rfl
 have hall : yI P1.t ((qDel.key : Nat) : Int) = [⟨(zY P1.t).num, (zY P1.t).mode, (zY P1.t).rev, itA (zY s90) (ud qPut), 0⟩] := by
  rw [zCQ hv, zAV hv, hg, hlen]; rfl
 have hcd : yw P1.t qDel = 0 := by
  unfold yw;rw [hall, if_pos ⟨rfl, rfl⟩]
 have hks : xO P1 ((qDel.key : Nat) : Int) = P1 := by
  unfold xO;rw [zEl hv hlen]; rfl
 have hd : xR P1 qDel = vp P1 (zAu qDel) := by
  unfold xR;rw [hks, if_pos ((qy hv _).2 (by rw [hg]; exact fun e => (by cases e)))]
 have h2 : zd P1 qDel = (true, more (vp P1 (zAu qDel)) 0) := by
  rw [← hd];exact qF (by rw [hPr]; decide) rfl hcd (by rw [hPb]; omega)
 unfold yT;rw [if_pos ((zT _).2 s90_v), vC (by rw [h1]), h1, vC (by rw [h2]), h2];refine ⟨rfl, ?_, ?_⟩
 ·
  show P1.res ++ [0] = _
  rw [hPr]; rfl
 show (P1.needs ++ [_]).length = 2
 rw [hPn]; rfl
theorem zCT {l : List Rq} {R : List Int} {N : Nat} (hM : (yT s90 l).2 = 0 ∧ (yT s90 l).1.res = R ∧ (yT s90 l).1.needs.length = N) (b : Nat) (W : World) (hr : RdG W (.slice (some ⟨b, 0, none⟩) 1 1) kJ) (qa : Option Addr) (qn qc : Nat) (qs : List (Rq × Value)) (hq : RdQ W (.slice qa qn qc) qs) (hl : qs.map (·.1) = l) (hs : qs.length ≤ 2) (hd : ∀ p ∈ qs, p.1.data = []) :
  Calls Tryz.prog 22 #[zhq 0 9000 false (some ⟨b, 0, none⟩) 1 1, .slice qa qn qc] W fun e w' => ∃ rot ka kn kc na nc ra rc, e = .returned (.tuple #[zKg rot (R.length : Int) (.slice ka kn kc) (.slice na N nc) (.slice ra R.length rc), .int .i64 0]) ∧ Rd w' 1 (.slice ra R.length rc) R.length (R.map zBc) ∧ Below W.heap.size W w' := by
 obtain ⟨_, _, e, _⟩ := hq.shape;injection e with _ e _;subst e;have h := zBx s90 (some ⟨b, 0, none⟩) 1 1 kJ qa qc qs W hr rfl (fun g hg i _ => by obtain rfl := List.mem_singleton.1 hg; exact Nat.zero_le _) (by decide) hq (by omega) (fun p hp => by rw [hd p hp]; exact Nat.zero_le _);rw [hl] at h;refine Calls.mono h ?_;rintro e w' ⟨kv, ks, nv, es, rv, rfl, hp, hb⟩;obtain ⟨h1, h2, h3⟩ := hM;obtain ⟨ka, kc, rfl, _⟩ := zJ hp.k.row;obtain ⟨na, nc, rfl, _⟩ := zJ hp.n.row;have hrr := zv hp.r;obtain ⟨ra, rc, rfl, _⟩ := zJ hp.r;have hN : es.length = N := by rw [← h3, ← hp.nn, List.length_map]
 rw [h1, h2, hN];rw [h2] at hrr;exact ⟨_, _, _, _, _, _, _, _, rfl, hrr, hb⟩
theorem zJv (W : World) : RdQ W (.slice none 0 0) [] := ⟨⟨fun x _ => tE x, Rd.nil W 5⟩, fun p hp => (by cases hp)⟩
theorem zFS (W : World) (qs : List (Rq × Value)) (e : TypeId) (h : ∀ p ∈ qs, p.1.data = [] ∧ p.2 = .slice none 0 0) (hm : qs.length ≤ 10) : RdQ (W.alloc (.cells (qs.flatMap rqC).toArray e)) (.slice (some ⟨W.heap.size, 0, none⟩) qs.length qs.length) qs :=
 ⟨⟨fun x _ => tE x, Rd.new W 5 _ e qs.length (yK 5 rqC qs fun x _ => tE x) (Nat.le_trans hm (by decide))⟩, fun p hp => by
  obtain ⟨h1, h2⟩ := h p hp
  rw [h1, h2]; exact zFf _⟩
def q2L : List (Rq × Value) := [(qPut, .slice none 0 0), (qDel, .slice none 0 0)]
def q1L : List (Rq × Value) := [(qDel, .slice none 0 0)]
theorem zDE (w : World) : Calls Tryz.prog 19 #[] w fun e w' => e = .returned (.bool true) ∧ Below w.heap.size w w' := by
 have HNw := zh (zIH 0 9000 (by decide) w)
 go_enter Tryz.func19, Tryz.ntmps19
 go_wp2_with fail;refine HNw.out.mono ?_;rintro e w1 ⟨b, rfl, hbb, hg, hb⟩;have HR := zh (zAM hg);have HB := zh hb;clear hg hb hbb HNw;go_upto_region 2 with fail;change Code.wp _ _ _ _ (w1.alloc (.cells (zS 0 9000 false (some ⟨b, 0, none⟩) 1 1) 27));have hbq := zP w1 0 9000 false (some ⟨b, 0, none⟩) 1 1 27;have HS := zh (BlkE.new w1 (zS 0 9000 false (some ⟨b, 0, none⟩) 1 1) 27);replace HR := zh (HR.out.below hbq);replace HB := zh (zA HB.out hbq);clear hbq;generalize w1.alloc (.cells (zS 0 9000 false (some ⟨b, 0, none⟩) 1 1) 27) = w2 at *;generalize w1.heap.size = bS at *;have HM := zh (zCT zKJ b w2 HR.out none 0 0 [] (zJv w2) rfl (by decide) (fun p hp => by cases hp));obtain ⟨k0, k1, k2, k3⟩ := (BlkE.slo HS.out).q;go_wp2_with fail;refine HM.out.mono ?_;rintro e w3 ⟨rot, ka, kn, kc, na, nc, ra, rc, rfl, hrr, hb⟩;replace HS := zh (HS.out.below hb);replace HR := zh (HR.out.below hb)
 replace HB := zh (zA HB.out hb);clear hb hrr HM k0 k1 k2 k3;go_upto_region 3 with fail;change Code.wp _ _ _ _ (w3.alloc (.cells (wX rot 0 (.slice ka kn kc) (.slice na 0 nc) (.slice ra 0 rc)) 71));have hbq := (Below.refl w3.heap.size w3).alloc (Nat.le_refl _) (.cells (wX rot 0 (.slice ka kn kc) (.slice na 0 nc) (.slice ra 0 rc)) 71);have HP := zh (BlkE.new w3 (wX rot 0 (.slice ka kn kc) (.slice na 0 nc) (.slice ra 0 rc)) 71);replace HS := zh (HS.out.below hbq);replace HR := zh (HR.out.below hbq);replace HB := zh (zA HB.out hbq);clear hbq;generalize w3.alloc (.cells (wX rot 0 (.slice ka kn kc) (.slice na 0 nc) (.slice ra 0 rc)) 71) = w4 at *;generalize w3.heap.size = bP at *
 -- the second
 have hbq := (Below.refl w4.heap.size w4).alloc (Nat.le_refl _) (.cells (q2L.flatMap rqC).toArray 85);have HQ2 := zh (zFS w4 q2L 85 (fun p hp => by simp [q2L] at hp; rcases hp with rfl | rfl <;> exact ⟨rfl, rfl⟩) (by decide));have HM2 := zh (zCT zJs b _ (HR.out.below hbq) _ _ _ q2L HQ2.out rfl (by decide) (fun p hp => by simp [q2L] at hp; rcases hp with rfl | rfl <;> rfl));obtain ⟨k0, k1, k2, k3⟩ := (BlkE.slo HS.out).q;go_wp2_with fail;change Calls _ _ _ (w4.alloc (.cells (q2L.flatMap rqC).toArray 85)) _;refine HM2.out.mono ?_;rintro e w5 ⟨rot2, ka2, kn2, kc2, na2, nc2, ra2, rc2, rfl, hrr2, hb⟩;have hbx := zA hbq hb;replace HS := zh (HS.out.below hbx);replace HR := zh (HR.out.below hbx);replace HP := zh (HP.out.below hbx);replace HB := zh (zA HB.out hbx);clear hb hbx hbq HM2 HQ2 k0 k1 k2 k3;dsimp only [List.length_cons, List.length_nil, List.map_cons, List.map_nil] at hrr2 ⊢
 go_upto_region 4 with fail;change Code.wp _ _ _ _ (w5.alloc (.cells (wX rot2 2 (.slice ka2 kn2 kc2) (.slice na2 2 nc2) (.slice ra2 2 rc2)) 71));have hbq := (Below.refl w5.heap.size w5).alloc (Nat.le_refl _) (.cells (wX rot2 2 (.slice ka2 kn2 kc2) (.slice na2 2 nc2) (.slice ra2 2 rc2)) 71);have HP2 := zh (BlkE.new w5 (wX rot2 2 (.slice ka2 kn2 kc2) (.slice na2 2 nc2) (.slice ra2 2 rc2)) 71);replace HS := zh (HS.out.below hbq);replace HR := zh (HR.out.below hbq);replace HP := zh (HP.out.below hbq);replace HB := zh (zA HB.out hbq);have HRr2 := zh (hrr2.below hbq);clear hbq hrr2;generalize w5.alloc (.cells (wX rot2 2 (.slice ka2 kn2 kc2) (.slice na2 2 nc2) (.slice ra2 2 rc2)) 71) = w6 at *;generalize w5.heap.size = bP2 at *;have hbq := (Below.refl w6.heap.size w6).alloc (Nat.le_refl _) (.cells (q1L.flatMap rqC).toArray 85)
 have HQ3 := zh (zFS w6 q1L 85 (fun p hp => by simp [q1L] at hp; subst hp; exact ⟨rfl, rfl⟩) (by decide));have HM3 := zh (zCT zJk b _ (HR.out.below hbq) _ _ _ q1L HQ3.out rfl (by decide) (fun p hp => by simp [q1L] at hp; subst hp; rfl));obtain ⟨k0, k1, k2, k3⟩ := (BlkE.slo HS.out).q;go_wp2_with fail;change Calls _ _ _ (w6.alloc (.cells (q1L.flatMap rqC).toArray 85)) _;refine HM3.out.mono ?_;rintro e w7 ⟨rot3, ka3, kn3, kc3, na3, nc3, ra3, rc3, rfl, hrr3, hb⟩;have hbx := zA hbq hb;replace HS := zh (HS.out.below hbx);replace HR := zh (HR.out.below hbx);replace HP := zh (HP.out.below hbx);replace HP2 := zh (HP2.out.below hbx);replace HRr2 := zh (HRr2.out.below hbx);replace HB := zh (zA HB.out hbx);clear hb hbx hbq HM3 HQ3 k0 k1 k2 k3;dsimp only [List.length_cons, List.length_nil, List.map_cons, List.map_nil] at hrr3 ⊢;go_upto_region 5 with fail
 change Code.wp _ _ _ _ (w7.alloc (.cells (wX rot3 1 (.slice ka3 kn3 kc3) (.slice na3 0 nc3) (.slice ra3 1 rc3)) 71));have hbq := (Below.refl w7.heap.size w7).alloc (Nat.le_refl _) (.cells (wX rot3 1 (.slice ka3 kn3 kc3) (.slice na3 0 nc3) (.slice ra3 1 rc3)) 71);have HP3 := zh (BlkE.new w7 (wX rot3 1 (.slice ka3 kn3 kc3) (.slice na3 0 nc3) (.slice ra3 1 rc3)) 71);replace HS := zh (HS.out.below hbq);replace HR := zh (HR.out.below hbq);replace HP := zh (HP.out.below hbq);replace HP2 := zh (HP2.out.below hbq);replace HRr2 := zh (HRr2.out.below hbq);replace HB := zh (zA HB.out hbq);have HRr3 := zh (hrr3.below hbq);clear hbq hrr3;generalize w7.alloc (.cells (wX rot3 1 (.slice ka3 kn3 kc3) (.slice na3 0 nc3) (.slice ra3 1 rc3)) 71) = w8 at *;generalize w7.heap.size = bP3 at *;have p0 : w8.cell? ⟨bP, 1, none⟩ = some (.int .i64 0) := BlkE.cell HP.out rfl
 have p1 : w8.cell? ⟨bP2, 1, none⟩ = some (.int .i64 2) := BlkE.cell HP2.out rfl;have p3 : w8.cell? ⟨bP2, 3, none⟩ = some (.slice na2 2 nc2) := BlkE.cell HP2.out rfl;have p4 : w8.cell? ⟨bP2, 4, none⟩ = some (.slice ra2 2 rc2) := BlkE.cell HP2.out rfl;have s1 : w8.cell? ⟨bP3, 1, none⟩ = some (.int .i64 1) := BlkE.cell HP3.out rfl;have s3 : w8.cell? ⟨bP3, 3, none⟩ = some (.slice na3 0 nc3) := BlkE.cell HP3.out rfl;have s4 : w8.cell? ⟨bP3, 4, none⟩ = some (.slice ra3 1 rc3) := BlkE.cell HP3.out rfl;obtain ⟨_, _, _, e2, _, _, _, hc2⟩ := HRr2.out;injection e2 with e2 _ _;obtain ⟨bx, ox, e3, hc2⟩ := hc2 (by decide);obtain rfl := e2.trans e3;have r0 : w8.cell? ⟨bx, ox, none⟩ = some (.int .i64 0) := hc2 0 _ rfl;have r1 : w8.cell? ⟨bx, ox + 1, none⟩ = some (.int .i64 0) := hc2 1 _ rfl;obtain ⟨_, _, _, e4, _, _, _, hc3⟩ := HRr3.out;injection e4 with e4 _ _
 obtain ⟨by_, oy, e5, hc3⟩ := hc3 (by decide);obtain rfl := e4.trans e5;have t0 : w8.cell? ⟨by_, oy, none⟩ = some (.int .i64 6) := hc3 0 _ rfl;clear e2 e3 hc2 e4 e5 hc3;go_wp2_with fail;go_ret;exact ⟨rfl, HB.out⟩
def sbN (x : Nd) : Nd := ⟨x.key % 8, x.ck % 4, x.del, if x.del then [] else x.data.take 30⟩
def sbL (n : Nat) (l : List Nd) : List Nd := (l.take n).map sbN
theorem zJt (x : Nd) : (sbN x).data.length ≤ 30 := by
 unfold sbN;dsimp only
 split
 ·
  simp
 rw [List.length_take]; omega
theorem zC4 (n : Nat) (l : List Nd) : (sbL n l).length ≤ n := by unfold sbL; rw [List.length_map, List.length_take]; omega
theorem zEE (n : Nat) (l : List Nd) : ∀ x ∈ sbL n l, x.data.length ≤ 30 := fun x hx => by
 obtain ⟨y, _, rfl⟩ := List.mem_map.1 hx;exact zJt y
theorem zK8 (l : List Nd) : szL (sbL 6 l) ≤ 400 := by
 have key : ∀ k : List Nd, (∀ x ∈ k, x.data.length ≤ 30) → szL k ≤ k.length * 56 := by
  intro k
  induction k with
  | nil => intro _; exact Nat.zero_le _
  | cons x r ih =>
   intro h;have h1 := ih fun y hy => h y (by simp [hy])
   have h2 := h x (by simp);have h3 : szN x.data.length ≤ 56 := by rw [kQ (by omega)]; unfold nsz; omega
   rw [wG, List.length_cons]; omega
 have h1 := key _ (zEE 6 l);have h2 := zC4 6 l;omega
noncomputable def uS (s : Slt) (kd : Int) (ns : List Nd) (gen : Int) (keys : List Int) : Slt :=
 if kd = 4 ∨ kd = 5 then (if (wm s).2 = 0 then (wm s).1 else s)
 else if kd = 6 then vN s (yW (gat s.gens (gen % (s.gens.length : Int)).toNat) (keys.take 8))
 else if kd = 7 then vN s (wO (gat s.gens (gen % (s.gens.length : Int)).toNat) 2)
 else vN s (xM (zY s) (sbL 6 ns))
noncomputable def zEc (s : Slt) (x : AcP) : Slt := uS s (x.kind % 8) (x.l.map (·.1)) x.gen x.keys
noncomputable def xo (s : Slt) (l : List AcP) : Slt := l.foldl zEc s
noncomputable def zBA (l : List AcP) : Slt := xo sl0 (l.take 8)
theorem qt (l : List AcP) (i : Nat) (h : i < l.length) : xo sl0 (l.take (i + 1)) = zEc (xo sl0 (l.take i)) (qS l i) := by
 unfold xo qS;rw [List.take_add_one, List.getD_eq_getElem?_getD, List.getElem?_eq_getElem h, List.foldl_append]
 rfl
theorem zBf {g : Gn} {m : Int} (h : (wO g m).1 = 0) : (wO g m).2 = { g with mode := m + 1 } := by
 unfold wO at h ⊢
 split
 ·
  rename_i h1;rw [if_pos h1] at h
  split
  ·
   rfl
  rename_i h2; rw [if_neg h2] at h; cases h
 rename_i h1; rw [if_neg h1] at h; cases h
theorem zEf {n : Nat} {s : Slt} (h : MadeI n s) (kd : Int) (ns : List Nd) (gen : Int) (keys : List Int) : MadeI (n + 1) (uS s kd ns gen keys) := by
 have hg : gat s.gens (gen % (s.gens.length : Int)).toNat ∈ s.gens := tF (by
  have h1 := h.v.len
  have h2 := Int.emod_lt_of_pos gen (show (0 : Int) < (s.gens.length : Int) by omega)
  have h3 := Int.emod_nonneg gen (show (s.gens.length : Int) ≠ 0 by omega)
  omega)
 unfold uS
 split
 ·
  have := zB6 h 2 ns gen keys;unfold zDi at this;exact this
 split
 ·
  have := zB6 h 3 ns gen keys;unfold zDi at this;exact this
 split
 ·
  unfold vN
  split
  ·
   rename_i hr;obtain ⟨h1, h2⟩ := hr;refine h.chg h2 ?_ ?_
   ·
    rw [zBf h1];intro i hi;exact Nat.le_trans (h.len _ hg i hi) (by omega)
   rw [zBf h1];have := h.siz _ hg;dsimp only; omega
  exact h.up
 unfold vN
 split
 ·
  rename_i hr;obtain ⟨h1, h2⟩ := hr;have ht := tD h.v;refine h.chg h2 ?_ ?_
  ·
   rw [qY h1];intro i hi;have := xx (sbL 6 ns) _ (h.len _ ht) i hi;have := zC4 6 ns;omega
  rw [qY h1, wk];have := h.siz _ ht;have := zK8 ns;omega
 exact h.up
theorem ul (l : List AcP) : ∀ i, i ≤ l.length → MadeI i (xo sl0 (l.take i))
 | 0, _ => zFO
 | i + 1, h => by
  rw [qt l i (by omega)];exact zEf (ul l i (by omega)) _ _ _ _
theorem zGE (l : List AcP) : MadeI 8 (zBA l) := by
 have h1 : ∀ i j, i ≤ j → ∀ s, MadeI i s → MadeI j s := by
  intro i j hij;obtain ⟨d, rfl⟩ : ∃ d, j = i + d := ⟨j - i, by omega⟩
  clear hij
  induction d with
  | zero => exact fun s h => h
  | succ d ih => exact fun s h => (ih s h).up
 have h2 := ul (l.take 8) (l.take 8).length (Nat.le_refl _);rw [List.take_of_length_le (Nat.le_refl _)] at h2;exact h1 _ 8 (by rw [List.length_take]; omega) _ h2
theorem zKv : xe Tryz.prog 74 85 5 56 := by
 obtain ⟨i, hi, hz, hs, hb⟩ := info_parts (P := Tryz.prog) (e := 85) (z := .agg #[.int .i64 0, .int .i64 0, .int .u64 0, .int .u32 0, .slice none 0 0]) (size := 5) (bytes := 56) (by kernel_rfl);exact ⟨Tryz.underlying74, by decide, i, _, hi, hz, hs, hb, rfl⟩
theorem zKB (qs : List (Rq × Value)) (i : Nat) (h : i < qs.length) : (qs.take (i + 1)).flatMap rqC = (qs.take i).flatMap rqC ++ rqC (qat qs i) := by
 rw [List.take_add_one, List.getElem?_eq_getElem h, List.flatMap_append]
 congr 1
 unfold qat;rw [List.getD_eq_getElem?_getD, List.getElem?_eq_getElem h];simp
theorem zDA (v : Value) (qs : List (Rq × Value)) (w : World) (h : RdQ w v qs) (hql : qs.length ≤ 1000000) :
  Calls Tryz.prog 24 #[v] w fun e w' => ∃ v', e = .returned v' ∧ w'.ownsRow w.heap.size 85 5 v' qs.length (qs.flatMap rqC) ∧ Below w.heap.size w w' := by
 obtain ⟨a, cap, rfl, h1, h2⟩ := h.shape;have HQ := zh h;have HT := zh (zKB qs);have HE := zh (show (qs.take qs.length).flatMap rqC = qs.flatMap rqC by rw [List.take_length]);clear h;generalize hn : qs.length = n at *;clear hn
 go_enter Tryz.func24, Tryz.ntmps24
 go_wp2_with fail
 go_loopw [3, 8] (fun ov iv W => ∃ i : Nat, iv = .int .i64 (i : Int) ∧ i ≤ n ∧ Hid (W.ownsRow w.heap.size 85 5 ov i ((qs.take i).flatMap rqC)) ∧ Hid (Below w.heap.size w W)) (fun _ iv _ => n - (intOf iv).toNat)
 case atStart => exact ⟨0, rfl, Nat.zero_le _, zh (World.ownsRow_nil _ _ _ _), zh (Below.refl _ _)⟩
 obtain ⟨i, rfl, hi, HO, HB⟩ := hrel;obtain ⟨oa, oc, hov, ho1, ho2, _⟩ := zJ HO.out;subst hov
 by_cases hin : i < n
 ·
  have i1 : (i : Int) < (n : Int) := by omega
  obtain ⟨qb, qo, e0, hd, c0, c1, c2, c3, c4⟩ := (HQ.out.below HB.out).at (j := i) hin;subst e0;have hT := HT.out i hin;obtain ⟨da, dc, hdv, _⟩ := hd.shape0;rw [hdv] at c4;have hX : rqC (qat qs i) = [.int .i64 (qat qs i).1.tk, .int .i64 (qat qs i).1.kind, .int .u64 ((qat qs i).1.key : Int), .int .u32 ((qat qs i).1.ck : Int), .slice da (qat qs i).1.data.length dc] := by show [_, _, _, _, _] = _; rw [hdv]
  rw [hX] at hT;have HTi := zh hT;clear hX hT hd hdv;generalize (qat qs i).1.data.length = dn at *;generalize (qat qs i).1.tk = tk at *;generalize (qat qs i).1.kind = kd at *;generalize ((qat qs i).1.key : Int) = ky at *;generalize ((qat qs i).1.ck : Int) = ck at *;have hsz : w.heap.size ≤ wr.heap.size := HB.out.size;have hb5 := (Below.refl wr.heap.size wr).alloc (Nat.le_refl _) (.cells #[.int .i64 tk, .int .i64 kd, .int .u64 ky, .int .u32 ck, .slice da dn dc] 63);have HX := zh (BlkE.new wr #[.int .i64 tk, .int .i64 kd, .int .u64 ky, .int .u32 ck, .slice da dn dc] 63);have HO5 := zh (zH HO.out hb5);have HB5 := zh (HB.out.trans (hb5.mono hsz));have hsz5 := Nat.le_trans hsz hb5.size;clear hb5;go_upto_region 5 with fail;change Code.wp _ _ _ _ (wr.alloc (.cells #[.int .i64 tk, .int .i64 kd, .int .u64 ky, .int .u32 ck, .slice da dn dc] 63))
  generalize wr.alloc (.cells #[.int .i64 tk, .int .i64 kd, .int .u64 ky, .int .u32 ck, .slice da dn dc] 63) = w5 at *;have x0 := HX.out.cell (i := 0) rfl;have x1 := HX.out.cell (i := 1) rfl;have x2 := HX.out.cell (i := 2) rfl;have x3 := HX.out.cell (i := 3) rfl;have x4 := HX.out.cell (i := 4) rfl;clear c0 c1 c2 c3 c4 HB HO;have hb6 := (Below.refl w5.heap.size w5).alloc (Nat.le_refl _) (.cells #[.int .i64 tk, .int .i64 kd, .int .u64 ky, .int .u32 ck, .slice da dn dc] 85);have HO6 := zh (zH HO5.out hb6);have HB6 := zh (HB5.out.trans (hb6.mono hsz5));have hsz6 := Nat.le_trans hsz5 hb6.size;clear hb6
  go_wp2_with (at_builtin; go_must (refine za (n := i) (m := 1) rfl (.tmp 12) (.tmp 24) 74 rfl zKv w.heap.size rfl HO6.out rfl (Rd.newK' w5.heap.size w5 rfl 5 [.int .i64 tk, .int .i64 kd, .int .u64 ky, .int .u32 ck, .slice da dn dc] 85 1 rfl (by decide)) (fun u hu => by simp only [List.mem_cons, List.not_mem_nil, or_false] at hu; rcases hu with h | h | h | h | h <;> rw [h] <;> rfl) (by unfold maxLen; omega) (by omega) hsz6 ?_); intro v3 w7 hown3 hgr3 hv3; clear hv3);have HO7 := zh (show w7.ownsRow w.heap.size 85 5 v3 (i + 1) ((qs.take (i + 1)).flatMap rqC) by rw [HTi.out]; exact hown3);have HB7 := zh (zK HB6.out HO6.out hsz6 hgr3);clear hown3 hgr3;go_wp2_with fail;exact ⟨⟨i + 1, by go_num, by omega, HO7, HB7⟩, by simp [intOf]; omega⟩
 have i1 : ¬ (i : Int) < (n : Int) := by omega
 obtain rfl : i = n := by omega
 go_wp2_with fail;go_ret;exact ⟨_, rfl, by rw [← HE.out]; exact HO.out, HB.out⟩
end Go.Proofs.YtcgfilmmokmdjaaGreat
