/- A part of the walk. -/
import Derived.Test.YtcgfilmmokmdjaaGreatQAV
import Derived.Test.YtcgfilmmokmdjaaGreatQAS
import Derived.Test.YtcgfilmmokmdjaaGreatRna
set_option linter.all false
set_option maxRecDepth 100000
set_option maxHeartbeats 32000000
namespace Go.Proofs.YtcgfilmmokmdjaaGreat
open Go.RowKit
theorem zKt (s : Slt) (a : Option Addr) (n c : Nat) (L : List GP) (W : World) (hr : RdG W (.slice a n c) L) (hg : gns L = s.gens) (hl : LenS 1000 s.gens) (key : Int) :
  Calls Tryz.prog 181 #[zhq s.id s.lim s.ro a n c, .int .u64 key] W fun e w' => ∃ v', e = .returned v' ∧ OwnI w' W.heap.size v' (zj s key) ∧ Below W.heap.size W w' := by
 have h := zEq s.id s.lim s.ro a n c L W hr (uc (hg ▸ hl) (by decide)) key;obtain ⟨i, l, r, g⟩ := s;dsimp only at hg h ⊢;subst hg;exact h
theorem OwnI.atB {w : World} {B : Nat} {a : Option Addr} {n cap : Nat} {l : List Int} (h : OwnI w B (.slice a n cap) l) {j : Nat} (hj : j < n) : ∃ b off, a = some ⟨b, off, none⟩ ∧ w.cell? ⟨b, off + j, none⟩ = some (.int .i64 (uat l j)) := by
 have hr : RdL zBc w _ l := qZ h;obtain ⟨a', cap', e, h2, h3, _, h5⟩ := RdL.shape hr 0;injection e with e1 e2 e3;subst e1 e2 e3;obtain ⟨b, off, e, hc⟩ := h5 (by omega);exact ⟨b, off, e, hc j hj⟩
noncomputable def yP (P : Pst) (key : Int) (l : List Int) (k : Nat) : Pst := (l.take k).foldl (wt key) P
theorem uL (P : Pst) (key : Int) (l : List Int) (k : Nat) (h : k < l.length) : yP P key l (k + 1) = wt key (yP P key l k) (uat l k) := by
 unfold yP uat;rw [List.take_add_one, List.getD_eq_getElem?_getD, List.getElem?_eq_getElem h, List.foldl_append]
 rfl
theorem zFh (s : Slt) (g : Gn) : (yb s g).1.gens.length ≤ s.gens.length := by
 by_cases hc : (yb s g).2 = 0
 ·
  rw [zAR hc]; show (uj s.gens g).length ≤ _; rw [zIg]; exact Nat.le_refl _
 have e : (yb s g).1 = wS := by
  unfold yb at hc ⊢
  split
  ·
   rename_i h1;rw [if_pos h1] at hc
   split
   ·
    rename_i h2;rw [if_pos h2] at hc
    split
    ·
     rename_i h3; rw [if_pos h3] at hc; exact absurd rfl hc
    rfl
   rfl
  rfl
 rw [e]; exact Nat.zero_le _
theorem zDF (s : Slt) (num : Int) (keys : List Int) : (wv s num keys).1.gens.length ≤ s.gens.length := by
 unfold wv
 split
 ·
  split
  ·
   exact zFh _ _
  exact Nat.zero_le _
 exact Nat.zero_le _
theorem zAb {P : Pst} {key : Int} {l : List Int} : ∀ k, k ≤ l.length → (yP P key l k).t.gens.length ≤ P.t.gens.length
 | 0, _ => Nat.le_refl _
 | k + 1, h => by
  rw [uL P key l k (by omega)];exact Nat.le_trans (zDF _ _ _) (zAb k (by omega))
theorem k9 {P : Pst} {key : Int} {l : List Int} {M : Nat} (hl : LenS 800 P.t.gens) (hk : SmK M P.kills) (hn : ∀ x ∈ l, 1 ≤ x ∧ x ≤ 8) : ∀ k, k ≤ l.length →
  LenS 800 (yP P key l k).t.gens ∧ SmK (M + k) (yP P key l k).kills ∧ (yP P key l k).needs = P.needs ∧ (yP P key l k).bytes = P.bytes ∧ (yP P key l k).rot = P.rot ∧ (yP P key l k).res = P.res
 | 0, _ => ⟨hl, hk, rfl, rfl, rfl, rfl⟩
 | k + 1, h => by
  obtain ⟨h1, h2, h3, h4, h5, h6⟩ := k9 (P := P) (key := key) hl hk hn k (by omega);rw [uL P key l k (by omega)];exact ⟨zA9 h1, h2.ins (hn _ (zCy (by omega))) key, h3, h4, h5, h6⟩
theorem zKD {W : World} {B g n cap k : Nat} {ks : List KP} (h : W.ownsRow B 89 2 (.slice (some ⟨g, 0, none⟩) n cap) ks.length (ks.flatMap klC)) (hk : k < ks.length) : W.cell? ⟨g, k * 2 + 1, none⟩ = some (kat ks k).2.1 ∧ W.frozen? ⟨g, k * 2 + 1, none⟩ = false := by
 have hn : n = ks.length := by
  rcases h.2 with ⟨e, _⟩ | ⟨_, _, _, e, _⟩
  ·
   cases e
  injection e
 subst hn;have hf := wg h (k * 2 + 1);have hr : RdKs W (.slice (some ⟨g, 0, none⟩) ks.length cap) ks := ⟨fun x _ => uJ x, zv h⟩
 obtain ⟨b, off, e, _, hc⟩ := hr.at hk;injection e with e;injection e with e1 e2;subst e1 e2;rw [Nat.zero_add] at hc;exact ⟨hc, hf⟩
def zLY (B : Nat) (l : List Int) : Sta := ⟨fun v w => ∃ a c, v = .slice a l.length c ∧ OwnI w B (.slice a l.length c) l, fun _ _ _ hb ⟨a, c, h1, h2⟩ => ⟨a, c, h1, zH h2 hb⟩⟩
def zLg (key : Int) : Sta := ⟨fun v w => ∃ j, v = .slice (some ⟨j, 0, none⟩) 1 1 ∧ RdU w (.slice (some ⟨j, 0, none⟩) 1 1) [key], fun _ _ _ hb ⟨j, h1, h2⟩ => ⟨j, h1, RdL.below h2 hb⟩⟩
def zLh (num key : Int) : Sta := ⟨fun v w => ∃ j, v = .agg #[.int .i64 num, .slice (some ⟨j, 0, none⟩) 1 1] ∧ RdU w (.slice (some ⟨j, 0, none⟩) 1 1) [key], fun _ _ _ hb ⟨j, h1, h2⟩ => ⟨j, h1, RdL.below h2 hb⟩⟩
theorem zLL (i l : Int) (r : Bool) (ga : Option Addr) (gn gc : Nat) (rot : Bool) (kv nv rv : Value) (by_ : Int) (u : Value) : (uz i l r ga gn gc rot kv nv rv by_).setIfInBounds 6 u = uz i l r ga gn gc rot u nv rv by_ := by
 simp only [List.setIfInBounds_toArray, List.set_cons_zero, List.set_cons_succ]
theorem zG1 {w : World} {B b : Nat} {P : Pst} {ga : Option Addr} {gn gc : Nat} {L : List GP} {kv : Value} {ks : List KP} {nv : Value} {es : List (Nd × Value)} {rv : Value} (hlo : B ≤ b) (hP : PlB w b P.t.id P.t.lim P.t.ro ga gn gc P.rot kv nv rv P.bytes) (hR : PlR w B P ga gn gc L kv ks nv es rv) (hl : LenS 800 P.t.gens) (hB : B ≤ w.heap.size) (hel : es.length ≤ 900) (hby : 0 ≤ P.bytes ∧ P.bytes ≤ 1000000000) (M : Nat) (hM : M ≤ 100000) (hsk : SmK M P.kills) (hgl : P.t.gens.length ≤ 1000000) (q : Rq) (tk kind key ck : Int) (da : Option Addr) (dn dc : Nat) (hqk : (q.key : Int) = key) (hqc : (q.ck : Int) = ck) :
  Calls Tryz.prog 152 #[.pointer (some ⟨b, 0, none⟩), rqV tk kind key ck (.slice da dn dc)] w fun e w' => e = .returned (.tuple #[]) ∧ PlM w' B b (xR P q) ∧ BelK B w w' := by
 have hbw : b < w.heap.size := hP.lt;have HOl := zh (fun W (hb : Below w.heap.size w W) => zKt P.t ga gn gc L W (hR.g.rd.below hb) hR.gg (hl.mono (by decide)) key);have HIn := zh (k9 (P := P) (key := key) (l := zj P.t key) (M := M) hl hsk (fun x hx => qI hx));have HSu := zh (fun k (h : k < (zj P.t key).length) => uL P key (zj P.t key) k h);have HNm := zh (show ∀ k, k < (zj P.t key).length → 1 ≤ uat (zj P.t key) k ∧ uat (zj P.t key) k ≤ 8 from fun k hk => qI (zCy hk));have h8 := zAa P.t key;have HGl := zh (fun k (h : k ≤ (zj P.t key).length) => Nat.le_trans (zAb (P := P) (key := key) (l := zj P.t key) k h) hgl)
 have HDr := zh (show xR P q = if vQ (yP P key (zj P.t key) (zj P.t key).length).t key = true then vp (yP P key (zj P.t key) (zj P.t key).length) (zAu q) else yP P key (zj P.t key) (zj P.t key).length by
  have e : yP P key (zj P.t key) (zj P.t key).length = xO P key := by unfold yP xO; rw [List.take_of_length_le (Nat.le_refl _)]
  rw [e, ← hqk]; rfl)
 have HP0 := zh (show PlM w B b (yP P key (zj P.t key) 0) from ⟨ga, gn, gc, L, kv, ks, nv, es, rv, hlo, hP, hR⟩)
 have HEs := zh (show ∀ (es' : List (Nd × Value)), es'.map (·.1) = P.needs → es'.length ≤ 900 from fun es' h => by
  have h1 := congrArg List.length (h.trans hR.nn.symm)
  rw [List.length_map, List.length_map] at h1
  omega)
 have HPw := zh hP;have HQk := zh hqk;have HQc := zh hqc;generalize xR P q = D at *;clear hR hl hsk hqk hqc hel hgl
 go_enter Tryz.func152, Tryz.ntmps152
 go_upto_region 1 with fail;change Code.wp _ _ _ _ (w.alloc (.cells #[.int .i64 tk, .int .i64 kind, .int .u64 key, .int .u32 ck, .slice da dn dc] 85));have hba := (Below.refl w.heap.size w).alloc (Nat.le_refl _) (.cells #[.int .i64 tk, .int .i64 kind, .int .u64 key, .int .u32 ck, .slice da dn dc] 85);have HX := zh (BlkE.new w #[.int .i64 tk, .int .i64 kind, .int .u64 key, .int .u32 ck, .slice da dn dc] 85);have HB := zh hba;replace HP0 := zh (HP0.out.below hba);replace HPw := zh (HPw.out.below hba);clear hba;generalize w.alloc (.cells #[.int .i64 tk, .int .i64 kind, .int .u64 key, .int .u32 ck, .slice da dn dc] 85) = w1 at *;generalize hb3n : w.heap.size = b3 at *;have Hb3n := zh hb3n;have hz1 : w.heap.size ≤ b3 := by omega
 have hz2 : b3 ≤ w.heap.size := by omega
 clear hb3n
 go_cut [14, 15, 16] (fun vq vl vi wx => ∃ oa oc, vl = .int .i64 ((zj P.t key).length : Int) ∧ vi = .int .i64 0 ∧ vq = .slice oa (zj P.t key).length oc ∧ Hid (OwnI wx w1.heap.size (.slice oa (zj P.t key).length oc) (zj P.t key)) ∧ Hid (Below w1.heap.size w1 wx))
 case first =>
  refine yx [eqS (.pointer (some ⟨b, 0, none⟩)), eqS (.pointer (some ⟨b, 0, none⟩)), eqS (.pointer (some ⟨b, 0, none⟩)), eqS (zhq P.t.id P.t.lim P.t.ro ga gn gc), eqS (.pointer (some ⟨b3, 2, none⟩)), eqS (.int .u64 key), zLY w1.heap.size (zj P.t key), eqS (.int .i64 ((zj P.t key).length : Int)), eqS (.int .i64 0)] 95 (by kernel_rfl) (by kernel_rfl) (by kernel_rfl) (by rfl) (by kernel_rfl) (fun f => by simp [frm, zN, Act.put]; exact rfl) ?_ ?_
  ·
   refine ⟨?_, ?_, ?_, ?_, ?_, ?_, ?_, ?_, ?_, trivial⟩
   ·
    intro f w2 hb hd;clear hd;dsimp only;go_wp2_with fail;exact pS rfl (by simp)
   ·
    intro f w2 hb hd;have d0 : f 0 = (.pointer (some ⟨b, 0, none⟩)) := hd 0 (by kernel_rfl);clear hd;dsimp only;rw [d0];go_wp2_with fail;exact pS rfl (by simp)
   ·
    intro f w2 hb hd;have d1 : f 1 = (.pointer (some ⟨b, 0, none⟩)) := hd 1 (by kernel_rfl);clear hd;dsimp only;rw [d1];go_wp2_with fail;exact pS rfl (by simp)
   ·
    intro f w2 hb hd;have d2 : f 2 = (.pointer (some ⟨b, 0, none⟩)) := hd 2 (by kernel_rfl);clear hd;dsimp only;rw [d2];have hx := HPw.out.below hb;have q0 := hx.cell (i := 0) rfl;have q1 := hx.cell (i := 1) rfl;have q2 := hx.cell (i := 2) rfl;have q3 := hx.cell (i := 3) rfl;clear hx;go_wp2_with fail;exact pS rfl (by simp)
   ·
    intro f w2 hb hd;clear hd;dsimp only;go_wp2_with fail;exact pS rfl (by simp)
   ·
    intro f w2 hb hd;have d4 : f 4 = (.pointer (some ⟨b3, 2, none⟩)) := hd 4 (by kernel_rfl);clear hd;dsimp only;rw [d4];have q2 := (HX.out.below hb).cell (i := 2) rfl;go_wp2_with fail;exact pS rfl (by simp)
   ·
    intro f w2 hb hd;have d3 : f 3 = (zhq P.t.id P.t.lim P.t.ro ga gn gc) := hd 3 (by kernel_rfl);have d5 : f 5 = (.int .u64 key) := hd 5 (by kernel_rfl);clear hd;dsimp only;rw [d3];rw [d5];go_wp2_with fail;refine (HOl.out w2 (HB.out.trans (hb.mono (Nat.le_trans hz2 HB.out.size)))).mono ?_;rintro e w9 ⟨ov, rfl, ho, hb9⟩;obtain ⟨qa, qc, rfl, _⟩ := zJ ho;have HO := zh (World.ownsRow.mono ho hb.size);clear ho;go_wp2_with fail;exact ⟨rfl, hb9, fun t ht => by injection ht with ht; subst ht; exact ⟨⟨qa, qc, rfl, HO.out⟩, fun h => by simp at h⟩⟩
   ·
    intro f w2 hb hd;obtain ⟨a6, c6, d6, r6⟩ := show ∃ a c, f 6 = .slice a (zj P.t key).length c ∧ OwnI w2 w1.heap.size (.slice a (zj P.t key).length c) (zj P.t key) from hd 6 (by kernel_rfl);clear hd;dsimp only;rw [d6];clear r6;go_wp2_with fail;exact pS rfl (by simp)
   intro f w2 hb hd;clear hd;dsimp only;go_wp2_with fail;exact pS rfl (by simp)
  intro f w8 hb hA;obtain ⟨oa, oc, e6, d6⟩ := show ∃ a c, f 6 = .slice a (zj P.t key).length c ∧ OwnI w8 w1.heap.size (.slice a (zj P.t key).length c) (zj P.t key) from hA 6 (show 6 < 9 by decide);have d7 : f 7 = .int .i64 ((zj P.t key).length : Int) := hA 7 (show 7 < 9 by decide);have d8 : f 8 = .int .i64 0 := hA 8 (show 8 < 9 by decide);clear hA
  try dsimp only
  rw [e6, d7, d8];clear e6 d7 d8;have HO := zh d6;have HBz := zh hb;clear d6 hb;generalize f 0 = zq0, f 1 = zq1, f 2 = zq2, f 3 = zq3, f 4 = zq4, f 5 = zq5;clear f;go_wp2_with fail;go_meet
  case rel => exact ⟨oa, oc, rfl, rfl, rfl, HO, HBz⟩
 obtain ⟨oa, oc, rfl, rfl, rfl, HO, HBn⟩ := hcut;generalize wc = w2 at *;replace HX := zh (HX.out.below HBn.out);have HP2 := zh (show PlM w2 B b (yP P key (zj P.t key) 0) from HP0.out.below HBn.out);have HB2 := zh (show BelK B w w2 from BelK.of ((HB.out.trans (HBn.out.mono (Nat.le_trans hz2 HB.out.size))).mono hz1) (Nat.le_trans hB hz2));have hlo2 : B ≤ w1.heap.size := Nat.le_trans hB (Nat.le_trans hz2 HB.out.size);have hz4 : B ≤ w2.heap.size := Nat.le_trans hlo2 HBn.out.size;clear HB HP0 HPw HOl HBn;generalize hOL : zj P.t key = OL at *;clear hOL;generalize hOn : OL.length = oN at *;have HOn := zh hOn;clear hOn;generalize hBo : w1.heap.size = Bo at *;clear hBo;go_wp2_with fail
 go_loopw [16] (fun iv W => ∃ k : Nat, iv = .int .i64 (k : Int) ∧ k ≤ oN ∧ Hid (PlM W B b (yP P key OL k)) ∧ Hid (OwnI W Bo (.slice oa oN oc) OL) ∧ Hid (BlkE W b3 #[.int .i64 tk, .int .i64 kind, .int .u64 key, .int .u32 ck, .slice da dn dc] 85) ∧ Hid (BelK B w W)) (fun iv _ => oN - (intOf iv).toNat)
 case atStart => exact ⟨0, rfl, Nat.zero_le _, HP2, HO, HX, HB2⟩
 clear HP2 HO HX HB2;obtain ⟨k, rfl, hk, HPk, HO, HX, HB⟩ := hrel
 by_cases hlt : k < oN
 ·
  have j1 : (k : Int) < (oN : Int) := by omega
  obtain ⟨hI1, hI2, hI3, hI4, hI5, hI6⟩ := HIn.out k hk;have HS1 := HSu.out k hlt;have hnm := HNm.out k hlt;have hgl := HGl.out k hk;obtain ⟨og, off, e0, hcell⟩ := OwnI.atB HO.out hlt;subst e0;generalize uat OL k = num at *;have HS2 := zh HS1;clear HS1;generalize hQ : yP P key OL k = Q at *;clear hQ;obtain ⟨ga1, gn1, gc1, L1, kv1, ks1, nv1, es1, rv1, hlo1, hP1, hR1⟩ := HPk.out;have hgn1 : gn1 ≤ 1000000 := by
   obtain ⟨_, _, e, _⟩ := hR1.g.rd.shape;injection e with _ e _;have h1 := congrArg List.length hR1.gg;rw [zz] at h1;omega
  have HKi := zh (fun W j (hb : Below wr.heap.size wr W) (hr : RdU W (.slice (some ⟨j, 0, none⟩) 1 1) [key]) => zGr Q.t ga1 gn1 gc1 L1 W (hR1.g.rd.below hb) hR1.gg (hI1.mono (by decide)) hgn1 num (.slice (some ⟨j, 0, none⟩) 1 1) [key] hr (by simp));have HKe := zh (show wt key Q num = { Q with t := (wv Q.t num [key]).1, kills := zBV Q.kills num key } from rfl);have HSk := zh hI2;have HPb := zh hP1;have HRr := zh hR1;generalize wv Q.t num [key] = C at *;obtain ⟨C, ce⟩ := C;dsimp only at HKe;clear hlo1 hP1 hR1 HPk hI1 hI2 hI3 hI4 hI5 hI6 hgl hgn1;go_upto_region 4 with fail;have hBr : B ≤ wr.heap.size := Nat.le_trans (Nat.le_trans hB hz2) (Nat.le_trans HB.out.size (Nat.le_refl _))
  go_cut [35] (fun vq wx => vq = .pointer (some ⟨b, 0, none⟩) ∧ ∃ ga' gn' gc' L', Hid (PlB wx b C.id C.lim C.ro ga' gn' gc' Q.rot kv1 nv1 rv1 Q.bytes) ∧ Hid (PlR wx B { Q with t := C } ga' gn' gc' L' kv1 ks1 nv1 es1 rv1) ∧ Hid (OwnI wx Bo (.slice (some ⟨og, off, none⟩) oN oc) OL) ∧ Hid (BlkE wx b3 #[.int .i64 tk, .int .i64 kind, .int .u64 key, .int .u32 ck, .slice da dn dc] 85) ∧ Hid (BelK B w wx))
  case first =>
   refine xQ [eqS (.pointer (some ⟨b, 0, none⟩)), eqS (.pointer (some ⟨b, 0, none⟩)), eqS (.pointer (some ⟨b, 0, none⟩)), eqS (.pointer (some ⟨b, 0, none⟩)), eqS (zhq Q.t.id Q.t.lim Q.t.ro ga1 gn1 gc1), eqS (.int .i64 num), eqS (.pointer (some ⟨b3, 2, none⟩)), eqS (.int .u64 key), zLg key, zLh num key, zFz B (C, ce), zFz B (C, ce), zKd B C, eqS (.int .i64 ce), eqS (.pointer (some ⟨b, 0, none⟩)), eqS (.pointer (some ⟨b, 0, none⟩))] [] 95 13 (by kernel_rfl) (by kernel_rfl) rfl rfl (by decide) (by rfl) (by kernel_rfl) (fun f => by simp [frm, zN, Act.put]; exact rfl) ?_ ?_ ?_
   ·
    refine ⟨?_, ?_, ?_, ?_, ?_, ?_, ?_, ?_, ?_, ?_, ?_, ?_, ?_, ?_, ?_, ?_, trivial⟩
    ·
     intro f w1 hb hd;clear hd;dsimp only;go_wp2_with fail;exact pS rfl (by simp)
    ·
     intro f w1 hb hd;clear hd;dsimp only;go_wp2_with fail;exact pS rfl (by simp)
    ·
     intro f w1 hb hd;have d1 : f 1 = (.pointer (some ⟨b, 0, none⟩)) := hd 1 (by kernel_rfl);clear hd;dsimp only;rw [d1];go_wp2_with fail;exact pS rfl (by simp)
    ·
     intro f w1 hb hd;have d2 : f 2 = (.pointer (some ⟨b, 0, none⟩)) := hd 2 (by kernel_rfl);clear hd;dsimp only;rw [d2];go_wp2_with fail;exact pS rfl (by simp)
    ·
     intro f w1 hb hd;have d3 : f 3 = (.pointer (some ⟨b, 0, none⟩)) := hd 3 (by kernel_rfl);clear hd;dsimp only;rw [d3];have hx := HPb.out.below hb;have q0 := hx.cell (i := 0) rfl;have q1 := hx.cell (i := 1) rfl;have q2 := hx.cell (i := 2) rfl;have q3 := hx.cell (i := 3) rfl;clear hx;go_wp2_with fail;exact pS rfl (by simp)
    ·
     intro f w1 hb hd;clear hd;dsimp only;go_wp2_with fail;exact pS rfl (by simp)
    ·
     intro f w1 hb hd;clear hd;dsimp only;go_wp2_with fail;exact pS rfl (by simp)
    ·
     intro f w1 hb hd;have d6 : f 6 = (.pointer (some ⟨b3, 2, none⟩)) := hd 6 (by kernel_rfl);clear hd;dsimp only;rw [d6];have q2 := (HX.out.below hb).cell (i := 2) rfl;go_wp2_with fail;exact pS rfl (by simp)
    ·
     intro f w1 hb hd;have d7 : f 7 = (.int .u64 key) := hd 7 (by kernel_rfl);clear hd;dsimp only;rw [d7];have hnw : RdU (w1.alloc (.cells #[.int .u64 key] 24)) (.slice (some ⟨w1.heap.size, 0, none⟩) 1 1) [key] := Rd.new w1 1 [.int .u64 key] 24 1 rfl (by decide);have HNw := zh hnw;have hbs := hb.size;clear hnw;go_wp2_with fail;exact ⟨rfl, (Below.refl _ _).alloc (Nat.le_refl _) _, fun t ht => by injection ht with ht; subst ht; exact ⟨⟨_, rfl, HNw.out⟩, fun h => by simp at h⟩⟩
    ·
     intro f w1 hb hd;have d5 : f 5 = (.int .i64 num) := hd 5 (by kernel_rfl);obtain ⟨j8, d8, r8⟩ := show ∃ j, f 8 = .slice (some ⟨j, 0, none⟩) 1 1 ∧ RdU w1 (.slice (some ⟨j, 0, none⟩) 1 1) [key] from hd 8 (by kernel_rfl);clear hd;dsimp only;rw [d5];rw [d8];have HNw := zh r8;clear r8;go_wp2_with fail;exact ⟨rfl, Below.refl _ _, fun t ht => by injection ht with ht; subst ht; exact ⟨⟨j8, rfl, HNw.out⟩, fun h => by simp at h⟩⟩
    ·
     intro f w1 hb hd;have d4 : f 4 = (zhq Q.t.id Q.t.lim Q.t.ro ga1 gn1 gc1) := hd 4 (by kernel_rfl);obtain ⟨j9, d9, r9⟩ := show ∃ j, f 9 = .agg #[.int .i64 num, .slice (some ⟨j, 0, none⟩) 1 1] ∧ RdU w1 (.slice (some ⟨j, 0, none⟩) 1 1) [key] from hd 9 (by kernel_rfl);clear hd;dsimp only;rw [d4];rw [d9];have HNw := zh r9;clear r9;go_wp2_with fail;refine (HKi.out w1 j9 hb HNw.out).mono ?_;rintro e w9 ⟨⟨qa, qn, qc, qL, rfl, hown, hgn⟩, hb9⟩;have HKg := zh (show KRdG w9 B (.slice qa qn qc) qL from KRdG.own hown);have HGn := zh hgn;clear hown hgn;go_wp2_with fail;exact ⟨rfl, hb9, fun t ht => by injection ht with ht; subst ht; exact ⟨⟨qa, qn, qc, qL, rfl, HKg.out, HGn.out⟩, fun h => by simp at h⟩⟩
    ·
     intro f w1 hb hd;obtain ⟨a10, n10, c10, L10, d10, r10, g10⟩ := show ∃ a n c L, f 10 = .tuple #[zhq C.id C.lim C.ro a n c, .int .i64 ce] ∧ KRdG w1 B (.slice a n c) L ∧ gns L = C.gens from hd 10 (by kernel_rfl);clear hd;dsimp only;rw [d10];have HKg := zh r10;have HGn := zh g10;clear r10 g10;go_wp2_with fail;exact ⟨rfl, Below.refl _ _, fun t ht => by injection ht with ht; subst ht; exact ⟨⟨a10, n10, c10, L10, rfl, HKg.out, HGn.out⟩, fun h => by simp at h⟩⟩
    ·
     intro f w1 hb hd;obtain ⟨a11, n11, c11, L11, d11, r11, g11⟩ := show ∃ a n c L, f 11 = .tuple #[zhq C.id C.lim C.ro a n c, .int .i64 ce] ∧ KRdG w1 B (.slice a n c) L ∧ gns L = C.gens from hd 11 (by kernel_rfl);clear hd;dsimp only;rw [d11];have HKg := zh r11;have HGn := zh g11;clear r11 g11;go_wp2_with fail;exact ⟨rfl, Below.refl _ _, fun t ht => by injection ht with ht; subst ht; exact ⟨⟨a11, n11, c11, L11, rfl, HKg.out, HGn.out⟩, fun h => by simp at h⟩⟩
    ·
     intro f w1 hb hd;obtain ⟨a11, n11, c11, L11, d11, r11, g11⟩ := show ∃ a n c L, f 11 = .tuple #[zhq C.id C.lim C.ro a n c, .int .i64 ce] ∧ KRdG w1 B (.slice a n c) L ∧ gns L = C.gens from hd 11 (by kernel_rfl);clear hd;dsimp only;rw [d11];clear r11 g11;go_wp2_with fail;exact pS rfl (by simp)
    ·
     intro f w1 hb hd;have d0 : f 0 = (.pointer (some ⟨b, 0, none⟩)) := hd 0 (by kernel_rfl);clear hd;dsimp only;rw [d0];go_wp2_with fail;exact pS rfl (by simp)
    intro f w1 hb hd;have d14 : f 14 = (.pointer (some ⟨b, 0, none⟩)) := hd 14 (by kernel_rfl);clear hd;dsimp only;rw [d14];go_wp2_with fail;exact pS rfl (by simp)
   ·
    intro f w8 hb hd hff;clear hff;obtain ⟨a8, n8, c8, L8, d8, r8, g8⟩ := show ∃ a n c L, f 12 = zhq C.id C.lim C.ro a n c ∧ KRdG w8 B (.slice a n c) L ∧ gns L = C.gens from hd 12 (show 12 < 16 by decide);have d11 : f 15 = .pointer (some ⟨b, 0, none⟩) := hd 15 (show 15 < 16 by decide)
    try dsimp only
    rw [d8, d11];clear hd d8 d11;have hP8 := HPb.out.below hb;have HO9 := Oth.pts (T := 145) hlo ⟨_, _, hP8⟩ (zU C.id C.lim C.ro a8 n8 c8);have HPn := zh (show PlB _ b C.id C.lim C.ro a8 n8 c8 Q.rot kv1 nv1 rv1 Q.bytes from (by have h := BlkE.sets (zU C.id C.lim C.ro a8 n8 c8) hP8; rw [qz] at h; exact h));have HRn := zh (((HRr.out.below hb).slot C r8 g8).oth HO9);have HOn := zh (show OwnI _ Bo _ OL from xU (zH HO.out hb) HO9 (by decide));have HXn := zh ((HX.out.below hb).pts_ne (show b3 ≠ b by omega) (zU C.id C.lim C.ro a8 n8 c8));have HBn := zh ((HB.out.step hb hBr).pts hlo (zU C.id C.lim C.ro a8 n8 c8) ⟨_, _, hP8⟩ (by decide));have q0 := hP8.cell (i := 0) rfl;have q1 := hP8.cell (i := 1) rfl;have q2 := hP8.cell (i := 2) rfl;have q3 := hP8.cell (i := 3) rfl;have qf := hP8.frozen;clear r8 g8 hb hP8 HO9
    generalize f 0 = zq0, f 1 = zq1, f 2 = zq2, f 3 = zq3, f 4 = zq4, f 5 = zq5, f 6 = zq6, f 7 = zq7, f 8 = zq8, f 9 = zq9, f 10 = zq10, f 11 = zq11, f 13 = zq13, f 14 = zq14;clear f;change wpList _ _ _ (_ :: []) _ _;go_wp2_with fail;go_meet
    case rel => exact ⟨rfl, a8, n8, c8, L8, HPn, HRn, HOn, HXn, HBn⟩
   intro f w8 hb hd hff;clear hff;obtain ⟨a8, n8, c8, L8, d8, r8, g8⟩ := show ∃ a n c L, f 12 = zhq C.id C.lim C.ro a n c ∧ KRdG w8 B (.slice a n c) L ∧ gns L = C.gens from hd 12 (show 12 < 16 by decide) (show 12 ≠ 13 by decide);have d11 : f 15 = .pointer (some ⟨b, 0, none⟩) := hd 15 (show 15 < 16 by decide) (show 15 ≠ 13 by decide);obtain ⟨a7, n7, c7, L7, d7, r7, g7⟩ := show ∃ a n c L, f 11 = .tuple #[zhq C.id C.lim C.ro a n c, .int .i64 ce] ∧ KRdG w8 B (.slice a n c) L ∧ gns L = C.gens from hd 11 (show 11 < 16 by decide) (show 11 ≠ 13 by decide);clear r7 g7
   try dsimp only
   rw [d7, d8, d11];clear hd d7 d8 d11;have hP8 := HPb.out.below hb;have HO9 := Oth.pts (T := 145) hlo ⟨_, _, hP8⟩ (zU C.id C.lim C.ro a8 n8 c8);have HPn := zh (show PlB _ b C.id C.lim C.ro a8 n8 c8 Q.rot kv1 nv1 rv1 Q.bytes from (by have h := BlkE.sets (zU C.id C.lim C.ro a8 n8 c8) hP8; rw [qz] at h; exact h));have HRn := zh (((HRr.out.below hb).slot C r8 g8).oth HO9);have HOn := zh (show OwnI _ Bo _ OL from xU (zH HO.out hb) HO9 (by decide));have HXn := zh ((HX.out.below hb).pts_ne (show b3 ≠ b by omega) (zU C.id C.lim C.ro a8 n8 c8));have HBn := zh ((HB.out.step hb hBr).pts hlo (zU C.id C.lim C.ro a8 n8 c8) ⟨_, _, hP8⟩ (by decide));have q0 := hP8.cell (i := 0) rfl;have q1 := hP8.cell (i := 1) rfl;have q2 := hP8.cell (i := 2) rfl;have q3 := hP8.cell (i := 3) rfl;have qf := hP8.frozen;clear r8 g8 hb hP8 HO9
   generalize f 0 = zq0, f 1 = zq1, f 2 = zq2, f 3 = zq3, f 4 = zq4, f 5 = zq5, f 6 = zq6, f 7 = zq7, f 8 = zq8, f 9 = zq9, f 10 = zq10, f 13 = zq13, f 14 = zq14;clear f;change wpList _ _ _ (_ :: _ :: []) _ _;go_wp2_with fail;go_meet
   case rel => exact ⟨rfl, a8, n8, c8, L8, HPn, HRn, HOn, HXn, HBn⟩
  obtain ⟨rfl, ga', gn', gc', L', HPb, HRr, HO, HX, HB⟩ := hcut;generalize wc = v1 at *;clear HKi;obtain ⟨ka, kc, hkv, hk1, hk2, _⟩ := zJ HRr.out.k.row;subst hkv;have q6 := HPb.out.cell (i := 6) rfl;have hKK : kls ks1 = Q.kills := HRr.out.kk;have hks8 : ks1.length ≤ 8 := by have h := (show SmK _ Q.kills from HSk.out).le8; rw [← hKK, uH] at h; exact h
  have hbs := zJJ ka ks1.length kc ks1 num v1 ⟨fun x _ => uJ x, zv HRr.out.k.row⟩ (by rw [hKK]; exact HSk.out.asc) (by rw [hKK]; exact HSk.out.num) hnm (by omega);have hIl : klI Q.kills num ≤ ks1.length := by have h := zE4 Q.kills num; rw [← hKK, uH] at h; rw [← hKK]; exact h
  have hql : Q.kills.length = ks1.length := by rw [← hKK, uH]
  rw [hKK] at hbs;have hHit := zLA (num := num) (key := key) hKK rfl;have hMis := zJi (num := num) (key := key) hKK rfl;have hKeys : ∀ x ∈ kls ks1, x.2.length ≤ 200000 := fun x hx => by have := HSk.out.len x (by rw [← hKK]; exact hx); omega
  have hFb : (decide (klI Q.kills num < ks1.length) && (ye Q.kills (klI Q.kills num)).1 == num) = decide (klI Q.kills num < Q.kills.length ∧ (ye Q.kills (klI Q.kills num)).1 = num) := by
   rw [hql]
   by_cases e1 : klI Q.kills num < ks1.length
   ·
    by_cases e2 : (ye Q.kills (klI Q.kills num)).1 = num
    ·
     simp [e1, e2]
    simp [e1, e2]
   simp [e1]
  rw [hFb] at hbs;clear hFb hql;have HBs := zh hbs;have HHit := zh hHit;have HMis := zh hMis;have HKy := zh hKeys;have HKK := zh hKK;clear hbs hHit hMis hKeys hKK;generalize hI0 : klI Q.kills num = I at *;clear hI0;obtain ⟨fo, hfo⟩ : ∃ fo, decide (I < Q.kills.length ∧ (ye Q.kills I).1 = num) = fo := ⟨_, rfl⟩
  rw [hfo] at HBs;have HFo := zh hfo;clear hfo;go_wp2_with fail;refine HBs.out.mono ?_;rintro e v2 ⟨rfl, hb2⟩;replace HPb := zh (HPb.out.below hb2);replace HRr := zh (HRr.out.below hb2);replace HO := zh (zH HO.out hb2);replace HX := zh (HX.out.below hb2);have hB1 : B ≤ v1.heap.size := Nat.le_trans hB (Nat.le_trans hz2 HB.out.size);replace HB := zh (HB.out.step hb2 hB1);clear hb2 q6 HBs;go_upto_if 47 with fail
  go_cut [6] (fun vi wx => vi = .int .i64 (I : Int) ∧ ∃ ka' m' kc' ks', Hid (PlB wx b C.id C.lim C.ro ga' gn' gc' Q.rot (.slice ka' m' kc') nv1 rv1 Q.bytes) ∧ Hid (PlR wx B { Q with t := C, kills := kls ks' } ga' gn' gc' L' (.slice ka' m' kc') ks' nv1 es1 rv1) ∧ I < ks'.length ∧ ks'.length ≤ 9 ∧ (kat ks' I).1 = num ∧ Hid ((kls ks').set I (num, (kat ks' I).2.2 ++ [key]) = zBV Q.kills num key) ∧ (kat ks' I).2.2.length ≤ 200000 ∧ Hid (OwnI wx Bo (.slice (some ⟨og, off, none⟩) oN oc) OL) ∧ Hid (BlkE wx b3 #[.int .i64 tk, .int .i64 kind, .int .u64 key, .int .u32 ck, .slice da dn dc] 85) ∧ Hid (BelK B w wx))
  case first =>
   cases fo
   rotate_left
   ·
    have hh := of_decide_eq_true HFo.out;obtain ⟨g1, g2, g3⟩ := HHit.out hh;have G3 := zh g3;have HRk := zh (HRr.out.kills HRr.out.k);have g4 : (kat ks1 I).2.2.length ≤ 200000 := HKy.out _ (by have := uD (l := kls ks1) (i := I) (by rw [uH]; exact g1); rw [zEX] at this; exact this);clear g3 hh;go_wp2_with fail;go_meet
    case rel => exact ⟨rfl, ka, ks1.length, kc, ks1, HPb, HRk, g1, by omega, g2, G3, g4, HO, HX, HB⟩
   have hh := of_decide_eq_false HFo.out;obtain ⟨g1, g2, g3⟩ := HMis.out hh;have G3 := zh g3;have G2 := zh g2;clear g2 g3 hh;have hB2 : B ≤ v2.heap.size := Nat.le_trans hB (Nat.le_trans hz2 HB.out.size);have q6a := HPb.out.cell (i := 6) rfl;have hba := (Below.refl v2.heap.size v2).alloc (Nat.le_refl _) (.cells #[.int .i64 num, .slice none 0 0] 89);have hrowlt : ∀ k, (Value.slice ka ks1.length kc).ownBlock = some k → k ≠ v2.heap.size := fun k h e => by have := (HRr.out.k.row.lt k h).2; omega
   have HFi := zh (zGp (.slice ka ks1.length kc) (ks1.flatMap klC) (klC (num, .slice none 0 0, [])) ks1.length I v2.heap.size B (v2.alloc (.cells #[.int .i64 num, .slice none 0 0] 89)) (zH HRr.out.k.row hba) (Nat.le_trans hB2 hba.size) hIl (by omega) (fun u hu => by
    obtain ⟨x, hx, hu⟩ := List.mem_flatMap.1 hu
    simp only [klC, List.mem_cons, List.not_mem_nil, or_false] at hu
    rcases hu with rfl | rfl
    ·
     rfl
    ·
     obtain ⟨_, _, e, _⟩ := zJ (HRr.out.k.keys x hx); rw [e]; rfl) (fun u hu => by
    simp only [klC, List.mem_cons, List.not_mem_nil, or_false] at hu
    rcases hu with rfl | rfl <;> rfl) rfl (heap_alloc_new v2 _) hrowlt)
   replace HPb := zh (HPb.out.below hba);replace HRr := zh (HRr.out.below hba);replace HO := zh (zH HO.out hba);replace HX := zh (HX.out.below hba);replace HB := zh (HB.out.step hba hB2);clear hba;have q6 := HPb.out.cell (i := 6) rfl;go_wp2_with fail;refine HFi.out.mono ?_;rintro e v3 ⟨kv3, rfl, hown3, hgr3⟩;obtain ⟨ka3, kc3, hkv3, _, _, _⟩ := zJ hown3;subst hkv3;have hO3 := OthR.row HRr.out.k.row hgr3 (Nat.le_refl B);have hp3 := HPb.out.othR hO3 (by decide);have hO4 : Oth v3 (v3.setCell ⟨b, 6, none⟩ (.slice ka3 (ks1.length + 1) kc3)) B b 145 := Oth.pts hlo ⟨_, _, hp3⟩ [(6, .slice ka3 (ks1.length + 1) kc3)];have HR9 := zh ((HRr.out.insR hO3 (HRr.out.k.ins hIl num hown3 hgr3)).oth hO4);have HO9 := zh (show OwnI _ Bo _ OL from xU (xl HO.out hO3 (by decide)) hO4 (by decide))
   have HX9 := zh (show BlkE (v3.setCell ⟨b, 6, none⟩ (.slice ka3 (ks1.length + 1) kc3)) b3 #[.int .i64 tk, .int .i64 kind, .int .u64 key, .int .u32 ck, .slice da dn dc] 85 from BlkE.pts_ne (c := b) (by omega) [(6, .slice ka3 (ks1.length + 1) kc3)] (HX.out.othR hO3 (by decide)));have HP9 := zh (show PlB (v3.setCell ⟨b, 6, none⟩ (.slice ka3 (ks1.length + 1) kc3)) b C.id C.lim C.ro ga' gn' gc' Q.rot (.slice ka3 (ks1.length + 1) kc3) nv1 rv1 Q.bytes from (by have h := hp3.set 6 (.slice ka3 (ks1.length + 1) kc3); rw [zLL] at h; exact h));have HB9 := zh ((HB.out.own HRr.out.k.row (Nat.le_trans hB2 (by simp)) hgr3 (by decide)).pts hlo [(6, .slice ka3 (ks1.length + 1) kc3)] ⟨_, _, hp3⟩ (by decide));have c6 := hp3.cell (i := 6) rfl;have f6 := hp3.frozen 6;clear hown3 hgr3 hO3 hO4 hp3 HFi HPb HRr HO HX HB q6 q6a;go_wp2_with fail;go_meet
   case rel => exact ⟨rfl, ka3, ks1.length + 1, kc3, _, HP9, HR9, g1, by rw [List.length_append, List.length_cons, List.length_take, List.length_drop]; omega, by rw [G2.out], (by rw [G2.out]; exact G3), by rw [G2.out]; exact Nat.zero_le _, HO9, HX9, HB9⟩
  clear HHit HMis HKy HKK HFo HPb HRr HO HX HB hIl hks8;obtain ⟨rfl, ka2, m2, kc2, ks2, HPb, HRr, hi2, hl9, hn2, HI2, hkl, HO, HX, HB⟩ := hcut;generalize wc = y2 at *;obtain ⟨g, e1, e2, hgB, hgl, hcK⟩ := zKS HRr.out.k hi2;subst e1 e2;have hown0 := HRr.out.k.keys _ (zAQ hi2);obtain ⟨wa, wc', hwv, _, _, _⟩ := zJ hown0;have hba := zi ((Below.refl y2.heap.size y2).alloc (Nat.le_refl _) (.cells #[.int .u64 key] 24));have hBy : B ≤ y2.heap.size := Nat.le_trans hB (Nat.le_trans hz2 HB.out.size);have q6 := HPb.out.cell (i := 6) rfl;have x2 := HX.out.cell (i := 2) rfl;have HPa := zh (HPb.out.below hba);have HRa := zh (HRr.out.below hba);have HOa := zh (show OwnI _ Bo _ OL from zH HO.out hba);have HXa := zh (HX.out.below hba);have HBa := zh (HB.out.step hba hBy);have hRw := HRa.out.k.keys _ (zAQ hi2);have hbsz := hba.size
  have HPut := zh (fun W1 v2 ho hg hat => HRa.out.put (W1 := W1) hi2 hn2 (v2 := v2) (l2 := (kat ks2 I).2.2 ++ [key]) ho hg hat);have HKc := zh (fun W1 (hO : OthR _ W1 B 24) => zKD (xl HRa.out.k.row hO (by decide)) hi2);rw [hwv] at hRw HPut HKc hcK;clear hown0 hba;generalize hKl : (kat ks2 I).2.2 = kl at *;clear hKl hwv;have HRw := zh hRw;have HCP := zh (fun W (hg : (World.drew (y2.alloc (.cells #[.int .u64 key] 24))).grownBy W (Value.slice wa kl.length wc').ownBlock) => OthR.row hRw hg (Nat.le_refl B));clear hRw;have i1 : (I : Int) < (ks2.length : Int) := by omega
  have HFin := zh (fun W9 oa2 oc2 (hown2 : World.ownsRow W9 B 24 1 (.slice oa2 (kl.length + 1) oc2) (kl.length + 1) (kl.map zHw ++ [.int .u64 key])) hgr2 hat2 => show PlM (W9.setCell ⟨g, I * 2 + 1, none⟩ (.slice oa2 (kl.length + 1) oc2)) B b (yP P key OL (k + 1)) ∧ OwnI (W9.setCell ⟨g, I * 2 + 1, none⟩ (.slice oa2 (kl.length + 1) oc2)) Bo (.slice (some ⟨og, off, none⟩) oN oc) OL ∧ BlkE (W9.setCell ⟨g, I * 2 + 1, none⟩ (.slice oa2 (kl.length + 1) oc2)) b3 #[.int .i64 tk, .int .i64 kind, .int .u64 key, .int .u32 ck, .slice da dn dc] 85 ∧ BelK B w (W9.setCell ⟨g, I * 2 + 1, none⟩ (.slice oa2 (kl.length + 1) oc2)) by
   obtain ⟨r1, r2, r3⟩ := HPut.out W9 (.slice oa2 (kl.length + 1) oc2) (by rw [List.length_append, List.map_append]; exact hown2) hgr2 hat2
   have r4 : OthR W9 (W9.setCell ⟨g, I * 2 + 1, none⟩ (.slice oa2 (kl.length + 1) oc2)) B 89 := .inr ⟨g, r3⟩
   refine ⟨?_, xl (xl HOa.out r2 (by decide)) r4 (by decide), (HXa.out.othR r2 (by decide)).othR r4 (by decide), (HBa.out.own HRw.out (Nat.le_trans hBy hbsz) hgr2 (by decide)).othR r4 (by decide) (zD (B := B) (b := g) hgB [(I * 2 + 1, .slice oa2 (kl.length + 1) oc2)] (zK HBa.out.b HRw.out (Nat.le_trans hBy hbsz) hgr2))⟩
   rw [HS2.out, HKe.out, ← HI2.out]
   exact ⟨ga', gn', gc', L', _, _, nv1, es1, rv1, hlo, (HPa.out.othR r2 (by decide)).othR r4 (by decide), r1⟩)
  have q6w := HPa.out.cell (i := 6) rfl;obtain ⟨ckw, fkw⟩ := HKc.out _ (.inl (Below.refl _ _));go_upto_region 8 with fail
  go_region_law ((refine zAo (n := kl.length) (by rfl) (.tmp 76) (.tmp 79) 87 (by rfl) zKe B (by rfl) HRw.out (ad := ⟨y2.heap.size, 0, none⟩) (m := 1) (c := 1) (news := [.int .u64 key]) (by rfl) (by rfl) (zHq y2 key _ rfl) (fun u hu => by simp only [List.mem_cons, List.not_mem_nil, or_false] at hu; rw [hu]; rfl) (by unfold maxLen; omega) (by omega) (by simp; omega) ?_; intro v9 w9 hown2 hgr2 hat2; obtain ⟨oa2, oc2, hv2, _, _, _⟩ := zJ hown2; subst hv2; have hO9 := HCP.out _ hgr2; have hp9 := HPa.out.othR hO9 (by decide); have c6 := hp9.cell (i := 6) rfl; obtain ⟨c9, f9⟩ := HKc.out _ hO9; clear hp9 hO9))
  all_goals
   obtain ⟨z1, z2, z3, z4⟩ := HFin.out _ _ _ hown2 hgr2 hat2;have Z1 := zh z1;have Z2 := zh z2;have Z3 := zh z3;have Z4 := zh z4;clear z1 z2 z3 z4 hown2 hgr2 hat2 c6 c9 f9 q6w ckw fkw q6 x2 hcK HFin;go_wp2_with fail;exact ⟨⟨k + 1, by go_num, by omega, Z1, Z2, Z3, Z4⟩, by simp [intOf]; omega⟩
 have j1 : ¬ (k : Int) < (oN : Int) := by omega
 have hkn : k = oN := by omega
 subst hkn;obtain ⟨hI1, hI2, hI3, hI4, hI5, hI6⟩ := HIn.out k (Nat.le_refl _);obtain ⟨ga1, gn1, gc1, L1, kv1, ks1, nv1, es1, rv1, hlo1, hP1, hR1⟩ := HPk.out;have hes : es1.length ≤ 900 := HEs.out es1 (hR1.nn.trans hI3);have hDr := HDr.out;generalize yP P key OL k = Q at *;have HTp := zh (zDo b Q.t ga1 gn1 gc1 L1 Q.rot kv1 nv1 rv1 Q.bytes key wr hP1 hR1.g.rd hR1.gg (hI1.mono (by decide)));have hBr : B ≤ wr.heap.size := Nat.le_trans hB (Nat.le_trans hz2 HB.out.size);have HAd := zh (fun W (hb : Below wr.heap.size wr W) => zEC hlo (hP1.below hb) (hR1.below hb) (hI1.mono (by decide)) (Nat.le_trans hBr hb.size) (zAu q) none 0 0 ⟨⟨rfl, none, 0, rfl, Nat.le_refl _, Nat.zero_le _, fun _ => rfl, fun h => (by cases h)⟩, fun g hg => (by cases hg)⟩ rfl (by decide) (by omega) (by rw [hI4]; exact hby))
 have HDl := zh (show ((zAu q).key : Int) = key ∧ ((zAu q).ck : Int) = ck ∧ (zAu q).del = true from ⟨HQk.out, HQc.out, rfl⟩);have HPd := zh (show PlM wr B b Q from HPk.out);obtain ⟨hd1, hd2, hd3⟩ := HDl.out;rw [hd1, hd2, hd3] at HAd;clear hd1 hd2 hd3 HDl hI1 hI2 hI3 hI4 hI5 hI6 hlo1 hP1 hR1 hes HPk HIn HSu HNm HGl;have HDr2 := zh hDr;clear hDr HDr;have x2 := HX.out.cell (i := 2) rfl;have x3 := HX.out.cell (i := 3) rfl;generalize vQ Q.t key = tb at *;go_wp2_with fail;refine HTp.out.mono ?_;rintro e v5 ⟨rfl, hb5⟩;have HB5 := zh (HB.out.step hb5 hBr);have HX5 := zh (HX.out.below hb5);have HP5 := zh (HPd.out.below hb5);have HAd5 := zh (HAd.out v5 hb5);clear hb5 HTp HAd HPd HX HB x2 x3
 cases tb
 ·
  go_wp2_with fail;go_end0;exact ⟨rfl, by rw [HDr2.out]; exact HP5.out, HB5.out⟩
 have x2 := HX5.out.cell (i := 2) rfl;have x3 := HX5.out.cell (i := 3) rfl;go_wp2_with fail;refine HAd5.out.mono ?_;rintro e v6 ⟨rfl, hp6, hb6⟩;have HP6 := zh hp6;have HB6 := zh (HB5.out.trans hb6);clear hp6 hb6;go_wp2_with fail;go_end0;exact ⟨rfl, by rw [HDr2.out]; exact HP6.out, HB6.out⟩
end Go.Proofs.YtcgfilmmokmdjaaGreat
