/- A part of the walk. -/
import Derived.Test.YtcgfilmmokmdjaaGreatBk
import Derived.Test.YtcgfilmmokmdjaaGreatQAA
import Derived.Deep.Onto
import Derived.Laws.EntriesVeiled
import Derived.Test.YtcgfilmmokmdjaaGreatQAP
set_option linter.all false
set_option maxRecDepth 100000
set_option maxHeartbeats 32000000
namespace Go.Proofs.YtcgfilmmokmdjaaGreat
open Go.RowKit
def zLm (B dn : Nat) (l : List UInt8) : Sta := ⟨fun v w => ∃ a c, v = .slice a dn c ∧ KDat w B (.slice a dn c) l, fun _ _ _ hb ⟨a, c, h1, h2⟩ => ⟨a, c, h1, KRd.below h2 hb⟩⟩
def zLj (B : Nat) (key ck : Int) (dn : Nat) (l : List UInt8) : Sta := ⟨fun v w => ∃ a c, v = .agg #[.int .u64 key, .int .u32 ck, .bool false, .slice a dn c] ∧ KDat w B (.slice a dn c) l, fun _ _ _ hb ⟨a, c, h1, h2⟩ => ⟨a, c, h1, KRd.below h2 hb⟩⟩
theorem zE9 (v : Value) (l : List UInt8) (w : World) (h : RdB w v l) (hs : l.length ≤ 1000000) :
  Calls Tryz.prog 148 #[v] w fun e w' => ∃ v', e = .returned v' ∧ OwnB w' w.heap.size v' l ∧ Below w.heap.size w w' := by
 obtain ⟨a, cap, rfl, h1, h2⟩ := h.shape0;have q22 : ∀ (w : World) (a : Option Addr) (n c n' c' : Nat), (binOp .eql 54 (.slice a n c) (.slice none n' c')).run Tryz.prog w = .ok (.bool a.isNone) w := fun w a n c n' c' => Lib.run_eql_slice_nil w _ _ a n c n' c' Tryz.underlying54
 cases a with
 | none =>
  have h0 : l = [] := by
   obtain ⟨_, a', cap', e, _, _, h5, _⟩ := h;injection e with e1 e2 e3;have := h5 e1.symm;exact List.length_eq_zero_iff.1 (by omega)
  subst h0;clear h
  go_enter Tryz.func148, Tryz.ntmps148
  go_wp2_with fail;go_ret;exact ⟨_, rfl, World.ownsRow_nil _ _ _ _, Below.refl _ _⟩
 | some p =>
  have Hr := zh h;generalize hn : l.length = n at *;have HL := zh hn;clear h hn
  go_enter Tryz.func148, Tryz.ntmps148
  go_wp2_with (at_builtin; go_must (refine za (n := 0) (m := n) rfl (.tmp 5) (.tmp 6) 54 rfl ku w.heap.size rfl (World.ownsRow_made (size := 1) _ #[] 0 (Nat.le_refl _) (by decide) rfl) rfl (by have := RdL.alloc Hr.out (.cells #[] 5); unfold RdL at this; rw [HL.out] at this; exact this) (vE _) (by unfold maxLen; omega) (by omega) (by simp) ?_); intro v3 w3 hown3 hgr3 hv3; clear hv3);have HB := zh (zK ((Below.refl w.heap.size w).alloc (Nat.le_refl _) _) (World.ownsRow_made (e := 5) (size := 1) w #[] 0 (Nat.le_refl _) (by decide) rfl) (by simp) hgr3);have HO := zh (td hown3 (List.nil_append _));clear hown3 hgr3;go_wp2_with fail;go_ret;exact ⟨_, rfl, HO.out, HB.out⟩
theorem zG7 (tk kind key ck : Int) (da : Option Addr) (dn dc : Nat) (w : World) : Calls Tryz.prog 145 #[rqV tk kind key ck (.slice da dn dc)] w fun e w' => e = .returned (.bool true) ∧ Below w.heap.size w w' := by
 have hb := (Below.refl w.heap.size w).alloc (Nat.le_refl _) (.cells #[.int .i64 tk, .int .i64 kind, .int .u64 key, .int .u32 ck, .slice da dn dc] 85);have HB := zh hb;clear hb
 go_enter Tryz.func145, Tryz.ntmps145
 go_upto_region 1 with fail;change Code.wp _ _ _ _ (w.alloc (.cells #[.int .i64 tk, .int .i64 kind, .int .u64 key, .int .u32 ck, .slice da dn dc] 85));generalize w.alloc (.cells #[.int .i64 tk, .int .i64 kind, .int .u64 key, .int .u32 ck, .slice da dn dc] 85) = w1 at *;go_wp2_with fail;go_ret;exact ⟨rfl, HB.out⟩
theorem zGL (b cap : Nat) (t : Slt) (ga : Option Addr) (gn gc : Nat) (L : List GP) (rot : Bool) (kv nv rv : Value) (by_ : Int) (tk kind key ck : Int) (da : Option Addr) (dn dc : Nat) (w : World) (hcap : BlkE w cap #[.pointer (some ⟨b, 0, none⟩)] 143) (hb : PlB w b t.id t.lim t.ro ga gn gc rot kv nv rv by_) (hg : RdG w (.slice ga gn gc) L) (hgg : gns L = t.gens) (hl : LenS 1000 t.gens) :
  Calls Tryz.prog 150 #[rqV tk kind key ck (.slice da dn dc), .pointer (some ⟨cap, 0, none⟩)] w fun e w' => e = .returned (.bool (vQ t key)) ∧ Below w.heap.size w w' := by
 have hba := (Below.refl w.heap.size w).alloc (Nat.le_refl _) (.cells #[.int .i64 tk, .int .i64 kind, .int .u64 key, .int .u32 ck, .slice da dn dc] 85);have HX := zh (BlkE.new w #[.int .i64 tk, .int .i64 kind, .int .u64 key, .int .u32 ck, .slice da dn dc] 85);have HC := zh (hcap.below hba);have HTp := zh (zDo b t ga gn gc L rot kv nv rv by_ key (w.alloc (.cells #[.int .i64 tk, .int .i64 kind, .int .u64 key, .int .u32 ck, .slice da dn dc] 85)) (hb.below hba) (RdG.below hg hba) hgg hl);have HB := zh hba;clear hba hb hg hgg hl hcap;generalize vQ t key = tb at *
 go_enter Tryz.func150, Tryz.ntmps150
 go_upto_region 1 with fail;change Code.wp _ _ _ _ (w.alloc (.cells #[.int .i64 tk, .int .i64 kind, .int .u64 key, .int .u32 ck, .slice da dn dc] 85));generalize w.alloc (.cells #[.int .i64 tk, .int .i64 kind, .int .u64 key, .int .u32 ck, .slice da dn dc] 85) = w1 at *;have x2 := HX.out.cell (i := 2) rfl;have c0 := HC.out.cell (i := 0) rfl;go_wp2_with fail;refine HTp.out.mono ?_;rintro e w2 ⟨rfl, hb2⟩;have HB2 := zh (zA HB.out hb2);clear hb2;go_wp2_with fail;go_ret;exact ⟨rfl, HB2.out⟩
theorem zH4 {w : World} {B b : Nat} {P : Pst} {ga : Option Addr} {gn gc : Nat} {L : List GP} {kv : Value} {ks : List KP} {nv : Value} {es : List (Nd × Value)} {rv : Value} (hlo : B ≤ b) (hP : PlB w b P.t.id P.t.lim P.t.ro ga gn gc P.rot kv nv rv P.bytes) (hR : PlR w B P ga gn gc L kv ks nv es rv) (hl : LenS 900 P.t.gens) (hB : B ≤ w.heap.size) (hel : es.length ≤ 1000) (hby : 0 ≤ P.bytes ∧ P.bytes ≤ 1000000000) (q : Rq) (cap : Nat) (tk kind key ck : Int) (da : Option Addr) (dn dc : Nat) (hcap : BlkE w cap #[.pointer (some ⟨b, 0, none⟩)] 143) (hd : RdB w (.slice da dn dc) q.data) (hdl : dn ≤ 100000) (hqk : (q.key : Int) = key) (hqc : (q.ck : Int) = ck) :
  Calls Tryz.prog 146 #[rqV tk kind key ck (.slice da dn dc), .pointer (some ⟨cap, 0, none⟩)] w fun e w' => e = .returned (.tuple #[]) ∧ PlM w' B b (vp P (ud q)) ∧ BelK B w w' := by
 have hdn : q.data.length = dn := by obtain ⟨_, _, _, e, _⟩ := hd; injection e with _ e _; exact e.symm
 have hba := (Below.refl w.heap.size w).alloc (Nat.le_refl _) (.cells #[.int .i64 tk, .int .i64 kind, .int .u64 key, .int .u32 ck, .slice da dn dc] 85);have HX := zh (BlkE.new w #[.int .i64 tk, .int .i64 kind, .int .u64 key, .int .u32 ck, .slice da dn dc] 85);have HC := zh (hcap.below hba);have HB := zh hba;have HDn := zh hdn;have HCl := zh (fun W (hb : Below w.heap.size w W) => zE9 (.slice da dn dc) q.data W (RdL.below hd hb) (by omega));have HAd := zh (fun W va vc (hb : Below w.heap.size w W) (hv : KDat W B (.slice va dn vc) (ud q).data) => zEC hlo (hP.below hb) (hR.below hb) hl (Nat.le_trans hB hb.size) (ud q) va dn vc hv hdn hdl hel hby);have HDl := zh (show ((ud q).key : Int) = key ∧ ((ud q).ck : Int) = ck ∧ (ud q).del = false from ⟨hqk, hqc, rfl⟩);obtain ⟨hd1, hd2, hd3⟩ := HDl.out;rw [hd1, hd2, hd3] at HAd;clear hba hcap hd hd1 hd2 hd3 HDl hP hR hl hel hby hqk hqc
 generalize vp P (ud q) = D at *;change Hid (∀ W va vc, Below w.heap.size w W → KDat W B (.slice va dn vc) q.data → _) at HAd;generalize q.data = ql at *;generalize hbx : w.heap.size = bx at *;have HBx := zh hbx;have hwb : bx ≤ w.heap.size := by omega
 have hwc : w.heap.size ≤ bx := by omega
 clear hbx
 go_enter Tryz.func146, Tryz.ntmps146
 go_upto_region 1 with fail
 try rw [HBx.out]
 generalize w.alloc (.cells #[.int .i64 tk, .int .i64 kind, .int .u64 key, .int .u32 ck, .slice da dn dc] 85) = w1 at *;refine yt [eqS (.pointer (some ⟨b, 0, none⟩)), eqS (.pointer (some ⟨bx, 2, none⟩)), eqS (.int .u64 key), eqS (.pointer (some ⟨bx, 3, none⟩)), eqS (.int .u32 ck), eqS (.pointer (some ⟨bx, 4, none⟩)), eqS (.slice da dn dc), zLm B dn ql, zLj B key ck dn ql] [] 13 (by kernel_rfl) (by kernel_rfl) (by rfl) (by kernel_rfl) (fun f => by simp [frm, zN, Act.put]; exact rfl) ?_ ?_
 ·
  refine ⟨?_, ?_, ?_, ?_, ?_, ?_, ?_, ?_, ?_, trivial⟩
  ·
   intro f w2 hb hd;clear hd;dsimp only;have c0 := (HC.out.below hb).cell (i := 0) rfl;go_wp2_with fail;exact pS rfl (by simp)
  ·
   intro f w2 hb hd;clear hd;dsimp only;go_wp2_with fail;exact pS rfl (by simp)
  ·
   intro f w2 hb hd;have d1 : f 1 = (.pointer (some ⟨bx, 2, none⟩)) := hd 1 (by kernel_rfl);clear hd;dsimp only;rw [d1];have q2 := (HX.out.below hb).cell (i := 2) rfl;go_wp2_with fail;exact pS rfl (by simp)
  ·
   intro f w2 hb hd;clear hd;dsimp only;go_wp2_with fail;exact pS rfl (by simp)
  ·
   intro f w2 hb hd;have d3 : f 3 = (.pointer (some ⟨bx, 3, none⟩)) := hd 3 (by kernel_rfl);clear hd;dsimp only;rw [d3];have q3 := (HX.out.below hb).cell (i := 3) rfl;go_wp2_with fail;exact pS rfl (by simp)
  ·
   intro f w2 hb hd;clear hd;dsimp only;go_wp2_with fail;exact pS rfl (by simp)
  ·
   intro f w2 hb hd;have d5 : f 5 = (.pointer (some ⟨bx, 4, none⟩)) := hd 5 (by kernel_rfl);clear hd;dsimp only;rw [d5];have q4 := (HX.out.below hb).cell (i := 4) rfl;go_wp2_with fail;exact pS rfl (by simp)
  ·
   intro f w2 hb hd;have d6 : f 6 = (.slice da dn dc) := hd 6 (by kernel_rfl);clear hd;dsimp only;rw [d6];go_wp2_with fail;refine (HCl.out w2 (HB.out.trans (hb.mono (Nat.le_trans hwb HB.out.size)))).mono ?_;rintro e w9 ⟨ov, rfl, ho, hb9⟩;have hov : ∃ qa qc, ov = .slice qa dn qc := by
    obtain ⟨qa, qc, hv, _⟩ := zJ ho;exact ⟨qa, qc, by rw [hv, HDn.out]⟩
   obtain ⟨qa, qc, rfl⟩ := hov;have HO := zh (show KDat w9 B (.slice qa dn qc) ql from KRd.own ho);clear ho;go_wp2_with fail;exact ⟨rfl, hb9, fun t ht => by injection ht with ht; subst ht; exact ⟨⟨qa, qc, rfl, HO.out⟩, fun h => by simp at h⟩⟩
  intro f w2 hb hd;have d2 : f 2 = (.int .u64 key) := hd 2 (by kernel_rfl);have d4 : f 4 = (.int .u32 ck) := hd 4 (by kernel_rfl);obtain ⟨a7, c7, d7, r7⟩ := show ∃ a c, f 7 = .slice a dn c ∧ KDat w2 B (.slice a dn c) ql from hd 7 (by kernel_rfl);clear hd;dsimp only;rw [d2];rw [d4];rw [d7];have HO := zh r7;clear r7;go_wp2_with fail;exact ⟨rfl, Below.refl _ _, fun t ht => by injection ht with ht; subst ht; exact ⟨⟨a7, c7, rfl, HO.out⟩, fun h => by simp at h⟩⟩
 intro f w8 hb hA hff;clear hff;have d0 : f 0 = (.pointer (some ⟨b, 0, none⟩)) := hA 0 (show 0 < 9 by decide);obtain ⟨a8, c8, d8, r8⟩ := show ∃ a c, f 8 = .agg #[.int .u64 key, .int .u32 ck, .bool false, .slice a dn c] ∧ KDat w8 B (.slice a dn c) ql from hA 8 (show 8 < 9 by decide);clear hA
 try dsimp only
 rw [d0, d8];clear d0 d8;have HAd8 := zh (HAd.out w8 a8 c8 (HB.out.trans (hb.mono (Nat.le_trans hwb HB.out.size))) r8);have HB8 := zh (show BelK B w w8 from BelK.of ((HB.out.trans (hb.mono (Nat.le_trans hwb HB.out.size))).mono hwc) (Nat.le_trans hB hwb));clear r8 hb HAd HCl HX HC HB;generalize f 1 = zq1, f 2 = zq2, f 3 = zq3, f 4 = zq4, f 5 = zq5, f 6 = zq6, f 7 = zq7;clear f;go_wp2_with fail;refine HAd8.out.mono ?_;rintro e w9 ⟨rfl, hp9, hb9⟩;have HP9 := zh hp9;have HB9 := zh (HB8.out.trans hb9);clear hp9 hb9;go_wp2_with fail;go_end0;exact ⟨rfl, HP9.out, HB9.out⟩
structure RulesAt (W : World) (b g cap : Nat) : Prop where
 c : BlkE W cap #[.pointer (some ⟨b, 0, none⟩)] 143
 r : BlkE W g #[.int .i64 1, .func (.func 144) #[.pointer (some ⟨b, 0, none⟩)] #[], .func (.func 145) #[] #[], .func (.func 146) #[] #[.pointer (some ⟨cap, 0, none⟩)], .int .i64 2, .func (.func 149) #[.pointer (some ⟨b, 0, none⟩)] #[], .func (.func 150) #[] #[.pointer (some ⟨cap, 0, none⟩)], .func (.func 152) #[.pointer (some ⟨b, 0, none⟩)] #[]] 192
theorem RulesAt.below {W W' : World} {b g cap : Nat} (h : RulesAt W b g cap) (hb : Below W.heap.size W W') : RulesAt W' b g cap := ⟨h.c.below hb, h.r.below hb⟩
theorem RulesAt.kept {W W' : World} {B b g cap : Nat} (h : RulesAt W b g cap) (hb : BelK B W W') : RulesAt W' b g cap := ⟨hb.box h.c (by decide), hb.box h.r (by decide)⟩
theorem zGF (b : Nat) (w : World) : Calls Tryz.prog 107 #[.pointer (some ⟨b, 0, none⟩)] w fun e w' => ∃ g cap, e = .returned (.slice (some ⟨g, 0, none⟩) 2 2) ∧ RulesAt w' b g cap ∧ Below w.heap.size w w' := by
 have hba := (Below.refl w.heap.size w).alloc (Nat.le_refl _) (.cells #[.pointer (some ⟨b, 0, none⟩)] 143);have HC := zh (BlkE.new w #[.pointer (some ⟨b, 0, none⟩)] 143);have HB := zh hba;clear hba;generalize hcp : w.heap.size = cap at *;have HCp := zh hcp;clear hcp
 go_enter Tryz.func107, Tryz.ntmps107
 go_upto_region 1 with fail
 try rw [HCp.out]
 generalize w.alloc (.cells #[.pointer (some ⟨b, 0, none⟩)] 143) = w1 at *;have c0 := HC.out.cell (i := 0) rfl;have hclt : cap < w1.heap.size := HC.out.lt
 go_cut [3] (fun v wx => v = .pointer (some ⟨w1.heap.size, 0, none⟩) ∧ wx = w1.alloc (.cells #[.int .i64 1, .func (.func 144) #[.pointer (some ⟨b, 0, none⟩)] #[], .func (.func 145) #[] #[], .func (.func 146) #[] #[.pointer (some ⟨cap, 0, none⟩)]] 192))
 case first =>
  go_wp2_with fail;go_meet
  case rel => exact ⟨rfl, rfl⟩
 obtain ⟨rfl, rfl⟩ := hcut;have hb2 := (Below.refl w1.heap.size w1).alloc (Nat.le_refl _) (.cells #[.int .i64 1, .func (.func 144) #[.pointer (some ⟨b, 0, none⟩)] #[], .func (.func 145) #[] #[], .func (.func 146) #[] #[.pointer (some ⟨cap, 0, none⟩)]] 192);have HQ1 := zh (BlkE.new w1 #[.int .i64 1, .func (.func 144) #[.pointer (some ⟨b, 0, none⟩)] #[], .func (.func 145) #[] #[], .func (.func 146) #[] #[.pointer (some ⟨cap, 0, none⟩)]] 192);have HC2 := zh (HC.out.below hb2);have HB2 := zh (HB.out.trans (hb2.mono (Nat.le_of_lt hclt)));clear hb2 c0;generalize hg1 : w1.heap.size = g1 at *;have HG1 := zh hg1;clear hg1;generalize w1.alloc (.cells #[.int .i64 1, .func (.func 144) #[.pointer (some ⟨b, 0, none⟩)] #[], .func (.func 145) #[] #[], .func (.func 146) #[] #[.pointer (some ⟨cap, 0, none⟩)]] 192) = w2 at *;have c0 := HC2.out.cell (i := 0) rfl;have hclt2 : cap < w2.heap.size := HC2.out.lt
 have hglt2 : g1 < w2.heap.size := HQ1.out.lt;go_upto_region 2 with fail
 go_cut [4] (fun v wx => v = .pointer (some ⟨w2.heap.size, 0, none⟩) ∧ wx = w2.alloc (.cells #[.int .i64 2, .func (.func 149) #[.pointer (some ⟨b, 0, none⟩)] #[], .func (.func 150) #[] #[.pointer (some ⟨cap, 0, none⟩)], .func (.func 152) #[.pointer (some ⟨b, 0, none⟩)] #[]] 192))
 case first =>
  go_wp2_with fail;go_meet
  case rel => exact ⟨rfl, rfl⟩
 obtain ⟨rfl, rfl⟩ := hcut;have hb3 := (Below.refl w2.heap.size w2).alloc (Nat.le_refl _) (.cells #[.int .i64 2, .func (.func 149) #[.pointer (some ⟨b, 0, none⟩)] #[], .func (.func 150) #[] #[.pointer (some ⟨cap, 0, none⟩)], .func (.func 152) #[.pointer (some ⟨b, 0, none⟩)] #[]] 192);have HQ2 := zh (BlkE.new w2 #[.int .i64 2, .func (.func 149) #[.pointer (some ⟨b, 0, none⟩)] #[], .func (.func 150) #[] #[.pointer (some ⟨cap, 0, none⟩)], .func (.func 152) #[.pointer (some ⟨b, 0, none⟩)] #[]] 192);have HQ3 := zh (HQ1.out.below hb3);have HC3 := zh (HC2.out.below hb3);have HB3 := zh (HB2.out.trans (hb3.mono (Nat.le_of_lt hclt2)));clear hb3 c0;generalize hg2 : w2.heap.size = g2 at *;clear hg2
 generalize w2.alloc (.cells #[.int .i64 2, .func (.func 149) #[.pointer (some ⟨b, 0, none⟩)] #[], .func (.func 150) #[] #[.pointer (some ⟨cap, 0, none⟩)], .func (.func 152) #[.pointer (some ⟨b, 0, none⟩)] #[]] 192) = w3 at *;have y0 := HQ3.out.cell (i := 0) rfl;have y1 := HQ3.out.cell (i := 1) rfl;have y2 := HQ3.out.cell (i := 2) rfl;have y3 := HQ3.out.cell (i := 3) rfl;have z0 := HQ2.out.cell (i := 0) rfl;have z1 := HQ2.out.cell (i := 1) rfl;have z2 := HQ2.out.cell (i := 2) rfl;have z3 := HQ2.out.cell (i := 3) rfl;have hclt3 : cap < w3.heap.size := HC3.out.lt;go_wp2_with fail;go_ret
 have hb4 := (Below.refl w3.heap.size w3).alloc (Nat.le_refl _) (.cells #[.int .i64 1, .func (.func 144) #[.pointer (some ⟨b, 0, none⟩)] #[], .func (.func 145) #[] #[], .func (.func 146) #[] #[.pointer (some ⟨cap, 0, none⟩)], .int .i64 2, .func (.func 149) #[.pointer (some ⟨b, 0, none⟩)] #[], .func (.func 150) #[] #[.pointer (some ⟨cap, 0, none⟩)], .func (.func 152) #[.pointer (some ⟨b, 0, none⟩)] #[]] 192);refine ⟨w3.heap.size, cap, rfl, ⟨HC3.out.below hb4, BlkE.new w3 #[.int .i64 1, .func (.func 144) #[.pointer (some ⟨b, 0, none⟩)] #[], .func (.func 145) #[] #[], .func (.func 146) #[] #[.pointer (some ⟨cap, 0, none⟩)], .int .i64 2, .func (.func 149) #[.pointer (some ⟨b, 0, none⟩)] #[], .func (.func 150) #[] #[.pointer (some ⟨cap, 0, none⟩)], .func (.func 152) #[.pointer (some ⟨b, 0, none⟩)] #[]] 192⟩, HB3.out.trans (hb4.mono (Nat.le_of_lt hclt3))⟩
end Go.Proofs.YtcgfilmmokmdjaaGreat
namespace Go.Proofs.YtcgfilmmokmdjaaGreat
open Go.RowKit
section
variable {P : Pst} {q : Rq}
theorem zA6 (h : P.res.length = 16) : zd P q = (false, P) := by unfold zd; rw [if_pos h]
theorem zCC (h : ¬ P.res.length = 16) (h1 : q.kind = 1) (h2 : zx P.t q = 9) (h3 : wZ P.t = true) : zd P q = (false, { P with rot := decide (P.res.length = 0) }) := by
 unfold zd; rw [if_neg h, if_pos h1, if_pos ⟨h2, h3⟩]
theorem qG (h : ¬ P.res.length = 16) (h1 : q.kind = 1) (h2 : ¬ (zx P.t q = 9 ∧ wZ P.t = true)) (h3 : ¬ zx P.t q = 0) : zd P q = (true, more P (zx P.t q)) := by
 unfold zd; rw [if_neg h, if_pos h1, if_neg h2, if_neg h3]
theorem zAl (h : ¬ P.res.length = 16) (h1 : q.kind = 1) (h3 : zx P.t q = 0) (h4 : 0 < P.bytes ∧ 16384 < P.bytes + (szN q.data.length : Int)) : zd P q = (false, P) := by
 unfold zd; rw [if_neg h, if_pos h1, if_neg (fun h => by have := h.1; omega), if_pos h3, if_pos h4]
theorem kV (h : ¬ P.res.length = 16) (h1 : q.kind = 1) (h3 : zx P.t q = 0) (h4 : ¬ (0 < P.bytes ∧ 16384 < P.bytes + (szN q.data.length : Int))) : zd P q = (true, more (vp P (ud q)) 0) := by
 unfold zd; rw [if_neg h, if_pos h1, if_neg (fun h => by have := h.1; omega), if_pos h3, if_neg h4]
theorem kx : yw P.t q = 0 ∨ yw P.t q = 6 := by unfold yw; split <;> simp
theorem zBX : zx P.t q = 0 ∨ zx P.t q = 8 ∨ zx P.t q = 9 := by
 unfold zx
 split
 ·
  simp
 split <;> simp
theorem zER (h : zx P.t q = 0) : q.data.length ≤ 4096 := by
 unfold zx at h
 split at h
 ·
  cases h
 omega
theorem qN (h : ¬ P.res.length = 16) (h1 : q.kind = 2) (h3 : yw P.t q = 6) : zd P q = (true, more P 6) := by
 unfold zd; rw [if_neg h, if_neg (by omega), if_pos h1, if_neg (by omega)]
theorem zBB (h : ¬ P.res.length = 16) (h1 : q.kind = 2) (h3 : yw P.t q = 0) (h4 : vQ P.t q.key = true ∧ 0 < P.bytes ∧ 16384 < P.bytes + 24) : zd P q = (false, P) := by
 unfold zd; rw [if_neg h, if_neg (by omega), if_pos h1, if_pos h3, if_pos h4]
theorem qF (h : ¬ P.res.length = 16) (h1 : q.kind = 2) (h3 : yw P.t q = 0) (h4 : ¬ (vQ P.t q.key = true ∧ 0 < P.bytes ∧ 16384 < P.bytes + 24)) : zd P q = (true, more (xR P q) 0) := by
 unfold zd; rw [if_neg h, if_neg (by omega), if_pos h1, if_pos h3, if_neg h4]
theorem ko (h : ¬ P.res.length = 16) (h1 : ¬ q.kind = 1) (h2 : ¬ q.kind = 2) : zd P q = (true, more P 1) := by
 unfold zd; rw [if_neg h, if_neg h1, if_neg h2]
end
theorem zCh (s : Slt) (a : Option Addr) (n c : Nat) (L : List GP) (W : World) (hr : RdG W (.slice a n c) L) (hg : gns L = s.gens) (hl : LenS 1000 s.gens) :
  Calls Tryz.prog 35 #[zhq s.id s.lim s.ro a n c] W fun e w' => e = .returned (.bool (wZ s)) ∧ Below W.heap.size W w' := by
 have h := zEY s.id s.lim s.ro a n c L W hr (uc (hg ▸ hl) (by decide));obtain ⟨i, l, r, g⟩ := s;dsimp only at hg h ⊢;subst hg;exact h
theorem zKu : xe Tryz.prog 69 39 1 8 := by
 obtain ⟨i, hi, hz, hs, hb⟩ := info_parts (P := Tryz.prog) (e := 39) (z := .int .i64 0) (size := 1) (bytes := 8) (by kernel_rfl);exact ⟨Tryz.underlying69, by decide, i, _, hi, hz, hs, hb, rfl⟩
theorem zLM (i l : Int) (r : Bool) (ga : Option Addr) (gn gc : Nat) (rot : Bool) (kv nv rv : Value) (by_ : Int) (u : Value) : (uz i l r ga gn gc rot kv nv rv by_).setIfInBounds 8 u = uz i l r ga gn gc rot kv nv u by_ := by
 simp only [List.setIfInBounds_toArray, List.set_cons_zero, List.set_cons_succ]
theorem zK0 (i l : Int) (r : Bool) (ga : Option Addr) (gn gc : Nat) (rot : Bool) (kv nv rv : Value) (by_ : Int) (z : Bool) : (uz i l r ga gn gc rot kv nv rv by_).setIfInBounds 4 (.bool z) = uz i l r ga gn gc z kv nv rv by_ := by
 simp only [List.setIfInBounds_toArray, List.set_cons_zero, List.set_cons_succ]
theorem PlR.res {W W1 : World} {B : Nat} {P : Pst} {ga : Option Addr} {gn gc : Nat} {L : List GP} {kv : Value} {ks : List KP} {nv : Value} {es : List (Nd × Value)} {rv rv' : Value} (h : PlR W B P ga gn gc L kv ks nv es rv) (e : Int)
  (hg : W.grownBy W1 rv.ownBlock) (ho : W1.ownsRow B 39 1 rv' (P.res.length + 1) (P.res.map zBc ++ [.int .i64 e])) : PlR W1 B (more P e) ga gn gc L kv ks nv es rv' ∧ OthR W W1 B 39 := by
 have hO : OthR W W1 B 39 := OthR.row h.r hg (Nat.le_refl _);refine ⟨⟨h.g.othR hO (by decide) (by decide), h.gg, h.k.othR hO (by decide) (by decide), h.kk, h.n.othR hO (by decide) (by decide), h.nn, ?_⟩, hO⟩
 show W1.ownsRow B _ 1 rv' (P.res ++ [e]).length ((P.res ++ [e]).map zBc)
 rw [List.length_append, List.map_append]; exact ho
end Go.Proofs.YtcgfilmmokmdjaaGreat
namespace Go.Proofs.YtcgfilmmokmdjaaGreat
structure InvN (K G n : Nat) (P : Pst) : Prop where
 l : LenS (K + n) P.t.gens
 k : SmK (8 * n) P.kills
 g : P.t.gens.length ≤ G
 b : 0 ≤ P.bytes ∧ P.bytes ≤ 5000 * (n : Int)
 e : P.needs.length ≤ n
theorem InvN.mono {K G n m : Nat} {P : Pst} (h : InvN K G n P) (hm : n ≤ m) : InvN K G m P := ⟨h.l.mono (by omega), h.k.mono (by omega), h.g, ⟨h.b.1, by have := h.b.2; omega⟩, Nat.le_trans h.e hm⟩
theorem zDB {K n m : Nat} {G : Nat} {P : Pst} {x : Nd} (hl : LenS (K + n) P.t.gens) (hk : SmK (8 * m) P.kills) (hg : P.t.gens.length ≤ G) (hb : 0 ≤ P.bytes ∧ P.bytes ≤ 5000 * (n : Int)) (he : P.needs.length ≤ n) (hm : m ≤ n + 1) : InvN K G (n + 1) (vp P x) := by
 have hs := xg x.data.length;refine ⟨?_, hk.mono (by omega), Nat.le_trans (zFh _ _) hg, ⟨?_, ?_⟩, ?_⟩
 ·
  have := zBi (s := P.t) (g := (xM (tB P.t).2 [x]).2) (K := K + n + 1) (hl.mono (by omega)) (fun i hi => zCA (zDf hl) i hi);exact this
 ·
  show 0 ≤ P.bytes + (szN x.data.length : Int)
  have := hb.1; omega
 ·
  show P.bytes + (szN x.data.length : Int) ≤ 5000 * ((n + 1 : Nat) : Int)
  have := hb.2; omega
 show (P.needs ++ [x]).length ≤ n + 1
 rw [List.length_append]; exact Nat.succ_le_succ he
theorem zBR {K M : Nat} {key : Int} : ∀ (l : List Int) (P : Pst), LenS K P.t.gens → SmK M P.kills → (∀ x ∈ l, 1 ≤ x ∧ x ≤ 8) → LenS K (l.foldl (wt key) P).t.gens ∧ SmK (M + l.length) (l.foldl (wt key) P).kills ∧ (l.foldl (wt key) P).t.gens.length ≤ P.t.gens.length
 | [], P, h1, h2, _ => ⟨h1, h2, Nat.le_refl _⟩
 | x :: r, P, h1, h2, h3 => by
  obtain ⟨g1, g2, g3⟩ := zBR (M := M + 1) r (wt key P x) (zA9 h1) (h2.ins (h3 x (by simp)) key) (fun y hy => h3 y (by simp [hy]));refine ⟨g1, ?_, Nat.le_trans g3 (zDF _ _ _)⟩;have e : M + (x :: r).length = M + 1 + r.length := by rw [List.length_cons]; omega
  rw [e]; exact g2
theorem zGh {K G n : Nat} {P : Pst} {q : Rq} (h : InvN K G n P) : InvN K G (n + 1) (xR P q) := by
 obtain ⟨g1, g2, g3⟩ := zBR (key := q.key) (zj P.t q.key) P h.l h.k (fun x hx => qI hx);have h8 := zAa P.t q.key;obtain ⟨r1, r2, r3, r4⟩ := yu P q.key;have hk : SmK (8 * (n + 1)) (xO P q.key).kills := SmK.mono g2 (by omega);unfold xR
 split
 ·
  exact zDB (m := n + 1) (n := n) g1 hk (Nat.le_trans g3 h.g) (by rw [r3]; exact h.b) (by rw [r2]; exact h.e) (Nat.le_refl _)
 exact ⟨LenS.mono g1 (by omega), hk, Nat.le_trans g3 h.g, by rw [r3]; exact ⟨h.b.1, by have := h.b.2; omega⟩, by rw [r2]; exact Nat.le_succ_of_le h.e⟩
theorem zH3 {K G n : Nat} {P : Pst} {e : Int} (h : InvN K G n P) : InvN K G n (more P e) := ⟨h.l, h.k, h.g, h.b, h.e⟩
theorem zAk (P : Pst) (e : Int) : (more P e).res.length = P.res.length + 1 := by unfold more; simp
theorem kS (P : Pst) (q : Rq) : (xR P q).res = P.res := by
 unfold xR
 split
 ·
  rw [zA1]; exact (yu P q.key).1
 exact (yu P q.key).1
theorem zBj {K G : Nat} {P : Pst} {q : Rq} (h : InvN K G P.res.length P) : InvN K G (zd P q).2.res.length (zd P q).2 := by
 have hm : ∀ (Q : Pst) (e : Int), Q.res.length = P.res.length → InvN K G (P.res.length + 1) Q → InvN K G (more Q e).res.length (more Q e) := fun Q e hq h => by
  rw [zAk, hq]; exact zH3 h
 unfold zd
 split
 ·
  exact h
 split
 ·
  split
  ·
   exact ⟨h.l, h.k, h.g, h.b, h.e⟩
  split
  ·
   split
   ·
    exact h
   exact hm _ _ rfl (zDB (m := P.res.length) (n := P.res.length) h.l h.k h.g h.b h.e (by omega))
  exact hm _ _ rfl (h.mono (by omega))
 split
 ·
  split
  ·
   split
   ·
    exact h
   exact hm _ _ (by rw [kS]) (zGh h)
  exact hm _ _ rfl (h.mono (by omega))
 exact hm _ _ rfl (h.mono (by omega))
/-! ### How many items a generation may have -/
theorem kE (M : Mp) (k : Int) : fnd (zG M) k = zW M k := by
 have h := vI M k
 rwa [yH (yO M)] at h
theorem zHR {M : Mp} (h : VldM M) {x : It} (hx : x ∈ zG M) : okP x := by
 have h1 := (xJ h).1 hx;rw [xP h] at h1;exact (uC.1 (h.ok _ (wD _))).2 x (wE h1).1
theorem zF7 : ∀ l : List It, (∀ x ∈ l, okP x) → 24 * l.length ≤ zq l
 | [], _ => Nat.zero_le _
 | x :: r, h => by
  have ih := zF7 r fun y hy => h y (by simp [hy])
  obtain ⟨_, _, _, h4, h5⟩ := h x (by simp);have h6 : szN x.size.toNat = nsz x.size.toNat := kQ (by omega);have h7 := xT x.size.toNat
  show 24 * (r.length + 1) ≤ szN x.size.toNat + zq r
  omega
theorem zJ7 {g : Gn} (h : VldG g) : (((zG g.m).length * 24 : Nat) : Int) ≤ g.size - 16 := by
 have hm := (zM _).1 h.m;have h1 := zF7 (zG g.m) fun x hx => zHR hm hx
 have h2 : zq (zG g.m) = zq (ws g.m) := by
  unfold zG; rw [if_pos h.m]; exact hm.sum
 have h3 := hm.lv;have h4 := hm.g0;have h5 := h.sum;omega
theorem zDT : ∀ {l : List It} {k : Int}, fnd l k ≠ none → (drp l k).length + 1 ≤ l.length
 | [], k, h => absurd rfl h
 | x :: r, k, h => by
  by_cases e : x.key = k
  ·
   have h1 : drp (x :: r) k = drp r k := by unfold drp; rw [List.filter_cons, if_neg (by simpa using e)]
   have h2 := uI r k;rw [h1, List.length_cons]; omega
  have h1 : drp (x :: r) k = x :: drp r k := by unfold drp; rw [List.filter_cons, if_pos (by simpa using e)]
  rw [zk, if_neg e] at h;have h2 := zDT h;rw [h1, List.length_cons, List.length_cons]; omega
theorem zHL {M : Mp} (h : VldM M) {k : Int} (hr : M.garb + (szO (zW M k) : Int) ≤ 1099511627776) : zG (yF M k) = drp (zG M) k := by
 refine tT _ _ (tw (yO _)) ((tw (yO _)).filter _) fun j => ?_
 rw [kE, qj h hr, zA7, kE]
 by_cases e : j = k
 ·
  rw [if_pos e, if_pos e.symm]
 rw [if_neg e, if_neg fun h => e h.symm]
theorem zDC {M : Mp} (h : VldM M) {n : Int} (h0 : 0 ≤ n) (hr : M.garb + n ≤ 1099511627776) : zG (yh M n) = zG M := by
 unfold zG;rw [if_pos ((zM _).2 (h.waste h0 hr)), if_pos ((zM _).2 h)];unfold ws;rw [vw]
/-! ### A record more -/
def kX (S : Slt) (x : Nd) : Prop := x.ok ∧ ((x.del = false ∧ (zY S).size + (szN x.data.length : Int) ≤ S.lim) ∨ (x.del = true ∧ zW (zY S).m x.key ≠ none))
theorem zBO {S : Slt} (h : VldSl S) {x : Nd} (hc : kX S x) :
  xM (zY S) [x] = (0, yM (zY S) x) ∧ Fit S (S.gens.length - 1) (yM (zY S) x) := by
 obtain ⟨hx, hc⟩ := hc;obtain ⟨hv, hm, hz⟩ := h.topv;have hlen := h.len;have hlim := h.lim;have htop : (zY S).size + (((zG (zY S).m).length * 24 : Nat) : Int) ≤ 2 * S.lim := h.top;have hvm := (zM _).1 hv.m;have hsz : (zY S).size + (szN x.data.length : Int) ≤ 2 * S.lim := by
  rcases hc with ⟨_, h1⟩ | ⟨h1, h2⟩
  ·
   omega
  have h3 := hx.2 h1;have h4 : 1 ≤ (zG (zY S).m).length := by
   rw [← kE] at h2
   cases e : zG (zY S).m with
   | nil => rw [e] at h2; exact absurd rfl h2
   | cons y r => rw [List.length_cons]; omega
  have h5 : szN x.data.length = 24 := by rw [h3]; decide
  omega
 have hz2 : (zY S).size + (szN x.data.length : Int) ≤ 1048576 := by omega
 have hz3 : (zY S).size + (szL [x] : Int) ≤ 1048576 := by rw [wG, zFn]; omega
 have hg := zEZ hv hx hz2;refine ⟨zJ1 hv hm (l := [x]) (fun y hy => by obtain rfl := List.mem_singleton.1 hy; exact hx) hz3, by omega, hg, (zAT _ _).1, ?_, ?_, fun _ => ?_⟩
 ·
  rw [(zAT _ _).2.2, hm]; exact ⟨fun _ => by omega, fun _ => rfl⟩
 ·
  rw [vk]; exact hsz
 rcases hc with ⟨_, h1⟩ | ⟨h1, h2⟩
 ·
  have h3 := zJ7 hg;rw [vk] at h3 ⊢;omega
 have h5 : szN x.data.length = 24 := by rw [hx.2 h1]; decide
 have hr := hv.room x.key;have hd := hvm.del hr;have hds := qQ hvm hr;have hdl := hd.live0;have hsm := hv.small;have e : zG (yM (zY S) x).m = drp (zG (zY S).m) x.key := by
  unfold yM;dsimp only;rw [if_pos h1, zDC hd (by omega) (by omega), zHL hvm hr]
 have h6 := zDT (l := zG (zY S).m) (k := x.key) (by rw [kE]; exact h2);rw [e, vk, h5];omega
/-! ### What a planner's slot keeps -/
structure Kp (S s : Slt) : Prop where
 v : VldSl s
 id : s.id = S.id
 lim : s.lim = S.lim
 ro : s.ro = S.ro
 len : s.gens.length = S.gens.length
 num : ∀ r, r < S.gens.length → (gat s.gens r).num = (gat S.gens r).num
theorem Kp.refl {S : Slt} (h : VldSl S) : Kp S S := ⟨h, rfl, rfl, rfl, rfl, fun _ _ => rfl⟩
theorem Kp.set {S s : Slt} (h : Kp S s) {j : Nat} {g : Gn} (hf : Fit s j g) : Kp S (kY s j g) := by
 refine ⟨zF9 h.v hf, h.id, h.lim, h.ro, ?_, fun r hr => ?_⟩
 ·
  show (s.gens.set j g).length = _
  rw [List.length_set]; exact h.len
 show (gat (s.gens.set j g) r).num = _
 rw [vX hf.hj]
 by_cases e : r = j
 ·
  rw [if_pos e, hf.n, ← e]; exact h.num r hr
 rw [if_neg e]; exact h.num r hr
theorem Kp.trans {S s t : Slt} (h : Kp S s) (h' : Kp s t) : Kp S t := ⟨h'.v, h'.id.trans h.id, h'.lim.trans h.lim, h'.ro.trans h.ro, h'.len.trans h.len, fun r hr => (h'.num r (by rw [h.len]; exact hr)).trans (h.num r hr)⟩
theorem zFy {S : Slt} (h : VldSl S) : wZ S = decide ((zY S).num < 8) := by unfold wZ; rw [(zT S).2 h, Bool.true_and]
theorem Kp.can {S s : Slt} (hS : VldSl S) (h : Kp S s) : wZ s = wZ S := by
 have hlen := hS.len;rw [zFy h.v, zFy hS];have e : (zY s).num = (zY S).num := by
  unfold zY;rw [h.len];exact h.num _ (by omega)
 rw [e]
theorem zHD {s : Slt} (h : VldSl s) (g : Gn) : zY (kY s (s.gens.length - 1) g) = g := by
 have hlen := h.len;unfold zY kY;dsimp only;rw [List.length_set, vX (by omega), if_pos rfl]
theorem zHE {s : Slt} {r : Nat} (hr : r + 1 < s.gens.length) (g : Gn) : zY (kY s r g) = zY s := by
 unfold zY kY;dsimp only;rw [List.length_set, vX (by omega), if_neg (by omega)]
theorem zIS {P : Pst} (h : VldSl P.t) {x : Nd} (hc : kX P.t x) : (vp P x).t = kY P.t (P.t.gens.length - 1) (yM (zY P.t) x) := by
 obtain ⟨h1, h2⟩ := zBO h hc
 show (yb P.t (xM (tB P.t).2 [x]).2).1 = _
 rw [zKY h];dsimp only;rw [h1, zHi h h2]
theorem zKP {s : Slt} (h : VldSl s) {r : Nat} (hr : r < s.gens.length) : qi s.gens (gat s.gens r).num = r :=
 zBE hr rfl fun j hj => h.num_ne (by omega) hr (by omega)
theorem zHp {s : Slt} (h : VldSl s) {r : Nat} (hr : r + 1 < s.gens.length) (key : Int) : wv s (gat s.gens r).num [key] = (kY s r (zC6 (gat s.gens r) key), 0) := by
 have hm : (gat s.gens r).mode ≠ 1 := fun e => by have := (h.g r (by omega)).2.2.1.1 e; omega
 unfold wv;rw [zKP h (by omega), if_pos (by omega), zGg (h.vg (by omega)) hm, if_pos rfl, zHi h (fit_drop h hr key)]
theorem zBJ {S : Slt} {key : Int} : ∀ (l : List Int) (P : Pst), Kp S P.t → zY P.t = zY S → (∀ x ∈ l, ∃ r, r + 1 < S.gens.length ∧ x = (gat S.gens r).num) → Kp S (l.foldl (wt key) P).t ∧ zY (l.foldl (wt key) P).t = zY S
 | [], P, h, ht, _ => ⟨h, ht⟩
 | x :: l, P, h, ht, hl => by
  obtain ⟨r, hr, e⟩ := hl x (by simp);have hr2 : r + 1 < P.t.gens.length := by rw [h.len]; exact hr
  have e2 : (wt key P x).t = kY P.t r (zC6 (gat P.t.gens r) key) := by
   show (wv P.t x [key]).1 = _
   rw [e, ← h.num r (by omega), zHp h.v hr2]
  refine zBJ l (wt key P x) (by rw [e2]; exact h.set (fit_drop h.v hr2 key)) (by rw [e2, zHE hr2]; exact ht) fun y hy => hl y (by simp [hy])
theorem zHC {s : Slt} (h : VldSl s) {key x : Int} (hx : x ∈ zj s key) : ∃ r, r + 1 < s.gens.length ∧ x = (gat s.gens r).num := by
 rw [zEN h] at hx;obtain ⟨i, hi, e⟩ := List.getElem_of_mem hx;obtain ⟨r, h1, h2, _, _⟩ := zCI s.gens key _ i hi;rw [List.getElem?_eq_getElem hi] at h2;exact ⟨r, by omega, by rw [← e]; exact Option.some.inj h2⟩
theorem zBe {P : Pst} (h : VldSl P.t) (key : Int) : Kp P.t (xO P key).t ∧ zY (xO P key).t = zY P.t :=
 zBJ _ P (Kp.refl h) rfl fun _ hx => zHC h hx
theorem qy {t : Slt} (h : VldSl t) (key : Int) : vQ t key = true ↔ zW (zY t).m key ≠ none := by
 have hlen := h.len;obtain ⟨_, hm, _⟩ := h.topv;unfold vQ;rw [zCQ h, zAV h]
 cases hx : zW (zY t).m key with
 | some y => simp [hm]
 | none =>
  refine ⟨fun hb => ?_, fun h => absurd rfl h⟩
  exfalso
  simp only [List.nil_append, Bool.and_eq_true, Bool.not_eq_true', decide_eq_true_eq] at hb;obtain ⟨h1, h2⟩ := hb
  cases e : xb t.gens key (t.gens.length - 1) with
  | nil => rw [e] at h1; cases h1
  | cons x r =>
   rw [e] at h2;obtain ⟨g1, g2, _⟩ := zDJ e;have h2 : x.mode = 1 := h2;rw [g2] at h2;have := (h.g x.at_ (by omega)).2.2.1.1 h2;omega
theorem zHt {t : Slt} (h : VldSl t) {n : Int} (hf : wH t n = true) : (zY t).size + (szN n.toNat : Int) ≤ t.lim := by
 unfold wH at hf;simp only [Bool.and_eq_true, decide_eq_true_eq] at hf;exact hf.2
theorem zBI {t : Slt} (h : VldSl t) {q : Rq} (hc : zx t q = 0) : kX t (ud q) := by
 unfold zx at hc
 split at hc
 ·
  cases hc
 rename_i hl
 split at hc
 ·
  rename_i hf;have := zHt h hf;rw [Int.toNat_natCast] at this;exact ⟨⟨by show q.data.length ≤ 4096; omega, fun e => (by cases e)⟩, .inl ⟨rfl, this⟩⟩
 cases hc
theorem zIy {t : Slt} {q : Rq} (hc : zW (zY t).m q.key ≠ none) : kX t (zAu q) := ⟨⟨Nat.zero_le _, fun _ => rfl⟩, .inr ⟨rfl, hc⟩⟩
theorem zCZ {P : Pst} (h : VldSl P.t) {x : Nd} (hc : kX P.t x) : Kp P.t (vp P x).t := by
 rw [zIS h hc]; exact (Kp.refl h).set (zBO h hc).2
theorem zH8 {P : Pst} (h : VldSl P.t) (q : Rq) : Kp P.t (xR P q).t := by
 obtain ⟨h1, h2⟩ := zBe h (q.key : Int);unfold xR
 split
 ·
  rename_i hb;exact h1.trans (zCZ h1.v (zIy ((qy h1.v _).1 hb)))
 exact h1
theorem zJO {P : Pst} (h : VldSl P.t) (q : Rq) : Kp P.t (zd P q).2.t := by
 unfold zd
 split
 ·
  exact Kp.refl h
 split
 ·
  split
  ·
   exact Kp.refl h
  split
  ·
   rename_i hc
   split
   ·
    exact Kp.refl h
   exact zCZ (P := P) h (zBI h hc)
  exact Kp.refl h
 split
 ·
  split
  ·
   split
   ·
    exact Kp.refl h
   exact zH8 h q
  exact Kp.refl h
 exact Kp.refl h
/-! ### The bytes of a plan -/
structure Byt (P : Pst) : Prop where
 b : P.bytes = (szL P.needs : Int)
 m : P.needs.length ≤ 1 ∨ szL P.needs ≤ 16384
 ok : ∀ x ∈ P.needs, x.ok
theorem zJf {l : List Nd} (h : ∀ x ∈ l, x.ok) : 24 * l.length ≤ szL l := by
 induction l with
 | nil => exact Nat.zero_le _
 | cons x r ih =>
  have h1 := ih fun y hy => h y (by simp [hy])
  have h2 := h x (by simp);have h3 : szN x.data.length = nsz x.data.length := kQ h2.1;have h4 := xT x.data.length;rw [wG, List.length_cons]; omega
theorem Byt.add {P : Pst} (h : Byt P) {x : Nd} (hx : x.ok) (hb : ¬ (0 < P.bytes ∧ 16384 < P.bytes + (szN x.data.length : Int))) : Byt (vp P x) := by
 have hp := zJf h.ok;have hB := h.b;have e : szL (P.needs ++ [x]) = szL P.needs + szN x.data.length := zL2 _ _;refine ⟨?_, ?_, fun y hy => ?_⟩
 ·
  show P.bytes + (szN x.data.length : Int) = (szL (P.needs ++ [x]) : Int)
  rw [e]; omega
 ·
  show (P.needs ++ [x]).length ≤ 1 ∨ szL (P.needs ++ [x]) ≤ 16384
  rw [e, List.length_append]
  by_cases h0 : P.needs.length = 0
  ·
   left; rw [h0]; simp
  right; omega
 rcases List.mem_append.1 (show y ∈ P.needs ++ [x] from hy) with hy | hy
 ·
  exact h.ok y hy
 obtain rfl := List.mem_singleton.1 hy; exact hx
theorem Byt.kills {P : Pst} (h : Byt P) (key : Int) : Byt (xO P key) := by
 obtain ⟨_, h2, h3, _⟩ := yu P key;exact ⟨by rw [h2, h3]; exact h.b, by rw [h2]; exact h.m, by rw [h2]; exact h.ok⟩
theorem zEt {P : Pst} (h : VldSl P.t) (key : Int) : vQ (xO P key).t key = vQ P.t key := by
 obtain ⟨h1, h2⟩ := zBe h key;rw [Bool.eq_iff_iff, qy h1.v, qy h, h2]
theorem zHN {P : Pst} (hv : VldSl P.t) (h : Byt P) (q : Rq) : Byt (zd P q).2 := by
 unfold zd
 split
 ·
  exact h
 split
 ·
  split
  ·
   exact ⟨h.b, h.m, h.ok⟩
  split
  ·
   rename_i hc
   split
   ·
    exact h
   rename_i hb;have := Byt.add h (zBI hv hc).1 hb;exact ⟨this.b, this.m, this.ok⟩
  exact ⟨h.b, h.m, h.ok⟩
 split
 ·
  split
  ·
   split
   ·
    exact h
   rename_i hb;have hk := h.kills q.key;obtain ⟨_, _, h3, _⟩ := yu P q.key;unfold xR
   split
   ·
    rename_i ht;rw [zEt hv] at ht
    have := Byt.add hk (x := zAu q) ⟨Nat.zero_le _, fun _ => rfl⟩ (by
     rw [h3, show szN (zAu q).data.length = 24 from (by show szN 0 = 24; decide)]
     exact fun e => hb ⟨ht, e.1, e.2⟩)
    exact ⟨this.b, this.m, this.ok⟩
   exact ⟨hk.b, hk.m, hk.ok⟩
  exact ⟨h.b, h.m, h.ok⟩
 exact ⟨h.b, h.m, h.ok⟩
/-! ### The limits -/
def wy (l : List Rq) (i : Nat) : Rq := l.getD i rq0
def vn (l : List Int) (i : Nat) : Int := l.getD i 0
structure LimI (S : Slt) (l : List Rq) (P : Pst) : Prop where
 kp : Kp S P.t
 b : Byt P
 n : P.res.length ≤ l.length
 m : P.res.length ≤ 16
 r0 : P.rot = false
 r : ∀ i, i < P.res.length → (vn P.res i = 9 → wZ S = false) ∧ (vn P.res i = 8 → 4096 < (wy l i).data.length)
theorem zJQ {l : List Int} {i : Nat} (h : i < l.length) (e : Int) : vn (l ++ [e]) i = vn l i := by
 unfold vn; rw [List.getD_eq_getElem?_getD, List.getD_eq_getElem?_getD, List.getElem?_append_left h]
theorem zI8 (l : List Int) (e : Int) : vn (l ++ [e]) l.length = e := by
 unfold vn; rw [List.getD_eq_getElem?_getD, List.getElem?_append_right (Nat.le_refl _)]; simp
theorem LimI.more {S : Slt} {l : List Rq} {P Q : Pst} (h : LimI S l P) (hk : Kp S Q.t) (hb : Byt Q) (hr : Q.res = P.res) (h0 : Q.rot = false) (hn : P.res.length < l.length) (h16 : ¬ P.res.length = 16) (e : Int)
  (h9 : e = 9 → wZ S = false) (h8 : e = 8 → 4096 < (wy l P.res.length).data.length) : LimI S l (more Q e) := by
 have hl : (Go.Proofs.YtcgfilmmokmdjaaGreat.more Q e).res.length = P.res.length + 1 := by rw [zAk, hr]
 have hm := h.m;refine ⟨hk, ⟨hb.b, hb.m, hb.ok⟩, by omega, by omega, h0, fun i hi => ?_⟩
 show (vn (Q.res ++ [e]) i = 9 → _) ∧ _
 rw [hr];rw [hl] at hi
 by_cases hil : i < P.res.length
 ·
  have e2 := zJQ hil e;refine ⟨fun he => (h.r i hil).1 (by rw [← e2]; exact he), fun he => (h.r i hil).2 ?_⟩;have he : vn (Q.res ++ [e]) i = 8 := he;rw [hr, e2] at he; exact he
 obtain rfl : i = P.res.length := by omega
 have e2 := zI8 P.res e;refine ⟨fun he => h9 (by rw [← e2]; exact he), fun he => h8 ?_⟩;have he : vn (Q.res ++ [e]) P.res.length = 8 := he;rw [hr, e2] at he; exact he
structure zIE (S : Slt) (l : List Rq) (P : Pst) : Prop where
 kp : Kp S P.t
 b : Byt P
 n : P.res.length ≤ l.length
 m : P.res.length ≤ 16
 r : ∀ i, i < P.res.length → (vn P.res i = 9 → wZ S = false) ∧ (vn P.res i = 8 → 4096 < (wy l i).data.length)
 t : 0 < l.length → P.res.length = 0 → P.rot = true ∧ wZ S = true ∧ (wy l 0).kind = 1 ∧ wH S ((wy l 0).data.length : Int) = false
 rr : P.rot = true → P.res.length = 0
theorem LimI.stop {S : Slt} {l : List Rq} {P : Pst} (h : LimI S l P) (hp : P.res.length = 0 → l.length = 0) : zIE S l P :=
 ⟨h.kp, h.b, h.n, h.m, h.r, fun h1 h2 => by have := hp h2; omega, fun e => by rw [h.r0] at e; cases e⟩
theorem Byt.zero {P : Pst} (h : Byt P) (hn : P.needs.length = 0) : P.bytes = 0 := by
 have := h.b;rw [List.length_eq_zero_iff.1 hn] at this;exact this
theorem zGv {S : Slt} (hS : VldSl S) {l : List Rq} {P : Pst} (h : LimI S l P) (hn : P.res.length < l.length) (hd : P.needs.length ≤ P.res.length) (hs : P.res.length = 0 → P.t = S) :
  ((zd P (wy l P.res.length)).1 = true → LimI S l (zd P (wy l P.res.length)).2) ∧ ((zd P (wy l P.res.length)).1 = false → zIE S l (zd P (wy l P.res.length)).2) := by
 generalize hq : wy l P.res.length = q;have hk := h.kp.trans (zJO h.kp.v q);have hby := zHN h.kp.v h.b q;have hzero : P.res.length = 0 → P.bytes = 0 := fun e => h.b.zero (by omega)
 by_cases h16 : P.res.length = 16
 ·
  rw [zA6 h16];exact ⟨fun e => (by cases e), fun _ => h.stop (by omega)⟩
 by_cases h1 : q.kind = 1
 ·
  by_cases h9 : zx P.t q = 9 ∧ wZ P.t = true
  ·
   rw [zCC h16 h1 h9.1 h9.2] at hk hby ⊢;refine ⟨fun e => (by cases e), fun _ => ⟨hk, hby, h.n, h.m, h.r, fun _ e0 => ?_, fun e => by simpa using e⟩⟩;have e0 : P.res.length = 0 := e0;have es := hs e0;refine ⟨by simpa using e0, ?_, ?_, ?_⟩
   ·
    rw [← es]; exact h9.2
   ·
    rw [e0] at hq; rw [hq]; exact h1
   rw [e0] at hq; rw [hq, ← es];have h2 := h9.1;unfold zx at h2
   split at h2
   ·
    cases h2
   split at h2
   ·
    cases h2
   rename_i hf; simpa using hf
  by_cases h0 : zx P.t q = 0
  ·
   by_cases hb : 0 < P.bytes ∧ 16384 < P.bytes + (szN q.data.length : Int)
   ·
    rw [zAl h16 h1 h0 hb];exact ⟨fun e => (by cases e), fun _ => h.stop fun e => (by have := hzero e; omega)⟩
   rw [kV h16 h1 h0 hb] at hk hby ⊢;exact ⟨fun _ => h.more (Q := vp P (ud q)) hk ⟨hby.b, hby.m, hby.ok⟩ rfl h.r0 hn h16 0 (fun e => (by cases e)) (fun e => (by cases e)), fun e => (by cases e)⟩
  rw [qG h16 h1 h9 h0] at hk hby ⊢;refine ⟨fun _ => h.more (Q := P) hk ⟨hby.b, hby.m, hby.ok⟩ rfl h.r0 hn h16 _ (fun e => ?_) (fun e => ?_), fun e => (by cases e)⟩
  ·
   rw [← Kp.can hS h.kp]
   cases hc : wZ P.t with
   | false => rfl
   | true => exact absurd ⟨e, hc⟩ h9
  rw [hq];unfold zx at e
  split at e
  ·
   assumption
  split at e <;> cases e
 by_cases h2 : q.kind = 2
 ·
  rcases kx (P := P) (q := q) with h3 | h3
  ·
   by_cases hb : vQ P.t q.key = true ∧ 0 < P.bytes ∧ 16384 < P.bytes + 24
   ·
    rw [zBB h16 h2 h3 hb];exact ⟨fun e => (by cases e), fun _ => h.stop fun e => (by have := hzero e; omega)⟩
   rw [qF h16 h2 h3 hb] at hk hby ⊢;refine ⟨fun _ => h.more (Q := xR P q) hk ⟨hby.b, hby.m, hby.ok⟩ (kS P q) ?_ hn h16 0 (fun e => (by cases e)) (fun e => (by cases e)), fun e => (by cases e)⟩;have hr := (yu P q.key).2.2.2;unfold xR
   split
   ·
    show (xO P q.key).rot = false
    rw [hr]; exact h.r0
   rw [hr]; exact h.r0
  rw [qN h16 h2 h3] at hk hby ⊢;exact ⟨fun _ => h.more (Q := P) hk ⟨hby.b, hby.m, hby.ok⟩ rfl h.r0 hn h16 6 (fun e => (by cases e)) (fun e => (by cases e)), fun e => (by cases e)⟩
 rw [ko h16 h1 h2] at hk hby ⊢;exact ⟨fun _ => h.more (Q := P) hk ⟨hby.b, hby.m, hby.ok⟩ rfl h.r0 hn h16 1 (fun e => (by cases e)) (fun e => (by cases e)), fun e => (by cases e)⟩
theorem zDK {P : Pst} {q : Rq} (h : P.needs.length ≤ P.res.length) : (zd P q).1 = true → (zd P q).2.needs.length ≤ (zd P q).2.res.length := by
 have hm : ∀ (Q : Pst) (e : Int), Q.needs.length ≤ Q.res.length + 1 → (more Q e).needs.length ≤ (more Q e).res.length := fun Q e hq => by rw [zAk]; exact hq
 have hd : (xR P q).needs.length ≤ (xR P q).res.length + 1 := by
  obtain ⟨r1, r2, _, _⟩ := yu P q.key;rw [kS];unfold xR
  split
  ·
   show ((xO P q.key).needs ++ [_]).length ≤ _
   rw [r2, List.length_append]; simp; exact h
  rw [r2]; omega
 unfold zd
 split
 ·
  intro e; cases e
 split
 ·
  split
  ·
   intro e; cases e
  split
  ·
   split
   ·
    intro e; cases e
   intro _;refine hm _ _ ?_
   show (P.needs ++ [_]).length ≤ P.res.length + 1
   rw [List.length_append]; simp; exact h
  intro _; exact hm _ _ (by omega)
 split
 ·
  split
  ·
   split
   ·
    intro e; cases e
   intro _; exact hm _ _ hd
  intro _; exact hm _ _ (by omega)
 intro _; exact hm _ _ (by omega)
theorem zDb {S : Slt} (hS : VldSl S) {l : List Rq} : ∀ (k : Nat) (P : Pst), l.length = P.res.length + k → LimI S l P → P.needs.length ≤ P.res.length → (P.res.length = 0 → P.t = S) → zIE S l (tp (l.drop P.res.length) P)
 | 0, P, hk, h, _, _ => by
  rw [List.drop_eq_nil_of_le (by omega)];exact h.stop (by omega)
 | k + 1, P, hk, h, hd, hs => by
  have hlt : P.res.length < l.length := by omega
  have e : l.drop P.res.length = wy l P.res.length :: l.drop (P.res.length + 1) := by
   rw [List.drop_eq_getElem_cons hlt];unfold wy;rw [List.getD_eq_getElem?_getD, List.getElem?_eq_getElem hlt]; rfl
  obtain ⟨h1, h2⟩ := zGv hS h hlt hd hs;have h3 := (tj P (wy l P.res.length) h.m).2.2;have h4 := zDK (q := wy l P.res.length) hd;rw [e]
  show zIE S l (if (zd P (wy l P.res.length)).1 = true then tp (l.drop (P.res.length + 1)) (zd P (wy l P.res.length)).2 else (zd P (wy l P.res.length)).2)
  by_cases hp : (zd P (wy l P.res.length)).1 = true
  ·
   rw [if_pos hp];have hl := h3 hp;have := zDb hS k (zd P (wy l P.res.length)).2 (by omega) (h1 hp) (h4 hp) (fun e => by omega);rw [hl] at this;exact this
  rw [if_neg hp];exact h2 (by simpa using hp)
theorem zHv {S : Slt} (hS : VldSl S) (l : List Rq) : (yT S l).2 = 0 ∧ zIE S l (yT S l).1 := by
 unfold yT;rw [if_pos ((zT S).2 hS)];refine ⟨rfl, ?_⟩;have := zDb hS (l := l) l.length (wl S) (by simp [wl]) ⟨Kp.refl hS, ⟨rfl, .inl (Nat.zero_le _), fun x hx => by cases hx⟩, Nat.zero_le _, Nat.zero_le _, rfl, fun i hi => by cases hi⟩ (Nat.zero_le _) (fun _ => rfl);exact this
end Go.Proofs.YtcgfilmmokmdjaaGreat
