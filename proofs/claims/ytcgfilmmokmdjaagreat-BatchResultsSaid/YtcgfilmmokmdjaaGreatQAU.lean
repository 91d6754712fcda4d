/- A part of the walk. -/
import Derived.Test.YtcgfilmmokmdjaaGreatBk
import Derived.Test.YtcgfilmmokmdjaaGreatQAA
import Derived.Deep.Onto
import Derived.Laws.EntriesVeiled
import Derived.Test.YtcgfilmmokmdjaaGreatQAN
import Derived.Test.YtcgfilmmokmdjaaGreatQAQ
import Derived.Test.YtcgfilmmokmdjaaGreatSkb
set_option linter.all false
set_option maxRecDepth 100000
set_option maxHeartbeats 32000000
namespace Go.Proofs.YtcgfilmmokmdjaaGreat
open Go.RowKit
def zMI (B dn : Nat) (l : List UInt8) : lT := ⟨fun v w => ∃ a c, v = .slice a dn c ∧ gy w B (.slice a dn c) l, fun _ _ _ hb ⟨a, c, h1, h2⟩ => ⟨a, c, h1, iA.below h2 hb⟩⟩
def zMF (B : Nat) (key ck : Int) (dn : Nat) (l : List UInt8) : lT := ⟨fun v w => ∃ a c, v = .agg #[.int .u64 key, .int .u32 ck, .bool false, .slice a dn c] ∧ gy w B (.slice a dn c) l, fun _ _ _ hb ⟨a, c, h1, h2⟩ => ⟨a, c, h1, iA.below h2 hb⟩⟩
theorem zFk (v : Value) (l : List UInt8) (w : World) (h : oH w v l) (hs : l.length ≤ 1000000) :
  Calls Tryz.prog 148 #[v] w fun e w' => ∃ v', e = .returned v' ∧ M7 w' w.heap.size v' l ∧ Below w.heap.size w w' := by
 obtain ⟨a, cap, rfl, h1, h2⟩ := h.gw;have UE : ∀ (w : World) (a : Option Addr) (n c n' c' : Nat), (binOp .eql 54 (.slice a n c) (.slice none n' c')).run Tryz.prog w = .ok (.bool a.isNone) w := fun w a n c n' c' => Lib.run_eql_slice_nil w _ _ a n c n' c' Tryz.underlying54
 cases a with
 | none =>
  have h0 : l = [] := by
   obtain ⟨_, a', cap', e, _, _, h5, _⟩ := h;injection e with e1 e2 e3;have := h5 e1.symm;exact List.length_eq_zero_iff.1 (by omega)
  subst h0;clear h
  go_enter Tryz.func148, Tryz.ntmps148
  go_wp2_with fail;go_ret;exact ⟨_, rfl, aU _ _ _ _, aj _ _⟩
 | some p =>
  have Hr := zh h;generalize hn : l.length = n at *;have HL := zh hn;clear h hn
  go_enter Tryz.func148, Tryz.ntmps148
  go_wp2_with (at_builtin; go_must (refine zd (n := 0) (m := n) rfl (.tmp 5) (.tmp 6) 54 rfl M6 w.heap.size rfl (dr (size := 1) _ #[] 0 (ai _) (by decide) rfl) rfl (by have := iw.alloc Hr.out (.cells #[] 5); unfold iw at this; rw [HL.out] at this; exact this) (Um _) (by unfold maxLen; omega) (by omega) (by simp) ?_); intro v3 w3 ei eW hv3; clear hv3);have HB := zh (zM ((aj w.heap.size w).alloc (ai _) _) (dr (e := 5) (size := 1) w #[] 0 (ai _) (by decide) rfl) (by simp) eW);have HO := zh (zKt ei (bT _));clear ei eW;go_wp2_with fail;go_ret;exact ⟨_, rfl, HO.out, HB.out⟩
theorem zHg (tk kind key ck : Int) (da : Option Addr) (dn dc : Nat) (w : World) : Calls Tryz.prog 145 #[CG tk kind key ck (.slice da dn dc)] w fun e w' => e = .returned (.bool true) ∧ Below w.heap.size w w' := by
 have hb := (aj w.heap.size w).alloc (ai _) (.cells #[.int .i64 tk, .int .i64 kind, .int .u64 key, .int .u32 ck, .slice da dn dc] 85);have HB := zh hb;clear hb
 go_enter Tryz.func145, Tryz.ntmps145
 go_upto_region 1 with fail;change Code.wp _ _ _ _ (w.alloc (.cells #[.int .i64 tk, .int .i64 kind, .int .u64 key, .int .u32 ck, .slice da dn dc] 85));generalize w.alloc (.cells #[.int .i64 tk, .int .i64 kind, .int .u64 key, .int .u32 ck, .slice da dn dc] 85) = w1 at *;go_wp2_with fail;go_ret;exact ⟨rfl, HB.out⟩
theorem zGw (b cap : Nat) (t : eL) (ga : Option Addr) (gn gc : Nat) (L : List GP) (ey : Bool) (kv nv rv : Value) (mf : Int) (tk kind key ck : Int) (da : Option Addr) (dn dc : Nat) (w : World) (hcap : dV w cap #[.pointer (some ⟨b, 0, none⟩)] 143) (hb : oL w b t.id t.lim t.ro ga gn gc ey kv nv rv mf) (hg : fq w (.slice ga gn gc) L) (nP : dZ L = t.dU) (hl : eV 1000 t.dU) :
  Calls Tryz.prog 150 #[CG tk kind key ck (.slice da dn dc), .pointer (some ⟨cap, 0, none⟩)] w fun e w' => e = .returned (.bool (vI t key)) ∧ Below w.heap.size w w' := by
 have eG := (aj w.heap.size w).alloc (ai _) (.cells #[.int .i64 tk, .int .i64 kind, .int .u64 key, .int .u32 ck, .slice da dn dc] 85);have HX := zh (dV.new w #[.int .i64 tk, .int .i64 kind, .int .u64 key, .int .u32 ck, .slice da dn dc] 85);have HC := zh (hcap.below eG);have F6 := zh (YG b t ga gn gc L ey kv nv rv mf key (w.alloc (.cells #[.int .i64 tk, .int .i64 kind, .int .u64 key, .int .u32 ck, .slice da dn dc] 85)) (hb.below eG) (fq.below hg eG) nP hl);have HB := zh eG;clear eG hb hg nP hl hcap;generalize vI t key = tb at *
 go_enter Tryz.func150, Tryz.ntmps150
 go_upto_region 1 with fail;change Code.wp _ _ _ _ (w.alloc (.cells #[.int .i64 tk, .int .i64 kind, .int .u64 key, .int .u32 ck, .slice da dn dc] 85));generalize w.alloc (.cells #[.int .i64 tk, .int .i64 kind, .int .u64 key, .int .u32 ck, .slice da dn dc] 85) = w1 at *;have x2 := HX.out.cell (i := 2) rfl;have c0 := HC.out.cell (i := 0) rfl;go_wp2_with fail;refine F6.out.mono ?_;rintro e w2 ⟨rfl, hb2⟩;have eP := zh (zA HB.out hb2);clear hb2;go_wp2_with fail;go_ret;exact ⟨rfl, eP.out⟩
theorem zIa {w : World} {B b : Nat} {P : fh} {ga : Option Addr} {gn gc : Nat} {L : List GP} {kv : Value} {ks : List KP} {nv : Value} {es : List (Nd × Value)} {rv : Value} (hlo : B ≤ b) (hP : oL w b P.t.id P.t.lim P.t.ro ga gn gc P.ey kv nv rv P.bytes) (hR : lF w B P ga gn gc L kv ks nv es rv) (hl : eV 900 P.t.dU) (hB : B ≤ w.heap.size) (hel : es.length ≤ 1000) (hby : 0 ≤ P.bytes ∧ P.bytes ≤ 1000000000) (q : Rq) (cap : Nat) (tk kind key ck : Int) (da : Option Addr) (dn dc : Nat) (hcap : dV w cap #[.pointer (some ⟨b, 0, none⟩)] 143) (hd : oH w (.slice da dn dc) q.data) (iz : dn ≤ 100000) (CJ : (q.key : Int) = key) (Ek : (q.ck : Int) = ck) :
  Calls Tryz.prog 146 #[CG tk kind key ck (.slice da dn dc), .pointer (some ⟨cap, 0, none⟩)] w fun e w' => e = .returned (.tuple #[]) ∧ p_ w' B b (vH P (uy q)) ∧ eX B w w' := by
 have od : q.data.length = dn := by obtain ⟨_, _, _, e, _⟩ := hd; injection e with _ e _; exact e.symm
 have eG := (aj w.heap.size w).alloc (ai _) (.cells #[.int .i64 tk, .int .i64 kind, .int .u64 key, .int .u32 ck, .slice da dn dc] 85);have HX := zh (dV.new w #[.int .i64 tk, .int .i64 kind, .int .u64 key, .int .u32 ck, .slice da dn dc] 85);have HC := zh (hcap.below eG);have HB := zh eG;have HDn := zh od;have K3 := zh (fun W (hb : Below w.heap.size w W) => zFk (.slice da dn dc) q.data W (iw.below hd hb) (by omega));have oM := zh (fun W va vc (hb : Below w.heap.size w W) (hv : gy W B (.slice va dn vc) (uy q).data) => YK hlo (hP.below hb) (hR.below hb) hl (ak hB hb.size) (uy q) va dn vc hv od iz hel hby);have Iy := zh (show ((uy q).key : Int) = key ∧ ((uy q).ck : Int) = ck ∧ (uy q).del = false from ⟨CJ, Ek, rfl⟩);obtain ⟨oI, hd2, Cr⟩ := Iy.out;rw [oI, hd2, Cr] at oM;clear eG hcap hd oI hd2 Cr Iy hP hR hl hel hby CJ Ek;generalize vH P (uy q) = D at *
 change Hid (∀ W va vc, Below w.heap.size w W → gy W B (.slice va dn vc) q.data → _) at oM;generalize q.data = ql at *;generalize fc : w.heap.size = bx at *;have eE := zh fc;have OD : bx ≤ w.heap.size := by omega
 have hwc : w.heap.size ≤ bx := by omega
 clear fc
 go_enter Tryz.func146, Tryz.ntmps146
 go_upto_region 1 with fail
 try rw [eE.out]
 generalize w.alloc (.cells #[.int .i64 tk, .int .i64 kind, .int .u64 key, .int .u32 ck, .slice da dn dc] 85) = w1 at *;refine yO [eR (.pointer (some ⟨b, 0, none⟩)), eR (.pointer (some ⟨bx, 2, none⟩)), eR (.int .u64 key), eR (.pointer (some ⟨bx, 3, none⟩)), eR (.int .u32 ck), eR (.pointer (some ⟨bx, 4, none⟩)), eR (.slice da dn dc), zMI B dn ql, zMF B key ck dn ql] [] 13 (by kernel_rfl) (by kernel_rfl) (by rfl) (by kernel_rfl) (fun f => by simp [fA, zX, Act.put]; exact rfl) ?_ ?_
 ·
  refine ⟨?_, ?_, ?_, ?_, ?_, ?_, ?_, ?_, ?_, trivial⟩
  ·
   intro f w2 hb hd;clear hd;dsimp only;have c0 := (HC.out.below hb).cell (i := 0) rfl;go_wp2_with fail;exact pS rfl (by simp)
  ·
   intro f w2 hb hd;clear hd;dsimp only;go_wp2_with fail;exact pS rfl (by simp)
  ·
   intro f w2 hb hd;have d1 : f 1 = (.pointer (some ⟨bx, 2, none⟩)) := hd 1 (by kernel_rfl);clear hd;dsimp only;rw [d1];have q2 := (HX.out.below hb).cell (i := 2) rfl;go_wp2_with fail;exact pS rfl (by simp)
  ·
   intro f w2 hb hd;clear hd;dsimp only;go_wp2_with fail;exact pS rfl (by simp)
  ·
   intro f w2 hb hd;have d3 : f 3 = (.pointer (some ⟨bx, 3, none⟩)) := hd 3 (by kernel_rfl);clear hd;dsimp only;rw [d3];have q3 := (HX.out.below hb).cell (i := 3) rfl;go_wp2_with fail;exact pS rfl (by simp)
  ·
   intro f w2 hb hd;clear hd;dsimp only;go_wp2_with fail;exact pS rfl (by simp)
  ·
   intro f w2 hb hd;have d5 : f 5 = (.pointer (some ⟨bx, 4, none⟩)) := hd 5 (by kernel_rfl);clear hd;dsimp only;rw [d5];have q4 := (HX.out.below hb).cell (i := 4) rfl;go_wp2_with fail;exact pS rfl (by simp)
  ·
   intro f w2 hb hd;have d6 : f 6 = (.slice da dn dc) := hd 6 (by kernel_rfl);clear hd;dsimp only;rw [d6];go_wp2_with fail;refine (K3.out w2 (HB.out.trans (hb.mono (ak OD HB.out.size)))).mono ?_;rintro e w9 ⟨ov, rfl, ho, fT⟩;have sH : ∃ qa qc, ov = .slice qa dn qc := by
    obtain ⟨qa, qc, hv, _⟩ := zO ho;exact ⟨qa, qc, by rw [hv, HDn.out]⟩
   obtain ⟨qa, qc, rfl⟩ := sH;have HO := zh (show gy w9 B (.slice qa dn qc) ql from iA.own ho);clear ho;go_wp2_with fail;exact ⟨rfl, fT, fun t ht => by injection ht with ht; subst ht; exact ⟨⟨qa, qc, rfl, HO.out⟩, fun h => by simp at h⟩⟩
  intro f w2 hb hd;have d2 : f 2 = (.int .u64 key) := hd 2 (by kernel_rfl);have d4 : f 4 = (.int .u32 ck) := hd 4 (by kernel_rfl);obtain ⟨a7, c7, d7, r7⟩ := show ∃ a c, f 7 = .slice a dn c ∧ gy w2 B (.slice a dn c) ql from hd 7 (by kernel_rfl);clear hd;dsimp only;rw [d2];rw [d4];rw [d7];have HO := zh r7;clear r7;go_wp2_with fail;exact ⟨rfl, aj _ _, fun t ht => by injection ht with ht; subst ht; exact ⟨⟨a7, c7, rfl, HO.out⟩, fun h => by simp at h⟩⟩
 intro f w8 hb hA jc;clear jc;have d0 : f 0 = (.pointer (some ⟨b, 0, none⟩)) := hA 0 (show 0 < 9 by decide);obtain ⟨a8, c8, d8, r8⟩ := show ∃ a c, f 8 = .agg #[.int .u64 key, .int .u32 ck, .bool false, .slice a dn c] ∧ gy w8 B (.slice a dn c) ql from hA 8 (show 8 < 9 by decide);clear hA
 try dsimp only
 rw [d0, d8];clear d0 d8;have SR := zh (oM.out w8 a8 c8 (HB.out.trans (hb.mono (ak OD HB.out.size))) r8);have lZ := zh (show eX B w w8 from eX.of ((HB.out.trans (hb.mono (ak OD HB.out.size))).mono hwc) (ak hB OD));clear r8 hb oM K3 HX HC HB;generalize f 1 = sW, f 2 = sX, f 3 = sY, f 4 = sZ, f 5 = s6, f 6 = Ah, f 7 = CH;clear f;go_wp2_with fail;refine SR.out.mono ?_;rintro e w9 ⟨rfl, sr, fT⟩;have sQ := zh sr;have lL := zh (lZ.out.trans fT);clear sr fT;go_wp2_with fail;go_end0;exact ⟨rfl, sQ.out, lL.out⟩
structure iW (W : World) (b g cap : Nat) : Prop where
 c : dV W cap #[.pointer (some ⟨b, 0, none⟩)] 143
 r : dV W g #[.int .i64 1, .func (.func 144) #[.pointer (some ⟨b, 0, none⟩)] #[], .func (.func 145) #[] #[], .func (.func 146) #[] #[.pointer (some ⟨cap, 0, none⟩)], .int .i64 2, .func (.func 149) #[.pointer (some ⟨b, 0, none⟩)] #[], .func (.func 150) #[] #[.pointer (some ⟨cap, 0, none⟩)], .func (.func 152) #[.pointer (some ⟨b, 0, none⟩)] #[]] 192
theorem iW.below {W W' : World} {b g cap : Nat} (h : iW W b g cap) (hb : Below W.heap.size W W') : iW W' b g cap := ⟨h.c.below hb, h.r.below hb⟩
theorem iW.kept {W W' : World} {B b g cap : Nat} (h : iW W b g cap) (hb : eX B W W') : iW W' b g cap := ⟨hb.box h.c (by decide), hb.box h.r (by decide)⟩
theorem zGp (b : Nat) (w : World) : Calls Tryz.prog 107 #[.pointer (some ⟨b, 0, none⟩)] w fun e w' => ∃ g cap, e = .returned (.slice (some ⟨g, 0, none⟩) 2 2) ∧ iW w' b g cap ∧ Below w.heap.size w w' := by
 have eG := (aj w.heap.size w).alloc (ai _) (.cells #[.pointer (some ⟨b, 0, none⟩)] 143);have HC := zh (dV.new w #[.pointer (some ⟨b, 0, none⟩)] 143);have HB := zh eG;clear eG;generalize Zn : w.heap.size = cap at *;have Ef := zh Zn;clear Zn
 go_enter Tryz.func107, Tryz.ntmps107
 go_upto_region 1 with fail
 try rw [Ef.out]
 generalize w.alloc (.cells #[.pointer (some ⟨b, 0, none⟩)] 143) = w1 at *;have c0 := HC.out.cell (i := 0) rfl;have SS : cap < w1.heap.size := HC.out.lt
 go_cut [3] (fun v wx => v = .pointer (some ⟨w1.heap.size, 0, none⟩) ∧ wx = w1.alloc (.cells #[.int .i64 1, .func (.func 144) #[.pointer (some ⟨b, 0, none⟩)] #[], .func (.func 145) #[] #[], .func (.func 146) #[] #[.pointer (some ⟨cap, 0, none⟩)]] 192))
 case first =>
  go_wp2_with fail;go_meet
  case rel => exact ⟨rfl, rfl⟩
 obtain ⟨rfl, rfl⟩ := hcut;have hb2 := (aj w1.heap.size w1).alloc (ai _) (.cells #[.int .i64 1, .func (.func 144) #[.pointer (some ⟨b, 0, none⟩)] #[], .func (.func 145) #[] #[], .func (.func 146) #[] #[.pointer (some ⟨cap, 0, none⟩)]] 192);have Zo := zh (dV.new w1 #[.int .i64 1, .func (.func 144) #[.pointer (some ⟨b, 0, none⟩)] #[], .func (.func 145) #[] #[], .func (.func 146) #[] #[.pointer (some ⟨cap, 0, none⟩)]] 192);have Ao := zh (HC.out.below hb2);have eP := zh (HB.out.trans (hb2.mono (bM SS)));clear hb2 c0;generalize hg1 : w1.heap.size = g1 at *;have pX := zh hg1;clear hg1;generalize w1.alloc (.cells #[.int .i64 1, .func (.func 144) #[.pointer (some ⟨b, 0, none⟩)] #[], .func (.func 145) #[] #[], .func (.func 146) #[] #[.pointer (some ⟨cap, 0, none⟩)]] 192) = w2 at *;have c0 := Ao.out.cell (i := 0) rfl;have Mg : cap < w2.heap.size := Ao.out.lt
 have Zp : g1 < w2.heap.size := Zo.out.lt;go_upto_region 2 with fail
 go_cut [4] (fun v wx => v = .pointer (some ⟨w2.heap.size, 0, none⟩) ∧ wx = w2.alloc (.cells #[.int .i64 2, .func (.func 149) #[.pointer (some ⟨b, 0, none⟩)] #[], .func (.func 150) #[] #[.pointer (some ⟨cap, 0, none⟩)], .func (.func 152) #[.pointer (some ⟨b, 0, none⟩)] #[]] 192))
 case first =>
  go_wp2_with fail;go_meet
  case rel => exact ⟨rfl, rfl⟩
 obtain ⟨rfl, rfl⟩ := hcut;have hb3 := (aj w2.heap.size w2).alloc (ai _) (.cells #[.int .i64 2, .func (.func 149) #[.pointer (some ⟨b, 0, none⟩)] #[], .func (.func 150) #[] #[.pointer (some ⟨cap, 0, none⟩)], .func (.func 152) #[.pointer (some ⟨b, 0, none⟩)] #[]] 192);have gR := zh (dV.new w2 #[.int .i64 2, .func (.func 149) #[.pointer (some ⟨b, 0, none⟩)] #[], .func (.func 150) #[] #[.pointer (some ⟨cap, 0, none⟩)], .func (.func 152) #[.pointer (some ⟨b, 0, none⟩)] #[]] 192);have Iz := zh (Zo.out.below hb3);have Zq := zh (Ao.out.below hb3);have fV := zh (eP.out.trans (hb3.mono (bM Mg)));clear hb3 c0;generalize hg2 : w2.heap.size = g2 at *;clear hg2;generalize w2.alloc (.cells #[.int .i64 2, .func (.func 149) #[.pointer (some ⟨b, 0, none⟩)] #[], .func (.func 150) #[] #[.pointer (some ⟨cap, 0, none⟩)], .func (.func 152) #[.pointer (some ⟨b, 0, none⟩)] #[]] 192) = w3 at *
 have y0 := Iz.out.cell (i := 0) rfl;have y1 := Iz.out.cell (i := 1) rfl;have y2 := Iz.out.cell (i := 2) rfl;have y3 := Iz.out.cell (i := 3) rfl;have z0 := gR.out.cell (i := 0) rfl;have z1 := gR.out.cell (i := 1) rfl;have z2 := gR.out.cell (i := 2) rfl;have z3 := gR.out.cell (i := 3) rfl;have Mh : cap < w3.heap.size := Zq.out.lt;go_wp2_with fail;go_ret;have hb4 := (aj w3.heap.size w3).alloc (ai _) (.cells #[.int .i64 1, .func (.func 144) #[.pointer (some ⟨b, 0, none⟩)] #[], .func (.func 145) #[] #[], .func (.func 146) #[] #[.pointer (some ⟨cap, 0, none⟩)], .int .i64 2, .func (.func 149) #[.pointer (some ⟨b, 0, none⟩)] #[], .func (.func 150) #[] #[.pointer (some ⟨cap, 0, none⟩)], .func (.func 152) #[.pointer (some ⟨b, 0, none⟩)] #[]] 192)
 refine ⟨w3.heap.size, cap, rfl, ⟨Zq.out.below hb4, dV.new w3 #[.int .i64 1, .func (.func 144) #[.pointer (some ⟨b, 0, none⟩)] #[], .func (.func 145) #[] #[], .func (.func 146) #[] #[.pointer (some ⟨cap, 0, none⟩)], .int .i64 2, .func (.func 149) #[.pointer (some ⟨b, 0, none⟩)] #[], .func (.func 150) #[] #[.pointer (some ⟨cap, 0, none⟩)], .func (.func 152) #[.pointer (some ⟨b, 0, none⟩)] #[]] 192⟩, fV.out.trans (hb4.mono (bM Mh))⟩
end Go.Proofs.YtcgfilmmokmdjaaGreat
namespace Go.Proofs.YtcgfilmmokmdjaaGreat
open Go.RowKit
section
variable {P : fh} {q : Rq}
theorem qm (h : P.res.length = 16) : zT P q = (false, P) := by unfold zT; rw [ag h]
theorem SU (h : ¬ P.res.length = 16) (h1 : q.kind = 1) (h2 : zy P.t q = 9) (h3 : xe P.t = true) : zT P q = (false, { P with ey := decide (P.res.length = 0) }) := by
 unfold zT; rw [ah h, ag h1, ag ⟨h2, h3⟩]
theorem vN (h : ¬ P.res.length = 16) (h1 : q.kind = 1) (h2 : ¬ (zy P.t q = 9 ∧ xe P.t = true)) (h3 : ¬ zy P.t q = 0) : zT P q = (true, more P (zy P.t q)) := by
 unfold zT; rw [ah h, ag h1, ah h2, ah h3]
theorem qi (h : ¬ P.res.length = 16) (h1 : q.kind = 1) (h3 : zy P.t q = 0) (h4 : 0 < P.bytes ∧ 16384 < P.bytes + (eM q.data.length : Int)) : zT P q = (false, P) := by
 unfold zT; rw [ah h, ag h1, ah (fun h => by have := h.1; omega), ag h3, ag h4]
theorem uT (h : ¬ P.res.length = 16) (h1 : q.kind = 1) (h3 : zy P.t q = 0) (h4 : ¬ (0 < P.bytes ∧ 16384 < P.bytes + (eM q.data.length : Int))) : zT P q = (true, more (vH P (uy q)) 0) := by
 unfold zT; rw [ah h, ag h1, ah (fun h => by have := h.1; omega), ag h3, ah h4]
theorem tQ : xI P.t q = 0 ∨ xI P.t q = 6 := by unfold xI; split <;> simp
theorem zB5 : zy P.t q = 0 ∨ zy P.t q = 8 ∨ zy P.t q = 9 := by
 unfold zy
 split
 ·
  simp
 split <;> simp
theorem zEx (h : zy P.t q = 0) : q.data.length ≤ 4096 := by
 unfold zy at h
 split at h
 ·
  cases h
 omega
theorem vX (h : ¬ P.res.length = 16) (h1 : q.kind = 2) (h3 : xI P.t q = 6) : zT P q = (true, more P 6) := by
 unfold zT; rw [ah h, ah (by omega), ag h1, ah (by omega)]
theorem qp (h : ¬ P.res.length = 16) (h1 : q.kind = 2) (h3 : xI P.t q = 0) (h4 : vI P.t q.key = true ∧ 0 < P.bytes ∧ 16384 < P.bytes + 24) : zT P q = (false, P) := by
 unfold zT; rw [ah h, ah (by omega), ag h1, ag h3, ag h4]
theorem vM (h : ¬ P.res.length = 16) (h1 : q.kind = 2) (h3 : xI P.t q = 0) (h4 : ¬ (vI P.t q.key = true ∧ 0 < P.bytes ∧ 16384 < P.bytes + 24)) : zT P q = (true, more (yZ P q) 0) := by
 unfold zT; rw [ah h, ah (by omega), ag h1, ag h3, ah h4]
theorem vp (h : ¬ P.res.length = 16) (h1 : ¬ q.kind = 1) (h2 : ¬ q.kind = 2) : zT P q = (true, more P 1) := by
 unfold zT; rw [ah h, ah h1, ah h2]
end
theorem zKr (s : eL) (a : Option Addr) (n c : Nat) (L : List GP) (W : World) (hr : fq W (.slice a n c) L) (hg : dZ L = s.dU) (hl : eV 1000 s.dU) :
  Calls Tryz.prog 35 #[zZ s.id s.lim s.ro a n c] W fun e w' => e = .returned (.bool (xe s)) ∧ Below W.heap.size W w' := by
 have h := qY s.id s.lim s.ro a n c L W hr (wm (hg ▸ hl) (by decide));obtain ⟨i, l, r, g⟩ := s;dsimp only at hg h ⊢;subst hg;exact h
theorem zLR : xj Tryz.prog 69 39 1 8 := by
 obtain ⟨i, hi, hz, hs, hb⟩ := cn (P := Tryz.prog) (e := 39) (z := .int .i64 0) (size := 1) (bytes := 8) (by kernel_rfl);exact ⟨Tryz.underlying69, by decide, i, _, hi, hz, hs, hb, rfl⟩
theorem zLt (i l : Int) (r : Bool) (ga : Option Addr) (gn gc : Nat) (ey : Bool) (kv nv rv : Value) (mf : Int) (u : Value) : (tZ i l r ga gn gc ey kv nv rv mf).setIfInBounds 8 u = tZ i l r ga gn gc ey kv nv u mf := by
 simp only [aP, aQ, aN]
theorem zLW (i l : Int) (r : Bool) (ga : Option Addr) (gn gc : Nat) (ey : Bool) (kv nv rv : Value) (mf : Int) (z : Bool) : (tZ i l r ga gn gc ey kv nv rv mf).setIfInBounds 4 (.bool z) = tZ i l r ga gn gc z kv nv rv mf := by
 simp only [aP, aQ, aN]
theorem lF.res {W W1 : World} {B : Nat} {P : fh} {ga : Option Addr} {gn gc : Nat} {L : List GP} {kv : Value} {ks : List KP} {nv : Value} {es : List (Nd × Value)} {rv OG : Value} (h : lF W B P ga gn gc L kv ks nv es rv) (e : Int)
  (hg : W.grownBy W1 rv.ownBlock) (ho : W1.ownsRow B 39 1 OG (P.res.length + 1) (P.res.map Dp ++ [.int .i64 e])) : lF W1 B (more P e) ga gn gc L kv ks nv es OG ∧ gH W W1 B 39 := by
 have hO : gH W W1 B 39 := gH.row h.r hg (ai _);refine ⟨⟨h.g.gq hO (by decide) (by decide), h.gg, h.k.gq hO (by decide) (by decide), h.kk, h.n.gq hO (by decide) (by decide), h.nn, ?_⟩, hO⟩
 show W1.ownsRow B _ 1 OG (P.res ++ [e]).length ((P.res ++ [e]).map Dp)
 rw [aA, bV]; exact ho
end Go.Proofs.YtcgfilmmokmdjaaGreat
namespace Go.Proofs.YtcgfilmmokmdjaaGreat
structure lN (K G n : Nat) (P : fh) : Prop where
 l : eV (K + n) P.t.dU
 k : nS (8 * n) P.ep
 g : P.t.dU.length ≤ G
 b : 0 ≤ P.bytes ∧ P.bytes ≤ 5000 * (n : Int)
 e : P.needs.length ≤ n
theorem lN.mono {K G n m : Nat} {P : fh} (h : lN K G n P) (hm : n ≤ m) : lN K G m P := ⟨h.l.mono (by omega), h.k.mono (by omega), h.g, ⟨h.b.1, by have := h.b.2; omega⟩, ak h.e hm⟩
theorem Zr {K n m : Nat} {G : Nat} {P : fh} {x : Nd} (hl : eV (K + n) P.t.dU) (hk : nS (8 * m) P.ep) (hg : P.t.dU.length ≤ G) (hb : 0 ≤ P.bytes ∧ P.bytes ≤ 5000 * (n : Int)) (he : P.needs.length ≤ n) (hm : m ≤ n + 1) : lN K G (n + 1) (vH P x) := by
 have hs := xx x.data.length;refine ⟨?_, hk.mono (by omega), ak (Za _ _) hg, ⟨?_, ?_⟩, ?_⟩
 ·
  have := k8 (s := P.t) (g := (yt (uG P.t).2 [x]).2) (K := K + n + 1) (hl.mono (by omega)) (fun i hi => qJ (R7 hl) i hi);exact this
 ·
  show 0 ≤ P.bytes + (eM x.data.length : Int)
  have := hb.1; omega
 ·
  show P.bytes + (eM x.data.length : Int) ≤ 5000 * ((n + 1 : Nat) : Int)
  have := hb.2; omega
 show (P.needs ++ [x]).length ≤ n + 1
 rw [aA]; exact Nat.succ_le_succ he
theorem Zs {K M : Nat} {key : Int} : ∀ (l : List Int) (P : fh), eV K P.t.dU → nS M P.ep → (∀ x ∈ l, 1 ≤ x ∧ x ≤ 8) → eV K (l.foldl (xS key) P).t.dU ∧ nS (M + l.length) (l.foldl (xS key) P).ep ∧ (l.foldl (xS key) P).t.dU.length ≤ P.t.dU.length
 | [], P, h1, h2, _ => ⟨h1, h2, ai _⟩
 | x :: r, P, h1, h2, h3 => by
  obtain ⟨g1, g2, g3⟩ := Zs (M := M + 1) r (xS key P x) (uu h1) (h2.ins (h3 x (by simp)) key) (fun y hy => h3 y (by simp [hy]));refine ⟨g1, ?_, ak g3 (Sz _ _ _)⟩;have e : M + (x :: r).length = M + 1 + r.length := by rw [aX]; omega
  rw [e]; exact g2
theorem zHM {K G n : Nat} {P : fh} {q : Rq} (h : lN K G n P) : lN K G (n + 1) (yZ P q) := by
 obtain ⟨g1, g2, g3⟩ := Zs (key := q.key) (zk P.t q.key) P h.l h.k (fun x hx => qk hx);have h8 := YC P.t q.key;obtain ⟨r1, r2, r3, r4⟩ := yl P q.key;have hk : nS (8 * (n + 1)) (yW P q.key).ep := nS.mono g2 (by omega);unfold yZ
 split
 ·
  exact Zr (m := n + 1) (n := n) g1 hk (ak g3 h.g) (by rw [r3]; exact h.b) (by rw [r2]; exact h.e) (ai _)
 exact ⟨eV.mono g1 (by omega), hk, ak g3 h.g, by rw [r3]; exact ⟨h.b.1, by have := h.b.2; omega⟩, by rw [r2]; exact Nat.le_succ_of_le h.e⟩
theorem zIZ {K G n : Nat} {P : fh} {e : Int} (h : lN K G n P) : lN K G n (more P e) := ⟨h.l, h.k, h.g, h.b, h.e⟩
theorem SV (P : fh) (e : Int) : (more P e).res.length = P.res.length + 1 := by unfold more; simp
theorem uS (P : fh) (q : Rq) : (yZ P q).res = P.res := by
 unfold yZ
 split
 ·
  rw [RD]; exact (yl P q.key).1
 exact (yl P q.key).1
theorem Zt {K G : Nat} {P : fh} {q : Rq} (h : lN K G P.res.length P) : lN K G (zT P q).2.res.length (zT P q).2 := by
 have hm : ∀ (Q : fh) (e : Int), Q.res.length = P.res.length → lN K G (P.res.length + 1) Q → lN K G (more Q e).res.length (more Q e) := fun Q e hq h => by
  rw [SV, hq]; exact zIZ h
 unfold zT
 split
 ·
  exact h
 split
 ·
  split
  ·
   exact ⟨h.l, h.k, h.g, h.b, h.e⟩
  split
  ·
   split
   ·
    exact h
   exact hm _ _ rfl (Zr (m := P.res.length) (n := P.res.length) h.l h.k h.g h.b h.e (by omega))
  exact hm _ _ rfl (h.mono (by omega))
 split
 ·
  split
  ·
   split
   ·
    exact h
   exact hm _ _ (by rw [uS]) (zHM h)
  exact hm _ _ rfl (h.mono (by omega))
 exact hm _ _ rfl (h.mono (by omega))
/-! ### XR many items a generation may have -/
theorem k4 (M : Mp) (k : Int) : fG (zI M) k = ze M k := by
 have h := vO M k
 rwa [yK (yV M)] at h
theorem zHz {M : Mp} (h : fO M) {x : It} (hx : x ∈ zI M) : nt x := by
 have h1 := (xW h).1 hx;rw [xZ h] at h1;exact (uP.1 (h.ok _ (wS _))).2 x (wV h1).1
theorem Zu : ∀ l : List It, (∀ x ∈ l, nt x) → 24 * l.length ≤ zv l
 | [], _ => au _
 | x :: r, h => by
  have ih := Zu r fun y hy => h y (by simp [hy])
  obtain ⟨_, _, _, h4, h5⟩ := h x (by simp);have h6 : eM x.size.toNat = oQ x.size.toNat := J4 (by omega);have h7 := un x.size.toNat
  show 24 * (r.length + 1) ≤ eM x.size.toNat + zv r
  omega
theorem zKe {g : Gn} (h : ja g) : (((zI g.m).length * 24 : Nat) : Int) ≤ g.size - 16 := by
 have hm := (zV _).1 h.m;have h1 := Zu (zI g.m) fun x hx => zHz hm hx
 have h2 : zv (zI g.m) = zv (vA g.m) := by
  unfold zI; rw [ag h.m]; exact hm.sum
 have h3 := hm.lv;have h4 := hm.g0;have h5 := h.sum;omega
theorem Zv : ∀ {l : List It} {k : Int}, fG l k ≠ none → (gl l k).length + 1 ≤ l.length
 | [], k, h => absurd rfl h
 | x :: r, k, h => by
  by_cases e : x.key = k
  ·
   have h1 : gl (x :: r) k = gl r k := by unfold gl; rw [cu, ah (by simpa using e)]
   have h2 := uZ r k;rw [h1, aX]; omega
  have h1 : gl (x :: r) k = x :: gl r k := by unfold gl; rw [cu, ag (by simpa using e)]
  rw [zl, ah e] at h;have h2 := Zv h;rw [h1, aX, aX]; omega
theorem zHs {M : Mp} (h : fO M) {k : Int} (hr : M.dW + (gW (ze M k) : Int) ≤ 1099511627776) : zI (yJ M k) = gl (zI M) k := by
 refine qB _ _ (qU (yV _)) ((qU (yV _)).filter _) fun j => ?_
 rw [k4, kR h hr, PA, k4]
 by_cases e : j = k
 ·
  rw [ag e, ag e.symm]
 rw [ah e, ah fun h => e h.symm]
theorem zDh {M : Mp} (h : fO M) {n : Int} (h0 : 0 ≤ n) (hr : M.dW + n ≤ 1099511627776) : zI (xA M n) = zI M := by
 unfold zI;rw [ag ((zV _).2 (h.C_ h0 hr)), ag ((zV _).2 h)];unfold vA;rw [uI]
/-! ### A record more -/
def qw (S : eL) (x : Nd) : Prop := x.ok ∧ ((x.del = false ∧ (zS S).size + (eM x.data.length : Int) ≤ S.lim) ∨ (x.del = true ∧ ze (zS S).m x.key ≠ none))
theorem Zw {S : eL} (h : eo S) {x : Nd} (hc : qw S x) :
  yt (zS S) [x] = (0, yT (zS S) x) ∧ Fit S (S.dU.length - 1) (yT (zS S) x) := by
 obtain ⟨hx, hc⟩ := hc;obtain ⟨hv, hm, hz⟩ := h.sR;have hlen := h.len;have hlim := h.lim;have Ml : (zS S).size + (((zI (zS S).m).length * 24 : Nat) : Int) ≤ 2 * S.lim := h.top;have SX := (zV _).1 hv.m;have hsz : (zS S).size + (eM x.data.length : Int) ≤ 2 * S.lim := by
  rcases hc with ⟨_, h1⟩ | ⟨h1, h2⟩
  ·
   omega
  have h3 := hx.2 h1;have h4 : 1 ≤ (zI (zS S).m).length := by
   rw [← k4] at h2
   cases e : zI (zS S).m with
   | nil => rw [e] at h2; exact absurd rfl h2
   | cons y r => rw [aX]; omega
  have h5 : eM x.data.length = 24 := by rw [h3]; decide
  omega
 have hz2 : (zS S).size + (eM x.data.length : Int) ≤ 1048576 := by omega
 have hz3 : (zS S).size + (ic [x] : Int) ≤ 1048576 := by rw [wu, Ww]; omega
 have hg := zE5 hv hx hz2;refine ⟨Xm hv hm (l := [x]) (fun y hy => by obtain rfl := List.mem_singleton.1 hy; exact hx) hz3, by omega, hg, (Wx _ _).1, ?_, ?_, fun _ => ?_⟩
 ·
  rw [(Wx _ _).2.2, hm]; exact ⟨fun _ => by omega, fun _ => rfl⟩
 ·
  rw [uA]; exact hsz
 rcases hc with ⟨_, h1⟩ | ⟨h1, h2⟩
 ·
  have h3 := zKe hg;rw [uA] at h3 ⊢;omega
 have h5 : eM x.data.length = 24 := by rw [hx.2 h1]; decide
 have hr := hv.room x.key;have hd := SX.del hr;have hds := qy SX hr;have iz := hd.live0;have hsm := hv.small;have e : zI (yT (zS S) x).m = gl (zI (zS S).m) x.key := by
  unfold yT;dsimp only;rw [ag h1, zDh hd (by omega) (by omega), zHs SX hr]
 have h6 := Zv (l := zI (zS S).m) (k := x.key) (by rw [k4]; exact h2);rw [e, uA, h5];omega
/-! ### What a fP slot keeps -/
structure Kp (S s : eL) : Prop where
 v : eo s
 id : s.id = S.id
 lim : s.lim = S.lim
 ro : s.ro = S.ro
 len : s.dU.length = S.dU.length
 num : ∀ r, r < S.dU.length → (eN s.dU r).num = (eN S.dU r).num
theorem Kp.refl {S : eL} (h : eo S) : Kp S S := ⟨h, rfl, rfl, rfl, rfl, fun _ _ => rfl⟩
theorem Kp.set {S s : eL} (h : Kp S s) {j : Nat} {g : Gn} (hf : Fit s j g) : Kp S (uF s j g) := by
 refine ⟨XK h.v hf, h.id, h.lim, h.ro, ?_, fun r hr => ?_⟩
 ·
  show (s.dU.set j g).length = _
  rw [aZ]; exact h.len
 show (eN (s.dU.set j g) r).num = _
 rw [vF hf.hj]
 by_cases e : r = j
 ·
  rw [ag e, hf.n, ← e]; exact h.num r hr
 rw [ah e]; exact h.num r hr
theorem Kp.trans {S s t : eL} (h : Kp S s) (h' : Kp s t) : Kp S t := ⟨h'.v, h'.id.trans h.id, h'.lim.trans h.lim, h'.ro.trans h.ro, h'.len.trans h.len, fun r hr => (h'.num r (by rw [h.len]; exact hr)).trans (h.num r hr)⟩
theorem SY {S : eL} (h : eo S) : xe S = decide ((zS S).num < 8) := by unfold xe; rw [(zR S).2 h, cG]
theorem Kp.can {S s : eL} (hS : eo S) (h : Kp S s) : xe s = xe S := by
 have hlen := hS.len;rw [SY h.v, SY hS];have e : (zS s).num = (zS S).num := by
  unfold zS;rw [h.len];exact h.num _ (by omega)
 rw [e]
theorem Zx {s : eL} (h : eo s) (g : Gn) : zS (uF s (s.dU.length - 1) g) = g := by
 have hlen := h.len;unfold zS uF;dsimp only;rw [aZ, vF (by omega), ag rfl]
theorem SZ {s : eL} {r : Nat} (hr : r + 1 < s.dU.length) (g : Gn) : zS (uF s r g) = zS s := by
 unfold zS uF;dsimp only;rw [aZ, vF (by omega), ah (by omega)]
theorem S0 {P : fh} (h : eo P.t) {x : Nd} (hc : qw P.t x) : (vH P x).t = uF P.t (P.t.dU.length - 1) (yT (zS P.t) x) := by
 obtain ⟨h1, h2⟩ := Zw h hc
 show (yb P.t (yt (uG P.t).2 [x]).2).1 = _
 rw [XP h];dsimp only;rw [h1, N4 h h2]
theorem Zy {s : eL} (h : eo s) {r : Nat} (hr : r < s.dU.length) : kP s.dU (eN s.dU r).num = r :=
 YN hr rfl fun j hj => h.rJ (by omega) hr (by omega)
theorem Zz {s : eL} (h : eo s) {r : Nat} (hr : r + 1 < s.dU.length) (key : Int) : yX s (eN s.dU r).num [key] = (uF s r (FZ (eN s.dU r) key), 0) := by
 have hm : (eN s.dU r).mode ≠ 1 := fun e => by have := (h.g r (by omega)).2.2.1.1 e; omega
 unfold yX;rw [Zy h (by omega), ag (by omega), zHL (h.vg (by omega)) hm, ag rfl, N4 h (fit_drop h hr key)]
theorem ZA {S : eL} {key : Int} : ∀ (l : List Int) (P : fh), Kp S P.t → zS P.t = zS S → (∀ x ∈ l, ∃ r, r + 1 < S.dU.length ∧ x = (eN S.dU r).num) → Kp S (l.foldl (xS key) P).t ∧ zS (l.foldl (xS key) P).t = zS S
 | [], P, h, ht, _ => ⟨h, ht⟩
 | x :: l, P, h, ht, hl => by
  obtain ⟨r, hr, e⟩ := hl x (by simp);have hr2 : r + 1 < P.t.dU.length := by rw [h.len]; exact hr
  have e2 : (xS key P x).t = uF P.t r (FZ (eN P.t.dU r) key) := by
   show (yX P.t x [key]).1 = _
   rw [e, ← h.num r (by omega), Zz h.v hr2]
  refine ZA l (xS key P x) (by rw [e2]; exact h.set (fit_drop h.v hr2 key)) (by rw [e2, SZ hr2]; exact ht) fun y hy => hl y (by simp [hy])
theorem ZB {s : eL} (h : eo s) {key x : Int} (hx : x ∈ zk s key) : ∃ r, r + 1 < s.dU.length ∧ x = (eN s.dU r).num := by
 rw [XM h] at hx;obtain ⟨i, hi, e⟩ := b8 hx;obtain ⟨r, h1, h2, _, _⟩ := Rz s.dU key _ i hi;rw [aB hi] at h2;exact ⟨r, by omega, by rw [← e]; exact Option.some.inj h2⟩
theorem ZC {P : fh} (h : eo P.t) (key : Int) : Kp P.t (yW P key).t ∧ zS (yW P key).t = zS P.t :=
 ZA _ P (Kp.refl h) rfl fun _ hx => ZB h hx
theorem tX {t : eL} (h : eo t) (key : Int) : vI t key = true ↔ ze (zS t).m key ≠ none := by
 have hlen := h.len;obtain ⟨_, hm, _⟩ := h.sR;unfold vI;rw [RA h, RB h]
 cases hx : ze (zS t).m key with
 | some y => simp [hm]
 | none =>
  refine ⟨fun hb => ?_, fun h => absurd rfl h⟩
  exfalso
  simp only [bT, aM, Bool.not_eq_true', aT] at hb;obtain ⟨h1, h2⟩ := hb
  cases e : xu t.dU key (t.dU.length - 1) with
  | nil => rw [e] at h1; cases h1
  | cons x r =>
   rw [e] at h2;obtain ⟨g1, g2, _⟩ := XL e;have h2 : x.mode = 1 := h2;rw [g2] at h2;have := (h.g x.at_ (by omega)).2.2.1.1 h2;omega
theorem zIQ {t : eL} (h : eo t) {n : Int} (hf : wW t n = true) : (zS t).size + (eM n.toNat : Int) ≤ t.lim := by
 unfold wW at hf;simp only [aM, aT] at hf;exact hf.2
theorem kq {t : eL} (h : eo t) {q : Rq} (hc : zy t q = 0) : qw t (uy q) := by
 unfold zy at hc
 split at hc
 ·
  cases hc
 rename_i hl
 split at hc
 ·
  rename_i hf;have := zIQ h hf;rw [Int.toNat_natCast] at this;exact ⟨⟨by show q.data.length ≤ 4096; omega, fun e => (by cases e)⟩, .inl ⟨rfl, this⟩⟩
 cases hc
theorem ZD {t : eL} {q : Rq} (hc : ze (zS t).m q.key ≠ none) : qw t (Dj q) := ⟨⟨au _, fun _ => rfl⟩, .inr ⟨rfl, hc⟩⟩
theorem OH {P : fh} (h : eo P.t) {x : Nd} (hc : qw P.t x) : Kp P.t (vH P x).t := by
 rw [S0 h hc]; exact (Kp.refl h).set (Zw h hc).2
theorem zIe {P : fh} (h : eo P.t) (q : Rq) : Kp P.t (yZ P q).t := by
 obtain ⟨h1, h2⟩ := ZC h (q.key : Int);unfold yZ
 split
 ·
  rename_i hb;exact h1.trans (OH h1.v (ZD ((tX h1.v _).1 hb)))
 exact h1
theorem S1 {P : fh} (h : eo P.t) (q : Rq) : Kp P.t (zT P q).2.t := by
 unfold zT
 split
 ·
  exact Kp.refl h
 split
 ·
  split
  ·
   exact Kp.refl h
  split
  ·
   rename_i hc
   split
   ·
    exact Kp.refl h
   exact OH (P := P) h (kq h hc)
  exact Kp.refl h
 split
 ·
  split
  ·
   split
   ·
    exact Kp.refl h
   exact zIe h q
  exact Kp.refl h
 exact Kp.refl h
/-! ### The bytes of a plan -/
structure A4 (P : fh) : Prop where
 b : P.bytes = (ic P.needs : Int)
 m : P.needs.length ≤ 1 ∨ ic P.needs ≤ 16384
 ok : ∀ x ∈ P.needs, x.ok
theorem zKG {l : List Nd} (h : ∀ x ∈ l, x.ok) : 24 * l.length ≤ ic l := by
 induction l with
 | nil => exact au _
 | cons x r ih =>
  have h1 := ih fun y hy => h y (by simp [hy])
  have h2 := h x (by simp);have h3 : eM x.data.length = oQ x.data.length := J4 h2.1;have h4 := un x.data.length;rw [wu, aX]; omega
theorem A4.add {P : fh} (h : A4 P) {x : Nd} (hx : x.ok) (hb : ¬ (0 < P.bytes ∧ 16384 < P.bytes + (eM x.data.length : Int))) : A4 (vH P x) := by
 have hp := zKG h.ok;have hB := h.b;have e : ic (P.needs ++ [x]) = ic P.needs + eM x.data.length := kY _ _;refine ⟨?_, ?_, fun y hy => ?_⟩
 ·
  show P.bytes + (eM x.data.length : Int) = (ic (P.needs ++ [x]) : Int)
  rw [e]; omega
 ·
  show (P.needs ++ [x]).length ≤ 1 ∨ ic (P.needs ++ [x]) ≤ 16384
  rw [e, aA]
  by_cases h0 : P.needs.length = 0
  ·
   left; rw [h0]; simp
  right; omega
 rcases List.mem_append.1 (show y ∈ P.needs ++ [x] from hy) with hy | hy
 ·
  exact h.ok y hy
 obtain rfl := List.mem_singleton.1 hy; exact hx
theorem A4.ep {P : fh} (h : A4 P) (key : Int) : A4 (yW P key) := by
 obtain ⟨_, h2, h3, _⟩ := yl P key;exact ⟨by rw [h2, h3]; exact h.b, by rw [h2]; exact h.m, by rw [h2]; exact h.ok⟩
theorem zFQ {P : fh} (h : eo P.t) (key : Int) : vI (yW P key).t key = vI P.t key := by
 obtain ⟨h1, h2⟩ := ZC h key;rw [dw, tX h1.v, tX h, h2]
theorem zHu {P : fh} (hv : eo P.t) (h : A4 P) (q : Rq) : A4 (zT P q).2 := by
 unfold zT
 split
 ·
  exact h
 split
 ·
  split
  ·
   exact ⟨h.b, h.m, h.ok⟩
  split
  ·
   rename_i hc
   split
   ·
    exact h
   rename_i hb;have := A4.add h (kq hv hc).1 hb;exact ⟨this.b, this.m, this.ok⟩
  exact ⟨h.b, h.m, h.ok⟩
 split
 ·
  split
  ·
   split
   ·
    exact h
   rename_i hb;have hk := h.ep q.key;obtain ⟨_, _, h3, _⟩ := yl P q.key;unfold yZ
   split
   ·
    rename_i ht;rw [zFQ hv] at ht
    have := A4.add hk (x := Dj q) ⟨au _, fun _ => rfl⟩ (by
     rw [h3, show eM (Dj q).data.length = 24 from (by show eM 0 = 24; decide)]
     exact fun e => hb ⟨ht, e.1, e.2⟩)
    exact ⟨this.b, this.m, this.ok⟩
   exact ⟨hk.b, hk.m, hk.ok⟩
  exact ⟨h.b, h.m, h.ok⟩
 exact ⟨h.b, h.m, h.ok⟩
/-! ### The S2 -/
def yy (l : List Rq) (i : Nat) : Rq := l.getD i JC
def uC (l : List Int) (i : Nat) : Int := l.getD i 0
structure y_ (S : eL) (l : List Rq) (P : fh) : Prop where
 kp : Kp S P.t
 b : A4 P
 n : P.res.length ≤ l.length
 m : P.res.length ≤ 16
 r0 : P.ey = false
 r : ∀ i, i < P.res.length → (uC P.res i = 9 → xe S = false) ∧ (uC P.res i = 8 → 4096 < (yy l i).data.length)
theorem zJ1 {l : List Int} {i : Nat} (h : i < l.length) (e : Int) : uC (l ++ [e]) i = uC l i := by
 unfold uC; rw [ax, ax, dP h]
theorem zJh (l : List Int) (e : Int) : uC (l ++ [e]) l.length = e := by
 unfold uC; rw [ax, dD (ai _)]; simp
theorem y_.more {S : eL} {l : List Rq} {P Q : fh} (h : y_ S l P) (hk : Kp S Q.t) (hb : A4 Q) (hr : Q.res = P.res) (h0 : Q.ey = false) (hn : P.res.length < l.length) (jf : ¬ P.res.length = 16) (e : Int)
  (h9 : e = 9 → xe S = false) (h8 : e = 8 → 4096 < (yy l P.res.length).data.length) : y_ S l (more Q e) := by
 have hl : (Go.Proofs.YtcgfilmmokmdjaaGreat.more Q e).res.length = P.res.length + 1 := by rw [SV, hr]
 have hm := h.m;refine ⟨hk, ⟨hb.b, hb.m, hb.ok⟩, by omega, by omega, h0, fun i hi => ?_⟩
 show (uC (Q.res ++ [e]) i = 9 → _) ∧ _
 rw [hr];rw [hl] at hi
 by_cases hil : i < P.res.length
 ·
  have e2 := zJ1 hil e;refine ⟨fun he => (h.r i hil).1 (by rw [← e2]; exact he), fun he => (h.r i hil).2 ?_⟩;have he : uC (Q.res ++ [e]) i = 8 := he;rw [hr, e2] at he; exact he
 obtain rfl : i = P.res.length := by omega
 have e2 := zJh P.res e;refine ⟨fun he => h9 (by rw [← e2]; exact he), fun he => h8 ?_⟩;have he : uC (Q.res ++ [e]) P.res.length = 8 := he;rw [hr, e2] at he; exact he
structure Mm (S : eL) (l : List Rq) (P : fh) : Prop where
 kp : Kp S P.t
 b : A4 P
 n : P.res.length ≤ l.length
 m : P.res.length ≤ 16
 r : ∀ i, i < P.res.length → (uC P.res i = 9 → xe S = false) ∧ (uC P.res i = 8 → 4096 < (yy l i).data.length)
 t : 0 < l.length → P.res.length = 0 → P.ey = true ∧ xe S = true ∧ (yy l 0).kind = 1 ∧ wW S ((yy l 0).data.length : Int) = false
 rr : P.ey = true → P.res.length = 0
theorem y_.stop {S : eL} {l : List Rq} {P : fh} (h : y_ S l P) (hp : P.res.length = 0 → l.length = 0) : Mm S l P :=
 ⟨h.kp, h.b, h.n, h.m, h.r, fun h1 h2 => by have := hp h2; omega, fun e => by rw [h.r0] at e; cases e⟩
theorem A4.zero {P : fh} (h : A4 P) (hn : P.needs.length = 0) : P.bytes = 0 := by
 have := h.b;rw [List.length_eq_zero_iff.1 hn] at this;exact this
theorem zHX {S : eL} (hS : eo S) {l : List Rq} {P : fh} (h : y_ S l P) (hn : P.res.length < l.length) (hd : P.needs.length ≤ P.res.length) (hs : P.res.length = 0 → P.t = S) :
  ((zT P (yy l P.res.length)).1 = true → y_ S l (zT P (yy l P.res.length)).2) ∧ ((zT P (yy l P.res.length)).1 = false → Mm S l (zT P (yy l P.res.length)).2) := by
 generalize hq : yy l P.res.length = q;have hk := h.kp.trans (S1 h.kp.v q);have hby := zHu h.kp.v h.b q;have hzero : P.res.length = 0 → P.bytes = 0 := fun e => h.b.zero (by omega)
 by_cases jf : P.res.length = 16
 ·
  rw [qm jf];exact ⟨fun e => (by cases e), fun _ => h.stop (by omega)⟩
 by_cases h1 : q.kind = 1
 ·
  by_cases h9 : zy P.t q = 9 ∧ xe P.t = true
  ·
   rw [SU jf h1 h9.1 h9.2] at hk hby ⊢;refine ⟨fun e => (by cases e), fun _ => ⟨hk, hby, h.n, h.m, h.r, fun _ e0 => ?_, fun e => by simpa using e⟩⟩;have e0 : P.res.length = 0 := e0;have es := hs e0;refine ⟨by simpa using e0, ?_, ?_, ?_⟩
   ·
    rw [← es]; exact h9.2
   ·
    rw [e0] at hq; rw [hq]; exact h1
   rw [e0] at hq; rw [hq, ← es];have h2 := h9.1;unfold zy at h2
   split at h2
   ·
    cases h2
   split at h2
   ·
    cases h2
   rename_i hf; simpa using hf
  by_cases h0 : zy P.t q = 0
  ·
   by_cases hb : 0 < P.bytes ∧ 16384 < P.bytes + (eM q.data.length : Int)
   ·
    rw [qi jf h1 h0 hb];exact ⟨fun e => (by cases e), fun _ => h.stop fun e => (by have := hzero e; omega)⟩
   rw [uT jf h1 h0 hb] at hk hby ⊢;exact ⟨fun _ => h.more (Q := vH P (uy q)) hk ⟨hby.b, hby.m, hby.ok⟩ rfl h.r0 hn jf 0 (fun e => (by cases e)) (fun e => (by cases e)), fun e => (by cases e)⟩
  rw [vN jf h1 h9 h0] at hk hby ⊢;refine ⟨fun _ => h.more (Q := P) hk ⟨hby.b, hby.m, hby.ok⟩ rfl h.r0 hn jf _ (fun e => ?_) (fun e => ?_), fun e => (by cases e)⟩
  ·
   rw [← Kp.can hS h.kp]
   cases hc : xe P.t with
   | false => rfl
   | true => exact absurd ⟨e, hc⟩ h9
  rw [hq];unfold zy at e
  split at e
  ·
   assumption
  split at e <;> cases e
 by_cases h2 : q.kind = 2
 ·
  rcases tQ (P := P) (q := q) with h3 | h3
  ·
   by_cases hb : vI P.t q.key = true ∧ 0 < P.bytes ∧ 16384 < P.bytes + 24
   ·
    rw [qp jf h2 h3 hb];exact ⟨fun e => (by cases e), fun _ => h.stop fun e => (by have := hzero e; omega)⟩
   rw [vM jf h2 h3 hb] at hk hby ⊢;refine ⟨fun _ => h.more (Q := yZ P q) hk ⟨hby.b, hby.m, hby.ok⟩ (uS P q) ?_ hn jf 0 (fun e => (by cases e)) (fun e => (by cases e)), fun e => (by cases e)⟩;have hr := (yl P q.key).2.2.2;unfold yZ
   split
   ·
    show (yW P q.key).ey = false
    rw [hr]; exact h.r0
   rw [hr]; exact h.r0
  rw [vX jf h2 h3] at hk hby ⊢;exact ⟨fun _ => h.more (Q := P) hk ⟨hby.b, hby.m, hby.ok⟩ rfl h.r0 hn jf 6 (fun e => (by cases e)) (fun e => (by cases e)), fun e => (by cases e)⟩
 rw [vp jf h1 h2] at hk hby ⊢;exact ⟨fun _ => h.more (Q := P) hk ⟨hby.b, hby.m, hby.ok⟩ rfl h.r0 hn jf 1 (fun e => (by cases e)) (fun e => (by cases e)), fun e => (by cases e)⟩
theorem zDo {P : fh} {q : Rq} (h : P.needs.length ≤ P.res.length) : (zT P q).1 = true → (zT P q).2.needs.length ≤ (zT P q).2.res.length := by
 have hm : ∀ (Q : fh) (e : Int), Q.needs.length ≤ Q.res.length + 1 → (more Q e).needs.length ≤ (more Q e).res.length := fun Q e hq => by rw [SV]; exact hq
 have hd : (yZ P q).needs.length ≤ (yZ P q).res.length + 1 := by
  obtain ⟨r1, r2, _, _⟩ := yl P q.key;rw [uS];unfold yZ
  split
  ·
   show ((yW P q.key).needs ++ [_]).length ≤ _
   rw [r2, aA]; simp; exact h
  rw [r2]; omega
 unfold zT
 split
 ·
  intro e; cases e
 split
 ·
  split
  ·
   intro e; cases e
  split
  ·
   split
   ·
    intro e; cases e
   intro _;refine hm _ _ ?_
   show (P.needs ++ [_]).length ≤ P.res.length + 1
   rw [aA]; simp; exact h
  intro _; exact hm _ _ (by omega)
 split
 ·
  split
  ·
   split
   ·
    intro e; cases e
   intro _; exact hm _ _ hd
  intro _; exact hm _ _ (by omega)
 intro _; exact hm _ _ (by omega)
theorem ZE {S : eL} (hS : eo S) {l : List Rq} : ∀ (k : Nat) (P : fh), l.length = P.res.length + k → y_ S l P → P.needs.length ≤ P.res.length → (P.res.length = 0 → P.t = S) → Mm S l (wJ (l.drop P.res.length) P)
 | 0, P, hk, h, _, _ => by
  rw [List.drop_eq_nil_of_le (by omega)];exact h.stop (by omega)
 | k + 1, P, hk, h, hd, hs => by
  have hlt : P.res.length < l.length := by omega
  have e : l.drop P.res.length = yy l P.res.length :: l.drop (P.res.length + 1) := by
   rw [cR hlt];unfold yy;rw [ax, aB hlt]; rfl
  obtain ⟨h1, h2⟩ := zHX hS h hlt hd hs;have h3 := (uW P (yy l P.res.length) h.m).2.2;have h4 := zDo (q := yy l P.res.length) hd;rw [e]
  show Mm S l (if (zT P (yy l P.res.length)).1 = true then wJ (l.drop (P.res.length + 1)) (zT P (yy l P.res.length)).2 else (zT P (yy l P.res.length)).2)
  by_cases hp : (zT P (yy l P.res.length)).1 = true
  ·
   rw [ag hp];have hl := h3 hp;have := ZE hS k (zT P (yy l P.res.length)).2 (by omega) (h1 hp) (h4 hp) (fun e => by omega);rw [hl] at this;exact this
  rw [ah hp];exact h2 (by simpa using hp)
theorem ZF {S : eL} (hS : eo S) (l : List Rq) : (zm S l).2 = 0 ∧ Mm S l (zm S l).1 := by
 unfold zm;rw [ag ((zR S).2 hS)];refine ⟨rfl, ?_⟩;have := ZE hS (l := l) l.length (yR S) (by simp [yR]) ⟨Kp.refl hS, ⟨rfl, .inl (au _), fun x hx => by cases hx⟩, au _, au _, rfl, fun i hi => by cases hi⟩ (au _) (fun _ => rfl);exact this
end Go.Proofs.YtcgfilmmokmdjaaGreat
namespace Go.Proofs.YtcgfilmmokmdjaaGreat
open Go.RowKit
end Go.Proofs.YtcgfilmmokmdjaaGreat
