/- A part of the walk. -/
import Derived.Test.YtcgfilmmokmdjaaGreatBk
import Derived.Test.YtcgfilmmokmdjaaGreatQAA
import Derived.Deep.Onto
import Derived.Laws.EntriesVeiled
import Derived.Test.YtcgfilmmokmdjaaGreatQAN
import Derived.Test.YtcgfilmmokmdjaaGreatQAQ
import Derived.Test.YtcgfilmmokmdjaaGreatSkb
set_option maxRecDepth 100000
set_option maxHeartbeats 32000000
namespace Go.Proofs.YtcgfilmmokmdjaaGreat
open Go.RowKit
def zMI (B dn : Nat) (l : List UInt8) : lQ := ⟨fun v w => ∃ a c, v = .slice a dn c ∧ gu w B (.slice a dn c) l, fun _ _ _ hb ⟨a, c, h1, h2⟩ => ⟨a, c, h1, ix.below h2 hb⟩⟩
def zMF (B : Nat) (key ck : Int) (dn : Nat) (l : List UInt8) : lQ := ⟨fun v w => ∃ a c, v = .agg #[.int .u64 key, .int .u32 ck, .bool false, .slice a dn c] ∧ gu w B (.slice a dn c) l, fun _ _ _ hb ⟨a, c, h1, h2⟩ => ⟨a, c, h1, ix.below h2 hb⟩⟩
theorem zFk (v : Value) (l : List UInt8) (w : World) (h : oD w v l) (hs : l.length ≤ 1000000) :
  Calls Tryz.prog 148 #[v] w fun e w' => ∃ v', e = .returned v' ∧ Nu w' w.heap.size v' l ∧ Below w.heap.size w w' := by
 obtain ⟨a, cap, rfl, h1, h2⟩ := h.gq;have UW : ∀ (w : World) (a : Option Addr) (n c n' c' : Nat), (binOp .eql 54 (.slice a n c) (.slice none n' c')).run Tryz.prog w = .ok (.bool a.isNone) w := fun w a n c n' c' => Lib.run_eql_slice_nil w _ _ a n c n' c' Tryz.underlying54
 cases a with
 | none =>
  have h0 : l = [] := by
   obtain ⟨_, a', cap', e, _, _, h5, _⟩ := h;injection e with e1 e2 e3;have := h5 e1.symm;exact List.length_eq_zero_iff.1 (by omega)
  subst h0;clear h
  go_enter Tryz.func148, Tryz.ntmps148
  go_wp2_with fail;go_ret;exact ⟨_, rfl, aV _ _ _ _, aj _ _⟩
 | some p =>
  have Hr := zh h;generalize hn : l.length = n at *;have HL := zh hn;clear h hn
  go_enter Tryz.func148, Tryz.ntmps148
  go_wp2_with (at_builtin; go_must (refine zd (n := 0) (m := n) rfl (.tmp 5) (.tmp 6) 54 rfl Nt w.heap.size rfl (db (size := 1) _ #[] 0 (ai _) (by decide) rfl) rfl (by have := ik.alloc Hr.out (.cells #[] 5); unfold ik at this; rw [HL.out] at this; exact this) (UD _) (by unfold maxLen; omega) (by omega) (by simp) ?_); intro v3 w3 d_ eW mH; clear mH);have HB := zh (zM ((aj w.heap.size w).alloc (ai _) _) (db (e := 5) (size := 1) w #[] 0 (ai _) (by decide) rfl) (by simp) eW);have HO := zh (zKt d_ (bU _));clear d_ eW;go_wp2_with fail;go_ret;exact ⟨_, rfl, HO.out, HB.out⟩
theorem zHg (tk kind key ck : Int) (da : Option Addr) (dn dc : Nat) (w : World) : Calls Tryz.prog 145 #[CN tk kind key ck (.slice da dn dc)] w fun e w' => e = .returned (.bool true) ∧ Below w.heap.size w w' := by
 have hb := (aj w.heap.size w).alloc (ai _) (.cells #[.int .i64 tk, .int .i64 kind, .int .u64 key, .int .u32 ck, .slice da dn dc] 85);have HB := zh hb;clear hb
 go_enter Tryz.func145, Tryz.ntmps145
 go_upto_region 1 with fail;change Code.wp _ _ _ _ (w.alloc (.cells #[.int .i64 tk, .int .i64 kind, .int .u64 key, .int .u32 ck, .slice da dn dc] 85));generalize w.alloc (.cells #[.int .i64 tk, .int .i64 kind, .int .u64 key, .int .u32 ck, .slice da dn dc] 85) = w1 at *;go_wp2_with fail;go_ret;exact ⟨rfl, HB.out⟩
theorem zGw (b cap : Nat) (t : eE) (ga : Option Addr) (gn gc : Nat) (L : List GP) (ep : Bool) (kv nv rv : Value) (l9 : Int) (tk kind key ck : Int) (da : Option Addr) (dn dc : Nat) (w : World) (hcap : dQ w cap #[.pointer (some ⟨b, 0, none⟩)] 143) (hb : oI w b t.id t.lim t.ro ga gn gc ep kv nv rv l9) (hg : fl w (.slice ga gn gc) L) (nN : dV L = t.dP) (hl : eV 1000 t.dP) :
  Calls Tryz.prog 150 #[CN tk kind key ck (.slice da dn dc), .pointer (some ⟨cap, 0, none⟩)] w fun e w' => e = .returned (.bool (vI t key)) ∧ Below w.heap.size w w' := by
 have eC := (aj w.heap.size w).alloc (ai _) (.cells #[.int .i64 tk, .int .i64 kind, .int .u64 key, .int .u32 ck, .slice da dn dc] 85);have HX := zh (dQ.new w #[.int .i64 tk, .int .i64 kind, .int .u64 key, .int .u32 ck, .slice da dn dc] 85);have HC := zh (hcap.below eC);have Gc := zh (Y1 b t ga gn gc L ep kv nv rv l9 key (w.alloc (.cells #[.int .i64 tk, .int .i64 kind, .int .u64 key, .int .u32 ck, .slice da dn dc] 85)) (hb.below eC) (fl.below hg eC) nN hl);have HB := zh eC;clear eC hb hg nN hl hcap;generalize vI t key = tb at *
 go_enter Tryz.func150, Tryz.ntmps150
 go_upto_region 1 with fail;change Code.wp _ _ _ _ (w.alloc (.cells #[.int .i64 tk, .int .i64 kind, .int .u64 key, .int .u32 ck, .slice da dn dc] 85));generalize w.alloc (.cells #[.int .i64 tk, .int .i64 kind, .int .u64 key, .int .u32 ck, .slice da dn dc] 85) = w1 at *;have x2 := HX.out.cell (i := 2) rfl;have c0 := HC.out.cell (i := 0) rfl;go_wp2_with fail;refine Gc.out.mono ?_;rintro e w2 ⟨rfl, ez⟩;have eN := zh (zA HB.out ez);clear ez;go_wp2_with fail;go_ret;exact ⟨rfl, eN.out⟩
theorem zIa {w : World} {B b : Nat} {P : fg} {ga : Option Addr} {gn gc : Nat} {L : List GP} {kv : Value} {ks : List KP} {nv : Value} {es : List (Nd × Value)} {rv : Value} (hlo : B ≤ b) (hP : oI w b P.t.id P.t.lim P.t.ro ga gn gc P.ep kv nv rv P.bytes) (hR : lD w B P ga gn gc L kv ks nv es rv) (hl : eV 900 P.t.dP) (hB : B ≤ w.heap.size) (hel : es.length ≤ 1000) (hby : 0 ≤ P.bytes ∧ P.bytes ≤ 1000000000) (q : Rq) (cap : Nat) (tk kind key ck : Int) (da : Option Addr) (dn dc : Nat) (hcap : dQ w cap #[.pointer (some ⟨b, 0, none⟩)] 143) (hd : oD w (.slice da dn dc) q.data) (iw : dn ≤ 100000) (CP : (q.key : Int) = key) (Ep : (q.ck : Int) = ck) :
  Calls Tryz.prog 146 #[CN tk kind key ck (.slice da dn dc), .pointer (some ⟨cap, 0, none⟩)] w fun e w' => e = .returned (.tuple #[]) ∧ pW w' B b (vH P (uy q)) ∧ eX B w w' := by
 have n5 : q.data.length = dn := by obtain ⟨_, _, _, e, _⟩ := hd; injection e with _ e _; exact e.symm
 have eC := (aj w.heap.size w).alloc (ai _) (.cells #[.int .i64 tk, .int .i64 kind, .int .u64 key, .int .u32 ck, .slice da dn dc] 85);have HX := zh (dQ.new w #[.int .i64 tk, .int .i64 kind, .int .u64 key, .int .u32 ck, .slice da dn dc] 85);have HC := zh (hcap.below eC);have HB := zh eC;have Gd := zh n5;have Lp := zh (fun W (hb : Below w.heap.size w W) => zFk (.slice da dn dc) q.data W (ik.below hd hb) (by omega));have oJ := zh (fun W va vc (hb : Below w.heap.size w W) (hv : gu W B (.slice va dn vc) (uy q).data) => Y5 hlo (hP.below hb) (hR.below hb) hl (ak hB hb.size) (uy q) va dn vc hv n5 iw hel hby);have IU := zh (show ((uy q).key : Int) = key ∧ ((uy q).ck : Int) = ck ∧ (uy q).del = false from ⟨CP, Ep, rfl⟩);obtain ⟨oE, hd2, Cx⟩ := IU.out;rw [oE, hd2, Cx] at oJ;clear eC hcap hd oE hd2 Cx IU hP hR hl hel hby CP Ep;generalize vH P (uy q) = D at *
 change Hid (∀ W va vc, Below w.heap.size w W → gu W B (.slice va dn vc) q.data → _) at oJ;generalize q.data = ql at *;generalize fa : w.heap.size = bx at *;have eB := zh fa;have O2 : bx ≤ w.heap.size := by omega
 have y_ : w.heap.size ≤ bx := by omega
 clear fa
 go_enter Tryz.func146, Tryz.ntmps146
 go_upto_region 1 with fail
 try rw [eB.out]
 generalize w.alloc (.cells #[.int .i64 tk, .int .i64 kind, .int .u64 key, .int .u32 ck, .slice da dn dc] 85) = w1 at *;refine yO [eP (.pointer (some ⟨b, 0, none⟩)), eP (.pointer (some ⟨bx, 2, none⟩)), eP (.int .u64 key), eP (.pointer (some ⟨bx, 3, none⟩)), eP (.int .u32 ck), eP (.pointer (some ⟨bx, 4, none⟩)), eP (.slice da dn dc), zMI B dn ql, zMF B key ck dn ql] [] 13 (by kernel_rfl) (by kernel_rfl) (by rfl) (by kernel_rfl) (fun f => by simp [fq, zX, Act.put]; exact rfl) ?_ ?_
 ·
  refine ⟨?_, ?_, ?_, ?_, ?_, ?_, ?_, ?_, ?_, trivial⟩
  ·
   intro f w2 hb hd;clear hd;dsimp only;have c0 := (HC.out.below hb).cell (i := 0) rfl;go_wp2_with fail;exact pS rfl (by simp)
  ·
   intro f w2 hb hd;clear hd;dsimp only;go_wp2_with fail;exact pS rfl (by simp)
  ·
   intro f w2 hb hd;have d1 : f 1 = (.pointer (some ⟨bx, 2, none⟩)) := hd 1 (by kernel_rfl);clear hd;dsimp only;rw [d1];have q2 := (HX.out.below hb).cell (i := 2) rfl;go_wp2_with fail;exact pS rfl (by simp)
  ·
   intro f w2 hb hd;clear hd;dsimp only;go_wp2_with fail;exact pS rfl (by simp)
  ·
   intro f w2 hb hd;have d3 : f 3 = (.pointer (some ⟨bx, 3, none⟩)) := hd 3 (by kernel_rfl);clear hd;dsimp only;rw [d3];have q3 := (HX.out.below hb).cell (i := 3) rfl;go_wp2_with fail;exact pS rfl (by simp)
  ·
   intro f w2 hb hd;clear hd;dsimp only;go_wp2_with fail;exact pS rfl (by simp)
  ·
   intro f w2 hb hd;have d5 : f 5 = (.pointer (some ⟨bx, 4, none⟩)) := hd 5 (by kernel_rfl);clear hd;dsimp only;rw [d5];have q4 := (HX.out.below hb).cell (i := 4) rfl;go_wp2_with fail;exact pS rfl (by simp)
  ·
   intro f w2 hb hd;have d6 : f 6 = (.slice da dn dc) := hd 6 (by kernel_rfl);clear hd;dsimp only;rw [d6];go_wp2_with fail;refine (Lp.out w2 (HB.out.trans (hb.mono (ak O2 HB.out.size)))).mono ?_;rintro e w9 ⟨ov, rfl, ho, fP⟩;have sH : ∃ qa qc, ov = .slice qa dn qc := by
    obtain ⟨qa, qc, hv, _⟩ := zO ho;exact ⟨qa, qc, by rw [hv, Gd.out]⟩
   obtain ⟨qa, qc, rfl⟩ := sH;have HO := zh (show gu w9 B (.slice qa dn qc) ql from ix.own ho);clear ho;go_wp2_with fail;exact ⟨rfl, fP, fun t ht => by injection ht with ht; subst ht; exact ⟨⟨qa, qc, rfl, HO.out⟩, fun h => by simp at h⟩⟩
  intro f w2 hb hd;have d2 : f 2 = (.int .u64 key) := hd 2 (by kernel_rfl);have d4 : f 4 = (.int .u32 ck) := hd 4 (by kernel_rfl);obtain ⟨a7, c7, d7, r7⟩ := show ∃ a c, f 7 = .slice a dn c ∧ gu w2 B (.slice a dn c) ql from hd 7 (by kernel_rfl);clear hd;dsimp only;rw [d2];rw [d4];rw [d7];have HO := zh r7;clear r7;go_wp2_with fail;exact ⟨rfl, aj _ _, fun t ht => by injection ht with ht; subst ht; exact ⟨⟨a7, c7, rfl, HO.out⟩, fun h => by simp at h⟩⟩
 intro f w8 hb hA jc;clear jc;have d0 : f 0 = (.pointer (some ⟨b, 0, none⟩)) := hA 0 (show 0 < 9 by decide);obtain ⟨a8, c8, d8, r8⟩ := show ∃ a c, f 8 = .agg #[.int .u64 key, .int .u32 ck, .bool false, .slice a dn c] ∧ gu w8 B (.slice a dn c) ql from hA 8 (show 8 < 9 by decide);clear hA
 try dsimp only
 rw [d0, d8];clear d0 d8;have S8 := zh (oJ.out w8 a8 c8 (HB.out.trans (hb.mono (ak O2 HB.out.size))) r8);have lX := zh (show eX B w w8 from eX.of ((HB.out.trans (hb.mono (ak O2 HB.out.size))).mono y_) (ak hB O2));clear r8 hb oJ Lp HX HC HB;generalize f 1 = sX, f 2 = sY, f 3 = sZ, f 4 = s6, f 5 = s_, f 6 = Aj, f 7 = CO;clear f;go_wp2_with fail;refine S8.out.mono ?_;rintro e w9 ⟨rfl, sx, fP⟩;have sR := zh sx;have lJ := zh (lX.out.trans fP);clear sx fP;go_wp2_with fail;go_end0;exact ⟨rfl, sR.out, lJ.out⟩
structure iW (W : World) (b g cap : Nat) : Prop where
 c : dQ W cap #[.pointer (some ⟨b, 0, none⟩)] 143
 r : dQ W g #[.int .i64 1, .func (.func 144) #[.pointer (some ⟨b, 0, none⟩)] #[], .func (.func 145) #[] #[], .func (.func 146) #[] #[.pointer (some ⟨cap, 0, none⟩)], .int .i64 2, .func (.func 149) #[.pointer (some ⟨b, 0, none⟩)] #[], .func (.func 150) #[] #[.pointer (some ⟨cap, 0, none⟩)], .func (.func 152) #[.pointer (some ⟨b, 0, none⟩)] #[]] 192
theorem iW.below {W W' : World} {b g cap : Nat} (h : iW W b g cap) (hb : Below W.heap.size W W') : iW W' b g cap := ⟨h.c.below hb, h.r.below hb⟩
theorem iW.kept {W W' : World} {B b g cap : Nat} (h : iW W b g cap) (hb : eX B W W') : iW W' b g cap := ⟨hb.box h.c (by decide), hb.box h.r (by decide)⟩
theorem zGp (b : Nat) (w : World) : Calls Tryz.prog 107 #[.pointer (some ⟨b, 0, none⟩)] w fun e w' => ∃ g cap, e = .returned (.slice (some ⟨g, 0, none⟩) 2 2) ∧ iW w' b g cap ∧ Below w.heap.size w w' := by
 have eC := (aj w.heap.size w).alloc (ai _) (.cells #[.pointer (some ⟨b, 0, none⟩)] 143);have HC := zh (dQ.new w #[.pointer (some ⟨b, 0, none⟩)] 143);have HB := zh eC;clear eC;generalize ZN : w.heap.size = cap at *;have Ej := zh ZN;clear ZN
 go_enter Tryz.func107, Tryz.ntmps107
 go_upto_region 1 with fail
 try rw [Ej.out]
 generalize w.alloc (.cells #[.pointer (some ⟨b, 0, none⟩)] 143) = w1 at *;have c0 := HC.out.cell (i := 0) rfl;have S9 : cap < w1.heap.size := HC.out.lt
 go_cut [3] (fun v wx => v = .pointer (some ⟨w1.heap.size, 0, none⟩) ∧ wx = w1.alloc (.cells #[.int .i64 1, .func (.func 144) #[.pointer (some ⟨b, 0, none⟩)] #[], .func (.func 145) #[] #[], .func (.func 146) #[] #[.pointer (some ⟨cap, 0, none⟩)]] 192))
 case first =>
  go_wp2_with fail;go_meet
  case rel => exact ⟨rfl, rfl⟩
 obtain ⟨rfl, rfl⟩ := fZ;have ez := (aj w1.heap.size w1).alloc (ai _) (.cells #[.int .i64 1, .func (.func 144) #[.pointer (some ⟨b, 0, none⟩)] #[], .func (.func 145) #[] #[], .func (.func 146) #[] #[.pointer (some ⟨cap, 0, none⟩)]] 192);have ZO := zh (dQ.new w1 #[.int .i64 1, .func (.func 144) #[.pointer (some ⟨b, 0, none⟩)] #[], .func (.func 145) #[] #[], .func (.func 146) #[] #[.pointer (some ⟨cap, 0, none⟩)]] 192);have Ar := zh (HC.out.below ez);have eN := zh (HB.out.trans (ez.mono (bN S9)));clear ez c0;generalize hg1 : w1.heap.size = g1 at *;have pR := zh hg1;clear hg1;generalize w1.alloc (.cells #[.int .i64 1, .func (.func 144) #[.pointer (some ⟨b, 0, none⟩)] #[], .func (.func 145) #[] #[], .func (.func 146) #[] #[.pointer (some ⟨cap, 0, none⟩)]] 192) = w2 at *;have c0 := Ar.out.cell (i := 0) rfl;have MD : cap < w2.heap.size := Ar.out.lt;have ZP : g1 < w2.heap.size := ZO.out.lt
 go_upto_region 2 with fail
 go_cut [4] (fun v wx => v = .pointer (some ⟨w2.heap.size, 0, none⟩) ∧ wx = w2.alloc (.cells #[.int .i64 2, .func (.func 149) #[.pointer (some ⟨b, 0, none⟩)] #[], .func (.func 150) #[] #[.pointer (some ⟨cap, 0, none⟩)], .func (.func 152) #[.pointer (some ⟨b, 0, none⟩)] #[]] 192))
 case first =>
  go_wp2_with fail;go_meet
  case rel => exact ⟨rfl, rfl⟩
 obtain ⟨rfl, rfl⟩ := fZ;have eU := (aj w2.heap.size w2).alloc (ai _) (.cells #[.int .i64 2, .func (.func 149) #[.pointer (some ⟨b, 0, none⟩)] #[], .func (.func 150) #[] #[.pointer (some ⟨cap, 0, none⟩)], .func (.func 152) #[.pointer (some ⟨b, 0, none⟩)] #[]] 192);have gN := zh (dQ.new w2 #[.int .i64 2, .func (.func 149) #[.pointer (some ⟨b, 0, none⟩)] #[], .func (.func 150) #[] #[.pointer (some ⟨cap, 0, none⟩)], .func (.func 152) #[.pointer (some ⟨b, 0, none⟩)] #[]] 192);have IV := zh (ZO.out.below eU);have ZQ := zh (Ar.out.below eU);have fS := zh (eN.out.trans (eU.mono (bN MD)));clear eU c0;generalize hg2 : w2.heap.size = g2 at *;clear hg2;generalize w2.alloc (.cells #[.int .i64 2, .func (.func 149) #[.pointer (some ⟨b, 0, none⟩)] #[], .func (.func 150) #[] #[.pointer (some ⟨cap, 0, none⟩)], .func (.func 152) #[.pointer (some ⟨b, 0, none⟩)] #[]] 192) = w3 at *
 have y0 := IV.out.cell (i := 0) rfl;have y1 := IV.out.cell (i := 1) rfl;have y2 := IV.out.cell (i := 2) rfl;have y3 := IV.out.cell (i := 3) rfl;have z0 := gN.out.cell (i := 0) rfl;have z1 := gN.out.cell (i := 1) rfl;have z2 := gN.out.cell (i := 2) rfl;have z3 := gN.out.cell (i := 3) rfl;have ME : cap < w3.heap.size := ZQ.out.lt;go_wp2_with fail;go_ret;have hb4 := (aj w3.heap.size w3).alloc (ai _) (.cells #[.int .i64 1, .func (.func 144) #[.pointer (some ⟨b, 0, none⟩)] #[], .func (.func 145) #[] #[], .func (.func 146) #[] #[.pointer (some ⟨cap, 0, none⟩)], .int .i64 2, .func (.func 149) #[.pointer (some ⟨b, 0, none⟩)] #[], .func (.func 150) #[] #[.pointer (some ⟨cap, 0, none⟩)], .func (.func 152) #[.pointer (some ⟨b, 0, none⟩)] #[]] 192)
 refine ⟨w3.heap.size, cap, rfl, ⟨ZQ.out.below hb4, dQ.new w3 #[.int .i64 1, .func (.func 144) #[.pointer (some ⟨b, 0, none⟩)] #[], .func (.func 145) #[] #[], .func (.func 146) #[] #[.pointer (some ⟨cap, 0, none⟩)], .int .i64 2, .func (.func 149) #[.pointer (some ⟨b, 0, none⟩)] #[], .func (.func 150) #[] #[.pointer (some ⟨cap, 0, none⟩)], .func (.func 152) #[.pointer (some ⟨b, 0, none⟩)] #[]] 192⟩, fS.out.trans (hb4.mono (bN ME))⟩
end Go.Proofs.YtcgfilmmokmdjaaGreat
namespace Go.Proofs.YtcgfilmmokmdjaaGreat
open Go.RowKit
section
variable {P : fg} {q : Rq}
theorem qm (h : P.res.length = 16) : zT P q = (false, P) := by unfold zT; rw [ag h]
theorem S_ (h : ¬ P.res.length = 16) (h1 : q.kind = 1) (h2 : zy P.t q = 9) (h3 : xe P.t = true) : zT P q = (false, { P with ep := decide (P.res.length = 0) }) := by
 unfold zT; rw [ah h, ag h1, ag ⟨h2, h3⟩]
theorem vN (h : ¬ P.res.length = 16) (h1 : q.kind = 1) (h2 : ¬ (zy P.t q = 9 ∧ xe P.t = true)) (h3 : ¬ zy P.t q = 0) : zT P q = (true, more P (zy P.t q)) := by
 unfold zT; rw [ah h, ag h1, ah h2, ah h3]
theorem qi (h : ¬ P.res.length = 16) (h1 : q.kind = 1) (h3 : zy P.t q = 0) (h4 : 0 < P.bytes ∧ 16384 < P.bytes + (eG q.data.length : Int)) : zT P q = (false, P) := by
 unfold zT; rw [ah h, ag h1, ah (fun h => by have := h.1; omega), ag h3, ag h4]
theorem uT (h : ¬ P.res.length = 16) (h1 : q.kind = 1) (h3 : zy P.t q = 0) (h4 : ¬ (0 < P.bytes ∧ 16384 < P.bytes + (eG q.data.length : Int))) : zT P q = (true, more (vH P (uy q)) 0) := by
 unfold zT; rw [ah h, ag h1, ah (fun h => by have := h.1; omega), ag h3, ah h4]
theorem tQ : xI P.t q = 0 ∨ xI P.t q = 6 := by unfold xI; split <;> simp
theorem zB5 : zy P.t q = 0 ∨ zy P.t q = 8 ∨ zy P.t q = 9 := by
 unfold zy
 split
 ·
  simp
 split <;> simp
theorem zEx (h : zy P.t q = 0) : q.data.length ≤ 4096 := by
 unfold zy at h
 split at h
 ·
  cases h
 omega
theorem vX (h : ¬ P.res.length = 16) (h1 : q.kind = 2) (h3 : xI P.t q = 6) : zT P q = (true, more P 6) := by
 unfold zT; rw [ah h, ah (by omega), ag h1, ah (by omega)]
theorem qp (h : ¬ P.res.length = 16) (h1 : q.kind = 2) (h3 : xI P.t q = 0) (h4 : vI P.t q.key = true ∧ 0 < P.bytes ∧ 16384 < P.bytes + 24) : zT P q = (false, P) := by
 unfold zT; rw [ah h, ah (by omega), ag h1, ag h3, ag h4]
theorem vM (h : ¬ P.res.length = 16) (h1 : q.kind = 2) (h3 : xI P.t q = 0) (h4 : ¬ (vI P.t q.key = true ∧ 0 < P.bytes ∧ 16384 < P.bytes + 24)) : zT P q = (true, more (yZ P q) 0) := by
 unfold zT; rw [ah h, ah (by omega), ag h1, ag h3, ah h4]
theorem vp (h : ¬ P.res.length = 16) (h1 : ¬ q.kind = 1) (h2 : ¬ q.kind = 2) : zT P q = (true, more P 1) := by
 unfold zT; rw [ah h, ah h1, ah h2]
end
theorem zKr (s : eE) (a : Option Addr) (n c : Nat) (L : List GP) (W : World) (hr : fl W (.slice a n c) L) (hg : dV L = s.dP) (hl : eV 1000 s.dP) :
  Calls Tryz.prog 35 #[zZ s.id s.lim s.ro a n c] W fun e w' => e = .returned (.bool (xe s)) ∧ Below W.heap.size W w' := by
 have h := qY s.id s.lim s.ro a n c L W hr (wm (hg ▸ hl) (by decide));obtain ⟨i, l, r, g⟩ := s;dsimp only at hg h ⊢;subst hg;exact h
theorem zLR : xj Tryz.prog 69 39 1 8 := by
 obtain ⟨i, hi, hz, hs, hb⟩ := cn (P := Tryz.prog) (e := 39) (z := .int .i64 0) (size := 1) (bytes := 8) (by kernel_rfl);exact ⟨Tryz.underlying69, by decide, i, _, hi, hz, hs, hb, rfl⟩
theorem zLt (i l : Int) (r : Bool) (ga : Option Addr) (gn gc : Nat) (ep : Bool) (kv nv rv : Value) (l9 : Int) (u : Value) : (tZ i l r ga gn gc ep kv nv rv l9).setIfInBounds 8 u = tZ i l r ga gn gc ep kv nv u l9 := by
 simp only [aP, aQ, aN]
theorem zLW (i l : Int) (r : Bool) (ga : Option Addr) (gn gc : Nat) (ep : Bool) (kv nv rv : Value) (l9 : Int) (z : Bool) : (tZ i l r ga gn gc ep kv nv rv l9).setIfInBounds 4 (.bool z) = tZ i l r ga gn gc z kv nv rv l9 := by
 simp only [aP, aQ, aN]
theorem lD.res {W W1 : World} {B : Nat} {P : fg} {ga : Option Addr} {gn gc : Nat} {L : List GP} {kv : Value} {ks : List KP} {nv : Value} {es : List (Nd × Value)} {rv O4 : Value} (h : lD W B P ga gn gc L kv ks nv es rv) (e : Int)
  (hg : W.grownBy W1 rv.ownBlock) (ho : W1.ownsRow B 39 1 O4 (P.res.length + 1) (P.res.map Dw ++ [.int .i64 e])) : lD W1 B (more P e) ga gn gc L kv ks nv es O4 ∧ gC W W1 B 39 := by
 have hO : gC W W1 B 39 := gC.row h.r hg (ai _);refine ⟨⟨h.g.gl hO (by decide) (by decide), h.gg, h.k.gl hO (by decide) (by decide), h.kk, h.n.gl hO (by decide) (by decide), h.nn, ?_⟩, hO⟩
 show W1.ownsRow B _ 1 O4 (P.res ++ [e]).length ((P.res ++ [e]).map Dw)
 rw [aA, bW]; exact ho
end Go.Proofs.YtcgfilmmokmdjaaGreat
namespace Go.Proofs.YtcgfilmmokmdjaaGreat
structure lL (K G n : Nat) (P : fg) : Prop where
 l : eV (K + n) P.t.dP
 k : nQ (8 * n) P.ei
 g : P.t.dP.length ≤ G
 b : 0 ≤ P.bytes ∧ P.bytes ≤ 5000 * (n : Int)
 e : P.needs.length ≤ n
theorem lL.mono {K G n m : Nat} {P : fg} (h : lL K G n P) (hm : n ≤ m) : lL K G m P := ⟨h.l.mono (by omega), h.k.mono (by omega), h.g, ⟨h.b.1, by have := h.b.2; omega⟩, ak h.e hm⟩
theorem ZR {K n m : Nat} {G : Nat} {P : fg} {x : Nd} (hl : eV (K + n) P.t.dP) (hk : nQ (8 * m) P.ei) (hg : P.t.dP.length ≤ G) (hb : 0 ≤ P.bytes ∧ P.bytes ≤ 5000 * (n : Int)) (he : P.needs.length ≤ n) (hm : m ≤ n + 1) : lL K G (n + 1) (vH P x) := by
 have hs := xx x.data.length;refine ⟨?_, hk.mono (by omega), ak (Zw _ _) hg, ⟨?_, ?_⟩, ?_⟩
 ·
  have := k8 (s := P.t) (g := (yt (uG P.t).2 [x]).2) (K := K + n + 1) (hl.mono (by omega)) (fun i hi => qJ (Sv hl) i hi);exact this
 ·
  show 0 ≤ P.bytes + (eG x.data.length : Int)
  have := hb.1; omega
 ·
  show P.bytes + (eG x.data.length : Int) ≤ 5000 * ((n + 1 : Nat) : Int)
  have := hb.2; omega
 show (P.needs ++ [x]).length ≤ n + 1
 rw [aA]; exact Nat.succ_le_succ he
theorem ZS {K M : Nat} {key : Int} : ∀ (l : List Int) (P : fg), eV K P.t.dP → nQ M P.ei → (∀ x ∈ l, 1 ≤ x ∧ x ≤ 8) → eV K (l.foldl (xS key) P).t.dP ∧ nQ (M + l.length) (l.foldl (xS key) P).ei ∧ (l.foldl (xS key) P).t.dP.length ≤ P.t.dP.length
 | [], P, h1, h2, _ => ⟨h1, h2, ai _⟩
 | x :: r, P, h1, h2, h3 => by
  obtain ⟨g1, g2, g3⟩ := ZS (M := M + 1) r (xS key P x) (uu h1) (h2.ins (h3 x (by simp)) key) (fun y hy => h3 y (by simp [hy]));refine ⟨g1, ?_, ak g3 (SU _ _ _)⟩;have e : M + (x :: r).length = M + 1 + r.length := by rw [aY]; omega
  rw [e]; exact g2
theorem zHM {K G n : Nat} {P : fg} {q : Rq} (h : lL K G n P) : lL K G (n + 1) (yZ P q) := by
 obtain ⟨g1, g2, g3⟩ := ZS (key := q.key) (zk P.t q.key) P h.l h.k (fun x hx => qk hx);have h8 := YX P.t q.key;obtain ⟨r1, r2, r3, r4⟩ := yl P q.key;have hk : nQ (8 * (n + 1)) (yW P q.key).ei := nQ.mono g2 (by omega);unfold yZ
 split
 ·
  exact ZR (m := n + 1) (n := n) g1 hk (ak g3 h.g) (by rw [r3]; exact h.b) (by rw [r2]; exact h.e) (ai _)
 exact ⟨eV.mono g1 (by omega), hk, ak g3 h.g, by rw [r3]; exact ⟨h.b.1, by have := h.b.2; omega⟩, by rw [r2]; exact Nat.le_succ_of_le h.e⟩
theorem zIZ {K G n : Nat} {P : fg} {e : Int} (h : lL K G n P) : lL K G n (more P e) := ⟨h.l, h.k, h.g, h.b, h.e⟩
theorem Ta (P : fg) (e : Int) : (more P e).res.length = P.res.length + 1 := by unfold more; simp
theorem uS (P : fg) (q : Rq) : (yZ P q).res = P.res := by
 unfold yZ
 split
 ·
  rw [R4]; exact (yl P q.key).1
 exact (yl P q.key).1
theorem ZT {K G : Nat} {P : fg} {q : Rq} (h : lL K G P.res.length P) : lL K G (zT P q).2.res.length (zT P q).2 := by
 have hm : ∀ (Q : fg) (e : Int), Q.res.length = P.res.length → lL K G (P.res.length + 1) Q → lL K G (more Q e).res.length (more Q e) := fun Q e hq h => by
  rw [Ta, hq]; exact zIZ h
 unfold zT
 split
 ·
  exact h
 split
 ·
  split
  ·
   exact ⟨h.l, h.k, h.g, h.b, h.e⟩
  split
  ·
   split
   ·
    exact h
   exact hm _ _ rfl (ZR (m := P.res.length) (n := P.res.length) h.l h.k h.g h.b h.e (by omega))
  exact hm _ _ rfl (h.mono (by omega))
 split
 ·
  split
  ·
   split
   ·
    exact h
   exact hm _ _ (by rw [uS]) (zHM h)
  exact hm _ _ rfl (h.mono (by omega))
 exact hm _ _ rfl (h.mono (by omega))
/-! ### X8 many items a generation may have -/
theorem k4 (M : Mp) (k : Int) : fD (zI M) k = ze M k := by
 have h := vO M k
 rwa [yK (yV M)] at h
theorem zHz {M : Mp} (h : fK M) {x : It} (hx : x ∈ zI M) : nk x := by
 have h1 := (xW h).1 hx;rw [xZ h] at h1;exact (uP.1 (h.ok _ (wS _))).2 x (wV h1).1
theorem ZU : ∀ l : List It, (∀ x ∈ l, nk x) → 24 * l.length ≤ zv l
 | [], _ => au _
 | x :: r, h => by
  have ih := ZU r fun y hy => h y (by simp [hy])
  obtain ⟨_, _, _, h4, h5⟩ := h x (by simp);have h6 : eG x.size.toNat = oO x.size.toNat := Kq (by omega);have h7 := un x.size.toNat
  show 24 * (r.length + 1) ≤ eG x.size.toNat + zv r
  omega
theorem zKe {g : Gn} (h : ja g) : (((zI g.m).length * 24 : Nat) : Int) ≤ g.size - 16 := by
 have hm := (zV _).1 h.m;have h1 := ZU (zI g.m) fun x hx => zHz hm hx
 have h2 : zv (zI g.m) = zv (vA g.m) := by
  unfold zI; rw [ag h.m]; exact hm.sum
 have h3 := hm.lv;have h4 := hm.g0;have h5 := h.sum;omega
theorem ZV : ∀ {l : List It} {k : Int}, fD l k ≠ none → (gd l k).length + 1 ≤ l.length
 | [], k, h => absurd rfl h
 | x :: r, k, h => by
  by_cases e : x.key = k
  ·
   have h1 : gd (x :: r) k = gd r k := by unfold gd; rw [cu, ah (by simpa using e)]
   have h2 := uZ r k;rw [h1, aY]; omega
  have h1 : gd (x :: r) k = x :: gd r k := by unfold gd; rw [cu, ag (by simpa using e)]
  rw [zl, ah e] at h;have h2 := ZV h;rw [h1, aY, aY]; omega
theorem zHs {M : Mp} (h : fK M) {k : Int} (hr : M.dR + (gR (ze M k) : Int) ≤ 1099511627776) : zI (yJ M k) = gd (zI M) k := by
 refine qB _ _ (qU (yV _)) ((qU (yV _)).filter _) fun j => ?_
 rw [k4, kR h hr, PZ, k4]
 by_cases e : j = k
 ·
  rw [ag e, ag e.symm]
 rw [ah e, ah fun h => e h.symm]
theorem zDh {M : Mp} (h : fK M) {n : Int} (h0 : 0 ≤ n) (hr : M.dR + n ≤ 1099511627776) : zI (xA M n) = zI M := by
 unfold zI;rw [ag ((zV _).2 (h.Df h0 hr)), ag ((zV _).2 h)];unfold vA;rw [uI]
/-! ### A record more -/
def qw (S : eE) (x : Nd) : Prop := x.ok ∧ ((x.del = false ∧ (zS S).size + (eG x.data.length : Int) ≤ S.lim) ∨ (x.del = true ∧ ze (zS S).m x.key ≠ none))
theorem ZW {S : eE} (h : ec S) {x : Nd} (hc : qw S x) :
  yt (zS S) [x] = (0, yT (zS S) x) ∧ Fit S (S.dP.length - 1) (yT (zS S) x) := by
 obtain ⟨hx, hc⟩ := hc;obtain ⟨hv, hm, hz⟩ := h.sS;have hlen := h.len;have hlim := h.lim;have MG : (zS S).size + (((zI (zS S).m).length * 24 : Nat) : Int) ≤ 2 * S.lim := h.top;have Tb := (zV _).1 hv.m;have hsz : (zS S).size + (eG x.data.length : Int) ≤ 2 * S.lim := by
  rcases hc with ⟨_, h1⟩ | ⟨h1, h2⟩
  ·
   omega
  have h3 := hx.2 h1;have h4 : 1 ≤ (zI (zS S).m).length := by
   rw [← k4] at h2
   cases e : zI (zS S).m with
   | nil => rw [e] at h2; exact absurd rfl h2
   | cons y r => rw [aY]; omega
  have h5 : eG x.data.length = 24 := by rw [h3]; decide
  omega
 have gV : (zS S).size + (eG x.data.length : Int) ≤ 1048576 := by omega
 have D5 : (zS S).size + (g_ [x] : Int) ≤ 1048576 := by rw [wu, WO]; omega
 have hg := zE5 hv hx gV;refine ⟨XC hv hm (l := [x]) (fun y hy => by obtain rfl := List.mem_singleton.1 hy; exact hx) D5, by omega, hg, (WQ _ _).1, ?_, ?_, fun _ => ?_⟩
 ·
  rw [(WQ _ _).2.2, hm]; exact ⟨fun _ => by omega, fun _ => rfl⟩
 ·
  rw [uA]; exact hsz
 rcases hc with ⟨_, h1⟩ | ⟨h1, h2⟩
 ·
  have h3 := zKe hg;rw [uA] at h3 ⊢;omega
 have h5 : eG x.data.length = 24 := by rw [hx.2 h1]; decide
 have hr := hv.room x.key;have hd := Tb.del hr;have hds := qy Tb hr;have iw := hd.Bh;have La := hv.small;have e : zI (yT (zS S) x).m = gd (zI (zS S).m) x.key := by
  unfold yT;dsimp only;rw [ag h1, zDh hd (by omega) (by omega), zHs Tb hr]
 have h6 := ZV (l := zI (zS S).m) (k := x.key) (by rw [k4]; exact h2);rw [e, uA, h5];omega
/-! ### mC a fL slot keeps -/
structure Kp (S s : eE) : Prop where
 v : ec s
 id : s.id = S.id
 lim : s.lim = S.lim
 ro : s.ro = S.ro
 len : s.dP.length = S.dP.length
 num : ∀ r, r < S.dP.length → (eH s.dP r).num = (eH S.dP r).num
theorem Kp.refl {S : eE} (h : ec S) : Kp S S := ⟨h, rfl, rfl, rfl, rfl, fun _ _ => rfl⟩
theorem Kp.set {S s : eE} (h : Kp S s) {j : Nat} {g : Gn} (hf : Fit s j g) : Kp S (uF s j g) := by
 refine ⟨X3 h.v hf, h.id, h.lim, h.ro, ?_, fun r hr => ?_⟩
 ·
  show (s.dP.set j g).length = _
  rw [bd]; exact h.len
 show (eH (s.dP.set j g) r).num = _
 rw [vF hf.hj]
 by_cases e : r = j
 ·
  rw [ag e, hf.n, ← e]; exact h.num r hr
 rw [ah e]; exact h.num r hr
theorem Kp.trans {S s t : eE} (h : Kp S s) (h' : Kp s t) : Kp S t := ⟨h'.v, h'.id.trans h.id, h'.lim.trans h.lim, h'.ro.trans h.ro, h'.len.trans h.len, fun r hr => (h'.num r (by rw [h.len]; exact hr)).trans (h.num r hr)⟩
theorem Tc {S : eE} (h : ec S) : xe S = decide ((zS S).num < 8) := by unfold xe; rw [(zR S).2 h, cE]
theorem Kp.can {S s : eE} (hS : ec S) (h : Kp S s) : xe s = xe S := by
 have hlen := hS.len;rw [Tc h.v, Tc hS];have e : (zS s).num = (zS S).num := by
  unfold zS;rw [h.len];exact h.num _ (by omega)
 rw [e]
theorem ZX {s : eE} (h : ec s) (g : Gn) : zS (uF s (s.dP.length - 1) g) = g := by
 have hlen := h.len;unfold zS uF;dsimp only;rw [bd, vF (by omega), ag rfl]
theorem Td {s : eE} {r : Nat} (hr : r + 1 < s.dP.length) (g : Gn) : zS (uF s r g) = zS s := by
 unfold zS uF;dsimp only;rw [bd, vF (by omega), ah (by omega)]
theorem Te {P : fg} (h : ec P.t) {x : Nd} (hc : qw P.t x) : (vH P x).t = uF P.t (P.t.dP.length - 1) (yT (zS P.t) x) := by
 obtain ⟨h1, h2⟩ := ZW h hc
 show (yb P.t (yt (uG P.t).2 [x]).2).1 = _
 rw [X6 h];dsimp only;rw [h1, Ot h h2]
theorem ZY {s : eE} (h : ec s) {r : Nat} (hr : r < s.dP.length) : kP s.dP (eH s.dP r).num = r :=
 Y8 hr rfl fun j hj => h.rJ (by omega) hr (by omega)
theorem ZZ {s : eE} (h : ec s) {r : Nat} (hr : r + 1 < s.dP.length) (key : Int) : yX s (eH s.dP r).num [key] = (uF s r (F5 (eH s.dP r) key), 0) := by
 have hm : (eH s.dP r).mode ≠ 1 := fun e => by have := (h.g r (by omega)).2.2.1.1 e; omega
 unfold yX;rw [ZY h (by omega), ag (by omega), zHL (h.vg (by omega)) hm, ag rfl, Ot h (fit_drop h hr key)]
theorem Z5 {S : eE} {key : Int} : ∀ (l : List Int) (P : fg), Kp S P.t → zS P.t = zS S → (∀ x ∈ l, ∃ r, r + 1 < S.dP.length ∧ x = (eH S.dP r).num) → Kp S (l.foldl (xS key) P).t ∧ zS (l.foldl (xS key) P).t = zS S
 | [], P, h, ht, _ => ⟨h, ht⟩
 | x :: l, P, h, ht, hl => by
  obtain ⟨r, hr, e⟩ := hl x (by simp);have rV : r + 1 < P.t.dP.length := by rw [h.len]; exact hr
  have e2 : (xS key P x).t = uF P.t r (F5 (eH P.t.dP r) key) := by
   show (yX P.t x [key]).1 = _
   rw [e, ← h.num r (by omega), ZZ h.v rV]
  refine Z5 l (xS key P x) (by rw [e2]; exact h.set (fit_drop h.v rV key)) (by rw [e2, Td rV]; exact ht) fun y hy => hl y (by simp [hy])
theorem Z6 {s : eE} (h : ec s) {key x : Int} (hx : x ∈ zk s key) : ∃ r, r + 1 < s.dP.length ∧ x = (eH s.dP r).num := by
 rw [X5 h] at hx;obtain ⟨i, hi, e⟩ := b_ hx;obtain ⟨r, h1, h2, _, _⟩ := R1 s.dP key _ i hi;rw [aB hi] at h2;exact ⟨r, by omega, by rw [← e]; exact Option.some.inj h2⟩
theorem Z7 {P : fg} (h : ec P.t) (key : Int) : Kp P.t (yW P key).t ∧ zS (yW P key).t = zS P.t :=
 Z5 _ P (Kp.refl h) rfl fun _ hx => Z6 h hx
theorem tX {t : eE} (h : ec t) (key : Int) : vI t key = true ↔ ze (zS t).m key ≠ none := by
 have hlen := h.len;obtain ⟨_, hm, _⟩ := h.sS;unfold vI;rw [R2 h, R3 h]
 cases hx : ze (zS t).m key with
 | some y => simp [hm]
 | none =>
  refine ⟨fun hb => ?_, fun h => absurd rfl h⟩
  exfalso
  simp only [bU, aM, Bool.not_eq_true', aU] at hb;obtain ⟨h1, h2⟩ := hb
  cases e : xu t.dP key (t.dP.length - 1) with
  | nil => rw [e] at h1; cases h1
  | cons x r =>
   rw [e] at h2;obtain ⟨g1, g2, _⟩ := X4 e;have h2 : x.mode = 1 := h2;rw [g2] at h2;have := (h.g x.at_ (by omega)).2.2.1.1 h2;omega
theorem zIQ {t : eE} (h : ec t) {n : Int} (hf : wW t n = true) : (zS t).size + (eG n.toNat : Int) ≤ t.lim := by
 unfold wW at hf;simp only [aM, aU] at hf;exact hf.2
theorem kq {t : eE} (h : ec t) {q : Rq} (hc : zy t q = 0) : qw t (uy q) := by
 unfold zy at hc
 split at hc
 ·
  cases hc
 rename_i hl
 split at hc
 ·
  rename_i hf;have := zIQ h hf;rw [Int.toNat_natCast] at this;exact ⟨⟨by show q.data.length ≤ 4096; omega, fun e => (by cases e)⟩, .inl ⟨rfl, this⟩⟩
 cases hc
theorem Z8 {t : eE} {q : Rq} (hc : ze (zS t).m q.key ≠ none) : qw t (Ds q) := ⟨⟨au _, fun _ => rfl⟩, .inr ⟨rfl, hc⟩⟩
theorem O5 {P : fg} (h : ec P.t) {x : Nd} (hc : qw P.t x) : Kp P.t (vH P x).t := by
 rw [Te h hc]; exact (Kp.refl h).set (ZW h hc).2
theorem zIe {P : fg} (h : ec P.t) (q : Rq) : Kp P.t (yZ P q).t := by
 obtain ⟨h1, h2⟩ := Z7 h (q.key : Int);unfold yZ
 split
 ·
  rename_i hb;exact h1.trans (O5 h1.v (Z8 ((tX h1.v _).1 hb)))
 exact h1
theorem Tf {P : fg} (h : ec P.t) (q : Rq) : Kp P.t (zT P q).2.t := by
 unfold zT
 split
 ·
  exact Kp.refl h
 split
 ·
  split
  ·
   exact Kp.refl h
  split
  ·
   rename_i hc
   split
   ·
    exact Kp.refl h
   exact O5 (P := P) h (kq h hc)
  exact Kp.refl h
 split
 ·
  split
  ·
   split
   ·
    exact Kp.refl h
   exact zIe h q
  exact Kp.refl h
 exact Kp.refl h
/-! ### The bytes of a plan -/
structure A4 (P : fg) : Prop where
 b : P.bytes = (g_ P.needs : Int)
 m : P.needs.length ≤ 1 ∨ g_ P.needs ≤ 16384
 ok : ∀ x ∈ P.needs, x.ok
theorem zKG {l : List Nd} (h : ∀ x ∈ l, x.ok) : 24 * l.length ≤ g_ l := by
 induction l with
 | nil => exact au _
 | cons x r ih =>
  have h1 := ih fun y hy => h y (by simp [hy])
  have h2 := h x (by simp);have h3 : eG x.data.length = oO x.data.length := Kq h2.1;have h4 := un x.data.length;rw [wu, aY]; omega
theorem A4.add {P : fg} (h : A4 P) {x : Nd} (hx : x.ok) (hb : ¬ (0 < P.bytes ∧ 16384 < P.bytes + (eG x.data.length : Int))) : A4 (vH P x) := by
 have hp := zKG h.ok;have hB := h.b;have e : g_ (P.needs ++ [x]) = g_ P.needs + eG x.data.length := kY _ _;refine ⟨?_, ?_, fun y hy => ?_⟩
 ·
  show P.bytes + (eG x.data.length : Int) = (g_ (P.needs ++ [x]) : Int)
  rw [e]; omega
 ·
  show (P.needs ++ [x]).length ≤ 1 ∨ g_ (P.needs ++ [x]) ≤ 16384
  rw [e, aA]
  by_cases h0 : P.needs.length = 0
  ·
   left; rw [h0]; simp
  right; omega
 rcases List.mem_append.1 (show y ∈ P.needs ++ [x] from hy) with hy | hy
 ·
  exact h.ok y hy
 obtain rfl := List.mem_singleton.1 hy; exact hx
theorem A4.ei {P : fg} (h : A4 P) (key : Int) : A4 (yW P key) := by
 obtain ⟨_, h2, h3, _⟩ := yl P key;exact ⟨by rw [h2, h3]; exact h.b, by rw [h2]; exact h.m, by rw [h2]; exact h.ok⟩
theorem zFQ {P : fg} (h : ec P.t) (key : Int) : vI (yW P key).t key = vI P.t key := by
 obtain ⟨h1, h2⟩ := Z7 h key;rw [dh, tX h1.v, tX h, h2]
theorem zHu {P : fg} (hv : ec P.t) (h : A4 P) (q : Rq) : A4 (zT P q).2 := by
 unfold zT
 split
 ·
  exact h
 split
 ·
  split
  ·
   exact ⟨h.b, h.m, h.ok⟩
  split
  ·
   rename_i hc
   split
   ·
    exact h
   rename_i hb;have := A4.add h (kq hv hc).1 hb;exact ⟨this.b, this.m, this.ok⟩
  exact ⟨h.b, h.m, h.ok⟩
 split
 ·
  split
  ·
   split
   ·
    exact h
   rename_i hb;have hk := h.ei q.key;obtain ⟨_, _, h3, _⟩ := yl P q.key;unfold yZ
   split
   ·
    rename_i ht;rw [zFQ hv] at ht
    have := A4.add hk (x := Ds q) ⟨au _, fun _ => rfl⟩ (by
     rw [h3, show eG (Ds q).data.length = 24 from (by show eG 0 = 24; decide)]
     exact fun e => hb ⟨ht, e.1, e.2⟩)
    exact ⟨this.b, this.m, this.ok⟩
   exact ⟨hk.b, hk.m, hk.ok⟩
  exact ⟨h.b, h.m, h.ok⟩
 exact ⟨h.b, h.m, h.ok⟩
/-! ### The Tg -/
def yy (l : List Rq) (i : Nat) : Rq := l.getD i JV
def uC (l : List Int) (i : Nat) : Int := l.getD i 0
structure z_ (S : eE) (l : List Rq) (P : fg) : Prop where
 kp : Kp S P.t
 b : A4 P
 n : P.res.length ≤ l.length
 m : P.res.length ≤ 16
 r0 : P.ep = false
 r : ∀ i, i < P.res.length → (uC P.res i = 9 → xe S = false) ∧ (uC P.res i = 8 → 4096 < (yy l i).data.length)
theorem zJ1 {l : List Int} {i : Nat} (h : i < l.length) (e : Int) : uC (l ++ [e]) i = uC l i := by
 unfold uC; rw [ax, ax, dK h]
theorem zJh (l : List Int) (e : Int) : uC (l ++ [e]) l.length = e := by
 unfold uC; rw [ax, dz (ai _)]; simp
theorem z_.more {S : eE} {l : List Rq} {P Q : fg} (h : z_ S l P) (hk : Kp S Q.t) (hb : A4 Q) (hr : Q.res = P.res) (h0 : Q.ep = false) (hn : P.res.length < l.length) (jf : ¬ P.res.length = 16) (e : Int)
  (h9 : e = 9 → xe S = false) (h8 : e = 8 → 4096 < (yy l P.res.length).data.length) : z_ S l (more Q e) := by
 have hl : (Go.Proofs.YtcgfilmmokmdjaaGreat.more Q e).res.length = P.res.length + 1 := by rw [Ta, hr]
 have hm := h.m;refine ⟨hk, ⟨hb.b, hb.m, hb.ok⟩, by omega, by omega, h0, fun i hi => ?_⟩
 show (uC (Q.res ++ [e]) i = 9 → _) ∧ _
 rw [hr];rw [hl] at hi
 by_cases hil : i < P.res.length
 ·
  have e2 := zJ1 hil e;refine ⟨fun he => (h.r i hil).1 (by rw [← e2]; exact he), fun he => (h.r i hil).2 ?_⟩;have he : uC (Q.res ++ [e]) i = 8 := he;rw [hr, e2] at he; exact he
 obtain rfl : i = P.res.length := by omega
 have e2 := zJh P.res e;refine ⟨fun he => h9 (by rw [← e2]; exact he), fun he => h8 ?_⟩;have he : uC (Q.res ++ [e]) P.res.length = 8 := he;rw [hr, e2] at he; exact he
structure MH (S : eE) (l : List Rq) (P : fg) : Prop where
 kp : Kp S P.t
 b : A4 P
 n : P.res.length ≤ l.length
 m : P.res.length ≤ 16
 r : ∀ i, i < P.res.length → (uC P.res i = 9 → xe S = false) ∧ (uC P.res i = 8 → 4096 < (yy l i).data.length)
 t : 0 < l.length → P.res.length = 0 → P.ep = true ∧ xe S = true ∧ (yy l 0).kind = 1 ∧ wW S ((yy l 0).data.length : Int) = false
 rr : P.ep = true → P.res.length = 0
theorem z_.stop {S : eE} {l : List Rq} {P : fg} (h : z_ S l P) (hp : P.res.length = 0 → l.length = 0) : MH S l P :=
 ⟨h.kp, h.b, h.n, h.m, h.r, fun h1 h2 => by have := hp h2; omega, fun e => by rw [h.r0] at e; cases e⟩
theorem A4.zero {P : fg} (h : A4 P) (hn : P.needs.length = 0) : P.bytes = 0 := by
 have := h.b;rw [List.length_eq_zero_iff.1 hn] at this;exact this
theorem zHX {S : eE} (hS : ec S) {l : List Rq} {P : fg} (h : z_ S l P) (hn : P.res.length < l.length) (hd : P.needs.length ≤ P.res.length) (hs : P.res.length = 0 → P.t = S) :
  ((zT P (yy l P.res.length)).1 = true → z_ S l (zT P (yy l P.res.length)).2) ∧ ((zT P (yy l P.res.length)).1 = false → MH S l (zT P (yy l P.res.length)).2) := by
 generalize hq : yy l P.res.length = q;have hk := h.kp.trans (Tf h.kp.v q);have hby := zHu h.kp.v h.b q;have hzero : P.res.length = 0 → P.bytes = 0 := fun e => h.b.zero (by omega)
 by_cases jf : P.res.length = 16
 ·
  rw [qm jf];exact ⟨fun e => (by cases e), fun _ => h.stop (by omega)⟩
 by_cases h1 : q.kind = 1
 ·
  by_cases h9 : zy P.t q = 9 ∧ xe P.t = true
  ·
   rw [S_ jf h1 h9.1 h9.2] at hk hby ⊢;refine ⟨fun e => (by cases e), fun _ => ⟨hk, hby, h.n, h.m, h.r, fun _ e0 => ?_, fun e => by simpa using e⟩⟩;have e0 : P.res.length = 0 := e0;have es := hs e0;refine ⟨by simpa using e0, ?_, ?_, ?_⟩
   ·
    rw [← es]; exact h9.2
   ·
    rw [e0] at hq; rw [hq]; exact h1
   rw [e0] at hq; rw [hq, ← es];have h2 := h9.1;unfold zy at h2
   split at h2
   ·
    cases h2
   split at h2
   ·
    cases h2
   rename_i hf; simpa using hf
  by_cases h0 : zy P.t q = 0
  ·
   by_cases hb : 0 < P.bytes ∧ 16384 < P.bytes + (eG q.data.length : Int)
   ·
    rw [qi jf h1 h0 hb];exact ⟨fun e => (by cases e), fun _ => h.stop fun e => (by have := hzero e; omega)⟩
   rw [uT jf h1 h0 hb] at hk hby ⊢;exact ⟨fun _ => h.more (Q := vH P (uy q)) hk ⟨hby.b, hby.m, hby.ok⟩ rfl h.r0 hn jf 0 (fun e => (by cases e)) (fun e => (by cases e)), fun e => (by cases e)⟩
  rw [vN jf h1 h9 h0] at hk hby ⊢;refine ⟨fun _ => h.more (Q := P) hk ⟨hby.b, hby.m, hby.ok⟩ rfl h.r0 hn jf _ (fun e => ?_) (fun e => ?_), fun e => (by cases e)⟩
  ·
   rw [← Kp.can hS h.kp]
   cases hc : xe P.t with
   | false => rfl
   | true => exact absurd ⟨e, hc⟩ h9
  rw [hq];unfold zy at e
  split at e
  ·
   assumption
  split at e <;> cases e
 by_cases h2 : q.kind = 2
 ·
  rcases tQ (P := P) (q := q) with h3 | h3
  ·
   by_cases hb : vI P.t q.key = true ∧ 0 < P.bytes ∧ 16384 < P.bytes + 24
   ·
    rw [qp jf h2 h3 hb];exact ⟨fun e => (by cases e), fun _ => h.stop fun e => (by have := hzero e; omega)⟩
   rw [vM jf h2 h3 hb] at hk hby ⊢;refine ⟨fun _ => h.more (Q := yZ P q) hk ⟨hby.b, hby.m, hby.ok⟩ (uS P q) ?_ hn jf 0 (fun e => (by cases e)) (fun e => (by cases e)), fun e => (by cases e)⟩;have hr := (yl P q.key).2.2.2;unfold yZ
   split
   ·
    show (yW P q.key).ep = false
    rw [hr]; exact h.r0
   rw [hr]; exact h.r0
  rw [vX jf h2 h3] at hk hby ⊢;exact ⟨fun _ => h.more (Q := P) hk ⟨hby.b, hby.m, hby.ok⟩ rfl h.r0 hn jf 6 (fun e => (by cases e)) (fun e => (by cases e)), fun e => (by cases e)⟩
 rw [vp jf h1 h2] at hk hby ⊢;exact ⟨fun _ => h.more (Q := P) hk ⟨hby.b, hby.m, hby.ok⟩ rfl h.r0 hn jf 1 (fun e => (by cases e)) (fun e => (by cases e)), fun e => (by cases e)⟩
theorem zDo {P : fg} {q : Rq} (h : P.needs.length ≤ P.res.length) : (zT P q).1 = true → (zT P q).2.needs.length ≤ (zT P q).2.res.length := by
 have hm : ∀ (Q : fg) (e : Int), Q.needs.length ≤ Q.res.length + 1 → (more Q e).needs.length ≤ (more Q e).res.length := fun Q e hq => by rw [Ta]; exact hq
 have hd : (yZ P q).needs.length ≤ (yZ P q).res.length + 1 := by
  obtain ⟨r1, r2, _, _⟩ := yl P q.key;rw [uS];unfold yZ
  split
  ·
   show ((yW P q.key).needs ++ [_]).length ≤ _
   rw [r2, aA]; simp; exact h
  rw [r2]; omega
 unfold zT
 split
 ·
  intro e; cases e
 split
 ·
  split
  ·
   intro e; cases e
  split
  ·
   split
   ·
    intro e; cases e
   intro _;refine hm _ _ ?_
   show (P.needs ++ [_]).length ≤ P.res.length + 1
   rw [aA]; simp; exact h
  intro _; exact hm _ _ (by omega)
 split
 ·
  split
  ·
   split
   ·
    intro e; cases e
   intro _; exact hm _ _ hd
  intro _; exact hm _ _ (by omega)
 intro _; exact hm _ _ (by omega)
theorem Z9 {S : eE} (hS : ec S) {l : List Rq} : ∀ (k : Nat) (P : fg), l.length = P.res.length + k → z_ S l P → P.needs.length ≤ P.res.length → (P.res.length = 0 → P.t = S) → MH S l (wJ (l.drop P.res.length) P)
 | 0, P, hk, h, _, _ => by
  rw [List.drop_eq_nil_of_le (by omega)];exact h.stop (by omega)
 | k + 1, P, hk, h, hd, hs => by
  have hlt : P.res.length < l.length := by omega
  have e : l.drop P.res.length = yy l P.res.length :: l.drop (P.res.length + 1) := by
   rw [cQ hlt];unfold yy;rw [ax, aB hlt]; rfl
  obtain ⟨h1, h2⟩ := zHX hS h hlt hd hs;have h3 := (uW P (yy l P.res.length) h.m).2.2;have h4 := zDo (q := yy l P.res.length) hd;rw [e]
  show MH S l (if (zT P (yy l P.res.length)).1 = true then wJ (l.drop (P.res.length + 1)) (zT P (yy l P.res.length)).2 else (zT P (yy l P.res.length)).2)
  by_cases hp : (zT P (yy l P.res.length)).1 = true
  ·
   rw [ag hp];have hl := h3 hp;have := Z9 hS k (zT P (yy l P.res.length)).2 (by omega) (h1 hp) (h4 hp) (fun e => by omega);rw [hl] at this;exact this
  rw [ah hp];exact h2 (by simpa using hp)
theorem Z_ {S : eE} (hS : ec S) (l : List Rq) : (zm S l).2 = 0 ∧ MH S l (zm S l).1 := by
 unfold zm;rw [ag ((zR S).2 hS)];refine ⟨rfl, ?_⟩;have := Z9 hS (l := l) l.length (yR S) (by simp [yR]) ⟨Kp.refl hS, ⟨rfl, .inl (au _), fun x hx => by cases hx⟩, au _, au _, rfl, fun i hi => by cases hi⟩ (au _) (fun _ => rfl);exact this
end Go.Proofs.YtcgfilmmokmdjaaGreat
namespace Go.Proofs.YtcgfilmmokmdjaaGreat
open Go.RowKit
theorem YN {s : eE} (hV : ec s) {k : Nat} (hk : k < s.dP.length) {y : Gn} (h : (eH s.dP k).num = y.num) : uV s.dP y = s.dP.set k y := by
 have nR : ∀ i j, i < j → j < s.dP.length → (eH s.dP i).num < (eH s.dP j).num := by
  intro i j hij
  induction j with
  | zero => omega
  | succ j ih =>
   intro hj;have h1 := (hV.g (j + 1) hj).2.1 (by omega);rw [show j + 1 - 1 = j by omega] at h1
   by_cases e : i = j
   ·
    subst e; exact h1
   have := ih (by omega) (by omega); omega
 refine List.ext_getElem? fun i => ?_
 unfold uV;rw [b8, dq]
 by_cases hi : i < s.dP.length
 ·
  have eg : eH s.dP i = s.dP[i] := by unfold eH; rw [ax, aB hi]; rfl
  rw [aB hi, ← eg]
  by_cases e : k = i
  ·
   subst e;simp [h, hi]
  rw [ah e];have hne : (eH s.dP i).num ≠ y.num := by
   rw [← h];rcases Nat.lt_or_gt_of_ne e with h1 | h1
   ·
    have := nR k i h1 hi; omega
   have := nR i k h1 hk; omega
  simp [hne]
 rw [List.getElem?_eq_none (by omega)]
 by_cases e : k = i
 ·
  omega
 rw [ah e]; rfl
theorem YO (g : Gn) (s : Sl) (w : World) (h : fp w s g.m.st) (hs : ∀ i, i < 8 → (g.m.st i).length ≤ 10000) :
  Calls Tryz.prog 61 #[za g.num g.rev g.mode g.size s g.m.live g.m.dR] w (Hx w (xK g 1)) := by
 have HT := zh (fun W (hb : Below w.heap.size w W) => Xh g s 1 W (h.below hb) hs);clear hs;generalize xK g 1 = TG at *;obtain ⟨n, r, md, z, ⟨f, L, G⟩⟩ := g;dsimp only at *;obtain ⟨W, hW, fa, f_, fu⟩ := wU w n r md z s L G 38;have HX := zh fa;have HR := zh f_;have HB := zh fu;clear fa f_ fu h
 go_enter Tryz.func61, Tryz.ntmps61
 go_upto_region 1 with fail;change Code.wp _ _ _ _ ((w.alloc (.cells (zW n r md z s L G) 38)).alloc (.cells (zW 0 0 0 0 Sl.nil 0 0) 38));rw [hW];clear hW;obtain ⟨x0, x1, x2, x3, x4, x5, x6, x7, x8, x9, fI, fJ, fG, fH⟩ := HX.out.q;go_wp2_with fail;refine (HT.out _ HB.out).mono ?_;rintro e w1 ⟨⟨t, rfl, hr⟩, hb⟩;have AU := zh (hr.mono (show w.heap.size + 2 ≤ W.heap.size by have := HR.out.lt; omega));have eY := zh (HR.out.below hb);have eO := zh (zA HB.out hb);have hlr := HR.out.lt;clear x0 x1 x2 x3 x4 x5 x6 x7 x8 x9 fI fJ fG fH;clear hr HX HT HR HB;obtain ⟨er, ⟨n', r', md', z', ⟨f', L', G'⟩⟩⟩ := TG;dsimp only at *;obtain ⟨r0, r1, r2, r3, r4, r5, r6, r7, r8, r9, lK, lq, l6, mO⟩ := eY.out.q;have rf := eY.out.f;go_wp2_with fail;change bodyPost _ _ _ _ _ (pts w1 (w.heap.size + 1) (zL n' r' md' z' t L' G'));have hby := eY.out.all n' r' md' z' t L' G'
 have ea := zh (zD (B := w.heap.size) (b := (w.heap.size + 1)) (by omega) (zL n' r' md' z' t L' G') eO.out);have gw := (AU.out.pts (show w.heap.size + 1 < w.heap.size + 2 by omega) (zL n' r' md' z' t L' G')).mono (show w.heap.size ≤ w.heap.size + 2 by omega);generalize pts w1 (w.heap.size + 1) (zL n' r' md' z' t L' G') = V at *;exact aw (v := .tuple #[za n' r' md' z' t L' G', .int .i64 er]) (by simp [results, Tryz.results61, go_sem, hby.q]) rfl ⟨⟨_, rfl, gw⟩, ea.out⟩
end Go.Proofs.YtcgfilmmokmdjaaGreat
