/- A part of the walk. -/
import Derived.Test.YtcgfilmmokmdjaaGreatQAP
import Derived.Test.YtcgfilmmokmdjaaGreatQAB
set_option linter.all false
set_option maxRecDepth 100000
set_option maxHeartbeats 32000000
namespace Go.Proofs.YtcgfilmmokmdjaaGreat
open Go.RowKit
theorem zGA (a : Option Addr) (n c : Nat) (xs : List Value) (w : World) (h : Rd w 14 (.slice a n c) n xs) (h1 : ∀ u ∈ xs,u.oneCell' = true) (hs : n ≤ 1000000) :
  Calls Tryz.prog 102 #[.slice a n c] w fun e w' => ∃ a' c',e = .returned (.slice a' n c') ∧ w'.ownsRow w.heap.size 38 14 (.slice a' n c') n xs ∧ Below w.heap.size w w':=by
 have q22 : ∀ (w : World) (a : Option Addr) (n c n' c' : Nat),(binOp .eql 25 (.slice a n c) (.slice none n' c')).run Tryz.prog w = .ok (.bool a.isNone) w:=fun w a n c n' c' => Lib.run_eql_slice_nil w _ _ a n c n' c' Tryz.underlying25
 cases a with
 | none =>
  have h0 : n = 0:=by
   obtain ⟨_,a',cap',e,h2,_,h5,_⟩:=h;injection e with e1 e2 e3;have:=h5 e1.symm;omega
  subst h0;have hx : xs = []:=List.length_eq_zero_iff.1 (by have:=h.1; omega);subst hx;clear h
  go_enter Tryz.func102,Tryz.ntmps102
  go_wp2_with fail;go_ret;exact ⟨_,_,rfl,aU _ _ _ _,aj _ _⟩
 | some p =>
  have Hr:=zh h;have H1:=zh h1;clear h h1
  go_enter Tryz.func102,Tryz.ntmps102
  go_wp2_with (at_builtin; go_must (refine zi rfl (.tmp 5) (.tmp 6) 25 rfl zKE w.heap.size rfl (di (size:=14) _ #[] 0 (ai _) (by decide) rfl) rfl (Hr.out.alloc _) H1.out (by unfold maxLen; omega) (by omega) (by simp) ?_); intro v3 w3 eu fh hv3; clear hv3);have HB:=zh (zL ((aj w.heap.size w).alloc (ai _) _) (di (e:=38) (size:=14) w #[] 0 (ai _) (by decide) rfl) (by simp) fh);rw [aJ,bV] at eu;obtain ⟨ra,rc,rfl,_⟩:=zM eu;have HO:=zh eu;clear eu fh;go_wp2_with fail;go_ret;exact ⟨_,_,rfl,HO.out,HB.out⟩
structure gI (W : World) (B : Nat) (v : Value) (n : Nat) (L : List GP) : Prop where
 row : W.ownsRow B 38 14 v n (L.flatMap iY)
 len : n = L.length
 m : ∀ p ∈ L,eZ W B p.2 p.1.m.st
theorem gI.rd {W : World} {B n : Nat} {v : Value} {L : List GP} (h : gI W B v n L) : fH W v L:=RI h.row h.len fun p hp => (h.m p hp).rd
theorem gI.keep {W W' : World} {B n : Nat} {v : Value} {L : List GP} (h : gI W B v n L) (hb : Below W.heap.size W W') : gI W' B v n L:=⟨zI h.row hb,h.len,fun p hp => (h.m p hp).keep hb⟩
theorem gI.pts {W : World} {B n b : Nat} {v : Value} {L : List GP} (h : gI W B v n L) (hb : b < B) (vs : List (Nat × Value)) : gI (Go.Proofs.YtcgfilmmokmdjaaGreat.pts W b vs) B v n L:=⟨vY hb h.row vs,h.len,fun p hp => (h.m p hp).pts hb vs⟩
theorem gI.lower {W : World} {B B' n : Nat} {v : Value} {L : List GP} (h : gI W B v n L) (hB : B' ≤ B) : gI W B' v n L:=⟨World.ownsRow.mono h.row hB,h.len,fun p hp => (h.m p hp).mono hB⟩
theorem zL5 {W : World} {B B' g n c : Nat} {xs : List Value} {s : Sl} {f : Nat → List It} (h : W.ownsRow B 38 14 (.slice (some ⟨g,0,none⟩) n c) n xs) (ho : eZ W B' s f) : ∀ i,i < 8 → (s.v i).ownBlock ≠ some g:=fun i hi e => by
 obtain ⟨c1,f1,h1⟩:=Lib.ownsRow_kind h g rfl;obtain ⟨c2,f2,h2⟩:=Lib.ownsRow_kind (ho i hi) g e;rw [h1] at h2;injection h2 with h2;injection h2 with _ h3;exact absurd h3 (by decide)
theorem eZ.Dx {W : World} {B B' g n c : Nat} {xs : List Value} {s : Sl} {f : Nat → List It} (ho : eZ W B' s f) (h : W.ownsRow B 38 14 (.slice (some ⟨g,0,none⟩) n c) n xs) (vs : List (Nat × Value)) : eZ (Go.Proofs.YtcgfilmmokmdjaaGreat.pts W g vs) B' s f:=fun i hi => kL (zL5 h ho i hi) vs (ho i hi)
theorem gI.set {W : World} {B n c g : Nat} {L : List GP} (h : gI W B (.slice (some ⟨g,0,none⟩) n c) n L) (k : Nat) (hk : k < n) (y : GP) (hy : eZ W B y.2 y.1.m.st) :
  gI (Go.Proofs.YtcgfilmmokmdjaaGreat.pts W g (Dv (k * 14) y.1.num y.1.rev y.1.mode y.1.size y.2 y.1.m.live y.1.m.dZ)) B (.slice (some ⟨g,0,none⟩) n c) n (L.set k y):=by
 have hl:=h.len;refine ⟨(Yh h.row k (by omega) y).1,by rw [bC]; exact hl,fun p hp => ?_⟩;rcases dV hp with hp | rfl
 ·
  exact (h.m p hp).Dx h.row _
 exact hy.Dx h.row _
structure KF (W : World) (B : Nat) (v : Value) (n : Nat) (L M : List GP) (k : Nat) : Prop where
 row : W.ownsRow B 38 14 v n (M.flatMap iY)
 len : n = M.length
 fst : ea M = ea L
 own : ∀ j,j < k → eZ W B (pat M j).2 (pat M j).1.m.st
 old : ∀ j,k ≤ j → pat M j = pat L j
theorem KF.keep {W W' : World} {B n k : Nat} {v : Value} {L M : List GP} (h : KF W B v n L M k) (hb : Below W.heap.size W W') : KF W' B v n L M k:=⟨zI h.row hb,h.len,h.fst,fun j hj => (h.own j hj).keep hb,h.old⟩
theorem Yw (L : List GP) (k : Nat) (y : GP) : ea (L.set k y) = (ea L).set k y.1:=List.map_set ..
theorem KF.step {W : World} {B n c g k : Nat} {L M : List GP} (h : KF W B (.slice (some ⟨g,0,none⟩) n c) n L M k) (hk : k < n) (y : GP) (hy : eZ W B y.2 y.1.m.st) (hf : y.1 = (pat L k).1) :
  KF (Go.Proofs.YtcgfilmmokmdjaaGreat.pts W g (Dv (k * 14) y.1.num y.1.rev y.1.mode y.1.size y.2 y.1.m.live y.1.m.dZ)) B (.slice (some ⟨g,0,none⟩) n c) n L (M.set k y) (k + 1):=by
 have hl:=h.len;have hM:=aQ List.length h.fst;rw [yB,yB] at hM;refine ⟨(Yh h.row k (by omega) y).1,by rw [bC]; exact hl,?_,fun j hj => ?_,fun j hj => ?_⟩
 ·
  rw [Yw,h.fst];refine List.ext_getElem? fun i => ?_
  rw [dK]
  by_cases e : k = i
  ·
   subst e;have hk' : k < (ea L).length:=by rw [yB]; omega
   rw [ag rfl,ag hk',aB hk',hf];have h9:=xJ (l:=L) (i:=k);unfold eB at h9;rw [aw,aB hk'] at h9;rw [← h9]; rfl
  rw [ah e]
 ·
  rw [zGs (by omega)]
  by_cases e : j = k
  ·
   rw [ag e]; exact hy.Dx h.row _
  rw [ah e]; exact (h.own j (by omega)).Dx h.row _
 rw [zGs (by omega),ah (by omega)]; exact h.old j (by omega)
theorem KF.all {W : World} {B n : Nat} {v : Value} {L M : List GP} (h : KF W B v n L M n) : gI W B v n M:=⟨h.row,h.len,fun p hp => by
 obtain ⟨j,hj,rfl⟩:=b7 hp
 have h1:=h.own j (by rw [h.len]; exact hj)
 have e : pat M j = M[j]:=by unfold pat; rw [aw,aB hj]; rfl
 rw [e] at h1; exact h1⟩
def ClR (w : World) (i l : Int) (r : Bool) (n : Nat) (L : List GP) (e : Ending) (w' : World) : Prop:=(∃ a' c' M,e = .returned (ze i l r a' n c') ∧ gI w' w.heap.size (.slice a' n c') n M ∧ ea M = ea L) ∧ Below w.heap.size w w'
def Yx (B : Nat) (g : Gn) : pY:=⟨fun v w => ∃ s,v = zV g.num g.rev g.mode g.size s g.m.live g.m.dZ ∧ eZ w B s g.m.st,fun _ _ _ hb ⟨s,h1,h2⟩ => ⟨s,h1,h2.keep hb⟩⟩
theorem zBb (i l : Int) (r : Bool) (a : Option Addr) (n c : Nat) (L : List GP) (w : World) (h : fH w (.slice a n c) L) (hs : ∀ p ∈ L,∀ j,j < 8 → (p.1.m.st j).length ≤ 10000) (hn : n ≤ 1000000) :
  Calls Tryz.prog 59 #[ze i l r a n c] w (ClR w i l r n L):=by
 have gy : L.length = n:=by
  obtain ⟨_,_,e,_⟩:=h.shape;injection e with _ e _; exact e.symm
 have Bd:=zh (fun W (hb : Below w.heap.size w W) => show Rd W 14 (.slice a n c) n (L.flatMap iY) from by
  have h1:=(ix.below h.r hb).2
  rwa [gy] at h1)
 have l6:=zh (Yj L);have mJ:=zh (show ∀ k,k < n → fq w (pat L k).2 (pat L k).1.m.st ∧ ∀ j,j < 8 → ((pat L k).1.m.st j).length ≤ 10000 from fun k hk => ⟨h.m _ (xN (by omega)),hs _ (xN (by omega))⟩);have iL:=zh gy;have hcap : n ≤ 9223372036854775807:=by omega
 clear h hs gy
 go_enter Tryz.func59,Tryz.ntmps59
 go_upto_region 1 with fail;change Code.wp _ _ _ _ ((w.alloc (.cells (zN i l r a n c) 27)).alloc (.cells (zN 0 0 false none 0 0) 27));obtain ⟨W,hW,fF,hbr,fP⟩:=Uo w i l r a n c 27;rw [hW];have HX:=zh fF;have HR:=zh hbr;have HB:=zh fP;clear hW fF hbr fP;have anS:=HR.out.lt;have k3:=HX.out.c3;go_wp2_with fail;refine (zGA a n c (L.flatMap iY) W (Bd.out W HB.out) l6.out hn).mono ?_;rintro e w1 ⟨a1,c1,rfl,ho,hb⟩;have hz0:=hb.size;replace HX:=zh (HX.out.below hb);replace HR:=zh (HR.out.below hb);replace HB:=zh (zA HB.out hb);clear hb k3 Bd l6;have k3:=HX.out.c3;have kf:=HX.out.f;go_upto_region 2 with fail;clear k3 kf;have RP:=zh (show W.heap.size ≤ (pts w1 w.heap.size [(3,.slice a1 n c1)]).heap.size by rw [uI]; exact hz0);have iM:=zh (show fc (pts w1 w.heap.size [(3,.slice a1 n c1)]) w.heap.size i l r a1 n c1 from HX.out.Lt a1 n c1)
 have lB:=zh (HR.out.eD (d:=w.heap.size) (by omega) [(3,.slice a1 n c1)]);have fZ:=zh (zD (B:=w.heap.size) (b:=w.heap.size) (ai _) [(3,.slice a1 n c1)] HB.out);have HC4:=zh (show KF (pts w1 w.heap.size [(3,.slice a1 n c1)]) W.heap.size (.slice a1 n c1) n L L 0 from ⟨vY (b:=w.heap.size) (by omega) ho _,iL.out.symm,rfl,fun j hj => by omega,fun j _ => rfl⟩);clear ho HX HR HB;change Code.wp _ _ _ _ (pts w1 w.heap.size [(3,.slice a1 n c1)]);generalize pts w1 w.heap.size [(3,.slice a1 n c1)] = w2 at *;have k3:=iM.out.c3;go_wp2_with fail;clear k3
 go_loopw [12] (fun iv V => ∃ (k : Nat) (M : List GP),iv = .int .i64 (k : Int) ∧ k ≤ n ∧ Hid (KF V W.heap.size (.slice a1 n c1) n L M k) ∧ Hid (fc V w.heap.size i l r a1 n c1) ∧ Hid (fc V (w.heap.size + 1) 0 0 false none 0 0) ∧ Hid (Below w.heap.size w V) ∧ Hid (W.heap.size ≤ V.heap.size)) (fun iv _ => n - (intOf iv).toNat)
 case atStart => exact ⟨0,L,rfl,aq _,HC4,iM,lB,fZ,RP⟩
 clear HC4 iM lB fZ RP;obtain ⟨k,M,rfl,hk,HC,HX,HR,HB,iW⟩:=hrel
 by_cases hlt : k < n
 ·
  have i1 : (k : Int) < (n : Int):=by omega
  obtain ⟨g,rfl,hgB,Co⟩:=ui HC.out.row (by omega);have hat:=Ul HC.out.row HC.out.len hlt;rw [HC.out.old k (ai _)] at hat;obtain ⟨hm1,jH⟩:=mJ.out k hlt;have Ep:=zh hm1;have RQ:=zh jH;have EW:=zh (wW HC.out.row);have Uw:=zh (fun W' (hb : Below wr.heap.size wr W') => (hat.below hb).there (wW (zI HC.out.row hb)));clear hm1 jH;have jM:=zh (fun W' (s' : Sl) (hb : Below wr.heap.size wr W') (ho : eZ W' W.heap.size s' (pat L k).1.m.st) => (HC.out.keep hb).step hlt ((pat L k).1,s') ho rfl);generalize pat L k = p at *;obtain ⟨⟨num,rev,md,sz,⟨fs,LV,GA⟩⟩,s⟩:=p;dsimp only at Ep RQ jM;obtain ⟨g0,g1,g2,g3,g4,g5,g6,g7,g8,g9,g10,g11,g12,g13⟩:=hat;dsimp only at g0 g1 g2 g3 g4 g5 g6 g7 g8 g9 g10 g11 g12 g13;go_upto_region 5 with fail;clear g0 g1 g2 g3 g4 g5 g6 g7 g8 g9 g10 g11 g12 g13;change Code.wp _ _ _ _ (wr.alloc (.cells (zQ num rev md sz s LV GA) 38))
  have eU:=zb wr num rev md sz s LV GA 38;have HG:=zh (eH.new wr num rev md sz s LV GA 38);have CP:=zh eU;replace HX:=zh (HX.out.below eU);replace HR:=zh (HR.out.below eU);replace HB:=zh (zA HB.out eU);replace iW:=zh (ak iW.out eU.size);clear eU HC;generalize wr.alloc (.cells (zQ num rev md sz s LV GA) 38) = v0 at *;generalize wr.heap.size = bg at HG ⊢;have JM:=iW.out;refine yx [eX (.pointer (some ⟨w.heap.size,3,none⟩)),eX (.slice (some ⟨g,0,none⟩) n c1),eX (.int .i64 (k : Int)),eX (zV num rev md sz s LV GA),Yx W.heap.size ⟨num,rev,md,sz,⟨fs,LV,GA⟩⟩] [] 25 (by kernel_rfl) (by kernel_rfl) (by rfl) (by kernel_rfl) (fun f => by simp [fD,zW,Act.put]; exact rfl) ?_ ?_
  ·
   refine ⟨?_,?_,?_,?_,?_,trivial⟩
   ·
    intro f w1 hb hd;clear hd;dsimp only;go_wp2_with fail;exact pS rfl (by simp)
   ·
    intro f w1 hb hd;have d0 : f 0 = (.pointer (some ⟨w.heap.size,3,none⟩)):=hd 0 (by kernel_rfl);clear hd;dsimp only;rw [d0];have q3:=(HX.out.below hb).c3;go_wp2_with fail;exact pS rfl (by simp)
   ·
    intro f w1 hb hd;clear hd;dsimp only;go_wp2_with fail;exact pS rfl (by simp)
   ·
    intro f w1 hb hd;clear hd;dsimp only;have zo:=HG.out.below hb;obtain ⟨q0,q1,q2,q3,q4,q5,q6,q7,q8,q9,FC,FD,FE,FF⟩:=zo.q;clear zo;go_wp2_with fail;exact pS rfl (by simp)
   intro f w1 hb hd;have d3 : f 3 = (zV num rev md sz s LV GA):=hd 3 (by kernel_rfl);clear hd;dsimp only;rw [d3];go_wp2_with fail;refine (uz ⟨num,rev,md,sz,⟨fs,LV,GA⟩⟩ s w1 (Ep.out.below (zA HB.out hb)) RQ.out).mono ?_;rintro e w9 ⟨⟨s9,rfl,B5⟩,gL⟩;have ic:=zh (B5.mono (ak JM hb.size));clear B5;go_wp2_with fail;exact ⟨rfl,gL,fun t ht => by injection ht with ht; subst ht; exact ⟨⟨s9,rfl,ic.out⟩,fun h => by simp at h⟩⟩
  intro f w5 hb hd iD;clear iD;have d1 : f 1 = .slice (some ⟨g,0,none⟩) n c1:=hd 1 (show 1 < 5 by decide);have d2 : f 2 = .int .i64 (k : Int):=hd 2 (show 2 < 5 by decide);obtain ⟨s4,d4,I1⟩:=show ∃ s,f 4 = zV num rev md sz s LV GA ∧ eZ w5 W.heap.size s fs from hd 4 (show 4 < 5 by decide);clear hd
  try dsimp only
  rw [d1,d2,d4];clear d1 d2 d4;generalize f 0 = z0;generalize f 3 = z3;clear f;have hb5:=zA CP.out hb;have HS5:=zh (jM.out w5 s4 hb5 I1);have RS:=zh (Uw.out w5 hb5)
  try dsimp only at HS5
  have fw:=zh ((HX.out.below hb).eD (d:=g) (by omega) (Dv (k * 14) num rev md sz s4 LV GA));have iR:=zh ((HR.out.below hb).eD (d:=g) (by omega) (Dv (k * 14) num rev md sz s4 LV GA));have gw:=zh (zD (B:=w.heap.size) (b:=g) (by omega) (Dv (k * 14) num rev md sz s4 LV GA) (zA HB.out hb));have HZ5:=zh (show W.heap.size ≤ (pts w5 g (Dv (k * 14) num rev md sz s4 LV GA)).heap.size by rw [uI]; exact ak JM hb.size);clear I1 hb hb5 jM Uw;change wpList _ _ _ (_ :: _ :: []) _ _;go_wp2_with ((with_reducible refine wpList_store_mid ?_ 38 (.tmp 22) (.tmp 21) ?_ g (k * 14) (zQ num rev md sz s4 LV GA) ?_ ?_ ?_ ?_ ?_ ?_); rfl; rfl; rfl; rfl; exact RS.out; exact Yo; exact Ur _ _ _ _ _ _ _; rw [k7]);exact ⟨⟨k + 1,_,by go_num,by omega,HS5,fw,iR,gw,HZ5⟩,by simp [intOf]; omega⟩
 have i1 : ¬ (k : Int) < (n : Int):=by omega
 obtain rfl : k = n:=by omega
 have HO:=zh HC.out.all;have HF:=zh HC.out.fst;clear HC;obtain ⟨k0,k1,k2,k3⟩:=HX.out.q;have Ra:=iW.out;obtain ⟨z0,z1,z2,z3⟩:=HR.out.q;have zf:=HR.out.f;go_wp2_with fail;change bodyPost _ _ _ _ _ (pts wr (w.heap.size + 1) (zP i l r a1 k c1));have EY:=zh ((HO.out.pts (b:=w.heap.size + 1) (by omega) (zP i l r a1 k c1)).lower (show w.heap.size ≤ W.heap.size by omega));have hby:=HR.out.all i l r a1 k c1;have ey:=zh (zD (B:=w.heap.size) (b:=(w.heap.size + 1)) (by omega) (zP i l r a1 k c1) HB.out);generalize pts wr (w.heap.size + 1) (zP i l r a1 k c1) = V at *;exact au (v:=ze i l r a1 k c1) (by simp [results,Tryz.results59,go_sem,hby.c0,hby.c1,hby.c2,hby.c3]) rfl (⟨⟨a1,c1,M,rfl,EY.out,HF.out⟩,ey.out⟩)
theorem zJV (y : GP) (bg : Nat) (num rev md sz : Int) (s : Sl) (LV GA : Int) (w : World) (hg : eH w bg num rev md sz s LV GA) :
  Calls Tryz.prog 58 #[zV y.1.num y.1.rev y.1.mode y.1.size y.2 y.1.m.live y.1.m.dZ,.pointer (some ⟨bg,0,none⟩)] w fun e w' => e = .returned (.bool (y.1.num == num)) ∧ Below w.heap.size w w':=by
 obtain ⟨⟨yn,yr,ym,yz,⟨yf,yL,yG⟩⟩,ys⟩:=y;dsimp only;have eU:=zb w yn yr ym yz ys yL yG 38;have HY:=zh (eH.new w yn yr ym yz ys yL yG 38);have HG:=zh (hg.below eU);have HB:=zh eU;clear hg eU
 go_enter Tryz.func58,Tryz.ntmps58
 go_upto_region 1 with fail;change Code.wp _ _ _ _ (w.alloc (.cells (zQ yn yr ym yz ys yL yG) 38));generalize w.alloc (.cells (zQ yn yr ym yz ys yL yG) 38) = w1 at *;have q0:=HY.out.n0;have q1:=HG.out.n0;go_wp2_with fail;go_ret;exact ⟨rfl,HB.out⟩
def PT (L : List GP) (num : Int) (z : Int) : Prop:=(∃ k,k < L.length ∧ z = (k : Int) ∧ (pat L k).1.num = num ∧ ∀ j,j < k → (pat L j).1.num ≠ num) ∨ (z = -1 ∧ ∀ j,j < L.length → (pat L j).1.num ≠ num)
theorem zCG (a : Option Addr) (n c : Nat) (L : List GP) (bg : Nat) (num rev md sz : Int) (s : Sl) (LV GA : Int) (w : World) (h : fH w (.slice a n c) L) (hn : n ≤ 1000000) (hg : eH w bg num rev md sz s LV GA) :
  Calls Tryz.prog 57 #[.slice a n c,.func (.func 58) #[] #[.pointer (some ⟨bg,0,none⟩)]] w fun e w' => (∃ z,e = .returned (.int .i64 z) ∧ PT L num z) ∧ Below w.heap.size w w':=by
 have gy : L.length = n:=by
  obtain ⟨_,_,e,_⟩:=h.shape;injection e with _ e _; exact e.symm
 have Hr:=zh h;have Hg:=zh hg;have iL:=zh gy;clear h hg gy
 go_enter Tryz.func57,Tryz.ntmps57
 go_wp2_with fail
 go_loopw [8] (fun i wr => ∃ k : Nat,k ≤ n ∧ i = .int .i64 (k : Int) ∧ Hid (∀ j,j < k → (pat L j).1.num ≠ num) ∧ Hid (Below w.heap.size w wr)) (fun i _ => n - (intOf i).toNat)
 case atStart => exact ⟨0,aq _,rfl,zh (fun j hj => absurd hj (by omega)),zh (aj _ _)⟩
 obtain ⟨k,hk,rfl,mj,Hb⟩:=hrel
 by_cases hlt : k < n
 ·
  have hr:=Hr.out.below Hb.out;obtain ⟨b,off,rfl,hat⟩:=hr.at hlt;have HV:=zh (fun W (hb : Below wr.heap.size wr W) => zJV (pat L k) bg num rev md sz s LV GA W ((Hg.out.below Hb.out).below hb))
  have Ej:=zh (show (pat L k).1.num ≠ num → ∀ j,j < k + 1 → (pat L j).1.num ≠ num from fun ho j hj => by
   by_cases e : j = k
   ·
    subst e; exact ho
   exact mj.out j (by omega))
  have Lz:=zh (show (pat L k).1.num = num → PT L num (k : Int) from fun e => .inl ⟨k,by rw [iL.out]; exact hlt,rfl,e,mj.out⟩);clear hr;generalize pat L k = p at *;obtain ⟨⟨xn,xr,xm,xz,⟨xf,xL,xG⟩⟩,xs⟩:=p;obtain ⟨g0,g1,g2,g3,g4,g5,g6,g7,g8,g9,g10,g11,g12,g13⟩:=hat;dsimp only at g0 g1 g2 g3 g4 g5 g6 g7 g8 g9 g10 g11 g12 g13 HV Ej Lz;have i1 : (k : Int) < (n : Int):=by omega
  go_wp2_with fail;refine (HV.out _ (aj _ _)).mono ?_; rintro e w1 ⟨rfl,hb1⟩;have lX:=zh (zA Hb.out hb1)
  by_cases hx : xn = num
  ·
   have HF:=zh (Lz.out hx);have hx1 : (xn == num) = true:=by simp [hx]
   clear hb1 hx Ej Lz HV;go_wp2_with fail;go_ret;exact ⟨⟨_,rfl,HF.out⟩,lX.out⟩
  have HF:=zh (Ej.out hx);have hx1 : (xn == num) = false:=by simp [hx]
  clear hb1 hx Ej Lz HV;go_wp2_with fail;exact ⟨⟨k + 1,by omega,by go_num,HF,lX⟩,by simp [intOf]; omega⟩
 obtain rfl : k = n:=by omega
 have i1 : ¬ (k : Int) < (k : Int):=by omega
 have HF:=zh (show PT L num (-1) from .inr ⟨rfl,by rw [iL.out]; exact mj.out⟩);go_wp2_with fail;go_ret;exact ⟨⟨_,rfl,HF.out⟩,Hb.out⟩
theorem Yy : wK Tryz.prog 87 24 1 8:=by
 obtain ⟨i,hi,hz,hs,hb⟩:=b_ (P:=Tryz.prog) (e:=24) (z:=.int .u64 0) (size:=1) (bytes:=8) (by kernel_rfl);exact ⟨Tryz.underlying87,by decide,i,_,hi,hz,hs,hb,rfl⟩
end Go.Proofs.YtcgfilmmokmdjaaGreat
