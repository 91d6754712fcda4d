/- A part of the walk. -/
import Derived.Test.YtcgfilmmokmdjaaGreatQAM
import Derived.Test.YtcgfilmmokmdjaaGreatQAK
import Derived.Test.YtcgfilmmokmdjaaGreatQAI
set_option linter.all false
set_option maxRecDepth 100000
set_option maxHeartbeats 32000000
namespace Go.Proofs.YtcgfilmmokmdjaaGreat
open Go.RowKit
theorem zJJ : ∀ {a b : Bool},a = b → (a = true ∧ b = true) ∨ (a = false ∧ b = false):=by decide
theorem zDO (w : World) : Calls Tryz.prog 28 #[.int .i64 4096] w fun e w' => e = .returned (.int .i64 4120) ∧ Below w.heap.size w w':=
 (Qz 4096 w).mono fun _ _ ⟨he,hw⟩ => ⟨he.trans rfl,hw ▸ aj _ _⟩
theorem zMI (w : World) : Calls Tryz.prog 28 #[.int .i64 0] w fun e w' => e = .returned (.int .i64 24) ∧ Below w.heap.size w w':=
 (Qz 0 w).mono fun _ _ ⟨he,hw⟩ => ⟨he.trans rfl,hw ▸ aj _ _⟩
theorem zF2 (i l : Int) (r : Bool) (a : Option Addr) (n c : Nat) (w : World) (hA : ¬ (0 ≤ i ∧ i < 4 ∧ 4136 ≤ l ∧ l ≤ 262144 ∧ 1 ≤ n ∧ n ≤ 8)) :
  Calls Tryz.prog 76 #[ze i l r a n c] w fun e w' => e = .returned (.bool false) ∧ Below w.heap.size w w':=by
 have HZ:=zh (fun W => zDO W);have eG:=zh (fc.new w i l r a n c 31);have eQ:=zh (zS w i l r a n c 31);have hc : i < 0 ∨ (0 ≤ i ∧ 4 ≤ i) ∨ (0 ≤ i ∧ i < 4 ∧ l < 4136) ∨ (0 ≤ i ∧ i < 4 ∧ 4136 ≤ l ∧ 262144 < l) ∨ (0 ≤ i ∧ i < 4 ∧ 4136 ≤ l ∧ l ≤ 262144 ∧ n < 1) ∨ (0 ≤ i ∧ i < 4 ∧ 4136 ≤ l ∧ l ≤ 262144 ∧ 1 ≤ n ∧ 8 < n):=by omega
 clear hA
 go_enter Tryz.func76,Tryz.ntmps76
 go_upto_region 1 with fail;obtain ⟨W,hW⟩ : ∃ W,w.alloc (.cells (zN i l r a n c) 31) = W:=⟨_,rfl⟩
 change Code.wp _ _ _ _ (w.alloc (.cells (zN i l r a n c) 31));rw [hW] at eG eQ ⊢;have Dm:=eG.out.lt;have y3:=eG.out.c3;clear hW;go_upto_region 2 with fail;clear y3;have k0:=zB eG.out.c0;have k1:=zB eG.out.c1;rcases hc with h1 | ⟨h1,h2⟩ | ⟨h1,h2,h3⟩ | ⟨h1,h2,h3,h4⟩ | ⟨h1,h2,h3,h4,h5⟩ | ⟨h1,h2,h3,h4,h5,h6⟩
 ·
  have e0 : decide (i < 0) = true:=by simp; omega
  refine zC (by kernel_rfl) (by kernel_rfl) ?_
  repeat (go_big_quiet_step ((exact zE (HZ.out _))))
  refine aA ?_;intro _ hw';obtain ⟨q,hw'⟩:=hw';subst hw';have HQ:=zh (zA eQ.out q.h);clear k0 k1;go_wp2_with fail;go_ret;exact ⟨rfl,HQ.out⟩
 ·
  have e0 : decide (i < 0) = false:=by simp; omega
  have e1 : decide (4 ≤ i) = true:=by simp; omega
  refine zC (by kernel_rfl) (by kernel_rfl) ?_
  repeat (go_big_quiet_step ((exact zE (HZ.out _))))
  refine aA ?_;intro _ hw';obtain ⟨q,hw'⟩:=hw';subst hw';have HQ:=zh (zA eQ.out q.h);clear k0 k1;go_wp2_with fail;go_ret;exact ⟨rfl,HQ.out⟩
 ·
  have e0 : decide (i < 0) = false:=by simp; omega
  have e1 : decide (4 ≤ i) = false:=by simp; omega
  have e2 : decide (l < 4136) = true:=by simp; omega
  refine zC (by kernel_rfl) (by kernel_rfl) ?_
  repeat (go_big_quiet_step ((exact zE (HZ.out _))))
  refine aA ?_;intro _ hw';obtain ⟨q,hw'⟩:=hw';subst hw';have HQ:=zh (zA eQ.out q.h);clear k0 k1;go_wp2_with fail;go_ret;exact ⟨rfl,HQ.out⟩
 ·
  have e0 : decide (i < 0) = false:=by simp; omega
  have e1 : decide (4 ≤ i) = false:=by simp; omega
  have e2 : decide (l < 4136) = false:=by simp; omega
  have e3 : decide (262144 < l) = true:=by simp; omega
  refine zC (by kernel_rfl) (by kernel_rfl) ?_
  repeat (go_big_quiet_step ((exact zE (HZ.out _))))
  refine aA ?_;intro _ hw';obtain ⟨q,hw'⟩:=hw';subst hw';have HQ:=zh (zA eQ.out q.h);clear k0 k1;go_wp2_with fail;go_ret;exact ⟨rfl,HQ.out⟩
 ·
  have e0 : decide (i < 0) = false:=by simp; omega
  have e1 : decide (4 ≤ i) = false:=by simp; omega
  have e2 : decide (l < 4136) = false:=by simp; omega
  have e3 : decide (262144 < l) = false:=by simp; omega
  have e4 : decide ((n : Int) < 1) = true:=by simp; omega
  refine zC (by kernel_rfl) (by kernel_rfl) ?_
  repeat (go_big_quiet_step ((exact zE (HZ.out _))))
  refine aA ?_;intro _ hw';obtain ⟨q,hw'⟩:=hw';subst hw';have HQ:=zh (zA eQ.out q.h);clear k0 k1;go_wp2_with fail;go_ret;exact ⟨rfl,HQ.out⟩
 have e0 : decide (i < 0) = false:=by simp; omega
 have e1 : decide (4 ≤ i) = false:=by simp; omega
 have e2 : decide (l < 4136) = false:=by simp; omega
 have e3 : decide (262144 < l) = false:=by simp; omega
 have e4 : decide ((n : Int) < 1) = false:=by simp; omega
 have e5 : decide ((8 : Int) < (n : Int)) = true:=by simp; omega
 refine zC (by kernel_rfl) (by kernel_rfl) ?_
 repeat (go_big_quiet_step ((exact zE (HZ.out _))))
 refine aA ?_;intro _ hw';obtain ⟨q,hw'⟩:=hw';subst hw';have HQ:=zh (zA eQ.out q.h);clear k0 k1;go_wp2_with fail;go_ret;exact ⟨rfl,HQ.out⟩
theorem zFQ (i l : Int) (r : Bool) (a : Option Addr) (n c : Nat) (L : List GP) (w : World) (hA : 0 ≤ i ∧ i < 4 ∧ 4136 ≤ l ∧ l ≤ 262144) (hn : 1 ≤ n ∧ n ≤ 8)
  (h : fH w (.slice a n c) L) (hs : ∀ p ∈ L,∀ j,j < 8 → (p.1.m.st j).length ≤ 10000) :
  Calls Tryz.prog 76 #[ze i l r a n c] w fun e w' => e = .returned (.bool (zd ⟨i,l,r,ea L⟩)) ∧ Below w.heap.size w w':=by
 have HZ:=zh (fun W => zDO W);have XW:=zh (fun W => zMI W);have eG:=zh (fc.new w i l r a n c 31);have eQ:=zh (zS w i l r a n c 31);have gy : L.length = n:=by
  obtain ⟨_,_,e,_⟩:=h.shape;injection e with _ e _; exact e.symm
 have HR:=zh h;have HS:=zh hs;have iL:=zh gy;have iB:=zh (fun k (hk : k < n) (h : ¬ Fl ⟨i,l,r,ea L⟩ k) => zC6 (s:=⟨i,l,r,ea L⟩) (by show k < (ea L).length; rw [yB,gy]; exact hk) h)
 have iO:=zh (fun (h : ∀ k,k < n → Fl ⟨i,l,r,ea L⟩ k) => show zd ⟨i,l,r,ea L⟩ = decide ((pat L (n - 1)).1.size + (((zG (pat L (n - 1)).1.m).length * 24 : Nat) : Int) ≤ 2 * l) from by
  rw [dA,zZ,aS]
  have hl : (ea L).length = n:=by rw [yB,gy]
  constructor
  ·
   intro h
   have:=h.top
   simp only [xJ,hl] at this
   exact this
  intro ht
  refine ⟨⟨hA.1,hA.2.1⟩,hA.2.2,by rw [hl]; exact hn,fun k hk => h k (by rw [hl] at hk; exact hk),?_⟩
  simp only [xJ,hl]
  exact ht)
 have C_:=zh (fun k => show Fl ⟨i,l,r,ea L⟩ k ↔ (wM (pat L k).1 = true ∧ (0 < k → (pat L (k - 1)).1.num < (pat L k).1.num) ∧ ((pat L k).1.mode = 1 ↔ k + 1 = n) ∧ (pat L k).1.size ≤ 2 * l) from by
  unfold Fl
  simp only [xJ,yB,gy])
 generalize zd ⟨i,l,r,ea L⟩ = res at *;generalize hok : Fl ⟨i,l,r,ea L⟩ = ok at *;clear hok;obtain ⟨h1,h2,h3,h4⟩:=hA;obtain ⟨Ds,Em⟩:=hn;clear h hs gy
 go_enter Tryz.func76,Tryz.ntmps76
 go_upto_region 1 with fail;obtain ⟨W,hW⟩ : ∃ W,w.alloc (.cells (zN i l r a n c) 31) = W:=⟨_,rfl⟩
 change Code.wp _ _ _ _ (w.alloc (.cells (zN i l r a n c) 31));rw [hW] at eG eQ ⊢;have Dm:=eG.out.lt;have y3:=eG.out.c3;clear hW;go_upto_region 2 with fail;clear y3;have k0:=zB eG.out.c0;have k1:=zB eG.out.c1;have e0 : decide (i < 0) = false:=by simp; omega
 have e1 : decide (4 ≤ i) = false:=by simp; omega
 have e2 : decide (l < 4136) = false:=by simp; omega
 have e3 : decide (262144 < l) = false:=by simp; omega
 have e4 : decide ((n : Int) < 1) = false:=by simp; omega
 have e5 : decide ((8 : Int) < (n : Int)) = false:=by simp; omega
 refine zC (by kernel_rfl) (by kernel_rfl) ?_
 repeat (go_big_quiet_step ((exact zE (HZ.out _))))
 refine aA ?_;intro _ hw';obtain ⟨q,hw'⟩:=hw';subst hw';have HQ:=zh (zA eQ.out q.h);have HX:=zh (eG.out.below q.h);generalize q.w' = w1 at *;clear k0 k1 e0 e1 e2 e3 e4 e5 HZ eG eQ;have NI:=HX.out.lt;have eY:=zh (HR.out.below HQ.out);go_wp2_with fail
 go_loopw [4] (fun x wr => ∃ k : Nat,k ≤ n ∧ x = .int .i64 (k : Int) ∧ (∀ j,j < k → ok j) ∧ Below w1.heap.size w1 wr) (fun x _ => n - (intOf x).toNat)
 case atStart => exact ⟨0,aq _,rfl,fun j hj => absurd hj (by omega),aj _ _⟩
 obtain ⟨k,hk,rfl,JF,hb⟩:=hrel;have mf:=zh JF;have Hb:=zh hb;have Cm:=hb.size;clear JF hb;have jy:=zh (HX.out.below Hb.out);have h_:=zh (eY.out.below Hb.out)
 by_cases hlt : k < n
 ·
  obtain ⟨b,off,rfl,hg⟩:=h_.out.at hlt;have hmem:=xN (l:=L) (i:=k) (by rw [iL.out]; exact hlt);have mJ:=zh (h_.out.m _ hmem);have HV:=zh (fun W (hb : Below wr.heap.size wr W) => uU (pat L k).1 (pat L k).2 W (mJ.out.below hb) (HS.out _ hmem));have gU:=zh (C_.out k);have lU:=zh (fun j (hj : j < n) => (h_.out.Ru hj).n0);clear hmem mJ;generalize pat L k = p at *;obtain ⟨⟨num,rev,md,sz,f,LV,GA⟩,s⟩:=p;dsimp only at HV gU hg;generalize wM ⟨num,rev,md,sz,f,LV,GA⟩ = vb at *;obtain ⟨g0,g1,g2,g3,g4,g5,g6,g7,g8,g9,g10,g11,g12,g13⟩:=hg;dsimp only at g0 g1 g2 g3 g4 g5 g6 g7 g8 g9 g10 g11 g12 g13;have x3:=jy.out.c3;have gC:=zh (eH.new wr num rev md sz s LV GA 113);have mK:=zh (zb wr num rev md sz s LV GA 113);go_upto_region 8 with fail;change Code.wp _ _ _ _ (wr.alloc (.cells (zQ num rev md sz s LV GA) 113))
  obtain ⟨W,hW⟩ : ∃ W,wr.alloc (.cells (zQ num rev md sz s LV GA) 113) = W:=⟨_,rfl⟩
  rw [hW] at gC mK ⊢;have jN:=zh (iT Hb.out Cm mK.out);have gV:=ak Cm mK.out.size;have XX:=gC.out.lt;have H6:=zh (jy.out.below mK.out);have XY:=H6.out.lt;have pZ:=zh (fun W' (hb : Below W.heap.size W W') => HV.out W' (zA mK.out hb));have T_:=zh (fun j (hj : j < n) => Below.keeps mK.out _ _ (lU.out j hj));clear hW g0 g1 g2 g3 g4 g5 g6 g7 g8 g9 g10 g11 g12 g13 x3 HV lU jy;obtain ⟨bl,e7,hbl⟩ : ∃ bl,((k : Int) == (n : Int) - 1) = bl ∧ (bl = true ↔ k + 1 = n):=⟨_,rfl,by rw [ct]; omega⟩
  obtain ⟨bm,e8,IQ⟩ : ∃ bm,(md == 1) = bm ∧ (bm = true ↔ md = 1):=⟨_,rfl,by rw [ct]⟩
  have H7:=zh IQ;have fg:=zh hbl;clear IQ hbl;obtain ⟨bx,e9,fF⟩ : ∃ bx,(bm != bl) = bx ∧ (bx = false ↔ bm = bl):=⟨_,rfl,by cases bm <;> cases bl <;> decide⟩
  have j1 : IntKind.i64.wrap ((n : Int) - 1) = (n : Int) - 1:=aF _ (by omega);have j2 : IntKind.i64.wrap (2 * l) = 2 * l:=aF _ (by omega);have y3:=H6.out.c3;go_wp2_with fail;clear y3;have m0:=zB gC.out.n0;have m1:=zB gC.out.n1;have m2:=zB gC.out.n2;have m3:=zB gC.out.n3;have m4:=zB gC.out.c0;have m5:=zB gC.out.c1;have m6:=zB gC.out.c2;have m7:=zB gC.out.c3;have m8:=zB gC.out.c4;have m9:=zB gC.out.c5;have m10:=zB gC.out.c6;have m11:=zB gC.out.c7;have m12:=zB gC.out.cl;have m13:=zB gC.out.cg;have v1:=zB H6.out.c1;have v3:=zB H6.out.c3
  cases vb
  ·
   refine zC (by kernel_rfl) (by kernel_rfl) ?_
   repeat (go_big_quiet_step ((exact zE (pZ.out _ (ei.h _)))))
   refine aA ?_;intro _ hw';obtain ⟨q,hw'⟩:=hw';subst hw';have gT:=zh (iT jN.out gV q.h);generalize q.w' = W2 at *;clear m0 m1 m2 m3 m4 m5 m6 m7 m8 m9 m10 m11 m12 m13 v1 v3;go_wp2_with fail;go_ret;exact ⟨zH (iB.out k hlt fun h => by have:=(gU.out.1 h).1; cases this).symm,zA HQ.out gT.out⟩
  cases bx
  ·
   have Cn:=zh (show bm = bl from fF.1 rfl);rcases zJJ Cn.out with ⟨rfl,rfl⟩ | ⟨rfl,rfl⟩
   ·
    as_aux_lemma =>
    clear e9 fF
    by_cases hk0 : k = 0
    ·
     have e0 : decide ((0 : Int) < (k : Int)) = false:=by simp; omega
     have e7z : ((0 : Int) == (n : Int) - 1) = true:=by rw [← e7,hk0]; rfl
     have e0n : decide (0 < k) = false:=by rw [hk0]; rfl
     have Mb:=zh hk0;clear hk0
     by_cases hsz : 2 * l < sz
     ·
      have Dt : decide (2 * l < sz) = true:=by simp; omega
      refine zC (by kernel_rfl) (by kernel_rfl) ?_
      repeat (go_big_quiet_step ((exact zE (pZ.out _ (ei.h _)))))
      refine aA ?_;intro _ hw';obtain ⟨q,hw'⟩:=hw';subst hw';have gT:=zh (iT jN.out gV q.h);generalize q.w' = W2 at *;clear m0 m1 m2 m3 m4 m5 m6 m7 m8 m9 m10 m11 m12 m13 v1 v3;go_wp2_with fail;go_ret;exact ⟨zH (iB.out k hlt fun h => by have:=(gU.out.1 h).2.2.2; omega).symm,zA HQ.out gT.out⟩
     have Dt : decide (2 * l < sz) = false:=by simp; omega
     have iW:=zh (show sz ≤ 2 * l by omega);refine zC (by kernel_rfl) (by kernel_rfl) ?_
     repeat (go_big_quiet_step ((exact zE (pZ.out _ (ei.h _)))))
     refine aA ?_;intro _ hw';obtain ⟨q,hw'⟩:=hw';subst hw';have gT:=zh (iT jN.out gV q.h);generalize q.w' = W2 at *;clear m0 m1 m2 m3 m4 m5 m6 m7 m8 m9 m10 m11 m12 m13 v1 v3;go_wp2_with fail
     exact ⟨⟨k + 1,by omega,by go_num,fun j' hj => by
      by_cases e : j' = k
      ·
       rw [e]; exact gU.out.2 ⟨rfl,fun h => absurd h (by have:=Mb.out; omega),by rw [← H7.out,← fg.out],iW.out⟩
      exact mf.out j' (by omega),gT.out⟩,by simp [intOf]; omega⟩
    obtain ⟨j,rfl⟩ : ∃ j,k = j + 1:=⟨k - 1,by omega⟩
    have e0 : decide ((0 : Int) < ((j + 1 : Nat) : Int)) = true:=by simp
    have e7j : ((j : Int) + 1 == (n : Int) - 1) = true:=e7;have p0:=zB (T_.out j (by omega));have IY : j + 1 - 1 = j:=by omega
    rw [IY] at gU;generalize (pat L j).1.num = pn at *;have i1 : (j : Int) + 1 < (n : Int):=by omega
    have i2 : (j : Int) < (n : Int):=by omega
    have j3 : IntKind.i64.wrap (j : Int) = (j : Int):=aF _ (by omega)
    by_cases hpn : num ≤ pn
    ·
     have e11 : decide (num ≤ pn) = true:=by simp; omega
     refine zC (by kernel_rfl) (by kernel_rfl) ?_
     repeat (go_big_quiet_step ((exact zE (pZ.out _ (ei.h _)))))
     refine aA ?_;intro _ hw';obtain ⟨q,hw'⟩:=hw';subst hw';have gT:=zh (iT jN.out gV q.h);generalize q.w' = W2 at *;clear m0 m1 m2 m3 m4 m5 m6 m7 m8 m9 m10 m11 m12 m13 v1 v3;go_wp2_with fail;go_ret;exact ⟨zH (iB.out (j + 1) hlt fun h => by have:=(gU.out.1 h).2.1 (by omega); omega).symm,zA HQ.out gT.out⟩
    have e11 : decide (num ≤ pn) = false:=by simp; omega
    have lC:=zh (show pn < num by omega)
    by_cases hsz : 2 * l < sz
    ·
     have Dt : decide (2 * l < sz) = true:=by simp; omega
     refine zC (by kernel_rfl) (by kernel_rfl) ?_
     repeat (go_big_quiet_step ((exact zE (pZ.out _ (ei.h _)))))
     refine aA ?_;intro _ hw';obtain ⟨q,hw'⟩:=hw';subst hw';have gT:=zh (iT jN.out gV q.h);generalize q.w' = W2 at *;clear m0 m1 m2 m3 m4 m5 m6 m7 m8 m9 m10 m11 m12 m13 v1 v3;go_wp2_with fail;go_ret;exact ⟨zH (iB.out (j + 1) hlt fun h => by have:=(gU.out.1 h).2.2.2; omega).symm,zA HQ.out gT.out⟩
    have Dt : decide (2 * l < sz) = false:=by simp; omega
    have iW:=zh (show sz ≤ 2 * l by omega);refine zC (by kernel_rfl) (by kernel_rfl) ?_
    repeat (go_big_quiet_step ((exact zE (pZ.out _ (ei.h _)))))
    refine aA ?_;intro _ hw';obtain ⟨q,hw'⟩:=hw';subst hw';have gT:=zh (iT jN.out gV q.h);generalize q.w' = W2 at *;clear m0 m1 m2 m3 m4 m5 m6 m7 m8 m9 m10 m11 m12 m13 v1 v3;go_wp2_with fail
    exact ⟨⟨j + 1 + 1,by omega,by go_num,fun j' hj => by
     by_cases e : j' = (j + 1)
     ·
      rw [e]; exact gU.out.2 ⟨rfl,fun _ => lC.out,by rw [← H7.out,← fg.out],iW.out⟩
     exact mf.out j' (by omega),gT.out⟩,by simp [intOf]; omega⟩
   as_aux_lemma =>
   clear e9 fF
   by_cases hk0 : k = 0
   ·
    have e0 : decide ((0 : Int) < (k : Int)) = false:=by simp; omega
    have e7z : ((0 : Int) == (n : Int) - 1) = false:=by rw [← e7,hk0]; rfl
    have e0n : decide (0 < k) = false:=by rw [hk0]; rfl
    have Mb:=zh hk0;clear hk0
    by_cases hsz : 2 * l < sz
    ·
     have Dt : decide (2 * l < sz) = true:=by simp; omega
     refine zC (by kernel_rfl) (by kernel_rfl) ?_
     repeat (go_big_quiet_step ((exact zE (pZ.out _ (ei.h _)))))
     refine aA ?_;intro _ hw';obtain ⟨q,hw'⟩:=hw';subst hw';have gT:=zh (iT jN.out gV q.h);generalize q.w' = W2 at *;clear m0 m1 m2 m3 m4 m5 m6 m7 m8 m9 m10 m11 m12 m13 v1 v3;go_wp2_with fail;go_ret;exact ⟨zH (iB.out k hlt fun h => by have:=(gU.out.1 h).2.2.2; omega).symm,zA HQ.out gT.out⟩
    have Dt : decide (2 * l < sz) = false:=by simp; omega
    have iW:=zh (show sz ≤ 2 * l by omega);refine zC (by kernel_rfl) (by kernel_rfl) ?_
    repeat (go_big_quiet_step ((exact zE (pZ.out _ (ei.h _)))))
    refine aA ?_;intro _ hw';obtain ⟨q,hw'⟩:=hw';subst hw';have gT:=zh (iT jN.out gV q.h);generalize q.w' = W2 at *;clear m0 m1 m2 m3 m4 m5 m6 m7 m8 m9 m10 m11 m12 m13 v1 v3;go_wp2_with fail
    exact ⟨⟨k + 1,by omega,by go_num,fun j' hj => by
     by_cases e : j' = k
     ·
      rw [e]; exact gU.out.2 ⟨rfl,fun h => absurd h (by have:=Mb.out; omega),by rw [← H7.out,← fg.out],iW.out⟩
     exact mf.out j' (by omega),gT.out⟩,by simp [intOf]; omega⟩
   obtain ⟨j,rfl⟩ : ∃ j,k = j + 1:=⟨k - 1,by omega⟩
   have e0 : decide ((0 : Int) < ((j + 1 : Nat) : Int)) = true:=by simp
   have e7j : ((j : Int) + 1 == (n : Int) - 1) = false:=e7;have p0:=zB (T_.out j (by omega));have IY : j + 1 - 1 = j:=by omega
   rw [IY] at gU;generalize (pat L j).1.num = pn at *;have i1 : (j : Int) + 1 < (n : Int):=by omega
   have i2 : (j : Int) < (n : Int):=by omega
   have j3 : IntKind.i64.wrap (j : Int) = (j : Int):=aF _ (by omega)
   by_cases hpn : num ≤ pn
   ·
    have e11 : decide (num ≤ pn) = true:=by simp; omega
    refine zC (by kernel_rfl) (by kernel_rfl) ?_
    repeat (go_big_quiet_step ((exact zE (pZ.out _ (ei.h _)))))
    refine aA ?_;intro _ hw';obtain ⟨q,hw'⟩:=hw';subst hw';have gT:=zh (iT jN.out gV q.h);generalize q.w' = W2 at *;clear m0 m1 m2 m3 m4 m5 m6 m7 m8 m9 m10 m11 m12 m13 v1 v3;go_wp2_with fail;go_ret;exact ⟨zH (iB.out (j + 1) hlt fun h => by have:=(gU.out.1 h).2.1 (by omega); omega).symm,zA HQ.out gT.out⟩
   have e11 : decide (num ≤ pn) = false:=by simp; omega
   have lC:=zh (show pn < num by omega)
   by_cases hsz : 2 * l < sz
   ·
    have Dt : decide (2 * l < sz) = true:=by simp; omega
    refine zC (by kernel_rfl) (by kernel_rfl) ?_
    repeat (go_big_quiet_step ((exact zE (pZ.out _ (ei.h _)))))
    refine aA ?_;intro _ hw';obtain ⟨q,hw'⟩:=hw';subst hw';have gT:=zh (iT jN.out gV q.h);generalize q.w' = W2 at *;clear m0 m1 m2 m3 m4 m5 m6 m7 m8 m9 m10 m11 m12 m13 v1 v3;go_wp2_with fail;go_ret;exact ⟨zH (iB.out (j + 1) hlt fun h => by have:=(gU.out.1 h).2.2.2; omega).symm,zA HQ.out gT.out⟩
   have Dt : decide (2 * l < sz) = false:=by simp; omega
   have iW:=zh (show sz ≤ 2 * l by omega);refine zC (by kernel_rfl) (by kernel_rfl) ?_
   repeat (go_big_quiet_step ((exact zE (pZ.out _ (ei.h _)))))
   refine aA ?_;intro _ hw';obtain ⟨q,hw'⟩:=hw';subst hw';have gT:=zh (iT jN.out gV q.h);generalize q.w' = W2 at *;clear m0 m1 m2 m3 m4 m5 m6 m7 m8 m9 m10 m11 m12 m13 v1 v3;go_wp2_with fail
   exact ⟨⟨j + 1 + 1,by omega,by go_num,fun j' hj => by
    by_cases e : j' = (j + 1)
    ·
     rw [e]; exact gU.out.2 ⟨rfl,fun _ => lC.out,by rw [← H7.out,← fg.out],iW.out⟩
    exact mf.out j' (by omega),gT.out⟩,by simp [intOf]; omega⟩
  have Cn:=zh (show bm ≠ bl from fun h => by cases fF.2 h);rcases XV Cn.out with ⟨rfl,rfl⟩ | ⟨rfl,rfl⟩
  ·
   as_aux_lemma =>
   clear e9 fF;refine zC (by kernel_rfl) (by kernel_rfl) ?_
   repeat (go_big_quiet_step ((exact zE (pZ.out _ (ei.h _)))))
   refine aA ?_;intro _ hw';obtain ⟨q,hw'⟩:=hw';subst hw';have gT:=zh (iT jN.out gV q.h);generalize q.w' = W2 at *;clear m0 m1 m2 m3 m4 m5 m6 m7 m8 m9 m10 m11 m12 m13 v1 v3;go_wp2_with fail;go_ret
   exact ⟨zH (iB.out k hlt fun h => by
     have h5:=(gU.out.1 h).2.2.1
     rw [← H7.out,← fg.out] at h5
     simp at h5).symm,zA HQ.out gT.out⟩
  as_aux_lemma =>
  clear e9 fF;refine zC (by kernel_rfl) (by kernel_rfl) ?_
  repeat (go_big_quiet_step ((exact zE (pZ.out _ (ei.h _)))))
  refine aA ?_;intro _ hw';obtain ⟨q,hw'⟩:=hw';subst hw';have gT:=zh (iT jN.out gV q.h);generalize q.w' = W2 at *;clear m0 m1 m2 m3 m4 m5 m6 m7 m8 m9 m10 m11 m12 m13 v1 v3;go_wp2_with fail;go_ret
  exact ⟨zH (iB.out k hlt fun h => by
    have h5:=(gU.out.1 h).2.2.1
    rw [← H7.out,← fg.out] at h5
    simp at h5).symm,zA HQ.out gT.out⟩
 as_aux_lemma =>
 obtain rfl : k = n:=by omega
 have HF:=zh (iO.out mf.out);obtain ⟨j,rfl⟩ : ∃ j,k = j + 1:=⟨k - 1,by omega⟩
 have IY : j + 1 - 1 = j:=by omega
 rw [IY] at HF;obtain ⟨b,off,rfl,hg⟩:=h_.out.at (show j < j + 1 by omega);have hmem:=xN (l:=L) (i:=j) (by rw [iL.out]; omega);have mJ:=zh (h_.out.m _ hmem);have HV:=zh (fun W (hb : Below wr.heap.size wr W) => zHN (pat L j).2 (pat L j).1.m W (mJ.out.below hb) (HS.out _ hmem));have hil : (zG (pat L j).1.m).length ≤ 80000:=wR (HS.out _ hmem);have hsz:=((C_.out j).1 (mf.out j (by omega))).2.2.2;have XZ:=((yF _).1 ((C_.out j).1 (mf.out j (by omega))).1).size.1;clear hmem mJ iO iB C_ mf HS;generalize (zG (pat L j).1.m).length = len at *;generalize pat L j = p at *;obtain ⟨⟨num,rev,md,sz,f,LV,GA⟩,s⟩:=p;dsimp only at HV HF hg hsz XZ;obtain ⟨g0,g1,g2,g3,g4,g5,g6,g7,g8,g9,g10,g11,g12,g13⟩:=hg;dsimp only at g0 g1 g2 g3 g4 g5 g6 g7 g8 g9 g10 g11 g12 g13;have x3:=jy.out.c3;have gC:=zh (eH.new wr num rev md sz s LV GA 113)
 have mK:=zh (zb wr num rev md sz s LV GA 113);have j3 : IntKind.i64.wrap (j : Int) = (j : Int):=aF _ (by omega);have i1 : (j : Int) + 1 < ((j + 1 : Nat) : Int) + 1:=by omega
 have i2 : (j : Int) < ((j + 1 : Nat) : Int):=by omega
 go_upto_region 11 with fail;change Code.wp _ _ _ _ (wr.alloc (.cells (zQ num rev md sz s LV GA) 113));obtain ⟨W,hW⟩ : ∃ W,wr.alloc (.cells (zQ num rev md sz s LV GA) 113) = W:=⟨_,rfl⟩
 rw [hW] at gC mK ⊢;have jN:=zh (iT Hb.out Cm mK.out);have gV:=ak Cm mK.out.size;have XX:=gC.out.lt;have H6:=zh (jy.out.below mK.out);have pZ:=zh (fun W' (hb : Below W.heap.size W W') => HV.out W' (zA mK.out hb));clear hW g0 g1 g2 g3 g4 g5 g6 g7 g8 g9 g10 g11 g12 g13 x3 HV jy;have j2 : IntKind.i64.wrap (2 * l) = 2 * l:=aF _ (by omega);have j4 : IntKind.i64.wrap (24 * (len : Int)) = 24 * (len : Int):=aF _ (by omega);have j5 : IntKind.i64.wrap (sz + 24 * (len : Int)) = sz + 24 * (len : Int):=aF _ (by omega);have m3:=zB gC.out.n3;have m4:=zB gC.out.c0;have m5:=zB gC.out.c1;have m6:=zB gC.out.c2;have m7:=zB gC.out.c3;have m8:=zB gC.out.c4;have m9:=zB gC.out.c5;have m10:=zB gC.out.c6;have m11:=zB gC.out.c7;have m12:=zB gC.out.cl;have m13:=zB gC.out.cg;have v1:=zB H6.out.c1;refine zC (by kernel_rfl) (by kernel_rfl) ?_
 repeat (go_big_quiet_step ((first | exact zE (pZ.out _ (ei.h _)) | exact zE (XW.out _))))
 refine aA ?_;intro _ hw';obtain ⟨q,hw'⟩:=hw';subst hw';have gT:=zh (iT jN.out gV q.h);generalize q.w' = W2 at *;clear m3 m4 m5 m6 m7 m8 m9 m10 m11 m12 m13 v1;go_wp2_with fail;go_ret;exact ⟨zH (by rw [HF.out]; congr 1; rw [eq_iff_iff]; push_cast; omega),zA HQ.out gT.out⟩
theorem xY (i l : Int) (r : Bool) (a : Option Addr) (n c : Nat) (L : List GP) (w : World) (h : fH w (.slice a n c) L) (hs : ∀ p ∈ L,∀ j,j < 8 → (p.1.m.st j).length ≤ 10000) :
  Calls Tryz.prog 76 #[ze i l r a n c] w fun e w' => e = .returned (.bool (zd ⟨i,l,r,ea L⟩)) ∧ Below w.heap.size w w':=by
 have gy : L.length = n:=by
  obtain ⟨_,_,e,_⟩:=h.shape;injection e with _ e _; exact e.symm
 by_cases hA : 0 ≤ i ∧ i < 4 ∧ 4136 ≤ l ∧ l ≤ 262144 ∧ 1 ≤ n ∧ n ≤ 8
 ·
  exact zFQ i l r a n c L w ⟨hA.1,hA.2.1,hA.2.2.1,hA.2.2.2.1⟩ hA.2.2.2.2 h hs
 have hf : zd ⟨i,l,r,ea L⟩ = false:=qm fun hv => hA ⟨hv.id.1,hv.id.2,hv.lim.1,hv.lim.2,by have:=hv.len; rw [yB,gy] at this; exact this⟩
 rw [hf];exact zF2 i l r a n c w hA
end Go.Proofs.YtcgfilmmokmdjaaGreat
