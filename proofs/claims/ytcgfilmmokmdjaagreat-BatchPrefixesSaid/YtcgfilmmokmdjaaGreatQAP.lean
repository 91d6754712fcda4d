/- A part of the walk. -/
import Derived.Test.YtcgfilmmokmdjaaGreatQAO
import Derived.Deep.MidRow
import Derived.Test.YtcgfilmmokmdjaaGreatHj
import Derived.OneCell
import Derived.Test.YtcgfilmmokmdjaaGreatQAK
set_option linter.all false
set_option maxRecDepth 100000
set_option maxHeartbeats 32000000
namespace Go.Proofs.YtcgfilmmokmdjaaGreat
open Go.RowKit
theorem vk (w : World) (i l : Int) (r : Bool) (a : Option Addr) (n c : Nat) (y : GP) (t u : TypeId) : ∃ W,((w.alloc (.cells (zN i l r a n c) t)).alloc (.cells (zQ y.1.num y.1.rev y.1.mode y.1.size y.2 y.1.m.live y.1.m.dZ) u)).alloc (.cells (zN 0 0 false none 0 0) t) = W ∧ fc W w.heap.size i l r a n c ∧ eH W (w.heap.size + 1) y.1.num y.1.rev y.1.mode y.1.size y.2 y.1.m.live y.1.m.dZ ∧ fc W (w.heap.size + 2) 0 0 false none 0 0 ∧ Below w.heap.size w W:=by
 have h1:=fc.new w i l r a n c t;have b1:=zS w i l r a n c t;generalize hw1 : w.alloc (.cells (zN i l r a n c) t) = w1 at *;have e1 : w1.heap.size = w.heap.size + 1:=by rw [← hw1,dI]
 have h2:=eH.new w1 y.1.num y.1.rev y.1.mode y.1.size y.2 y.1.m.live y.1.m.dZ u;have b2:=zb w1 y.1.num y.1.rev y.1.mode y.1.size y.2 y.1.m.live y.1.m.dZ u;generalize hw2 : w1.alloc (.cells (zQ y.1.num y.1.rev y.1.mode y.1.size y.2 y.1.m.live y.1.m.dZ) u) = w2 at *;have e2 : w2.heap.size = w.heap.size + 2:=by rw [← hw2,dI,e1]
 have h3:=fc.new w2 0 0 false none 0 0 t;have b3:=zS w2 0 0 false none 0 0 t;rw [e1] at h2;rw [e2] at h3;exact ⟨_,rfl,(h1.below b2).below b3,h2.below b3,h3,zA (zA b1 b2) b3⟩
theorem zAC (b : Nat) : ∀ (vs : List Value) (o : Nat) (W : World),W.setCells b o vs = pts W b (RH o vs)
 | [],_,_ => rfl
 | v :: r,o,W => zAC b r (o + 1) _
theorem Bb.there {W : World} {g o : Nat} {p : GP} (h : Bb W g o p) (hf : ∀ i,W.frozen? ⟨g,i,none⟩ = false) : W.there g o 14:=fun j hj => by
 refine ⟨?_,hf _⟩;rcases (show j = 0 ∨ j = 1 ∨ j = 2 ∨ j = 3 ∨ j = 4 ∨ j = 5 ∨ j = 6 ∨ j = 7 ∨ j = 8 ∨ j = 9 ∨ j = 10 ∨ j = 11 ∨ j = 12 ∨ j = 13 by omega) with e | e | e | e | e | e | e | e | e | e | e | e | e | e <;> subst e
 ·
  rw [bu,h.n0]; rfl
 ·
  rw [h.n1]; rfl
 ·
  rw [h.n2]; rfl
 ·
  rw [h.n3]; rfl
 ·
  rw [h.c0]; rfl
 ·
  rw [h.c1]; rfl
 ·
  rw [h.c2]; rfl
 ·
  rw [h.c3]; rfl
 ·
  rw [h.c4]; rfl
 ·
  rw [h.c5]; rfl
 ·
  rw [h.c6]; rfl
 ·
  rw [h.c7]; rfl
 ·
  rw [h.cl]; rfl
 rw [h.cg]; rfl
theorem zLk : (Tryz.prog.info? 113).map (·.size) = some 14:=by kernel_rfl
theorem Yo : (Tryz.prog.info? 38).map (·.size) = some 14:=by kernel_rfl
theorem Ur (num rev md sz : Int) (s : Sl) (LV GA : Int) : (zQ num rev md sz s LV GA).all (·.oneCell') = true:=all_oneCell_toArray (Un (⟨num,rev,md,sz,⟨fun _ => [],LV,GA⟩⟩,s))
theorem k7 (W : World) (g o : Nat) (num rev md sz : Int) (s : Sl) (LV GA : Int) : W.setCells g o (zQ num rev md sz s LV GA).toList = pts W g (Dv o num rev md sz s LV GA):=zAC g _ o W
theorem zLW (i l : Int) (r : Bool) (a : Option Addr) (n c : Nat) (L : List GP) (w : World) (h : fH w (.slice a n c) L) (hs : ∀ p ∈ L,∀ j,j < 8 → (p.1.m.st j).length ≤ 10000) (y : GP) (hy : fq w y.2 y.1.m.st) (Cr : ∀ j,j < 8 → (y.1.m.st j).length ≤ 10000) (hv : zd ⟨i,l,r,ea L⟩ = false) :
  Calls Tryz.prog 44 #[ze i l r a n c,zV y.1.num y.1.rev y.1.mode y.1.size y.2 y.1.m.live y.1.m.dZ] w (jl w (yM ⟨i,l,r,ea L⟩ y.1)):=by
 have gH:=zh (fun W (hb : Below w.heap.size w W) => xY i l r a n c L W (h.below hb) hs);have HC:=zh (show yM ⟨i,l,r,ea L⟩ y.1 = (wJ,1) by unfold yM; rw [hv]; rfl);rw [hv] at gH;clear h hs hv hy Cr
 go_enter Tryz.func44,Tryz.ntmps44
 go_upto_region 1 with fail;change Code.wp _ _ _ _ (((w.alloc (.cells (zN i l r a n c) 31)).alloc (.cells (zQ y.1.num y.1.rev y.1.mode y.1.size y.2 y.1.m.live y.1.m.dZ) 113)).alloc (.cells (zN 0 0 false none 0 0) 31));obtain ⟨W,hW,fF,hbg,hbr,fP⟩:=vk w i l r a n c y 31 113;rw [hW];have HX:=zh fF;have HG:=zh hbg;have HR:=zh hbr;have HB:=zh fP;clear hW fF hbg hbr fP;obtain ⟨k0,k1,k2,k3⟩:=HX.out.q;go_wp2_with fail;refine (gH.out _ HB.out).mono ?_;rintro e w1 ⟨rfl,hb⟩;replace HX:=zh (HX.out.below hb);replace HR:=zh (HR.out.below hb);replace HB:=zh (zA HB.out hb);clear hb;clear k0 k1 k2 k3;obtain ⟨z0,z1,z2,z3⟩:=HR.out.q;have zf:=HR.out.f;go_wp2_with fail;change bodyPost _ _ _ _ _ (pts w1 (w.heap.size + 2) (zP 0 0 false none 0 0));have hby:=HR.out.all 0 0 false none 0 0
 have ey:=zh (zD (B:=w.heap.size) (b:=(w.heap.size + 2)) (by omega) (zP 0 0 false none 0 0) HB.out);generalize pts w1 (w.heap.size + 2) (zP 0 0 false none 0 0) = V at *;exact au (v:=.tuple #[ze 0 0 false none 0 0,.int .i64 1]) (by simp [results,Tryz.results44,go_sem,hby.c0,hby.c1,hby.c2,hby.c3]) rfl (by rw [HC.out]; exact jl.no ey.out)
theorem zJH (i l : Int) (r : Bool) (a : Option Addr) (n c : Nat) (L : List GP) (w : World) (h : fH w (.slice a n c) L) (hs : ∀ p ∈ L,∀ j,j < 8 → (p.1.m.st j).length ≤ 10000) (y : GP) (hy : fq w y.2 y.1.m.st) (Cr : ∀ j,j < 8 → (y.1.m.st j).length ≤ 10000) (hv : zd ⟨i,l,r,ea L⟩ = true) :
  Calls Tryz.prog 44 #[ze i l r a n c,zV y.1.num y.1.rev y.1.mode y.1.size y.2 y.1.m.live y.1.m.dZ] w (jl w (yM ⟨i,l,r,ea L⟩ y.1)):=by
 have gH:=zh (fun W (hb : Below w.heap.size w W) => xY i l r a n c L W (h.below hb) hs);have hV:=(zZ _).1 hv;have gy : L.length = n:=by
  obtain ⟨_,_,e,_⟩:=h.shape;injection e with _ e _; exact e.symm
 have hl : (ea L).length = n:=by rw [yB,gy]
 have hn : 1 ≤ n ∧ n ≤ 8:=by have:=hV.len; simp only [hl] at this; exact this
 have HC:=zh (show yM ⟨i,l,r,ea L⟩ y.1 = (if uv L y.1.num n = true then (if zd ⟨i,l,r,ea (qF L y)⟩ = true then (⟨i,l,r,ea (qF L y)⟩,0) else (wJ,1)) else (wJ,6)) by
  unfold yM; rw [ag hv,Yi L y.1.num n gy.symm,zKh])
 rw [hv] at gH
 have Bc:=zh (show ∀ W,Below w.heap.size w W → ∀ p ∈ qF L y,fq W p.2 p.1.m.st from fun W hb p hp => by
  rcases zFR hp with hp | rfl
  ·
   exact (h.m p hp).below hb
  exact hy.below hb)
 have DT:=zh (show ∀ p ∈ qF L y,∀ j,j < 8 → (p.1.m.st j).length ≤ 10000 from fun p hp => by
  rcases zFR hp with hp | rfl
  ·
   exact hs p hp
  exact Cr)
 have lC:=zh (show n = (qF L y).length by rw [t8,gy]);have Mb:=zh (zHZ L y);have Oc:=zh (zJ2 L y n gy.symm);have IZ:=zh (fun k => show n = (uL L y k).length by rw [zFH,gy]);have JJ:=zh (fun k (hk : k < n) => zGu (L:=L) (k:=k) (by omega) y);have HKs:=zh (fun k (hk : k < n) => show ((pat L k).1.num = y.1.num → uL L y (k + 1) = (uL L y k).set k y) ∧ ((pat L k).1.num ≠ y.1.num → uL L y (k + 1) = uL L y k) from ⟨fun e => by rw [zC0 (by omega),ag e],fun e => zIE (by omega) y e⟩);have RJ:=zh (fun k (hk : k < n) => zHi (L:=L) (k:=k) (by omega) y.1.num);have PR:=zh (show uv L y.1.num 0 = false from rfl)
 have Bd:=zh (fun W (hb : Below w.heap.size w W) => show Rd W 14 (.slice a n c) n (L.flatMap iY) from by
  have h1:=(ix.below h.r hb).2
  rwa [gy] at h1)
 have l6:=zh (Yj L);clear h hs hv hV gy hl hy Cr;obtain ⟨⟨num,rev,md,sz,⟨f,LV,GA⟩⟩,s⟩:=y;dsimp only at *
 go_enter Tryz.func44,Tryz.ntmps44
 go_upto_region 1 with fail;change Code.wp _ _ _ _ (((w.alloc (.cells (zN i l r a n c) 31)).alloc (.cells (zQ num rev md sz s LV GA) 113)).alloc (.cells (zN 0 0 false none 0 0) 31));obtain ⟨W,hW,fF,hbg,hbr,fP⟩:=vk w i l r a n c (⟨num,rev,md,sz,⟨f,LV,GA⟩⟩,s) 31 113;rw [hW];have HX:=zh fF;have HG:=zh hbg;have HR:=zh hbr;have HB:=zh fP;clear hW fF hbg hbr fP;have hB0 : w.heap.size + 3 ≤ W.heap.size:=by have:=HR.out.lt; omega
 dsimp only at HG;obtain ⟨k0,k1,k2,k3⟩:=HX.out.q;go_wp2_with fail;refine (gH.out _ HB.out).mono ?_;rintro e w1 ⟨rfl,hb⟩;replace HX:=zh (HX.out.below hb);replace HG:=zh (HG.out.below hb);replace HR:=zh (HR.out.below hb);replace HB:=zh (zA HB.out hb);have hB1:=ak hB0 hb.size;clear hb gH;clear k0 k1 k2 k3;have k3:=HX.out.c3;obtain ⟨w2,hw2⟩ : ∃ w2,w1.alloc (.cells #[] 113) = w2:=⟨_,rfl⟩
 have Us:=di (e:=113) (size:=14) w1 #[] 0 (ai w1.heap.size) (by decide) rfl;have eO : Below w1.heap.size w1 w2:=hw2 ▸ (aj w1.heap.size w1).alloc (ai _) (.cells #[] 113);rw [hw2] at Us;have RM:=zA HB.out eO;replace k3:=(HX.out.below eO).c3;go_wp2_with (at_builtin; go_must (refine zi rfl (.tmp 12) (.tmp 14) 29 rfl Um w1.heap.size rfl Us rfl (Bd.out w2 RM) l6.out (by unfold maxLen; omega) (by omega) eO.size ?_; intro v3 w3 eu fh hv3; clear hv3; rw [aJ,bV] at eu; obtain ⟨ra,rc,rfl,_⟩:=zM eu; have hb3:=zL eO Us eO.size fh; replace k3:=(HX.out.below hb3).c3; have kf:=(HX.out.below hb3).f));obtain ⟨g,rfl,hgB,Co⟩:=ui eu (by omega);have iM:=zh (show fc (pts w3 w.heap.size [(3,.slice (some ⟨g,0,none⟩) n rc)]) w.heap.size i l r (some ⟨g,0,none⟩) n rc from (HX.out.below hb3).Lt (some ⟨g,0,none⟩) n rc)
 have Fw:=zh ((HG.out.below hb3).eD (c:=w.heap.size) (by omega) [(3,.slice (some ⟨g,0,none⟩) n rc)]);have lB:=zh ((HR.out.below hb3).eD (d:=w.heap.size) (by omega) [(3,.slice (some ⟨g,0,none⟩) n rc)]);have fZ:=zh (zD (B:=w.heap.size) (b:=w.heap.size) (ai _) [(3,.slice (some ⟨g,0,none⟩) n rc)] (zA HB.out hb3));have jx:=zh (vY (b:=w.heap.size) (by omega) eu [(3,.slice (some ⟨g,0,none⟩) n rc)]);have hg9 : w.heap.size + 3 ≤ g:=by omega
 clear HX HG HR HB hb3 eu fh Us eO RM Bd l6 k3 kf hw2 Co;change Code.wp _ _ _ _ (pts w3 w.heap.size [(3,.slice (some ⟨g,0,none⟩) n rc)]);generalize (pts w3 w.heap.size [(3,.slice (some ⟨g,0,none⟩) n rc)]) = w4 at *;rw [← Mb.out] at jx
 go_loopw [6,7] (fun fv iv V => ∃ (k : Nat) (m : Bool),iv = .int .i64 (k : Int) ∧ fv = .bool m ∧ k ≤ n ∧ Hid (m = uv L num k) ∧ Hid (V.ownsRow w1.heap.size 113 14 (.slice (some ⟨g,0,none⟩) n rc) n ((uL L (((⟨num,rev,md,sz,⟨f,LV,GA⟩⟩ : Gn),s) : GP) k).flatMap iY)) ∧ Hid (fc V w.heap.size i l r (some ⟨g,0,none⟩) n rc) ∧ Hid (eH V (w.heap.size + 1) num rev md sz s LV GA) ∧ Hid (fc V (w.heap.size + 2) 0 0 false none 0 0) ∧ Hid (Below w.heap.size w V)) (fun _ iv _ => n - (intOf iv).toNat)
 case atStart => exact ⟨0,false,rfl,rfl,aq _,zh PR.out.symm,jx,iM,Fw,lB,fZ⟩
 obtain ⟨k,m,rfl,rfl,hk,Hm,HO,HX,HG,HR,HB⟩:=hrel;clear iM Fw lB fZ jx;have k3:=HX.out.c3
 by_cases hlt : k < n
 ·
  have i1 : (k : Int) < (n : Int):=by omega
  have hat:=Ul HO.out (IZ.out k) hlt;rw [JJ.out k hlt] at hat;have q0:=HG.out.n0;have Ut:=HKs.out k hlt;have Uu:=RJ.out k hlt;have Nl:=zh (show k < (uL L (((⟨num,rev,md,sz,⟨f,LV,GA⟩⟩ : Gn),s) : GP) k).length by rw [← IZ.out k]; exact hlt)
  by_cases jk : (pat L k).1.num = num
  ·
   have Hs:=zh (show true = uv L num (k + 1) by rw [Uu,aD jk,Bool.or_true]);have Uv:=zh (Ut.1 jk);clear Ut Uu;have c0:=hat.n0;rw [jk] at c0;go_upto_region 8 with fail;replace k3:=zB k3;replace c0:=zB c0;replace q0:=zB q0;refine zC (by kernel_rfl) (by kernel_rfl) ?_
   repeat (go_big_quiet_step (fail))
   refine aA ?_;intro _ hw';obtain ⟨q,hw'⟩:=hw';subst hw';have hat:=hat.below q.h;replace HO:=zh (zI HO.out q.h);replace HX:=zh (HX.out.below q.h);replace HG:=zh (HG.out.below q.h);replace HR:=zh (HR.out.below q.h);replace HB:=zh (zA HB.out q.h);clear k3 c0 q0;generalize q.w' = v0 at *;clear q;have hst:=Yh HO.out k Nl.out (((⟨num,rev,md,sz,⟨f,LV,GA⟩⟩ : Gn),s) : GP);rw [← Uv.out] at hst;have lZ:=zh hst.1;have p_:=zh (HG.out.Dw hst.2 (by omega));have fC:=zh (HX.out.Dw hst.2 (by omega));have eY:=zh (HR.out.Dw hst.2 (by omega));have eW:=zh (zD (B:=w.heap.size) (b:=g) (by omega) (Dv (k * 14) num rev md sz s LV GA) HB.out);have hfr:=wW HO.out;have k3:=HX.out.c3;clear hst;have Uw:=zh (hat.there hfr);clear hat hfr;obtain ⟨u0,u1,u2,u3,u4,u5,u6,u7,u8,u9,u10,u11,u12,u13⟩:=HG.out.q
   go_wp2_with ((with_reducible refine wpList_store_mid ?_ 113 (.tmp 37) (.tmp 36) ?_ g (k * 14) (zQ num rev md sz s LV GA) ?_ ?_ ?_ ?_ ?_ ?_); rfl; rfl; rfl; rfl; exact Uw.out; exact zLk; exact Ur _ _ _ _ _ _ _; rw [k7]);exact ⟨⟨k + 1,true,by go_num,rfl,by omega,Hs,lZ,fC,p_,eY,eW⟩,by simp [intOf]; omega⟩
  have Hs:=zh (show m = uv L num (k + 1) by rw [Uu,aC jk,Bool.or_false]; exact Hm.out);have lZ:=HO;rw [← Ut.2 jk] at lZ;have c0:=hat.n0;have hne : ((pat L k).1.num == num) = false:=by simp [jk]
  clear hat Ut Uu;generalize (pat L k).1.num = pn at *;go_upto_region 8 with fail;replace k3:=zB k3;replace c0:=zB c0;replace q0:=zB q0;refine zC (by kernel_rfl) (by kernel_rfl) ?_
  repeat (go_big_quiet_step (fail))
  refine aA ?_;intro _ hw';obtain ⟨q,hw'⟩:=hw';subst hw';replace lZ:=zh (zI lZ.out q.h);replace HX:=zh (HX.out.below q.h);replace HG:=zh (HG.out.below q.h);replace HR:=zh (HR.out.below q.h);replace HB:=zh (zA HB.out q.h);clear k3 c0 q0;generalize q.w' = v0 at *;clear q;go_wp2_with fail;exact ⟨⟨k + 1,m,by go_num,rfl,by omega,Hs,lZ,HX,HG,HR,HB⟩,by simp [intOf]; omega⟩
 have i1 : ¬ (k : Int) < (n : Int):=by omega
 obtain rfl : k = n:=by omega
 rw [Oc.out] at HO;have hm:=Hm.out;rw [← hm] at HC;clear hm Hm HKs RJ JJ IZ Mb PR hlt hk Oc
 cases m
 ·
  have MA:=zh (HC.out.trans (ah (by decide)));clear HC;obtain ⟨z0,z1,z2,z3⟩:=HR.out.q;have zf:=HR.out.f;go_wp2_with fail;change bodyPost _ _ _ _ _ (pts wr (w.heap.size + 2) (zP 0 0 false none 0 0));have hby:=HR.out.all 0 0 false none 0 0;have ey:=zh (zD (B:=w.heap.size) (b:=(w.heap.size + 2)) (by omega) (zP 0 0 false none 0 0) HB.out);generalize pts wr (w.heap.size + 2) (zP 0 0 false none 0 0) = V at *;exact au (v:=.tuple #[ze 0 0 false none 0 0,.int .i64 6]) (by simp [results,Tryz.results44,go_sem,hby.c0,hby.c1,hby.c2,hby.c3]) rfl (by rw [MA.out]; exact jl.no ey.out)
 have MA:=HC.out.trans (ag rfl);have KB:=zh (RI HO.out lC.out (Bc.out wr HB.out));have Ek:=zh (xY i l r (some ⟨g,0,none⟩) k rc (qF L (((⟨num,rev,md,sz,⟨f,LV,GA⟩⟩ : Gn),s) : GP)) wr KB.out DT.out);have EY:=HO;clear HC HO;have k0:=HX.out.c0;have k1:=HX.out.c1;have k2:=HX.out.c2
 cases KE : zd ⟨i,l,r,ea (qF L (((⟨num,rev,md,sz,⟨f,LV,GA⟩⟩ : Gn),s) : GP))⟩
 ·
  rw [KE] at Ek MA;have HC:=zh (MA.trans (ah (by decide)));clear MA KE;go_wp2_with fail;refine Ek.out.mono ?_;rintro e v1 ⟨rfl,hb⟩;replace HR:=zh (HR.out.below hb);replace HB:=zh (zA HB.out hb);clear hb k0 k1 k2 k3 Ek KB HX HG;obtain ⟨z0,z1,z2,z3⟩:=HR.out.q;have zf:=HR.out.f;go_wp2_with fail;change bodyPost _ _ _ _ _ (pts v1 (w.heap.size + 2) (zP 0 0 false none 0 0));have hby:=HR.out.all 0 0 false none 0 0;have ey:=zh (zD (B:=w.heap.size) (b:=(w.heap.size + 2)) (by omega) (zP 0 0 false none 0 0) HB.out);generalize pts v1 (w.heap.size + 2) (zP 0 0 false none 0 0) = V at *;exact au (v:=.tuple #[ze 0 0 false none 0 0,.int .i64 1]) (by simp [results,Tryz.results44,go_sem,hby.c0,hby.c1,hby.c2,hby.c3]) rfl (by rw [HC.out]; exact jl.no ey.out)
 rw [KE] at Ek MA;have HC:=zh (MA.trans (ag rfl));clear MA KE;go_wp2_with fail;refine Ek.out.mono ?_;rintro e v1 ⟨rfl,hb⟩;replace HX:=zh (HX.out.below hb);replace HR:=zh (HR.out.below hb);replace HB:=zh (zA HB.out hb);replace EY:=zh (zI EY.out hb);clear hb k0 k1 k2 k3 Ek HG;obtain ⟨k0,k1,k2,k3⟩:=HX.out.q;obtain ⟨z0,z1,z2,z3⟩:=HR.out.q;have zf:=HR.out.f;go_wp2_with fail;change bodyPost _ _ _ _ _ (pts v1 (w.heap.size + 2) (zP i l r (some ⟨g,0,none⟩) k rc));have IV:=zh (show fH (pts v1 (w.heap.size + 2) (zP i l r (some ⟨g,0,none⟩) k rc)) (.slice (some ⟨g,0,none⟩) k rc) (qF L (((⟨num,rev,md,sz,⟨f,LV,GA⟩⟩ : Gn),s) : GP)) from RI (vY (b:=w.heap.size + 2) (by omega) EY.out _) lC.out (Bc.out _ (zD (B:=w.heap.size) (b:=w.heap.size + 2) (by omega) (zP i l r (some ⟨g,0,none⟩) k rc) HB.out)));have hby:=HR.out.all i l r (some ⟨g,0,none⟩) k rc
 have ey:=zh (zD (B:=w.heap.size) (b:=(w.heap.size + 2)) (by omega) (zP i l r (some ⟨g,0,none⟩) k rc) HB.out);generalize pts v1 (w.heap.size + 2) (zP i l r (some ⟨g,0,none⟩) k rc) = V at *;exact au (v:=.tuple #[ze i l r (some ⟨g,0,none⟩) k rc,.int .i64 0]) (by simp [results,Tryz.results44,go_sem,hby.c0,hby.c1,hby.c2,hby.c3]) rfl (by rw [HC.out]; exact ⟨⟨_,k,rc,qF L (((⟨num,rev,md,sz,⟨f,LV,GA⟩⟩ : Gn),s) : GP),rfl,IV.out,rfl⟩,ey.out⟩)
theorem zKE : wK Tryz.prog 25 38 14 240:=by
 obtain ⟨i,hi,hz,hs,hb⟩:=b_ (P:=Tryz.prog) (e:=38) (z:=zV 0 0 0 0 Sl.nil 0 0) (size:=14) (bytes:=240) (by kernel_rfl);exact ⟨Tryz.underlying25,by decide,i,_,hi,hz,hs,hb,rfl⟩
theorem zIy (w : World) (i l : Int) (r : Bool) (a : Option Addr) (n c : Nat) (t u : TypeId) : ∃ W,(w.alloc (.cells (zN i l r a n c) t)).alloc (.cells (zN 0 0 false none 0 0) u) = W ∧ fc W w.heap.size i l r a n c ∧ fc W (w.heap.size + 1) 0 0 false none 0 0 ∧ Below w.heap.size w W ∧ W.heap.size = w.heap.size + 2:=by
 refine ⟨_,rfl,(fc.new w i l r a n c t).below (zS _ 0 0 false none 0 0 u),?_,zA (zS w i l r a n c t) (zS _ 0 0 false none 0 0 u),by simp [dI]⟩;have:=fc.new (w.alloc (.cells (zN i l r a n c) t)) 0 0 false none 0 0 u
 rwa [dI] at this
def zM3 (x : GP) : pY:=⟨fun v w => ∃ j,v = .slice (some ⟨j,0,none⟩) 1 1 ∧ Rd w 14 (.slice (some ⟨j,0,none⟩) 1 1) 1 (iY x),fun _ _ _ hb ⟨j,h1,h2⟩ => ⟨j,h1,h2.below hb⟩⟩
theorem zIA (L : List GP) (k : Nat) (hk : k < L.length) : (L.take (k + 1)).flatMap iY = (L.take k).flatMap iY ++ iY (pat L k):=by
 rw [cz,aB hk,cC];unfold pat;rw [aw,aB hk];simp
theorem zGk {W : World} {B b : Nat} {e : TypeId} {sz n : Nat} {v : Value} {xs : List Value} (h : W.ownsRow B e sz v n xs) (hb : b < B) : some b ≠ v.ownBlock:=fun e => by
 have:=(h.lt b e.symm).1; omega
theorem fc.JK {W W' : World} {b : Nat} {row : Option Nat} {i l : Int} {r : Bool} {a : Option Addr} {n c : Nat} (h : fc W b i l r a n c) (hg : W.grownBy W' row) (hne : some b ≠ row) : fc W' b i l r a n c:=by
 have k : ∀ i u,W.cell? ⟨b,i,none⟩ = some u → W'.cell? ⟨b,i,none⟩ = some u:=fun i u hu => hg.cell hu hne
 refine ⟨k _ _ h.c0,k _ _ h.c1,k _ _ h.c2,k _ _ h.c3,fun i => ?_⟩;have e:=hg.block b h.lt hne;rw [← h.f i]; unfold World.frozen?; rw [e]
end Go.Proofs.YtcgfilmmokmdjaaGreat
namespace Go.Proofs.YtcgfilmmokmdjaaGreat
open Go.RowKit
def dX (W : World) (b : Nat) (cs : Array Value) (t : TypeId) : Prop:=W.heap[b]? = some (.cells cs t (0,0))
section
variable {W W' : World} {b : Nat} {cs : Array Value} {t : TypeId}
theorem dX.lt (h : dX W b cs t) : b < W.heap.size:=(Array.getElem?_eq_some_iff.1 h).1
theorem dX.below (h : dX W b cs t) (hb : Below W.heap.size W W') : dX W' b cs t:=by
 unfold dX;rw [hb.block b h.lt]; exact h
theorem dX.new (W : World) (cs : Array Value) (t : TypeId) : dX (W.alloc (.cells cs t)) W.heap.size cs t:=dg W _
theorem dX.FB (h : dX W b cs t) (i : Nat) : W.cell? ⟨b,i,none⟩ = cs[i]?:=by
 have h : W.heap[b]? = some (.cells cs t (0,0)):=h;simp [World.cell?,h]
theorem dX.cell (h : dX W b cs t) {i : Nat} {u : Value} (hu : cs[i]? = some u) : W.cell? ⟨b,i,none⟩ = some u:=(h.FB i).trans hu
theorem dX.frozen (h : dX W b cs t) (i : Nat) : W.frozen? ⟨b,i,none⟩ = false:=by
 have h : W.heap[b]? = some (.cells cs t (0,0)):=h;unfold World.frozen?;rw [h];simp
theorem dX.set (h : dX W b cs t) (i : Nat) (u : Value) : dX (W.setCell ⟨b,i,none⟩ u) b (cs.setIfInBounds i u) t:=by
 have hl:=h.lt;have hk:=(Array.getElem?_eq_some_iff.1 h).2
 show (W.heap.modify b _)[b]? = _
 rw [bI (by rw [Array.size_modify]; exact hl),Array.getElem_modify_self,hk]
 rfl
theorem dX.sets : ∀ (vs : List (Nat × Value)) {W : World} {cs : Array Value},dX W b cs t → dX (pts W b vs) b (vs.foldl (fun cs p => cs.setIfInBounds p.1 p.2) cs) t
 | [],_,_,h => h
 | (i,u) :: r,_,_,h => dX.sets r (h.set i u)
theorem dX.eD {c : Nat} (hne : b ≠ c) : ∀ (vs : List (Nat × Value)) {W : World},dX W b cs t → dX (pts W c vs) b cs t
 | [],_,h => h
 | (i,u) :: r,W,h => dX.eD hne r (show (W.setCell ⟨c,i,none⟩ u).heap[b]? = _ by rw [Below.heap_setCell W ⟨c,i,none⟩ u b hne]; exact h)
theorem dX.grown {row : Option Nat} (h : dX W b cs t) (hg : W.grownBy W' row) (hne : some b ≠ row) : dX W' b cs t:=by
 unfold dX;rw [hg.block b h.lt hne]; exact h
def Ux (cs : Array Value) (xs : List Value) : Prop:=∀ off : Nat,∃ (j : Nat) (u : Value),xs[j]? = some u ∧ cs[off + j]? ≠ some u
theorem Yp {sz n : Nat} {v : Value} {xs : List Value} (hr : Rd W sz v n xs) (h : dX W b cs t) (ha : 0 < xs.length → Ux cs xs) (vs : List (Nat × Value)) : Rd (pts W b vs) sz v n xs:=by
 obtain ⟨h0,a,cap,e,h1,h2,h3,h4⟩:=hr;refine ⟨h0,a,cap,e,h1,h2,h3,fun hp => ?_⟩;obtain ⟨b',off,e2,hc⟩:=h4 hp;refine ⟨b',off,e2,fun j u hj => ?_⟩;have hne : b' ≠ b:=by
  rintro rfl;obtain ⟨j',u',h5,h6⟩:=ha hp off;have h7:=hc j' u' h5;rw [h.FB] at h7;exact h6 h7
 exact (z8 (p:=⟨b',off + j,none⟩) hne vs W).trans (hc j u hj)
end
/-! ### A slot in its block -/
section
variable {W W' : World} {b : Nat} {t : TypeId} {i l : Int} {r : Bool} {a : Option Addr} {n c : Nat}
theorem dX.iu (h : dX W b (zN i l r a n c) t) : fc W b i l r a n c:=⟨h.cell rfl,h.cell rfl,h.cell rfl,h.cell rfl,h.frozen⟩
theorem dX.Ct (h : dX W b (zN i l r a n c) t) (i' l' : Int) (r' : Bool) (a' : Option Addr) (n' c' : Nat) : dX (pts W b (zP i' l' r' a' n' c')) b (zN i' l' r' a' n' c') t:=
 (((h.set 0 (.int .i64 i')).set 1 (.int .i64 l')).set 2 (.bool r')).set 3 (.slice a' n' c')
theorem zJK (i l : Int) (r : Bool) (a : Option Addr) (n c : Nat) (L : List GP) (hp : 0 < (L.flatMap iY).length) : Ux (zN i l r a n c) (L.flatMap iY):=fun off => by
 match L,hp with
 | p :: q,_ =>
  match off with
  | 0 => exact ⟨2,.int .i64 p.1.mode,rfl,fun h => by cases h⟩
  | 1 => exact ⟨1,.int .i64 p.1.rev,rfl,fun h => by cases h⟩
  | 2 => exact ⟨0,.int .i64 p.1.num,rfl,fun h => by cases h⟩
  | 3 => exact ⟨0,.int .i64 p.1.num,rfl,fun h => by cases h⟩
  | k + 4 => exact ⟨0,.int .i64 p.1.num,rfl,fun h => by
    rw [Array.getElem?_eq_none (by show 4 ≤ k + 4 + 0; omega)] at h; cases h⟩
theorem zKD (i l : Int) (r : Bool) (a : Option Addr) (n c : Nat) (L : List It) (hp : 0 < (zU L).length) : Ux (zN i l r a n c) (zU L):=fun off => by
 match L,hp with
 | p :: q,_ =>
  match off with
  | 0 => exact ⟨0,.int .u64 p.key,rfl,fun h => by cases h⟩
  | 1 => exact ⟨0,.int .u64 p.key,rfl,fun h => by cases h⟩
  | 2 => exact ⟨0,.int .u64 p.key,rfl,fun h => by cases h⟩
  | 3 => exact ⟨0,.int .u64 p.key,rfl,fun h => by cases h⟩
  | k + 4 => exact ⟨0,.int .u64 p.key,rfl,fun h => by
    rw [Array.getElem?_eq_none (by show 4 ≤ k + 4 + 0; omega)] at h; cases h⟩
theorem zIX (n r md z : Int) (s : Sl) (l g : Int) (L : List It) (hp : 0 < (zU L).length) : Ux (zQ n r md z s l g) (zU L):=fun off => by
 match L,hp with
 | p :: q,_ =>
  refine ⟨0,.int .u64 p.key,rfl,fun h => ?_⟩
  match off with
  | 0 => cases h
  | 1 => cases h
  | 2 => cases h
  | 3 => cases h
  | 4 => cases h
  | 5 => cases h
  | 6 => cases h
  | 7 => cases h
  | 8 => cases h
  | 9 => cases h
  | 10 => cases h
  | 11 => cases h
  | 12 => cases h
  | 13 => cases h
  | k + 14 => rw [Array.getElem?_eq_none (by show 14 ≤ k + 14 + 0; omega)] at h; cases h
theorem fq.iu {s : Sl} {f : Nat → List It} (h : fq W s f) (hb : dX W b (zN i l r a n c) t) (vs : List (Nat × Value)) : fq (pts W b vs) s f:=fun j hj =>
 yt (n:=(f j).length) (Yp (t6 (h j hj)) hb (fun hp => zKD _ _ _ _ _ _ _ hp) vs)
theorem fH.iu {v : Value} {L : List GP} (h : fH W v L) (hb : dX W b (zN i l r a n c) t) (vs : List (Nat × Value)) : fH (pts W b vs) v L:=
 ⟨⟨h.r.1,Yp h.r.2 hb (fun hp => zJK _ _ _ _ _ _ _ hp) vs⟩,fun p hp => (h.m p hp).iu hb vs⟩
theorem fq.gen {s : Sl} {f : Nat → List It} {n' r' md z : Int} {s' : Sl} {l' g : Int} (h : fq W s f) (hb : dX W b (zQ n' r' md z s' l' g) t) (vs : List (Nat × Value)) : fq (pts W b vs) s f:=fun j hj =>
 yt (n:=(f j).length) (Yp (t6 (h j hj)) hb (fun hp => zIX _ _ _ _ _ _ _ _ hp) vs)
end
/-! ### A generation in its block -/
section
variable {W W' : World} {b : Nat} {t : TypeId} {n r md z : Int} {s : Sl} {l g : Int}
theorem dX.gen (h : dX W b (zQ n r md z s l g) t) : eH W b n r md z s l g:=by
 refine ⟨h.cell rfl,h.cell rfl,h.cell rfl,h.cell rfl,fun j hj => ?_,h.cell rfl,h.cell rfl,h.frozen⟩;rcases Nc hj with e | e | e | e | e | e | e | e <;> subst e <;> exact h.cell rfl
theorem dX.Cu (h : dX W b (zQ n r md z s l g) t) (n' r' md' z' : Int) (s' : Sl) (l' g' : Int) : dX (pts W b (zJ n' r' md' z' s' l' g')) b (zQ n' r' md' z' s' l' g') t:=
 by
  have h1:=dX.sets (zJ n' r' md' z' s' l' g') h;have e : (zJ n' r' md' z' s' l' g').foldl (fun cs p => cs.setIfInBounds p.1 p.2) (zQ n r md z s l g) = zQ n' r' md' z' s' l' g':=by
   simp only [cG,cV,aM,aN,aK]
  rw [e] at h1;exact h1
end
/-! ### What operations leave: a generation and its error; a generation; a Lv box; a slot and its error; a slot -/
def zMi (c a b md z : Int) (f : Nat → List It) (L G : Int) : pY:=⟨fun v w => ∃ s,v = .tuple #[zV a b md z s L G,.int .i64 c] ∧ fq w s f,fun _ _ _ hb ⟨s,h1,h2⟩ => ⟨s,h1,h2.below hb⟩⟩
def zMj (a b md z : Int) (f : Nat → List It) (L G : Int) : pY:=⟨fun v w => ∃ s,v = zV a b md z s L G ∧ fq w s f,fun _ _ _ hb ⟨s,h1,h2⟩ => ⟨s,h1,h2.below hb⟩⟩
def Yq (t : TypeId) (B : Nat) : pY:=⟨fun v w => ∃ b,v = .pointer (some ⟨b,0,none⟩) ∧ B ≤ b ∧ dX w b (zQ 0 0 0 0 Sl.nil 0 0) t,fun _ _ _ hb ⟨b,h1,h2,h3⟩ => ⟨b,h1,h2,h3.below hb⟩⟩
def zMd (L : List Nd) : pY:=⟨fun v w => ∃ a n c es,v = .slice a n c ∧ mr w (.slice a n c) es ∧ es.map (·.1) = L,fun _ _ _ hb ⟨a,n,c,es,h1,h2,h3⟩ => ⟨a,n,c,es,h1,h2.below hb,h3⟩⟩
end Go.Proofs.YtcgfilmmokmdjaaGreat
namespace Go.Proofs.YtcgfilmmokmdjaaGreat
open Go Go.RowKit
section
variable {P : Program} {ops : Array Oper} {md : Region.Mode}
def Uy (md : Region.Mode) (ops : Array Oper) (n k : Nat) : Bool:=
 decide (n < ops.size) && decide (k < n) &&
 ((List.range n).all fun i => decide (i = k) || (List.range (n + 1)).any fun j => decide (i < j) && decide (j ≠ k) && Region.waitsFor md ops j i) && Region.chainB md ops n &&
 ((List.range n).all fun i => ((ops[i]?).map fun o => o.dst.isSome && o.after.all fun e => !Region.binds md e || decide (e.on < i)).getD false) &&
 ((List.range n).all fun i => (List.range n).all fun j => decide (i = j) || decide (zW ops i ≠ zW ops j)) &&
 Region.seqB md ops (ops.size - n) n ((List.range ops.size).map fun j => decide (j < n)).toArray &&
 decide (Region.ready md ops ((List.range ops.size).map fun j => decide (j ≤ n ∧ j ≠ k)).toArray = [k]) &&
 Region.seqB md ops (ops.size - (n + 1)) (n + 1) ((List.range ops.size).map fun j => decide (j ≤ n)).toArray
theorem zDN {n t : Nat} {listed : Array Bool} {ot : Oper} (hc : Region.chainB md ops n = true) (inv : HeadInv md ops n listed) (ht : n ≤ t) (htn : t ≠ n) (RN : ops[t]? = some ot)
  (hall : ∀ e ∈ ot.after,Region.binds md e = true → listed.getD e.on false = true) (htlt : t < ops.size) : False:=by
 have h1:=List.all_eq_true.1 hc t (List.mem_range.2 htlt);simp only [Bool.or_eq_true,aS] at h1;rcases h1 with h1 | h1
 ·
  omega
 obtain ⟨o',ho',e,he,hb,hon⟩:=Region.waitsFor_spec h1;have : o' = ot:=Option.some.inj (ho'.symm.trans RN);subst this;have h2:=hall e he hb;rw [hon,getD_both (inv.tail (t - 1) (by omega) (by omega))] at h2
 cases h2
theorem zFp {n k : Nat} {listed : Array Bool} (hs : ∀ i,i < n → i ≠ k → ∃ j,j ≤ n ∧ i < j ∧ j ≠ k ∧ Region.waitsFor md ops j i = true) (hc : Region.chainB md ops n = true) (hn : n < ops.size) (inv : HeadInv md ops n listed) :
  ∀ (d i : Nat),n - i = d → i < n → i ≠ k → listed.getD i true = false → ∀ t,n ≤ t → t ∉ Region.ready md ops listed:=by
 intro d
 induction d using Nat.strongRecOn with
 | _ d ih =>
  intro i hd hi hik hun t ht hr;obtain ⟨_,ot,RN,hall⟩:=mem_ready.1 hr;have htlt : t < ops.size:=(Array.getElem?_eq_some_iff.1 RN).1
  by_cases htn : t = n
  ·
   subst htn;obtain ⟨j,hjle,hij,hjk,hw⟩:=hs i hi hik;obtain ⟨oj,Pu,e,he,hb,hon⟩:=Region.waitsFor_spec hw
   by_cases hjt : j = t
   ·
    subst hjt;have : oj = ot:=Option.some.inj (Pu.symm.trans RN);subst this;have h2:=hall e he hb;rw [hon,getD_both hun] at h2
    cases h2
   cases hl : listed.getD j false with
   | true =>
    have h2:=inv.closed j oj Pu hl e he hb;rw [hon,getD_both hun] at h2
    cases h2
   | false =>
    have il : j < listed.size:=by rw [inv.size]; omega
    exact ih (t - j) (by omega) j rfl (by omega) hjk (getD_in il hl) t (ai _) hr
  exact zDN hc inv ht htn RN hall htlt
variable {Q : Exit → Act → World → Prop}
theorem zI6 {n k : Nat} {a0 : Act} {w0 : World} {Φ : Nat → Value → World → Prop} {F : Nat → Prop} {l : List Oper} {on ok : Oper} (hl : ops = l.toArray) (hB : Uy md ops n k = true) (hon : ops[n]? = some on) (hok : ops[k]? = some ok) (Uz : ¬ F k) (hN : ∀ i,i < n → ∀ t,zW ops i = some t → t < a0.tmps.size)
  (mono : ∀ j,j < n → ∀ v w1 w2,Below w1.heap.size w1 w2 → Φ j v w1 → Φ j v w2)
  (head : ∀ i o,i < n → ops[i]? = some o → ∀ f w1,Below w0.heap.size w0 w1 → (∀ e ∈ o.after,Region.binds md e = true → Φ e.on (f e.on) w1) →
   wpList P ops (Exit.then (tY (Φ i) (F i) (fD ops a0 f n).defers o.dst w1) Q) [o] (fD ops a0 f n) w1)
  (tail : ∀ f w1,Below w0.heap.size w0 w1 → (∀ j,j < n → Φ j (f j) w1) → (∀ j k,j < n → k < n → j ≠ k → F j → F k → blk (f j) ≠ blk (f k)) → wpList P ops Q (l.drop n) (fD ops a0 f n) w1)
  (JL : ∀ f w1,Below w0.heap.size w0 w1 → (∀ j,j < n → j ≠ k → Φ j (f j) w1) → (∀ j k,j < n → k < n → j ≠ k → F j → F k → blk (f j) ≠ blk (f k)) → wpList P ops Q (on :: ok :: l.drop (n + 1)) (fD ops a0 f n) w1) :
  ∀ (fuel : Nat) (T : List Nat) (s : Array Bool) (f : Nat → Value) (w : World),T.Nodup → T.length = fuel → (∀ j,j < n → (s.getD j false = false ↔ j ∈ T)) → (∀ j ∈ T,j < n) → HeadInv md ops n s → Below w0.heap.size w0 w →
   (∀ j,j < n → s.getD j false = true → Φ j (f j) w) → (∀ j,j < n → s.getD j false = true → F j → blk (f j) < w.heap.size) →
   (∀ j k,j < n → k < n → j ≠ k → s.getD j false = true → s.getD k false = true → F j → F k → blk (f j) ≠ blk (f k)) → wpAny P md ops Q (fuel + (ops.size - n)) s (fD ops a0 f n) w:=by
 simp only [Uy,aO,aS] at hB;obtain ⟨⟨⟨⟨⟨⟨⟨⟨hn,hkn⟩,hs0⟩,hc⟩,hfw⟩,hdd⟩,Le⟩,hrk⟩,Yr⟩:=hB;have hs : ∀ i,i < n → i ≠ k → ∃ j,j ≤ n ∧ i < j ∧ j ≠ k ∧ Region.waitsFor md ops j i = true:=fun i hi hik => by
  have h1:=List.all_eq_true.1 hs0 i (List.mem_range.2 hi);rw [Bool.or_eq_true,aS] at h1;rcases h1 with h1 | h1
  ·
   exact absurd h1 hik
  obtain ⟨j,hj,h2⟩:=List.any_eq_true.1 h1;simp only [aO,aS] at h2;exact ⟨j,by have:=List.mem_range.1 hj; omega,h2.1.1,h2.1.2,h2.2⟩
 have Cj : ∀ i o,i < n → ops[i]? = some o → o.dst.isSome = true ∧ ∀ e ∈ o.after,Region.binds md e = true → e.on < i:=fun i o hi ho => by
  have:=List.all_eq_true.1 hfw i (List.mem_range.2 hi);rw [ho] at this;simp only [dE,bw,aO] at this;refine ⟨this.1,fun e he hb => ?_⟩;have h2:=Array.all_eq_true_iff_forall_mem.1 this.2 e he;rw [hb] at h2
  simpa using h2
 have Dp : ∀ i j,i < n → j < n → i ≠ j → zW ops i ≠ zW ops j:=fun i j hi hj hij => by
  have:=List.all_eq_true.1 (List.all_eq_true.1 hdd i (List.mem_range.2 hi)) j (List.mem_range.2 hj)
  simpa [hij] using this
 intro fuel
 induction fuel with
 | zero =>
  intro T s f w hT hlen lh Bl inv hb hΦ hF Fq;have Lf : T = []:=List.length_eq_zero_iff.1 hlen;subst Lf;have hall : ∀ j,j < n → s.getD j false = true:=fun j hj => by
   cases h : s.getD j false with
   | true => rfl
   | false => exact absurd ((lh j hj).1 h) (by simp)
  have Kk : s = ((List.range ops.size).map fun j => decide (j < n)).toArray:=by
   apply Array.ext
   ·
    simp [inv.size]
   intro j h1 h2;have il : j < ops.size:=by rw [← inv.size]; exact h1
   simp only [aT,dN,dR]
   by_cases e : j < n
   ·
    have:=hall j e;rw [bt,bI h1] at this;simp only [bw] at this;rw [this]; simp [e]
   have:=inv.tail j (by omega) il;rw [bt,bI h1] at this;simp only [bw] at this;rw [this]; simp [e]
  rw [aJ];have iy : (l.drop n).length = ops.size - n:=by rw [hl]; simp
  have h3:=wpAny_of_seq (P:=P) (md:=md) (ops:=ops) (Q':=Q) (l.drop n) n s (fD ops a0 f n) w (fun j => by rw [hl]; simp [cL]) (by rw [iy,Kk]; exact Le) (tail f w hb (fun j hj => hΦ j hj (hall j hj)) fun j k hj hk hjk => Fq j k hj hk hjk (hall j hj) (hall k hk))
  rwa [iy] at h3
 | succ fuel ih =>
  intro T s f w hT hlen lh Bl inv hb hΦ hF Fq;have Dq : T ≠ []:=fun e => by rw [e] at hlen; cases hlen
  obtain ⟨m,hm,hle⟩:=qH Dq;have hmn:=Bl m hm;have hun : s.getD m false = false:=(lh m hmn).2 hm;have JC : m < s.size:=by rw [inv.size]; omega
  obtain ⟨om,Fs⟩ : ∃ o,ops[m]? = some o:=⟨_,bI (by omega)⟩
  have jA : m ∈ Region.ready md ops s:=mem_ready.2 ⟨getD_in JC hun,om,Fs,fun e he jd => by
   have h1:=(Cj m om hmn Fs).2 e he jd
   cases h2 : s.getD e.on false with
   | true => rfl
   | false =>
    have:=hle _ ((lh e.on (by omega)).1 h2)
    omega⟩
  rw [show fuel + 1 + (ops.size - n) = (fuel + (ops.size - n)) + 1 by omega];refine ⟨fun e => absurd jA (by rw [e]; simp),fun i hi => ?_⟩;obtain ⟨IX,oi,hoi,lV⟩:=mem_ready.1 hi
  by_cases RO : n ≤ i
  ·
   -- the late one alone is left,and the Yt first comes ahead of it
   have XR : i < ops.size:=(Array.getElem?_eq_some_iff.1 hoi).1;have Yu : i = n:=Classical.byContradiction fun e => zDN hc inv RO e hoi lV XR
   subst Yu;have Db : ∀ j,j < i → j ≠ k → s.getD j false = true:=fun j hj hjk => by
    cases h : s.getD j false with
    | true => rfl
    | false => exact absurd hi (zFp hs hc hn inv _ j rfl hj hjk (getD_in (by rw [inv.size]; omega) h) i (ai _))
   have hku : s.getD k false = false:=by
    cases h : s.getD k false with
    | false => rfl
    | true =>
     have : s.getD m false = true:=by
      by_cases e : m = k
      ·
       rw [e]; exact h
      exact Db m hmn e
     rw [this] at hun; cases hun
   have hf0 : fuel = 0:=by
    have h1 : ∀ j ∈ T,j = k:=fun j hj => by
     refine Classical.byContradiction fun e => ?_
     have h2:=(lh j (Bl j hj)).2 hj;rw [Db j (Bl j hj) e] at h2
     cases h2
    match T,hT,hlen,h1 with
    | [x],_,hlen,_ => simpa using hlen.symm
    | x :: y :: r,hT,_,h1 =>
     have e1:=h1 x (by simp);have e2:=h1 y (by simp);rw [e1,e2] at hT;simp at hT
   subst hf0;have hss : s.setIfInBounds i true = ((List.range ops.size).map fun j => decide (j ≤ i ∧ j ≠ k)).toArray:=by
    apply Array.ext
    ·
     simp [inv.size]
    intro j h1 h2;have il : j < ops.size:=by simpa [inv.size] using h1
    have Lx : j < s.size:=by rw [inv.size]; exact il
    simp only [aT,dN,dR];rw [Array.getElem_setIfInBounds Lx]
    by_cases e : i = j
    ·
     rw [ag e]; simp only [← e]; simp; omega
    rw [ah e]
    by_cases e2 : j < i
    ·
     by_cases e3 : j = k
     ·
      have hkk:=hku;rw [← e3,bt,bI Lx] at hkk;simp only [bw] at hkk;rw [hkk]; simp [e3]
     have:=Db j e2 e3;rw [bt,bI Lx] at this;simp only [bw] at this;rw [this]; simp [e3]; omega
    have:=inv.tail j (by omega) il;rw [bt,bI Lx] at this;simp only [bw] at this;rw [this]; simp; omega
   have Yv : (s.setIfInBounds i true).setIfInBounds k true = ((List.range ops.size).map fun j => decide (j ≤ i)).toArray:=by
    rw [hss];apply Array.ext
    ·
     simp
    intro j h1 h2;have il : j < ops.size:=by simpa using h1
    rw [Array.getElem_setIfInBounds (by simpa using h1)];simp only [aT,dN,dR]
    by_cases e : k = j
    ·
     rw [ag e]; subst e; simp; omega
    rw [ah e];have e' : ¬ j = k:=fun e2 => e e2.symm
    simp [e']
   have ht2:=JL f w hb (fun j hj hjk => hΦ j hj (Db j hj hjk)) fun j k' hj hk' hjk EB KA => by
    have a1 : j ≠ k:=fun e => Uz (e ▸ EB)
    have a2 : k' ≠ k:=fun e => Uz (e ▸ KA)
    exact Fq j k' hj hk' hjk (Db j hj a1) (Db k' hk' a2) EB KA
   have hw1 : wpOp P ops Q i (wpList P ops Q (ok :: l.drop (i + 1))) (fD ops a0 f i) w:=by unfold wpOp; simp only [hon]; exact ht2
   have hg : 0 + (ops.size - i) = (ops.size - (i + 1)) + 1:=by omega
   rw [hg];refine wpOp_mono (fun a' w' h' => ?_) hw1;refine ⟨fun e => ?_,fun j hj => ?_⟩
   ·
    rw [hss,hrk] at e; cases e
   rw [hss,hrk] at hj;have hjk : j = k:=by simpa using hj
   subst hjk;have hw2 : wpOp P ops Q j (wpList P ops Q (l.drop (i + 1))) a' w':=by unfold wpOp; simp only [hok]; exact h'
   refine wpOp_mono (fun a'' w'' h'' => ?_) hw2;rw [Yv];have iy : (l.drop (i + 1)).length = ops.size - (i + 1):=by rw [hl]; simp
   have h3:=wpAny_of_seq (P:=P) (md:=md) (ops:=ops) (Q':=Q) (l.drop (i + 1)) (i + 1) _ a'' w'' (fun j => by rw [hl]; simp [cL]) (by rw [iy]; exact Yr) h''
   rwa [iy] at h3
  have hin : i < n:=Nat.lt_of_not_le RO;have Lg : i ∈ T:=(lh i hin).1 (getD_both IX);have Fu:=Cj i oi hin hoi;have pX : zW ops i = oi.dst:=by unfold zW; rw [hoi]; rfl
  unfold wpOp;rw [hoi];simp only [];have hh:=head i oi hin hoi f w hb fun e he jd => hΦ e.on (by have:=Fu.2 e he jd; omega) (lV e he jd)
  refine k5 hh (fun v w' hR => ?_) (fun d v w' hR => ?_)
  ·
   obtain ⟨_,fP,hv⟩:=hR;have hval : ∀ i,i < n → oi.dst.isSome = true → zW ops i = oi.dst → (∀ t,oi.dst = some t → Φ i (((fD ops a0 f n).put oi.dst v).tmps.getD t undef) w' ∧ (F i → w.heap.size ≤ blk (((fD ops a0 f n).put oi.dst v).tmps.getD t undef) ∧ blk (((fD ops a0 f n).put oi.dst v).tmps.getD t undef) < w'.heap.size)) → Φ i v w' ∧ (F i → w.heap.size ≤ blk v ∧ blk v < w'.heap.size):=fun i hi h1 pX h => by
    obtain ⟨t,ht⟩:=Option.isSome_iff_exists.1 h1;have h4:=h t ht;have h5 : t < (fD ops a0 f n).tmps.size:=by rw [ut]; exact hN i hi t (by rw [pX,ht])
    rw [ht] at h4
    simpa [Act.put,h5] using h4
   rw [← pX,qQ ops a0 f i v n hin fun j hj hji => .inr (Dp i j hin hj (aR hji))];refine ih (T.erase i) _ _ w' (hT.erase i) (by rw [List.length_erase_of_mem Lg]; omega) (fun j hj => ?_) (fun j hj => Bl j (List.mem_of_mem_erase hj)) (inv.set hi hin) (zA hb fP) (fun j hj il => ?_) (fun j hj il EB => ?_) (fun j k hj hk hjk il hks EB KA => ?_)
   ·
    rw [hT.mem_erase_iff]
    by_cases e : j = i
    ·
     subst e;have il : j < s.size:=by rw [inv.size]; omega
     simp [bt,il]
    rw [bH false (aR e),lh j hj];simp [e]
   ·
    by_cases e : j = i
    ·
     subst e;have : xP f j v j = v:=ag rfl;rw [this];exact (hval j hj Fu.1 pX hv).1
    have : xP f i v j = f j:=ah e;rw [this];rw [bH false (aR e)] at il;exact mono j hj _ _ _ fP (hΦ j hj il)
   ·
    by_cases e : j = i
    ·
     subst e;have : xP f j v j = v:=ag rfl;rw [this];exact ((hval j hj Fu.1 pX hv).2 EB).2
    have : xP f i v j = f j:=ah e;rw [this];rw [bH false (aR e)] at il;exact dt (hF j hj il EB) fP.size
   by_cases e : j = i
   ·
    subst e;have e1 : xP f j v j = v:=ag rfl;have e2 : xP f j v k = f k:=ah (aR hjk);rw [e1,e2];rw [bH false hjk] at hks;have h1:=((hval j hj Fu.1 pX hv).2 EB).1;have h2:=hF k hk hks KA;omega
   have e1 : xP f i v j = f j:=ah e;rw [e1];rw [bH false (aR e)] at il
   by_cases e3 : k = i
   ·
    subst e3;have e2 : xP f k v k = v:=ag rfl;rw [e2];have h1:=((hval k hk Fu.1 pX hv).2 KA).1;have h2:=hF j hj il EB;omega
   have e2 : xP f i v k = f k:=ah e3;rw [e2];rw [bH false (aR e3)] at hks;exact Fq j k hj hk hjk il hks EB KA
  have h1:=hR.1;have h2:=aQ List.length h1
  cases Lh : oi.dst <;> simp [Act.put,Lh] at h2
theorem yh {id : Nat} {a0 : Act} {w : World} {l : List Oper} (L : List pY) (F : List Nat) (N k : Nat) {on ok : Oper} (hm : P.follows .mixedOrders = true) (hB : Uy .any l.toArray L.length k = true) (hon : l.toArray[L.length]? = some on) (hok : l.toArray[k]? = some ok) (Uz : k ∉ F)
  (hsz : a0.tmps.size = N) (hN : Rl l.toArray L.length N = true) {fr : (Nat → Value) → Act} (hfr : ∀ f,fD l.toArray a0 f L.length = fr f)
  (head : Rm P Q l.toArray L F fr w l L 0)
  (tail : ∀ f w1,Below w.heap.size w w1 → (∀ j,j < L.length → (stA L j).p (f j) w1) → (∀ j k,j < L.length → k < L.length → j ≠ k → j ∈ F → k ∈ F → blk (f j) ≠ blk (f k)) → wpList P l.toArray Q (l.drop L.length) (fr f) w1)
  (JL : ∀ f w1,Below w.heap.size w w1 → (∀ j,j < L.length → j ≠ k → (stA L j).p (f j) w1) → (∀ j k,j < L.length → k < L.length → j ≠ k → j ∈ F → k ∈ F → blk (f j) ≠ blk (f k)) → wpList P l.toArray Q (on :: ok :: l.drop (L.length + 1)) (fr f) w1) : (Code.region id l.toArray true).wp P Q a0 w:=by
 have hn : L.length < l.toArray.size:=by
  simp only [Uy,aO,aS] at hB;exact hB.1.1.1.1.1.1.1.1
 refine wp_region_any hm ?_;have h:=zI6 (k:=k) (md:=.any) (Q:=Q) (P:=P) (n:=L.length) (a0:=a0) (w0:=w) (Φ:=fun j => (stA L j).p) (F:=fun j => j ∈ F) rfl hB hon hok Uz
  (fun i hi t ht => by
   have h1:=List.all_eq_true.1 hN i (List.mem_range.2 hi)
   rw [ht] at h1
   rw [hsz]
   simpa using h1)
  (fun j _ v w1 w2 hb h => (stA L j).m v w1 w2 hb h)
  (fun i o hi ho f w1 hb hd => by
   rw [hfr]
   have hS : L[i]? = some (stA L i):=by
    unfold stA
    rw [aw,aB hi]; rfl
   have h2:=T4 l L 0 head i o (stA L i) (by simpa using ho) hS f w1 hb (fun j hj => by
    unfold Li at hj
    obtain ⟨e,he,h3⟩:=Array.any_eq_true'.1 hj
    simp only [aO,ct] at h3
    rw [← h3.2]
    exact hd e he h3.1)
   rwa [aJ] at h2)
  (fun f w1 hb hΦ Fq => by rw [hfr]; exact tail f w1 hb hΦ Fq)
  (fun f w1 hb hΦ Fq => by rw [hfr]; exact JL f w1 hb hΦ Fq)
  L.length (List.range L.length) (Array.replicate l.toArray.size false) (fun j => match zW l.toArray j with | some d => a0.tmps.getD d undef | none => undef) w.drew
  List.nodup_range (by simp) (fun j hj => by rw [getD_replicate_false]; simp [hj]) (fun j hj => by simpa using hj)
  ⟨by simp,fun j oj _ hl => (by rw [getD_replicate_false] at hl; cases hl),fun t _ ht => getD_in (by simpa using ht) (getD_replicate_false _ _)⟩
  (zy (aj _ _)) (fun j _ hl => by rw [getD_replicate_false] at hl; cases hl) (fun j _ hl => by rw [getD_replicate_false] at hl; cases hl) (fun j k _ _ _ hl => by rw [getD_replicate_false] at hl; cases hl)
 have e0 : fD l.toArray a0 (fun j => match zW l.toArray j with | some d => a0.tmps.getD d undef | none => undef) L.length = a0:=PE _ _ _;rw [e0,show L.length + (l.toArray.size - L.length) = l.toArray.size by omega] at h;exact h
end
end Go.Proofs.YtcgfilmmokmdjaaGreat
