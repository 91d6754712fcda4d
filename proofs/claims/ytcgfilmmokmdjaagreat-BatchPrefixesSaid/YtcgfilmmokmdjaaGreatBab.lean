/- A part of the walk. -/
import Derived.Test.YtcgfilmmokmdjaaGreatQAP
set_option linter.all false
set_option maxRecDepth 100000
set_option maxHeartbeats 32000000
namespace Go.Proofs.YtcgfilmmokmdjaaGreat
open Go.RowKit
theorem zI9 (s : Sl) (L G : Int) (w : World) : Calls Tryz.prog 109 #[yK s L G] w fun e w' => e = .returned (yK s L G) ∧ Below w.heap.size w w':=by
 obtain ⟨W0,hW0⟩ : ∃ W0,(w.alloc (.cells (yj s L G) 111)).alloc (.cells (yj Sl.nil 0 0) 36) = W0:=⟨_,rfl⟩
 have HX:=zh (show eM W0 w.heap.size s L G from hW0 ▸ ((eM.new w s L G 111).below (za _ Sl.nil 0 0 36)));have HY:=zh (show eM W0 (w.heap.size + 1) Sl.nil 0 0 from hW0 ▸ (by have:=eM.new (w.alloc (.cells (yj s L G) 111)) Sl.nil 0 0 36; simpa using this));have HB:=zh (show Below w.heap.size w W0 from hW0 ▸ zA (za w s L G 111) (za _ Sl.nil 0 0 36));have EG:=zh hW0;clear hW0
 go_enter Tryz.func109,Tryz.ntmps109
 go_upto_region 1 with fail;have hW0:=EG.out;rw [show (w.alloc (.cells (yj s L G) 111)).alloc (.cells #[.slice none 0 0,.slice none 0 0,.slice none 0 0,.slice none 0 0,.slice none 0 0,.slice none 0 0,.slice none 0 0,.slice none 0 0,.int .i64 0,.int .i64 0] 36) = W0 from hW0];clear hW0 EG;obtain ⟨c0,c1,c2,c3,c4,c5,c6,c7,c8,c9⟩:=HX.out.q;have cF:=HX.out.f;obtain ⟨d0,d1,d2,d3,d4,d5,d6,d7,d8,d9⟩:=HY.out.q;have dF:=HY.out.f;go_wp2_with fail;change bodyPost _ _ _ _ _ (yH W0 (w.heap.size + 1) s L G);have hby:=HY.out.all s L G;have ey:=zh (zY HB.out (show w.heap.size ≤ w.heap.size + 1 by omega) s L G);generalize yH W0 (w.heap.size + 1) s L G = V9 at *;exact au (v:=yK s L G) (by simp [results,Tryz.results109,go_sem,hby.q]) rfl ⟨rfl,ey.out⟩
theorem zIo (n r md z : Int) (s : Sl) (L G : Int) (w : World) : Calls Tryz.prog 67 #[zV n r md z s L G] w fun e w' => e = .returned (zV n r md z s L G) ∧ Below w.heap.size w w':=by
 obtain ⟨W0,hW0⟩ : ∃ W,w.alloc (.cells (zQ n r md z s L G) 113) = W:=⟨_,rfl⟩
 have BZ:=zh (show eH W0 w.heap.size n r md z s L G from hW0 ▸ eH.new w n r md z s L G 113);have eQ:=zh (show Below w.heap.size w W0 from hW0 ▸ zb w n r md z s L G 113);have HR:=zh (eH.new W0 0 0 0 0 Sl.nil 0 0 38);have HX:=zh (BZ.out.below (zb W0 0 0 0 0 Sl.nil 0 0 38));have HB:=zh (zA eQ.out (zb W0 0 0 0 0 Sl.nil 0 0 38));have hlz : w.heap.size ≤ W0.heap.size:=eQ.out.size;have hz0 : W0.heap.size = w.heap.size + 1:=by rw [← hW0]; simp
 go_enter Tryz.func67,Tryz.ntmps67
 go_upto_region 1 with fail;change Code.wp _ _ _ _ (W0.alloc (.cells (zQ 0 0 0 0 Sl.nil 0 0) 38));clear hW0 BZ eQ;obtain ⟨W,hW⟩ : ∃ W,W0.alloc (.cells (zQ 0 0 0 0 Sl.nil 0 0) 38) = W:=⟨_,rfl⟩
 rw [hW] at HX HB HR ⊢;clear hW;rw [hz0] at HR;clear hz0;refine yx [eX (.pointer (some ⟨w.heap.size,0,none⟩)),eX (.int .i64 n),eX (.pointer (some ⟨w.heap.size,1,none⟩)),eX (.int .i64 r),eX (.pointer (some ⟨w.heap.size,2,none⟩)),eX (.int .i64 md),eX (.pointer (some ⟨w.heap.size,3,none⟩)),eX (.int .i64 z),eX (.pointer (some ⟨w.heap.size,4,none⟩)),eX (yK s L G),eX (yK s L G),eX (zV n r md z s L G)] [] 15 (by kernel_rfl) (by kernel_rfl) (by rfl) (by kernel_rfl) (fun f => by simp [fD,zW,Act.put]; exact rfl) ?_ ?_
 ·
  refine ⟨?_,?_,?_,?_,?_,?_,?_,?_,?_,?_,?_,?_,trivial⟩
  ·
   intro f w1 hb hd;clear hd;dsimp only;go_wp2_with fail;exact pS rfl (by simp)
  ·
   intro f w1 hb hd;have d0 : f 0 = (.pointer (some ⟨w.heap.size,0,none⟩)):=hd 0 (by kernel_rfl);clear hd;dsimp only;rw [d0];have q0:=(HX.out.below hb).n0;go_wp2_with fail;exact pS rfl (by simp)
  ·
   intro f w1 hb hd;clear hd;dsimp only;go_wp2_with fail;exact pS rfl (by simp)
  ·
   intro f w1 hb hd;have d2 : f 2 = (.pointer (some ⟨w.heap.size,1,none⟩)):=hd 2 (by kernel_rfl);clear hd;dsimp only;rw [d2];have q0:=(HX.out.below hb).n1;go_wp2_with fail;exact pS rfl (by simp)
  ·
   intro f w1 hb hd;clear hd;dsimp only;go_wp2_with fail;exact pS rfl (by simp)
  ·
   intro f w1 hb hd;have d4 : f 4 = (.pointer (some ⟨w.heap.size,2,none⟩)):=hd 4 (by kernel_rfl);clear hd;dsimp only;rw [d4];have q0:=(HX.out.below hb).n2;go_wp2_with fail;exact pS rfl (by simp)
  ·
   intro f w1 hb hd;clear hd;dsimp only;go_wp2_with fail;exact pS rfl (by simp)
  ·
   intro f w1 hb hd;have d6 : f 6 = (.pointer (some ⟨w.heap.size,3,none⟩)):=hd 6 (by kernel_rfl);clear hd;dsimp only;rw [d6];have q0:=(HX.out.below hb).n3;go_wp2_with fail;exact pS rfl (by simp)
  ·
   intro f w1 hb hd;clear hd;dsimp only;go_wp2_with fail;exact pS rfl (by simp)
  ·
   intro f w1 hb hd;have d8 : f 8 = (.pointer (some ⟨w.heap.size,4,none⟩)):=hd 8 (by kernel_rfl);clear hd;dsimp only;rw [d8];have zo:=HX.out.below hb;obtain ⟨q0,q1,q2,q3,q4,q5,q6,q7,q8,q9,FC,FD,FE,FF⟩:=zo.q;clear zo;go_wp2_with fail;exact pS rfl (by simp)
  ·
   intro f w1 hb hd;have d9 : f 9 = (yK s L G):=hd 9 (by kernel_rfl);clear hd;dsimp only;rw [d9];go_wp2_with fail;refine (zI9 s L G w1).mono ?_;rintro e w9 ⟨rfl,gL⟩;go_wp2_with fail;exact pT rfl (by simp) gL
  intro f w1 hb hd;have d1 : f 1 = (.int .i64 n):=hd 1 (by kernel_rfl);have d3 : f 3 = (.int .i64 r):=hd 3 (by kernel_rfl);have d5 : f 5 = (.int .i64 md):=hd 5 (by kernel_rfl);have d7 : f 7 = (.int .i64 z):=hd 7 (by kernel_rfl);have d10 : f 10 = (yK s L G):=hd 10 (by kernel_rfl);clear hd;dsimp only;rw [d1];rw [d3];rw [d5];rw [d7];rw [d10];go_wp2_with fail;exact pS rfl (by simp)
 intro f w5 hb hd iD;clear iD;have d11 : f 11 = (zV n r md z s L G):=hd 11 (show 11 < 12 by decide)
 try dsimp only
 rw [d11];clear hd d11;generalize f 0 = D3,f 1 = Dy,f 2 = Dz,f 3 = DC,f 4 = DF,f 5 = DG,f 6 = E7,f 7 = Ii,f 8 = MF,f 9 = KI,f 10 = Es;clear f;have HY:=zh (HR.out.below hb);have gw:=zh (zA HB.out hb);clear hb;have rf:=HY.out.f;obtain ⟨r0,r1,r2,r3,r4,r5,r6,r7,r8,r9,jU,lM,mI,Ba⟩:=HY.out.q;go_wp2_with fail;change bodyPost _ _ _ _ _ (pts w5 (w.heap.size + 1) (zJ n r md z s L G));have hby:=HY.out.all n r md z s L G;have ey:=zh (zD (B:=w.heap.size) (b:=w.heap.size + 1) (by omega) (zJ n r md z s L G) gw.out);generalize pts w5 (w.heap.size + 1) (zJ n r md z s L G) = V at *;exact au (v:=zV n r md z s L G) (by simp [results,Tryz.results67,go_sem,hby.q]) rfl ⟨rfl,ey.out⟩
theorem zHp (i l : Int) (r : Bool) (a : Option Addr) (n c : Nat) (L : List GP) (w : World) (h : fH w (.slice a n c) L) (hn : n ≤ 1000000) :
  Calls Tryz.prog 23 #[ze i l r a n c] w fun e w' => (∃ a' c',e = .returned (ze i l r a' n c') ∧ fH w' (.slice a' n c') L) ∧ Below w.heap.size w w':=by
 have gy : L.length = n:=by
  obtain ⟨_,_,e,_⟩:=h.shape;injection e with _ e _; exact e.symm
 have HR:=zh h;have HMm:=zh (show ∀ k,k < n → pat L k ∈ L from fun k hk => xN (by omega));have Qb:=zh (show ∀ k,k < n → (L.take (k + 1)).flatMap iY = (L.take k).flatMap iY ++ iY (pat L k) from fun k hk => zIA L k (by omega));have U5:=zh (show L.take n = L from aH (by omega));have iL:=zh gy;have hcap : n ≤ 9223372036854775807:=by omega
 clear h gy
 go_enter Tryz.func23,Tryz.ntmps23
 go_upto_region 1 with fail;change Code.wp _ _ _ _ ((w.alloc (.cells (zN i l r a n c) 31)).alloc (.cells (zN 0 0 false none 0 0) 27));obtain ⟨W0,hW0,fF,hbr,fP,JM⟩:=zIy w i l r a n c 31 27;rw [hW0];clear hW0;have k0:=fF.c0;have k1:=fF.c1;have k2:=fF.c2;have BZ:=zh fF;have lz:=zh hbr;have eQ:=zh fP;have hsz:=JM;clear fF hbr fP JM;go_upto_region 2 with fail;clear k0 k1 k2;change Code.wp _ _ _ _ (W0.alloc (.cells (zN i l r none 0 0) 27));have eU:=zS W0 i l r none 0 0 27;have HO:=zh (fc.new W0 i l r none 0 0 27);have HX:=zh (BZ.out.below eU);have CA:=zh (lz.out.below eU);have HB:=zh (zA eQ.out eU);clear eU BZ lz eQ;generalize W0.alloc (.cells (zN i l r none 0 0) 27) = W1 at *;rw [hsz] at HO;clear hsz;clear W0;have hlo:=HO.out.lt;have k3:=HX.out.c3;go_wp2_with fail;clear k3
 go_loopw [16] (fun iv V => ∃ (k : Nat) (a' : Option Addr) (c' : Nat),iv = .int .i64 (k : Int) ∧ k ≤ n ∧ Hid (V.ownsRow W1.heap.size 38 14 (.slice a' k c') k ((L.take k).flatMap iY)) ∧ Hid (fc V (w.heap.size + 2) i l r a' k c') ∧ Hid (fc V (w.heap.size + 1) 0 0 false none 0 0) ∧ Hid (Below w.heap.size w V) ∧ Hid (W1.heap.size ≤ V.heap.size)) (fun iv _ => n - (intOf iv).toNat)
 case atStart => exact ⟨0,none,0,rfl,aq _,zh (aU _ _ _ _),HO,CA,HB,zh (ai _)⟩
 clear HO CA HB HX;obtain ⟨k,a',c',rfl,hk,E4,HO,CA,HB,iW⟩:=hrel
 by_cases hlt : k < n
 ·
  have i1 : (k : Int) < (n : Int):=by omega
  have hR:=HR.out.below HB.out;obtain ⟨b,off,rfl,hg⟩:=hR.at hlt;have hfl:=Qb.out k hlt;clear hR;generalize pat L k = p at *;obtain ⟨⟨num,rev,md,sz,⟨fs,LV,GA⟩⟩,s⟩:=p
  try dsimp only at hfl
  obtain ⟨g0,g1,g2,g3,g4,g5,g6,g7,g8,g9,g10,g11,g12,g13⟩:=hg
  try dsimp only at g0 g1 g2 g3 g4 g5 g6 g7 g8 g9 g10 g11 g12 g13
  go_upto_region 5 with fail;clear g0 g1 g2 g3 g4 g5 g6 g7 g8 g9 g10 g11 g12 g13;change Code.wp _ _ _ _ (wr.alloc (.cells (zQ num rev md sz s LV GA) 113));have eU:=zb wr num rev md sz s LV GA 113;have HG:=zh (eH.new wr num rev md sz s LV GA 113);replace E4:=zh (zI E4.out eU);replace HO:=zh (HO.out.below eU);replace CA:=zh (CA.out.below eU);replace HB:=zh (zA HB.out eU);replace iW:=zh (ak iW.out eU.size);clear eU;generalize wr.alloc (.cells (zQ num rev md sz s LV GA) 113) = v0 at *;generalize wr.heap.size = bg at *;have Z7:=zh hfl;have l6:=zh (Un ((⟨num,rev,md,sz,⟨fs,LV,GA⟩⟩ : Gn),s));clear hfl
  refine yx [eX (.pointer (some ⟨w.heap.size + 2,3,none⟩)),eX (.slice a' k c'),eX (zV num rev md sz s LV GA),eX (zV num rev md sz s LV GA),zM3 ((⟨num,rev,md,sz,⟨fs,LV,GA⟩⟩ : Gn),s)] [] 29 (by kernel_rfl) (by kernel_rfl) (by rfl) (by kernel_rfl) (fun f => by simp [fD,zW,Act.put]; exact rfl) ?_ ?_
  ·
   refine ⟨?_,?_,?_,?_,?_,trivial⟩
   ·
    intro f w1 hb hd;clear hd;dsimp only;go_wp2_with fail;exact pS rfl (by simp)
   ·
    intro f w1 hb hd;have d0 : f 0 = (.pointer (some ⟨w.heap.size + 2,3,none⟩)):=hd 0 (by kernel_rfl);clear hd;dsimp only;rw [d0];have q3:=(HO.out.below hb).c3;go_wp2_with fail;exact pS rfl (by simp)
   ·
    intro f w1 hb hd;clear hd;dsimp only;have zo:=HG.out.below hb;obtain ⟨q0,q1,q2,q3,q4,q5,q6,q7,q8,q9,FC,FD,FE,FF⟩:=zo.q;clear zo;go_wp2_with fail;exact pS rfl (by simp)
   ·
    intro f w1 hb hd;have d2 : f 2 = (zV num rev md sz s LV GA):=hd 2 (by kernel_rfl);clear hd;dsimp only;rw [d2];go_wp2_with fail;refine (zIo num rev md sz s LV GA w1).mono ?_;rintro e w9 ⟨rfl,gL⟩;go_wp2_with fail;exact pT rfl (by simp) gL
   intro f w1 hb hd;have d3 : f 3 = (zV num rev md sz s LV GA):=hd 3 (by kernel_rfl);clear hd;dsimp only;rw [d3];have I5:=zh (Rd.Da w1.heap.size w1 rfl 14 (iY ((⟨num,rev,md,sz,⟨fs,LV,GA⟩⟩ : Gn),s)) 38 1 rfl (by decide));have lN:=zh ((aj w1.heap.size w1).alloc (ai _) (.cells (iY ((⟨num,rev,md,sz,⟨fs,LV,GA⟩⟩ : Gn),s)).toArray 38));go_wp2_with fail;refine ⟨rfl,?_,?_⟩
   ·
    exact lN.out
   intro t ht;injection ht with ht;subst ht;refine ⟨⟨_,rfl,?_⟩,fun h => by simp at h⟩;exact I5.out
  intro f' w5 hb hd iD;clear iD;have d1 : f' 1 = .slice a' k c':=hd 1 (show 1 < 5 by decide);obtain ⟨j4,d4,hr4⟩:=show ∃ j,f' 4 = .slice (some ⟨j,0,none⟩) 1 1 ∧ Rd w5 14 (.slice (some ⟨j,0,none⟩) 1 1) 1 (iY ((⟨num,rev,md,sz,⟨fs,LV,GA⟩⟩ : Gn),s)) from hd 4 (show 4 < 5 by decide)
  try dsimp only
  rw [d1,d4];clear hd d1 d4;generalize f' 0 = z0;generalize f' 2 = z2;generalize f' 3 = z3;clear f';have f_:=zI E4.out hb;have Ir:=ak iW.out hb.size;have Z8:=HO.out.below hb;have Z9:=CA.out.below hb;have Z_:=zA HB.out hb;refine zi rfl (.tmp 21) (.tmp 24) 25 rfl zKE W1.heap.size rfl f_ rfl hr4 l6.out (by unfold maxLen; omega) (by omega) Ir ?_;intro v8 w8 fO ig _;obtain ⟨ra,rc,rfl,_⟩:=zM fO;rw [← Z7.out] at fO;have OU:=Z8.JK ig (zGk f_ hlo);have aac:=Z9.JK ig (zGk f_ (show w.heap.size + 1 < W1.heap.size by omega));have aad:=Z_.trans ((zL (aj W1.heap.size w5) f_ Ir ig).mono (show w.heap.size ≤ W1.heap.size by omega));have aae:=ak Ir ig.size;have q3:=OU.c3;have qf:=OU.f;go_wp2_with fail
  exact ⟨⟨k + 1,ra,rc,by go_num,by omega,zh (vY (b:=w.heap.size + 2) hlo fO [(3,.slice ra (k + 1) rc)]),zh (OU.Lt ra (k + 1) rc),zh (aac.eD (d:=w.heap.size + 2) (by omega) [(3,.slice ra (k + 1) rc)]),zh (zD (B:=w.heap.size) (b:=w.heap.size + 2) (by omega) [(3,.slice ra (k + 1) rc)] aad),zh (show W1.heap.size ≤ (pts w8 (w.heap.size + 2) [(3,.slice ra (k + 1) rc)]).heap.size by rw [uI]; exact aae)⟩,by simp [intOf]; omega⟩
 have i1 : ¬ (k : Int) < (n : Int):=by omega
 obtain rfl : k = n:=by omega
 rw [U5.out] at E4;obtain ⟨k0,k1,k2,k3⟩:=HO.out.q;have DK : w.heap.size + 1 < W1.heap.size:=by omega
 obtain ⟨z0,z1,z2,z3⟩:=CA.out.q;have zf:=CA.out.f;go_wp2_with fail;change bodyPost _ _ _ _ _ (pts wr (w.heap.size + 1) (zP i l r a' k c'));have IV:=zh (show fH (pts wr (w.heap.size + 1) (zP i l r a' k c')) (.slice a' k c') L from RI (vY (b:=w.heap.size + 1) (by omega) E4.out _) iL.out.symm (fun p hp => (HR.out.m p hp).below (zD (B:=w.heap.size) (b:=w.heap.size + 1) (by omega) (zP i l r a' k c') HB.out)));have hby:=CA.out.all i l r a' k c';have ey:=zh (zD (B:=w.heap.size) (b:=(w.heap.size + 1)) (by omega) (zP i l r a' k c') HB.out);generalize pts wr (w.heap.size + 1) (zP i l r a' k c') = V at *;exact au (v:=ze i l r a' k c') (by simp [results,Tryz.results23,go_sem,hby.c0,hby.c1,hby.c2,hby.c3]) rfl (⟨⟨a',c',rfl,IV.out⟩,ey.out⟩)
end Go.Proofs.YtcgfilmmokmdjaaGreat
