/- A part of the walk. -/
import Derived.Test.YtcgfilmmokmdjaaGreatQAY
import Derived.Test.YtcgfilmmokmdjaaGreatSkb
import Derived.Test.YtcgfilmmokmdjaaGreatQAL
set_option linter.all false
set_option maxRecDepth 100000
set_option maxHeartbeats 32000000
namespace Go.Proofs.YtcgfilmmokmdjaaGreat
open Go.RowKit
theorem fW.rd {W : World} {B : Nat} {v : Value} {es : List (Nd × Value)} (h : fW W B v es) : mr W v es:=⟨zw h.row,fun p hp => (h.dat p hp).rd⟩
theorem zHg {K : Nat} {g : Gn} {m : Int} (h : ∀ i,i < 8 → (g.m.st i).length ≤ K) (i : Nat) (hi : i < 8) : ((xl g m).2.m.st i).length ≤ K:=by
 unfold xl
 split
 ·
  split
  ·
   exact h i hi
  exact aq _
 exact aq _
theorem zMC {b : Nat} {v1 v2 V : World} (hs : v1.heap.size = b) (h : Below b v1 v2) (h2 : Below v2.heap.size v2 V) : Below b v1 V:=h.trans (h2.mono (by rw [← hs]; exact h.size))
def AcB (W : World) (b : Nat) (kind : Int) (l : Value) (g : Int) (k : Value) : Prop:=dX W b #[.int .i64 kind,l,.int .i64 g,k] 141
theorem zHM (v : Value) (ac : List Bp) (w : World) (h : JN w v ac) : Calls Tryz.prog 20 #[v] w (SlR w (OM ac)):=by
 obtain ⟨va,vc,rfl,Dk,hv2⟩:=h.shape;have HA:=zh h;have Ks:=zh (fun k (hk : k ≤ ac.length) => tt ac k hk);have KC:=zh (fun k (hk : k < ac.length) => zAB ac k hk)
 have DM:=zh (show ∀ k,(k = 8 ∨ (k = ac.length ∧ k ≤ 8)) → OM ac = wN H_ (ac.take k) from fun k hk => by
  unfold OM
  rcases hk with rfl | ⟨rfl,hk⟩
  ·
   rfl
  rw [aH hk,aH (ai _)])
 have hcap : ac.length ≤ 9223372036854775807:=ak Dk hv2;have JS:=zh (fun W => zHS 1 9000 (by decide) W);clear h Dk hv2;generalize hn : ac.length = n at *;clear hn
 go_enter Tryz.func20,Tryz.ntmps20
 go_upto_region 1 with fail;change Code.wp _ _ _ _ (w.alloc (.cells (zN 0 0 false none 0 0) 31));have HZ:=zh (dX.new w (zN 0 0 false none 0 0) 31);have HB:=zh (zS w 0 0 false none 0 0 31);generalize w.alloc (.cells (zN 0 0 false none 0 0) 31) = w0 at *;go_wp2_with fail;refine (JS.out w0).mono ?_;rintro e w1 ⟨b,rfl,jP,hg,hb⟩;have HR:=zh (Ub hg);replace HZ:=zh (HZ.out.below hb);replace HB:=zh (zA HB.out hb);clear hg hb jP JS;have hbS:=HZ.out.lt;go_upto_region 2 with fail;change Code.wp _ _ _ _ (w1.alloc (.cells (zN 1 9000 false (some ⟨b,0,none⟩) 1 1) 31));have eU:=zS w1 1 9000 false (some ⟨b,0,none⟩) 1 1 31;have HS:=zh (dX.new w1 (zN 1 9000 false (some ⟨b,0,none⟩) 1 1) 31);replace HZ:=zh (HZ.out.below eU);replace HB:=zh (zA HB.out eU);replace HR:=zh (HR.out.below eU);clear eU;generalize w1.alloc (.cells (zN 1 9000 false (some ⟨b,0,none⟩) 1 1) 31) = w2 at *
 generalize w1.heap.size = bS at *;go_wp2_with fail
 go_loopw [5] (fun iv V => ∃ (k : Nat) (a : Option Addr) (m c : Nat) (L : List GP),iv = .int .i64 (k : Int) ∧ k ≤ n ∧ k ≤ 8 ∧ Hid (dX V bS (zN 1 9000 false a m c) 31) ∧ Hid (fH V (.slice a m c) L) ∧ Hid (ea L = (wN H_ (ac.take k)).dW) ∧ Hid (dX V w.heap.size (zN 0 0 false none 0 0) 31) ∧ Hid (Below w.heap.size w V)) (fun iv _ => n - (intOf iv).toNat)
 case atStart => exact ⟨0,_,_,_,H8,rfl,aq _,aq _,HS,HR,zh rfl,HZ,HB⟩
 clear HS HR HZ HB;obtain ⟨k,a,m,c,L,rfl,hk,jI,HS,HR,HE,HZ,HB⟩:=hrel
 by_cases hlt : k < n
 ·
  have i1 : (k : Int) < (n : Int):=by omega
  by_cases aq5 : k < 8
  ·
   have i2 : (k : Int) < 8:=by omega
   obtain ⟨bq,oq,rfl,c0,c1,c2,c3,hN,hWf,hU⟩:=(HA.out.below HB.out).at hlt;have HI:=Ks.out k hk;have hst:=KC.out k hlt;unfold ZO at hst;generalize kY ac k = x at *;obtain ⟨kind,lv,nl,gen,kv,keys⟩:=x;dsimp only at *;obtain ⟨la,lc,rfl,Eg,hl2⟩:=hN.shape;obtain ⟨ka,kc,rfl,Ff,hk2⟩:=hU.gl;have Ew:=zh (fun W (hb : Below wr.heap.size wr W) => zFe (.slice la nl.length lc) nl 6 W (hN.below hb) (by decide));have HU:=zh hU;have PX:=ZN 6 (nl.map (·.1));have hsd:=zFN 6 (nl.map (·.1));clear hN hWf hU Eg hl2;generalize nl.map (·.1) = ND at *;generalize nl.length = nn at *;obtain ⟨hIv,MN,DW,MO,hIn,hIz⟩:=HI;generalize wN H_ (ac.take k) = sk at *;have jT:=zh (Ks.out (k + 1) (by omega));generalize Ta : wN H_ (ac.take (k + 1)) = Qa at *;have OQ:=zh Ta;clear Ta;obtain ⟨J1,Cw,J2,sg⟩:=sk;dsimp only at MN DW MO hIn hIz HE;subst MN DW MO
   obtain rfl : sg = ea L:=HE.out.symm;have jM:=zh hst;clear hst HE;have hlen:=hIv.len;have ZV : L.length = m:=by
    obtain ⟨_,_,e,_⟩:=HR.out.shape;injection e with _ e _; exact e.symm
   dsimp only at hlen;rw [yB,ZV] at hlen;obtain ⟨j,rfl⟩ : ∃ j,m = j + 1:=⟨m - 1,by omega⟩
   have hj7 : j ≤ 7:=by omega
   have FQ:=zh (show ∀ p ∈ L,∀ i,i < 8 → (p.1.m.st i).length ≤ 48 from fun p hp i hi => ak (hIn p.1 (cU hp) i hi) (by omega));have Tb:=zh ZV;clear hIv hIn hIz hlen ZV;go_upto_region 6 with fail;clear c0 c1 c2 c3;change Code.wp _ _ _ _ (wr.alloc (.cells #[.int .i64 kind,.slice la nn lc,.int .i64 gen,.slice ka keys.length kc] 141));have eU:=(aj wr.heap.size wr).alloc (ai _) (.cells #[.int .i64 kind,.slice la nn lc,.int .i64 gen,.slice ka keys.length kc] 141);have KU:=zh (show AcB (wr.alloc (.cells #[.int .i64 kind,.slice la nn lc,.int .i64 gen,.slice ka keys.length kc] 141)) wr.heap.size kind (.slice la nn lc) gen (.slice ka keys.length kc) from dX.new _ _ _);replace HS:=zh (HS.out.below eU);replace HR:=zh (HR.out.below eU);replace HZ:=zh (HZ.out.below eU);replace HB:=zh (zA HB.out eU);replace HU:=zh (iw.below HU.out eU)
   replace Ew:=zh (fun W (hb : Below _ _ W) => Ew.out W (zA eU hb));clear eU;generalize wr.alloc (.cells #[.int .i64 kind,.slice la nn lc,.int .i64 gen,.slice ka keys.length kc] 141) = v0 at *;generalize wr.heap.size = bA at *;have hlp : 0 < j + 1:=by omega
   obtain ⟨t,kk,e1,e2,e3,e4,e5,e6,e7⟩:=zLB gen (j + 1) hlp;simp only [cH,Int.natCast_one] at e1 e2 e3 e4 e5;have q2:=zB (show v0.cell? ⟨bA,2,none⟩ = some (.int .i64 gen) from dX.cell KU.out rfl);have k3:=zB (dX.iu HS.out).c3;refine zC (by kernel_rfl) (by kernel_rfl) ?_
   repeat (go_big_quiet_step (fail))
   refine aA ?_;intro _ hw';obtain ⟨q,hw'⟩:=hw';subst hw';replace HS:=zh (HS.out.below q.h);replace HR:=zh (HR.out.below q.h);replace HZ:=zh (HZ.out.below q.h);replace HB:=zh (zA HB.out q.h);replace HU:=zh (iw.below HU.out q.h);replace KU:=zh (show AcB q.w' bA kind (.slice la nn lc) gen (.slice ka keys.length kc) from dX.below KU.out q.h);replace Ew:=zh (fun W (hb : Below _ _ W) => Ew.out W (zA q.h hb));clear q2 k3;generalize q.w' = v1 at *;clear q e1 e2 e3 e4 e5;have hmem:=xN (l:=L) (i:=kk) (by have:=Tb.out; omega);have mJ:=zh (HR.out.m _ hmem);have Er:=zh (FQ.out _ hmem);obtain ⟨bg,og,rfl,_⟩:=HR.out.at e6;have HG:=zh (HR.out.Ru e6);have MP:=zh (show eB (ea L) (gen % ((ea L).length : Int)).toNat = (pat L kk).1 from by rw [yB,Tb.out]; simp only [cH,Int.natCast_one]; rw [show gen % ((j : Int) + 1) = (kk : Int) from by simpa using e7,cS,xJ])
   clear hmem e7;generalize pat L kk = p at *;obtain ⟨⟨num,rev,md,sz,⟨fs,LV,GA⟩⟩,s⟩:=p;dsimp only at mJ Er MP;have k3:=(dX.iu HS.out).c3;have i3 : (kk : Int) < (j : Int) + 1:=by omega
   have i4 : (kk : Int) < ((j + 1 : Nat) : Int):=by omega
   obtain ⟨g0,g1,g2,g3,g4,g5,g6,g7,g8,g9,g10,g11,g12,g13⟩:=HG.out.q;dsimp only at g0 g1 g2 g3 g4 g5 g6 g7 g8 g9 g10 g11 g12 g13;go_upto_region 7 with fail
   go_cut [8,9] (fun vb ve wx => vb = .pointer (some ⟨v1.heap.size,0,none⟩) ∧ ve = .int .i64 1 ∧ wx = v1.alloc (.cells (zQ num rev md sz s LV GA) 113))
   case first =>
    go_wp2_with fail;go_meet
    case rel => exact ⟨rfl,rfl,rfl⟩
   case rest =>
   clear k3;clear g0 g1 g2 g3 g4 g5 g6 g7 g8 g9 g10 g11 g12 g13;obtain ⟨rfl,rfl,rfl⟩:=hcut
   have eV:=zh (zb v1 num rev md sz s LV GA 113);have XG:=zh (dX.new v1 (zQ num rev md sz s LV GA) 113);have Jb:=zh (mJ.out.below eV.out);generalize v1.alloc (.cells (zQ num rev md sz s LV GA) 113) = v2 at *;generalize U4 : v1.heap.size = bG at *;have jO:=zh (fun V (h : Below bG v1 V) => show Below v1.heap.size v1 V from U4 ▸ h);have EE:=zh (fun V (h : Below v2.heap.size v2 V) => show Below bG v1 V from zMC U4 eV.out h);have hSG : bS < bG:=by rw [← U4]; exact HS.out.lt
   clear U4;have iL:=zh (show ∀ p ∈ L,∀ j,j < 8 → (p.1.m.st j).length ≤ 10000 from fun p hp i hi => ak (FQ.out p hp i hi) (by decide));go_step;go_step
   go_cut [9] (fun ve wx => ∃ (er an ar am az aL aG : Int) (sG : Sl) (af : Nat → List It) (a' : Option Addr) (m' c' : Nat) (L' : List GP),ve = .int .i64 er ∧ Hid (dX wx bG (zQ an ar am az sG aL aG) 113) ∧ Hid (fq wx sG af) ∧ Hid (∀ i,i < 8 → (af i).length ≤ 10000) ∧ Hid (dX wx bS (zN 1 9000 false a' m' c') 31) ∧ Hid (fH wx (.slice a' m' c') L') ∧ Hid (∀ p ∈ L',∀ j,j < 8 → (p.1.m.st j).length ≤ 10000) ∧ Hid (Qa.dW = (uE ⟨1,9000,false,ea L'⟩ (er,⟨an,ar,am,az,⟨af,aL,aG⟩⟩)).dW) ∧ Hid (dX wx w.heap.size (zN 0 0 false none 0 0) 31) ∧ Hid (Below w.heap.size w wx))
   case first =>
    have q0 : v2.cell? ⟨bA,0,none⟩ = some (.int .i64 kind):=dX.cell (dX.below KU.out (jO.out _ eV.out)) rfl;obtain ⟨kd,Pr,Tc⟩ : ∃ kd,bits .and .i64 kind 7 = kd ∧ 0 ≤ kd ∧ kd < 8:=⟨_,rfl,by rw [zEm]; omega⟩
    rw [← zEm kind,Pr] at jM;have Be:=zh Tc;clear Tc;go_upto_if 55 with fail;clear Pr q0
    go_cut [55] (fun v wx => v = .bool (decide (kd < 4)) ∧ wx = v2)
    case first =>
     rcases (show kd = 0 ∨ kd = 1 ∨ kd = 2 ∨ kd = 3 ∨ (4 ≤ kd ∧ kd < 8) from by have:=Be.out; omega) with rfl | rfl | rfl | rfl | ⟨h4,h8⟩
     ·
      go_wp2_with fail;go_meet
      case rel => exact ⟨rfl,rfl⟩
     ·
      go_wp2_with fail;go_meet
      case rel => exact ⟨rfl,rfl⟩
     ·
      go_wp2_with fail;go_meet
      case rel => exact ⟨rfl,rfl⟩
     ·
      go_wp2_with fail;go_meet
      case rel => exact ⟨rfl,rfl⟩
     have e0 : (kd == 0) = false:=beq_eq_false_iff_ne.2 (by omega);have e1 : (kd == 1) = false:=beq_eq_false_iff_ne.2 (by omega);have e2 : (kd == 2) = false:=beq_eq_false_iff_ne.2 (by omega);have e3 : (kd == 3) = false:=beq_eq_false_iff_ne.2 (by omega);have e4 : decide (kd < 4) = false:=aC (by omega);go_wp2_with fail;go_meet
     case rel => exact ⟨by rw [e4],rfl⟩
    obtain ⟨rfl,hwc⟩:=hcut;generalize wc = w5 at *;replace hwc:=hwc.symm;subst hwc
    by_cases h4 : kd < 4
    ·
     have hk4 : decide (kd < 4) = true:=aD h4;rw [hk4]
     have Mv:=zh (jM.out.trans (show tN ⟨1,9000,false,ea L⟩ kd ND gen keys = uE ⟨1,9000,false,ea L⟩ (xQ (zK ⟨1,9000,false,ea L⟩) (Ja 6 ND)) from by
      unfold tN; rw [ah (by omega),ah (by omega),ah (by omega)]))
     clear hk4 h4 Be jM;go_upto_region 13 with fail;have ZW:=xN (l:=L) (i:=j) (by have:=Tb.out; omega);have CO:=zh (HR.out.m _ ZW);have Jm:=zh (FQ.out _ ZW);have jt:=zh (HR.out.Ru (show j < j + 1 by omega));have jR:=zh (show Qa = uE ⟨1,9000,false,ea L⟩ (xQ (pat L j).1 (Ja 6 ND)) from by rw [← ul (i:=1) (l:=9000) (r:=false) Tb.out]; exact Mv.out);clear ZW Mv MP mJ Er HG Jb HU;generalize pat L j = p at *;obtain ⟨⟨n2,r2,m2,z2,⟨f2,L2,G2⟩⟩,s2⟩:=p;dsimp only at CO Jm jR;generalize Ja 6 ND = SN at *
     have CW:=zh (show ∀ lv es W,Below v2.heap.size v2 W → mr W lv es → es.map (·.1) = SN → Calls Tryz.prog 43 #[zV n2 r2 m2 z2 s2 L2 G2,lv] W fun e w' => (∃ s',e = .returned (.tuple #[zV (xQ ⟨n2,r2,m2,z2,⟨f2,L2,G2⟩⟩ SN).2.num (xQ ⟨n2,r2,m2,z2,⟨f2,L2,G2⟩⟩ SN).2.rev (xQ ⟨n2,r2,m2,z2,⟨f2,L2,G2⟩⟩ SN).2.mode (xQ ⟨n2,r2,m2,z2,⟨f2,L2,G2⟩⟩ SN).2.size s' (xQ ⟨n2,r2,m2,z2,⟨f2,L2,G2⟩⟩ SN).2.m.live (xQ ⟨n2,r2,m2,z2,⟨f2,L2,G2⟩⟩ SN).2.m.dZ,.int .i64 (xQ ⟨n2,r2,m2,z2,⟨f2,L2,G2⟩⟩ SN).1]) ∧ fq w' s' (xQ ⟨n2,r2,m2,z2,⟨f2,L2,G2⟩⟩ SN).2.m.st) ∧ Below W.heap.size W w' from fun lv es W hb h2 h3 => by
      have hb1 : Below v1.heap.size v1 W:=jO.out _ (EE.out _ hb)
      have hle : es.length ≤ 6:=by have:=aQ List.length h3; rw [aI] at this; omega
      have h9:=zJT ⟨n2,r2,m2,z2,⟨f2,L2,G2⟩⟩ s2 lv es 48 W (CO.out.below hb1) Jm.out h2 (by omega) (fun p hp => by have:=hsd p.1 (h3 ▸ cU hp); omega)
      rw [h3] at h9
      exact h9.mono fun e w' hq => ⟨hq.1.imp fun s' hs' => ⟨hs'.1,hs'.2.rd (CO.out.below hb1) hq.2⟩,hq.2⟩)
     have Jc:=zh (show ∀ i,i < 8 → ((xQ ⟨n2,r2,m2,z2,⟨f2,L2,G2⟩⟩ SN).2.m.st i).length ≤ 10000 from fun i hi => ak (zIh (K:=48) ⟨n2,r2,m2,z2,⟨f2,L2,G2⟩⟩ SN Jm.out i hi) (by omega));clear CO Jm hsd;generalize xQ ⟨n2,r2,m2,z2,⟨f2,L2,G2⟩⟩ SN = TG at *;obtain ⟨er,⟨an,ar,am,az,⟨af,aL,aG⟩⟩⟩:=TG;dsimp only at CW Jc jR;have j3 : IntKind.i64.wrap (j : Int) = (j : Int):=aF _ (by omega);have j5 : (j : Int) < ((j + 1 : Nat) : Int):=by omega
     refine yh [eX (.pointer (some ⟨bS,3,none⟩)),eX (.slice (some ⟨bg,og,none⟩) (j + 1) c),eX (.pointer (some ⟨bS,3,none⟩)),eX (.slice (some ⟨bg,og,none⟩) (j + 1) c),eX (.int .i64 ((j : Int) + 1)),eX (.int .i64 (j : Int)),eX (.pointer (some ⟨bg,og + j * 14,none⟩)),eX (zV n2 r2 m2 z2 s2 L2 G2),eX (.pointer (some ⟨bA,1,none⟩)),eX (.slice la nn lc),zMd SN,zMi er an ar am az af aL aG,zMi er an ar am az af aL aG,zMj an ar am az af aL aG,eX (.int .i64 er)] [] 122 14 (by kernel_rfl) (by kernel_rfl) rfl rfl (by decide) (by rfl) (by kernel_rfl) (fun f => by simp [fD,zW,Act.put]; exact rfl) ?_ ?_ ?_
     ·
      refine ⟨?_,?_,?_,?_,?_,?_,?_,?_,?_,?_,?_,?_,?_,?_,?_,trivial⟩
      ·
       intro f w1 hb hd;clear hd;dsimp only;go_wp2_with fail;exact pS rfl (by simp)
      ·
       intro f w1 hb hd;have d0 : f 0 = (.pointer (some ⟨bS,3,none⟩)):=hd 0 (by kernel_rfl);clear hd;dsimp only;rw [d0];have hb1:=jO.out _ (EE.out _ hb);have q3:=(dX.iu (HS.out.below hb1)).c3;go_wp2_with fail;exact pS rfl (by simp)
      ·
       intro f w1 hb hd;clear hd;dsimp only;go_wp2_with fail;exact pS rfl (by simp)
      ·
       intro f w1 hb hd;have d2 : f 2 = (.pointer (some ⟨bS,3,none⟩)):=hd 2 (by kernel_rfl);clear hd;dsimp only;rw [d2];have hb1:=jO.out _ (EE.out _ hb);have q3:=(dX.iu (HS.out.below hb1)).c3;go_wp2_with fail;exact pS rfl (by simp)
      ·
       intro f w1 hb hd;have d3 : f 3 = (.slice (some ⟨bg,og,none⟩) (j + 1) c):=hd 3 (by kernel_rfl);clear hd;dsimp only;rw [d3];go_wp2_with fail;exact pS rfl (by simp)
      ·
       intro f w1 hb hd;have d4 : f 4 = (.int .i64 ((j : Int) + 1)):=hd 4 (by kernel_rfl);clear hd;dsimp only;rw [d4];go_wp2_with fail;exact pS rfl (by simp)
      ·
       intro f w1 hb hd;have d1 : f 1 = (.slice (some ⟨bg,og,none⟩) (j + 1) c):=hd 1 (by kernel_rfl);have d5 : f 5 = (.int .i64 (j : Int)):=hd 5 (by kernel_rfl);clear hd;dsimp only;rw [d1];rw [d5];go_wp2_with fail;exact pS rfl (by simp)
      ·
       intro f w1 hb hd;have d6 : f 6 = (.pointer (some ⟨bg,og + j * 14,none⟩)):=hd 6 (by kernel_rfl);clear hd;dsimp only;rw [d6];have hb1:=jO.out _ (EE.out _ hb);have zo:=jt.out.below hb1;obtain ⟨q0,q1,q2,q3,q4,q5,q6,q7,q8,q9,FC,FD,FE,FF⟩:=zo.q;clear zo;dsimp only at q0 q1 q2 q3 q4 q5 q6 q7 q8 q9 FC FD FE FF;go_wp2_with fail;exact pS rfl (by simp)
      ·
       intro f w1 hb hd;clear hd;dsimp only;go_wp2_with fail;exact pS rfl (by simp)
      ·
       intro f w1 hb hd;have d8 : f 8 = (.pointer (some ⟨bA,1,none⟩)):=hd 8 (by kernel_rfl);clear hd;dsimp only;rw [d8];have hb1:=jO.out _ (EE.out _ hb);have q1 : w1.cell? ⟨bA,1,none⟩ = some (.slice la nn lc):=dX.cell (dX.below KU.out hb1) rfl;go_wp2_with fail;exact pS rfl (by simp)
      ·
       intro f w1 hb hd;have d9 : f 9 = (.slice la nn lc):=hd 9 (by kernel_rfl);clear hd;dsimp only;rw [d9];go_wp2_with fail;refine (Ew.out w1 (EE.out _ hb)).mono ?_;rintro e w9 ⟨qv,es,rfl,B5,hes,gL⟩;obtain ⟨qa,qc,rfl,_⟩:=B5.rd.shape;go_wp2_with fail;exact ⟨rfl,gL,fun t ht => by injection ht with ht; subst ht; exact ⟨⟨qa,es.length,qc,es,rfl,B5.rd,hes⟩,fun h => by simp at h⟩⟩
      ·
       intro f w1 hb hd;have d7 : f 7 = (zV n2 r2 m2 z2 s2 L2 G2):=hd 7 (by kernel_rfl);obtain ⟨RF,n10,c10,Dt,d10,jU,m10⟩:=show ∃ a n c es,f 10 = .slice a n c ∧ mr w1 (.slice a n c) es ∧ es.map (·.1) = SN from hd 10 (by kernel_rfl);clear hd;dsimp only;rw [d7];rw [d10];go_wp2_with fail;refine (CW.out _ Dt w1 hb jU m10).mono ?_;rintro e w9 ⟨⟨s9,rfl,B5⟩,gL⟩;go_wp2_with fail;exact ⟨rfl,gL,fun t ht => by injection ht with ht; subst ht; exact ⟨⟨s9,rfl,B5⟩,fun h => by simp at h⟩⟩
      ·
       intro f w1 hb hd;obtain ⟨s11,d11,lM⟩:=show ∃ s,f 11 = .tuple #[zV an ar am az s aL aG,.int .i64 er] ∧ fq w1 s af from hd 11 (by kernel_rfl);clear hd;dsimp only;rw [d11];go_wp2_with fail;exact ⟨rfl,aj _ _,fun t ht => by injection ht with ht; subst ht; exact ⟨⟨s11,rfl,lM⟩,fun h => by simp at h⟩⟩
      ·
       intro f w1 hb hd;obtain ⟨XL,d12,mI⟩:=show ∃ s,f 12 = .tuple #[zV an ar am az s aL aG,.int .i64 er] ∧ fq w1 s af from hd 12 (by kernel_rfl);clear hd;dsimp only;rw [d12];go_wp2_with fail;exact ⟨rfl,aj _ _,fun t ht => by injection ht with ht; subst ht; exact ⟨⟨XL,rfl,mI⟩,fun h => by simp at h⟩⟩
      intro f w1 hb hd;obtain ⟨XL,d12,mI⟩:=show ∃ s,f 12 = .tuple #[zV an ar am az s aL aG,.int .i64 er] ∧ fq w1 s af from hd 12 (by kernel_rfl);clear hd;dsimp only;rw [d12];go_wp2_with fail;exact pS rfl (by simp)
     ·
      intro f w5 hb hd iD;clear iD;obtain ⟨sb,d5,r5⟩:=show ∃ s,f 13 = zV an ar am az s aL aG ∧ fq w5 s af from hd 13 (show 13 < 15 by decide);have d6 : f 14 = .int .i64 er:=hd 14 (show 14 < 15 by decide)
      try dsimp only
      rw [d5,d6];clear hd d5 d6;have LP:=zh (dX.below XG.out hb);have r5:=zh r5;generalize f 0 = D3,f 1 = Dy,f 2 = Dz,f 3 = DC,f 4 = DF,f 5 = DG,f 6 = E7,f 7 = Ii,f 8 = MF,f 9 = KI,f 10 = Es,f 11 = Sg,f 12 = ZX;clear f;have lN:=zh (jO.out _ (zD (B:=bG) (b:=bG) (ai _) (zJ an ar am az sb aL aG) (EE.out _ hb)));have OS:=zh (dX.Cu LP.out an ar am az sb aL aG);have iR:=zh (fq.gen r5.out LP.out (zJ an ar am az sb aL aG));have xf:=(dX.gen LP.out).f;obtain ⟨x0,x1,x2,x3,x4,x5,x6,x7,x8,x9,fS,fT,fQ,fR⟩:=(dX.gen LP.out).q;clear hb;change wpList _ _ _ (_ :: _ :: []) _ _;go_wp2_with fail;go_meet
      case rel => exact ⟨er,an,ar,am,az,aL,aG,sb,af,_,_,_,L,rfl,OS,iR,Jc,HS.out.below lN.out |> zh,zh (HR.out.below lN.out),iL,zh (by rw [jR.out]),zh (HZ.out.below lN.out),zh (zA HB.out lN.out)⟩
     intro f w5 hb hd iD;clear iD;obtain ⟨sb,d5,r5⟩:=show ∃ s,f 13 = zV an ar am az s aL aG ∧ fq w5 s af from hd 13 (show 13 < 15 by decide) (show 13 ≠ 14 by decide);obtain ⟨s4,d4,r4⟩:=show ∃ s,f 12 = .tuple #[zV an ar am az s aL aG,.int .i64 er] ∧ fq w5 s af from hd 12 (show 12 < 15 by decide) (show 12 ≠ 14 by decide);clear r4
     try dsimp only
     rw [d4,d5];clear hd d4 d5;have LP:=zh (dX.below XG.out hb);have r5:=zh r5;generalize f 0 = D3,f 1 = Dy,f 2 = Dz,f 3 = DC,f 4 = DF,f 5 = DG,f 6 = E7,f 7 = Ii,f 8 = MF,f 9 = KI,f 10 = Es,f 11 = Sg,f 14 = Sh;clear f;have lN:=zh (jO.out _ (zD (B:=bG) (b:=bG) (ai _) (zJ an ar am az sb aL aG) (EE.out _ hb)));have OS:=zh (dX.Cu LP.out an ar am az sb aL aG);have iR:=zh (fq.gen r5.out LP.out (zJ an ar am az sb aL aG));have xf:=(dX.gen LP.out).f;obtain ⟨x0,x1,x2,x3,x4,x5,x6,x7,x8,x9,fS,fT,fQ,fR⟩:=(dX.gen LP.out).q;clear hb;change wpList _ _ _ (_ :: _ :: _ :: []) _ _;go_wp2_with fail;go_meet
     case rel => exact ⟨er,an,ar,am,az,aL,aG,sb,af,_,_,_,L,rfl,OS,iR,Jc,HS.out.below lN.out |> zh,zh (HR.out.below lN.out),iL,zh (by rw [jR.out]),zh (HZ.out.below lN.out),zh (zA HB.out lN.out)⟩
    have hk4 : decide (kd < 4) = false:=aC h4;rw [hk4];clear hk4;rcases (show (kd = 4 ∨ kd = 5) ∨ kd = 6 ∨ kd = 7 from by have:=Be.out; omega) with h45 | rfl | rfl
    ·
     clear h4 Be;go_upto_if 75 with fail
     go_cut [75] (fun v wx => v = .bool true ∧ wx = v2)
     case first =>
      rcases h45 with rfl | rfl
      ·
       go_wp2_with fail;go_meet
       case rel => exact ⟨rfl,rfl⟩
      go_wp2_with fail;go_meet
      case rel => exact ⟨rfl,rfl⟩
     obtain ⟨rfl,hwc⟩:=hcut;generalize wc = w5 at *;replace hwc:=hwc.symm;subst hwc
     as_aux_lemma =>
     have RQ:=zh (show ∀ i,i < 8 → (fs i).length ≤ 10000 from fun i hi => ak (Er.out i hi) (by decide));have gH:=zh (HS.out.below (jO.out _ eV.out));have I6:=zh (zKa 1 9000 false (some ⟨bg,og,none⟩) (j + 1) c L v2 (HR.out.below (jO.out _ eV.out)) iL.out);have C_:=zh (fun h => zHJ (s:=⟨1,9000,false,ea L⟩) h);have DX:=zh (jM.out.trans (show tN ⟨1,9000,false,ea L⟩ kd ND gen keys = if (vZ ⟨1,9000,false,ea L⟩).2 = 0 then (vZ ⟨1,9000,false,ea L⟩).1 else ⟨1,9000,false,ea L⟩ from by unfold tN; rw [ag h45]));clear Ew HU KU HG jM MP mJ Er;generalize vZ ⟨1,9000,false,ea L⟩ = CS at *;obtain ⟨⟨Ka,Cx,Kb,cg⟩,fe⟩:=CS;obtain ⟨k0,k1,k2,k3⟩:=(dX.iu gH.out).q;go_wp2_with fail;refine I6.out.mono ?_;rintro e w9 ⟨⟨xa,xn,xc,xL,rfl,Kc,Fb⟩,hb⟩;dsimp only at Fb C_ DX ⊢;clear k0 k1 k2 k3 gH;have gL:=jO.out _ (EE.out _ hb);replace HS:=zh (HS.out.below gL)
     replace HR:=zh (HR.out.below gL);replace HZ:=zh (HZ.out.below gL);replace HB:=zh (zA HB.out gL);replace XG:=zh (dX.below XG.out hb);replace Jb:=zh (Jb.out.below hb);have jy:=zh Kc;have gC:=zh Fb;clear Kc Fb hb gL I6;go_upto_region 17 with fail;change Code.wp _ _ _ _ (w9.alloc (.cells (zN Ka Cx Kb xa xn xc) 31));have eU:=zS w9 Ka Cx Kb xa xn xc 31;have HX:=zh (dX.new w9 (zN Ka Cx Kb xa xn xc) 31);replace jy:=zh (jy.out.below eU);replace XG:=zh (dX.below XG.out eU);replace Jb:=zh (Jb.out.below eU);replace HS:=zh (HS.out.below eU);replace HR:=zh (HR.out.below eU);replace HZ:=zh (HZ.out.below eU);replace HB:=zh (zA HB.out eU);clear eU;generalize w9.alloc (.cells (zN Ka Cx Kb xa xn xc) 31) = w10 at *;generalize w9.heap.size = bX at *
     by_cases hf0 : fe = 0
     ·
      subst hf0;obtain ⟨rfl,rfl,rfl⟩ : Ka = 1 ∧ Cx = 9000 ∧ Kb = false:=by
       have h9:=C_.out rfl;injection h9 with h1 h2 h3 h4;exact ⟨h1,h2,h3⟩
      obtain ⟨z0,z1,z2,z3⟩:=(dX.iu HX.out).q;obtain ⟨y0,y1,y2,y3⟩:=(dX.iu HS.out).q;have yf:=(dX.iu HS.out).f;have OT:=zh (dX.Ct HS.out 1 9000 false xa xn xc);have iQ:=zh (fH.iu jy.out HS.out (zP 1 9000 false xa xn xc));have ZY:=zh (dX.eD (c:=bS) (by omega) (zP 1 9000 false xa xn xc) HZ.out);have jm:=zh (dX.eD (c:=bS) (by omega) (zP 1 9000 false xa xn xc) XG.out);have Ig:=zh (fq.iu Jb.out HS.out (zP 1 9000 false xa xn xc));have fK:=zh (zD (B:=w.heap.size) (b:=bS) (by omega) (zP 1 9000 false xa xn xc) HB.out);have jR:=zh (show Qa.dW = ea xL from by rw [DX.out,ag rfl]; exact gC.out.symm);have TP:=zh (show ∀ p ∈ xL,∀ j,j < 8 → (p.1.m.st j).length ≤ 10000 from fun p hp i hi => ak (jT.out.len _ (by rw [jR.out]; exact cU hp) i hi) (by omega));go_wp2_with fail;go_meet
      case rel => exact ⟨1,num,rev,md,sz,LV,GA,s,fs,xa,xn,xc,xL,rfl,jm,Ig,RQ,OT,iQ,TP,zh (by rw [jR.out]; rfl),ZY,fK⟩
     have hz : (fe == 0) = false:=beq_eq_false_iff_ne.2 hf0;have jR:=zh (show Qa.dW = ea L from by rw [DX.out,ah hf0]);go_wp2_with fail;go_meet
     case rel => exact ⟨1,num,rev,md,sz,LV,GA,s,fs,_,_,_,L,rfl,XG,Jb,RQ,HS,HR,iL,zh (by rw [jR.out]; rfl),HZ,HB⟩
    ·
     clear h4 Be
     have jR:=zh (show Qa = uE ⟨1,9000,false,ea L⟩ (yY ⟨num,rev,md,sz,⟨fs,LV,GA⟩⟩ (keys.take 8)) from by
      rw [jM.out]; unfold tN; rw [ah (by decide),ag rfl]; dsimp only; rw [MP.out])
     clear jM MP Ew HG mJ;have q3 : v2.cell? ⟨bA,3,none⟩ = some (.slice ka keys.length kc):=dX.cell (dX.below KU.out (jO.out _ eV.out)) rfl;replace HU:=zh (iw.below HU.out (jO.out _ eV.out));go_upto_if 92 with fail
     go_cut [12] (fun kv wx => (∃ m',kv = .slice ka m' kc ∧ Hid (lJ v2 (.slice ka m' kc) (keys.take 8))) ∧ wx = v2)
     case first =>
      by_cases jI : 8 < keys.length
      ·
       have hd : decide ((8 : Int) < (keys.length : Int)) = true:=by simp; omega
       obtain ⟨bk,ok,rfl,_⟩:=lJ.at HU.out (show 0 < keys.length by omega);have Jt:=yX (P:=Tryz.prog) Yy (a:=some ⟨bk,ok,none⟩) (n:=keys.length) (cap:=kc) (fun x hx => ⟨bk,ok,by injection hx with hx; exact hx.symm⟩) 8 (by omega);rw [show ((8 : Nat) : Int) = 8 from rfl] at Jt;have HT:=zh (show lJ v2 (.slice (some ⟨bk,ok,none⟩) 8 kc) (keys.take 8) from iw.take HU.out 8 (by omega));go_wp2_with fail;go_meet
       case rel => exact ⟨⟨_,rfl,HT⟩,rfl⟩
      have hd : decide ((8 : Int) < (keys.length : Int)) = false:=by simp; omega
      have HT:=zh (show lJ v2 (.slice ka keys.length kc) (keys.take 8) from by rw [aH (by omega)]; exact HU.out);go_wp2_with fail;go_meet
      case rel => exact ⟨⟨_,rfl,HT⟩,rfl⟩
     obtain ⟨⟨m',rfl,HT⟩,hwc⟩:=hcut;generalize wc = w5 at *;replace hwc:=hwc.symm;subst hwc;clear q3 KU HU;have KM:=zh (zIY ⟨num,rev,md,sz,⟨fs,LV,GA⟩⟩ s (.slice ka m' kc) (keys.take 8) v2 Jb.out (fun i hi => ak (Er.out i hi) (by decide)) HT.out (by rw [ay]; omega));have Jc:=zh (show ∀ i,i < 8 → ((yY ⟨num,rev,md,sz,⟨fs,LV,GA⟩⟩ (keys.take 8)).2.m.st i).length ≤ 10000 from fun i hi => ak (zHa (K:=48) ⟨num,rev,md,sz,⟨fs,LV,GA⟩⟩ _ Er.out i hi) (by decide));dsimp only at KM;generalize yY ⟨num,rev,md,sz,⟨fs,LV,GA⟩⟩ (keys.take 8) = TG at *;obtain ⟨er,⟨an,ar,am,az,⟨af,aL,aG⟩⟩⟩:=TG;dsimp only at Jc jR;have Td:=XG;have ZZ:=Jb;have Z5:=zh (aj v2.heap.size v2);obtain ⟨y0,y1,y2,y3,y4,y5,y6,y7,y8,y9,NM,NN,NP,NQ⟩:=(dX.gen Td.out).q;go_wp2_with fail;refine KM.out.mono ?_;rintro e w6 ⟨⟨sb,rfl,ho⟩,hb⟩;dsimp only at ho ⊢
     clear y0 y1 y2 y3 y4 y5 y6 y7 y8 y9 NM NN NP NQ;have RG:=zh (ho.rd ZZ.out hb);have LQ:=zh (dX.below Td.out hb);have jK:=zh (zA Z5.out hb);clear ho hb KM Er HT;have lN:=zh (jO.out _ (zD (B:=bG) (b:=bG) (ai _) (zJ an ar am az sb aL aG) (EE.out _ jK.out)));have OS:=zh (dX.Cu LQ.out an ar am az sb aL aG);have iR:=zh (fq.gen RG.out LQ.out (zJ an ar am az sb aL aG));have xf:=(dX.gen LQ.out).f;obtain ⟨x0,x1,x2,x3,x4,x5,x6,x7,x8,x9,fS,fT,fQ,fR⟩:=(dX.gen LQ.out).q;go_wp2_with fail;go_meet
     case rel => exact ⟨er,an,ar,am,az,aL,aG,sb,af,_,_,_,L,rfl,OS,iR,Jc,HS.out.below lN.out |> zh,zh (HR.out.below lN.out),iL,zh (by rw [jR.out]),zh (HZ.out.below lN.out),zh (zA HB.out lN.out)⟩
    clear h4 Be
    have jR:=zh (show Qa = uE ⟨1,9000,false,ea L⟩ (xl ⟨num,rev,md,sz,⟨fs,LV,GA⟩⟩ 2) from by
     rw [jM.out]; unfold tN; rw [ah (by decide),ah (by decide),ag rfl]; dsimp only; rw [MP.out])
    clear jM MP Ew HG mJ HU KU;have KM:=zh (zH9 ⟨num,rev,md,sz,⟨fs,LV,GA⟩⟩ s v2 Jb.out (fun i hi => ak (Er.out i hi) (by decide)));have Jc:=zh (show ∀ i,i < 8 → ((xl ⟨num,rev,md,sz,⟨fs,LV,GA⟩⟩ 2).2.m.st i).length ≤ 10000 from fun i hi => ak (zHg (K:=48) Er.out i hi) (by decide));dsimp only at KM;generalize xl ⟨num,rev,md,sz,⟨fs,LV,GA⟩⟩ 2 = TG at *;obtain ⟨er,⟨an,ar,am,az,⟨af,aL,aG⟩⟩⟩:=TG;dsimp only at Jc jR;have Td:=XG;have ZZ:=Jb;have Z5:=zh (aj v2.heap.size v2);obtain ⟨y0,y1,y2,y3,y4,y5,y6,y7,y8,y9,NM,NN,NP,NQ⟩:=(dX.gen Td.out).q;go_wp2_with fail;refine KM.out.mono ?_;rintro e w6 ⟨⟨sb,rfl,ho⟩,hb⟩;dsimp only at ho ⊢;clear y0 y1 y2 y3 y4 y5 y6 y7 y8 y9 NM NN NP NQ;have RG:=zh (ho.rd ZZ.out hb);have LQ:=zh (dX.below Td.out hb);have jK:=zh (zA Z5.out hb);clear ho hb KM Er
    have lN:=zh (jO.out _ (zD (B:=bG) (b:=bG) (ai _) (zJ an ar am az sb aL aG) (EE.out _ jK.out)));have OS:=zh (dX.Cu LQ.out an ar am az sb aL aG);have iR:=zh (fq.gen RG.out LQ.out (zJ an ar am az sb aL aG));have xf:=(dX.gen LQ.out).f;obtain ⟨x0,x1,x2,x3,x4,x5,x6,x7,x8,x9,fS,fT,fQ,fR⟩:=(dX.gen LQ.out).q;go_wp2_with fail;go_meet
    case rel => exact ⟨er,an,ar,am,az,aL,aG,sb,af,_,_,_,L,rfl,OS,iR,Jc,HS.out.below lN.out |> zh,zh (HR.out.below lN.out),iL,zh (by rw [jR.out]),zh (HZ.out.below lN.out),zh (zA HB.out lN.out)⟩
   as_aux_lemma =>
   clear HS HR HZ HB XG Jb iL Er mJ HG jM MP Ew HU KU jO EE FQ eV Tb jT;obtain ⟨er,an,ar,am,az,aL,aG,sb,af,a',m',c',L',rfl,XG,RG,Jc,HS,HR,iL,jR,HZ,HB⟩:=hcut;generalize wc = w8 at *;obtain ⟨g0,g1,g2,g3,g4,g5,g6,g7,g8,g9,g10,g11,g12,g13⟩:=(dX.gen XG.out).q;obtain ⟨k0,k1,k2,k3⟩:=(dX.iu HS.out).q;have I6:=zh (zJ6 1 9000 false a' m' c' L' w8 HR.out iL.out (⟨an,ar,am,az,⟨af,aL,aG⟩⟩,sb) RG.out Jc.out);have C_:=zh (fun h => Ud (s:=⟨1,9000,false,ea L'⟩) (g:=⟨an,ar,am,az,⟨af,aL,aG⟩⟩) h);have DX:=zh (jR.out.trans (show (uE ⟨1,9000,false,ea L'⟩ (er,⟨an,ar,am,az,⟨af,aL,aG⟩⟩)).dW = (if er = 0 ∧ (yM ⟨1,9000,false,ea L'⟩ ⟨an,ar,am,az,⟨af,aL,aG⟩⟩).2 = 0 then (yM ⟨1,9000,false,ea L'⟩ ⟨an,ar,am,az,⟨af,aL,aG⟩⟩).1 else ⟨1,9000,false,ea L'⟩).dW from rfl));clear jR;dsimp only at I6
   generalize yM ⟨1,9000,false,ea L'⟩ ⟨an,ar,am,az,⟨af,aL,aG⟩⟩ = CS at *;obtain ⟨⟨Ka,Cx,Kb,cg⟩,fe⟩:=CS;go_wp2_with fail;refine I6.out.mono ?_;rintro e w9 ⟨⟨xa,xn,xc,xL,rfl,Kc,Fb⟩,hb⟩;dsimp only at Fb C_ DX ⊢;clear k0 k1 k2 k3;clear g0 g1 g2 g3 g4 g5 g6 g7 g8 g9 g10 g11 g12 g13;replace HS:=zh (HS.out.below hb);replace HR:=zh (HR.out.below hb);replace HZ:=zh (HZ.out.below hb);replace HB:=zh (zA HB.out hb);have jy:=zh Kc;have gC:=zh Fb;clear Kc Fb hb I6 XG RG Jc;go_upto_region 27 with fail;change Code.wp _ _ _ _ (w9.alloc (.cells (zN Ka Cx Kb xa xn xc) 31));have eU:=zS w9 Ka Cx Kb xa xn xc 31;have HX:=zh (dX.new w9 (zN Ka Cx Kb xa xn xc) 31);replace jy:=zh (jy.out.below eU);replace HS:=zh (HS.out.below eU);replace HR:=zh (HR.out.below eU);replace HZ:=zh (HZ.out.below eU);replace HB:=zh (zA HB.out eU);clear eU
   generalize w9.alloc (.cells (zN Ka Cx Kb xa xn xc) 31) = w10 at *;generalize w9.heap.size = bX at *
   by_cases Z6 : er = 0
   ·
    subst Z6
    by_cases hf0 : fe = 0
    ·
     subst hf0;obtain ⟨rfl,rfl,rfl⟩ : Ka = 1 ∧ Cx = 9000 ∧ Kb = false:=by
      have h9:=C_.out rfl;injection h9 with h1 h2 h3 h4;exact ⟨h1,h2,h3⟩
     obtain ⟨z0,z1,z2,z3⟩:=(dX.iu HX.out).q;obtain ⟨y0,y1,y2,y3⟩:=(dX.iu HS.out).q;have yf:=(dX.iu HS.out).f;have OT:=zh (dX.Ct HS.out 1 9000 false xa xn xc);have iQ:=zh (fH.iu jy.out HS.out (zP 1 9000 false xa xn xc));have ZY:=zh (dX.eD (c:=bS) (by omega) (zP 1 9000 false xa xn xc) HZ.out);have fK:=zh (zD (B:=w.heap.size) (b:=bS) (by omega) (zP 1 9000 false xa xn xc) HB.out);have jm:=zh (show ea xL = (wN H_ (ac.take (k + 1))).dW from by rw [OQ.out,DX.out,ag ⟨rfl,rfl⟩]; exact gC.out);go_wp2_with fail;exact ⟨⟨k + 1,xa,xn,xc,xL,by go_num,by omega,by omega,OT,iQ,jm,ZY,fK⟩,by simp [intOf]; omega⟩
    have hz : (fe == 0) = false:=beq_eq_false_iff_ne.2 hf0;have jm:=zh (show ea L' = (wN H_ (ac.take (k + 1))).dW from by rw [OQ.out,DX.out,ah (fun h => hf0 h.2)]);go_wp2_with fail;exact ⟨⟨k + 1,_,_,_,L',by go_num,by omega,by omega,HS,HR,jm,HZ,HB⟩,by simp [intOf]; omega⟩
   have hz : (er == 0) = false:=beq_eq_false_iff_ne.2 Z6;have jm:=zh (show ea L' = (wN H_ (ac.take (k + 1))).dW from by rw [OQ.out,DX.out,ah (fun h => Z6 h.1)]);go_wp2_with fail;exact ⟨⟨k + 1,_,_,_,L',by go_num,by omega,by omega,HS,HR,jm,HZ,HB⟩,by simp [intOf]; omega⟩
  have i2 : ¬ (k : Int) < 8:=by omega
  have hE:=zh (DM.out k (.inl (by omega)));have HI:=Ks.out k hk;rw [← hE.out] at HE HI;generalize OM ac = MS at *;obtain ⟨J1,Cw,J2,sg⟩:=MS;obtain ⟨_,MN,DW,MO,_,_⟩:=HI;dsimp only at MN DW MO HE;subst MN DW MO;have Ky:=zh (dX.iu HZ.out);obtain ⟨k0,k1,k2,k3⟩:=(dX.iu HS.out).q;obtain ⟨z0,z1,z2,z3⟩:=Ky.out.q;have zf:=Ky.out.f;go_wp2_with fail;change bodyPost _ _ _ _ _ (pts wr w.heap.size (zP 1 9000 false a m c));have IV:=zh (fH.iu HR.out HZ.out (zP 1 9000 false a m c));have hby:=Ky.out.all 1 9000 false a m c;have ey:=zh (zD (B:=w.heap.size) (b:=w.heap.size) (by omega) (zP 1 9000 false a m c) HB.out);generalize pts wr w.heap.size (zP 1 9000 false a m c) = V at *;exact au (v:=ze 1 9000 false a m c) (by simp [results,Tryz.results20,go_sem,hby.c0,hby.c1,hby.c2,hby.c3]) rfl (⟨⟨a,m,c,L,rfl,IV.out,HE.out⟩,ey.out⟩)
 have i1 : ¬ (k : Int) < (n : Int):=by omega
 have hE:=zh (DM.out k (.inr ⟨by omega,jI⟩));have HI:=Ks.out k hk;rw [← hE.out] at HE HI;generalize OM ac = MS at *;obtain ⟨J1,Cw,J2,sg⟩:=MS;obtain ⟨_,MN,DW,MO,_,_⟩:=HI;dsimp only at MN DW MO HE;subst MN DW MO;have Ky:=zh (dX.iu HZ.out);obtain ⟨k0,k1,k2,k3⟩:=(dX.iu HS.out).q;obtain ⟨z0,z1,z2,z3⟩:=Ky.out.q;have zf:=Ky.out.f;go_wp2_with fail;change bodyPost _ _ _ _ _ (pts wr w.heap.size (zP 1 9000 false a m c));have IV:=zh (fH.iu HR.out HZ.out (zP 1 9000 false a m c));have hby:=Ky.out.all 1 9000 false a m c;have ey:=zh (zD (B:=w.heap.size) (b:=w.heap.size) (by omega) (zP 1 9000 false a m c) HB.out);generalize pts wr w.heap.size (zP 1 9000 false a m c) = V at *;exact au (v:=ze 1 9000 false a m c) (by simp [results,Tryz.results20,go_sem,hby.c0,hby.c1,hby.c2,hby.c3]) rfl (⟨⟨a,m,c,L,rfl,IV.out,HE.out⟩,ey.out⟩)
end Go.Proofs.YtcgfilmmokmdjaaGreat
