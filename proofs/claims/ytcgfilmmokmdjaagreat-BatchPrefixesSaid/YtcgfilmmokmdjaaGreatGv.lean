/- A part of the walk. -/
import Derived.Test.YtcgfilmmokmdjaaGreatQAH
import Derived.Test.YtcgfilmmokmdjaaGreatQAF
import Derived.StillTailTactics
set_option linter.all false
set_option maxRecDepth 100000
set_option maxHeartbeats 32000000
namespace Go.Proofs.YtcgfilmmokmdjaaGreat
open Go.RowKit
theorem uF (g : Gn) (s : Sl) (w : World) (h : fq w s g.m.st) (hs : ∀ i,i < 8 → (g.m.st i).length ≤ 10000) :
  Calls Tryz.prog 49 #[zV g.num g.rev g.mode g.size s g.m.live g.m.dZ] w fun e w' => e = .returned (.bool (wM g)) ∧ Below w.heap.size w w':=by
 have HV:=zh (fun W h => vz s g.m W h (fun i hi => ak (hs i hi) (by decide)));have HI:=zh (fun W h => zB1 s g.m W h hs);have iB:=zh (fun h => zE4 (g:=g) h);have iO:=zh (yF g);have Hr:=zh h;have eG:=zh (eH.new w g.num g.rev g.mode g.size s g.m.live g.m.dZ 38);have eQ:=zh (zb w g.num g.rev g.mode g.size s g.m.live g.m.dZ 38);generalize hres : wM g = res at *
 by_cases hA : 1 ≤ g.num ∧ g.num ≤ 8 ∧ 0 ≤ g.rev ∧ g.rev ≤ 4294967295 ∧ 1 ≤ g.mode ∧ g.mode ≤ 3
 ·
  obtain ⟨La,Mu,Lc,Xb,Xc,Xd⟩:=hA
  by_cases hB : 16 ≤ g.size ∧ g.size ≤ 1048576 ∧ g.size % 8 = 0
  ·
   have DW : (zG g.m).length ≤ 1000000:=ak (wR hs) (by decide);have hm : xA g.m = true → (∀ x ∈ zG g.m,A8 x) ∧ g.m.live = (zu (vS g.m) : Int) ∧ zu (vS g.m) ≤ 330160000 ∧ 0 ≤ g.m.dZ ∧ g.m.dZ ≤ 1099511627776:=fun hv => by
    have hV:=(zO g.m).1 hv;refine ⟨qg hV,hV.lv,?_,hV.g0,hV.g1⟩;have h1:=qP (vS g.m);have h2:=qD hs;have : (vS g.m).length * 4127 ≤ 80000 * 4127:=aV _ h2;omega
   have hend : xA g.m = true → res = (uC (zG g.m) g.size && (g.size == 16 + g.m.live + g.m.dZ)):=fun hv => by
    rw [dA,← hres,yF,aO,ct];exact ⟨fun h => ⟨h.ends,h.sum⟩,fun h => ⟨⟨La,Mu⟩,⟨Lc,Xb⟩,⟨Xc,Xd⟩,hB,hv,h.1,h.2⟩⟩
   have hno : xA g.m = false → res = false:=fun hv => iB.out fun h => by rw [h.m] at hv; cases hv
   have HM:=zh hm;have HE:=zh hend;have HN:=zh hno;clear hm hend hno iB iO hres h hs;have HFt:=zh (fun v W' N (h : fu W' N v (zG g.m)) (h2 : N ≤ W'.heap.size) hok => zKP v (zG g.m) g.size W' N h2 h hok DW hB.1);have Bf:=hB.1;have hd2:=hB.2.1;have IJ:=hB.2.2;clear hB DW;generalize xA g.m = vb at *;generalize zG g.m = I at *;generalize zu (vS g.m) = SM at *;generalize hen : uC I g.size = eb at *;clear hen;obtain ⟨a,b,c,d,f,L,G⟩:=g;dsimp only at *;have Xe : d.tmod 8 = 0:=by rw [Int.tmod_eq_emod_of_nonneg (by omega)]; exact IJ
   go_enter Tryz.func49,Tryz.ntmps49
   go_upto_region 1 with fail;obtain ⟨W,hW⟩ : ∃ W,w.alloc (.cells (zQ a b c d s L G) 38) = W:=⟨_,rfl⟩
   change Code.wp _ _ _ _ (w.alloc (.cells (zQ a b c d s L G) 38));rw [hW] at eG eQ ⊢;have Dm:=eG.out.lt;obtain ⟨n0,n1,n2,n3,c0,c1,c2,c3,c4,c5,c6,c7,c8,c9⟩:=eG.out.q;clear hW;go_wp2_with fail;refine (HV.out _ (Hr.out.below eQ.out)).mono ?_; rintro e w1 ⟨rfl,hb1⟩;have eW:=zh (zA eQ.out hb1);have fC:=zh (eG.out.below hb1);have eY:=zh (Hr.out.below eW.out);clear hb1 HV eG eQ n0 n1 n2 n3 c0 c1 c2 c3 c4 c5 c6 c7 c8 c9
   cases vb
   ·
    have HF:=zh (HN.out rfl);go_wp2_with fail;go_ret;exact ⟨zH HF.out.symm,eW.out⟩
   obtain ⟨hok,rfl,hL,K8,hG2⟩:=HM.out rfl;have HF:=zh (HE.out rfl);have HFu:=zh (fun v W' N h h2 => HFt.out v W' N h h2 hok);clear HFt HE HN HM hok;have Q0:=fC.out.lt;generalize hb0 : w.heap.size = b0 at *;have E0:=zh hb0;clear hb0
   have EA:=zh (show ∀ WV,Below w1.heap.size w1 WV → WV.cell? ⟨b0,3,none⟩ = some (.int .i64 d) ∧ WV.cell? ⟨b0,4,none⟩ = some (.slice (s.a 0) (s.n 0) (s.c 0)) ∧ WV.cell? ⟨b0,5,none⟩ = some (.slice (s.a 1) (s.n 1) (s.c 1)) ∧ WV.cell? ⟨b0,6,none⟩ = some (.slice (s.a 2) (s.n 2) (s.c 2)) ∧ WV.cell? ⟨b0,7,none⟩ = some (.slice (s.a 3) (s.n 3) (s.c 3)) ∧ WV.cell? ⟨b0,8,none⟩ = some (.slice (s.a 4) (s.n 4) (s.c 4)) ∧ WV.cell? ⟨b0,9,none⟩ = some (.slice (s.a 5) (s.n 5) (s.c 5)) ∧ WV.cell? ⟨b0,10,none⟩ = some (.slice (s.a 6) (s.n 6) (s.c 6)) ∧ WV.cell? ⟨b0,11,none⟩ = some (.slice (s.a 7) (s.n 7) (s.c 7)) ∧ WV.cell? ⟨b0,12,none⟩ = some (.int .i64 (SM : Int)) ∧ WV.cell? ⟨b0,13,none⟩ = some (.int .i64 G) from fun WV hb => have h:=fC.out.below hb; ⟨h.n3,h.c0,h.c1,h.c2,h.c3,h.c4,h.c5,h.c6,h.c7,h.cl,h.cg⟩)
   cases eb
   ·
    go_wp2_with fail;refine wp_region_held_drew (S:=fun w' => w'.cell? ⟨b0,3,none⟩ = some (.int .i64 d) ∧ w'.cell? ⟨b0,4,none⟩ = some (.slice (s.a 0) (s.n 0) (s.c 0)) ∧ w'.cell? ⟨b0,5,none⟩ = some (.slice (s.a 1) (s.n 1) (s.c 1)) ∧ w'.cell? ⟨b0,6,none⟩ = some (.slice (s.a 2) (s.n 2) (s.c 2)) ∧ w'.cell? ⟨b0,7,none⟩ = some (.slice (s.a 3) (s.n 3) (s.c 3)) ∧ w'.cell? ⟨b0,8,none⟩ = some (.slice (s.a 4) (s.n 4) (s.c 4)) ∧ w'.cell? ⟨b0,9,none⟩ = some (.slice (s.a 5) (s.n 5) (s.c 5)) ∧ w'.cell? ⟨b0,10,none⟩ = some (.slice (s.a 6) (s.n 6) (s.c 6)) ∧ w'.cell? ⟨b0,11,none⟩ = some (.slice (s.a 7) (s.n 7) (s.c 7)) ∧ w'.cell? ⟨b0,12,none⟩ = some (.int .i64 (SM : Int)) ∧ w'.cell? ⟨b0,13,none⟩ = some (.int .i64 G)) (by kernel_rfl) (EA.out _ (aj _ _).drew) ?_;intro hS0
    refine bQ (i:=0) (v:=?_) rfl (by kernel_rfl) (by kernel_rfl) (by kernel_rfl) (fun _ _ _ h => h) (Or.inl ⟨by rfl,?_⟩) (by assumption) ?_
    rotate_left
    ·
     intro w hSw
     try dsimp only at hSw
     go_simp
     with_reducible rfl
    try simp only [aT,aZ,Act.put,aM,aN,aK]
    refine bQ (i:=1) (v:=?_) rfl (by kernel_rfl) (by kernel_rfl) (by kernel_rfl) (fun _ _ _ h => h) (Or.inl ⟨by rfl,?_⟩) (by assumption) ?_
    rotate_left
    ·
     intro w hSw
     try dsimp only at hSw
     go_simp
     with_reducible rfl
    try simp only [aT,bp,aZ,Act.put,aM,aN,aK]
    refine bQ (i:=3) (v:=?_) rfl (by kernel_rfl) (by kernel_rfl) (by kernel_rfl) (fun _ _ _ h => h) (Or.inl ⟨by rfl,?_⟩) (by assumption) ?_
    rotate_left
    ·
     intro w hSw
     try dsimp only at hSw
     go_simp
     with_reducible rfl
    try simp only [aT,bp,aZ,Act.put,aM,aN,aK]
    refine bQ (i:=4) (v:=?_) rfl (by kernel_rfl) (by kernel_rfl) (by kernel_rfl) (fun _ _ _ h => h) (Or.inl ⟨by rfl,?_⟩) (by assumption) ?_
    rotate_left
    ·
     intro w hSw
     try dsimp only at hSw
     go_simp
     with_reducible rfl
    try simp only [aT,bp,aZ,Act.put,aM,aN,aK]
    refine wpAnyH_ready (rs:=[2]) (by kernel_rfl) (by simp) ?_;refine AllReadyH.cons rfl (fun K hK => ?_) AllReadyH.nil;simp only [aT,bp,aZ]
    go_simp
    go_at_call 89
    refine (HI.out _ (eY.out.below (aj _ _).drew)).mono ?_;rintro e wa ⟨va,rfl,lg,eO⟩;dsimp only;refine hK.out _ _ (EA.out _ (zA (aj _ _).drew eO)) (fun hHeld => ?_);clear hK
    try simp only [aT,bp,aZ,Act.put,aM,aN,aK]
    refine wpAnyH_ready (rs:=[5]) (by kernel_rfl) (by simp) ?_;refine AllReadyH.cons rfl (fun K hK => ?_) AllReadyH.nil;simp only [aT,bp,aZ]
    go_simp
    go_at_call 88
    refine (HFu.out _ _ w1.heap.size lg eO.size).mono ?_;rintro e wb ⟨rfl,jP⟩;dsimp only;refine hK.out _ _ (EA.out _ ((zA (aj _ _).drew eO).trans jP)) (fun hHeld => ?_);clear hK
    try simp only [aT,bp,aZ,Act.put,aM,aN,aK]
    refine bQ (i:=6) (v:=?_) rfl (by kernel_rfl) (by kernel_rfl) (by kernel_rfl) (fun _ _ _ h => h) (Or.inl ⟨by rfl,?_⟩) (by assumption) ?_
    rotate_left
    ·
     intro w hSw
     try dsimp only at hSw
     go_simp
     with_reducible rfl
    try simp only [aT,bp,aZ,Act.put,aM,aN,aK]
    refine bQ (i:=7) (v:=undef) rfl (by kernel_rfl) (by kernel_rfl) (by kernel_rfl) (fun _ _ _ h => h) (Or.inr ⟨by rfl,rfl⟩) (by assumption) ?_
    try simp only [aT,bp,aZ,Act.put,aM,aN,aK]
    refine bQ (i:=8) (v:=undef) rfl (by kernel_rfl) (by kernel_rfl) (by kernel_rfl) (fun _ _ _ h => h) (Or.inr ⟨by rfl,rfl⟩) (by assumption) ?_
    try simp only [aT,bp,aZ,Act.put,aM,aN,aK]
    refine bQ (i:=9) (v:=undef) rfl (by kernel_rfl) (by kernel_rfl) (by kernel_rfl) (fun _ _ _ h => h) (Or.inr ⟨by rfl,rfl⟩) (by assumption) ?_
    try simp only [aT,bp,aZ,Act.put,aM,aN,aK]
    refine bQ (i:=10) (v:=undef) rfl (by kernel_rfl) (by kernel_rfl) (by kernel_rfl) (fun _ _ _ h => h) (Or.inr ⟨by rfl,rfl⟩) (by assumption) ?_
    try simp only [aT,bp,aZ,Act.put,aM,aN,aK]
    refine bQ (i:=11) (v:=undef) rfl (by kernel_rfl) (by kernel_rfl) (by kernel_rfl) (fun _ _ _ h => h) (Or.inr ⟨by rfl,rfl⟩) (by assumption) ?_
    try simp only [aT,bp,aZ,Act.put,aM,aN,aK]
    refine bQ (i:=12) (v:=undef) rfl (by kernel_rfl) (by kernel_rfl) (by kernel_rfl) (fun _ _ _ h => h) (Or.inr ⟨by rfl,rfl⟩) (by assumption) ?_
    try simp only [aT,bp,aZ,Act.put,aM,aN,aK]
    refine bQ (i:=13) (v:=undef) rfl (by kernel_rfl) (by kernel_rfl) (by kernel_rfl) (fun _ _ _ h => h) (Or.inr ⟨by rfl,rfl⟩) (by assumption) ?_
    try simp only [aT,bp,aZ,Act.put,aM,aN,aK]
    refine bQ (i:=14) (v:=undef) rfl (by kernel_rfl) (by kernel_rfl) (by kernel_rfl) (fun _ _ _ h => h) (Or.inr ⟨by rfl,rfl⟩) (by assumption) ?_
    try simp only [aT,bp,aZ,Act.put,aM,aN,aK]
    refine bQ (i:=15) (v:=undef) rfl (by kernel_rfl) (by kernel_rfl) (by kernel_rfl) (fun _ _ _ h => h) (Or.inr ⟨by rfl,rfl⟩) (by assumption) ?_
    try simp only [aT,bp,aZ,Act.put,aM,aN,aK]
    refine bQ (i:=16) (v:=undef) rfl (by kernel_rfl) (by kernel_rfl) (by kernel_rfl) (fun _ _ _ h => h) (Or.inr ⟨by rfl,rfl⟩) (by assumption) ?_
    try simp only [aT,bp,aZ,Act.put,aM,aN,aK]
    refine bQ (i:=17) (v:=undef) rfl (by kernel_rfl) (by kernel_rfl) (by kernel_rfl) (fun _ _ _ h => h) (Or.inr ⟨by rfl,rfl⟩) (by assumption) ?_
    try simp only [aT,bp,aZ,Act.put,aM,aN,aK]
    refine bQ (i:=18) (v:=?_) rfl (by kernel_rfl) (by kernel_rfl) (by kernel_rfl) (fun _ _ _ h => h) (Or.inl ⟨by rfl,?_⟩) (by assumption) ?_
    rotate_left
    ·
     intro w hSw
     try dsimp only at hSw
     go_simp
     with_reducible rfl
    try simp only [aT,bp,aZ,Act.put,aM,aN,aK]
    refine bQ (i:=19) (v:=?_) rfl (by kernel_rfl) (by kernel_rfl) (by kernel_rfl) (fun _ _ _ h => h) (Or.inl ⟨by rfl,?_⟩) (by assumption) ?_
    rotate_left
    ·
     intro w hSw
     try dsimp only at hSw
     go_simp
     with_reducible rfl
    try simp only [aT,bp,aZ,Act.put,aM,aN,aK]
    refine wpAnyH_done (by kernel_rfl) ?_ _;have HZ:=zh (iT eW.out (bU Q0) ((zA (aj _ _).drew eO).trans jP));clear eO jP lg;go_wp2_with fail;go_ret;exact ⟨zH HF.out.symm,by rw [E0.out]; exact HZ.out⟩
   go_wp2_with fail
   go_region_held3 (fun w' => w'.cell? ⟨b0,3,none⟩ = some (.int .i64 d) ∧ w'.cell? ⟨b0,4,none⟩ = some (.slice (s.a 0) (s.n 0) (s.c 0)) ∧ w'.cell? ⟨b0,5,none⟩ = some (.slice (s.a 1) (s.n 1) (s.c 1)) ∧ w'.cell? ⟨b0,6,none⟩ = some (.slice (s.a 2) (s.n 2) (s.c 2)) ∧ w'.cell? ⟨b0,7,none⟩ = some (.slice (s.a 3) (s.n 3) (s.c 3)) ∧ w'.cell? ⟨b0,8,none⟩ = some (.slice (s.a 4) (s.n 4) (s.c 4)) ∧ w'.cell? ⟨b0,9,none⟩ = some (.slice (s.a 5) (s.n 5) (s.c 5)) ∧ w'.cell? ⟨b0,10,none⟩ = some (.slice (s.a 6) (s.n 6) (s.c 6)) ∧ w'.cell? ⟨b0,11,none⟩ = some (.slice (s.a 7) (s.n 7) (s.c 7)) ∧ w'.cell? ⟨b0,12,none⟩ = some (.int .i64 (SM : Int)) ∧ w'.cell? ⟨b0,13,none⟩ = some (.int .i64 G))
   (first | with_reducible exact EA.out _ ((zA (aj _ _).drew eO).trans jP) | with_reducible exact EA.out _ (zA (aj _ _).drew eO) | exact EA.out _ (aj _ _).drew)
   (first | (go_at_call 89; (with_reducible refine (HI.out _ (eY.out.below (aj _ _).drew)).mono ?_); rintro e wa ⟨va,rfl,lg,eO⟩) | (go_at_call 88; refine (HFu.out _ _ w1.heap.size lg eO.size).mono ?_; rintro e wb ⟨rfl,jP⟩))
   rename_i hHeld;clear hHeld;have HZ:=zh (iT eW.out (bU Q0) ((zA (aj _ _).drew eO).trans jP));clear eO jP lg;go_wp2_with fail;go_ret;exact ⟨zH (by rw [HF.out,cT,aF (16 + (SM : Int)) (by omega),aF _ (by omega)]),by rw [E0.out]; exact HZ.out⟩
  have hf : res = false:=iB.out fun hv => hB ⟨hv.size.1,hv.size.2.1,hv.size.2.2⟩
  have HF:=zh hf;have HB:=zh hB;clear hB hf iB iO hres h hs HI;generalize xA g.m = vb at *;obtain ⟨a,b,c,d,f,L,G⟩:=g;dsimp only at *
  go_enter Tryz.func49,Tryz.ntmps49
  go_upto_region 1 with fail;obtain ⟨W,hW⟩ : ∃ W,w.alloc (.cells (zQ a b c d s L G) 38) = W:=⟨_,rfl⟩
  change Code.wp _ _ _ _ (w.alloc (.cells (zQ a b c d s L G) 38));rw [hW] at eG eQ ⊢;have Dm:=eG.out.lt;have n0:=eG.out.n0;have n1:=eG.out.n1;have n2:=eG.out.n2;have n3:=eG.out.n3;have hb:=HB.out;clear hW;have hc : d < 16 ∨ (16 ≤ d ∧ 1048576 < d) ∨ (16 ≤ d ∧ d ≤ 1048576 ∧ d % 8 ≠ 0):=by omega
  clear hb;rcases hc with hc | ⟨h1,hc⟩ | ⟨h1,h2,hc⟩
  ·
   go_wp2_with fail;go_ret;exact ⟨zH HF.out.symm,eQ.out⟩
  ·
   go_wp2_with fail;go_ret;exact ⟨zH HF.out.symm,eQ.out⟩
  have Xe : d.tmod 8 = d % 8:=Int.tmod_eq_emod_of_nonneg (by omega);have Ch : (d % 8 != 0) = true:=by simp [hc]
  go_wp2_with fail;go_ret;exact ⟨zH HF.out.symm,eQ.out⟩
 have hf : res = false:=iB.out fun hv => hA ⟨hv.num.1,hv.num.2,hv.rev.1,hv.rev.2,hv.mode.1,hv.mode.2⟩
 have HF:=zh hf;have HA:=zh hA;clear hA hf iB iO hres h hs HV HI;obtain ⟨a,b,c,d,f,L,G⟩:=g;dsimp only at *
 go_enter Tryz.func49,Tryz.ntmps49
 go_upto_region 1 with fail;obtain ⟨W,hW⟩ : ∃ W,w.alloc (.cells (zQ a b c d s L G) 38) = W:=⟨_,rfl⟩
 change Code.wp _ _ _ _ (w.alloc (.cells (zQ a b c d s L G) 38));rw [hW] at eG eQ ⊢;have Dm:=eG.out.lt;have n0:=eG.out.n0;have n1:=eG.out.n1;have n2:=eG.out.n2;have ha:=HA.out;clear hW;have hc : a < 1 ∨ (1 ≤ a ∧ 8 < a) ∨ (1 ≤ a ∧ a ≤ 8 ∧ b < 0) ∨ (1 ≤ a ∧ a ≤ 8 ∧ 0 ≤ b ∧ 4294967295 < b) ∨ (1 ≤ a ∧ a ≤ 8 ∧ 0 ≤ b ∧ b ≤ 4294967295 ∧ c < 1) ∨ (1 ≤ a ∧ a ≤ 8 ∧ 0 ≤ b ∧ b ≤ 4294967295 ∧ 1 ≤ c ∧ 3 < c):=by omega
 clear ha;rcases hc with hc | ⟨h1,hc⟩ | ⟨h1,h2,hc⟩ | ⟨h1,h2,h3,hc⟩ | ⟨h1,h2,h3,h4,hc⟩ | ⟨h1,h2,h3,h4,h5,hc⟩ <;>
 (go_wp2_with fail; go_ret; exact ⟨zH HF.out.symm,eQ.out⟩)
end Go.Proofs.YtcgfilmmokmdjaaGreat
