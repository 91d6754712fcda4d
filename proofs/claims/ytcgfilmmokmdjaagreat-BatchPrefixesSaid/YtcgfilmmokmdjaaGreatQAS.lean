/- A part of the walk. -/
import Derived.Test.YtcgfilmmokmdjaaGreatBe
import Derived.Test.YtcgfilmmokmdjaaGreatHe
import Derived.Test.YtcgfilmmokmdjaaGreatQAR
import Derived.Test.YtcgfilmmokmdjaaGreatQAE
import Derived.Test.YtcgfilmmokmdjaaGreatQAG
import Derived.Test.YtcgfilmmokmdjaaGreatProg
import Derived.Lib.AppendZerosOnto
import Derived.Deep.Onto
import Derived.Lib.Overlaps
import Derived.Laws.Externs
import Derived.Test.YtcgfilmmokmdjaaGreatQAH
import Derived.Test.YtcgfilmmokmdjaaGreatQAO
set_option linter.all false
set_option maxRecDepth 100000
set_option maxHeartbeats 32000000
namespace Go.Proofs.YtcgfilmmokmdjaaGreat
open Go.RowKit
theorem zJu (y : GP) (bg : Nat) (num : Int) (kv : Value) (w : World) (hg : dX w bg #[.int .i64 num,kv] 89) :
  Calls Tryz.prog 112 #[zV y.1.num y.1.rev y.1.mode y.1.size y.2 y.1.m.live y.1.m.dZ,.pointer (some ⟨bg,0,none⟩)] w fun e w' => e = .returned (.bool (y.1.num == num)) ∧ Below w.heap.size w w':=by
 obtain ⟨⟨yn,yr,ym,yz,⟨yf,yL,yG⟩⟩,ys⟩:=y;dsimp only;have eU:=zb w yn yr ym yz ys yL yG 38;have HY:=zh (eH.new w yn yr ym yz ys yL yG 38);have HG:=zh (hg.below eU);have HB:=zh eU;clear hg eU
 go_enter Tryz.func112,Tryz.ntmps112
 go_upto_region 1 with fail;change Code.wp _ _ _ _ (w.alloc (.cells (zQ yn yr ym yz ys yL yG) 38));generalize w.alloc (.cells (zQ yn yr ym yz ys yL yG) 38) = w1 at *;have q0:=HY.out.n0;have q1:=HG.out.cell (i:=0) rfl;go_wp2_with fail;go_ret;exact ⟨rfl,HB.out⟩
theorem zFc (a : Option Addr) (n c : Nat) (L : List GP) (bg : Nat) (num : Int) (kv : Value) (w : World) (h : fH w (.slice a n c) L) (hn : n ≤ 1000000) (hg : dX w bg #[.int .i64 num,kv] 89) :
  Calls Tryz.prog 57 #[.slice a n c,.func (.func 112) #[] #[.pointer (some ⟨bg,0,none⟩)]] w fun e w' => (∃ z,e = .returned (.int .i64 z) ∧ PT L num z) ∧ Below w.heap.size w w':=by
 have gy : L.length = n:=by
  obtain ⟨_,_,e,_⟩:=h.shape;injection e with _ e _; exact e.symm
 have Hr:=zh h;have Hg:=zh hg;have iL:=zh gy;clear h hg gy
 go_enter Tryz.func57,Tryz.ntmps57
 go_wp2_with fail
 go_loopw [8] (fun i wr => ∃ k : Nat,k ≤ n ∧ i = .int .i64 (k : Int) ∧ Hid (∀ j,j < k → (pat L j).1.num ≠ num) ∧ Hid (Below w.heap.size w wr)) (fun i _ => n - (intOf i).toNat)
 case atStart => exact ⟨0,aq _,rfl,zh (fun j hj => absurd hj (by omega)),zh (aj _ _)⟩
 obtain ⟨k,hk,rfl,mj,Hb⟩:=hrel
 by_cases hlt : k < n
 ·
  have hr:=Hr.out.below Hb.out;obtain ⟨b,off,rfl,hat⟩:=hr.at hlt;have HV:=zh (fun W (hb : Below wr.heap.size wr W) => zJu (pat L k) bg num kv W ((Hg.out.below Hb.out).below hb))
  have Ej:=zh (show (pat L k).1.num ≠ num → ∀ j,j < k + 1 → (pat L j).1.num ≠ num from fun ho j hj => by
   by_cases e : j = k
   ·
    subst e; exact ho
   exact mj.out j (by omega))
  have Lz:=zh (show (pat L k).1.num = num → PT L num (k : Int) from fun e => .inl ⟨k,by rw [iL.out]; exact hlt,rfl,e,mj.out⟩);clear hr;generalize pat L k = p at *;obtain ⟨⟨xn,xr,xm,xz,⟨xf,xL,xG⟩⟩,xs⟩:=p;obtain ⟨g0,g1,g2,g3,g4,g5,g6,g7,g8,g9,g10,g11,g12,g13⟩:=hat;dsimp only at g0 g1 g2 g3 g4 g5 g6 g7 g8 g9 g10 g11 g12 g13 HV Ej Lz;have i1 : (k : Int) < (n : Int):=by omega
  go_wp2_with fail;refine (HV.out _ (aj _ _)).mono ?_; rintro e w1 ⟨rfl,hb1⟩;have lX:=zh (zA Hb.out hb1)
  by_cases hx : xn = num
  ·
   have HF:=zh (Lz.out hx);have hx1 : (xn == num) = true:=by simp [hx]
   clear hb1 hx Ej Lz HV;go_wp2_with fail;go_ret;exact ⟨⟨_,rfl,HF.out⟩,lX.out⟩
  have HF:=zh (Ej.out hx);have hx1 : (xn == num) = false:=by simp [hx]
  clear hb1 hx Ej Lz HV;go_wp2_with fail;exact ⟨⟨k + 1,by omega,by go_num,HF,lX⟩,by simp [intOf]; omega⟩
 obtain rfl : k = n:=by omega
 have i1 : ¬ (k : Int) < (k : Int):=by omega
 have HF:=zh (show PT L num (-1) from .inr ⟨rfl,by rw [iL.out]; exact mj.out⟩);go_wp2_with fail;go_ret;exact ⟨⟨_,rfl,HF.out⟩,Hb.out⟩
theorem zCH {l : List Gn} {num : Int} {k : Nat} (hk : k < l.length) (h1 : (eB l k).num = num) (h2 : ∀ j,j < k → (eB l j).num ≠ num) : k4 l num = k:=by
 have e : ∀ j (hj : j < l.length),l[j] = eB l j:=fun j hj => by unfold eB; rw [aw,aB hj]; rfl
 unfold k4;rw [(List.findIdx?_eq_some_iff_getElem (p:=fun g : Gn => decide (g.num = num)) (i:=k)).2 ⟨hk,by rw [e k hk]; simpa using h1,fun j hj => by rw [e j (by omega)]; simpa using h2 j hj⟩]
 rfl
theorem zIL {l : List Gn} {num : Int} (h : ∀ j,j < l.length → (eB l j).num ≠ num) : k4 l num = l.length:=by
 unfold k4
 rw [List.findIdx?_eq_none_iff.2 fun x hx => by
  obtain ⟨j,hj,rfl⟩:=b7 hx
  have:=h j hj
  unfold eB at this
  rw [aw,aB hj] at this
  simpa using this]
 rfl
theorem zEy (l : List Int) : ∀ (M : Mp) {K : Nat},(∀ i,i < 8 → (M.st i).length ≤ K) → ∀ i,i < 8 → ((l.foldl yP M).st i).length ≤ K:=fun M _ h => wQ l M h
theorem zBw (g : Gn) (l : List Int) {K : Nat} (h : ∀ i,i < 8 → (g.m.st i).length ≤ K) : ∀ i,i < 8 → ((yY g l).2.m.st i).length ≤ K:=fun i hi => by
 have h0 : ((gY).m.st i).length ≤ K:=aq _;unfold yY
 split
 ·
  split
  ·
   exact h0
  exact zEy l g.m h i hi
 exact h0
def PW (er a b md z : Int) (f : Nat → List It) (L G : Int) : pY:=⟨fun v w => ∃ s,v = .tuple #[zV a b md z s L G,.int .i64 er] ∧ fq w s f,fun _ _ _ hb ⟨s,h1,h2⟩ => ⟨s,h1,h2.below hb⟩⟩
def YJ (a b md z : Int) (f : Nat → List It) (L G : Int) : pY:=⟨fun v w => ∃ s,v = zV a b md z s L G ∧ fq w s f,fun _ _ _ hb ⟨s,h1,h2⟩ => ⟨s,h1,h2.below hb⟩⟩
theorem us (n' r' md' z' : Int) (s' : Sl) (l' g' : Int) : (zJ n' r' md' z' s' l' g').foldl (fun cs p => cs.setIfInBounds p.1 p.2) (zQ 0 0 0 0 Sl.nil 0 0) = zQ n' r' md' z' s' l' g':=by
 simp only [cG,cV,aM,aN,aK]
theorem zH3 (s : eL) (a : Option Addr) (n c : Nat) (L : List GP) (w : World) (h : fH w (.slice a n c) L) (hg : ea L = s.dW) (hl : fA 1000 s.dW) (hn : n ≤ 1000000) (num : Int) (kv : Value) (keys : List Int) (hk : lJ w kv keys) (hkl : keys.length ≤ 1000) :
  Calls Tryz.prog 71 #[ze s.id s.lim s.ro a n c,.agg #[.int .i64 num,kv]] w (I2 w (yv s num keys)):=by
 have gy : L.length = n:=by
  obtain ⟨_,_,e,_⟩:=h.shape;injection e with _ e _; exact e.symm
 have Hkl:=zh hkl;have MB:=zh (fun W bg (hb : Below w.heap.size w W) (hq : dX W bg #[.int .i64 num,kv] 89) => zFc a n c L bg num kv W (h.below hb) hn hq);have HE:=zh (show yv s num keys = if k4 s.dW num < s.dW.length then (if (yY (eB s.dW (k4 s.dW num)) keys).1 = 0 then yM s (yY (eB s.dW (k4 s.dW num)) keys).2 else (wJ,(yY (eB s.dW (k4 s.dW num)) keys).1)) else (wJ,6) from rfl);have PX : s.dW.length = n:=by rw [← hg,yB]; exact gy
 have YK : ∀ q,eB s.dW q = (pat L q).1:=fun q => by rw [← hg]; exact xJ
 obtain ⟨ka,kc,rfl,_,_⟩:=hk.gl;have HKu:=zh hk;clear hkl hk;generalize R_ : keys.length = kn at *;have YL:=zh R_;clear R_;obtain ⟨W,hW⟩ : ∃ W,((w.alloc (.cells (zN s.id s.lim s.ro a n c) 27)).alloc (.cells #[.int .i64 num,.slice ka kn kc] 89)).alloc (.cells (zN 0 0 false none 0 0) 27) = W:=⟨_,rfl⟩
 have hb1:=zS w s.id s.lim s.ro a n c 27;have hb2:=(aj (w.alloc (.cells (zN s.id s.lim s.ro a n c) 27)).heap.size (w.alloc (.cells (zN s.id s.lim s.ro a n c) 27))).alloc (ai _) (.cells #[.int .i64 num,.slice ka kn kc] 89);have hb3:=zS ((w.alloc (.cells (zN s.id s.lim s.ro a n c) 27)).alloc (.cells #[.int .i64 num,.slice ka kn kc] 89)) 0 0 false none 0 0 27;have HX:=zh (show dX W w.heap.size (zN s.id s.lim s.ro a n c) 27 from hW ▸ ((dX.new w (zN s.id s.lim s.ro a n c) 27).below hb2).below hb3)
 have HK:=zh (show dX W (w.heap.size + 1) #[.int .i64 num,.slice ka kn kc] 89 from hW ▸ (show dX _ (w.heap.size + 1) #[.int .i64 num,.slice ka kn kc] 89 from by
  have h:=dX.new (w.alloc (.cells (zN s.id s.lim s.ro a n c) 27)) #[.int .i64 num,.slice ka kn kc] 89
  rwa [show (w.alloc (.cells (zN s.id s.lim s.ro a n c) 27)).heap.size = w.heap.size + 1 by simp] at h).below hb3)
 have HR:=zh (show fc W (w.heap.size + 1 + 1) 0 0 false none 0 0 from hW ▸ (by
  have h:=fc.new ((w.alloc (.cells (zN s.id s.lim s.ro a n c) 27)).alloc (.cells #[.int .i64 num,.slice ka kn kc] 89)) 0 0 false none 0 0 27
  rwa [show ((w.alloc (.cells (zN s.id s.lim s.ro a n c) 27)).alloc (.cells #[.int .i64 num,.slice ka kn kc] 89)).heap.size = w.heap.size + 1 + 1 by simp] at h))
 have HB:=zh (show Below w.heap.size w W from hW ▸ zA (zA hb1 hb2) hb3);have HM:=zh (show ∀ q,q < n → fq w (pat L q).2 (pat L q).1.m.st ∧ ∀ j,j < 8 → ((pat L q).1.m.st j).length ≤ 1000 from fun q hq => ⟨h.m _ (xN (by omega)),fun j hj => hl _ (by rw [← YK]; exact ux (by omega)) j hj⟩);have KB:=zh h;have I6:=zh (fun W g sl (hb : Below w.heap.size w W) (hm : fq W sl g.m.st) (Co : ∀ j,j < 8 → (g.m.st j).length ≤ 10000) => zGh s a n c L W (h.below hb) hg hl g sl hm Co);have UE:=zh YK;have YM:=zh PX;clear hb1 hb2 hb3 h hg hl YK PX
 go_enter Tryz.func71,Tryz.ntmps71
 go_upto_region 1 with fail;clear hW;have k3:=HX.out.cell (i:=3) rfl;go_wp2_with fail;refine (MB.out W (w.heap.size + 1) HB.out HK.out).mono ?_;rintro e w1 ⟨⟨z,rfl,hz⟩,hb⟩;clear k3 MB;replace HX:=zh (HX.out.below hb);replace HK:=zh (HK.out.below hb);replace HR:=zh (HR.out.below hb);replace HB:=zh (zA HB.out hb);clear hb;rcases hz with ⟨k,Ff,rfl,hk2,hk3⟩ | ⟨rfl,hz⟩
 ·
  have hkn : k < n:=by omega
  have HG:=zh (show k4 s.dW num = k from zCH (by rw [YM.out]; exact hkn) (by rw [UE.out]; exact hk2) fun j hj => by rw [UE.out]; exact hk3 j hj);have KH:=zh (show yv s num keys = if (yY (pat L k).1 keys).1 = 0 then yM s (yY (pat L k).1 keys).2 else (wJ,(yY (pat L k).1 keys).1) by rw [HE.out,HG.out,ag (by rw [YM.out]; exact hkn),UE.out]);have Ep:=HM.out k hkn;have IZ:=zh (fun W2 (hb : Below w1.heap.size w1 W2) => zFF (pat L k).1 (pat L k).2 (.slice ka kn kc) keys W2 (Ep.1.below (zA HB.out hb)) (fun j hj => ak (Ep.2 j hj) (by decide)) (iw.below HKu.out (zA HB.out hb)) (by rw [YL.out]; exact ak Hkl.out (by decide)));have hlen : ∀ j,j < 8 → ((yY (pat L k).1 keys).2.m.st j).length ≤ 10000:=fun j hj => ak (zBw (pat L k).1 keys Ep.2 j hj) (by decide)
  have HLe:=zh hlen;obtain ⟨gb,go,e0,hat⟩:=(KB.out.below HB.out).at hkn;subst e0;have HGA:=zh hat;clear HE HG HM Ep hlen hat hk2 hk3;generalize yv s num keys = RR at *;generalize hK : yY (pat L k).1 keys = KG at *;clear hK;obtain ⟨er,⟨tn,tr,tm,tz,⟨tf,tL,tG⟩⟩⟩:=KG;generalize pat L k = p at *;obtain ⟨⟨pn,pr,pm,pz,⟨pf,pL,pG⟩⟩,ps⟩:=p;dsimp only at IZ KH HLe;have YN : (0 : Int) ≤ (k : Int):=by omega
  have YO : (k : Int) < (n : Int):=by omega
  have i1 : ¬ (k : Int) < 0:=by omega
  go_upto_region 4 with fail
  go_cut [7,8] (fun vb ve wx => ∃ bG s9,vb = .pointer (some ⟨bG,0,none⟩) ∧ ve = .int .i64 er ∧ w1.heap.size ≤ bG ∧ Hid (dX wx bG (zQ tn tr tm tz s9 tL tG) 38) ∧ Hid (fq wx s9 tf) ∧ Hid (Below w1.heap.size w1 wx))
  case first =>
   refine yh [eX (.pointer (some ⟨w.heap.size,3,none⟩)),eX (.slice (some ⟨gb,go,none⟩) n c),eX (.int .i64 (k : Int)),eX (.pointer (some ⟨gb,go + k * 14,none⟩)),eX (zV pn pr pm pz ps pL pG),eX (.pointer (some ⟨w.heap.size + 1,1,none⟩)),eX (.slice ka kn kc),PW er tn tr tm tz tf tL tG,PW er tn tr tm tz tf tL tG,YJ tn tr tm tz tf tL tG,eX (.int .i64 er),Yq 38 w1.heap.size] [11] 36 10 (by kernel_rfl) (by kernel_rfl) rfl rfl (by decide) (by rfl) (by kernel_rfl) (fun f => by simp [fD,zW,Act.put]; exact rfl) ?_ ?_ ?_
   ·
    refine ⟨?_,?_,?_,?_,?_,?_,?_,?_,?_,?_,?_,?_,trivial⟩
    ·
     intro f w2 hb hd;clear hd;dsimp only;go_wp2_with fail;exact pS rfl (by simp)
    ·
     intro f w2 hb hd;have d0 : f 0 = (.pointer (some ⟨w.heap.size,3,none⟩)):=hd 0 (by kernel_rfl);clear hd;dsimp only;rw [d0];have q3:=(HX.out.below hb).cell (i:=3) rfl;go_wp2_with fail;exact pS rfl (by simp)
    ·
     intro f w2 hb hd;clear hd;dsimp only;go_wp2_with fail;exact pS rfl (by simp)
    ·
     intro f w2 hb hd;have d1 : f 1 = (.slice (some ⟨gb,go,none⟩) n c):=hd 1 (by kernel_rfl);have d2 : f 2 = (.int .i64 (k : Int)):=hd 2 (by kernel_rfl);clear hd;dsimp only;rw [d1];rw [d2];have j0:=YN;have j1:=YO;go_wp2_with fail;exact pS rfl (by simp)
    ·
     intro f w2 hb hd;have d3 : f 3 = (.pointer (some ⟨gb,go + k * 14,none⟩)):=hd 3 (by kernel_rfl);clear hd;dsimp only;rw [d3];have hx:=HGA.out.below hb;obtain ⟨q0,q1,q2,q3,q4,q5,q6,q7,q8,q9,FC,FD,FE,FF⟩:=hx.q;clear hx;dsimp only at q0 q1 q2 q3 q4 q5 q6 q7 q8 q9 FC FD FE FF;go_wp2_with fail;exact pS rfl (by simp)
    ·
     intro f w2 hb hd;clear hd;dsimp only;go_wp2_with fail;exact pS rfl (by simp)
    ·
     intro f w2 hb hd;have d5 : f 5 = (.pointer (some ⟨w.heap.size + 1,1,none⟩)):=hd 5 (by kernel_rfl);clear hd;dsimp only;rw [d5];have q1:=(HK.out.below hb).cell (i:=1) rfl;go_wp2_with fail;exact pS rfl (by simp)
    ·
     intro f w2 hb hd;have d4 : f 4 = (zV pn pr pm pz ps pL pG):=hd 4 (by kernel_rfl);have d6 : f 6 = (.slice ka kn kc):=hd 6 (by kernel_rfl);clear hd;dsimp only;rw [d4];rw [d6];go_wp2_with fail;refine (IZ.out w2 hb).mono ?_;rintro e w9 ⟨⟨s9,rfl,B5⟩,gL⟩;have ic:=zh B5.rd;clear B5;go_wp2_with fail;exact ⟨rfl,gL,fun t ht => by injection ht with ht; subst ht; exact ⟨⟨s9,rfl,ic.out⟩,fun h => by simp at h⟩⟩
    ·
     intro f w2 hb hd;obtain ⟨s7,d7,r7⟩:=show ∃ s,f 7 = .tuple #[zV tn tr tm tz s tL tG,.int .i64 er] ∧ fq w2 s tf from hd 7 (by kernel_rfl);clear hd;dsimp only;rw [d7];have ic:=zh r7;clear r7;go_wp2_with fail;exact ⟨rfl,aj _ _,fun t ht => by injection ht with ht; subst ht; exact ⟨⟨s7,rfl,ic.out⟩,fun h => by simp at h⟩⟩
    ·
     intro f w2 hb hd;obtain ⟨s8,d8,r8⟩:=show ∃ s,f 8 = .tuple #[zV tn tr tm tz s tL tG,.int .i64 er] ∧ fq w2 s tf from hd 8 (by kernel_rfl);clear hd;dsimp only;rw [d8];have ic:=zh r8;clear r8;go_wp2_with fail;exact ⟨rfl,aj _ _,fun t ht => by injection ht with ht; subst ht; exact ⟨⟨s8,rfl,ic.out⟩,fun h => by simp at h⟩⟩
    ·
     intro f w2 hb hd;obtain ⟨s8,d8,r8⟩:=show ∃ s,f 8 = .tuple #[zV tn tr tm tz s tL tG,.int .i64 er] ∧ fq w2 s tf from hd 8 (by kernel_rfl);clear hd;dsimp only;rw [d8];clear r8;go_wp2_with fail;exact pS rfl (by simp)
    intro f w2 hb hd;clear hd;dsimp only;have Cm:=hb.size;have I5:=dX.new w2 (zQ 0 0 0 0 Sl.nil 0 0) 38;go_wp2_with fail;exact ⟨rfl,(aj _ _).alloc (ai _) _,fun t ht => by injection ht with ht; subst ht; exact ⟨⟨_,rfl,Cm,I5⟩,fun _ => ⟨ai _,by simp [blk]⟩⟩⟩
   ·
    intro f w8 hb hd iD;clear iD;obtain ⟨s9,d9,r9⟩:=show ∃ s,f 9 = zV tn tr tm tz s tL tG ∧ fq w8 s tf from hd 9 (show 9 < 12 by decide);obtain ⟨bG,d11,lo,bx⟩:=show ∃ b,f 11 = .pointer (some ⟨b,0,none⟩) ∧ w1.heap.size ≤ b ∧ dX w8 b (zQ 0 0 0 0 Sl.nil 0 0) 38 from hd 11 (show 11 < 12 by decide);have d10 : f 10 = .int .i64 er:=hd 10 (show 10 < 12 by decide)
    try dsimp only
    rw [d9,d10,d11];clear hd d9 d10 d11;have jm:=zh (show dX (pts w8 bG (zJ tn tr tm tz s9 tL tG)) bG (zQ tn tr tm tz s9 tL tG) 38 from (by have h:=dX.sets (zJ tn tr tm tz s9 tL tG) bx; rw [us] at h; exact h));have iQ:=zh (fq.gen r9 bx (zJ tn tr tm tz s9 tL tG));have fK:=zh (zD (B:=w1.heap.size) (b:=bG) lo (zJ tn tr tm tz s9 tL tG) hb);have bg:=bx.gen;obtain ⟨g0,g1,g2,g3,g4,g5,g6,g7,g8,g9,g10,g11,g12,g13⟩:=bg.q;have gf:=bg.f;clear r9 bx bg hb;generalize f 0 = D3,f 1 = Dy,f 2 = Dz,f 3 = DC,f 4 = DF,f 5 = DG,f 6 = E7,f 7 = Ii,f 8 = MF;clear f;change wpList _ _ _ (_ :: _ :: []) _ _;go_wp2_with fail;go_meet
    case rel => exact ⟨bG,s9,rfl,rfl,lo,jm,iQ,fK⟩
   intro f w8 hb hd iD;clear iD;obtain ⟨s9,d9,r9⟩:=show ∃ s,f 9 = zV tn tr tm tz s tL tG ∧ fq w8 s tf from hd 9 (show 9 < 12 by decide) (show 9 ≠ 10 by decide);obtain ⟨bG,d11,lo,bx⟩:=show ∃ b,f 11 = .pointer (some ⟨b,0,none⟩) ∧ w1.heap.size ≤ b ∧ dX w8 b (zQ 0 0 0 0 Sl.nil 0 0) 38 from hd 11 (show 11 < 12 by decide) (show 11 ≠ 10 by decide);obtain ⟨s8,d8,r8⟩:=show ∃ s,f 8 = .tuple #[zV tn tr tm tz s tL tG,.int .i64 er] ∧ fq w8 s tf from hd 8 (show 8 < 12 by decide) (show 8 ≠ 10 by decide);clear r8
   try dsimp only
   rw [d8,d9,d11];clear hd d8 d9 d11;have jm:=zh (show dX (pts w8 bG (zJ tn tr tm tz s9 tL tG)) bG (zQ tn tr tm tz s9 tL tG) 38 from (by have h:=dX.sets (zJ tn tr tm tz s9 tL tG) bx; rw [us] at h; exact h));have iQ:=zh (fq.gen r9 bx (zJ tn tr tm tz s9 tL tG));have fK:=zh (zD (B:=w1.heap.size) (b:=bG) lo (zJ tn tr tm tz s9 tL tG) hb);have bg:=bx.gen;obtain ⟨g0,g1,g2,g3,g4,g5,g6,g7,g8,g9,g10,g11,g12,g13⟩:=bg.q;have gf:=bg.f;clear r9 bx bg hb;generalize f 0 = D3,f 1 = Dy,f 2 = Dz,f 3 = DC,f 4 = DF,f 5 = DG,f 6 = E7,f 7 = Ii,f 10 = Es;clear f;change wpList _ _ _ (_ :: _ :: _ :: []) _ _;go_wp2_with fail;go_meet
   case rel => exact ⟨bG,s9,rfl,rfl,lo,jm,iQ,fK⟩
  obtain ⟨bG,s9,rfl,rfl,hlo,JA,Og,fK⟩:=hcut;generalize wc = w3 at *;replace HX:=zh (HX.out.below fK.out);replace HK:=zh (HK.out.below fK.out);replace HR:=zh (HR.out.below fK.out);replace HB:=zh (zA HB.out fK.out);clear fK IZ HGA
  by_cases UF : er = 0
  ·
   subst UF;have PY:=zh (show RR = yM s ⟨tn,tr,tm,tz,⟨tf,tL,tG⟩⟩ by rw [KH.out,ag rfl]);have UG:=zh (I6.out w3 ⟨tn,tr,tm,tz,⟨tf,tL,tG⟩⟩ s9 HB.out Og.out HLe.out);clear KH I6;rw [← PY.out] at UG;clear PY;obtain ⟨R,rc⟩:=RR;dsimp only at UG;have hb3 : w.heap.size + 1 + 1 < w3.heap.size:=HR.out.lt;have x0:=HX.out.cell (i:=0) rfl;have x1:=HX.out.cell (i:=1) rfl;have x2:=HX.out.cell (i:=2) rfl;have x3:=HX.out.cell (i:=3) rfl;obtain ⟨g0,g1,g2,g3,g4,g5,g6,g7,g8,g9,g10,g11,g12,g13⟩:=JA.out.gen.q;go_wp2_with fail;refine UG.out.mono ?_;rintro e w4 ⟨⟨ra,rn,rcp,RL,rfl,hown,hgn⟩,hb⟩;dsimp only;have HO:=zh hown;have jm:=zh hgn;clear hown hgn x0 x1 x2 x3 g0 g1 g2 g3 g4 g5 g6 g7 g8 g9 g10 g11 g12 g13;replace HR:=zh (HR.out.below hb);replace HB:=zh (zA HB.out hb);clear hb UG;obtain ⟨z0,z1,z2,z3⟩:=HR.out.q;have zf:=HR.out.f
   go_wp2_with fail;change bodyPost _ _ _ _ _ (pts w4 (w.heap.size + 1 + 1) (zP R.id R.lim R.ro ra rn rcp));have hby:=HR.out.all R.id R.lim R.ro ra rn rcp;have ey:=zh (zD (B:=w.heap.size) (b:=w.heap.size + 1 + 1) (by omega) (zP R.id R.lim R.ro ra rn rcp) HB.out);have EY:=zh ((HO.out.pts (b:=w.heap.size + 1 + 1) hb3 (zP R.id R.lim R.ro ra rn rcp)).lower (show w.heap.size ≤ w3.heap.size by omega));generalize pts w4 (w.heap.size + 1 + 1) (zP R.id R.lim R.ro ra rn rcp) = V at *;exact au (v:=.tuple #[ze R.id R.lim R.ro ra rn rcp,.int .i64 rc]) (by simp [results,Tryz.results71,go_sem,hby.c0,hby.c1,hby.c2,hby.c3]) rfl (⟨⟨_,_,_,RL,rfl,EY.out,jm.out⟩,ey.out⟩)
  have PY:=zh (show RR = (wJ,er) by rw [KH.out,ah UF]);have e1 : (er != 0) = true:=by simpa using UF
  clear KH UF;obtain ⟨z0,z1,z2,z3⟩:=HR.out.q;have zf:=HR.out.f;go_wp2_with fail;change bodyPost _ _ _ _ _ (pts w3 (w.heap.size + 1 + 1) (zP 0 0 false none 0 0));have hby:=HR.out.all 0 0 false none 0 0;have ey:=zh (zD (B:=w.heap.size) (b:=w.heap.size + 1 + 1) (by omega) (zP 0 0 false none 0 0) HB.out);generalize pts w3 (w.heap.size + 1 + 1) (zP 0 0 false none 0 0) = V at *;exact au (v:=.tuple #[ze 0 0 false none 0 0,.int .i64 er]) (by simp [results,Tryz.results71,go_sem,hby.c0,hby.c1,hby.c2,hby.c3]) rfl (by rw [PY.out]; exact I2.no ey.out)
 have PY:=zh (show yv s num keys = (wJ,6) by
  rw [HE.out,zIL fun j hj => by rw [UE.out]; exact hz j (by rw [YM.out] at hj; omega),ah (by omega)])
 clear hz HE;generalize yv s num keys = RR at *;obtain ⟨z0,z1,z2,z3⟩:=HR.out.q;have zf:=HR.out.f;go_wp2_with fail;change bodyPost _ _ _ _ _ (pts w1 (w.heap.size + 1 + 1) (zP 0 0 false none 0 0));have hby:=HR.out.all 0 0 false none 0 0;have ey:=zh (zD (B:=w.heap.size) (b:=w.heap.size + 1 + 1) (by omega) (zP 0 0 false none 0 0) HB.out);generalize pts w1 (w.heap.size + 1 + 1) (zP 0 0 false none 0 0) = V at *;exact au (v:=.tuple #[ze 0 0 false none 0 0,.int .i64 6]) (by simp [results,Tryz.results71,go_sem,hby.c0,hby.c1,hby.c2,hby.c3]) rfl (by rw [PY.out]; exact I2.no ey.out)
abbrev DI (w : World) (v : Value) (ks : List KP) : Prop:=ix 2 jQ w v ks
theorem DI.at {w : World} {a : Option Addr} {n cap : Nat} {ks : List KP} (h : DI w (.slice a n cap) ks) {j : Nat} (hj : j < n) : ∃ b off,a = some ⟨b,off,none⟩ ∧ w.cell? ⟨b,off + j * 2,none⟩ = some (.int .i64 (jg ks j).1) ∧ w.cell? ⟨b,off + j * 2 + 1,none⟩ = some (jg ks j).2.1:=by
 obtain ⟨a',cap',e,h2,h3,_,h5⟩:=ix.shape h (by decide) (0,.slice none 0 0,[]);injection e with e1 e2 e3;subst e1 e2 e3;obtain ⟨b,off,e,hc⟩:=h5 (by omega);refine ⟨b,off,e,?_,hc j hj 1 _ rfl⟩;have:=hc j hj 0 _ rfl; rwa [bu] at this
theorem DI.len {w : World} {a : Option Addr} {n cap : Nat} {ks : List KP} (h : DI w (.slice a n cap) ks) : ks.length = n:=by
 obtain ⟨_,_,e,_⟩:=ix.shape h (by decide) (0,.slice none 0 0,[]);injection e with _ e _; exact e.symm
theorem YP (g num : Int) (kv : Value) (w : World) (h1 : -1000 ≤ g ∧ g ≤ 1000) (h2 : -1000 ≤ num ∧ num ≤ 1000) : Calls Tryz.prog 183 #[.agg #[.int .i64 g,kv],.int .i64 num] w fun e w' => e = .returned (.int .i64 (g - num)) ∧ Below w.heap.size w w':=by
 have hb:=(aj w.heap.size w).alloc (ai _) (.cells #[.int .i64 g,kv] 89);have HY:=zh (dX.new w #[.int .i64 g,kv] 89);have HB:=zh hb;obtain ⟨a1,a2⟩:=h1;obtain ⟨b1,b2⟩:=h2;clear hb
 go_enter Tryz.func183,Tryz.ntmps183
 go_upto_region 1 with fail;change Code.wp _ _ _ _ (w.alloc (.cells #[.int .i64 g,kv] 89));generalize w.alloc (.cells #[.int .i64 g,kv] 89) = w1 at *;have q0:=HY.out.cell (i:=0) rfl;go_wp2_with fail;go_ret;exact ⟨rfl,HB.out⟩
theorem zKY (a : Option Addr) (n cap : Nat) (ks : List KP) (num : Int) (w : World) (h : DI w (.slice a n cap) ks) (ha : (jo ks).Pairwise fun a b => a.1 < b.1) (hk : ∀ x ∈ jo ks,1 ≤ x.1 ∧ x.1 ≤ 8) (jk : 1 ≤ num ∧ num ≤ 8) (hs : n ≤ 1000000) :
  Calls Tryz.prog 182 #[.slice a n cap,.int .i64 num,.func (.func 183) #[] #[]] w fun e w' =>
   e = .returned (.tuple #[.int .i64 (fL (jo ks) num : Int),.bool (decide (fL (jo ks) num < n) && (yE (jo ks) (fL (jo ks) num)).1 == num)]) ∧ Below w.heap.size w w':=by
 have YQ : (jo ks).length = n:=by rw [uR]; exact h.len
 have HR:=zh h;have HL:=zh (fun i (hi : i ≤ n) x (y : i < n → num ≤ (yE (jo ks) i).1) => zL0 (l:=jo ks) (num:=num) (i:=i) (by rw [YQ]; exact hi) x (by rw [YQ]; exact fun h => by have:=y h; omega) ha);have Mw:=zh (show ∀ i,i < n → 1 ≤ (yE (jo ks) i).1 ∧ (yE (jo ks) i).1 ≤ 8 from fun i hi => hk _ (wk (by omega)));have Oc:=zh (show ∀ i,(jg ks i).1 = (yE (jo ks) i).1 from fun i => by rw [YC]);obtain ⟨m1,m2⟩:=jk;clear h ha hk YQ;generalize jo ks = KS at *
 go_enter Tryz.func182,Tryz.ntmps182
 go_wp2_with fail
 go_loopw [9,10] (fun iv jv W => ∃ i j : Nat,iv = .int .i64 (i : Int) ∧ jv = .int .i64 (j : Int) ∧ i ≤ j ∧ j ≤ n ∧ Hid (∀ k,i = k + 1 → (yE KS k).1 < num) ∧ Hid (j < n → num ≤ (yE KS j).1) ∧ Hid (Below w.heap.size w W)) (fun iv jv _ => (intOf jv - intOf iv).toNat)
 case atStart => exact ⟨0,n,rfl,rfl,aq _,ai _,zh (fun k hk => by omega),zh (fun h => absurd h (by omega)),zh (aj _ _)⟩
 obtain ⟨i,j,rfl,rfl,hij,hj,HLw,HHi,HB⟩:=hrel
 by_cases hlt : i < j
 ·
  obtain ⟨m,hm,hm1,jH⟩ : ∃ m : Nat,(i + j) / 2 = m ∧ i ≤ m ∧ m < j:=⟨(i + j) / 2,rfl,by omega,by omega⟩
  have Tt : ((i : Int) + (j : Int)) / 2 = (m : Int):=by omega
  have i1 : (i : Int) < (j : Int):=by omega
  obtain ⟨bb,off,rfl,c0,c1⟩:=(show DI _ _ _ from ix.below HR.out HB.out).at (show m < n by omega);rw [Oc.out] at c0;obtain ⟨n1,n2⟩:=Mw.out m (by omega)
  have BZ:=zh (show ∀ k,m + 1 = k + 1 → (yE KS m).1 < num → (yE KS k).1 < num from fun k hk hx => by
   obtain rfl : m = k:=by omega
   exact hx)
  have fC:=zh (fun (hx : num ≤ (yE KS m).1) => (fun (_ : m < n) => hx));clear hm;generalize hgE : (yE KS m).1 = g at *;have HgE:=zh hgE;clear hgE;generalize (jg ks m).2.1 = kv at *
  by_cases hneg : g - num < 0
  ·
   have hx : g < num:=by omega
   go_wp2_with fail;refine (YP g num kv _ ⟨by omega,by omega⟩ ⟨by omega,by omega⟩).mono ?_;rintro e w1 ⟨rfl,hb1⟩;have eW:=zh (zA HB.out hb1);clear hb1;go_wp2_with fail;exact ⟨⟨m + 1,j,by go_num,rfl,by omega,hj,zh (fun k hk => BZ.out k hk hx),HHi,eW⟩,by simp [intOf]; omega⟩
  have hx : num ≤ g:=by omega
  go_wp2_with fail;refine (YP g num kv _ ⟨by omega,by omega⟩ ⟨by omega,by omega⟩).mono ?_;rintro e w1 ⟨rfl,hb1⟩;have eW:=zh (zA HB.out hb1);clear hb1;go_wp2_with fail;exact ⟨⟨i,m,rfl,rfl,hm1,by omega,HLw,zh (fun _ => by rw [HgE.out]; exact hx),eW⟩,by simp [intOf]; omega⟩
 obtain rfl : i = j:=by omega
 have HE:=zh (HL.out i hj HLw.out HHi.out)
 by_cases hin : i < n
 ·
  have i1 : (i : Int) < (n : Int):=by omega
  obtain ⟨bb,off,rfl,c0,c1⟩:=(show DI _ _ _ from ix.below HR.out HB.out).at hin;rw [Oc.out] at c0;obtain ⟨n1,n2⟩:=Mw.out i hin
  have HF:=zh (show (decide (fL KS num < n) && (yE KS (fL KS num)).1 == num) = ((yE KS i).1 - num == 0) by
   rw [HE.out,aD hin,cT]
   by_cases e : (yE KS i).1 = num
   ·
    rw [e]; simp
   rw [beq_eq_false_iff_ne.2 e,beq_eq_false_iff_ne.2 (by omega)])
  generalize (yE KS i).1 = g at *;generalize (jg ks i).2.1 = kv at *;go_wp2_with fail;refine (YP g num kv _ ⟨by omega,by omega⟩ ⟨by omega,by omega⟩).mono ?_;rintro e w1 ⟨rfl,hb1⟩;have eW:=zh (zA HB.out hb1);clear hb1;go_wp2_with fail;go_ret2;exact ⟨by rw [HF.out,HE.out]; rfl,eW.out⟩
 have i1 : ¬ (i : Int) < (n : Int):=by omega
 have HF:=zh (show (decide (fL KS num < n) && (yE KS (fL KS num)).1 == num) = false by rw [HE.out,aC hin,Bool.false_and]);go_wp2_with fail;go_ret2;exact ⟨by rw [HF.out,HE.out]; rfl,HB.out⟩
def fzK : List Value:=[.int .i64 0,.slice none 0 0]
def rB : Value:=.agg #[.int .i64 0,.slice none 0 0]
def tu (k : Nat) : List Value:=(List.replicate k fzK).flatMap id
theorem k9 (k : Nat) : (tu k).length = k * 2:=by
 unfold tu;rw [yV 2 id _ (fun x hx => by rw [(List.mem_replicate.1 hx).2]; rfl),dB]
theorem kg : ∀ m : Nat,(Builtin.zeroCells rB.cells m).toList = tu m
 | 0 => by simp [Builtin.zeroCells,tu]
 | m + 1 => by
  have e0 : tu (m + 1) = tu m ++ fzK:=by unfold tu; rw [List.replicate_succ',cC]; simp
  rw [e0,← kg m]
  show (Array.map _ (Array.range ((m + 1) * 2))).toList = (Array.map _ (Array.range (m * 2))).toList ++ _
  have e : (m + 1) * 2 = m * 2 + 1 + 1:=by omega
  rw [e];simp only [Array.toList_map,Array.toList_range,List.range_succ,bE,List.map_cons,List.map_nil,a_]
  congr 1
  show _ = [Value.int .i64 0,.slice none 0 0]
  have s4 : rB.cells.size = 2:=rfl;rw [s4];rw [show m * 2 % 2 = 0 by omega,show (m * 2 + 1) % 2 = 1 by omega]
  rfl
theorem zMS {n cap : Nat} (h1 : n ≤ cap) (h2 : cap ≤ maxLen) : (n : Int) ≤ 9223372036854775807:=by unfold maxLen at h2; omega
theorem YR : (Tryz.prog.info? 89).map (fun i => (i.zero,i.size,i.bytes)) = some (some rB,2,32):=by kernel_rfl
theorem wI : wK Tryz.prog 68 89 2 32:=by
 obtain ⟨i,h1,h2,h3,h4⟩:=b_ YR;exact ⟨Tryz.underlying68,by decide,i,_,h1,h2,h3,h4,rfl⟩
theorem zCt {a b c : World} {row : Option Nat} (h : a.grownBy b row) (k : b.grownBy c row) : a.grownBy c row:=
 ⟨k.os.trans h.os,k.tape.trans h.tape,k.output.trans h.output,ak h.size k.size,fun i hi hr => (k.block i (dt hi h.size) hr).trans (h.block i hi hr)⟩
theorem zAy {w w' : World} (h : Below w.heap.size w w') (row : Option Nat) : w.grownBy w' row:=⟨h.os,h.tape,h.output,h.size,fun k hk _ => h.block k hk⟩
theorem zEH (w : World) (row : Option Nat) : w.grownBy w.drew row:=zAy (zy (aj _ _)) row
theorem qU {P : Program} {dT sT elem : TypeId} {sz bytes : Nat} (hE : wK P dT elem sz bytes) {w : World} {base : Nat} {e : TypeId} {n cap g : Nat} {xs : List Value} (h : w.ownsRow base e sz (.slice (some ⟨g,0,none⟩) n cap) n xs)
  {sa : Option Addr} {m sc : Nat} {news : List Value} (hs : Rd w sz (.slice sa m sc) m news) (o dl dc k : Nat) (hk : k = Nat.min m dl) (h0 : 0 < k) (hsz : 0 < sz) (ho : o + k ≤ n) (h1 : ∀ u ∈ news.take (k * sz),u.oneCell' = true) :
  ∃ w',(∀ ty,(Builtin.copy_ #[dT,sT] ty #[.slice (some ⟨g,o * sz,none⟩) dl dc,.slice sa m sc]).run P w = .ok (.int .i64 (k : Int)) w') ∧
   w'.ownsRow base e sz (.slice (some ⟨g,0,none⟩) n cap) n (xs.take (o * sz) ++ news.take (k * sz) ++ xs.drop (o * sz + k * sz)) ∧ w.grownBy w' (some g):=by
 obtain ⟨hl,a',cap',e1,_,_,_,hc⟩:=hs;injection e1 with e1 e2 e3;subst e1 e3;have Ph : k ≤ m:=by rw [hk]; exact Nat.min_le_left _ _
 have hlk : (news.take (k * sz)).length = k * sz:=by rw [ay,hl]; exact bJ (aV _ Ph)
 have hp : 0 < news.length:=by rw [hl]; exact Nat.mul_pos (by omega) hsz
 obtain ⟨b,off,e4,hcell⟩:=hc hp;subst e4;obtain ⟨w',hrun,hown,hgr⟩:=qN (P:=P) h (o * sz) (news.take (k * sz)) (by rw [hlk,← bZ]; exact aV _ ho) h1;rw [hlk] at hown;refine ⟨w',fun ty => ?_,hown,hgr⟩
 have hf:=run_firstCells_some (P:=P) (w:=w) sz k ⟨b,off,none⟩ m sc (news.take (k * sz)) hlk (fun j v hj => by
  rw [yT]
  refine hcell j v ?_
  rw [cI] at hj
  split at hj
  ·
   exact hj
  cases hj)
 obtain ⟨ht,hZ⟩:=wm hE;simp [Builtin.copy_,run_underlying ht,Builtin.lenOf,hZ,← hk,hf,hrun,goInt]
theorem zH6 {w : World} {base : Nat} {e : TypeId} {sz n cap g : Nat} {xs : List Value} (h : w.ownsRow base e sz (.slice (some ⟨g,0,none⟩) n cap) n xs) (k : Nat) (hk : n + k ≤ cap) :
  ∃ ys,ys.length = k * sz ∧ w.ownsRow base e sz (.slice (some ⟨g,0,none⟩) (n + k) cap) (n + k) (xs ++ ys):=by
 have hx:=h.1;rcases h.2 with ⟨h',_⟩ | ⟨g',cap',cur,h',hb,hg,hnc,hcm,hcs,ji⟩
 ·
  cases h'
 injection h' with h' _ h'';injection h' with h';injection h' with h' _;subst h' h'';have hN : (n + k) * sz ≤ cur.toList.length:=by rw [dO,hcs]; exact aV _ hk
 rw [bZ] at hN;refine ⟨(cur.toList.drop (n * sz)).take (k * sz),by rw [ay,aP]; omega,?_,.inr ⟨g,cap,cur,rfl,hb,hg,hk,hcm,hcs,?_⟩⟩
 ·
  rw [ax,hx,ay,aP,bZ]; omega
 rw [bZ,List.take_add,ji]
theorem tS {P : Program} {t e : TypeId} {sz bytes : Nat} (hE : wK P t e sz bytes) (g n cap k : Nat) (hk : k ≤ n) (hc : k < cap) :
  ∀ W kl,(Instr.slice t (.slice (some ⟨g,0,none⟩) n cap) (some (.int kl (k : Int))) none none).run P W = .ok (.slice (some ⟨g,k * sz,none⟩) (n - k) (cap - k)) W:=by
 obtain ⟨h1,h2⟩:=wm hE;intro W kl;rw [run_slice_l W t (some ⟨g,0,none⟩) n cap h1 kl (k : Int) (by omega) (by omega),h2];have : cap ≠ k:=by omega
 simp [Result.andThen,sliced,this,yT]
theorem zGL {w : World} {B : Nat} {a : Option Addr} {n cap : Nat} {xs : List Value} (h : w.ownsRow B 89 2 (.slice a n cap) n xs) (i k : Nat) (hi : i ≤ n) (h0 : 0 < n) (hk : cap < i + k) (hs : i + k ≤ 1000001) :
  ∃ w' c',(∀ ty,(Builtin.append_ #[68,3] ty #[.slice a i cap,.int .i64 (k : Int)]).run Tryz.prog w = .ok (.slice (some ⟨w.heap.size,0,none⟩) (i + k) c') w') ∧
   w'.ownsRow w.heap.size 89 2 (.slice (some ⟨w.heap.size,0,none⟩) (i + k) c') (i + k) (xs.take (i * 2) ++ tu k) ∧ Below w.heap.size w w' ∧ c' ≤ maxLen:=by
 obtain ⟨x,hx⟩ : ∃ x,Tryz.prog.info? 89 = some x:=by
  cases hq : Tryz.prog.info? 89 with
  | none => have:=YR; rw [hq] at this; cases this
  | some x => exact ⟨x,rfl⟩
 have hI:=YR;rw [hx] at hI;injection hI with hI;injection hI with hz hI;injection hI with hs4 EK;have hz : x.zero = some rB:=hz;have hcap : 0 < cap:=by
  rcases h.2 with ⟨e,_⟩ | ⟨g,c,_,e,_,_,hnc,_⟩
  ·
   injection e with _ e2 _; omega
  injection e with _ _ e3; omega
 obtain ⟨hl0,a',cap',e1,_,_,_,hc⟩:=zw h;injection e1 with e1 e2 e3;subst e1 e3;have hl : (xs.take (i * 2)).length = i * 2:=by rw [ay,hl0]; exact bJ (aV _ hi)
 have hold : (Builtin.firstCells x.size i (.slice a i cap)).run Tryz.prog w.drew = .ok (xs.take (i * 2)).toArray w.drew:=by
  obtain ⟨b,off,e4,hcell⟩:=hc (by rw [hl0]; omega);subst e4;rw [hs4];refine run_firstCells_some (P:=Tryz.prog) (w:=w.drew) 2 i ⟨b,off,none⟩ i cap _ hl (fun j v hj => ?_);rw [yT];refine hcell j v ?_;rw [cI] at hj
  split at hj
  ·
   exact hj
  cases hj
 have hnb : Builtin.nextslicecap (i + k) cap * x.bytes ≤ 281474976710656:=growslice_fits hk (by rw [EK]; omega);have hr : ∀ ty,_:=fun ty => Lib.run_append_grow_zeros (P:=Tryz.prog) w 68 3 ty 89 x rB .i64 .i64 Tryz.underlying68 Tryz.underlying3 hx hz a i cap (xs.take (i * 2)) hold k (by omega) (by rw [hs4]; decide) hk (by omega) (by rw [EK]; omega) hnb
 refine ⟨_,_,hr,?_,(Below.drew (aj _ _)).alloc (ai _) _,grownCap_le_maxLen w (i + k) cap _ (by unfold maxLen; omega)⟩;have hge:=grownCap_ge w (i + k) cap 89;have hcm : grownCap w (i + k) cap 89 ≤ maxLen:=grownCap_le_maxLen w (i + k) cap _ (by unfold maxLen; omega);have hzl : (tu k).length = k * 2:=by rw [k9]
 have hlen : (xs.take (i * 2) ++ tu k).length = (i + k) * 2:=by rw [ax,hl,hzl,bZ]
 refine ⟨hlen,.inr ⟨w.heap.size,_,_,rfl,ai _,dg w.drew _,hge,hcm,?_,?_⟩⟩
 ·
  have z4 : rB.cells.size = 2:=rfl;simp only [Array.size_append,b8,size_zeroCells,z4,hl,← bZ];rw [show i + k + (grownCap w (i + k) cap 89 - (i + k)) = grownCap w (i + k) cap 89 from by omega]
 simp only [Array.toList_append];rw [kg,← hlen];exact List.take_left
theorem zHj {xs z c : List Value} {n i : Nat} (hi : i ≤ n) (hx : xs.length = n * 2) (hz : z.length = (n + 1 - i) * 2) (hc : c.length = 2) :
  ((xs.take (i * 2) ++ z).take (i * 2) ++ c ++ (xs.take (i * 2) ++ z).drop (i * 2 + 2)).take ((i + 1) * 2) ++ xs.drop (i * 2) ++ ((xs.take (i * 2) ++ z).take (i * 2) ++ c ++ (xs.take (i * 2) ++ z).drop (i * 2 + 2)).drop ((i + 1) * 2 + (n - i) * 2) = xs.take (i * 2) ++ c ++ xs.drop (i * 2):=by
 have hl : (xs.take (i * 2)).length = i * 2:=by rw [ay,hx]; omega
 have e1 : (xs.take (i * 2) ++ z).take (i * 2) = xs.take (i * 2):=cE hl;have e2 : (xs.take (i * 2) ++ z).drop (i * 2 + 2) = z.drop 2:=by rw [← bW,List.drop_left' hl]
 have l2 : (xs.take (i * 2) ++ c).length = (i + 1) * 2:=by rw [ax,hl,hc]; omega
 have e3 : (xs.take (i * 2) ++ c ++ z.drop 2).drop ((i + 1) * 2 + (n - i) * 2) = []:=bY (by rw [ax,l2,aP,hz]; omega);rw [e1,e2,cE l2,e3,bB]
theorem zGG {xs ys c : List Value} {n i : Nat} (hi : i ≤ n) (hx : xs.length = n * 2) (hy : ys.length = 2) :
  ((xs ++ ys).take ((i + 1) * 2) ++ ((xs ++ ys).drop (i * 2)).take ((n - i) * 2) ++ (xs ++ ys).drop ((i + 1) * 2 + (n - i) * 2)).take (i * 2) ++ c ++ ((xs ++ ys).take ((i + 1) * 2) ++ ((xs ++ ys).drop (i * 2)).take ((n - i) * 2) ++ (xs ++ ys).drop ((i + 1) * 2 + (n - i) * 2)).drop (i * 2 + 2) = xs.take (i * 2) ++ c ++ xs.drop (i * 2):=by
 have ld : (xs.drop (i * 2)).length = (n - i) * 2:=by rw [aP,hx]; omega
 have e1 : ((xs ++ ys).drop (i * 2)).take ((n - i) * 2) = xs.drop (i * 2):=by
  rw [List.drop_append_of_le_length (by omega),cE ld]
 have e2 : (xs ++ ys).drop ((i + 1) * 2 + (n - i) * 2) = []:=bY (by rw [ax,hx,hy]; omega);have l3 : ((xs ++ ys).take ((i + 1) * 2)).length = (i + 1) * 2:=by rw [ay,ax,hx,hy]; omega
 rw [e1,e2,bB];have e3 : ((xs ++ ys).take ((i + 1) * 2) ++ xs.drop (i * 2)).take (i * 2) = xs.take (i * 2):=by
  rw [dQ (by omega),dh,bJ (by omega),dQ (by omega)]
 have e4 : ((xs ++ ys).take ((i + 1) * 2) ++ xs.drop (i * 2)).drop (i * 2 + 2) = xs.drop (i * 2):=List.drop_left' (by rw [l3]; omega);rw [e3,e4]
theorem zCX {w : World} {hb g : Nat} {ca cb : Array Value} (hne : hb ≠ g) (ha : w.heap[hb]? = some (.cells ca 89 (0,0))) (hb' : w.heap[g]? = some (.cells cb 89 (0,0))) (hn : cb.size ≠ 0) (off : Nat) :
  ∀ la c lb d,(callFunc 201 #[.slice (some ⟨hb,0,none⟩) la c,.slice (some ⟨g,off,none⟩) lb d]).run Tryz.prog w = .ok (.value (.bool false)) w:=fun la c lb d => by
 rw [run_callFunc_extern Tryz.func201 (by kernel_rfl) (by kernel_rfl) (by kernel_rfl) (e:=Extern.SlicesOverlaps.overlaps #[68,68] #[4]) (by kernel_rfl),
  Lib.run_overlaps_apart w 68 4 89 Tryz.underlying68 2 (wm wI).2 ⟨hb,0,none⟩ ⟨g,off,none⟩ la c lb d hne 89 89 ca.size cb.size (by simp [World.shape?,ha]) (by simp [World.shape?,hb']) hn (by simp [World.frozen?,ha]) (by simp [World.frozen?,ha])]
 rfl
theorem zAl (g n cap k : Nat) (hk : k + 1 ≤ n) (hc : k + 1 < cap) :
  ∀ W kl,(Instr.slice 68 (.slice (some ⟨g,0,none⟩) n cap) (some (.int kl ((k : Int) + 1))) none none).run Tryz.prog W = .ok (.slice (some ⟨g,(k + 1) * 2,none⟩) (n - (k + 1)) (cap - (k + 1))) W:=fun W kl => by
 have:=tS (P:=Tryz.prog) wI g n cap (k + 1) hk hc W kl;rw [cH] at this;exact this
theorem zC7 {w : World} {B g n cap : Nat} {xs : List Value} (h : w.ownsRow B 89 2 (.slice (some ⟨g,0,none⟩) n cap) n xs) (k : Nat) (hk : k ≤ n) (hc : k < cap) :
  Rd w 2 (.slice (some ⟨g,k * 2,none⟩) (n - k) (cap - k)) (n - k) (xs.drop (k * 2)):=by
 have hx:=h.1;have:=Vo (zw h) k n hk (ai _);have hne : cap ≠ k:=by omega
 unfold sliced at this;rw [ah hne] at this;simp only [dE,yT,aJ] at this;rw [aH (by rw [aP,hx,Nat.sub_mul]; omega)] at this;exact this
theorem zEf {w : World} {B g n cap : Nat} {xs : List Value} (h : w.ownsRow B 89 2 (.slice (some ⟨g,0,none⟩) n cap) n xs) : ∃ cur,w.heap[g]? = some (.cells cur 89 (0,0)) ∧ cur.size = cap * 2 ∧ n ≤ cap:=by
 rcases h.2 with ⟨h',_⟩ | ⟨g',c2,cur,h',hb,hg,hnc,hcm,hcs,ji⟩
 ·
  cases h'
 injection h' with h' _ h'';injection h' with h';injection h' with h' _;subst h' h'';exact ⟨cur,hg,hcs,hnc⟩
theorem zH0 (v : Value) (xs c : List Value) (n i hb B : Nat) (w : World) (hown : w.ownsRow B 89 2 v n xs) (hB : B ≤ w.heap.size) (hi : i ≤ n) (hs : n ≤ 1000000) (hone : ∀ u ∈ xs,u.oneCell' = true) (Sb : ∀ u ∈ c,u.oneCell' = true) (Eg : c.length = 2)
  (hh : w.heap[hb]? = some (.cells c.toArray 89 (0,0))) (hne : ∀ k,v.ownBlock = some k → k ≠ hb) :
  Calls Tryz.prog 184 #[v,.int .i64 (i : Int),.slice (some ⟨hb,0,none⟩) 1 1] w fun e w' => ∃ v',e = .returned v' ∧ w'.ownsRow B 89 2 v' (n + 1) (xs.take (i * 2) ++ c ++ xs.drop (i * 2)) ∧ w.grownBy w' v.ownBlock:=by
 have Dk : Rd w 2 (.slice (some ⟨hb,0,none⟩) 1 1) 1 c:=by
  refine ⟨Eg,some ⟨hb,0,none⟩,1,rfl,ai _,by unfold maxLen; omega,fun h => (by cases h),fun _ => ⟨hb,0,rfl,fun j u hj => ?_⟩⟩;have : w.cell? ⟨hb,0 + j,none⟩ = c.toArray[0 + j]?:=by simp [World.cell?,hh]
  rw [this,aJ,List.getElem?_toArray]; exact hj
 have hl:=hown.1;obtain ⟨oa,oc,rfl,ho1,ho2,CL⟩:=zM hown;have hm:=zMS ho1 ho2;have gQ:=zh hown;have Hv:=zh Dk;have Hh:=zh hh;have EP:=zh hone;have ER:=zh Sb;have HL:=zh hl;have EH:=zh Eg;clear hown Dk hh hl Eg CL hone Sb
 by_cases hin : i = n
 ·
  subst hin;obtain ⟨x1,y1,g1,_,_⟩:=vw (P:=Tryz.prog) wI (zw gQ.out) i (ai _);clear hne
  go_enter Tryz.func184,Tryz.ntmps184
  go_wp2_with (at_builtin; go_must (refine zi rfl (.tmp 23) (.tmp 24) 68 rfl wI B rfl gQ.out rfl Hv.out ER.out (by unfold maxLen; omega) (by omega) hB ?_); intro v4 w4 fp gO hv4; clear hv4);go_ret;refine ⟨_,rfl,?_,gO⟩;rw [aH (by rw [HL.out]; omega),bY (by rw [HL.out]; omega),bB];exact fp
 obtain ⟨g,rfl⟩ : ∃ g,oa = some ⟨g,0,none⟩:=by
  rcases gQ.out.2 with ⟨e,h0⟩ | ⟨g,_,_,e,_⟩
  ·
   omega
  injection e with e; exact ⟨g,e⟩
 have QP : g ≠ hb:=hne g rfl;have QQ : ((i : Int) == (n : Int)) = false:=beq_eq_false_iff_ne.2 (by omega);have g1:=tS (P:=Tryz.prog) wI g n oc i hi (by omega);clear hne
 by_cases hr : oc < n + 1
 ·
  obtain ⟨w2,c2,ha,eC,hb2,hc2⟩:=zGL gQ.out i (n + 1 - i) hi (by omega) (by omega) (by omega);have ha : ∀ ty,(Builtin.append_ #[68,3] ty #[.slice (some ⟨g,0,none⟩) i oc,.int .i64 ((n : Int) + 1 - (i : Int))]).run Tryz.prog w = .ok (.slice (some ⟨w.heap.size,0,none⟩) (n + 1) c2) w2:=fun ty => by
   have:=ha ty;rw [show ((n + 1 - i : Nat) : Int) = (n : Int) + 1 - (i : Int) by omega,show i + (n + 1 - i) = n + 1 by omega] at this;exact this
  rw [show i + (n + 1 - i) = n + 1 by omega] at eC;obtain ⟨_,_,_,Nu⟩:=zEf eC;have Jt:=yX (P:=Tryz.prog) wI (a:=some ⟨g,0,none⟩) (n:=n) (cap:=oc) (fun x hx => ⟨g,0,by injection hx with hx; exact hx.symm⟩) i (by omega);have g2:=tS (P:=Tryz.prog) wI w.heap.size (n + 1) c2 i (by omega) (by omega);obtain ⟨w3,Nv,eu,fh⟩:=qU (P:=Tryz.prog) (sT:=68) wI eC (Hv.out.below hb2) i (n + 1 - i) (c2 - i) 1 (by simp [Nat.min_def]; omega) (by decide) (by decide) (by omega) (fun u hu => ER.out u (aY hu));have hb3 : Below w.heap.size w w3:=hb2.grown fh hb2.size (by intro r hr; injection hr with hr; omega);have g3:=zAl w.heap.size (n + 1) c2 i (by omega) (by omega)
  obtain ⟨w4,Nw,fp,gO⟩:=qU (P:=Tryz.prog) (sT:=68) wI eu.drew ((zC7 gQ.out i hi (by omega)).below hb3.drew) (i + 1) (n - i) (c2 - (i + 1)) (n - i) (by simp) (by omega) (by decide) (by omega) (fun u hu => EP.out u (dH (aY hu)));have hb4 : Below w.heap.size w w4:=hb3.drew.grown gO hb3.drew.size (by intro r hr; injection hr with hr; omega);have hgo : ((oc : Int) < (n : Int) + 1):=by omega
  have hw2:=zh (gQ.out.1);have ES:=zh fp;have fZ:=zh hb4;clear hb2 hb3 hb4 eC eu fp fh gO Nu
  go_enter Tryz.func184,Tryz.ntmps184
  go_wp2_with (at_builtin; go_must (refine Lib.wpList_append_run _ rfl (.tmp 34) (.tmp 39) 68 3 rfl _ _ rfl rfl _ _ (ha _) ?_));have j1 : IntKind.i64.wrap ((i : Int) + 1) = (i : Int) + 1:=aF _ (by omega);have j2 : (0 : Int) ≤ (i : Int) + 1:=by omega
  have j3 : (i : Int) + 1 ≤ (n : Int) + 1:=by omega
  have j4 : ((i : Int) + 1).toNat = i + 1:=by omega
  have j5 : (i : Int) ≤ (n : Int):=by omega
  go_region_held3 (fun _ => True) (trivial) (fail)
  go_wp2_with fail;go_ret;refine ⟨_,rfl,?_,zAy fZ.out _⟩;have hRm:=World.ownsRow.mono ES.out hB;refine (aQ (World.ownsRow _ _ _ _ _ _) ?_).mp hRm;have hz : (tu (n + 1 - i)).length = (n + 1 - i) * 2:=k9 _;have hc1 : c.take (1 * 2) = c:=aH (by rw [EH.out]; omega);have hx1 : (xs.drop (i * 2)).take ((n - i) * 2) = xs.drop (i * 2):=aH (by rw [aP,HL.out]; omega);rw [hc1,hx1];exact zHj hi HL.out hz EH.out
 obtain ⟨ys,hy,hown1⟩:=zH6 gQ.out 1 (by omega);have Jt:=yX (P:=Tryz.prog) wI (a:=some ⟨g,0,none⟩) (n:=n) (cap:=oc) (fun x hx => ⟨g,0,by injection hx with hx; exact hx.symm⟩) (n + 1) (by omega);simp only [cH] at Jt;rw [show ((1 : Nat) : Int) = 1 from rfl] at Jt;have g2:=tS (P:=Tryz.prog) wI g (n + 1) oc i (by omega) (by omega);have g3:=zAl g (n + 1) oc i (by omega) (by omega);obtain ⟨cur,hg,hcs,_⟩:=zEf hown1;have Ec:=zCX (aR QP) Hh.out hg (by omega) ((i + 1) * 2)
 obtain ⟨w3,Nv,eu,fh⟩:=qU (P:=Tryz.prog) (sT:=68) wI hown1.drew (zC7 hown1.drew i (by omega) (by omega)) (i + 1) (n - i) (oc - (i + 1)) (n - i) (by simp [Nat.min_def]; omega) (by omega) (by decide) (by omega) (fun u hu => EP.out u (by
  rw [List.drop_append_of_le_length (by rw [HL.out]; omega),cE (by rw [aP,HL.out]; omega)] at hu
  exact dH hu))
 have hv3:=Rd.grown (Hv.out.drew) fh (fun y hy => by injection hy with hy; subst hy; intro e; injection e with e; exact QP e.symm);obtain ⟨w4,Nw,fp,gO⟩:=qU (P:=Tryz.prog) (sT:=68) wI eu hv3 i (n + 1 - i) (oc - i) 1 (by simp [Nat.min_def]; omega) (by decide) (by decide) (by omega) (fun u hu => ER.out u (aY hu));have hb4 : w.grownBy w4 (some g):=zCt (zCt (zEH _ _) fh) gO;have ES:=zh fp;have fZ:=zh hb4;have HY:=zh hy;have hgo : ¬ ((oc : Int) < (n : Int) + 1):=by omega
 have j1 : IntKind.i64.wrap ((i : Int) + 1) = (i : Int) + 1:=aF _ (by omega);have j2 : (0 : Int) ≤ (i : Int) + 1:=by omega
 have j3 : (i : Int) + 1 ≤ (n : Int) + 1:=by omega
 have j4 : ((i : Int) + 1).toNat = i + 1:=by omega
 have j5 : (i : Int) ≤ (n : Int):=by omega
 clear hb4 hown1 eu fp fh gO hv3 hy hcs hg
 go_enter Tryz.func184,Tryz.ntmps184
 go_wp2_with (simp only [Ec]);have j6 : (i : Int) ≤ (n : Int) + 1:=by omega
 go_region_held3 (fun _ => True) (trivial) (fail)
 go_wp2_with fail;go_ret;refine ⟨_,rfl,?_,fZ.out⟩;refine (aQ (World.ownsRow _ _ _ _ _ _) ?_).mp ES.out;have hc1 : c.take (1 * 2) = c:=aH (by rw [EH.out]; omega);rw [hc1];exact zGG hi HL.out (by rw [HY.out])
theorem zGS {ks : List KP} {i : Nat} (hi : i ≤ ks.length) : (ks.flatMap jQ).take (i * 2) = (ks.take i).flatMap jQ ∧ (ks.flatMap jQ).drop (i * 2) = (ks.drop i).flatMap jQ:=by
 have e : ks.flatMap jQ = (ks.take i).flatMap jQ ++ (ks.drop i).flatMap jQ:=by rw [← cC,bN]
 have hl : ((ks.take i).flatMap jQ).length = i * 2:=by rw [yV 2 jQ _ (fun x _ => uS x),ay,bJ hi]
 rw [e];exact ⟨cE hl,List.drop_left' hl⟩
theorem gN.ins {W W' : World} {B : Nat} {v v' : Value} {ks : List KP} (h : gN W B v ks) {i : Nat} (hi : i ≤ ks.length) (num : Int)
  (ho : W'.ownsRow B 89 2 v' (ks.length + 1) ((ks.flatMap jQ).take (i * 2) ++ jQ (num,.slice none 0 0,[]) ++ (ks.flatMap jQ).drop (i * 2))) (hg : W.grownBy W' v.ownBlock) :
  gN W' B v' (ks.take i ++ (num,.slice none 0 0,[]) :: ks.drop i):=by
 have hO:=gM.row h.row hg (ai B);obtain ⟨e1,e2⟩:=zGS hi;have hmem : ∀ p ∈ ks.take i ++ (num,.slice none 0 0,[]) :: ks.drop i,p ∈ ks ∨ p = (num,.slice none 0 0,[]):=fun p hp => by
  rcases List.mem_append.1 hp with hp | hp
  ·
   exact .inl (aY hp)
  rcases List.mem_cons.1 hp with rfl | hp
  ·
   exact .inr rfl
  exact .inl (dH hp)
 refine ⟨?_,fun p hp => ?_,?_⟩
 ·
  have el : (ks.take i ++ (num,.slice none 0 0,[]) :: ks.drop i).length = ks.length + 1:=by
   rw [ax,aW,ay,aP]; omega
  have ef : (ks.take i ++ (num,.slice none 0 0,[]) :: ks.drop i).flatMap jQ = (ks.flatMap jQ).take (i * 2) ++ jQ (num,.slice none 0 0,[]) ++ (ks.flatMap jQ).drop (i * 2):=by
   rw [cC,cN,e1,e2,a_]
  rw [el,ef]; exact ho
 ·
  rcases hmem p hp with hp | rfl
  ·
   exact wL (h.keys p hp) hO (by decide)
  exact aU _ _ _ _
 rw [List.pairwise_append,cR];refine ⟨h.apart.sublist (List.take_sublist _ _),⟨fun y _ => .inl rfl,h.apart.sublist (List.drop_sublist _ _)⟩,fun x hx y hy => ?_⟩;rcases List.mem_cons.1 hy with rfl | hy
 ·
  by_cases e : x.2.1.ownBlock = none
  ·
   exact .inl e
  exact .inr e
 have e : ks = ks.take i ++ ks.drop i:=(bN i ks).symm;have:=h.apart;rw [e,List.pairwise_append] at this;exact this.2.2 x hx y hy
theorem YS {l : List KP} {i : Nat} (h : i < l.length) : l[i] = jg l i:=by
 unfold jg; rw [aw,aB h]; rfl
theorem gN.put {W W1 : World} {B g n cap k : Nat} {ks : List KP} (h : gN W B (.slice (some ⟨g,0,none⟩) n cap) ks) (hk : k < ks.length) {num : Int} (jk : (jg ks k).1 = num) {v2 : Value} {l2 : List Int}
  (ho : W1.ownsRow B 24 1 v2 l2.length (l2.map Pm)) (hg : W.grownBy W1 (jg ks k).2.1.ownBlock) (hat : v2.ownBlock = (jg ks k).2.1.ownBlock ∨ v2.ownBlock = some W.heap.size) :
  gN (W1.setCell ⟨g,k * 2 + 1,none⟩ v2) B (.slice (some ⟨g,0,none⟩) n cap) (ks.set k (num,v2,l2)) ∧ iH W1 (W1.setCell ⟨g,k * 2 + 1,none⟩ v2) B g 89:=by
 have hlen : n = ks.length:=by
  rcases h.row.2 with ⟨e,_⟩ | ⟨_,_,_,e,_⟩
  ·
   cases e
  injection e
 have hO:=gM.row (h.keys _ (UA hk)) hg (ai B);have FL : W1.ownsRow B 89 2 (.slice (some ⟨g,0,none⟩) n cap) ks.length (ks.flatMap jQ):=wL h.row hO (by decide);have hgB : B ≤ g:=(FL.lt g rfl).1;have hty:=Lib.ownsRow_kind FL g rfl;have Oh : iH W1 (W1.setCell ⟨g,k * 2 + 1,none⟩ v2) B g 89:=iH.pts hgB hty [(k * 2 + 1,v2)];refine ⟨⟨?_,fun p hp => ?_,?_⟩,Oh⟩
 ·
  subst hlen;have h1:=(FL.stored (k * 2) (.int .i64 num)).1;have hsame : (ks.flatMap jQ).set (k * 2) (.int .i64 num) = ks.flatMap jQ:=by
   refine List.ext_getElem? fun j => ?_
   rw [dK]
   by_cases e : k * 2 = j
   ·
    subst e;rw [ag rfl];have hl : (ks.flatMap jQ).length = ks.length * 2:=yV 2 jQ _ (fun x _ => uS x);rw [ag (by omega)];have h2:=tV 2 jQ (0,.slice none 0 0,[]) ks (fun x _ => uS x) k 0 hk (by decide);rw [bu] at h2;rw [h2];rw [← jk]
    rfl
   rw [ah e]
  have h3:=(FL.stored (k * 2 + 1) v2).1;have h4:=zDD 2 jQ uS ks k hk (num,v2,l2);have h5 : PN (ks.flatMap jQ) (k * 2) (jQ (num,v2,l2)) = (ks.flatMap jQ).set (k * 2 + 1) v2:=by
   show ((ks.flatMap jQ).set (k * 2) (.int .i64 num)).set (k * 2 + 1) v2 = _
   rw [hsame]
  rw [← h5,h4] at h3;rw [bC];exact h3
 ·
  rcases List.mem_iff_getElem.1 hp with ⟨j,hj,rfl⟩;rw [bC] at hj;rw [List.getElem_set]
  split
  ·
   exact xp ho Oh (by decide)
  rename_i hne;have hap : (ks[j]).2.1.ownBlock = none ∨ (ks[j]).2.1.ownBlock ≠ (jg ks k).2.1.ownBlock:=by
   rw [← YS hk];rcases Nat.lt_or_gt_of_ne hne with h1 | h1
   ·
    rcases List.pairwise_iff_getElem.1 h.apart k j hk hj h1 with h2 | h2
    ·
     by_cases e : (ks[j]).2.1.ownBlock = none
     ·
      exact .inl e
     exact .inr (by rw [h2]; exact e)
    exact .inr h2.symm
   exact List.pairwise_iff_getElem.1 h.apart j k hj hk h1
  exact xp (World.ownsRow.kept (h.keys _ (bM hj)) hg hap) Oh (by decide)
 have hlt : ∀ j (hj : j < ks.length) x,(ks[j]).2.1.ownBlock = some x → x < W.heap.size:=fun j hj x hx => ((h.keys _ (bM hj)).lt x hx).2
 rw [List.pairwise_iff_getElem];intro i j hi hj hij;rw [bC] at hi hj;have hap:=List.pairwise_iff_getElem.1 h.apart i j hi hj hij;rw [List.getElem_set,List.getElem_set]
 split
 ·
  rename_i e1;subst e1
  split
  ·
   omega
  show v2.ownBlock = none ∨ v2.ownBlock ≠ (ks[j]).2.1.ownBlock
  rcases hat with hat | hat
  ·
   rw [hat,← YS hk]; exact hap
  rw [hat];exact .inr fun e => by have:=hlt j hj _ e.symm; omega
 split
 ·
  rename_i e1 e2;subst e2
  show (ks[i]).2.1.ownBlock = none ∨ (ks[i]).2.1.ownBlock ≠ v2.ownBlock
  rcases hat with hat | hat
  ·
   rw [hat,← YS hk]; exact hap
  rw [hat];exact .inr fun e => by have:=hlt i hi _ e; omega
 exact hap
end Go.Proofs.YtcgfilmmokmdjaaGreat
