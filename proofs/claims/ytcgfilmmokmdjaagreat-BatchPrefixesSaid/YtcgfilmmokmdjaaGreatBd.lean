/- A part of the walk. -/
import Derived.Test.YtcgfilmmokmdjaaGreatQAR
import Derived.Test.YtcgfilmmokmdjaaGreatQAM
set_option linter.all false
set_option maxRecDepth 100000
set_option maxHeartbeats 32000000
namespace Go.Proofs.YtcgfilmmokmdjaaGreat
open Go.RowKit
theorem YE (s : eL) (a : Option Addr) (n c : Nat) (L : List GP) (W : World) (hr : fH W (.slice a n c) L) (hg : ea L = s.dW) (hl : fA 1000 s.dW) (key : Int) :
  Calls Tryz.prog 16 #[ze s.id s.lim s.ro a n c,.int .u64 key] W fun e w' => e = .returned (.tuple #[N8 ((zl s key).headD wY),.bool (!(zl s key).isEmpty)]) ∧ Below W.heap.size W w':=by
 have h:=zHV s.id s.lim s.ro a n c L W hr (vI (hg ▸ hl) (by decide)) key;obtain ⟨i,l,r,g⟩:=s;dsimp only at hg h ⊢;subst hg;exact h
theorem zMW (s : eL) (a : Option Addr) (n c : Nat) (L : List GP) (W : World) (hr : fH W (.slice a n c) L) (hg : ea L = s.dW) (hl : fA 1000 s.dW) (m : Int) :
  Calls Tryz.prog 36 #[ze s.id s.lim s.ro a n c,.int .i64 m] W fun e w' => e = .returned (.bool (wl s m)) ∧ Below W.heap.size W w':=by
 have h:=zHo s.id s.lim s.ro a n c L W hr (vI (hg ▸ hl) (by decide)) m;obtain ⟨i,l,r,g⟩:=s;dsimp only at hg h ⊢;subst hg;exact h
theorem zIU (tk kind key ck : Int) (da : Option Addr) (dn dc : Nat) (w : World) (hd : dn ≤ 1000000) : Calls Tryz.prog 108 #[I4 tk kind key ck (.slice da dn dc)] w fun e w' => e = .returned (.int .i64 (if kind = 2 then 24 else (eP dn : Int))) ∧ Below w.heap.size w w':=by
 by_cases hk : kind = 2
 ·
  have e1 : (kind == 2) = true:=by simpa using hk
  have HE:=zh (show (if kind = 2 then (24 : Int) else (eP dn : Int)) = 24 from ag hk);have H0:=zh (fun W => qW 0 W (by decide));generalize (if kind = 2 then (24 : Int) else (eP dn : Int)) = R at *;clear hk;obtain ⟨W,hW⟩ : ∃ W,w.alloc (.cells #[.int .i64 tk,.int .i64 kind,.int .u64 key,.int .u32 ck,.slice da dn dc] 85) = W:=⟨_,rfl⟩
  have HQ:=zh (show dX W w.heap.size #[.int .i64 tk,.int .i64 kind,.int .u64 key,.int .u32 ck,.slice da dn dc] 85 from hW ▸ dX.new w #[.int .i64 tk,.int .i64 kind,.int .u64 key,.int .u32 ck,.slice da dn dc] 85);have hb0:=(aj w.heap.size w).alloc (ai _) (.cells #[.int .i64 tk,.int .i64 kind,.int .u64 key,.int .u32 ck,.slice da dn dc] 85);rw [hW] at hb0;have HB:=zh hb0;clear hb0
  go_enter Tryz.func108,Tryz.ntmps108
  go_upto_region 1 with fail;clear hW;have c1:=HQ.out.cell (i:=1) rfl;have c4:=HQ.out.cell (i:=4) rfl;go_wp2_with fail;refine (H0.out _).mono ?_;rintro e w1 ⟨rfl,rfl⟩;rw [show ((eP 0 : Nat) : Int) = 24 by decide];go_wp2_with fail;go_ret;exact ⟨by rw [HE.out]; rfl,HB.out⟩
 have e1 : (kind == 2) = false:=by simpa using hk
 have HE:=zh (show (if kind = 2 then (24 : Int) else (eP dn : Int)) = (eP dn : Int) from ah hk);have H0:=zh (fun W => qW dn W hd);generalize (if kind = 2 then (24 : Int) else (eP dn : Int)) = R at *;clear hk;obtain ⟨W,hW⟩ : ∃ W,w.alloc (.cells #[.int .i64 tk,.int .i64 kind,.int .u64 key,.int .u32 ck,.slice da dn dc] 85) = W:=⟨_,rfl⟩
 have HQ:=zh (show dX W w.heap.size #[.int .i64 tk,.int .i64 kind,.int .u64 key,.int .u32 ck,.slice da dn dc] 85 from hW ▸ dX.new w #[.int .i64 tk,.int .i64 kind,.int .u64 key,.int .u32 ck,.slice da dn dc] 85);have hb0:=(aj w.heap.size w).alloc (ai _) (.cells #[.int .i64 tk,.int .i64 kind,.int .u64 key,.int .u32 ck,.slice da dn dc] 85);rw [hW] at hb0;have HB:=zh hb0;clear hb0
 go_enter Tryz.func108,Tryz.ntmps108
 go_upto_region 1 with fail;clear hW;have c1:=HQ.out.cell (i:=1) rfl;have c4:=HQ.out.cell (i:=4) rfl;go_wp2_with fail;refine (H0.out _).mono ?_;rintro e w1 ⟨rfl,rfl⟩;go_wp2_with fail;go_ret;exact ⟨by rw [HE.out]; rfl,HB.out⟩
theorem zGI (b : Nat) (t : eL) (ga : Option Addr) (gn gc : Nat) (L : List GP) (eN : Bool) (kv nv rv : Value) (mg : Int) (tk kind key ck : Int) (da : Option Addr) (dn dc : Nat) (w : World) (hb : CG w b t.id t.lim t.ro ga gn gc eN kv nv rv mg) (hg : fH w (.slice ga gn gc) L) (B6 : ea L = t.dW) (hl : fA 1000 t.dW) (hd : dn ≤ 1000000) (q : Rq) (hq : q.data.length = dn) :
  Calls Tryz.prog 144 #[.pointer (some ⟨b,0,none⟩),I4 tk kind key ck (.slice da dn dc)] w fun e w' => e = .returned (.int .i64 (zn t q)) ∧ Below w.heap.size w w':=by
 have Ll:=zh (fun W (hb : Below w.heap.size w W) => zMW t ga gn gc L W (hg.below hb) B6 hl (dn : Int))
 by_cases h1 : 4096 < dn
 ·
  have e1 : (4096 : Int) < (dn : Int):=by omega
  have HE:=zh (show zn t q = 8 by unfold zn; rw [hq,ag h1]);generalize zn t q = R at *;clear hq;obtain ⟨W,hW⟩ : ∃ W,w.alloc (.cells #[.int .i64 tk,.int .i64 kind,.int .u64 key,.int .u32 ck,.slice da dn dc] 85) = W:=⟨_,rfl⟩
  have HQ:=zh (show dX W w.heap.size #[.int .i64 tk,.int .i64 kind,.int .u64 key,.int .u32 ck,.slice da dn dc] 85 from hW ▸ dX.new w #[.int .i64 tk,.int .i64 kind,.int .u64 key,.int .u32 ck,.slice da dn dc] 85);have hb0:=(aj w.heap.size w).alloc (ai _) (.cells #[.int .i64 tk,.int .i64 kind,.int .u64 key,.int .u32 ck,.slice da dn dc] 85);rw [hW] at hb0;have HB:=zh hb0;clear hb0
  go_enter Tryz.func144,Tryz.ntmps144
  go_upto_region 1 with fail;clear hW;have c4:=HQ.out.cell (i:=4) rfl;go_wp2_with fail;go_ret;exact ⟨by rw [HE.out]; rfl,HB.out⟩
 have e1 : ¬ (4096 : Int) < (dn : Int):=by omega
 have HE:=zh (show zn t q = if wl t (dn : Int) = true then 0 else 9 by unfold zn; rw [hq,ah h1]);generalize zn t q = R at *;clear hq;obtain ⟨W,hW⟩ : ∃ W,w.alloc (.cells #[.int .i64 tk,.int .i64 kind,.int .u64 key,.int .u32 ck,.slice da dn dc] 85) = W:=⟨_,rfl⟩
 have HQ:=zh (show dX W w.heap.size #[.int .i64 tk,.int .i64 kind,.int .u64 key,.int .u32 ck,.slice da dn dc] 85 from hW ▸ dX.new w #[.int .i64 tk,.int .i64 kind,.int .u64 key,.int .u32 ck,.slice da dn dc] 85);have hb0:=(aj w.heap.size w).alloc (ai _) (.cells #[.int .i64 tk,.int .i64 kind,.int .u64 key,.int .u32 ck,.slice da dn dc] 85);rw [hW] at hb0;have HB:=zh hb0;have HP:=zh (hb.below hb0);clear hb0 hb
 go_enter Tryz.func144,Tryz.ntmps144
 go_upto_region 1 with fail;clear hW;have c4:=HQ.out.cell (i:=4) rfl;go_upto_region 3 with fail;have E6:=zh (HQ.out.below (zy (aj _ W)));have MC:=zh (HP.out.below (zy (aj _ W)));have HBd:=zh (zy HB.out);have c4':=E6.out.cell (i:=4) rfl;have p0:=MC.out.cell (i:=0) rfl;have p1:=MC.out.cell (i:=1) rfl;have p2:=MC.out.cell (i:=2) rfl;have p3:=MC.out.cell (i:=3) rfl;clear c4;refine wp_region_still_tail 7 (by kernel_rfl) (by kernel_rfl) ?_;simp only [List.take_succ_cons,List.take_zero,List.drop_succ_cons,List.drop_zero];change wpStill Tryz.prog _ (World.drew _) _ _ _
 repeat still_step
 refine wpStill_nil ?_;change wpList _ _ _ _ _ (World.drew _);generalize World.drew W = W1 at *;go_wp2_with fail;refine (Ll.out W1 HBd.out).mono ?_;rintro e w1 ⟨rfl,hb⟩;have ey:=zh (zA HBd.out hb);clear hb p0 p1 p2 p3 c4' Ll E6 MC
 cases hf : wl t (dn : Int)
 ·
  rw [hf] at HE;clear hf;go_wp2_with fail;go_ret;exact ⟨by rw [HE.out]; rfl,ey.out⟩
 rw [hf] at HE;clear hf;go_wp2_with fail;go_ret;exact ⟨by rw [HE.out]; rfl,ey.out⟩
def zMl (t : TypeId) (B : Nat) : pY:=⟨fun v w => ∃ b,v = .pointer (some ⟨b,0,none⟩) ∧ B ≤ b ∧ dX w b #[.int .i64 0,.int .i64 0,.int .i64 0,.int .u64 0,.int .u32 0,.int .i64 0,.int .i64 0] t,fun _ _ _ hb ⟨b,h1,h2,h3⟩ => ⟨b,h1,h2,h3.below hb⟩⟩
theorem zFd (b : Nat) (t : eL) (ga : Option Addr) (gn gc : Nat) (L : List GP) (eN : Bool) (kv nv rv : Value) (mg : Int) (tk kind key ck : Int) (da : Option Addr) (dn dc : Nat) (w : World) (hb : CG w b t.id t.lim t.ro ga gn gc eN kv nv rv mg) (hg : fH w (.slice ga gn gc) L) (B6 : ea L = t.dW) (hl : fA 1000 t.dW) (q : Rq) (hk : (q.key : Int) = key) (hc : (q.ck : Int) = ck) :
  Calls Tryz.prog 149 #[.pointer (some ⟨b,0,none⟩),I4 tk kind key ck (.slice da dn dc)] w fun e w' => e = .returned (.int .i64 (xS t q)) ∧ Below w.heap.size w w':=by
 have C4:=zh (fun W (hb : Below w.heap.size w W) => YE t ga gn gc L W (hg.below hb) B6 hl key);have HE:=zh (show xS t q = if (zl t key).isEmpty = false ∧ ((zl t key).headD wY).it.ck = ck then 0 else 6 by unfold xS; rw [hk,hc]);generalize xS t q = R at *;generalize (zl t key).headD wY = Y at *;obtain ⟨fo,hfo⟩ : ∃ fo,(!(zl t key).isEmpty) = fo:=⟨_,rfl⟩
 rw [hfo] at C4;have KH:=zh (show R = if fo = true ∧ Y.it.ck = ck then 0 else 6 by rw [HE.out,← hfo]; simp);clear hfo HE hk hc;obtain ⟨yg,ym,yr,⟨yk,yc,yo,yz⟩,ya⟩:=Y;dsimp only [N8,Rz] at C4 KH;obtain ⟨W,hW⟩ : ∃ W,w.alloc (.cells #[.int .i64 tk,.int .i64 kind,.int .u64 key,.int .u32 ck,.slice da dn dc] 85) = W:=⟨_,rfl⟩
 have HQ:=zh (show dX W w.heap.size #[.int .i64 tk,.int .i64 kind,.int .u64 key,.int .u32 ck,.slice da dn dc] 85 from hW ▸ dX.new w #[.int .i64 tk,.int .i64 kind,.int .u64 key,.int .u32 ck,.slice da dn dc] 85);have hb0:=(aj w.heap.size w).alloc (ai _) (.cells #[.int .i64 tk,.int .i64 kind,.int .u64 key,.int .u32 ck,.slice da dn dc] 85);rw [hW] at hb0;have HB:=zh hb0;have HP:=zh (hb.below hb0);clear hb0 hb hg B6 hl
 go_enter Tryz.func149,Tryz.ntmps149
 go_upto_region 1 with fail;clear hW
 go_cut [5,6] (fun vb ve wx => ∃ b,vb = .pointer (some ⟨b,0,none⟩) ∧ ve = .bool fo ∧ Hid (dX wx b ([(0,.int .i64 yg),(1,.int .i64 ym),(2,.int .i64 yr),(3,.int .u64 yk),(4,.int .u32 yc),(5,.int .i64 yo),(6,.int .i64 yz)].foldl (fun cs p => cs.setIfInBounds p.1 p.2) #[.int .i64 0,.int .i64 0,.int .i64 0,.int .u64 0,.int .u32 0,.int .i64 0,.int .i64 0]) 51) ∧ Hid (Below W.heap.size W wx))
 case first =>
  refine yh [eX (.pointer (some ⟨b,0,none⟩)),eX (.pointer (some ⟨b,0,none⟩)),eX (.pointer (some ⟨b,0,none⟩)),eX (ze t.id t.lim t.ro ga gn gc),eX (.pointer (some ⟨w.heap.size,2,none⟩)),eX (.int .u64 key),eX (.tuple #[.agg #[.int .i64 yg,.int .i64 ym,.int .i64 yr,.int .u64 yk,.int .u32 yc,.int .i64 yo,.int .i64 yz],.bool fo]),eX (.tuple #[.agg #[.int .i64 yg,.int .i64 ym,.int .i64 yr,.int .u64 yk,.int .u32 yc,.int .i64 yo,.int .i64 yz],.bool fo]),eX (.agg #[.int .i64 yg,.int .i64 ym,.int .i64 yr,.int .u64 yk,.int .u32 yc,.int .i64 yo,.int .i64 yz]),eX (.bool fo),zMl 51 W.heap.size] [10] 27 9 (by kernel_rfl) (by kernel_rfl) rfl rfl (by decide) (by rfl) (by kernel_rfl) (fun f => by simp [fD,zW,Act.put]; exact rfl) ?_ ?_ ?_
  ·
   refine ⟨?_,?_,?_,?_,?_,?_,?_,?_,?_,?_,?_,trivial⟩
   ·
    intro f w1 hb hd;clear hd;dsimp only;go_wp2_with fail;exact pS rfl (by simp)
   ·
    intro f w1 hb hd;have d0 : f 0 = (.pointer (some ⟨b,0,none⟩)):=hd 0 (by kernel_rfl);clear hd;dsimp only;rw [d0];go_wp2_with fail;exact pS rfl (by simp)
   ·
    intro f w1 hb hd;have d1 : f 1 = (.pointer (some ⟨b,0,none⟩)):=hd 1 (by kernel_rfl);clear hd;dsimp only;rw [d1];go_wp2_with fail;exact pS rfl (by simp)
   ·
    intro f w1 hb hd;have d2 : f 2 = (.pointer (some ⟨b,0,none⟩)):=hd 2 (by kernel_rfl);clear hd;dsimp only;rw [d2];have hx:=HP.out.below hb;have q0:=hx.cell (i:=0) rfl;have q1:=hx.cell (i:=1) rfl;have q2:=hx.cell (i:=2) rfl;have q3:=hx.cell (i:=3) rfl;clear hx;go_wp2_with fail;exact pS rfl (by simp)
   ·
    intro f w1 hb hd;clear hd;dsimp only;go_wp2_with fail;exact pS rfl (by simp)
   ·
    intro f w1 hb hd;have d4 : f 4 = (.pointer (some ⟨w.heap.size,2,none⟩)):=hd 4 (by kernel_rfl);clear hd;dsimp only;rw [d4];have q2:=(HQ.out.below hb).cell (i:=2) rfl;go_wp2_with fail;exact pS rfl (by simp)
   ·
    intro f w1 hb hd;have d3 : f 3 = (ze t.id t.lim t.ro ga gn gc):=hd 3 (by kernel_rfl);have d5 : f 5 = (.int .u64 key):=hd 5 (by kernel_rfl);clear hd;dsimp only;rw [d3];rw [d5];go_wp2_with fail;refine (C4.out w1 (zA HB.out hb)).mono ?_;rintro e w9 ⟨rfl,gL⟩;go_wp2_with fail;exact pT rfl (by simp) gL
   ·
    intro f w1 hb hd;have d6 : f 6 = (.tuple #[.agg #[.int .i64 yg,.int .i64 ym,.int .i64 yr,.int .u64 yk,.int .u32 yc,.int .i64 yo,.int .i64 yz],.bool fo]):=hd 6 (by kernel_rfl);clear hd;dsimp only;rw [d6];go_wp2_with fail;exact pS rfl (by simp)
   ·
    intro f w1 hb hd;have d7 : f 7 = (.tuple #[.agg #[.int .i64 yg,.int .i64 ym,.int .i64 yr,.int .u64 yk,.int .u32 yc,.int .i64 yo,.int .i64 yz],.bool fo]):=hd 7 (by kernel_rfl);clear hd;dsimp only;rw [d7];go_wp2_with fail;exact pS rfl (by simp)
   ·
    intro f w1 hb hd;have d7 : f 7 = (.tuple #[.agg #[.int .i64 yg,.int .i64 ym,.int .i64 yr,.int .u64 yk,.int .u32 yc,.int .i64 yo,.int .i64 yz],.bool fo]):=hd 7 (by kernel_rfl);clear hd;dsimp only;rw [d7];go_wp2_with fail;exact pS rfl (by simp)
   intro f w1 hb hd;clear hd;dsimp only;have Cm:=hb.size;have I5:=dX.new w1 #[.int .i64 0,.int .i64 0,.int .i64 0,.int .u64 0,.int .u32 0,.int .i64 0,.int .i64 0] 51;go_wp2_with fail;exact ⟨rfl,(aj _ _).alloc (ai _) _,fun t ht => by injection ht with ht; subst ht; exact ⟨⟨_,rfl,Cm,I5⟩,fun _ => ⟨ai _,by simp [blk]⟩⟩⟩
  ·
   intro f w5 hb hd iD;clear iD;have d8 : f 8 = (.agg #[.int .i64 yg,.int .i64 ym,.int .i64 yr,.int .u64 yk,.int .u32 yc,.int .i64 yo,.int .i64 yz]):=hd 8 (show 8 < 11 by decide);have d9 : f 9 = (.bool fo):=hd 9 (show 9 < 11 by decide);obtain ⟨R1,d10,Oe,iI⟩:=show ∃ b,f 10 = .pointer (some ⟨b,0,none⟩) ∧ W.heap.size ≤ b ∧ dX w5 b #[.int .i64 0,.int .i64 0,.int .i64 0,.int .u64 0,.int .u32 0,.int .i64 0,.int .i64 0] 51 from hd 10 (show 10 < 11 by decide)
   try dsimp only
   rw [d8,d9,d10];clear hd d8 d9 d10;have fK:=zh (zD (B:=W.heap.size) (b:=R1) Oe [(0,.int .i64 yg),(1,.int .i64 ym),(2,.int .i64 yr),(3,.int .u64 yk),(4,.int .u32 yc),(5,.int .i64 yo),(6,.int .i64 yz)] hb);have HX:=zh (dX.sets [(0,.int .i64 yg),(1,.int .i64 ym),(2,.int .i64 yr),(3,.int .u64 yk),(4,.int .u32 yc),(5,.int .i64 yo),(6,.int .i64 yz)] iI);have H0:=zh iI;have x0:=iI.cell (i:=0) rfl;have x1:=iI.cell (i:=1) rfl;have x2:=iI.cell (i:=2) rfl;have x3:=iI.cell (i:=3) rfl;have x4:=iI.cell (i:=4) rfl;have x5:=iI.cell (i:=5) rfl;have x6:=iI.cell (i:=6) rfl;have xf:=iI.frozen;clear iI hb;generalize f 0 = D3,f 1 = Dy,f 2 = Dz,f 3 = DC,f 4 = DF,f 5 = DG,f 6 = E7,f 7 = Ii;clear f;change wpList _ _ _ (_ :: _ :: []) _ _;go_wp2_with fail;go_meet
   case rel => exact ⟨R1,rfl,rfl,HX,fK⟩
  intro f w5 hb hd iD;clear iD;have d7 : f 7 = (.tuple #[.agg #[.int .i64 yg,.int .i64 ym,.int .i64 yr,.int .u64 yk,.int .u32 yc,.int .i64 yo,.int .i64 yz],.bool fo]):=hd 7 (show 7 < 11 by decide) (show 7 ≠ 9 by decide);have d8 : f 8 = (.agg #[.int .i64 yg,.int .i64 ym,.int .i64 yr,.int .u64 yk,.int .u32 yc,.int .i64 yo,.int .i64 yz]):=hd 8 (show 8 < 11 by decide) (show 8 ≠ 9 by decide);obtain ⟨R1,d10,Oe,iI⟩:=show ∃ b,f 10 = .pointer (some ⟨b,0,none⟩) ∧ W.heap.size ≤ b ∧ dX w5 b #[.int .i64 0,.int .i64 0,.int .i64 0,.int .u64 0,.int .u32 0,.int .i64 0,.int .i64 0] 51 from hd 10 (show 10 < 11 by decide) (show 10 ≠ 9 by decide)
  try dsimp only
  rw [d7,d8,d10];clear hd d7 d8 d10;have fK:=zh (zD (B:=W.heap.size) (b:=R1) Oe [(0,.int .i64 yg),(1,.int .i64 ym),(2,.int .i64 yr),(3,.int .u64 yk),(4,.int .u32 yc),(5,.int .i64 yo),(6,.int .i64 yz)] hb);have HX:=zh (dX.sets [(0,.int .i64 yg),(1,.int .i64 ym),(2,.int .i64 yr),(3,.int .u64 yk),(4,.int .u32 yc),(5,.int .i64 yo),(6,.int .i64 yz)] iI);have H0:=zh iI;have x0:=iI.cell (i:=0) rfl;have x1:=iI.cell (i:=1) rfl;have x2:=iI.cell (i:=2) rfl;have x3:=iI.cell (i:=3) rfl;have x4:=iI.cell (i:=4) rfl;have x5:=iI.cell (i:=5) rfl;have x6:=iI.cell (i:=6) rfl;have xf:=iI.frozen;clear iI hb;generalize f 0 = D3,f 1 = Dy,f 2 = Dz,f 3 = DC,f 4 = DF,f 5 = DG,f 6 = E7,f 9 = KI;clear f;change wpList _ _ _ (_ :: _ :: _ :: []) _ _;go_wp2_with fail;go_meet
  case rel => exact ⟨R1,rfl,rfl,HX,fK⟩
 obtain ⟨bx,rfl,rfl,HX,fK⟩:=hcut;generalize wc = W2 at *;have x4:=HX.out.cell (i:=4) (u:=.int .u32 yc) (by simp);have c3:=(HQ.out.below fK.out).cell (i:=3) rfl;have ey:=zh (zA HB.out fK.out);clear HX fK HQ HP HB C4
 cases fo with
 | false =>
  have HR:=zh (show R = 6 by rw [KH.out]; exact ah fun h => by cases h.1);go_wp2_with fail;go_ret;exact ⟨by rw [HR.out]; rfl,ey.out⟩
 | true =>
  by_cases hcc : yc = ck
  ·
   have HR:=zh (show R = 0 by rw [KH.out]; exact ag ⟨rfl,hcc⟩);subst hcc;go_wp2_with fail;go_ret;exact ⟨by rw [HR.out]; rfl,ey.out⟩
  have HR:=zh (show R = 6 by rw [KH.out]; exact ah fun h => hcc h.2);have e1 : (yc != ck) = true:=by simpa using hcc
  clear hcc;go_wp2_with fail;go_ret;exact ⟨by rw [HR.out]; rfl,ey.out⟩
theorem zEt (b : Nat) (t : eL) (ga : Option Addr) (gn gc : Nat) (L : List GP) (eN : Bool) (kv nv rv : Value) (mg : Int) (key : Int) (w : World) (hb : CG w b t.id t.lim t.ro ga gn gc eN kv nv rv mg) (hg : fH w (.slice ga gn gc) L) (B6 : ea L = t.dW) (hl : fA 1000 t.dW) :
  Calls Tryz.prog 151 #[.pointer (some ⟨b,0,none⟩),.int .u64 key] w fun e w' => e = .returned (.bool (wT t key)) ∧ Below w.heap.size w w':=by
 have C4:=zh (YE t ga gn gc L w hg B6 hl key);have HE:=zh (show wT t key = (!(zl t key).isEmpty && decide (((zl t key).headD wY).mode = 1)) from rfl);generalize wT t key = R at *;generalize (zl t key).headD wY = Y at *;generalize (!(zl t key).isEmpty) = fo at *;obtain ⟨yg,ym,yr,⟨yk,yc,yo,yz⟩,ya⟩:=Y;dsimp only [N8,Rz] at C4 HE;have p0:=hb.cell (i:=0) rfl;have p1:=hb.cell (i:=1) rfl;have p2:=hb.cell (i:=2) rfl;have p3:=hb.cell (i:=3) rfl;clear hb hg B6 hl
 go_enter Tryz.func151,Tryz.ntmps151
 go_wp2_with fail;refine C4.out.mono ?_;rintro e w1 ⟨rfl,hb⟩;have HB:=zh hb;clear hb C4 p0 p1 p2 p3;go_upto_region 2 with fail;change Code.wp _ _ _ _ (w1.alloc (.cells #[.int .i64 yg,.int .i64 ym,.int .i64 yr,.int .u64 yk,.int .u32 yc,.int .i64 yo,.int .i64 yz] 51));have HX:=zh (dX.new w1 #[.int .i64 yg,.int .i64 ym,.int .i64 yr,.int .u64 yk,.int .u32 yc,.int .i64 yo,.int .i64 yz] 51);replace HB:=zh (zA HB.out ((aj w1.heap.size w1).alloc (ai _) (.cells #[.int .i64 yg,.int .i64 ym,.int .i64 yr,.int .u64 yk,.int .u32 yc,.int .i64 yo,.int .i64 yz] 51)));generalize w1.alloc (.cells #[.int .i64 yg,.int .i64 ym,.int .i64 yr,.int .u64 yk,.int .u32 yc,.int .i64 yo,.int .i64 yz] 51) = w2 at *;generalize w1.heap.size = bx at *;have x1:=HX.out.cell (i:=1) rfl
 cases fo with
 | false =>
  have HR:=zh (show R = false by rw [HE.out]; rfl);go_wp2_with fail;go_ret;exact ⟨by rw [HR.out]; rfl,HB.out⟩
 | true =>
  by_cases hm : ym = 1
  ·
   have HR:=zh (show R = true by rw [HE.out,hm]; rfl);subst hm;go_wp2_with fail;go_ret;exact ⟨by rw [HR.out]; rfl,HB.out⟩
  have HR:=zh (show R = false by rw [HE.out]; simpa using hm);have e1 : (ym == 1) = false:=by simpa using hm
  clear hm;go_wp2_with fail;go_ret;exact ⟨by rw [HR.out]; rfl,HB.out⟩
end Go.Proofs.YtcgfilmmokmdjaaGreat
