/- A part of the walk. -/
import Derived.Test.YtcgfilmmokmdjaaGreatHd
import Derived.Test.YtcgfilmmokmdjaaGreatQAG
import Derived.Test.YtcgfilmmokmdjaaGreatMp
set_option linter.all false
set_option maxRecDepth 100000
set_option maxHeartbeats 32000000
namespace Go.Proofs.YtcgfilmmokmdjaaGreat
open Go.RowKit
theorem zGT (l r : List Nd) : fU (l ++ r) = fU l + fU r:=by
 induction l with
 | nil => simp [fU]
 | cons x l ih => rw [List.cons_append,wi,wi,ih,cM]
theorem zJj (l : List Nd) (k : Nat) : fU (l.take k) ≤ fU l:=by
 have h:=zGT (l.take k) (l.drop k);rw [bN] at h;omega
theorem zCf (x : Nd) (a : Option Addr) (cap : Nat) (w : World) : Calls Tryz.prog 52 #[Xi x (.slice a x.data.length cap)] w fun e w' => e = .returned (.bool (decide x.ok)) ∧ Below w.heap.size w w':=by
 obtain ⟨k,c,d,l⟩:=x;dsimp only;have HB:=zh (show Below w.heap.size w (w.alloc (.cells #[.int .u64 (k : Int),.int .u32 (c : Int),.bool d,.slice a l.length cap] 56)) from (aj _ _).alloc (ai _) _)
 have HO:=zh (show decide (Nd.ok ⟨k,c,d,l⟩) = (decide ((l.length : Int) ≤ 4096) && !(d && decide (0 < (l.length : Int)))) by
  unfold Nd.ok
  dsimp only
  have e : (l = []) ↔ ¬ 0 < l.length:=by rw [← List.length_eq_zero_iff]; omega
  cases d
  ·
   simp only [Bool.false_and,Bool.not_false,Bool.and_true,reduceCtorEq,false_imp_iff,and_true]
   exact decide_eq_decide.2 (by omega)
  simp only [cT,forall_const,e]
  rw [dA,aS,aO,aS,Bool.not_eq_true',decide_eq_false_iff_not]
  omega)
 generalize decide (Nd.ok ⟨k,c,d,l⟩) = ob at *;generalize l.length = n at *
 go_enter Tryz.func52,Tryz.ntmps52
 by_cases h1 : (n : Int) ≤ 4096
 ·
  have d1 : decide ((n : Int) ≤ 4096) = true:=aD h1
  cases d
  ·
   go_wp2_with fail;go_ret;exact ⟨zH (by rw [HO.out,d1]; rfl),HB.out⟩
  by_cases h2 : 0 < (n : Int)
  ·
   have d2 : decide (0 < (n : Int)) = true:=aD h2;go_wp2_with fail;go_ret;have h3 : 0 < n:=by omega
   exact ⟨zH (by rw [HO.out,d1,d2]; simp [h3]),HB.out⟩
  have d2 : decide (0 < (n : Int)) = false:=aC h2;go_wp2_with fail;go_ret;have h3 : ¬ 0 < n:=by omega
  exact ⟨zH (by rw [HO.out,d1,d2]; simp [h3]),HB.out⟩
 have d1 : decide ((n : Int) ≤ 4096) = false:=aC h1;go_wp2_with fail;go_ret;exact ⟨zH (by rw [HO.out,d1]; rfl),HB.out⟩
theorem zKB (x : Nd) (a : Option Addr) (cap : Nat) (w : World) : Calls Tryz.prog 51 #[Xi x (.slice a x.data.length cap)] w fun e w' => e = .returned (.bool (!decide x.ok)) ∧ Below w.heap.size w w':=by
 have HV:=zh (fun W => zCf x a cap W);obtain ⟨W0,hW0⟩ : ∃ W0,w.alloc (.cells (Q7 x (.slice a x.data.length cap)) 56) = W0:=⟨_,rfl⟩
 have lN:=Xk w x (.slice a x.data.length cap);have Ch:=EU.new w x (.slice a x.data.length cap);rw [hW0] at lN Ch;have HD:=zh Ch;have HB:=zh lN;clear lN Ch;generalize decide x.ok = ob at *;generalize x.data.length = m at *
 go_enter Tryz.func51,Tryz.ntmps51
 go_upto_region 1 with fail;clear hW0;obtain ⟨d0,d1,d2,d3⟩:=HD.out.q;go_wp2_with fail;refine (HV.out _).mono ?_;rintro e w1 ⟨rfl,hb⟩;have eW:=zh (zA HB.out hb);clear hb;go_wp2_with fail;go_ret;exact ⟨rfl,eW.out⟩
theorem zJk (v : Value) (es : List (Nd × Value)) (w : World) (h : mr w v es) :
  Calls Tryz.prog 90 #[v,.func (.func 51) #[] #[]] w fun e w' => (∃ k : Int,e = .returned (.int .i64 k) ∧ decide (0 ≤ k) = !IU (es.map (·.1))) ∧ Below w.heap.size w w':=by
 obtain ⟨a,cap,rfl,h1,h2⟩:=h.shape
 have HT:=zh (show (∀ j,j < es.length → decide (xW es j).1.ok = true) → IU (es.map (·.1)) = true from fun hh => (tx _).2 (fun x hx => by
  obtain ⟨p,hp,rfl⟩:=List.mem_map.1 hx
  obtain ⟨j,hj,rfl⟩:=b7 hp
  have:=aX (hh j hj)
  unfold xW at this
  rw [aw,aB hj] at this
  exact this))
 have HF:=zh (show ∀ j,j < es.length → decide (xW es j).1.ok = false → IU (es.map (·.1)) = false from fun j hj hf => by
  rw [Bool.eq_false_iff]
  intro ht
  exact cD hf ((tx _).1 ht _ (cU (uk hj))))
 have hm:=IC h1 h2;generalize hn : es.length = n at *;have Hr:=zh h;clear h h1 h2 hn
 go_enter Tryz.func90,Tryz.ntmps90
 go_wp2_with fail
 go_loopw [8] (fun i wr => ∃ k : Nat,k ≤ n ∧ i = .int .i64 (k : Int) ∧ (∀ j,j < k → decide (xW es j).1.ok = true) ∧ Below w.heap.size w wr) (fun i _ => n - (intOf i).toNat)
 case atStart => exact ⟨0,aq _,rfl,fun j hj => absurd hj (by omega),aj _ _⟩
 obtain ⟨k,hk,rfl,hok,hb⟩:=hrel;have mj:=zh hok;have Hb:=zh hb;have hB:=hb.size;clear hok hb
 by_cases hlt : k < n
 ·
  have hr:=Hr.out.below Hb.out;obtain ⟨b,off,rfl,iE,c0,c1,c2,c3⟩:=hr.at hlt;have Ee:=zh (HF.out k hlt)
  have Ej:=zh (show decide (xW es k).1.ok = true → ∀ j,j < k + 1 → decide (xW es j).1.ok = true from fun ho j hj => by
   by_cases e : j = k
   ·
    subst e; exact ho
   exact mj.out j (by omega))
  generalize xW es k = X at c0 c1 c2 c3 iE Ee Ej;obtain ⟨x,xv⟩:=X;dsimp only at c0 c1 c2 c3 iE Ee Ej;obtain ⟨xa,xc,rfl,hx1,hx2⟩:=iE.gl;have HV:=zh fun w => zKB x xa xc w
  clear iE;generalize x.data.length = xm at *;generalize decide x.ok = ob at *;clear hr;go_wp2_with fail;refine (HV.out _).mono ?_; rintro e w1 ⟨rfl,hb1⟩;have lX:=zh (zA Hb.out hb1)
  cases ob
  ·
   clear hb1;go_wp2_with fail;go_ret;refine ⟨⟨k,rfl,?_⟩,lX.out⟩;rw [Ee.out (by trivial)]; simp
  clear hb1;go_wp2_with fail;exact ⟨⟨k + 1,by omega,by go_num,Ej.out (by trivial),lX.out⟩,by simp [intOf]; omega⟩
 obtain rfl : k = n:=by omega
 go_wp2_with fail;go_ret;refine ⟨⟨-1,rfl,?_⟩,Hb.out⟩;rw [HT.out mj.out]; rfl
theorem zHh (v : Value) (es : List (Nd × Value)) (w : World) (h : mr w v es) :
  Calls Tryz.prog 50 #[v,.func (.func 51) #[] #[]] w fun e w' => e = .returned (.bool (!IU (es.map (·.1)))) ∧ Below w.heap.size w w':=by
 have HA:=zh (zJk v es w h);obtain ⟨a,cap,rfl,h1,h2⟩:=h.shape;clear h h1 h2
 go_enter Tryz.func50,Tryz.ntmps50
 go_wp2_with fail;refine HA.out.mono ?_; rintro e w1 ⟨⟨k,rfl,hk⟩,hb1⟩;have Hk:=zh hk;have lX:=zh hb1;clear hk hb1;go_wp2_with fail;go_ret;exact ⟨zH Hk.out,lX.out⟩
theorem zHK (g : Gn) (s : Sl) (v : Value) (es : List (Nd × Value)) (K : Nat) (w : World) (h : fq w s g.m.st) (hs : ∀ i,i < 8 → (g.m.st i).length ≤ K) (hr : mr w v es) (hK : K + es.length ≤ 9000) :
  Calls Tryz.prog 12 #[zV g.num g.rev g.mode g.size s g.m.live g.m.dZ,v] w (Kv w (xQ g (es.map (·.1)))):=by
 obtain ⟨va,vc,rfl,Dk,hv2⟩:=hr.shape;have H4 : ∀ i,i < 8 → (g.m.st i).length ≤ 10000:=fun i hi => ak (hs i hi) (by omega)
 have HV:=zh (fun W (hb : Below w.heap.size w W) => uF g s W (h.below hb) H4);have HCf:=zh (fun W (hb : Below w.heap.size w W) => zHh _ es W (hr.below hb));have iQ:=zh hr;have NU:=zh h;have lz:=zh (show ∀ W,eZ W w.heap.size Sl.nil gY.m.st from fun W => eZ.nil W _);have HG:=zh (show xQ g (es.map (·.1)) = if wM g = true ∧ IU (es.map (·.1)) = true then (if g.mode = 1 then (if g.size + (fU (es.map (·.1)) : Int) ≤ 1048576 then (0,zX g (es.map (·.1))) else (9,gY)) else (12,gY)) else (1,gY) from rfl);have iW:=zh (show wM g = true → 16 ≤ g.size ∧ g.size ≤ 1048576 from fun hv => ⟨((yF g).1 hv).size.1,((yF g).1 hv).size.2.1⟩);have iL:=zh (fun i (hi : i ≤ es.length) => xg ((es.map (·.1)).take i) g hs);have NV:=zh (fun i (hi : i < es.length) => @zB8 es i hi);have Bg:=zh (show ∀ i,fU ((es.map (·.1)).take i) ≤ fU (es.map (·.1)) from fun i => zJj _ i)
 have lW:=zh (show (es.map (·.1)).take es.length = es.map (·.1) from aH (by rw [aI]; omega));have C_:=zh (show IU (es.map (·.1)) = true → ∀ i,i < es.length → (xW es i).1.ok from fun hh i hi => (tx _).1 hh _ (cU (uk hi)));clear hr h hs H4;generalize hN : es.map (·.1) = N at *;generalize hnn : es.length = n at *;have Xz:=zh hnn;clear hnn hN;obtain ⟨gn,rv,md,z,⟨f,L,G⟩⟩:=g;generalize B6 : (⟨gn,rv,md,z,⟨f,L,G⟩⟩ : Gn) = g at *;have XA:=zh B6;obtain ⟨W,hW,fF,hbr,fP⟩:=vE w gn rv md z s L G 38;have HX:=zh fF;have HR:=zh hbr;have HB:=zh fP;clear fF hbr fP;generalize xQ g N = TG at *;generalize wM g = vb at *;generalize IU N = ob at *;subst B6;dsimp only at *
 go_enter Tryz.func12,Tryz.ntmps12
 go_upto_region 1 with fail;change Code.wp _ _ _ _ ((w.alloc (.cells (zQ gn rv md z s L G) 38)).alloc (.cells (zQ 0 0 0 0 Sl.nil 0 0) 38));rw [hW];clear hW;obtain ⟨x0,x1,x2,x3,x4,x5,x6,x7,x8,x9,fS,fT,fQ,fR⟩:=HX.out.q;go_wp2_with fail;refine (HV.out _ HB.out).mono ?_;rintro e w1 ⟨rfl,hb1⟩;have fC:=zh (HX.out.below hb1);have eY:=zh (HR.out.below hb1);have eW:=zh (zA HB.out hb1);have hlr : w.heap.size + 1 < W.heap.size:=HR.out.lt;clear x0 x1 x2 x3 x4 x5 x6 x7 x8 x9 fS fT fQ fR;clear hb1 HX HR HB HV
 cases vb
 ·
  have iP:=zh (show TG = (1,gY) by rw [HG.out,ah (fun h => by cases h.1)]);obtain ⟨r0,r1,r2,r3,r4,r5,r6,r7,r8,r9,jU,lM,mI,Ba⟩:=eY.out.q;have rf:=eY.out.f;go_wp2_with fail;change bodyPost _ _ _ _ _ (pts w1 (w.heap.size + 1) (zJ 0 0 0 0 Sl.nil 0 0));have hby:=eY.out.all 0 0 0 0 Sl.nil 0 0;have ey:=zh (zD (B:=w.heap.size) (b:=(w.heap.size + 1)) (by omega) (zJ 0 0 0 0 Sl.nil 0 0) eW.out);have gJ:=lz.out (pts w1 (w.heap.size + 1) (zJ 0 0 0 0 Sl.nil 0 0));rw [iP.out];generalize pts w1 (w.heap.size + 1) (zJ 0 0 0 0 Sl.nil 0 0) = V at *;exact au (v:=.tuple #[zV 0 0 0 0 Sl.nil 0 0,.int .i64 1]) (by simp [results,Tryz.results12,go_sem,hby.q]) rfl ⟨⟨_,rfl,gJ⟩,ey.out⟩
 obtain ⟨hz1,hz2⟩:=iW.out rfl;go_wp2_with fail;refine (HCf.out _ eW.out).mono ?_;rintro e w2 ⟨rfl,hb2⟩;have gm:=zh (fC.out.below hb2);have gj:=zh (eY.out.below hb2);have eV:=zh (zA eW.out hb2);clear hb2 fC eY eW HCf
 cases ob
 ·
  have iP:=zh (show TG = (1,gY) by rw [HG.out,ah (fun h => by cases h.2)]);obtain ⟨r0,r1,r2,r3,r4,r5,r6,r7,r8,r9,jU,lM,mI,Ba⟩:=gj.out.q;have rf:=gj.out.f;go_wp2_with fail;change bodyPost _ _ _ _ _ (pts w2 (w.heap.size + 1) (zJ 0 0 0 0 Sl.nil 0 0));have hby:=gj.out.all 0 0 0 0 Sl.nil 0 0;have ey:=zh (zD (B:=w.heap.size) (b:=(w.heap.size + 1)) (by omega) (zJ 0 0 0 0 Sl.nil 0 0) eV.out);have gJ:=lz.out (pts w2 (w.heap.size + 1) (zJ 0 0 0 0 Sl.nil 0 0));rw [iP.out];generalize pts w2 (w.heap.size + 1) (zJ 0 0 0 0 Sl.nil 0 0) = V at *;exact au (v:=.tuple #[zV 0 0 0 0 Sl.nil 0 0,.int .i64 1]) (by simp [results,Tryz.results12,go_sem,hby.q]) rfl ⟨⟨_,rfl,gJ⟩,ey.out⟩
 have jt:=zh (show TG = (if md = 1 then (if z + (fU N : Int) ≤ 1048576 then (0,zX ⟨gn,rv,md,z,⟨f,L,G⟩⟩ N) else (9,gY)) else (12,gY)) by rw [HG.out,ag ⟨by trivial,by trivial⟩]);have Dr:=zh (C_.out rfl);clear HG C_
 by_cases rj : md = 1
 ·
  have e1 : (md == 1) = true:=by rw [rj]; rfl
  have HPF:=zh (show z + (fU N : Int) ≤ 1048576 → TG = (0,zX ⟨gn,rv,md,z,⟨f,L,G⟩⟩ N) from fun hf => by rw [jt.out,ag rj,ag hf]);have El:=zh (show ¬ z + (fU N : Int) ≤ 1048576 → TG = (9,gY) from fun hf => by rw [jt.out,ag rj,ah hf]);clear jt;subst rj;clear e1;obtain ⟨g0,hg0⟩ : ∃ g0 : Gn,(⟨gn,rv,1,z,⟨f,L,G⟩⟩ : Gn) = g0:=⟨_,rfl⟩
  have Lj:=zh (show ∀ i,i ≤ n → ∀ j,j < 8 → ((zX g0 (N.take i)).m.st j).length ≤ 9000 from fun i hi j hj => by
   have h1:=iL.out i hi j hj
   have h2 : (N.take i).length ≤ n:=by rw [ay]; omega
   rw [← hg0]; omega)
  have N0:=zh (show ∀ i,i < n → zX g0 (N.take (i + 1)) = yW (zX g0 (N.take i)) (xW es i).1 from fun i hi => by rw [NV.out i hi,ub]);have XC:=zh (show ∀ i,i ≤ n → (zX g0 (N.take i)).size = z + (fU (N.take i) : Int) from fun i _ => by rw [yy,← hg0]);have HTz:=zh (show ∀ i,i < n → fU (N.take (i + 1)) = fU (N.take i) + eP (xW es i).1.data.length from fun i hi => by rw [NV.out i hi,uo]);rw [hg0] at HPF;have Lk:=zh (show zX g0 (N.take 0) = ⟨gn,rv,1,z,⟨f,L,G⟩⟩ from by rw [← hg0]; rfl);have N1:=zh (show (zX g0 N).num = gn ∧ (zX g0 N).rev = rv ∧ (zX g0 N).mode = 1 from by rw [← hg0]; exact vt N _);have hf0 : z + (fU (N.take 0) : Int) ≤ 1048576:=by rw [List.take_zero,zGv]; omega
  clear iL NV hg0;obtain ⟨x0,x1,x2,x3,x4,x5,x6,x7,x8,x9,fS,fT,fQ,fR⟩:=gm.out.q;go_wp2_with fail
  go_loopw [23] (fun iv W => ∃ (i : Nat) (si : Sl),iv = .int .i64 (i : Int) ∧ i ≤ n ∧ Hid (z + (fU (N.take i) : Int) ≤ 1048576) ∧ Hid (eH W w.heap.size gn rv 1 (zX g0 (N.take i)).size si (zX g0 (N.take i)).m.live (zX g0 (N.take i)).m.dZ) ∧ Hid (eR W (w.heap.size + 2) s f si (zX g0 (N.take i)).m.st) ∧ Hid (eH W (w.heap.size + 1) 0 0 0 0 Sl.nil 0 0) ∧ Hid (Below w.heap.size w W)) (fun iv _ => n - (intOf iv).toNat)
  case atStart => exact ⟨0,s,rfl,aq _,zh hf0,by rw [Lk.out]; exact gm,by rw [Lk.out]; exact zh (eR.refl _ _ _ _),gj,eV⟩
  obtain ⟨i,si,rfl,hi,Ll,Fv,EC,H5,Bh⟩:=hrel;clear gm gj eV hf0
  by_cases hlt : i < n
  ·
   have i1 : (i : Int) < (n : Int):=by omega
   obtain ⟨b,off,rfl,iE,c0,c1,c2,c3⟩:=(iQ.out.below Bh.out).at hlt;have Fp:=zh (Lj.out i hi);have Ce:=zh (N0.out i hlt);have T6:=XC.out i hi;have T7:=HTz.out i hlt;have hAi:=Bg.out (i + 1);have hok:=Dr.out i hlt;have CA:=zh (EC.out.rd NU.out Bh.out);generalize xW es i = X at c0 c1 c2 c3 iE Ce hok T7;obtain ⟨x,xv⟩:=X;dsimp only at c0 c1 c2 c3 iE Ce hok T7;obtain ⟨xa,xc,rfl,hx1,hx2⟩:=iE.gl;have NY : x.data.length ≤ 4096:=hok.1;have KC:=zh (fun W => qW x.data.length W (ak NY (by decide)));clear iE hok;have hxz:=xt x.data.length;obtain ⟨W1,hW1⟩ : ∃ W1,wr.alloc (.cells (Q7 x (.slice xa x.data.length xc)) 56) = W1:=⟨_,rfl⟩
   have lN:=Xk wr x (.slice xa x.data.length xc);have Ch:=EU.new wr x (.slice xa x.data.length xc);rw [hW1] at lN Ch;have HD:=zh Ch;have fK:=zh lN;clear lN Ch;have jV:=zh (Fv.out.below fK.out);have C5:=zh (H5.out.below fK.out);have CU:=zh (CA.out.below fK.out);have EZ:=zh (zA Bh.out fK.out);have hwr:=H5.out.lt;have hws:=fK.out.size;go_upto_region 8 with fail;clear hW1 c0 c1 c2 c3 Fv H5 Bh CA;obtain ⟨d0,d1,d2,d3⟩:=HD.out.q;generalize hm : x.data.length = m at *;have Hm:=zh hm;clear hm;go_wp2_with fail;refine (KC.out _).mono ?_;rintro e w3 ⟨rfl,rfl⟩;generalize XE : zX g0 (N.take i) = gi at *;clear XE;obtain ⟨an,ar,am,az,⟨af,aL,aG⟩⟩:=gi;dsimp only at *;have HZ:=zh T6;have HT:=zh T7;have HA:=zh hAi;have XJ:=Ll.out;clear x0 x1 x2 x3 x4 x5 x6 x7 x8 x9 fS fT fQ fR;have x4:=jV.out.c0;have x5:=jV.out.c1;have x6:=jV.out.c2;have x7:=jV.out.c3
   have x8:=jV.out.c4;have x9:=jV.out.c5;have fS:=jV.out.c6;have fT:=jV.out.c7;have fQ:=jV.out.cl;have fR:=jV.out.cg;have x3:=jV.out.n3;have xf:=jV.out.f;have hz3 : 0 ≤ az ∧ az ≤ 1048576:=by omega
   obtain ⟨XH,Mq⟩:=hz3;clear T6 T7 hAi XJ
   by_cases Ec : 1048576 - az < (eP m : Int)
   ·
    have e5 : decide (1048576 - az < (eP m : Int)) = true:=aD Ec;have iP:=zh (El.out (by have:=HZ.out; have:=HT.out; have:=HA.out; omega));obtain ⟨r0,r1,r2,r3,r4,r5,r6,r7,r8,r9,jU,lM,mI,Ba⟩:=C5.out.q;have rf:=C5.out.f;go_wp2_with fail;change bodyPost _ _ _ _ _ (pts W1 (w.heap.size + 1) (zJ 0 0 0 0 Sl.nil 0 0));have hby:=C5.out.all 0 0 0 0 Sl.nil 0 0;have ey:=zh (zD (B:=w.heap.size) (b:=(w.heap.size + 1)) (by omega) (zJ 0 0 0 0 Sl.nil 0 0) EZ.out);have gJ:=lz.out (pts W1 (w.heap.size + 1) (zJ 0 0 0 0 Sl.nil 0 0));rw [iP.out];generalize pts W1 (w.heap.size + 1) (zJ 0 0 0 0 Sl.nil 0 0) = V at *;exact au (v:=.tuple #[zV 0 0 0 0 Sl.nil 0 0,.int .i64 9]) (by simp [results,Tryz.results12,go_sem,hby.q]) rfl ⟨⟨_,rfl,gJ⟩,ey.out⟩
   have e5 : decide (1048576 - az < (eP m : Int)) = false:=aC Ec;have Fu:=zh (show z + (fU (N.take (i + 1)) : Int) ≤ 1048576 by have:=HZ.out; have:=HT.out; omega);clear HZ HT HA Ec
   cases iy : x.del
   ·
    rw [iy] at d2;have HP:=zh (zKe si ⟨af,aL,aG⟩ ⟨(x.key : Int),(x.ck : Int),az,(m : Int)⟩ W1 CU.out (fun j hj => ak (Fp.out j hj) (by omega)))
    have Ck:=zh (show zX g0 (N.take (i + 1)) = ⟨an,ar,am,az + (eP m : Nat),wX ⟨af,aL,aG⟩ ⟨(x.key : Int),(x.ck : Int),az,(m : Int)⟩⟩ by
     rw [Ce.out]; unfold yW Fm; rw [iy,Hm.out]; rfl)
    clear Ce;generalize wX ⟨af,aL,aG⟩ ⟨(x.key : Int),(x.ck : Int),az,(m : Int)⟩ = M4 at *;obtain ⟨bf,bL,bG⟩:=M4;dsimp only at HP;go_wp2_with fail;refine (HP.out).mono ?_;rintro e w5 ⟨⟨s4,rfl,ho⟩,hb4⟩;have iV:=zh (show eR w5 (w.heap.size + 2) s f s4 bf from .inr (ho.mono (by omega)));have fw:=zh (jV.out.below hb4);have iR:=zh (C5.out.below hb4);have gw:=zh (zA EZ.out hb4);clear x3 x4 x5 x6 x7 x8 x9 fS fT fQ fR xf;clear d0 d1 d2 d3 jV C5 EZ CU HD EC;have x4:=fw.out.c0;have x5:=fw.out.c1;have x6:=fw.out.c2;have x7:=fw.out.c3;have x8:=fw.out.c4;have x9:=fw.out.c5;have fS:=fw.out.c6;have fT:=fw.out.c7;have fQ:=fw.out.cl;have fR:=fw.out.cg;have x3:=fw.out.n3;have xf:=fw.out.f;go_upto_region 14 with fail;change Code.wp _ _ _ _ (pts w5 w.heap.size (yu s4 bL bG));have ik:=zh (fw.out.map s4 bL bG)
    have E2:=zh (iR.out.eD (show w.heap.size + 1 ≠ w.heap.size by omega) (yu s4 bL bG));have jK:=zh (zD (B:=w.heap.size) (b:=w.heap.size) (ai _) (yu s4 bL bG) gw.out);have mC:=zh (iV.out.pts (show w.heap.size < w.heap.size + 2 by omega) (yu s4 bL bG));generalize pts w5 w.heap.size (yu s4 bL bG) = w6 at *;clear fw iR gw iV x3 x4 x5 x6 x7 x8 x9 fS fT fQ fR xf;have x3:=ik.out.n3;have xf:=ik.out.f;go_upto_region 15 with fail;change Code.wp _ _ _ _ (pts w6 w.heap.size [(3,.int .i64 (az + (eP m : Nat)))]);have iC:=zh (ik.out.K_ (az + (eP m : Nat)));have N2:=zh (E2.out.eD (show w.heap.size + 1 ≠ w.heap.size by omega) [(3,.int .i64 (az + (eP m : Nat)))]);have Hx:=zh (zD (B:=w.heap.size) (b:=w.heap.size) (ai _) [(3,.int .i64 (az + (eP m : Nat)))] jK.out);have Fk:=zh (mC.out.pts (show w.heap.size < w.heap.size + 2 by omega) [(3,.int .i64 (az + (eP m : Nat)))])
    generalize pts w6 w.heap.size [(3,.int .i64 (az + (eP m : Nat)))] = w7 at *;clear ik E2 jK mC x3 xf;go_wp2_with fail
    go_roundw
    case rel =>
     refine ⟨i + 1,s4,by go_num,by omega,Fu,?_,?_,N2,Hx⟩
     ·
      rw [Ck.out]; exact iC
     rw [Ck.out]; exact Fk
    case measure => simp [intOf]; omega
   rw [iy] at d2;have HP:=zh (zAp si ⟨af,aL,aG⟩ (x.key : Int) W1 CU.out (fun j hj => ak (Fp.out j hj) (by omega)))
   have Ck:=zh (show zX g0 (N.take (i + 1)) = ⟨an,ar,am,az + (eP m : Nat),xE (yP ⟨af,aL,aG⟩ (x.key : Int)) (eP m : Nat)⟩ by
    rw [Ce.out]; unfold yW; rw [iy,Hm.out]; rfl)
   have N3:=zh (fun j hj => ak (qd ⟨af,aL,aG⟩ (x.key : Int) Fp.out j hj) (show 9000 ≤ 10000 by decide));clear Ce;generalize yP ⟨af,aL,aG⟩ (x.key : Int) = M3 at *;obtain ⟨df,dL,dG⟩:=M3;dsimp only at HP;go_wp2_with fail;refine (HP.out).mono ?_;rintro e w4 ⟨⟨s5,rfl,ho⟩,hb4⟩;have KD:=zh (uA s5 ⟨df,dL,dG⟩ (eP m : Nat) w4 ho.rd N3.out);have hw4:=hb4.size;clear ho;generalize xE ⟨df,dL,dG⟩ (eP m : Nat) = M4 at *;obtain ⟨bf,bL,bG⟩:=M4;dsimp only at KD;go_wp2_with fail;refine (KD.out).mono ?_;rintro e w5 ⟨⟨s4,rfl,ho⟩,hb5⟩;replace hb4:=zA hb4 hb5;have iV:=zh (show eR w5 (w.heap.size + 2) s f s4 bf from .inr (ho.mono (by omega)));have fw:=zh (jV.out.below hb4);have iR:=zh (C5.out.below hb4);have gw:=zh (zA EZ.out hb4);clear x3 x4 x5 x6 x7 x8 x9 fS fT fQ fR xf;clear d0 d1 d2 d3 jV C5 EZ CU HD EC;have x4:=fw.out.c0;have x5:=fw.out.c1;have x6:=fw.out.c2
   have x7:=fw.out.c3;have x8:=fw.out.c4;have x9:=fw.out.c5;have fS:=fw.out.c6;have fT:=fw.out.c7;have fQ:=fw.out.cl;have fR:=fw.out.cg;have x3:=fw.out.n3;have xf:=fw.out.f;go_upto_region 14 with fail;change Code.wp _ _ _ _ (pts w5 w.heap.size (yu s4 bL bG));have ik:=zh (fw.out.map s4 bL bG);have E2:=zh (iR.out.eD (show w.heap.size + 1 ≠ w.heap.size by omega) (yu s4 bL bG));have jK:=zh (zD (B:=w.heap.size) (b:=w.heap.size) (ai _) (yu s4 bL bG) gw.out);have mC:=zh (iV.out.pts (show w.heap.size < w.heap.size + 2 by omega) (yu s4 bL bG));generalize pts w5 w.heap.size (yu s4 bL bG) = w6 at *;clear fw iR gw iV x3 x4 x5 x6 x7 x8 x9 fS fT fQ fR xf;have x3:=ik.out.n3;have xf:=ik.out.f;go_upto_region 15 with fail;change Code.wp _ _ _ _ (pts w6 w.heap.size [(3,.int .i64 (az + (eP m : Nat)))]);have iC:=zh (ik.out.K_ (az + (eP m : Nat)))
   have N2:=zh (E2.out.eD (show w.heap.size + 1 ≠ w.heap.size by omega) [(3,.int .i64 (az + (eP m : Nat)))]);have Hx:=zh (zD (B:=w.heap.size) (b:=w.heap.size) (ai _) [(3,.int .i64 (az + (eP m : Nat)))] jK.out);have Fk:=zh (mC.out.pts (show w.heap.size < w.heap.size + 2 by omega) [(3,.int .i64 (az + (eP m : Nat)))]);generalize pts w6 w.heap.size [(3,.int .i64 (az + (eP m : Nat)))] = w7 at *;clear ik E2 jK mC x3 xf;go_wp2_with fail
   go_roundw
   case rel =>
    refine ⟨i + 1,s4,by go_num,by omega,Fu,?_,?_,N2,Hx⟩
    ·
     rw [Ck.out]; exact iC
    rw [Ck.out]; exact Fk
   case measure => simp [intOf]; omega
  have hin : i = n:=by omega
  rw [hin,lW.out] at Fv EC Ll;rw [hin];have iP:=zh (HPF.out Ll.out);have CA:=zh (EC.out.rd NU.out Bh.out)
  have HLf:=zh (show ∀ j,j < 8 → ((zX g0 N).m.st j).length ≤ 10000 from fun j hj => by
   have:=Lj.out n (ai _) j hj
   rw [lW.out] at this
   omega)
  clear hin hi;obtain ⟨Ds,mq,Me⟩:=N1.out;generalize XI : zX g0 N = gA at *;obtain ⟨an,ar,am,az,⟨af,aL,aG⟩⟩:=gA;dsimp only at Fv EC Ds mq Me iP CA HLf;subst Ds mq Me;clear XI;have KD:=zh (uA si ⟨af,aL,aG⟩ 0 wr CA.out HLf.out);rw [uN] at KD;dsimp only at KD;have ame:=H5.out.lt;obtain ⟨x4,x5,x6,x7,x8,x9,fS,fT,fQ,fR⟩:=Fv.out.q;have xf:=Fv.out.f;go_wp2_with fail;refine (KD.out).mono ?_;rintro e w3 ⟨⟨s3,rfl,CL⟩,hb3⟩;have gP:=zh (Fv.out.below hb3);have mo:=zh (H5.out.below hb3);have gp:=zh (zA Bh.out hb3);have lr:=zh (CL.mono (show w.heap.size + 2 ≤ wr.heap.size by omega));clear hb3 CL Fv H5 Bh EC KD CA xf x4 x5 x6 x7 x8 x9 fS fT fQ fR;obtain ⟨x4,x5,x6,x7,x8,x9,fS,fT,fQ,fR⟩:=gP.out.q;have xf:=gP.out.f;go_upto_region 17 with fail;change Code.wp _ _ _ _ (pts w3 w.heap.size (yu s3 aL aG));have iM:=zh (gP.out.map s3 aL aG)
  have lB:=zh (mo.out.eD (show w.heap.size + 1 ≠ w.heap.size by omega) (yu s3 aL aG));have fZ:=zh (zD (B:=w.heap.size) (b:=w.heap.size) (ai _) (yu s3 aL aG) gp.out);have jx:=zh (lr.out.pts (show w.heap.size < w.heap.size + 2 by omega) (yu s3 aL aG));generalize pts w3 w.heap.size (yu s3 aL aG) = w4 at *;clear gP mo gp lr xf x4 x5 x6 x7 x8 x9 fS fT fQ fR;obtain ⟨x0,x1,x2,x3,x4,x5,x6,x7,x8,x9,fS,fT,fQ,fR⟩:=iM.out.q;obtain ⟨r0,r1,r2,r3,r4,r5,r6,r7,r8,r9,jU,lM,mI,Ba⟩:=lB.out.q;have rf:=lB.out.f;go_wp2_with fail;change bodyPost _ _ _ _ _ (pts w4 (w.heap.size + 1) (zJ an ar 1 az s3 aL aG));have hby:=lB.out.all an ar 1 az s3 aL aG;have ey:=zh (zD (B:=w.heap.size) (b:=(w.heap.size + 1)) (by omega) (zJ an ar 1 az s3 aL aG) fZ.out)
  have gJ:=(jx.out.pts (show w.heap.size + 1 < w.heap.size + 2 by omega) (zJ an ar 1 az s3 aL aG)).mono (show w.heap.size ≤ w.heap.size + 2 by omega);rw [iP.out];generalize pts w4 (w.heap.size + 1) (zJ an ar 1 az s3 aL aG) = V at *;exact au (v:=.tuple #[zV an ar 1 az s3 aL aG,.int .i64 0]) (by simp [results,Tryz.results12,go_sem,hby.q]) rfl ⟨⟨_,rfl,gJ⟩,ey.out⟩
 have iP:=zh (show TG = (12,gY) by rw [jt.out,ah rj]);have e1 : (md == 1) = false:=beq_eq_false_iff_ne.2 rj;clear jt;obtain ⟨x0,x1,x2,x3,x4,x5,x6,x7,x8,x9,fS,fT,fQ,fR⟩:=gm.out.q;obtain ⟨r0,r1,r2,r3,r4,r5,r6,r7,r8,r9,jU,lM,mI,Ba⟩:=gj.out.q;have rf:=gj.out.f;go_wp2_with fail;change bodyPost _ _ _ _ _ (pts w2 (w.heap.size + 1) (zJ 0 0 0 0 Sl.nil 0 0));have hby:=gj.out.all 0 0 0 0 Sl.nil 0 0;have ey:=zh (zD (B:=w.heap.size) (b:=(w.heap.size + 1)) (by omega) (zJ 0 0 0 0 Sl.nil 0 0) eV.out);have gJ:=lz.out (pts w2 (w.heap.size + 1) (zJ 0 0 0 0 Sl.nil 0 0));rw [iP.out];generalize pts w2 (w.heap.size + 1) (zJ 0 0 0 0 Sl.nil 0 0) = V at *;exact au (v:=.tuple #[zV 0 0 0 0 Sl.nil 0 0,.int .i64 12]) (by simp [results,Tryz.results12,go_sem,hby.q]) rfl ⟨⟨_,rfl,gJ⟩,ey.out⟩
end Go.Proofs.YtcgfilmmokmdjaaGreat
