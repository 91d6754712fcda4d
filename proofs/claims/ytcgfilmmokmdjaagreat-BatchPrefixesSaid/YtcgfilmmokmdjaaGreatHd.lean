/- A part of the walk. -/
import Derived.Test.YtcgfilmmokmdjaaGreatQAI
import Derived.Test.YtcgfilmmokmdjaaGreatHj
set_option linter.all false
set_option maxRecDepth 100000
set_option maxHeartbeats 32000000
namespace Go.Proofs.YtcgfilmmokmdjaaGreat
open Go.RowKit
theorem zMF (l : List Nd) : fU l ≤ l.length * 4127:=by
 induction l with
 | nil => exact aq _
 | cons x r ih =>
  have:=xt x.data.length;rw [wi,aW,cO];omega
theorem zB8 {es : List (Nd × Value)} {i : Nat} (h : i < es.length) : (es.map (·.1)).take (i + 1) = (es.map (·.1)).take i ++ [(xW es i).1]:=by
 rw [cz,b9,aB h];unfold xW;rw [aw,aB h]
 rfl
theorem tx (l : List Nd) : IU l = true ↔ ∀ x ∈ l,x.ok:=by
 unfold IU;rw [dJ];exact ⟨fun h x hx => aX (h x hx),fun h x hx => aD (h x hx)⟩
theorem zJT (g : Gn) (s : Sl) (v : Value) (es : List (Nd × Value)) (K : Nat) (w : World) (h : fq w s g.m.st) (hs : ∀ i,i < 8 → (g.m.st i).length ≤ K) (hr : mr w v es) (hK : K + es.length ≤ 9000) (iy : ∀ p ∈ es,p.1.data.length ≤ 1000000) :
  Calls Tryz.prog 43 #[zV g.num g.rev g.mode g.size s g.m.live g.m.dZ,v] w (Rj w s g.m.st (xQ g (es.map (·.1)))):=by
 obtain ⟨va,vc,rfl,Dk,hv2⟩:=hr.shape;have H4 : ∀ i,i < 8 → (g.m.st i).length ≤ 10000:=fun i hi => ak (hs i hi) (by omega)
 have HV:=zh (fun W (hb : Below w.heap.size w W) => uU g s W (h.below hb) H4);have iQ:=zh hr;have NU:=zh h;have lz:=zh (show ∀ W,eR W w.heap.size s g.m.st Sl.nil gY.m.st from fun W => eR.nil W _ _ _);have HG:=zh (show xQ g (es.map (·.1)) = if wM g = true ∧ IU (es.map (·.1)) = true then (if g.mode = 1 then (if g.size + (fU (es.map (·.1)) : Int) ≤ 1048576 then (0,zX g (es.map (·.1))) else (9,gY)) else (12,gY)) else (1,gY) from rfl);have iW:=zh (show wM g = true → 16 ≤ g.size ∧ g.size ≤ 1048576 from fun hv => ⟨((yF g).1 hv).size.1,((yF g).1 hv).size.2.1⟩);have iL:=zh (fun i (hi : i ≤ es.length) => xg ((es.map (·.1)).take i) g hs);have Dl:=zh (fun i (hi : i < es.length) => iy _ (uk hi));have NV:=zh (fun i (hi : i < es.length) => @zB8 es i hi)
 have Bg:=zh (show ∀ i,i ≤ es.length → fU ((es.map (·.1)).take i) ≤ 9000 * 4127 from fun i hi => by
  have h1:=zMF ((es.map (·.1)).take i)
  have h2 : ((es.map (·.1)).take i).length ≤ 9000:=by rw [ay]; omega
  have:=aV 4127 h2
  omega)
 have NW:=zh (tx (es.map (·.1)));have Rn:=zh (show ∀ i,i < es.length → (xW es i).1 ∈ es.map (·.1) from fun i hi => cU (uk hi));have lW:=zh (show (es.map (·.1)).take es.length = es.map (·.1) from aH (by rw [aI]; omega))
 have Ro:=zh (show (∀ j,j < es.length → (xW es j).1.ok) → ∀ x ∈ es.map (·.1),x.ok from fun hh x hx => by
  obtain ⟨p,hp,rfl⟩:=List.mem_map.1 hx
  obtain ⟨j,hj,rfl⟩:=b7 hp
  have:=hh j hj
  unfold xW at this
  rw [aw,aB hj] at this
  exact this)
 clear hr h hs H4 iy;generalize hN : es.map (·.1) = N at *;generalize hnn : es.length = n at *;have Xz:=zh hnn;clear hnn hN;obtain ⟨gn,rv,md,z,⟨f,L,G⟩⟩:=g;generalize B6 : (⟨gn,rv,md,z,⟨f,L,G⟩⟩ : Gn) = g at *;have XA:=zh B6;obtain ⟨W,hW,fF,hbr,fP⟩:=vE w gn rv md z s L G 113;have HX:=zh fF;have HR:=zh hbr;have HB:=zh fP;clear fF hbr fP;generalize xQ g N = TG at *;generalize wM g = vb at *;subst B6;dsimp only at *
 go_enter Tryz.func43,Tryz.ntmps43
 go_upto_region 1 with fail;change Code.wp _ _ _ _ ((w.alloc (.cells (zQ gn rv md z s L G) 113)).alloc (.cells (zQ 0 0 0 0 Sl.nil 0 0) 113));rw [hW];clear hW;obtain ⟨x0,x1,x2,x3,x4,x5,x6,x7,x8,x9,fS,fT,fQ,fR⟩:=HX.out.q;go_wp2_with fail;refine (HV.out _ HB.out).mono ?_;rintro e w1 ⟨rfl,hb1⟩;have fC:=zh (HX.out.below hb1);have eY:=zh (HR.out.below hb1);have eW:=zh (zA HB.out hb1);have hlr : w.heap.size + 1 < W.heap.size:=HR.out.lt;clear x0 x1 x2 x3 x4 x5 x6 x7 x8 x9 fS fT fQ fR;clear hb1 HX HR HB HV
 cases vb
 ·
  have iP:=zh (show TG = (1,gY) by rw [HG.out,ah (fun h => by cases h.1)]);obtain ⟨r0,r1,r2,r3,r4,r5,r6,r7,r8,r9,jU,lM,mI,Ba⟩:=eY.out.q;have rf:=eY.out.f;go_wp2_with fail;change bodyPost _ _ _ _ _ (pts w1 (w.heap.size + 1) (zJ 0 0 0 0 Sl.nil 0 0));have hby:=eY.out.all 0 0 0 0 Sl.nil 0 0;have ey:=zh (zD (B:=w.heap.size) (b:=(w.heap.size + 1)) (by omega) (zJ 0 0 0 0 Sl.nil 0 0) eW.out);have gJ:=lz.out (pts w1 (w.heap.size + 1) (zJ 0 0 0 0 Sl.nil 0 0));rw [iP.out];generalize pts w1 (w.heap.size + 1) (zJ 0 0 0 0 Sl.nil 0 0) = V at *;exact au (v:=.tuple #[zV 0 0 0 0 Sl.nil 0 0,.int .i64 1]) (by simp [results,Tryz.results43,go_sem,hby.q]) rfl ⟨⟨_,rfl,gJ⟩,ey.out⟩
 obtain ⟨hz1,hz2⟩:=iW.out rfl;obtain ⟨x0,x1,x2,x3,x4,x5,x6,x7,x8,x9,fS,fT,fQ,fR⟩:=fC.out.q;go_wp2_with fail
 go_loopw [6,7] (fun sv iv W => ∃ i : Nat,iv = .int .i64 (i : Int) ∧ sv = .int .i64 (z + (fU (N.take i) : Int)) ∧ i ≤ n ∧ Hid (∀ j,j < i → (xW es j).1.ok) ∧ Hid (eH W w.heap.size gn rv md z s L G) ∧ Hid (eH W (w.heap.size + 1) 0 0 0 0 Sl.nil 0 0) ∧ Hid (Below w.heap.size w W)) (fun _ iv _ => n - (intOf iv).toNat)
 case atStart => exact ⟨0,rfl,by simp [fU],aq _,zh (fun j hj => by omega),fC,eY,eW⟩
 obtain ⟨i,rfl,rfl,hi,C9,ru,ja,jw⟩:=hrel;clear fC eY eW;have NJ:=Bg.out i hi
 by_cases hlt : i < n
 ·
  obtain ⟨b,off,rfl,iE,c0,c1,c2,c3⟩:=(iQ.out.below jw.out).at hlt;have NY:=Dl.out i hlt;have PG:=zh (NV.out i hlt);have XB:=zh (Rn.out i hlt)
  have Ej:=zh (show (xW es i).1.ok → ∀ j,j < i + 1 → (xW es j).1.ok from fun ho j hj => by
   by_cases e : j = i
   ·
    subst e; exact ho
   exact C9.out j (by omega))
  have NZ:=Bg.out (i + 1) hlt;generalize xW es i = X at c0 c1 c2 c3 iE NY PG XB Ej;obtain ⟨x,xv⟩:=X;dsimp only at c0 c1 c2 c3 iE NY PG XB Ej;obtain ⟨xa,xc,rfl,hx1,hx2⟩:=iE.gl;have Ek:=zh (fun W => zDf x xa xc W);have KC:=zh (fun W => zCi x.data.length W NY);rw [PG.out,uo] at NZ;have i1 : (i : Int) < (n : Int):=by omega
  clear iE
  by_cases hok : x.ok
  ·
   rw [aD hok] at Ek;go_wp2_with fail;refine (Ek.out _).mono ?_;rintro e w2 ⟨rfl,hb2⟩;have c3':=hb2.keeps' c3;have gm:=zh (ru.out.below hb2);have gj:=zh (ja.out.below hb2);have eV:=zh (zA jw.out hb2);clear hb2 c0 c1 c2 c3 ru ja jw;generalize hm : x.data.length = m at *;have Hm:=zh hm;clear hm;go_wp2_with fail;refine (KC.out _).mono ?_;rintro e w3 ⟨rfl,rfl⟩;go_wp2_with fail
   go_roundw
   case rel => exact ⟨i + 1,by go_num,by rw [PG.out,uo,Hm.out,cH,Int.add_assoc],by omega,zh (Ej.out hok),gm,gj,eV⟩
   case measure => simp [intOf]; omega
  have iP:=zh (show TG = (1,gY) by rw [HG.out,ah (fun h => hok (NW.out.1 h.2 x XB.out))]);rw [aC hok] at Ek;go_wp2_with fail;refine (Ek.out _).mono ?_;rintro e w2 ⟨rfl,hb2⟩;have gm:=zh (ru.out.below hb2);have gj:=zh (ja.out.below hb2);have eV:=zh (zA jw.out hb2);clear hb2 c0 c1 c2 c3 ru ja jw;obtain ⟨r0,r1,r2,r3,r4,r5,r6,r7,r8,r9,jU,lM,mI,Ba⟩:=gj.out.q;have rf:=gj.out.f;go_wp2_with fail;change bodyPost _ _ _ _ _ (pts w2 (w.heap.size + 1) (zJ 0 0 0 0 Sl.nil 0 0));have hby:=gj.out.all 0 0 0 0 Sl.nil 0 0;have ey:=zh (zD (B:=w.heap.size) (b:=(w.heap.size + 1)) (by omega) (zJ 0 0 0 0 Sl.nil 0 0) eV.out);have gJ:=lz.out (pts w2 (w.heap.size + 1) (zJ 0 0 0 0 Sl.nil 0 0));rw [iP.out];generalize pts w2 (w.heap.size + 1) (zJ 0 0 0 0 Sl.nil 0 0) = V at *
  exact au (v:=.tuple #[zV 0 0 0 0 Sl.nil 0 0,.int .i64 1]) (by simp [results,Tryz.results43,go_sem,hby.q]) rfl ⟨⟨_,rfl,gJ⟩,ey.out⟩
 have hin : i = n:=by omega
 have Dr:=zh (show ∀ j,j < n → (xW es j).1.ok from hin ▸ C9.out);clear C9;rw [hin,lW.out] at NJ;rw [hin,lW.out];clear hin hi;have Rp : IU N = true:=NW.out.2 (Ro.out Dr.out);have jt:=zh (show TG = (if md = 1 then (if z + (fU N : Int) ≤ 1048576 then (0,zX ⟨gn,rv,md,z,⟨f,L,G⟩⟩ N) else (9,gY)) else (12,gY)) by rw [HG.out,ag ⟨trivial,Rp⟩]);clear HG Rp
 by_cases rj : md = 1
 ·
  have e1 : (md == 1) = true:=by rw [rj]; rfl
  by_cases hfit : z + (fU N : Int) ≤ 1048576
  ·
   have iP:=zh (show TG = (0,zX ⟨gn,rv,md,z,⟨f,L,G⟩⟩ N) by rw [jt.out,ag rj,ag hfit]);have e2 : decide (1048576 < z + (fU N : Int)) = false:=by simp; omega
   clear jt;have al5:=rj;subst rj;obtain ⟨g0,hg0⟩ : ∃ g0 : Gn,(⟨gn,rv,1,z,⟨f,L,G⟩⟩ : Gn) = g0:=⟨_,rfl⟩
   have Lj:=zh (show ∀ i,i ≤ n → ∀ j,j < 8 → ((zX g0 (N.take i)).m.st j).length ≤ 9000 from fun i hi j hj => by
    have h1:=iL.out i hi j hj
    have h2 : (N.take i).length ≤ n:=by rw [ay]; omega
    rw [← hg0]; omega)
   have N0:=zh (show ∀ i,i < n → zX g0 (N.take (i + 1)) = yW (zX g0 (N.take i)) (xW es i).1 from fun i hi => by rw [NV.out i hi,ub]);have XC:=zh (show ∀ i,i ≤ n → (zX g0 (N.take i)).size = z + (fU (N.take i) : Int) from fun i _ => by rw [yy,← hg0]);have CT:=zh (show TG = (0,zX g0 N) from by rw [← hg0]; exact iP.out);have Lk:=zh (show zX g0 (N.take 0) = ⟨gn,rv,1,z,⟨f,L,G⟩⟩ from by rw [← hg0]; rfl);have N1:=zh (show (zX g0 N).num = gn ∧ (zX g0 N).rev = rv ∧ (zX g0 N).mode = 1 from by rw [← hg0]; exact vt N _);have XD:=zh (show ∀ i,i < n → (xW es i).1.ok from Dr.out);clear iP iL NV hg0 NW Ro Rn Dl Dr;obtain ⟨x0,x1,x2,x3,x4,x5,x6,x7,x8,x9,fS,fT,fQ,fR⟩:=ru.out.q;go_wp2_with fail
   go_loopw [8] (fun iv W => ∃ (i : Nat) (si : Sl),iv = .int .i64 (i : Int) ∧ i ≤ n ∧ Hid (eH W w.heap.size gn rv 1 (zX g0 (N.take i)).size si (zX g0 (N.take i)).m.live (zX g0 (N.take i)).m.dZ) ∧ Hid (eR W (w.heap.size + 2) s f si (zX g0 (N.take i)).m.st) ∧ Hid (eH W (w.heap.size + 1) 0 0 0 0 Sl.nil 0 0) ∧ Hid (Below w.heap.size w W)) (fun iv _ => n - (intOf iv).toNat)
   case atStart => exact ⟨0,s,rfl,aq _,by rw [Lk.out]; exact ru,by rw [Lk.out]; exact zh (eR.refl _ _ _ _),ja,jw⟩
   obtain ⟨i,si,rfl,hi,Fv,EC,H5,Bh⟩:=hrel;clear ru ja jw;rename_i wr0
   by_cases hlt : i < n
   ·
    have i1 : (i : Int) < (n : Int):=by omega
    obtain ⟨b,off,rfl,iE,c0,c1,c2,c3⟩:=(iQ.out.below Bh.out).at hlt;have NZ:=Bg.out i hi;have Fp:=zh (Lj.out i hi);have Ce:=zh (N0.out i hlt);have T6:=XC.out i hi;have hok:=XD.out i hlt;have CA:=zh (EC.out.rd NU.out Bh.out);generalize xW es i = X at c0 c1 c2 c3 iE Ce hok;obtain ⟨x,xv⟩:=X;dsimp only at c0 c1 c2 c3 iE Ce hok;obtain ⟨xa,xc,rfl,hx1,hx2⟩:=iE.gl;have NY : x.data.length ≤ 4096:=hok.1;have KC:=zh (fun W => zCi x.data.length W (ak NY (by decide)));clear iE hok;have hxz:=xt x.data.length;obtain ⟨W1,hW1⟩ : ∃ W1,wr.alloc (.cells (Q7 x (.slice xa x.data.length xc)) 56) = W1:=⟨_,rfl⟩
    have lN:=Xk wr x (.slice xa x.data.length xc);have Ch:=EU.new wr x (.slice xa x.data.length xc);rw [hW1] at lN Ch;have HD:=zh Ch;have fK:=zh lN;clear lN Ch;have jV:=zh (Fv.out.below fK.out);have C5:=zh (H5.out.below fK.out);have CU:=zh (CA.out.below fK.out);have EZ:=zh (zA Bh.out fK.out);have hwr:=H5.out.lt;have hws:=fK.out.size;go_upto_region 18 with fail;clear hW1 c0 c1 c2 c3 Fv H5 Bh CA;obtain ⟨d0,d1,d2,d3⟩:=HD.out.q;generalize hm : x.data.length = m at *;have Hm:=zh hm;clear hm;go_wp2_with fail;refine (KC.out _).mono ?_;rintro e w3 ⟨rfl,rfl⟩;generalize XE : zX g0 (N.take i) = gi at *;clear XE;obtain ⟨an,ar,am,az,⟨af,aL,aG⟩⟩:=gi;dsimp only at *;clear x0 x1 x2 x3 x4 x5 x6 x7 x8 x9 fS fT fQ fR;have x4:=jV.out.c0;have x5:=jV.out.c1;have x6:=jV.out.c2;have x7:=jV.out.c3;have x8:=jV.out.c4;have x9:=jV.out.c5;have fS:=jV.out.c6
    have fT:=jV.out.c7;have fQ:=jV.out.cl;have fR:=jV.out.cg;have x3:=jV.out.n3;have xf:=jV.out.f;have hz3 : 0 ≤ az ∧ az ≤ 50000000:=by omega
    obtain ⟨XH,Mq⟩:=hz3;clear T6 NZ
    cases iy : x.del
    ·
     rw [iy] at d2;have HP:=zh (zJ3 si ⟨af,aL,aG⟩ ⟨(x.key : Int),(x.ck : Int),az,(m : Int)⟩ W1 CU.out Fp.out)
     have Ck:=zh (show zX g0 (N.take (i + 1)) = ⟨an,ar,am,az + (eP m : Nat),wX ⟨af,aL,aG⟩ ⟨(x.key : Int),(x.ck : Int),az,(m : Int)⟩⟩ by
      rw [Ce.out]; unfold yW Fm; rw [iy,Hm.out]; rfl)
     clear Ce;generalize wX ⟨af,aL,aG⟩ ⟨(x.key : Int),(x.ck : Int),az,(m : Int)⟩ = M4 at *;obtain ⟨bf,bL,bG⟩:=M4;dsimp only at HP;go_wp2_with fail;refine (HP.out).mono ?_;rintro e w5 ⟨⟨s4,rfl,ho⟩,hb4⟩;have iV:=zh (EC.out.step ho (zA fK.out hb4) (by omega));have fw:=zh (jV.out.below hb4);have iR:=zh (C5.out.below hb4);have gw:=zh (zA EZ.out hb4);clear x3 x4 x5 x6 x7 x8 x9 fS fT fQ fR xf;clear d0 d1 d2 d3 jV C5 EZ CU HD EC;have x4:=fw.out.c0;have x5:=fw.out.c1;have x6:=fw.out.c2;have x7:=fw.out.c3;have x8:=fw.out.c4;have x9:=fw.out.c5;have fS:=fw.out.c6;have fT:=fw.out.c7;have fQ:=fw.out.cl;have fR:=fw.out.cg;have x3:=fw.out.n3;have xf:=fw.out.f;go_upto_region 22 with fail;change Code.wp _ _ _ _ (pts w5 w.heap.size (yu s4 bL bG));have ik:=zh (fw.out.map s4 bL bG)
     have E2:=zh (iR.out.eD (show w.heap.size + 1 ≠ w.heap.size by omega) (yu s4 bL bG));have jK:=zh (zD (B:=w.heap.size) (b:=w.heap.size) (ai _) (yu s4 bL bG) gw.out);have mC:=zh (iV.out.pts (show w.heap.size < w.heap.size + 2 by omega) (yu s4 bL bG));generalize pts w5 w.heap.size (yu s4 bL bG) = w6 at *;clear fw iR gw iV x3 x4 x5 x6 x7 x8 x9 fS fT fQ fR xf;have x3:=ik.out.n3;have xf:=ik.out.f;go_upto_region 16 with fail;change Code.wp _ _ _ _ (pts w6 w.heap.size [(3,.int .i64 (az + (eP m : Nat)))]);have iC:=zh (ik.out.K_ (az + (eP m : Nat)));have N2:=zh (E2.out.eD (show w.heap.size + 1 ≠ w.heap.size by omega) [(3,.int .i64 (az + (eP m : Nat)))]);have Hx:=zh (zD (B:=w.heap.size) (b:=w.heap.size) (ai _) [(3,.int .i64 (az + (eP m : Nat)))] jK.out);have Fk:=zh (mC.out.pts (show w.heap.size < w.heap.size + 2 by omega) [(3,.int .i64 (az + (eP m : Nat)))])
     generalize pts w6 w.heap.size [(3,.int .i64 (az + (eP m : Nat)))] = w7 at *;clear ik E2 jK mC x3 xf;go_wp2_with fail
     go_roundw
     case rel =>
      refine ⟨i + 1,s4,by go_num,by omega,?_,?_,N2,Hx⟩
      ·
       rw [Ck.out]; exact iC
      rw [Ck.out]; exact Fk
     case measure => simp [intOf]; omega
    rw [iy] at d2;have HP:=zh (zEX si ⟨af,aL,aG⟩ (x.key : Int) W1 CU.out Fp.out)
    have Ck:=zh (show zX g0 (N.take (i + 1)) = ⟨an,ar,am,az + (eP m : Nat),xE (yP ⟨af,aL,aG⟩ (x.key : Int)) (eP m : Nat)⟩ by
     rw [Ce.out]; unfold yW; rw [iy,Hm.out]; rfl)
    have N3:=zh (fun j hj => ak (qd ⟨af,aL,aG⟩ (x.key : Int) Fp.out j hj) (show 9000 ≤ 10000 by decide));clear Ce;generalize yP ⟨af,aL,aG⟩ (x.key : Int) = M3 at *;obtain ⟨df,dL,dG⟩:=M3;dsimp only at HP;go_wp2_with fail;refine (HP.out).mono ?_;rintro e w4 ⟨⟨s4,rfl,ho⟩,hb4⟩;have KD:=zh (zEU s4 ⟨df,dL,dG⟩ (eP m : Nat) w4 (ho.rd CU.out hb4) N3.out);have HWt:=zh (uh ⟨df,dL,dG⟩ (eP m : Nat));have jx:=zh (EC.out.step ho (zA fK.out hb4) (by omega));clear ho;generalize xE ⟨df,dL,dG⟩ (eP m : Nat) = M4 at *;obtain ⟨bf,bL,bG⟩:=M4;dsimp only at KD HWt;go_wp2_with fail;refine (KD.out).mono ?_;rintro e w5 ⟨rfl,hb5⟩;replace hb4:=zA hb4 hb5;have iV:=zh ((jx.out.keep hb5).Ri (fun i _ => congrFun HWt.out i));have fw:=zh (jV.out.below hb4);have iR:=zh (C5.out.below hb4);have gw:=zh (zA EZ.out hb4);clear x3 x4 x5 x6 x7 x8 x9 fS fT fQ fR xf
    clear d0 d1 d2 d3 jV C5 EZ CU HD EC;have x4:=fw.out.c0;have x5:=fw.out.c1;have x6:=fw.out.c2;have x7:=fw.out.c3;have x8:=fw.out.c4;have x9:=fw.out.c5;have fS:=fw.out.c6;have fT:=fw.out.c7;have fQ:=fw.out.cl;have fR:=fw.out.cg;have x3:=fw.out.n3;have xf:=fw.out.f;go_upto_region 22 with fail;change Code.wp _ _ _ _ (pts w5 w.heap.size (yu s4 bL bG));have ik:=zh (fw.out.map s4 bL bG);have E2:=zh (iR.out.eD (show w.heap.size + 1 ≠ w.heap.size by omega) (yu s4 bL bG));have jK:=zh (zD (B:=w.heap.size) (b:=w.heap.size) (ai _) (yu s4 bL bG) gw.out);have mC:=zh (iV.out.pts (show w.heap.size < w.heap.size + 2 by omega) (yu s4 bL bG));generalize pts w5 w.heap.size (yu s4 bL bG) = w6 at *;clear fw iR gw iV x3 x4 x5 x6 x7 x8 x9 fS fT fQ fR xf;have x3:=ik.out.n3;have xf:=ik.out.f;go_upto_region 16 with fail
    change Code.wp _ _ _ _ (pts w6 w.heap.size [(3,.int .i64 (az + (eP m : Nat)))]);have iC:=zh (ik.out.K_ (az + (eP m : Nat)));have N2:=zh (E2.out.eD (show w.heap.size + 1 ≠ w.heap.size by omega) [(3,.int .i64 (az + (eP m : Nat)))]);have Hx:=zh (zD (B:=w.heap.size) (b:=w.heap.size) (ai _) [(3,.int .i64 (az + (eP m : Nat)))] jK.out);have Fk:=zh (mC.out.pts (show w.heap.size < w.heap.size + 2 by omega) [(3,.int .i64 (az + (eP m : Nat)))]);generalize pts w6 w.heap.size [(3,.int .i64 (az + (eP m : Nat)))] = w7 at *;clear ik E2 jK mC x3 xf;go_wp2_with fail
    go_roundw
    case rel =>
     refine ⟨i + 1,s4,by go_num,by omega,?_,?_,N2,Hx⟩
     ·
      rw [Ck.out]; exact iC
     rw [Ck.out]; exact Fk
    case measure => simp [intOf]; omega
   have hin : i = n:=by omega
   rw [hin,lW.out] at Fv EC;rw [hin];clear hin hi;obtain ⟨Ds,mq,Me⟩:=N1.out;generalize XI : zX g0 N = gA at *;obtain ⟨an,ar,am,az,⟨af,aL,aG⟩⟩:=gA;dsimp only at Fv EC Ds mq Me CT;subst Ds mq Me;clear XI;obtain ⟨x0,x1,x2,x3,x4,x5,x6,x7,x8,x9,fS,fT,fQ,fR⟩:=Fv.out.q;obtain ⟨r0,r1,r2,r3,r4,r5,r6,r7,r8,r9,jU,lM,mI,Ba⟩:=H5.out.q;have rf:=H5.out.f;go_wp2_with fail;change bodyPost _ _ _ _ _ (pts wr (w.heap.size + 1) (zJ an ar 1 az si aL aG));have hby:=H5.out.all an ar 1 az si aL aG;have ey:=zh (zD (B:=w.heap.size) (b:=(w.heap.size + 1)) (by omega) (zJ an ar 1 az si aL aG) Bh.out);have gJ:=(EC.out.pts (show w.heap.size + 1 < w.heap.size + 2 by omega) (zJ an ar 1 az si aL aG)).mono (show w.heap.size ≤ w.heap.size + 2 by omega);rw [CT.out];generalize pts wr (w.heap.size + 1) (zJ an ar 1 az si aL aG) = V at *
   exact au (v:=.tuple #[zV an ar 1 az si aL aG,.int .i64 0]) (by simp [results,Tryz.results43,go_sem,hby.q]) rfl ⟨⟨_,rfl,gJ⟩,ey.out⟩
  have iP:=zh (show TG = (9,gY) by rw [jt.out,ag rj,ah hfit]);have e2 : decide (1048576 < z + (fU N : Int)) = true:=by simp; omega
  clear jt;obtain ⟨x0,x1,x2,x3,x4,x5,x6,x7,x8,x9,fS,fT,fQ,fR⟩:=ru.out.q;obtain ⟨r0,r1,r2,r3,r4,r5,r6,r7,r8,r9,jU,lM,mI,Ba⟩:=ja.out.q;have rf:=ja.out.f;go_wp2_with fail;change bodyPost _ _ _ _ _ (pts wr (w.heap.size + 1) (zJ 0 0 0 0 Sl.nil 0 0));have hby:=ja.out.all 0 0 0 0 Sl.nil 0 0;have ey:=zh (zD (B:=w.heap.size) (b:=(w.heap.size + 1)) (by omega) (zJ 0 0 0 0 Sl.nil 0 0) jw.out);have gJ:=lz.out (pts wr (w.heap.size + 1) (zJ 0 0 0 0 Sl.nil 0 0));rw [iP.out];generalize pts wr (w.heap.size + 1) (zJ 0 0 0 0 Sl.nil 0 0) = V at *;exact au (v:=.tuple #[zV 0 0 0 0 Sl.nil 0 0,.int .i64 9]) (by simp [results,Tryz.results43,go_sem,hby.q]) rfl ⟨⟨_,rfl,gJ⟩,ey.out⟩
 have iP:=zh (show TG = (12,gY) by rw [jt.out,ah rj]);have e1 : (md == 1) = false:=beq_eq_false_iff_ne.2 rj;clear jt;obtain ⟨x0,x1,x2,x3,x4,x5,x6,x7,x8,x9,fS,fT,fQ,fR⟩:=ru.out.q;obtain ⟨r0,r1,r2,r3,r4,r5,r6,r7,r8,r9,jU,lM,mI,Ba⟩:=ja.out.q;have rf:=ja.out.f;go_wp2_with fail;change bodyPost _ _ _ _ _ (pts wr (w.heap.size + 1) (zJ 0 0 0 0 Sl.nil 0 0));have hby:=ja.out.all 0 0 0 0 Sl.nil 0 0;have ey:=zh (zD (B:=w.heap.size) (b:=(w.heap.size + 1)) (by omega) (zJ 0 0 0 0 Sl.nil 0 0) jw.out);have gJ:=lz.out (pts wr (w.heap.size + 1) (zJ 0 0 0 0 Sl.nil 0 0));rw [iP.out];generalize pts wr (w.heap.size + 1) (zJ 0 0 0 0 Sl.nil 0 0) = V at *;exact au (v:=.tuple #[zV 0 0 0 0 Sl.nil 0 0,.int .i64 12]) (by simp [results,Tryz.results43,go_sem,hby.q]) rfl ⟨⟨_,rfl,gJ⟩,ey.out⟩
end Go.Proofs.YtcgfilmmokmdjaaGreat
