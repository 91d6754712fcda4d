/- A part of the walk. -/
import Derived.Test.YtcgfilmmokmdjaaGreatQAN
import Derived.Test.YtcgfilmmokmdjaaGreatSlv
import Derived.Test.YtcgfilmmokmdjaaGreatQAK
import Derived.Test.YtcgfilmmokmdjaaGreatQAM
import Derived.Test.YtcgfilmmokmdjaaGreatQAL
set_option linter.all false
set_option maxRecDepth 100000
set_option maxHeartbeats 32000000
namespace Go.Proofs.YtcgfilmmokmdjaaGreat
open Go.RowKit
theorem zAx (i l : Int) (r : Bool) (a : Option Addr) (n c : Nat) (L : List GP) (w : World) (h : fH w (.slice a n c) L) (hs : ∀ p ∈ L,∀ j,j < 8 → (p.1.m.st j).length ≤ 10000) :
  Calls Tryz.prog 84 #[ze i l r a n c] w fun e w' => e = .returned (.bool (wh ⟨i,l,r,ea L⟩)) ∧ Below w.heap.size w w':=by
 have gH:=zh (fun W (hb : Below w.heap.size w W) => xY i l r a n c L W (h.below hb) hs);have eG:=zh (fc.new w i l r a n c 31);have eQ:=zh (zS w i l r a n c 31);have hcs : wh ⟨i,l,r,ea L⟩ = (zd ⟨i,l,r,ea L⟩ && decide ((zK ⟨i,l,r,ea L⟩).num < 8)):=rfl;rw [hcs];clear hcs
 cases hv : zd ⟨i,l,r,ea L⟩
 ·
  rw [hv] at gH;clear h hs hv
  go_enter Tryz.func84,Tryz.ntmps84
  go_upto_region 1 with fail;obtain ⟨W,hW⟩ : ∃ W,w.alloc (.cells (zN i l r a n c) 31) = W:=⟨_,rfl⟩
  change Code.wp _ _ _ _ (w.alloc (.cells (zN i l r a n c) 31));rw [hW] at eG eQ ⊢;clear hW;have Dm:=eG.out.lt;obtain ⟨k0,k1,k2,k3⟩:=eG.out.q;go_wp2_with fail;refine (gH.out _ eQ.out).mono ?_;rintro e w1 ⟨rfl,hb1⟩;have eW:=zh (zA eQ.out hb1);clear k0 k1 k2 k3 hb1;go_wp2_with fail;go_ret;exact ⟨rfl,eW.out⟩
 rw [hv] at gH;have hV:=(zZ _).1 hv;have gy : L.length = n:=by
  obtain ⟨_,_,e,_⟩:=h.shape;injection e with _ e _; exact e.symm
 have hl : (ea L).length = n:=by rw [yB,gy]
 have hn : 1 ≤ n ∧ n ≤ 8:=by have:=hV.len; simp only [hl] at this; exact this
 obtain ⟨j,rfl⟩ : ∃ j,n = j + 1:=⟨n - 1,by omega⟩
 rw [ul gy];have HR:=zh h;clear hV gy hl hv h hs;obtain ⟨b,off,rfl,hg⟩:=HR.out.at (show j < j + 1 by omega);have HG:=zh hg;clear hg HR;generalize pat L j = p at *;obtain ⟨⟨num,rev,md,sz,f,LV,GA⟩,s⟩:=p;dsimp only at *
 go_enter Tryz.func84,Tryz.ntmps84
 go_upto_region 1 with fail;obtain ⟨W,hW⟩ : ∃ W,w.alloc (.cells (zN i l r (some ⟨b,off,none⟩) (j + 1) c) 31) = W:=⟨_,rfl⟩
 change Code.wp _ _ _ _ (w.alloc (.cells (zN i l r (some ⟨b,off,none⟩) (j + 1) c) 31));rw [hW] at eG eQ ⊢;clear hW;have Dm:=eG.out.lt;obtain ⟨k0,k1,k2,k3⟩:=eG.out.q;go_wp2_with fail;refine (gH.out _ eQ.out).mono ?_;rintro e w1 ⟨rfl,hb1⟩;clear k0 k1 k2 k3;have eW:=zh (zA eQ.out hb1);have fC:=zh (eG.out.below hb1);have p_:=zh (HG.out.below eW.out);clear hb1 eQ eG HG gH;have j3 : IntKind.i64.wrap (j : Int) = (j : Int):=aF _ (by omega);have i2 : (j : Int) < ((j + 1 : Nat) : Int):=by omega
 have v3:=fC.out.c3;have g0:=p_.out.n0;dsimp only at g0;go_wp2_with fail;go_ret;exact ⟨by simp,eW.out⟩
end Go.Proofs.YtcgfilmmokmdjaaGreat
namespace Go.Proofs.YtcgfilmmokmdjaaGreat
open Go Go.RowKit
section
variable {P : Program} {ops : Array Oper} {md : Region.Mode}
def Ui (md : Region.Mode) (ops : Array Oper) (n : Nat) : Bool:=
 decide (n < ops.size) && Region.sinkB md ops n && Region.chainB md ops n &&
 ((List.range n).all fun i => ((ops[i]?).map fun o => o.after.all fun e => !Region.binds md e || decide (e.on < i)).getD false) &&
 ((List.range n).all fun i => (List.range n).all fun j => decide (i = j) || decide (zW ops i = none) || decide (zW ops i ≠ zW ops j)) &&
 Region.seqB md ops (ops.size - n) n ((List.range ops.size).map fun j => decide (j < n)).toArray
def CV (L : Nat → Bool) (i : Nat) : Nat → Bool:=fun j => if j = i then true else L j
variable {Q : Exit → Act → World → Prop}
def Uj (J : Value → World → Prop) (ds : List Deferred) (d : Option Tmp) (a' : Act) (w' : World) : Prop:=
 a'.defers = ds ∧ (d = none → ∀ v,J v w') ∧ ∀ t,d = some t → J (a'.tmps.getD t undef) w'
theorem zLm {n : Nat} {a0 : Act} {I : (Nat → Bool) → (Nat → Value) → World → Prop} {l : List Oper} (hl : ops = l.toArray) (hB : Ui md ops n = true) (hN : ∀ i,i < n → ∀ t,zW ops i = some t → t < a0.tmps.size)
  (head : ∀ i o,i < n → ops[i]? = some o → ∀ L f w,L i = false → (∀ e ∈ o.after,Region.binds md e = true → L e.on = true) → I L f w →
   wpList P ops (Exit.then (Uj (fun v w' => I (CV L i) (xP f i v) w') (fD ops a0 f n).defers o.dst) Q) [o] (fD ops a0 f n) w)
  (tail : ∀ L f w,(∀ j,j < n → L j = true) → I L f w → wpList P ops Q (l.drop n) (fD ops a0 f n) w) :
  ∀ (fuel : Nat) (T : List Nat) (s : Array Bool) (L : Nat → Bool) (f : Nat → Value) (w : World),(∀ j,s.getD j false = L j) → T.Nodup → T.length = fuel → (∀ j,j < n → (s.getD j false = false ↔ j ∈ T)) → (∀ j ∈ T,j < n) → HeadInv md ops n s → I L f w →
   wpAny P md ops Q (fuel + (ops.size - n)) s (fD ops a0 f n) w:=by
 simp only [Ui,aO,aS] at hB;obtain ⟨⟨⟨⟨⟨hn,hs⟩,hc⟩,hfw⟩,hdd⟩,Le⟩:=hB;have Cj : ∀ i o,i < n → ops[i]? = some o → ∀ e ∈ o.after,Region.binds md e = true → e.on < i:=fun i o hi ho e he hb => by
  have:=List.all_eq_true.1 hfw i (List.mem_range.2 hi);rw [ho] at this;simp only [dE,bw] at this;have h2:=Array.all_eq_true_iff_forall_mem.1 this e he;rw [hb] at h2
  simpa using h2
 have Dp : ∀ i j,i < n → j < n → i ≠ j → zW ops i = none ∨ zW ops i ≠ zW ops j:=fun i j hi hj hij => by
  have:=List.all_eq_true.1 (List.all_eq_true.1 hdd i (List.mem_range.2 hi)) j (List.mem_range.2 hj)
  simpa [hij] using this
 intro fuel
 induction fuel with
 | zero =>
  intro T s L f w hL hT hlen lh Bl inv hI;have Lf : T = []:=List.length_eq_zero_iff.1 hlen;subst Lf;have hall : ∀ j,j < n → s.getD j false = true:=fun j hj => by
   cases h : s.getD j false with
   | true => rfl
   | false => exact absurd ((lh j hj).1 h) (by simp)
  have Kk : s = ((List.range ops.size).map fun j => decide (j < n)).toArray:=by
   apply Array.ext
   ·
    simp [inv.size]
   intro j h1 h2;have il : j < ops.size:=by rw [← inv.size]; exact h1
   simp only [aT,dN,dR]
   by_cases e : j < n
   ·
    have:=hall j e;rw [bt,bI h1] at this;simp only [bw] at this;rw [this]; simp [e]
   have:=inv.tail j (by omega) il;rw [bt,bI h1] at this;simp only [bw] at this;rw [this]; simp [e]
  rw [aJ];have iy : (l.drop n).length = ops.size - n:=by rw [hl]; simp
  have h3:=wpAny_of_seq (P:=P) (md:=md) (ops:=ops) (Q':=Q) (l.drop n) n s (fD ops a0 f n) w (fun j => by rw [hl]; simp [cL]) (by rw [iy,Kk]; exact Le) (tail L f w (fun j hj => by rw [← hL]; exact hall j hj) hI)
  rwa [iy] at h3
 | succ fuel ih =>
  intro T s L f w hL hT hlen lh Bl inv hI;have Dq : T ≠ []:=fun e => by rw [e] at hlen; cases hlen
  obtain ⟨m,hm,hle⟩:=qH Dq;have hmn:=Bl m hm;have hun : s.getD m false = false:=(lh m hmn).2 hm;have JC : m < s.size:=by rw [inv.size]; omega
  obtain ⟨om,Fs⟩ : ∃ o,ops[m]? = some o:=⟨_,bI (by omega)⟩
  have jA : m ∈ Region.ready md ops s:=mem_ready.2 ⟨getD_in JC hun,om,Fs,fun e he jd => by
   have h1:=Cj m om hmn Fs e he jd
   cases h2 : s.getD e.on false with
   | true => rfl
   | false =>
    have:=hle _ ((lh e.on (by omega)).1 h2)
    omega⟩
  rw [show fuel + 1 + (ops.size - n) = (fuel + (ops.size - n)) + 1 by omega];refine ⟨fun e => absurd jA (by rw [e]; simp),fun i hi => ?_⟩;obtain ⟨IX,oi,hoi,lV⟩:=mem_ready.1 hi;have hin : i < n:=Nat.lt_of_not_le fun h => tail_waits hs hc hn inv _ m rfl hmn (getD_in JC hun) i h hi
  have Lg : i ∈ T:=(lh i hin).1 (getD_both IX);have pX : zW ops i = oi.dst:=by unfold zW; rw [hoi]; rfl
  unfold wpOp;rw [hoi];simp only [];have hh:=head i oi hin hoi L f w (by rw [← hL]; exact getD_both IX) (fun e he jd => by rw [← hL]; exact lV e he jd) hI;refine k5 hh (fun v w' hR => ?_) (fun d v w' hR => ?_)
  ·
   obtain ⟨_,hv0,hv⟩:=hR;have hval : I (CV L i) (xP f i v) w':=by
    cases hd : oi.dst with
    | none => exact hv0 hd v
    | some t =>
     have h4:=hv t hd;have h5 : t < (fD ops a0 f n).tmps.size:=by rw [ut]; exact hN i hin t (by rw [pX,hd])
     rw [hd] at h4
     simpa [Act.put,h5] using h4
   rw [← pX,qQ ops a0 f i v n hin fun j hj hji => Dp i j hin hj (aR hji)];refine ih (T.erase i) _ (CV L i) _ w' (fun j => ?_) (hT.erase i) (by rw [List.length_erase_of_mem Lg]; omega) (fun j hj => ?_) (fun j hj => Bl j (List.mem_of_mem_erase hj)) (inv.set hi hin) hval
   ·
    unfold CV
    by_cases e : j = i
    ·
     subst e;have il : j < s.size:=by rw [inv.size]; omega
     simp [bt,il]
    rw [bH false (aR e),hL j,ah e]
   rw [hT.mem_erase_iff]
   by_cases e : j = i
   ·
    subst e;have il : j < s.size:=by rw [inv.size]; omega
    simp [bt,il]
   rw [bH false (aR e),lh j hj];simp [e]
  have h1:=hR.1;have h2:=aQ List.length h1
  cases Lh : oi.dst <;> simp [Act.put,Lh] at h2
def Uk (P : Program) (Q : Exit → Act → World → Prop) (ops : Array Oper) (I : (Nat → Bool) → (Nat → Value) → World → Prop) (fr : (Nat → Value) → Act) : List Oper → Nat → Nat → Prop
 | o :: r,m + 1,i => (∀ L f w,L i = false → (∀ j,Li o j = true → L j = true) → I L f w → wpList P ops (Exit.then (Uj (fun v w' => I (CV L i) (xP f i v) w') (fr f).defers o.dst) Q) [o] (fr f) w) ∧ Uk P Q ops I fr r m (i + 1)
 | _,_,_ => True
theorem Yd {ops : Array Oper} {I : (Nat → Bool) → (Nat → Value) → World → Prop} {fr : (Nat → Value) → Act} : ∀ (l : List Oper) (m k : Nat),Uk P Q ops I fr l m k →
  ∀ i o,l[i]? = some o → i < m → ∀ L f w,L (k + i) = false → (∀ j,Li o j = true → L j = true) → I L f w → wpList P ops (Exit.then (Uj (fun v w' => I (CV L (k + i)) (xP f (k + i) v) w') (fr f).defers o.dst) Q) [o] (fr f) w
 | [],_,_,_,i,o,ho,_ => by simp at ho
 | o :: r,0,_,_,i,_,_,hS => by omega
 | o :: r,m + 1,k,h,0,o',ho,_ => by
  simp at ho;subst ho;exact h.1
 | o :: r,m + 1,k,h,i + 1,o',ho,hm => by
  have:=Yd r m (k + 1) h.2 i o' (by simpa using ho) (by omega)
  rwa [show k + 1 + i = k + (i + 1) by omega] at this
theorem kG {id : Nat} {a0 : Act} {w : World} {l : List Oper} (n : Nat) (I : (Nat → Bool) → (Nat → Value) → World → Prop) (N : Nat) (hm : P.follows .mixedOrders = true) (hB : Ui .any l.toArray n = true)
  (hsz : a0.tmps.size = N) (hN : Rl l.toArray n N = true) {fr : (Nat → Value) → Act} (hfr : ∀ f,fD l.toArray a0 f n = fr f)
  (start : ∀ f,I (fun _ => false) f w.drew)
  (head : Uk P Q l.toArray I fr l n 0)
  (tail : ∀ L f w1,(∀ j,j < n → L j = true) → I L f w1 → wpList P l.toArray Q (l.drop n) (fr f) w1) : (Code.region id l.toArray true).wp P Q a0 w:=by
 have hn : n < l.toArray.size:=by
  simp only [Ui,aO,aS] at hB;exact hB.1.1.1.1.1
 refine wp_region_any hm ?_;have h:=zLm (md:=.any) (Q:=Q) (P:=P) (n:=n) (a0:=a0) (I:=I) rfl hB
  (fun i hi t ht => by
   have h1:=List.all_eq_true.1 hN i (List.mem_range.2 hi)
   rw [ht] at h1
   rw [hsz]
   simpa using h1)
  (fun i o hi ho L f w1 h0 hd hI => by
   rw [hfr]
   have h2:=Yd l n 0 head i o (by simpa using ho) hi L f w1 (by rwa [aJ]) (fun j hj => by
    unfold Li at hj
    obtain ⟨e,he,h3⟩:=Array.any_eq_true'.1 hj
    simp only [aO,ct] at h3
    rw [← h3.2]
    exact hd e he h3.1) hI
   rwa [aJ] at h2)
  (fun L f w1 hA hI => by rw [hfr]; exact tail L f w1 hA hI)
  n (List.range n) (Array.replicate l.toArray.size false) (fun _ => false) (fun j => match zW l.toArray j with | some d => a0.tmps.getD d undef | none => undef) w.drew
  (fun j => getD_replicate_false _ _) List.nodup_range (by simp) (fun j hj => by rw [getD_replicate_false]; simp [hj]) (fun j hj => by simpa using hj)
  ⟨by simp,fun j oj _ hl => (by rw [getD_replicate_false] at hl; cases hl),fun t _ ht => getD_in (by simpa using ht) (getD_replicate_false _ _)⟩
  (start _)
 have e0 : fD l.toArray a0 (fun j => match zW l.toArray j with | some d => a0.tmps.getD d undef | none => undef) n = a0:=PE _ _ _;rw [e0,show n + (l.toArray.size - n) = l.toArray.size by omega] at h;exact h
end
end Go.Proofs.YtcgfilmmokmdjaaGreat
namespace Go.Proofs.YtcgfilmmokmdjaaGreat
open Go.RowKit
theorem zv {L : Nat → Bool} {i j : Nat} (h : j ≠ i) : CV L i j = L j:=ah h
theorem wO {f : Nat → Value} {i j : Nat} {v : Value} (h : j ≠ i) : xP f i v j = f j:=ah h
theorem Ye (L : Nat → Bool) (i : Nat) : CV L i i = true:=ag rfl
theorem PL (f : Nat → Value) (i : Nat) (v : Value) : xP f i v i = v:=ag rfl
structure Cq (T : TypeId) (m : Nat) (xs ys : List Value) (ps : List (Nat × Value)) (B0 : Nat) (w6 : World) (L : Nat → Bool) (f : Nat → Value) (W : World) : Prop where
 Ie : ∀ q ∈ ps,L q.1 = true → f q.1 = q.2
 hb : Below B0 w6 W
 sz : B0 ≤ W.heap.size
 a0 : L 0 = true → L 6 = false → ∃ b,f 0 = .slice (some ⟨b,0,none⟩) 0 0 ∧ W.ownsRow B0 T 14 (.slice (some ⟨b,0,none⟩) 0 0) 0 [] ∧ b < W.heap.size ∧ (L 9 = true → f 9 ≠ .slice (some ⟨b,0,none⟩) 2 2)
 a6 : L 6 = true → L 10 = false → ∃ a c,f 6 = .slice a m c ∧ W.ownsRow B0 T 14 (.slice a m c) m xs
 a9 : L 9 = true → L 10 = false → ∃ k,f 9 = .slice (some ⟨k,0,none⟩) 2 2 ∧ B0 ≤ k ∧ k < W.heap.size ∧ Rd W 14 (.slice (some ⟨k,0,none⟩) 2 2) 2 ys
 RF : L 10 = true → ∃ a c,f 10 = .slice a (m + 2) c ∧ W.ownsRow B0 T 14 (.slice a (m + 2) c) (m + 2) (xs ++ ys)
 d6 : L 6 = true → L 0 = true
 d10 : L 10 = true → L 6 = true ∧ L 9 = true
section
variable {T : TypeId} {m : Nat} {xs ys : List Value} {ps : List (Nat × Value)} {B0 : Nat} {w6 W W' : World} {L : Nat → Bool} {f : Nat → Value}
theorem Cq.start (hs : B0 = w6.heap.size) (f : Nat → Value) : Cq T m xs ys ps B0 w6 (fun _ => false) f w6.drew:=by
 subst hs;exact ⟨(fun _ _ h => by cases h),zy (aj _ _),ai _,(fun h => by cases h),(fun h => by cases h),(fun h => by cases h),(fun h => by cases h),(fun h => by cases h),fun h => by cases h⟩
theorem Cq.pure (h : Cq T m xs ys ps B0 w6 L f W) {i : Nat} {v : Value} (h0 : 0 ≠ i) (h6 : 6 ≠ i) (h9 : 9 ≠ i) (h10 : 10 ≠ i) (hp : ∀ q ∈ ps,q.1 = i → v = q.2) : Cq T m xs ys ps B0 w6 (CV L i) (xP f i v) W:=by
 refine ⟨fun q hq hL => ?_,h.hb,h.sz,?_,?_,?_,?_,?_,?_⟩
 ·
  by_cases e : q.1 = i
  ·
   rw [e,PL]; exact hp q hq e
  rw [wO e]; rw [zv e] at hL; exact h.Ie q hq hL
 ·
  rw [zv h0,zv h6,zv h9,wO h0,wO h9]; exact h.a0
 ·
  rw [zv h6,zv h10,wO h6]; exact h.a6
 ·
  rw [zv h9,zv h10,wO h9]; exact h.a9
 ·
  rw [zv h10,wO h10]; exact h.RF
 ·
  rw [zv h6,zv h0]; exact h.d6
 rw [zv h10,zv h6,zv h9]; exact h.d10
theorem Cq.Oa (h : Cq T m xs ys ps B0 w6 L f W) (h6 : L 6 = false ∨ L 9 = false) : L 10 = false:=by
 cases e : L 10 with
 | false => rfl
 | true => have:=h.d10 e; rcases h6 with h6 | h6 <;> simp [h6] at this
theorem Cq.no6 (h : Cq T m xs ys ps B0 w6 L f W) (h0 : L 0 = false) : L 6 = false:=by
 cases e : L 6 with
 | false => rfl
 | true => have:=h.d6 e; rw [h0] at this; cases this
theorem Cq.zero (h : Cq T m xs ys ps B0 w6 L f W) (h0 : L 0 = false) (hp : ∀ q ∈ ps,q.1 ≠ 0) : Cq T m xs ys ps B0 w6 (CV L 0) (xP f 0 (.slice (some ⟨W.heap.size,0,none⟩) 0 0)) (W.alloc (.cells #[] T)):=by
 have hA:=(aj W.heap.size W).alloc (ai _) (.cells #[] T);have n6:=h.no6 h0;have n10:=h.Oa (.inl n6);refine ⟨fun q hq hL => ?_,h.hb.alloc h.sz _,ak h.sz hA.size,fun _ _ => ⟨W.heap.size,PL ..,di (size:=14) W #[] 0 h.sz (by decide) rfl,by simp,fun h9 e => ?_⟩,?_,?_,?_,?_,?_⟩
 ·
  rw [wO (hp q hq)]; rw [zv (hp q hq)] at hL; exact h.Ie q hq hL
 ·
  rw [zv (by decide)] at h9;rw [wO (by decide)] at e;obtain ⟨k,e9,_,hk,_⟩:=h.a9 h9 n10;rw [e9] at e;injection e with e;injection e with e;injection e with e;omega
 ·
  rw [zv (by decide),n6]; intro e; cases e
 ·
  rw [zv (by decide),zv (by decide),wO (by decide)];intro e1 e2;obtain ⟨k,e9,h1,hk,hr⟩:=h.a9 e1 e2;exact ⟨k,e9,h1,dt hk hA.size,hr.below hA⟩
 ·
  rw [zv (by decide),n10]; intro e; cases e
 ·
  rw [zv (by decide),n6]; intro e; cases e
 rw [zv (by decide),n10]; intro e; cases e
theorem Cq.two (h : Cq T m xs ys ps B0 w6 L f W) (h9 : L 9 = false) (hy : ys.length = 28) (hp : ∀ q ∈ ps,q.1 ≠ 9) : Cq T m xs ys ps B0 w6 (CV L 9) (xP f 9 (.slice (some ⟨W.heap.size,0,none⟩) 2 2)) (W.alloc (.cells ys.toArray T)):=by
 have hA:=(aj W.heap.size W).alloc (ai _) (.cells ys.toArray T);have n10:=h.Oa (.inr h9);refine ⟨fun q hq hL => ?_,h.hb.alloc h.sz _,ak h.sz hA.size,?_,?_,fun _ _ => ⟨W.heap.size,PL ..,h.sz,by simp,Rd.new W 14 ys T 2 (by rw [hy]) (by decide)⟩,?_,?_,?_⟩
 ·
  rw [wO (hp q hq)]; rw [zv (hp q hq)] at hL; exact h.Ie q hq hL
 ·
  rw [zv (i:=9) (j:=0) (by decide),zv (i:=9) (j:=6) (by decide),wO (i:=9) (j:=0) (by decide),PL];intro e0 e6;obtain ⟨b,e1,ho,hb,_⟩:=h.a0 e0 e6;refine ⟨b,e1,zI ho hA,dt hb hA.size,fun _ e => ?_⟩;injection e with e;injection e with e;injection e with e;omega
 ·
  rw [zv (i:=9) (j:=6) (by decide),zv (i:=9) (j:=10) (by decide),wO (i:=9) (j:=6) (by decide)];intro e6 Dt;obtain ⟨a,c,e1,ho⟩:=h.a6 e6 Dt;exact ⟨a,c,e1,zI ho hA⟩
 ·
  rw [zv (by decide),n10]; intro e; cases e
 ·
  rw [zv (by decide),zv (by decide)]; exact h.d6
 rw [zv (by decide),n10]; intro e; cases e
theorem Cq.Yf (h : Cq T m xs ys ps B0 w6 L f W) (h0 : L 0 = true) (h6 : L 6 = false) (hp : ∀ q ∈ ps,q.1 ≠ 6) : ∃ b,f 0 = .slice (some ⟨b,0,none⟩) 0 0 ∧ W.ownsRow B0 T 14 (.slice (some ⟨b,0,none⟩) 0 0) 0 [] ∧
  ∀ v W',W'.ownsRow B0 T 14 v m xs → W.grownBy W' (Value.slice (some ⟨b,0,none⟩) 0 0).ownBlock → Cq T m xs ys ps B0 w6 (CV L 6) (xP f 6 v) W':=by
 have n10:=h.Oa (.inl h6);obtain ⟨b,e0,ho,hb,hne⟩:=h.a0 h0 h6;refine ⟨b,e0,ho,fun v W' hown hg => ?_⟩;obtain ⟨a,c,ev,_⟩:=zM hown;have hW : Below B0 W W':=zL (aj B0 W) ho h.sz hg;refine ⟨fun q hq hL => ?_,h.hb.trans hW,ak h.sz hW.size,?_,?_,?_,?_,?_,?_⟩
 ·
  rw [wO (hp q hq)]; rw [zv (hp q hq)] at hL; exact h.Ie q hq hL
 ·
  rw [Ye]; intro _ e; cases e
 ·
  rw [PL]; intro _ _; exact ⟨a,c,ev,ev ▸ hown⟩
 ·
  rw [zv (i:=6) (j:=9) (by decide),zv (i:=6) (j:=10) (by decide),wO (i:=6) (j:=9) (by decide)];intro e9 Dt;obtain ⟨k,e1,h1,hk,hr⟩:=h.a9 e9 Dt;refine ⟨k,e1,h1,dt hk hW.size,hr.grown hg fun x hx e => ?_⟩;injection hx with hx;subst hx;have e2 : some k = some b:=e;injection e2 with e2;exact hne e9 (by rw [e1,e2])
 ·
  rw [zv (by decide),n10]; intro e; cases e
 ·
  intro _; rw [zv (i:=6) (j:=0) (by decide)]; exact h0
 rw [zv (by decide),n10]; intro e; cases e
theorem Cq.Yg (h : Cq T m xs ys ps B0 w6 L f W) (h6 : L 6 = true) (h9 : L 9 = true) (h10 : L 10 = false) (hp : ∀ q ∈ ps,q.1 ≠ 10) : ∃ a c k,f 6 = .slice a m c ∧ W.ownsRow B0 T 14 (.slice a m c) m xs ∧ f 9 = .slice (some ⟨k,0,none⟩) 2 2 ∧ Rd W 14 (.slice (some ⟨k,0,none⟩) 2 2) 2 ys ∧
  ∀ v W',W'.ownsRow B0 T 14 v (m + 2) (xs ++ ys) → W.grownBy W' (Value.slice a m c).ownBlock → Cq T m xs ys ps B0 w6 (CV L 10) (xP f 10 v) W':=by
 obtain ⟨a,c,e6,ho⟩:=h.a6 h6 h10;obtain ⟨k,e9,_,_,hr⟩:=h.a9 h9 h10;refine ⟨a,c,k,e6,ho,e9,hr,fun v W' hown hg => ?_⟩;obtain ⟨a',c',ev,_⟩:=zM hown;have hW : Below B0 W W':=zL (aj B0 W) ho h.sz hg;refine ⟨fun q hq hL => ?_,h.hb.trans hW,ak h.sz hW.size,?_,?_,?_,?_,?_,?_⟩
 ·
  rw [wO (hp q hq)]; rw [zv (hp q hq)] at hL; exact h.Ie q hq hL
 ·
  rw [zv (i:=10) (j:=6) (by decide),h6]; intro _ e; cases e
 ·
  rw [Ye]; intro _ e; cases e
 ·
  rw [Ye]; intro _ e; cases e
 ·
  rw [PL]; intro _; exact ⟨a',c',ev,ev ▸ hown⟩
 ·
  rw [zv (i:=10) (j:=6) (by decide),zv (i:=10) (j:=0) (by decide)]; exact h.d6
 rw [zv (i:=10) (j:=6) (by decide),zv (i:=10) (j:=9) (by decide)]; intro _; exact ⟨h6,h9⟩
end
end Go.Proofs.YtcgfilmmokmdjaaGreat
namespace Go.Proofs.YtcgfilmmokmdjaaGreat
open Go.RowKit
def RH (o : Nat) : List Value → List (Nat × Value)
 | [] => []
 | v :: r => (o,v) :: RH (o + 1) r
def PN (xs : List Value) (o : Nat) : List Value → List Value
 | [] => xs
 | v :: r => PN (xs.set o v) (o + 1) r
theorem zEP : ∀ (vs m a b : List Value),m.length = vs.length → PN (a ++ (m ++ b)) a.length vs = a ++ (vs ++ b)
 | [],m,a,b,h => by
  obtain rfl:=List.length_eq_zero_iff.1 h
  rfl
 | v :: r,[],a,b,h => by cases h
 | v :: r,x :: m,a,b,h => by
  show PN ((a ++ (x :: m ++ b)).set a.length v) (a.length + 1) r = _
  have e : (a ++ (x :: m ++ b)).set a.length v = (a ++ [v]) ++ (m ++ b):=by simp
  have:=zEP r m (a ++ [v]) b (by simpa using h);rw [e];rw [ax] at this
  simpa using this
theorem zDD {α : Type} (sz : Nat) (f : α → List Value) (hf : ∀ x,(f x).length = sz) (es : List α) (k : Nat) (hk : k < es.length) (y : α) : PN (es.flatMap f) (k * sz) (f y) = (es.set k y).flatMap f:=by
 have e0 : es = es.take k ++ es[k] :: es.drop (k + 1):=by
  rw [← dC hk,bN]
 have e1 : es.flatMap f = (es.take k).flatMap f ++ (f es[k] ++ (es.drop (k + 1)).flatMap f):=by
  have h1 : es.flatMap f = (es.take k ++ es[k] :: es.drop (k + 1)).flatMap f:=by rw [← e0]
  rw [h1,cC,cN]
 have e2 : ((es.take k).flatMap f).length = k * sz:=by
  rw [yV sz f _ (fun x _ => hf x),ay,bJ (by omega)]
 rw [e1,← e2,zEP _ _ _ _ (by rw [hf,hf]),List.set_eq_take_append_cons_drop,ag hk];simp
theorem zFG {B g n cap sz : Nat} {T : TypeId} : ∀ (vs : List Value) (o : Nat) (xs : List Value) (W : World),W.ownsRow B T sz (.slice (some ⟨g,0,none⟩) n cap) n xs →
  (pts W g (RH o vs)).ownsRow B T sz (.slice (some ⟨g,0,none⟩) n cap) n (PN xs o vs) ∧ W.grownBy (pts W g (RH o vs)) (some g)
 | [],_,_,W,h => ⟨h,rfl,rfl,rfl,ai _,fun _ _ _ => rfl⟩
 | v :: r,o,xs,W,h => by
  have h1:=h.stored o v;have h2:=zFG r (o + 1) _ _ h1.1;exact ⟨h2.1,zq h1.2 h2.2⟩
abbrev Dv (o : Nat) (n r md z : Int) (s : Sl) (l g : Int) : List (Nat × Value):=[(o,.int .i64 n),(o + 1,.int .i64 r),(o + 2,.int .i64 md),(o + 3,.int .i64 z),(o + 4,.slice (s.a 0) (s.n 0) (s.c 0)),(o + 5,.slice (s.a 1) (s.n 1) (s.c 1)),(o + 6,.slice (s.a 2) (s.n 2) (s.c 2)),(o + 7,.slice (s.a 3) (s.n 3) (s.c 3)),(o + 8,.slice (s.a 4) (s.n 4) (s.c 4)),(o + 9,.slice (s.a 5) (s.n 5) (s.c 5)),(o + 10,.slice (s.a 6) (s.n 6) (s.c 6)),(o + 11,.slice (s.a 7) (s.n 7) (s.c 7)),(o + 12,.int .i64 l),(o + 13,.int .i64 g)]
theorem zKz (o : Nat) (x : GP) : RH o (iY x) = Dv o x.1.num x.1.rev x.1.mode x.1.size x.2 x.1.m.live x.1.m.dZ:=rfl
theorem Yh {W : World} {B g n cap : Nat} {T : TypeId} {L : List GP} (h : W.ownsRow B T 14 (.slice (some ⟨g,0,none⟩) n cap) n (L.flatMap iY)) (k : Nat) (hk : k < L.length) (y : GP) :
  (pts W g (Dv (k * 14) y.1.num y.1.rev y.1.mode y.1.size y.2 y.1.m.live y.1.m.dZ)).ownsRow B T 14 (.slice (some ⟨g,0,none⟩) n cap) n ((L.set k y).flatMap iY) ∧
  W.grownBy (pts W g (Dv (k * 14) y.1.num y.1.rev y.1.mode y.1.size y.2 y.1.m.live y.1.m.dZ)) (some g):=by
 have h1:=zFG (iY y) (k * 14) _ W h;rw [zDD 14 iY kW L k hk y,zKz] at h1;exact h1
theorem ui {w : World} {B : Nat} {e : TypeId} {sz n cap : Nat} {a : Option Addr} {xs : List Value} (h : w.ownsRow B e sz (.slice a n cap) n xs) (hn : 0 < n) : ∃ g,a = some ⟨g,0,none⟩ ∧ B ≤ g ∧ g < w.heap.size:=by
 rcases h.2 with ⟨e,h0⟩ | ⟨g,_,cur,e,hb,hg,_⟩
 ·
  omega
 injection e with e _ _;exact ⟨g,e,hb,(Array.getElem?_eq_some_iff.1 hg).1⟩
theorem wW {w : World} {B : Nat} {e : TypeId} {sz n cap g : Nat} {xs : List Value} (h : w.ownsRow B e sz (.slice (some ⟨g,0,none⟩) n cap) n xs) (i : Nat) : w.frozen? ⟨g,i,none⟩ = false:=by
 rcases h.2 with ⟨e,_⟩ | ⟨g',c2,cur,h',hb,hg,_⟩
 ·
  cases e
 injection h' with h' _ _;injection h' with h';injection h' with h';subst h';unfold World.frozen?;rw [hg];simp
theorem Ul {w : World} {B n cap g : Nat} {T : TypeId} {L : List GP} (h : w.ownsRow B T 14 (.slice (some ⟨g,0,none⟩) n cap) n (L.flatMap iY)) (hn : n = L.length) {k : Nat} (hk : k < n) : Bb w g (k * 14) (pat L k):=by
 subst hn;have hS : ix 14 iY w _ L:=Vp (fun x _ => kW x) (by decide) h;obtain ⟨_,_,e,_,_,_,hc⟩:=hS.shape (by decide) N4;injection e with e1 e2 e3;obtain ⟨b,off,e4,hc⟩:=hc (by omega);rw [← e1] at e4;injection e4 with e4;injection e4 with e5 e6;subst e5 e6;have c:=hc k hk;simp only [aJ] at c;refine ⟨?_,c 1 _ rfl,c 2 _ rfl,c 3 _ rfl,c 4 _ rfl,c 5 _ rfl,c 6 _ rfl,c 7 _ rfl,c 8 _ rfl,c 9 _ rfl,c 10 _ rfl,c 11 _ rfl,c 12 _ rfl,c 13 _ rfl⟩;have:=c 0 _ rfl; rwa [bu] at this
theorem eH.Dw {W W' : World} {b g : Nat} {n r md z : Int} {s : Sl} {l q : Int} (h : eH W b n r md z s l q) (hg : W.grownBy W' (some g)) (hne : b ≠ g) : eH W' b n r md z s l q:=by
 have k : ∀ i u,W.cell? ⟨b,i,none⟩ = some u → W'.cell? ⟨b,i,none⟩ = some u:=fun i u hu => hg.cell hu (fun e => hne (by injection e))
 refine ⟨k _ _ h.n0,k _ _ h.n1,k _ _ h.n2,k _ _ h.n3,fun j hj => k _ _ (h.c j hj),k _ _ h.cl,k _ _ h.cg,fun i => ?_⟩;have e:=hg.block b h.lt (fun e => hne (by injection e));rw [← h.f i]; unfold World.frozen?; rw [e]
theorem fc.Dw {W W' : World} {b g : Nat} {i l : Int} {r : Bool} {a : Option Addr} {n c : Nat} (h : fc W b i l r a n c) (hg : W.grownBy W' (some g)) (hne : b ≠ g) : fc W' b i l r a n c:=by
 have k : ∀ i u,W.cell? ⟨b,i,none⟩ = some u → W'.cell? ⟨b,i,none⟩ = some u:=fun i u hu => hg.cell hu (fun e => hne (by injection e))
 refine ⟨k _ _ h.c0,k _ _ h.c1,k _ _ h.c2,k _ _ h.c3,fun i => ?_⟩;have e:=hg.block b h.lt (fun e => hne (by injection e));rw [← h.f i]; unfold World.frozen?; rw [e]
def jl (w0 : World) (p : eL × Int) (e : Ending) (w' : World) : Prop:=(∃ a n c L,e = .returned (.tuple #[ze p.1.id p.1.lim p.1.ro a n c,.int .i64 p.2]) ∧ fH w' (.slice a n c) L ∧ ea L = p.1.dW) ∧ Below w0.heap.size w0 w'
theorem fH.nil (w : World) : fH w (.slice none 0 0) []:=⟨ix.nil 14 iY w,fun p hp => by cases hp⟩
theorem jl.no {w0 w : World} {c : Int} (h : Below w0.heap.size w0 w) : jl w0 (wJ,c) (.returned (.tuple #[ze 0 0 false Option.none 0 0,.int .i64 c])) w:=⟨⟨Option.none,0,0,[],rfl,fH.nil _,rfl⟩,h⟩
theorem vI {L : List GP} {k : Nat} (h : fA k (ea L)) (hk : k ≤ 10000) : ∀ p ∈ L,∀ j,j < 8 → (p.1.m.st j).length ≤ 10000:=fun p hp j hj => ak (h p.1 (cU hp) j hj) hk
theorem zId (L : List GP) (k : Nat) : ea (L.take k) = (ea L).take k:=List.map_take ..
theorem zGR (L M : List GP) : ea (L ++ M) = ea L ++ ea M:=bE ..
theorem zGs {L : List GP} {k : Nat} (hk : k < L.length) (y : GP) (j : Nat) : pat (L.set k y) j = if j = k then y else pat L j:=by
 unfold pat;rw [aw,dK]
 by_cases e : k = j
 ·
  subst e; simp [hk]
 rw [ah e,ah (fun e' => e e'.symm),aw]
theorem RI {w : World} {B n : Nat} {v : Value} {T : TypeId} {L : List GP} (h : w.ownsRow B T 14 v n (L.flatMap iY)) (hn : n = L.length) (hm : ∀ p ∈ L,fq w p.2 p.1.m.st) : fH w v L:=by
 subst hn;exact ⟨Vp (fun x _ => kW x) (by decide) h,hm⟩
def qF (L : List GP) (y : GP) : List GP:=L.map fun x => if x.1.num = y.1.num then y else x
theorem zKh (L : List GP) (y : GP) : ea (qF L y) = uf (ea L) y.1:=by
 unfold qF uf ea;rw [List.map_map,List.map_map];refine List.map_congr_left fun x _ => ?_
 simp only [Function.comp_apply]
 split <;> rfl
theorem zFR {L : List GP} {y p : GP} (h : p ∈ qF L y) : p ∈ L ∨ p = y:=by
 obtain ⟨x,hx,e⟩:=List.mem_map.1 h
 by_cases c : x.1.num = y.1.num
 ·
  rw [ag c] at e; exact .inr e.symm
 rw [ah c] at e; exact .inl (e ▸ hx)
theorem t8 (L : List GP) (y : GP) : (qF L y).length = L.length:=aI ..
def uL (L : List GP) (y : GP) (k : Nat) : List GP:=qF (L.take k) y ++ L.drop k
theorem zHZ (L : List GP) (y : GP) : uL L y 0 = L:=rfl
theorem zJ2 (L : List GP) (y : GP) (k : Nat) (hk : k = L.length) : uL L y k = qF L y:=by
 subst hk;unfold uL;rw [aH (ai _),bY (ai _),bB]
theorem zFH (L : List GP) (y : GP) (k : Nat) : (uL L y k).length = L.length:=by
 unfold uL;rw [ax,t8,ay,aP]; omega
theorem zGu {L : List GP} {k : Nat} (hk : k < L.length) (y : GP) : pat (uL L y k) k = pat L k:=by
 unfold pat uL;rw [aw,dw (by rw [t8,ay]; omega),t8,ay,cL,aw]
 congr 2; omega
theorem zC0 {L : List GP} {k : Nat} (hk : k < L.length) (y : GP) : uL L y (k + 1) = (uL L y k).set k (if (pat L k).1.num = y.1.num then y else pat L k):=by
 have e0 : L.drop k = pat L k :: L.drop (k + 1):=by
  rw [dC hk];unfold pat;rw [aw,aB hk]; rfl
 have e1 : L.take (k + 1) = L.take k ++ [pat L k]:=by
  rw [cz,aB hk];unfold pat;rw [aw,aB hk]; rfl
 unfold uL;have hl : (qF (L.take k) y).length = k:=by rw [t8,ay]; omega
 rw [e0,e1,List.set_append_right _ _ (by omega),hl,Nat.sub_self];unfold qF;rw [bE,a_]
 rfl
theorem zIE {L : List GP} {k : Nat} (hk : k < L.length) (y : GP) (h : (pat L k).1.num ≠ y.1.num) : uL L y (k + 1) = uL L y k:=by
 rw [zC0 hk,ah h];apply List.ext_getElem?;intro i;rw [dK]
 by_cases e : k = i
 ·
  subst e;have hk2 : k < (uL L y k).length:=by rw [zFH]; exact hk
  have h1:=zGu hk y;have h2 : pat (uL L y k) k = (uL L y k)[k]:=by
   unfold pat;rw [aw,aB hk2]; rfl
  simp only [hk2,if_true,aB hk2];rw [← h2,h1]
 rw [ah e]
def uv (L : List GP) (num : Int) (k : Nat) : Bool:=(L.take k).any fun x => decide (x.1.num = num)
theorem zHi {L : List GP} {k : Nat} (hk : k < L.length) (num : Int) : uv L num (k + 1) = (uv L num k || decide ((pat L k).1.num = num)):=by
 unfold uv pat;rw [cz,aB hk,List.any_append,aw,aB hk];simp
theorem Yi (L : List GP) (num : Int) (k : Nat) (hk : k = L.length) : uv L num k = (ea L).any fun x => decide (x.num = num):=by
 subst hk;unfold uv ea;rw [aH (ai _),List.any_map]
 rfl
theorem Um : wK Tryz.prog 29 113 14 240:=by
 obtain ⟨i,hi,hz,hs,hb⟩:=b_ (P:=Tryz.prog) (e:=113) (z:=zV 0 0 0 0 Sl.nil 0 0) (size:=14) (bytes:=240) (by kernel_rfl);exact ⟨Tryz.underlying29,by decide,i,_,hi,hz,hs,hb,rfl⟩
theorem Un (x : GP) : ∀ u ∈ iY x,u.oneCell' = true:=by
 intro u hu;simp only [iY,cA,cB,or_false] at hu;rcases hu with h | h | h | h | h | h | h | h | h | h | h | h | h | h <;> rw [h] <;> rfl
theorem Yj (L : List GP) : ∀ u ∈ L.flatMap iY,u.oneCell' = true:=fun u hu => by
 obtain ⟨x,_,h⟩:=List.mem_flatMap.1 hu;exact Un x u h
theorem Uo (w : World) (i l : Int) (r : Bool) (a : Option Addr) (n c : Nat) (t : TypeId) : ∃ W,(w.alloc (.cells (zN i l r a n c) t)).alloc (.cells (zN 0 0 false none 0 0) t) = W ∧ fc W w.heap.size i l r a n c ∧ fc W (w.heap.size + 1) 0 0 false none 0 0 ∧ Below w.heap.size w W:=by
 refine ⟨_,rfl,(fc.new w i l r a n c t).below (zS _ 0 0 false none 0 0 t),?_,zA (zS w i l r a n c t) (zS _ 0 0 false none 0 0 t)⟩;have:=fc.new (w.alloc (.cells (zN i l r a n c) t)) 0 0 false none 0 0 t
 rwa [dI] at this
theorem fc.eD {W : World} {b d : Nat} {i l : Int} {r : Bool} {a : Option Addr} {n c : Nat} (h : fc W b i l r a n c) (hp : b ≠ d) (vs : List (Nat × Value)) : fc (pts W d vs) b i l r a n c:=
 ⟨(z8 (p:=⟨b,0,none⟩) hp vs W).trans h.c0,(z8 (p:=⟨b,1,none⟩) hp vs W).trans h.c1,(z8 (p:=⟨b,2,none⟩) hp vs W).trans h.c2,(z8 (p:=⟨b,3,none⟩) hp vs W).trans h.c3,fun i => (xZ _ vs W).trans (h.f i)⟩
theorem fc.Lt {W : World} {b : Nat} {i l : Int} {r : Bool} {a : Option Addr} {n c : Nat} (h : fc W b i l r a n c) (a' : Option Addr) (n' c' : Nat) : fc (W.setCell ⟨b,3,none⟩ (.slice a' n' c')) b i l r a' n' c':=by
 have a3:=h.c3;have ne : ∀ i,i ≠ 3 → ∀ u,W.cell? ⟨b,i,none⟩ = some u → (W.setCell ⟨b,3,none⟩ (.slice a' n' c')).cell? ⟨b,i,none⟩ = some u:=fun i hi u hu => (cu (h:=fun e => hi (by injection e with _ e _; exact e.symm)) ..).trans hu
 exact ⟨ne 0 (by decide) _ h.c0,ne 1 (by decide) _ h.c1,ne 2 (by decide) _ h.c2,by simp [go_sem,a3],fun i => by rw [← h.f i]; simp⟩
theorem zKt (i l : Int) (r : Bool) (a : Option Addr) (n c : Nat) (L : List GP) (w : World) (h : fH w (.slice a n c) L) (hs : ∀ p ∈ L,∀ j,j < 8 → (p.1.m.st j).length ≤ 10000) (hv : zd ⟨i,l,r,ea L⟩ = false) :
  Calls Tryz.prog 45 #[ze i l r a n c] w (jl w (vZ ⟨i,l,r,ea L⟩)):=by
 have gH:=zh (fun W (hb : Below w.heap.size w W) => xY i l r a n c L W (h.below hb) hs);have HC:=zh (show vZ ⟨i,l,r,ea L⟩ = (wJ,1) by unfold vZ; rw [hv]; rfl);rw [hv] at gH;clear h hs hv
 go_enter Tryz.func45,Tryz.ntmps45
 go_upto_region 1 with fail;change Code.wp _ _ _ _ ((w.alloc (.cells (zN i l r a n c) 31)).alloc (.cells (zN 0 0 false none 0 0) 31));obtain ⟨W,hW,fF,hbr,fP⟩:=Uo w i l r a n c 31;rw [hW];have HX:=zh fF;have HR:=zh hbr;have HB:=zh fP;clear hW fF hbr fP;obtain ⟨k0,k1,k2,k3⟩:=HX.out.q;go_wp2_with fail;refine (gH.out _ HB.out).mono ?_;rintro e w1 ⟨rfl,hb⟩;replace HX:=zh (HX.out.below hb);replace HR:=zh (HR.out.below hb);replace HB:=zh (zA HB.out hb);clear hb;clear k0 k1 k2 k3;obtain ⟨z0,z1,z2,z3⟩:=HR.out.q;have zf:=HR.out.f;go_wp2_with fail;change bodyPost _ _ _ _ _ (pts w1 (w.heap.size + 1) (zP 0 0 false none 0 0));have hby:=HR.out.all 0 0 false none 0 0;have ey:=zh (zD (B:=w.heap.size) (b:=(w.heap.size + 1)) (by omega) (zP 0 0 false none 0 0) HB.out);generalize pts w1 (w.heap.size + 1) (zP 0 0 false none 0 0) = V at *
 exact au (v:=.tuple #[ze 0 0 false none 0 0,.int .i64 1]) (by simp [results,Tryz.results45,go_sem,hby.c0,hby.c1,hby.c2,hby.c3]) rfl (by rw [HC.out]; exact jl.no ey.out)
theorem zHq (i l : Int) (r : Bool) (a : Option Addr) (n c : Nat) (L : List GP) (w : World) (h : fH w (.slice a n c) L) (hs : ∀ p ∈ L,∀ j,j < 8 → (p.1.m.st j).length ≤ 10000) (hv : zd ⟨i,l,r,ea L⟩ = true) (Em : ¬ (zK ⟨i,l,r,ea L⟩).num < 8) :
  Calls Tryz.prog 45 #[ze i l r a n c] w (jl w (vZ ⟨i,l,r,ea L⟩)):=by
 have gH:=zh (fun W (hb : Below w.heap.size w W) => xY i l r a n c L W (h.below hb) hs);have PO:=zh (fun W (hb : Below w.heap.size w W) => zAx i l r a n c L W (h.below hb) hs);have HC:=zh (show vZ ⟨i,l,r,ea L⟩ = (wJ,9) by unfold vZ; rw [ag hv,ah Em]);rw [hv] at gH;rw [show wh ⟨i,l,r,ea L⟩ = false by unfold wh; rw [hv]; simpa using Em] at PO;clear h hs hv Em
 go_enter Tryz.func45,Tryz.ntmps45
 go_upto_region 1 with fail;change Code.wp _ _ _ _ ((w.alloc (.cells (zN i l r a n c) 31)).alloc (.cells (zN 0 0 false none 0 0) 31));obtain ⟨W,hW,fF,hbr,fP⟩:=Uo w i l r a n c 31;rw [hW];have HX:=zh fF;have HR:=zh hbr;have HB:=zh fP;clear hW fF hbr fP;obtain ⟨k0,k1,k2,k3⟩:=HX.out.q;go_wp2_with fail;refine (gH.out _ HB.out).mono ?_;rintro e w1 ⟨rfl,hb⟩;replace HX:=zh (HX.out.below hb);replace HR:=zh (HR.out.below hb);replace HB:=zh (zA HB.out hb);clear hb;clear k0 k1 k2 k3;obtain ⟨k0,k1,k2,k3⟩:=HX.out.q;go_wp2_with fail;refine (PO.out _ HB.out).mono ?_;rintro e w2 ⟨rfl,hb⟩;replace HX:=zh (HX.out.below hb);replace HR:=zh (HR.out.below hb);replace HB:=zh (zA HB.out hb);clear hb;clear k0 k1 k2 k3;obtain ⟨z0,z1,z2,z3⟩:=HR.out.q;have zf:=HR.out.f;go_wp2_with fail;change bodyPost _ _ _ _ _ (pts w2 (w.heap.size + 1) (zP 0 0 false none 0 0))
 have hby:=HR.out.all 0 0 false none 0 0;have ey:=zh (zD (B:=w.heap.size) (b:=(w.heap.size + 1)) (by omega) (zP 0 0 false none 0 0) HB.out);generalize pts w2 (w.heap.size + 1) (zP 0 0 false none 0 0) = V at *;exact au (v:=.tuple #[ze 0 0 false none 0 0,.int .i64 9]) (by simp [results,Tryz.results45,go_sem,hby.c0,hby.c1,hby.c2,hby.c3]) rfl (by rw [HC.out]; exact jl.no ey.out)
theorem zKc (i l : Int) (r : Bool) (a : Option Addr) (n c : Nat) (L : List GP) (w : World) (h : fH w (.slice a n c) L) (hs : ∀ p ∈ L,∀ j,j < 8 → (p.1.m.st j).length ≤ 10000) (hv : zd ⟨i,l,r,ea L⟩ = true) (Em : (zK ⟨i,l,r,ea L⟩).num < 8) :
  Calls Tryz.prog 45 #[ze i l r a n c] w (jl w (vZ ⟨i,l,r,ea L⟩)):=by
 have gH:=zh (fun W (hb : Below w.heap.size w W) => xY i l r a n c L W (h.below hb) hs);have PO:=zh (fun W (hb : Below w.heap.size w W) => zAx i l r a n c L W (h.below hb) hs);have hV:=(zZ _).1 hv;obtain ⟨Up,Yk,_⟩:=hV.Cl;have gy : L.length = n:=by
  obtain ⟨_,_,e,_⟩:=h.shape;injection e with _ e _; exact e.symm
 have hl : (ea L).length = n:=by rw [yB,gy]
 have hn : 1 ≤ n ∧ n ≤ 8:=by have:=hV.len; simp only [hl] at this; exact this
 obtain ⟨j,rfl⟩ : ∃ j,n = j + 1:=⟨n - 1,by omega⟩
 have hC : vZ ⟨i,l,r,ea L⟩ = (⟨i,l,r,(ea L).take j ++ [{ zK ⟨i,l,r,ea L⟩ with mode:=2 },fresh ((zK ⟨i,l,r,ea L⟩).num + 1)]⟩,0):=by
  unfold vZ; rw [ag hv,ag Em]
  show ((⟨i,l,r,(ea L).take ((ea L).length - 1) ++ _⟩ : eL),(0 : Int)) = _
  rw [hl]; rfl
 rw [hv] at gH;rw [show wh ⟨i,l,r,ea L⟩ = true by unfold wh; rw [hv]; simpa using Em] at PO;have hmem:=xN (l:=L) (i:=j) (by omega);have jk:=Up.num;have mJ:=zh (h.m _ hmem);have Yl:=zh (fun W (hb : Below w.heap.size w W) => zFK (pat L j).1 (pat L j).2 W ((h.m _ hmem).below hb) (hs _ hmem));rw [ul gy] at hC Up Yk Em jk;rw [show xl (pat L j).1 1 = (0,{ (pat L j).1 with mode:=1 + 1 }) from by unfold xl; rw [ag ((yF _).2 Up),ag Yk]] at Yl;have RJ:=zh (fun p (hp : p ∈ L.take j) => h.m p (aY hp))
 have lU:=zh (show Rd w 14 (.slice a j c) j ((L.take j).flatMap iY) from by
  have h0:=ix.take h.r j (by omega)
  have hlt : (L.take j).length = j:=by rw [ay]; omega
  have h1:=h0.2
  rwa [hlt] at h1)
 have HC:=zh hC;have Wx:=zh (show (ea (L.take j)) = (ea L).take j from zId L j);have Hlt:=zh (show (L.take j).length = j by rw [ay]; omega);have hcap : j ≤ c:=by
  obtain ⟨_,_,e,h1,_⟩:=h.shape;injection e with _ _ e;rw [e]; omega
 have lz:=zh h;clear hV gy hl hv hs hmem hC Up h;obtain ⟨b,off,rfl,hg⟩:=lz.out.at (show j < j + 1 by omega);have HG:=zh hg;clear hg lz;generalize pat L j = p at *;generalize ea L = GL at *;generalize L.take j = LT at *;obtain ⟨⟨num,rev,md,sz,⟨f,LV,GA⟩⟩,s⟩:=p;dsimp only at *;subst Yk;have Jt:=yX (P:=Tryz.prog) Um (a:=some ⟨b,off,none⟩) (n:=j + 1) (cap:=c) (fun x hx => ⟨b,off,by injection hx with hx; exact hx.symm⟩) j hcap
 go_enter Tryz.func45,Tryz.ntmps45
 go_upto_region 1 with fail;change Code.wp _ _ _ _ ((w.alloc (.cells (zN i l r (some ⟨b,off,none⟩) (j + 1) c) 31)).alloc (.cells (zN 0 0 false none 0 0) 31));obtain ⟨W,hW,fF,hbr,fP⟩:=Uo w i l r (some ⟨b,off,none⟩) (j + 1) c 31;rw [hW];have HX:=zh fF;have HR:=zh hbr;have HB:=zh fP;clear hW fF hbr fP;have hB0 : w.heap.size + 2 ≤ W.heap.size:=by have:=HR.out.lt; omega
 obtain ⟨k0,k1,k2,k3⟩:=HX.out.q;go_wp2_with fail;refine (gH.out _ HB.out).mono ?_;rintro e w1 ⟨rfl,hb⟩;replace HX:=zh (HX.out.below hb);replace HR:=zh (HR.out.below hb);replace HB:=zh (zA HB.out hb);have hB1:=ak hB0 hb.size;clear hb gH;clear k0 k1 k2 k3;obtain ⟨k0,k1,k2,k3⟩:=HX.out.q;go_wp2_with fail;refine (PO.out _ HB.out).mono ?_;rintro e w2 ⟨rfl,hb⟩;replace HX:=zh (HX.out.below hb);replace HR:=zh (HR.out.below hb);replace HB:=zh (zA HB.out hb);have hB2:=ak hB1 hb.size;clear hb PO;clear k0 k1 k2 k3;have j3 : IntKind.i64.wrap (j : Int) = (j : Int):=aF _ (by omega);have i2 : (j : Int) < ((j + 1 : Nat) : Int):=by omega
 replace HG:=zh (HG.out.below HB.out);have k3:=HX.out.c3;obtain ⟨g0,g1,g2,g3,g4,g5,g6,g7,g8,g9,g10,g11,g12,g13⟩:=HG.out.q
 try dsimp only at g0 g1 g2 g3 g4 g5 g6 g7 g8 g9 g10 g11 g12 g13
 go_wp2_with fail;refine (Yl.out _ HB.out).mono ?_;rintro e w3 ⟨⟨t,rfl,hro⟩,hb⟩;dsimp only at hro ⊢;clear g0 g1 g2 g3 g4 g5 g6 g7 g8 g9 g10 g11 g12 g13;clear k3;have Mt:=ak hB2 hb.size;replace HX:=zh (HX.out.below hb);replace HR:=zh (HR.out.below hb);replace HB:=zh (zA HB.out hb);have Lu:=zh hro;clear hro hb Yl HG;go_upto_region 7 with fail;change Code.wp _ _ _ _ (w3.alloc (.cells (zQ num rev 2 sz t LV GA) 113));have eU:=zb w3 num rev 2 sz t LV GA 113;have XO:=zh (eH.new w3 num rev 2 sz t LV GA 113);replace HX:=zh (HX.out.below eU);replace HR:=zh (HR.out.below eU);replace HB:=zh (zA HB.out eU);replace Lu:=zh (Lu.out.keep eU);have C1:=ak Mt eU.size;clear eU;generalize w3.alloc (.cells (zQ num rev 2 sz t LV GA) 113) = w4 at *;generalize w3.heap.size = b4 at *;have q0:=XO.out.n0;go_wp2_with fail;refine (zCA (num + 1) (by omega) w4).mono ?_;rintro e w5 ⟨rfl,hb⟩
 clear q0;have hB5:=ak C1 hb.size;replace HX:=zh (HX.out.below hb);replace HR:=zh (HR.out.below hb);replace HB:=zh (zA HB.out hb);replace Lu:=zh (Lu.out.keep hb);replace XO:=zh (XO.out.below hb);clear hb;go_upto_region 8 with fail;change Code.wp _ _ _ _ (w5.alloc (.cells (zQ (num + 1) 0 1 16 Sl.nil 0 0) 113));have eU:=zb w5 (num + 1) 0 1 16 Sl.nil 0 0 113;have XF:=zh (eH.new w5 (num + 1) 0 1 16 Sl.nil 0 0 113);replace HX:=zh (HX.out.below eU);replace HR:=zh (HR.out.below eU);replace HB:=zh (zA HB.out eU);replace Lu:=zh (Lu.out.keep eU);replace XO:=zh (XO.out.below eU);have Ym:=ak hB5 eU.size;clear eU;generalize w5.alloc (.cells (zQ (num + 1) 0 1 16 Sl.nil 0 0) 113) = w6 at *;generalize w5.heap.size = b6 at *;have Yn:=zh (lU.out.below HB.out);have l6:=zh (Yj LT)
 have RK:=zh (show ∀ u ∈ (iY (⟨num,rev,2,sz,⟨f,LV,GA⟩⟩,t) ++ iY (fresh (num + 1),Sl.nil)),u.oneCell' = true from fun u hu => by rcases List.mem_append.1 hu with h | h <;> exact Un _ u h);refine kG 12 (fun L f' W => Cq 113 j (LT.flatMap iY) (iY (⟨num,rev,2,sz,⟨f,LV,GA⟩⟩,t) ++ iY (fresh (num + 1),Sl.nil)) [(1,.pointer (some ⟨w.heap.size,3,none⟩)),(2,.slice (some ⟨b,off,none⟩) (j + 1) c),(3,.int .i64 ((j : Int) + 1)),(4,.int .i64 (j : Int)),(5,.slice (some ⟨b,off,none⟩) j c),(7,zV num rev 2 sz t LV GA),(8,zV (num + 1) 0 1 16 Sl.nil 0 0),(11,.pointer (some ⟨w.heap.size,3,none⟩))] w6.heap.size w6 L f' W) 50 (by kernel_rfl) (by kernel_rfl) (by rfl) (by kernel_rfl) (fun f => by simp [fD,zW,Act.put]; exact rfl) (fun f => Cq.start rfl f) ?_ ?_
 ·
  refine ⟨?_,?_,?_,?_,?_,?_,?_,?_,?_,?_,?_,?_,trivial⟩
  ·
   intro L f' w7 h0 hd hI;have jT:=zh hI;clear hI hd;dsimp only;go_wp2_with fail;exact ⟨rfl,(fun h => by cases h),fun t ht => by injection ht with ht; subst ht; exact jT.out.zero h0 (by simp)⟩
  ·
   intro L f' w7 h0 hd hI;have jT:=zh hI;clear hI hd;dsimp only;go_wp2_with fail;exact ⟨rfl,(fun h => by cases h),fun t ht => by injection ht with ht; subst ht; exact jT.out.pure (v:=.pointer (some ⟨w.heap.size,3,none⟩)) (by decide) (by decide) (by decide) (by decide) (by simp)⟩
  ·
   intro L f' w7 h0 hd hI;have jT:=zh hI;have d1 : f' 1 = .pointer (some ⟨w.heap.size,3,none⟩):=hI.Ie (1,.pointer (some ⟨w.heap.size,3,none⟩)) (by simp) (hd 1 (by kernel_rfl));have z3:=(HX.out.below hI.hb).c3;clear hI hd;dsimp only;rw [d1];go_wp2_with fail;exact ⟨rfl,(fun h => by cases h),fun t ht => by injection ht with ht; subst ht; exact jT.out.pure (v:=.slice (some ⟨b,off,none⟩) (j + 1) c) (by decide) (by decide) (by decide) (by decide) (by simp)⟩
  ·
   intro L f' w7 h0 hd hI;have jT:=zh hI;clear hI hd;dsimp only;go_wp2_with fail;exact ⟨rfl,(fun h => by cases h),fun t ht => by injection ht with ht; subst ht; exact jT.out.pure (v:=.int .i64 ((j : Int) + 1)) (by decide) (by decide) (by decide) (by decide) (by simp)⟩
  ·
   intro L f' w7 h0 hd hI;have jT:=zh hI;have d3 : f' 3 = .int .i64 ((j : Int) + 1):=hI.Ie (3,.int .i64 ((j : Int) + 1)) (by simp) (hd 3 (by kernel_rfl));clear hI hd;dsimp only;rw [d3];go_wp2_with fail;exact ⟨rfl,(fun h => by cases h),fun t ht => by injection ht with ht; subst ht; exact jT.out.pure (v:=.int .i64 (j : Int)) (by decide) (by decide) (by decide) (by decide) (by simp)⟩
  ·
   intro L f' w7 h0 hd hI;have jT:=zh hI;have d2 : f' 2 = .slice (some ⟨b,off,none⟩) (j + 1) c:=hI.Ie (2,.slice (some ⟨b,off,none⟩) (j + 1) c) (by simp) (hd 2 (by kernel_rfl));have d4 : f' 4 = .int .i64 (j : Int):=hI.Ie (4,.int .i64 (j : Int)) (by simp) (hd 4 (by kernel_rfl));clear hI hd;dsimp only;rw [d2];rw [d4];go_wp2_with fail;exact ⟨rfl,(fun h => by cases h),fun t ht => by injection ht with ht; subst ht; exact jT.out.pure (v:=.slice (some ⟨b,off,none⟩) j c) (by decide) (by decide) (by decide) (by decide) (by simp)⟩
  ·
   intro L f' w7 h0 hd hI;have jT:=zh hI;have d5 : f' 5 = .slice (some ⟨b,off,none⟩) j c:=hI.Ie (5,.slice (some ⟨b,off,none⟩) j c) (by simp) (hd 5 (by kernel_rfl));obtain ⟨bz,e0,hown,hk⟩:=hI.Yf (hd 0 (by kernel_rfl)) h0 (by simp);have gJ:=Yn.out.below hI.hb;have hsz:=hI.sz;have HK:=zh hk;clear hI hd hk;dsimp only;rw [d5,e0];refine zi rfl (.tmp 37) (.tmp 42) 29 rfl Um w6.heap.size rfl hown rfl gJ l6.out (by unfold maxLen; omega) (by omega) hsz ?_;intro v' w8 hown' Ob _;rw [aJ,bV] at hown';have HQ:=zh (HK.out _ _ hown' Ob);exact ⟨rfl,(fun h => by cases h),fun t ht => by injection ht with ht; subst ht; exact HQ.out⟩
  ·
   intro L f' w7 h0 hd hI;have jT:=zh hI;have zo:=XO.out.below hI.hb;obtain ⟨g0,g1,g2,g3,g4,g5,g6,g7,g8,g9,g10,g11,g12,g13⟩:=zo.q;clear zo;clear hI hd;dsimp only;go_wp2_with fail;exact ⟨rfl,(fun h => by cases h),fun t ht => by injection ht with ht; subst ht; exact jT.out.pure (v:=zV num rev 2 sz t LV GA) (by decide) (by decide) (by decide) (by decide) (by simp)⟩
  ·
   intro L f' w7 h0 hd hI;have jT:=zh hI;have zo:=XF.out.below hI.hb;obtain ⟨g0,g1,g2,g3,g4,g5,g6,g7,g8,g9,g10,g11,g12,g13⟩:=zo.q;clear zo;clear hI hd;dsimp only;go_wp2_with fail;exact ⟨rfl,(fun h => by cases h),fun t ht => by injection ht with ht; subst ht; exact jT.out.pure (v:=zV (num + 1) 0 1 16 Sl.nil 0 0) (by decide) (by decide) (by decide) (by decide) (by simp)⟩
  ·
   intro L f' w7 h0 hd hI;have jT:=zh hI;have d7 : f' 7 = zV num rev 2 sz t LV GA:=hI.Ie (7,zV num rev 2 sz t LV GA) (by simp) (hd 7 (by kernel_rfl));have d8 : f' 8 = zV (num + 1) 0 1 16 Sl.nil 0 0:=hI.Ie (8,zV (num + 1) 0 1 16 Sl.nil 0 0) (by simp) (hd 8 (by kernel_rfl));clear hI hd;dsimp only;rw [d7,d8];go_wp2_with fail;exact ⟨rfl,(fun h => by cases h),fun t ht => by injection ht with ht; subst ht; exact jT.out.two h0 rfl (by simp)⟩
  ·
   intro L f' w7 h0 hd hI;have jT:=zh hI;obtain ⟨ra,rc,kz,e6,hown,e9,gJ,hk⟩:=hI.Yg (hd 6 (by kernel_rfl)) (hd 9 (by kernel_rfl)) h0 (by simp);have hsz:=hI.sz;have HK:=zh hk;clear hI hd hk;dsimp only;rw [e6,e9];refine zi rfl (.tmp 43) (.tmp 46) 29 rfl Um w6.heap.size rfl hown rfl gJ RK.out (by unfold maxLen; omega) (by omega) hsz ?_;intro v' w8 hown' Ob _;have HQ:=zh (HK.out _ _ hown' Ob);exact ⟨rfl,(fun h => by cases h),fun t ht => by injection ht with ht; subst ht; exact HQ.out⟩
  intro L f' w7 h0 hd hI;have jT:=zh hI;clear hI hd;dsimp only;go_wp2_with fail;exact ⟨rfl,(fun h => by cases h),fun t ht => by injection ht with ht; subst ht; exact jT.out.pure (v:=.pointer (some ⟨w.heap.size,3,none⟩)) (by decide) (by decide) (by decide) (by decide) (by simp)⟩
 intro L f' w7 hA hI;obtain ⟨ra,rc,Dt,hown⟩:=hI.RF (hA 10 (by decide));have d11 : f' 11 = .pointer (some ⟨w.heap.size,3,none⟩):=hI.Ie (11,.pointer (some ⟨w.heap.size,3,none⟩)) (by simp) (hA 11 (by decide));have Uq:=zh hI.hb;have hsz:=hI.sz;have E4:=zh hown;clear hI hA hown
 try dsimp only
 rw [Dt,d11];replace HX:=zh (HX.out.below Uq.out);replace HR:=zh (HR.out.below Uq.out);replace HB:=zh (zA HB.out Uq.out);replace Lu:=zh (Lu.out.keep Uq.out);have z3:=HX.out.c3;have zf:=HX.out.f;go_upto_region 9 with fail;clear z3 zf;have C8:=zh (show fc (pts w7 w.heap.size [(3,.slice ra (j + 2) rc)]) w.heap.size i l r ra (j + 2) rc from HX.out.Lt ra (j + 2) rc);have PQ:=zh (HR.out.eD (d:=w.heap.size) (by omega) [(3,.slice ra (j + 2) rc)]);have mF:=zh (zD (B:=w.heap.size) (b:=w.heap.size) (ai _) [(3,.slice ra (j + 2) rc)] HB.out);have A_:=zh (vY (b:=w.heap.size) (by omega) E4.out [(3,.slice ra (j + 2) rc)]);have HM8:=zh (show ∀ p ∈ LT,fq (pts w7 w.heap.size [(3,.slice ra (j + 2) rc)]) p.2 p.1.m.st from fun p hp => (RJ.out p hp).below mF.out);have HT8:=zh (Lu.out.pts (b:=w.heap.size) (by omega) [(3,.slice ra (j + 2) rc)])
 change Code.wp _ _ _ _ (pts w7 w.heap.size [(3,.slice ra (j + 2) rc)]);generalize pts w7 w.heap.size [(3,.slice ra (j + 2) rc)] = w8 at *;obtain ⟨k0,k1,k2,k3⟩:=C8.out.q;obtain ⟨z0,z1,z2,z3⟩:=PQ.out.q;have zf:=PQ.out.f;go_wp2_with fail;change bodyPost _ _ _ _ _ (pts w8 (w.heap.size + 1) (zP i l r ra (j + 2) rc))
 have Rv:=zh (show fH (pts w8 (w.heap.size + 1) (zP i l r ra (j + 2) rc)) (.slice ra (j + 2) rc) (LT ++ [(⟨num,rev,2,sz,⟨f,LV,GA⟩⟩,t),(fresh (num + 1),Sl.nil)]) from RI (B:=w6.heap.size) (T:=113) (by
  rw [cC,show [((⟨num,rev,2,sz,⟨f,LV,GA⟩⟩ : Gn),t),(fresh (num + 1),Sl.nil)].flatMap iY = (iY (⟨num,rev,2,sz,⟨f,LV,GA⟩⟩,t) ++ iY (fresh (num + 1),Sl.nil)) from rfl]
  exact vY (b:=w.heap.size + 1) (by omega) A_.out _) (by rw [ax,Hlt.out]; rfl) (fun p hp => by
  rcases List.mem_append.1 hp with hp | hp
  ·
   exact (RJ.out p hp).below (zD (B:=w.heap.size) (b:=w.heap.size + 1) (by omega) (zP i l r ra (j + 2) rc) mF.out)
  simp only [cA,cB,or_false] at hp
  rcases hp with rfl | rfl
  ·
   exact (HT8.out.pts (b:=w.heap.size + 1) (by omega) (zP i l r ra (j + 2) rc)).rd mJ.out (zD (B:=w.heap.size) (b:=w.heap.size + 1) (by omega) (zP i l r ra (j + 2) rc) mF.out)
  exact TX _))
 have hby:=PQ.out.all i l r ra (j + 2) rc;have ey:=zh (zD (B:=w.heap.size) (b:=(w.heap.size + 1)) (by omega) (zP i l r ra (j + 2) rc) mF.out);generalize pts w8 (w.heap.size + 1) (zP i l r ra (j + 2) rc) = V at *;exact au (v:=.tuple #[ze i l r ra (j + 2) rc,.int .i64 0]) (by simp [results,Tryz.results45,go_sem,hby.c0,hby.c1,hby.c2,hby.c3]) rfl (by rw [HC.out]; exact ⟨⟨ra,j + 2,rc,LT ++ [(⟨num,rev,2,sz,⟨f,LV,GA⟩⟩,t),(fresh (num + 1),Sl.nil)],rfl,Rv.out,by rw [zGR,Wx.out]; rfl⟩,ey.out⟩)
theorem zKa (i l : Int) (r : Bool) (a : Option Addr) (n c : Nat) (L : List GP) (w : World) (h : fH w (.slice a n c) L) (hs : ∀ p ∈ L,∀ j,j < 8 → (p.1.m.st j).length ≤ 10000) : Calls Tryz.prog 45 #[ze i l r a n c] w (jl w (vZ ⟨i,l,r,ea L⟩)):=by
 cases hv : zd ⟨i,l,r,ea L⟩
 ·
  exact zKt i l r a n c L w h hs hv
 by_cases Em : (zK ⟨i,l,r,ea L⟩).num < 8
 ·
  exact zKc i l r a n c L w h hs hv Em
 exact zHq i l r a n c L w h hs hv Em
end Go.Proofs.YtcgfilmmokmdjaaGreat
