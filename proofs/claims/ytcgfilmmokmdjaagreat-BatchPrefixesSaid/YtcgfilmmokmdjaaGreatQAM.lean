/- A part of the walk. -/
import Derived.Test.YtcgfilmmokmdjaaGreatVw
import Derived.Test.YtcgfilmmokmdjaaGreatQAI
import Derived.Laws.Bits64
import Derived.Laws.Bits64b
import Derived.Test.YtcgfilmmokmdjaaGreatQAL
import Derived.RangeFuncBox
import Derived.RangeFuncLeaves
import Derived.Shelf.Abstract
import Derived.OwnWalkIn
import Derived.TacticsInMore
import Derived.LoopNIn
import Derived.LoopIn
import Derived.RangeFuncNested
set_option linter.all false
set_option maxRecDepth 100000
set_option maxHeartbeats 32000000
namespace Go.Proofs.YtcgfilmmokmdjaaGreat
open Go.RowKit
theorem yU (i l : Int) (r : Bool) (a : Option Addr) (n c : Nat) (L : List GP) (w : World) (h : fH w (.slice a n c) L) (hs : ∀ p ∈ L,∀ j,j < 8 → (p.1.m.st j).length ≤ 10000) :
  Calls Tryz.prog 47 #[ze i l r a n c] w fun e w' => e = .returned (.bool (zd ⟨i,l,r,ea L⟩)) ∧ Below w.heap.size w w':=by
 have gy : L.length = n:=by
  obtain ⟨_,_,e,_⟩:=h.shape;injection e with _ e _; exact e.symm
 by_cases hA : 0 ≤ i ∧ i < 4 ∧ 4136 ≤ l ∧ l ≤ 262144
 ·
  by_cases hn : 1 ≤ n ∧ n ≤ 8
  ·
   exact zF3 i l r a n c L w hA hn h hs
  have hf : zd ⟨i,l,r,ea L⟩ = false:=qm fun hv => hn (by have:=hv.len; rw [yB,gy] at this; exact this)
  rw [hf];exact zF5 i l r a n c w hA (by omega)
 have hf : zd ⟨i,l,r,ea L⟩ = false:=qm fun hv => hA ⟨hv.id.1,hv.id.2,hv.lim.1,hv.lim.2⟩
 rw [hf];exact zFs i l r a n c w hA
def xk (key : Int) : Int:=bits .xor .u64 (bits .and .u64 key 4294967295) (key / 4294967296)
def H8 : List GP:=[(fresh 1,Sl.nil)]
theorem Ua (i l : Int) (r : Bool) (hA : 0 ≤ i ∧ i < 4 ∧ 4136 ≤ l ∧ l ≤ 262144) : zd ⟨i,l,r,ea H8⟩ = true:=by
 rw [zZ];have hl : (ea H8).length = 1:=rfl;have hg : eB (ea H8) 0 = fresh 1:=rfl;refine ⟨⟨hA.1,hA.2.1⟩,hA.2.2,⟨ai _,by show (1 : Nat) ≤ 8; decide⟩,fun k hk => ?_,?_⟩
 ·
  have h0 : k = 0:=by
   have : k < 1:=hk;omega
  subst h0;refine ⟨by show wM (fresh 1) = true; rw [yF]; exact (Xg 1).2 (by decide),fun h => absurd h (by decide),⟨fun _ => rfl,fun _ => rfl⟩,?_⟩
  show (16 : Int) ≤ 2 * l
  omega
 show (fresh 1).size + (((zG (fresh 1).m).length * 24 : Nat) : Int) ≤ 2 * l
 have hit : zG (fresh 1).m = []:=by
  unfold zG;rw [ag (Xf 1)]
  rfl
 rw [hit]
 show (16 : Int) + 0 ≤ 2 * l
 omega
theorem Ub {w : World} {b : Nat} (h : Bb w b 0 (fresh 1,Sl.nil)) : fH w (.slice (some ⟨b,0,none⟩) 1 1) H8:=by
 refine ⟨⟨fun x _ => kW x,?_⟩,fun p hp => ?_⟩
 ·
  refine ⟨rfl,some ⟨b,0,none⟩,1,rfl,ai _,by unfold maxLen; decide,fun h => (by cases h),fun _ => ⟨b,0,rfl,fun j u hj => ?_⟩⟩;have hj' : (iY (fresh 1,Sl.nil))[j]? = some u:=by simpa [H8] using hj
  have hlt : j < 14:=(List.getElem?_eq_some_iff.1 hj').1;rw [aJ];rcases (show j = 0 ∨ j = 1 ∨ j = 2 ∨ j = 3 ∨ j = 4 ∨ j = 5 ∨ j = 6 ∨ j = 7 ∨ j = 8 ∨ j = 9 ∨ j = 10 ∨ j = 11 ∨ j = 12 ∨ j = 13 by omega) with e | e | e | e | e | e | e | e | e | e | e | e | e | e <;> subst e <;> injection hj' with hj' <;> subst hj'
  ·
   exact h.n0
  ·
   exact h.n1
  ·
   exact h.n2
  ·
   exact h.n3
  ·
   exact h.c0
  ·
   exact h.c1
  ·
   exact h.c2
  ·
   exact h.c3
  ·
   exact h.c4
  ·
   exact h.c5
  ·
   exact h.c6
  ·
   exact h.c7
  ·
   exact h.cl
  exact h.cg
 have : p = (fresh 1,Sl.nil):=by simpa [H8] using hp
 subst this;exact TX w
theorem zJS (i l : Int) (hA : 0 ≤ i ∧ i < 4 ∧ 4136 ≤ l ∧ l ≤ 262144) (w : World) : Calls Tryz.prog 63 #[.int .i64 i,.int .i64 l] w fun e w' => ∃ b,e = .returned (.tuple #[ze i l false (some ⟨b,0,none⟩) 1 1,.int .i64 0]) ∧ w.heap.size ≤ b ∧ Bb w' b 0 (fresh 1,Sl.nil) ∧ Below w.heap.size w w':=by
 have HF:=zh (fun W => zIH 1 (by decide) W)
 have HV:=zh (fun b W (h : Bb W b 0 (fresh 1,Sl.nil)) => yU i l false (some ⟨b,0,none⟩) 1 1 H8 W (Ub h) (fun p hp j _ => by
  have : p = (fresh 1,Sl.nil):=by simpa [H8] using hp
  subst this
  exact aq _))
 rw [Ua i l false hA] at HV;have HB:=zh (zS w 0 0 false none 0 0 27);have HR:=zh (fc.new w 0 0 false none 0 0 27);clear hA
 go_enter Tryz.func63,Tryz.ntmps63
 go_wp2_with fail;refine (HF.out _).mono ?_;rintro e w1 ⟨rfl,hb1⟩;obtain ⟨W0,hW0⟩ : ∃ W0,w.alloc (.cells (zN 0 0 false none 0 0) 27) = W0:=⟨_,rfl⟩
 have mH : Below (w.alloc (.cells (zN 0 0 false none 0 0) 27)).heap.size (w.alloc (.cells (zN 0 0 false none 0 0) 27)) w1:=hb1;rw [hW0] at mH HB HR;have eW:=zh (zA HB.out mH);have eY:=zh (HR.out.below mH);clear hb1 mH HB HR hW0 HF;have NH:=eY.out.lt;generalize hb0 : w.heap.size = b0 at *;have E0:=zh hb0;clear hb0;generalize hnil : Sl.nil = s0 at *;have Jy:=zh hnil;clear hnil;go_upto_region 2 with fail;obtain ⟨W,hW⟩ : ∃ W,w1.alloc (.cells (zQ 1 0 1 16 s0 0 0) 38) = W:=⟨_,rfl⟩
 have HX:=zh (eH.new w1 1 0 1 16 s0 0 0 38);have eG:=zh (zb w1 1 0 1 16 s0 0 0 38);change Code.wp _ _ _ _ (w1.alloc (.cells (zQ 1 0 1 16 s0 0 0) 38));rw [hW] at HX eG ⊢;clear hW;have gj:=zh (eY.out.below eG.out);have eV:=zh (iT eW.out (bU NH) eG.out);have NI:=HX.out.lt;obtain ⟨m0,m1,m2,m3,m4,m5,m6,m7,m8,m9,m10,m11,m12,m13⟩:=HX.out.q;go_upto_region 3 with fail;change Code.wp _ _ _ _ ((W.alloc (.cells (zQ 1 0 1 16 s0 0 0) 38)).alloc (.cells (zN i l false (some ⟨W.heap.size,0,none⟩) 1 1) 27));obtain ⟨W2,hW2⟩ : ∃ W2,W.alloc (.cells (zQ 1 0 1 16 s0 0 0) 38) = W2:=⟨_,rfl⟩
 have hz2 : W2.heap.size = W.heap.size + 1:=by rw [← hW2]; simp
 have jt:=zh (show Bb W2 W.heap.size 0 (fresh 1,s0) from hW2 ▸ Bb.JE (g:=fresh 1) (eH.new W 1 0 1 16 s0 0 0 38));have H9:=zh (show Below W.heap.size W W2 from hW2 ▸ zb W 1 0 1 16 s0 0 0 38);rw [hW2];clear hW2;obtain ⟨W3,hW3⟩ : ∃ W3,W2.alloc (.cells (zN i l false (some ⟨W.heap.size,0,none⟩) 1 1) 27) = W3:=⟨_,rfl⟩
 have DX:=zh (show fc W3 (W.heap.size + 1) i l false (some ⟨W.heap.size,0,none⟩) 1 1 from hz2 ▸ hW3 ▸ fc.new W2 i l false (some ⟨W.heap.size,0,none⟩) 1 1 27);have CN:=zh (show Below W2.heap.size W2 W3 from hW3 ▸ zS W2 i l false (some ⟨W.heap.size,0,none⟩) 1 1 27);rw [hW3];clear hW3;have N5:=zh (jt.out.below CN.out);have hab:=zA H9.out CN.out;have mo:=zh (gj.out.below hab);have gp:=zh (iT eV.out (bU gj.out.lt) hab);have hl3:=DX.out.lt;have hbW : b0 < W.heap.size:=gj.out.lt;clear m0 m1 m2 m3 m4 m5 m6 m7 m8 m9 m10 m11 m12 m13 HX eG gj eV jt H9 CN hab eY eW NI NH;obtain ⟨x0,x1,x2,x3⟩:=DX.out.q;generalize hgb : W.heap.size = gb at *;clear hgb;go_wp2_with fail;refine (HV.out _ _ N5.out).mono ?_;rintro e w4 ⟨rfl,hb4⟩;have Fw:=zh (N5.out.below hb4);have lB:=zh (mo.out.below hb4);have Be:=zh (DX.out.below hb4);have fZ:=zh (iT gp.out (bU mo.out.lt) hb4)
 have hl4:=Be.out.lt;have X0:=lB.out.lt;clear x0 x1 x2 x3 hb4 N5 mo DX gp HV hl3;obtain ⟨x0,x1,x2,x3⟩:=Be.out.q;obtain ⟨d0,d1,d2,d3⟩:=lB.out.q;have F:=lB.out.f;have hne : b0 ≠ gb + 1:=by omega
 go_wp2_with fail;change bodyPost _ _ _ _ _ (pts w4 b0 (zP i l false (some ⟨gb,0,none⟩) 1 1));have hby:=lB.out.all i l false (some ⟨gb,0,none⟩) 1 1;have ey:=zh (zD (B:=b0) (ai _) (zP i l false (some ⟨gb,0,none⟩) 1 1) fZ.out);have Rv:=zh (Fw.out.eD (show gb ≠ b0 by omega) (zP i l false (some ⟨gb,0,none⟩) 1 1));generalize pts w4 b0 (zP i l false (some ⟨gb,0,none⟩) 1 1) = V at *;exact au (v:=.tuple #[ze i l false (some ⟨gb,0,none⟩) 1 1,.int .i64 0]) (by simp [results,Tryz.results63,go_sem,hby.c0,hby.c1,hby.c2,hby.c3]) rfl ⟨gb,rfl,by rw [E0.out]; omega,by rw [Jy.out]; exact Rv.out,by rw [E0.out]; exact ey.out⟩
structure Bp where
 kind : Int
 lv : Value
 l : List (Nd × Value)
 gen : Int
 kv : Value
 keys : List Int
def Rw : Bp:=⟨0,.slice none 0 0,[],0,.slice none 0 0,[]⟩
instance : Inhabited Bp:=⟨Rw⟩
def Uc (x : Bp) : List Value:=[.int .i64 x.kind,x.lv,.int .i64 x.gen,x.kv]
theorem zLV (x : Bp) : (Uc x).length = 4:=rfl
def kY (l : List Bp) (i : Nat) : Bp:=l.getD i Rw
theorem zJ8 {l : List Bp} {i : Nat} (h : i < l.length) : kY l i ∈ l:=by
 unfold kY;rw [aw,aB h]; exact bM h
noncomputable def uE (s : eL) (r : Int × Gn) : eL:=if r.1 = 0 ∧ (yM s r.2).2 = 0 then (yM s r.2).1 else s
noncomputable def Rx (s : eL) (kd : Int) (ns : List Nd) (gen : Int) (keys : List Int) : eL:=
 if kd = 2 then (if (vZ s).2 = 0 then (vZ s).1 else s)
 else if kd = 3 then uE s (yY (eB s.dW (gen % (s.dW.length : Int)).toNat) (keys.take 8))
 else uE s (xQ (zK s) (PH ns))
noncomputable def zMc (s : eL) (x : Bp) : eL:=Rx s (bits .and .i64 x.kind 3) (x.l.map (·.1)) x.gen x.keys
def H_ : eL:=⟨1,9000,false,[fresh 1]⟩
noncomputable def zL3 (s : eL) (l : List Bp) : eL:=l.foldl zMc s
noncomputable def zND (l : List Bp) : eL:=zL3 H_ (l.take 8)
theorem ux {l : List Gn} {i : Nat} (h : i < l.length) : eB l i ∈ l:=by
 unfold eB;rw [aw,aB h]; exact bM h
def fA (k : Nat) (l : List Gn) : Prop:=∀ g ∈ l,∀ i,i < 8 → (g.m.st i).length ≤ k
def zMq (k : Int) (l : List Gn) : Prop:=∀ g ∈ l,g.size ≤ k
theorem fA.mono {k k' : Nat} {l : List Gn} (h : fA k l) (hk : k ≤ k') : fA k' l:=fun g hg i hi => ak (h g hg i hi) hk
theorem X2 {l : List Gn} {g x : Gn} (h : x ∈ uf l g) : x ∈ l ∨ x = g:=by
 obtain ⟨y,hy,e⟩:=List.mem_map.1 h
 by_cases c : y.num = g.num
 ·
  rw [ag c] at e; exact .inr e.symm
 rw [ah c] at e; exact .inl (e ▸ hy)
theorem zJs (l : List Gn) (g : Gn) : (uf l g).length = l.length:=aI ..
theorem Ud {s : eL} {g : Gn} (h : (yM s g).2 = 0) : (yM s g).1 = ⟨s.id,s.lim,s.ro,uf s.dW g⟩:=by
 unfold yM at h ⊢
 by_cases hv : zd s = true
 ·
  rw [ag hv] at h ⊢
  by_cases hn : (s.dW.any fun x => decide (x.num = g.num)) = true
  ·
   rw [ag hn] at h ⊢
   by_cases hw : zd ⟨s.id,s.lim,s.ro,uf s.dW g⟩ = true
   ·
    rw [ag hw]
   rw [ah hw] at h; cases h
  rw [ah hn] at h; cases h
 rw [ah hv] at h; cases h
theorem zHJ {s : eL} (h : (vZ s).2 = 0) : (vZ s).1 = ⟨s.id,s.lim,s.ro,s.dW.take (s.dW.length - 1) ++ [{ zK s with mode:=2 },fresh ((zK s).num + 1)]⟩:=by
 unfold vZ at h ⊢
 by_cases hv : zd s = true
 ·
  rw [ag hv] at h ⊢
  by_cases hn : (zK s).num < 8
  ·
   rw [ag hn]
  rw [ah hn] at h; cases h
 rw [ah hv] at h; cases h
theorem uw {s : eL} (h : eA s) : zK s ∈ s.dW:=ux (by have:=h.len; omega)
theorem zLh (l : List Nd) : fU (PH l) ≤ 400:=by
 have key : ∀ k : List Nd,(∀ x ∈ k,x.data.length ≤ 30) → fU k ≤ k.length * 56:=by
  intro k
  induction k with
  | nil => intro _; exact aq _
  | cons x r ih =>
   intro h;have h1:=ih fun y hy => h y (by simp [hy])
   have h2:=h x (by simp);have h3 : eP x.data.length ≤ 56:=by rw [Qh (by omega)]; unfold CJ; omega
   rw [wi,aW]; omega
 have h1:=key _ (zHb l);have h2:=zEh l;omega
theorem ko {g : Gn} {l : List Nd} (h : (xQ g l).1 = 0) : (xQ g l).2 = zX g l:=by
 unfold xQ at h ⊢
 split
 ·
  rename_i h1;rw [ag h1] at h
  split
  ·
   rename_i h2;rw [ag h2] at h
   split
   ·
    rfl
   rename_i h3; rw [ah h3] at h; cases h
  rename_i h2; rw [ah h2] at h; cases h
 rename_i h1; rw [ah h1] at h; cases h
theorem zDH {g : Gn} {l : List Int} (h : (yY g l).1 = 0) : (yY g l).2 = { g with m:=l.foldl yP g.m }:=by
 unfold yY at h ⊢
 split
 ·
  rename_i h1;rw [ag h1] at h
  split
  ·
   rename_i h2; rw [ag h2] at h; cases h
  rfl
 rename_i h1; rw [ah h1] at h; cases h
structure iG (n : Nat) (s : eL) : Prop where
 v : eA s
 id : s.id = 1
 lim : s.lim = 9000
 ro : s.ro = false
 len : fA (6 * n) s.dW
 My : zMq (16 + 400 * (n : Int)) s.dW
theorem zGU : iG 0 H_:=by
 refine ⟨(zZ _).1 (Ua 1 9000 false (by decide)),rfl,rfl,rfl,fun g hg i _ => ?_,fun g hg => ?_⟩
 ·
  obtain rfl:=List.mem_singleton.1 hg;exact aq _
 obtain rfl:=List.mem_singleton.1 hg
 show (16 : Int) ≤ _
 omega
theorem iG.up {n : Nat} {s : eL} (h : iG n s) : iG (n + 1) s:=⟨h.v,h.id,h.lim,h.ro,h.len.mono (by omega),fun g hg => by have:=h.My g hg; omega⟩
theorem iG.Ue {n : Nat} {s : eL} (h : iG n s) {g : Gn} (hc : (yM s g).2 = 0) (hl : ∀ i,i < 8 → (g.m.st i).length ≤ 6 * (n + 1)) (hz : g.size ≤ 16 + 400 * ((n + 1 : Nat) : Int)) : iG (n + 1) (yM s g).1:=by
 have hv:=zJt hc;rw [Ud hc] at hv ⊢;refine ⟨hv,h.id,h.lim,h.ro,fun x hx i hi => ?_,fun x hx => ?_⟩
 ·
  rcases X2 hx with hx | rfl
  ·
   exact ak (h.len x hx i hi) (by omega)
  exact hl i hi
 rcases X2 hx with hx | rfl
 ·
  have:=h.My x hx; omega
 exact hz
theorem zDE {n : Nat} {s : eL} (h : iG n s) (kd : Int) (ns : List Nd) (gen : Int) (keys : List Int) : iG (n + 1) (Rx s kd ns gen keys):=by
 unfold Rx
 split
 ·
  split
  ·
   rename_i hr;have hv:=zKZ hr;rw [zHJ hr] at hv ⊢;refine ⟨hv,h.id,h.lim,h.ro,fun x hx i hi => ?_,fun x hx => ?_⟩
   ·
    rcases List.mem_append.1 hx with hx | hx
    ·
     exact ak (h.len x (aY hx) i hi) (by omega)
    simp only [cA,cB,or_false] at hx;rcases hx with rfl | rfl
    ·
     exact ak (h.len _ (uw h.v) i hi) (by omega)
    exact aq _
   rcases List.mem_append.1 hx with hx | hx
   ·
    have:=h.My x (aY hx); omega
   simp only [cA,cB,or_false] at hx;rcases hx with rfl | rfl
   ·
    have:=h.My _ (uw h.v); dsimp only; omega
   show (16 : Int) ≤ _; omega
  exact h.up
 split
 ·
  unfold uE
  split
  ·
   rename_i hr;obtain ⟨h1,h2⟩:=hr
   have hg : eB s.dW (gen % (s.dW.length : Int)).toNat ∈ s.dW:=ux (by
    have h1:=h.v.len
    have h2:=Int.emod_lt_of_pos gen (show (0 : Int) < (s.dW.length : Int) by omega)
    have h3:=Int.emod_nonneg gen (show (s.dW.length : Int) ≠ 0 by omega)
    omega)
   refine h.Ue h2 ?_ ?_
   ·
    rw [zDH h1];intro i hi;exact ak (wQ _ _ (h.len _ hg) i hi) (by omega)
   rw [zDH h1];have:=h.My _ hg;dsimp only; omega
  exact h.up
 unfold uE
 split
 ·
  rename_i hr;obtain ⟨h1,h2⟩:=hr;have hg:=uw h.v;refine h.Ue h2 ?_ ?_
  ·
   rw [ko h1];intro i hi;have:=xg (PH ns) _ (h.len _ hg) i hi;have:=zEh ns;omega
  rw [ko h1,yy];have:=h.My _ hg;have:=zLh ns;omega
 exact h.up
theorem zHr (i l : Int) (r : Bool) (a : Option Addr) (n c : Nat) (L : List GP) (w : World) (h : fH w (.slice a n c) L) (hs : ∀ p ∈ L,∀ j,j < 8 → (p.1.m.st j).length ≤ 10000) (hv : zd ⟨i,l,r,ea L⟩ = true) (m : Nat) (hm : m ≤ 4096) :
  Calls Tryz.prog 36 #[ze i l r a n c,.int .i64 (m : Int)] w fun e w' => e = .returned (.bool (decide ((pat L (n - 1)).1.size + ((eP m : Nat) : Int) ≤ l))) ∧ Below w.heap.size w w':=by
 have hV:=(zZ _).1 hv;have gy : L.length = n:=by
  obtain ⟨_,_,e,_⟩:=h.shape;injection e with _ e _; exact e.symm
 have hl : (ea L).length = n:=by rw [yB,gy]
 have hn : 1 ≤ n ∧ n ≤ 8:=by have:=hV.len; simp only [hl] at this; exact this
 obtain ⟨j,rfl⟩ : ∃ j,n = j + 1:=⟨n - 1,by omega⟩
 have hg:=hV.vg (i:=j) (by show j < (ea L).length; omega);simp only [xJ] at hg;have hz1:=hg.size.1;have hz2:=hg.size.2.1;have gH:=zh (fun W (hb : Below w.heap.size w W) => yU i l r a (j + 1) c L W (h.below hb) hs);rw [hv] at gH;have HZ:=zh (fun W => (Qy m W).mono (R':=fun e w' => e = .returned (.int .i64 ((eP m : Nat) : Int)) ∧ Below W.heap.size W w') fun _ _ ⟨he,hw⟩ => ⟨he,hw ▸ aj _ _⟩);have amF : eP m ≤ 4127:=xt m;have IY : j + 1 - 1 = j:=by omega
 rw [IY];have HR:=zh h;have eG:=zh (fc.new w i l r a (j + 1) c 27);have eQ:=zh (zS w i l r a (j + 1) c 27);have e1 : decide ((m : Int) < 0) = false:=by simp
 have e2 : decide ((4096 : Int) < (m : Int)) = false:=by simp; omega
 clear hV gy hl hg hv h hs IY;generalize eP m = z at *;obtain ⟨b,off,rfl,hg⟩:=HR.out.at (show j < j + 1 by omega);have HG:=zh hg;clear hg HR;generalize pat L j = p at *;obtain ⟨⟨num,rev,md,sz,f,LV,GA⟩,s⟩:=p;dsimp only at *
 go_enter Tryz.func36,Tryz.ntmps36
 go_upto_region 1 with fail;obtain ⟨W,hW⟩ : ∃ W,w.alloc (.cells (zN i l r (some ⟨b,off,none⟩) (j + 1) c) 27) = W:=⟨_,rfl⟩
 change Code.wp _ _ _ _ (w.alloc (.cells (zN i l r (some ⟨b,off,none⟩) (j + 1) c) 27));rw [hW] at eG eQ ⊢;clear hW;have Dm:=eG.out.lt;obtain ⟨k0,k1,k2,k3⟩:=eG.out.q;go_wp2_with fail;refine (gH.out _ eQ.out).mono ?_;rintro e w1 ⟨rfl,hb1⟩;clear k0 k1 k2 k3;have eW:=zh (zA eQ.out hb1);have fC:=zh (eG.out.below hb1);have p_:=zh (HG.out.below eW.out);have Eg:=fC.out.lt;clear hb1 eQ eG HG gH;have j3 : IntKind.i64.wrap (j : Int) = (j : Int):=aF _ (by omega);have i2 : (j : Int) < ((j + 1 : Nat) : Int):=by omega
 have j5 : IntKind.i64.wrap (sz + (z : Int)) = sz + (z : Int):=aF _ (by omega);go_wp2_with fail;have v1:=zB fC.out.c1;have v3:=zB fC.out.c3;have g3:=zB p_.out.n3;dsimp only at g3;refine zC (by kernel_rfl) (by kernel_rfl) ?_
 repeat (go_big_quiet_step ((exact zE (HZ.out _))))
 refine aA ?_;intro _ hw';obtain ⟨q,hw'⟩:=hw';subst hw';have HQ:=zh (zA eW.out q.h);clear v1 v3 g3;go_wp2_with fail;go_ret;exact ⟨rfl,HQ.out⟩
end Go.Proofs.YtcgfilmmokmdjaaGreat
namespace Go.Proofs.YtcgfilmmokmdjaaGreat
open Go.RowKit Go.Shelf
attribute [local go_sem] Oper.semAt_some
def yw (len k : Nat) : List Nat:=(List.range k).map fun j => len - 1 - j
theorem ua (len k : Nat) : yw len (k + 1) = yw len k ++ [len - 1 - k]:=by simp [yw,List.range_succ]
theorem vG (len k : Nat) : (yw len k).length = k:=by simp [yw]
def Fy (n₀ Bs : Nat) (W W' : World) : Prop:=Below n₀ W W' ∧ ∀ v,W.cell? ⟨Bs,0,none⟩ = some v → W'.cell? ⟨Bs,0,none⟩ = some v
theorem Fy.refl (n₀ Bs : Nat) (W : World) : Fy n₀ Bs W W:=⟨aj _ _,fun _ h => h⟩
theorem Fy.trans {n₀ Bs : Nat} {A B C : World} (h : Fy n₀ Bs A B) (k : Fy n₀ Bs B C) : Fy n₀ Bs A C:=⟨h.1.trans k.1,fun v hv => k.2 v (h.2 v hv)⟩
theorem Fy.put {n₀ Bs : Nat} {w : World} (hn : n₀ ≤ w.heap.size) (hB : Bs < w.heap.size) (W : World) (l : Nat) (o o' : Obj) (hl : w.heap.size ≤ l) (h : W.heap[l]? = some o) (h1 : o.isCells = false) (h2 : o.isWalk = false) : Fy n₀ Bs W (W.putObj l o'):=
 ⟨belowK_b hn W l o o' hl h h1 h2,fun v hv => ((belowK_b (n₀:=Bs + 1) (w:=w) (by omega) W l o o' hl h h1 h2).cell (p:=⟨Bs,0,none⟩) (dD _)).trans hv⟩
theorem zIn (F : Fence) (n : Nat) (hf : F.fn 143) (hro : F.round = none) (hn : 1 ≤ n) (l Bs n₀ b off len cap : Nat) (L : List GP) (hlen : len ≤ 8) (hb : b < n₀) (J Jx : List Nat → World → Prop)
  (hY : ∀ pre (x : Nat) W,J pre W → pre.length < len → YieldAt F (n - 1) Tryz.prog l #[.int .i64 (x : Int),XT (pat L x)] W fun e W' =>
   (e = .returned (.bool true) ∧ J (pre ++ [x]) W' ∧ Fy n₀ Bs W W') ∨ (e = .returned (.bool false) ∧ Jx (pre ++ [x]) W'))
  (W : World) (Ku : W.cell? ⟨Bs,0,none⟩ = some (.slice (some ⟨b,off,none⟩) len cap)) (hc : ∀ j,j < len → Bb W b (off + j * 14) (pat L j)) (h0 : J [] W) :
  CallsIn F n Tryz.prog 143 #[.func (.yield l) #[] #[],.pointer (some ⟨Bs,0,none⟩)] W fun e W' => (∃ v,e = .returned v) ∧
   ((∃ ys,ys = yw len len ∧ J ys W') ∨ (∃ pre,(∃ k,k ≤ len ∧ pre = yw len k) ∧ Jx pre W')):=by
 refine callsIn_of_wp Tryz.func143 rfl hf ?_ hro;simp only [Tryz.ntmps143,b8,aW,dM,Nat.reduceAdd,Nat.reduceSub,Array.replicate_succ,Array.replicate_zero,List.push_toArray,List.append_toArray,bV,List.cons_append]
 gi_wp2
 gi_loopw [3] (fun i wr => ∃ k : Nat,k ≤ len ∧ i = .int .i64 ((len : Int) - 1 - (k : Int)) ∧ J (yw len k) wr ∧ Fy n₀ Bs W wr)
  (fun i _ => (intOf i + 1).toNat)
 case atStart => exact ⟨0,aq _,by simp [aF _ (show -9223372036854775808 ≤ (len : Int) - 1 ∧ (len : Int) - 1 ≤ 9223372036854775807 by omega)],h0,Fy.refl _ _ _⟩
 obtain ⟨k,hk,rfl,hJs,rA⟩:=hrel;have hBk:=rA.2 _ Ku
 by_cases hlt : k < len
 ·
  obtain ⟨j,hj⟩ : ∃ j,k + 1 + j = len:=⟨len - 1 - k,by omega⟩
  have hjk : len - 1 - k = j:=by omega
  obtain ⟨fn,tmps,assign,body,hy,hR⟩:=hY _ (len - 1 - k) wr hJs (by rw [vG]; exact hlt);have ej : (len : Int) - 1 - (k : Int) = (j : Int):=by omega
  rw [ej];rw [hjk] at hy hR;have i2 : (j : Int) < (len : Int):=by omega
  have g0:=(rA.1.cell (p:=⟨b,off + j * 14,none⟩) hb).trans (hc j (by omega)).n0;have g1:=(rA.1.cell (p:=⟨b,off + j * 14 + 1,none⟩) hb).trans (hc j (by omega)).n1;have g2:=(rA.1.cell (p:=⟨b,off + j * 14 + 2,none⟩) hb).trans (hc j (by omega)).n2;have g3:=(rA.1.cell (p:=⟨b,off + j * 14 + 3,none⟩) hb).trans (hc j (by omega)).n3;have g4:=(rA.1.cell (p:=⟨b,off + j * 14 + 4,none⟩) hb).trans (hc j (by omega)).c0;have g5:=(rA.1.cell (p:=⟨b,off + j * 14 + 5,none⟩) hb).trans (hc j (by omega)).c1;have g6:=(rA.1.cell (p:=⟨b,off + j * 14 + 6,none⟩) hb).trans (hc j (by omega)).c2;have g7:=(rA.1.cell (p:=⟨b,off + j * 14 + 7,none⟩) hb).trans (hc j (by omega)).c3;have g8:=(rA.1.cell (p:=⟨b,off + j * 14 + 8,none⟩) hb).trans (hc j (by omega)).c4;have g9:=(rA.1.cell (p:=⟨b,off + j * 14 + 9,none⟩) hb).trans (hc j (by omega)).c5
  have g10:=(rA.1.cell (p:=⟨b,off + j * 14 + 10,none⟩) hb).trans (hc j (by omega)).c6;have g11:=(rA.1.cell (p:=⟨b,off + j * 14 + 11,none⟩) hb).trans (hc j (by omega)).c7;have g12:=(rA.1.cell (p:=⟨b,off + j * 14 + 12,none⟩) hb).trans (hc j (by omega)).cl;have g13:=(rA.1.cell (p:=⟨b,off + j * 14 + 13,none⟩) hb).trans (hc j (by omega)).cg
  gi_wp2
  refine hR.mono ?_;rintro e W3 (⟨rfl,hJ3,hk3⟩ | ⟨rfl,hJx3⟩)
  ·
   gi_wp2
   go_roundw
   case rel => exact ⟨k + 1,by omega,by first | (simp; done) | (simp; omega),by rw [ua,hjk]; exact hJ3,rA.trans hk3⟩
   case measure => first | (simp [intOf]; done) | (simp [intOf]; omega)
  gi_wp2
  refine au (results_none rfl _ _ _) rfl ?_;exact ⟨⟨_,rfl⟩,.inr ⟨_,⟨k + 1,by omega,by rw [ua,hjk]⟩,hJx3⟩⟩
 obtain rfl : k = len:=by omega
 have ej : (k : Int) - 1 - (k : Int) = -1:=by omega
 rw [ej]
 gi_wp2
 go_end0;exact ⟨⟨_,rfl⟩,.inl ⟨_,rfl,hJs⟩⟩
end Go.Proofs.YtcgfilmmokmdjaaGreat
namespace Go.Proofs.YtcgfilmmokmdjaaGreat
open Go.RowKit Go.Shelf
theorem zDn (a : Option Addr) (n c : Nat) (w : World) : Calls Tryz.prog 105 #[.slice a n c] w fun e w' => e = .returned (.func (.func 143) #[] #[.pointer (some ⟨w.heap.size,0,none⟩)]) ∧ w' = w.alloc (.cells #[.slice a n c] 25):=by
 go_enter Tryz.func105,Tryz.ntmps105
 go_wp2_with fail;go_ret;exact ⟨rfl,rfl⟩
theorem zGE (F : Fence) (n : Nat) (hf : F.fn 143) (hro : F.round = none) (hn : 1 ≤ n) (Bs n₀ b off len cap : Nat) (L : List GP) (hlen : len ≤ 8) (hb : b < n₀) (w : World)
  (Ku : w.cell? ⟨Bs,0,none⟩ = some (.slice (some ⟨b,off,none⟩) len cap)) (hc : ∀ j,j < len → Bb w b (off + j * 14) (pat L j)) :
  SeqStopsK F n Tryz.prog 143 #[.pointer (some ⟨Bs,0,none⟩)] (fun x : Nat => #[.int .i64 (x : Int),XT (pat L x)]) (Fy n₀ Bs) (fun ys => ys = yw len len) (fun pre => ∃ k,k ≤ len ∧ pre = yw len k) len w:=fun l J Jx W hW _ _ hY h0 =>
 zIn F n hf hro hn l Bs n₀ b off len cap L hlen hb J Jx hY W (hW.keeps' Ku) (fun j hj => (hc j hj).below hW) h0
end Go.Proofs.YtcgfilmmokmdjaaGreat
namespace Go.Proofs.YtcgfilmmokmdjaaGreat
open Go.RowKit
def Ib (x : jJ) : List Value:=[.int .i64 x.gen,.int .i64 x.mode,.int .i64 x.rev,.int .u64 x.it.key,.int .u32 x.it.ck,.int .i64 x.it.off,.int .i64 x.it.size,.int .i64 (x.at_ : Int)]
theorem zLX (x : jJ) : (Ib x).length = 8:=rfl
theorem zMJ : (Tryz.prog.info? 138).map (fun i => (i.zero,i.size,i.bytes)) = some (some (.agg #[.int .i64 0,.int .i64 0,.int .i64 0,.int .u64 0,.int .u32 0,.int .i64 0,.int .i64 0,.int .i64 0]),8,64):=by kernel_rfl
abbrev Lm (w : World) (v : Value) (l : List jJ) : Prop:=ix 8 Ib w v l
abbrev Fz (w : World) (base : Nat) (v : Value) (l : List jJ) : Prop:=w.ownsRow base 138 8 v l.length (l.flatMap Ib)
theorem zL2 (i l : Int) (r : Bool) (a : Option Addr) (n c : Nat) (L : List GP) (w : World) (h : fH w (.slice a n c) L) (hs : ∀ p ∈ L,∀ j,j < 8 → (p.1.m.st j).length ≤ 10000) (hv : zd ⟨i,l,r,ea L⟩ = false) (key : Int) :
  Calls Tryz.prog 62 #[ze i l r a n c,.int .u64 key] w fun e w' => e = .returned (.slice none 0 0) ∧ Below w.heap.size w w':=by
 have gH:=zh (fun W (hb : Below w.heap.size w W) => yU i l r a n c L W (h.below hb) hs);rw [hv] at gH;have eG:=zh (fc.new w i l r a n c 27);have eQ:=zh (zS w i l r a n c 27);clear hv h hs
 go_enter Tryz.func62,Tryz.ntmps62
 go_upto_region 1 with fail;obtain ⟨W,hW⟩ : ∃ W,w.alloc (.cells (zN i l r a n c) 27) = W:=⟨_,rfl⟩
 change Code.wp _ _ _ _ ((w.alloc (.cells (zN i l r a n c) 27)).alloc (.cells #[.int .u64 key] 24));rw [hW] at eG eQ ⊢;clear hW;have Dm:=eG.out.lt;have eW:=zh (eQ.out.alloc eQ.out.size (.cells #[.int .u64 key] 24));have fC:=zh (eG.out.below ((aj _ W).alloc (ai _) (.cells #[.int .u64 key] 24)));obtain ⟨k0,k1,k2,k3⟩:=fC.out.q;go_wp2_with fail;refine (gH.out _ eW.out).mono ?_;rintro e w1 ⟨rfl,hb1⟩;have eV:=zh (zA eW.out hb1);clear hb1 k0 k1 k2 k3;go_wp2_with fail;go_ret;exact ⟨rfl,eV.out⟩
end Go.Proofs.YtcgfilmmokmdjaaGreat
namespace Go.Proofs.YtcgfilmmokmdjaaGreat
open Go.RowKit Go.Shelf
attribute [local go_sem] Oper.semAt_some
def qy (l : List Gn) (key : Int) (pre : List Nat) : List jJ:=pre.flatMap fun n => match zR (eB l n).m key with | some x => [⟨(eB l n).num,(eB l n).mode,(eB l n).rev,x,n⟩] | none => []
theorem zIj {l : List Gn} {key : Int} (pre : List Nat) {n : Nat} {x : It} (h : zR (eB l n).m key = some x) : qy l key (pre ++ [n]) = qy l key pre ++ [⟨(eB l n).num,(eB l n).mode,(eB l n).rev,x,n⟩]:=by simp [qy,h]
theorem zIF {l : List Gn} {key : Int} (pre : List Nat) {n : Nat} (h : zR (eB l n).m key = none) : qy l key (pre ++ [n]) = qy l key pre:=by simp [qy,h]
theorem zJv (l : List Gn) (key : Int) (pre : List Nat) : (qy l key pre).length ≤ pre.length:=by
 induction pre with
 | nil => exact ai _
 | cons n pre ih =>
  have e : qy l key (n :: pre) = (match zR (eB l n).m key with | some x => [⟨(eB l n).num,(eB l n).mode,(eB l n).rev,x,n⟩] | none => []) ++ qy l key pre:=rfl;rw [e,ax,aW];have : (match zR (eB l n).m key with | some x => [(⟨(eB l n).num,(eB l n).mode,(eB l n).rev,x,n⟩ : jJ)] | none => []).length ≤ 1:=by
   cases zR (eB l n).m key <;> simp
  omega
theorem zFa (n : Nat) : yw (n + 1) (n + 1) = n :: yw n n:=by
 unfold yw;rw [List.range_succ_eq_map,List.map_cons,List.map_map,List.cons.injEq];refine ⟨by omega,List.map_congr_left fun j _ => ?_⟩;simp only [Function.comp_apply]; omega
theorem zEp (l : List Gn) (key : Int) : ∀ n,qy l key (yw n n) = xF l key n
 | 0 => rfl
 | n + 1 => by
  have ih:=zEp l key n;rw [zFa,xF,← ih]
  rfl
theorem zBk {l : List Gn} {key : Int} : ∀ n,∀ x ∈ xF l key n,x.at_ < n
 | 0,x,h => by cases h
 | n + 1,x,h => by
  rw [xF] at h;rcases List.mem_append.1 h with h | h
  ·
   cases e : zR (eB l n).m key with
   | none => rw [e] at h; cases h
   | some y => rw [e] at h; rw [List.mem_singleton.1 h]; exact dD n
  exact Nat.lt_succ_of_lt (zBk n x h)
theorem zC4 {W W' : World} (h : Below W.heap.size W W') : KeepsOthers W W':=⟨h.size,fun k o hk _ => (h.block k (Array.getElem?_eq_some_iff.1 hk).1).trans hk⟩
theorem zHn {W W' : World} {b : Nat} {n r md z : Int} {s : Sl} {l g : Int} {row : Option Nat} (h : eH W b n r md z s l g) (hg : W.grownBy W' row) (hrow : ∀ r,row = some r → ∃ o : Obj,W.heap[r]? = some o ∧ o.isCells = false) : eH W' b n r md z s l g:=
 ⟨cell_kept h.n0 hg hrow,cell_kept h.n1 hg hrow,cell_kept h.n2 hg hrow,cell_kept h.n3 hg hrow,fun j hj => cell_kept (h.c j hj) hg hrow,cell_kept h.cl hg hrow,cell_kept h.cg hg hrow,fun i => by
  obtain ⟨o,ho,hc⟩:=cells_of_cell h.n0
  have e:=grownBy_keeps_cells hg hrow ho hc
  have e2:=h.f i
  unfold World.frozen? at e2 ⊢
  rw [e]; exact e2⟩
theorem _root_.Go.Boxed.below {W W' : World} {B : Nat} {t : TypeId} {v : Value} (h : Boxed W B t v) (hb : Below W.heap.size W W') : Boxed W' B t v:=(hb.block _ h.lt).trans h
theorem zGz (W : World) (cs : List Value) (e : TypeId) : ∀ j u,cs[j]? = some u → (W.alloc (.cells cs.toArray e)).cell? ((⟨W.heap.size,0,none⟩ : Addr).add j) = some u:=fun j u h => by
 rw [yT,aJ];have h0:=World.alloc_heap_new W (.cells cs.toArray e);simp only [World.cell?,h0,List.getElem?_toArray];exact h
theorem zKT (W : World) (k : Nat) (hk : W.heap.size = k) (cs : List Value) (e : TypeId) : ∀ j u,cs[j]? = some u → (W.alloc (.cells cs.toArray e)).cell? ((⟨k,0,none⟩ : Addr).add j) = some u:=by subst hk; exact zGz W cs e
theorem zMR (x : jJ) : ∀ u ∈ Ib x,u.oneCell' = true:=by
 intro u hu;simp only [Ib,cA,cB,or_false] at hu;rcases hu with h | h | h | h | h | h | h | h <;> rw [h] <;> rfl
theorem zLz {w : World} {v : Value} {L : List GP} (h : fH w v L) (x : Nat) : fq w (pat L x).2 (pat L x).1.m.st:=by
 by_cases hx : x < L.length
 ·
  exact h.m _ (xN hx)
 have e : pat L x = N4:=by unfold pat; rw [aw,List.getElem?_eq_none (by omega)]; rfl
 rw [e]; exact TX w
theorem zLf {L : List GP} (hs : ∀ p ∈ L,∀ j,j < 8 → (p.1.m.st j).length ≤ 10000) (x : Nat) : ∀ j,j < 8 → ((pat L x).1.m.st j).length ≤ 10000:=by
 by_cases hx : x < L.length
 ·
  exact hs _ (xN hx)
 have e : pat L x = N4:=by unfold pat; rw [aw,List.getElem?_eq_none (by omega)]; rfl
 rw [e]; intro j _; exact aq _
theorem zK8 (i l : Int) (r : Bool) (a : Option Addr) (n c : Nat) (L : List GP) (w : World) (h : fH w (.slice a n c) L) (hs : ∀ p ∈ L,∀ j,j < 8 → (p.1.m.st j).length ≤ 10000) (hv : zd ⟨i,l,r,ea L⟩ = true) (key : Int) :
  Calls Tryz.prog 62 #[ze i l r a n c,.int .u64 key] w fun e w' => ∃ v,e = .returned v ∧ Fz w' w.heap.size v (xF (ea L) key n) ∧ Below w.heap.size w w':=by
 obtain ⟨Ds,Em⟩:=((zZ _).1 hv).len;dsimp only at Ds Em;rw [yB] at Ds Em;obtain rfl : n = L.length:=by obtain ⟨a',cap',e,_⟩:=h.shape; injection e
 obtain ⟨b,off,rfl,hg0⟩:=h.at (show 0 < L.length by omega);have HG:=zh (fun j (hj : j < L.length) => h.Ru hj);have hb:=cZ w _ hg0.n0;have X3:=fun W (hb : Below w.heap.size w W) => yU i l r (some ⟨b,off,none⟩) L.length c L W (h.below hb) hs
 have N6:=zh (fun W (hb : Below w.heap.size w W) (x : Nat) => zFW (pat L x).2 (pat L x).1.m key W ((zLz h x).below hb) (zLf hs x));rw [hv] at X3;clear hg0 h hs;obtain ⟨i0,hi,hz0,hz1,hz2⟩:=b_ zMJ;refine (callsIn_wide (n:=20)).1 (callsIn_of_wp_marks Tryz.func62 rfl trivial ?_ rfl);simp only [Tryz.ntmps62,b8,aW,dM,Nat.reduceAdd,Nat.reduceSub,Array.replicate_succ,Array.replicate_zero,List.push_toArray,List.append_toArray,bV,List.cons_append];have JH:=fc.new w i l r (some ⟨b,off,none⟩) L.length c 27;have Du:=zS w i l r (some ⟨b,off,none⟩) L.length c 27;have Uf:=Boxed.new (w.alloc (.cells (zN i l r (some ⟨b,off,none⟩) L.length c) 27)) 24 (.int .u64 key);rw [dI] at Uf
 gi_wp2_with (first | (refine ⟨trivial,?_⟩; gi_at_call 47; refine (callsIn_wide.2 (X3 _ (Du.alloc (by simp) _))).mono ?_; rintro e w1 ⟨rfl,hb1⟩; have hB1:=zA (Du.alloc (by simp) (.cells #[.int .u64 key] 24)) hb1; have k3:=(((JH.below ((aj _ _).alloc (ai _) (.cells #[.int .u64 key] 24))).below hb1).below ((aj _ w1).alloc (ai _) (.cells #[.slice none 0 0] 135))).c3; have N7 : Boxed w1 (w.heap.size + 1) 24 (.int .u64 key):=(hb1.block _ Uf.lt).trans Uf; clear hb1 JH Du Uf) | (refine ⟨trivial,?_⟩; gi_at_call 105; refine (callsIn_wide.2 (zDn _ _ _ _)).mono ?_; rintro e w' ⟨rfl,rfl⟩; clear k3))
 clear X3;have bO:=(Boxed.new w1 135 (.slice none 0 0)).alloc (.cells #[.slice (some ⟨b,off,none⟩) L.length c] 25);have bS:=Boxed.new (w1.alloc (.cells #[.slice none 0 0] 135)) 25 (.slice (some ⟨b,off,none⟩) L.length c);have bK:=(N7.alloc (.cells #[.slice none 0 0] 135)).alloc (.cells #[.slice (some ⟨b,off,none⟩) L.length c] 25);have Eg:=N7.lt;simp only [dI] at bS;have hB2 : Below w.heap.size w ((w1.alloc (.cells #[.slice none 0 0] 135)).alloc (.cells #[.slice (some ⟨b,off,none⟩) L.length c] 25)):=(hB1.alloc hB1.size _).alloc (by have:=hB1.size; simp; omega) _;have hsz : ((w1.alloc (.cells #[.slice none 0 0] 135)).alloc (.cells #[.slice (some ⟨b,off,none⟩) L.length c] 25)).heap.size = w1.heap.size + 2:=by simp
 obtain ⟨Bo,Ug⟩ : ∃ Bo,w1.heap.size = Bo:=⟨_,rfl⟩
 obtain ⟨W0,hW0⟩ : ∃ W0,(w1.alloc (.cells #[.slice none 0 0] 135)).alloc (.cells #[.slice (some ⟨b,off,none⟩) L.length c] 25) = W0:=⟨_,rfl⟩
 rw [Ug] at bO bS hsz Eg ⊢;rw [hW0] at bO bS bK hB2 hsz ⊢;clear hW0 N7 Ug hB1;clear w1;have hsB:=hB2.size;refine wpIn_rangeFunc_ownH rfl (by decide) (gf:=143) (lb:=#[.pointer (some ⟨Bo + 1,0,none⟩)]) rfl trivial (enters_of Tryz.func143 (by kernel_rfl) rfl)
  (zGE Fence.wide (20 - 1) trivial rfl (by decide) (Bo + 1) w.heap.size b off L.length c L Em hb W0 bS.cell (fun j hj => (HG.out j hj).below hB2)) Fy.trans (Fy.put (by omega) (by omega)) (aj _ _) (fun _ => rfl)
  (fun pre W => ((∃ v,Boxed W Bo 135 v ∧ W.ownsRow w.heap.size 138 8 v (qy (ea L) key pre).length ((qy (ea L) key pre).flatMap Ib) ∧ True) ∧ Boxed W (w.heap.size + 1) 24 (.int .u64 key) ∧ Boxed W (Bo + 1) 25 (.slice (some ⟨b,off,none⟩) L.length c)) ∧ Below w.heap.size w W)
  (fun _ _ _ => False)
  (OwnFrom.and (OwnFrom.and (Own.from (holdsRow_own w.heap.size Bo 135 138 8 (fun pre => (qy (ea L) key pre).length) (fun pre => (qy (ea L) key pre).flatMap Ib) (fun _ _ => True)) _) (OwnFrom.and (Own.from (boxed_own _ _ _) _) (Own.from (boxed_own _ _ _) _))) (ownFrom_below (ai _) (by omega)))
  (fun _ _ _ _ _ hs _ _ => hs)
  ⟨⟨⟨_,bO,aU _ _ _ _,trivial⟩,bK,bS⟩,hB2⟩
  (fun x a' W => ∃ Bx,w.heap.size + 1 < Bx ∧ Bo + 1 < Bx ∧ eH W Bx (pat L x).1.num (pat L x).1.rev (pat L x).1.mode (pat L x).1.size (pat L x).2 (pat L x).1.m.live (pat L x).1.m.dZ ∧ a' = { tmps:=#[ze i l r (some ⟨b,off,none⟩) L.length c,.int .u64 key,.pointer (some ⟨w.heap.size,0,none⟩),.pointer (some ⟨w.heap.size + 1,0,none⟩),.slice none 0 0,.pointer (some ⟨Bo,0,none⟩),.int .i64 (x : Int),.pointer (some ⟨Bx,0,none⟩),undef,undef,ze i l r (some ⟨b,off,none⟩) L.length c,.bool true,.bool false,.pointer (some ⟨w.heap.size,3,none⟩),.slice (some ⟨b,off,none⟩) L.length c,.func (.func 143) #[] #[.pointer (some ⟨Bo + 1,0,none⟩)],.int .i64 (x : Int),XT (pat L x),undef,undef,undef,undef,undef,undef,undef,undef,undef,undef,undef,undef,undef,undef,undef,undef,undef,undef,undef,undef,undef,undef],defers:=[] })
  (fun x a' _ X Y row hs hg hr => by obtain ⟨Bx,h1,h2,h3,h4⟩:=hs; exact ⟨Bx,h1,h2,zHn h3 hg (fun r e => (hr r e).2),h4⟩)
  ?assign ?body ?done ?stop
 case assign =>
  rintro l pre x W K hI hK;obtain ⟨⟨⟨v,hv,hrow,_⟩,Ln,Eo⟩,hB1⟩:=hI;have hlt:=Eo.lt
  gi_wp2
  exact hK _ _ ((KeepsOthers.alloc _ _).from _) ⟨(aj _ W).alloc hB1.size _,fun v hv => ((aj (Bo + 1 + 1) W).alloc hlt _).cell (p:=⟨Bo + 1,0,none⟩) (dD _) |>.trans hv⟩
   ⟨⟨⟨v,hv.alloc _,hrow.alloc _,trivial⟩,Ln.alloc _,Eo.alloc _⟩,hB1.alloc hB1.size _⟩ ⟨W.heap.size,by have:=Ln.lt; omega,by omega,eH.new W _ _ _ _ _ _ _ _,rfl⟩
 case body =>
  rintro l pre x a' W hl ⟨rr,hr⟩ ⟨⟨⟨v,hv,hrow,_⟩,Ln,Eo⟩,hB1⟩ ⟨Bx,hx1,hx2,bX,rfl⟩ hlt;have hn0:=(N6.out W hB1 x)
  have Co:=zJv (ea L) key pre;have Lp:=fun (y : It) (h : zR (pat L x).1.m key = some y) => zIj (l:=ea L) pre (n:=x) (by rw [xJ]; exact h)
  have JI:=fun (h : zR (pat L x).1.m key = none) => zIF (l:=ea L) pre (n:=x) (by rw [xJ]; exact h)
  rw [xJ] at Lp;have g0:=bX.n0;have g1:=bX.n1;have g2:=bX.n2;obtain ⟨c0,c1,c2,c3,c4,c5,c6,c7,c8,c9⟩:=bX.q;have cK:=Ln.cell;have hXl:=bX.lt;have hKl:=Ln.lt;have hOl:=hv.lt;have Ry:=hB1.size
  cases PI : zR (pat L x).1.m key with
  | none =>
   rw [PI] at hn0;have hm:=JI PI;clear Lp JI PI N6 HG
   gi_wp2_with (refine ⟨trivial,?_⟩; gi_at_call 95; refine (CallsIn.inRound l (callsIn_wide.2 hn0)).mono ?_; rintro e w2 ⟨rfl,hb2⟩)
   have hb3:=hb2.alloc hb2.size (xO fM);exact ⟨(zC4 hb3).from _,⟨hb3.mono Ry,fun u hu => hb3.keeps' hu⟩,⟨⟨v,hv.below hb3,by rw [hm]; exact zI hrow hb3,trivial⟩,Ln.below hb3,Eo.below hb3⟩,hB1.trans (hb3.mono Ry)⟩
  | some y =>
   rw [PI] at hn0;have hm:=Lp y PI;clear Lp JI PI N6 HG
   gi_wp2_with (first | (refine ⟨trivial,?_⟩; gi_at_call 95; refine (CallsIn.inRound l (callsIn_wide.2 hn0)).mono ?_; rintro e w2 ⟨rfl,hb2⟩; have hb3:=hb2.alloc hb2.size (xO y); have q0:=hb3.keeps' g0; have q1:=hb3.keeps' g1; have q2:=hb3.keeps' g2; have hv3:=hv.below hb3; have qO:=hv3.cell; have hrow3:=zI hrow hb3; have X4 : (w2.alloc (xO y)).heap.size = w2.heap.size + 1:=(by simp); have amZ:=hb2.size) | (gi_at_builtin; refine wpListIn_append_own _ rfl _ _ 135 rfl w.heap.size 138 i0 _ 8 64 Tryz.underlying135 hi hz0 hz1 hz2 rfl (by decide) _ _ _ rfl (hrow3.alloc _) ⟨w2.heap.size + 1,0,none⟩ 1 1 (Ib ⟨(pat L x).1.num,(pat L x).1.mode,(pat L x).1.rev,y,x⟩) rfl rfl (zKT _ (w2.heap.size + 1) X4 (Ib ⟨(pat L x).1.num,(pat L x).1.mode,(pat L x).1.rev,y,x⟩) 138) (zMR _) (by unfold maxLen; omega) (by omega) (by simp; omega) ?_; intro v' w4 hown' hgrow _; obtain ⟨g',cap',rfl⟩:=ownsRow_succ hown'; obtain ⟨Dk,hv2,hr2,hk2,hb4⟩:=hv3.appended (by decide) hrow3 (by omega) (by omega) hown' hgrow; have hc1:=Dk.cell; have hf1:=Dk.frozen))
   have Uh:=(((Eo.below hb3).alloc _).kept hgrow ((Eo.below hb3).not_row (by decide) hrow3)).other (B':=Bo) (by omega) (.slice (some ⟨g',0,none⟩) ((qy (ea L) key pre).length + 1) cap');have bK5:=(((Ln.below hb3).alloc _).kept hgrow ((Ln.below hb3).not_row (by decide) hrow3)).other (B':=Bo) (by omega) (.slice (some ⟨g',0,none⟩) ((qy (ea L) key pre).length + 1) cap');exact ⟨((zC4 hb3).trans hk2).from _,⟨(hb3.mono Ry).trans hb4,fun u hu => by rw [Eo.cell] at hu; cases hu; exact Uh.cell⟩,⟨⟨_,hv2,by rw [hm,ax,cC]; simpa using hr2,trivial⟩,bK5,Uh⟩,hB1.trans ((hb3.mono Ry).trans hb4)⟩
 case done =>
  rintro D ys W hD rfl ⟨⟨⟨v,hv,hrow,_⟩,Ln,Eo⟩,hB1⟩ hK;have hc:=hv.cell;rw [zEp] at hrow
  gi_wp2
  refine ⟨by simp,.inl ⟨_,_,rfl,run_takeDeferred hK,?_⟩⟩;exact ⟨_,results_tmp rfl _ _ _,v,rfl,ownsRow_putObj hrow _ hK rfl,hB1.trans (belowK_b (w:=w) (ai _) W D _ _ (by omega) hK rfl rfl)⟩
 rintro D c pre W _ _ h _;exact h.elim
end Go.Proofs.YtcgfilmmokmdjaaGreat
namespace Go.Proofs.YtcgfilmmokmdjaaGreat
open Go.RowKit
def wY : jJ:=⟨0,0,0,fM,0⟩
abbrev Rz (x : jJ) : Array Value:=#[.int .i64 x.gen,.int .i64 x.mode,.int .i64 x.rev,.int .u64 x.it.key,.int .u32 x.it.ck,.int .i64 x.it.off,.int .i64 x.it.size]
abbrev N8 (x : jJ) : Value:=.agg (Rz x)
theorem zEk (l : List Gn) (key : Int) : ∀ n,(xF l key n).length ≤ n
 | 0 => ai _
 | n + 1 => by
  have h:=zEk l key n;rw [xF,ax]
  cases zR (eB l n).m key <;> simp <;> omega
theorem zJM {i l : Int} {r : Bool} {L : List GP} {n : Nat} (hn : n = L.length) (hv : zd ⟨i,l,r,ea L⟩ = true) (key : Int) : zl ⟨i,l,r,ea L⟩ key = xF (ea L) key n:=by
 unfold zl; rw [ag hv,hn]; show xF (ea L) key (ea L).length = _; rw [yB]
theorem X5 {s : eL} (hv : zd s = false) (key : Int) : zl s key = []:=by unfold zl; rw [ah (by rw [hv]; decide)]
theorem Fz.rd {w : World} {B : Nat} {v : Value} {l : List jJ} (h : Fz w B v l) : Lm w v l:=Vp (fun x _ => zLX x) (by decide) h
theorem zGa (i l : Int) (r : Bool) (a : Option Addr) (n c : Nat) (L : List GP) (w : World) (h : fH w (.slice a n c) L) (hs : ∀ p ∈ L,∀ j,j < 8 → (p.1.m.st j).length ≤ 10000) (key : Int) :
  Calls Tryz.prog 62 #[ze i l r a n c,.int .u64 key] w fun e w' => ∃ v,e = .returned v ∧ Fz w' w.heap.size v (zl ⟨i,l,r,ea L⟩ key) ∧ Below w.heap.size w w':=by
 cases hv : zd ⟨i,l,r,ea L⟩ with
 | true =>
  rw [zJM (by obtain ⟨a',cap',e,_⟩:=h.shape; injection e) hv];exact zK8 i l r a n c L w h hs hv key
 | false =>
  rw [X5 hv];refine (zL2 i l r a n c L w h hs hv key).mono ?_;rintro e w' ⟨rfl,hb⟩;exact ⟨_,rfl,aU _ _ _ _,hb⟩
structure Bq (W : World) (b : Nat) (x : jJ) : Prop where
 c0 : W.cell? ⟨b,0,none⟩ = some (.int .i64 x.gen)
 c1 : W.cell? ⟨b,1,none⟩ = some (.int .i64 x.mode)
 c2 : W.cell? ⟨b,2,none⟩ = some (.int .i64 x.rev)
 c3 : W.cell? ⟨b,3,none⟩ = some (.int .u64 x.it.key)
 c4 : W.cell? ⟨b,4,none⟩ = some (.int .u32 x.it.ck)
 c5 : W.cell? ⟨b,5,none⟩ = some (.int .i64 x.it.off)
 c6 : W.cell? ⟨b,6,none⟩ = some (.int .i64 x.it.size)
 f : ∀ i,W.frozen? ⟨b,i,none⟩ = false
theorem Bq.new (W : World) (x : jJ) : Bq (W.alloc (.cells (Rz x) 51)) W.heap.size x:=⟨by simp,by simp,by simp,by simp,by simp,by simp,by simp,fun i => by simp⟩
theorem Bq.lt {W : World} {b : Nat} {x : jJ} (h : Bq W b x) : b < W.heap.size:=cZ W _ h.c0
theorem Bq.below {W W' : World} {b : Nat} {x : jJ} (h : Bq W b x) (hB : Below W.heap.size W W') : Bq W' b x:=⟨hB.keeps' h.c0,hB.keeps' h.c1,hB.keeps' h.c2,hB.keeps' h.c3,hB.keeps' h.c4,hB.keeps' h.c5,hB.keeps' h.c6,fun i => (hB.frozen (p:=⟨b,i,none⟩) h.lt).trans (h.f i)⟩
abbrev N9 (x : jJ) : List (Nat × Value):=[(0,.int .i64 x.gen),(1,.int .i64 x.mode),(2,.int .i64 x.rev),(3,.int .u64 x.it.key),(4,.int .u32 x.it.ck),(5,.int .i64 x.it.off),(6,.int .i64 x.it.size)]
theorem Bq.all {W : World} {b : Nat} {x : jJ} (h : Bq W b x) (y : jJ) : Bq (pts W b (N9 y)) b y:=by
 have c0:=h.c0;have c1:=h.c1;have c2:=h.c2;have c3:=h.c3;have c4:=h.c4;have c5:=h.c5;have c6:=h.c6;refine ⟨?_,?_,?_,?_,?_,?_,?_,fun i => (xZ _ _ W).trans (h.f i)⟩
 ·
  simp [pts,go_sem,c0]
 ·
  simp [pts,go_sem,c1]
 ·
  simp [pts,go_sem,c2]
 ·
  simp [pts,go_sem,c3]
 ·
  simp [pts,go_sem,c4]
 ·
  simp [pts,go_sem,c5]
 simp [pts,go_sem,c6]
theorem zHV (i l : Int) (r : Bool) (a : Option Addr) (n c : Nat) (L : List GP) (w : World) (h : fH w (.slice a n c) L) (hs : ∀ p ∈ L,∀ j,j < 8 → (p.1.m.st j).length ≤ 10000) (key : Int) :
  Calls Tryz.prog 16 #[ze i l r a n c,.int .u64 key] w fun e w' => e = .returned (.tuple #[N8 ((zl ⟨i,l,r,ea L⟩ key).headD wY),.bool (!(zl ⟨i,l,r,ea L⟩ key).isEmpty)]) ∧ Below w.heap.size w w':=by
 have Bg:=zh (fun W (hb : Below w.heap.size w W) => zGa i l r a n c L W (h.below hb) hs key);have eG:=zh (fc.new w i l r a n c 27);have eQ:=zh (zS w i l r a n c 27);obtain ⟨F,hF⟩ : ∃ F,zl ⟨i,l,r,ea L⟩ key = F:=⟨_,rfl⟩
 rw [hF] at Bg ⊢;clear h hs hF
 go_enter Tryz.func16,Tryz.ntmps16
 go_upto_region 1 with fail;obtain ⟨W,hW⟩ : ∃ W,w.alloc (.cells (zN i l r a n c) 27) = W:=⟨_,rfl⟩
 change Code.wp _ _ _ _ ((w.alloc (.cells (zN i l r a n c) 27)).alloc _);have hsz : W.heap.size = w.heap.size + 1:=by rw [← hW]; simp
 rw [hW] at eG eQ ⊢;clear hW;have Dm:=eG.out.lt;have eW:=zh (eQ.out.alloc eQ.out.size (.cells #[.int .i64 0,.int .i64 0,.int .i64 0,.int .u64 0,.int .u32 0,.int .i64 0,.int .i64 0] 51));have fC:=zh (eG.out.below ((aj _ W).alloc (ai _) (.cells #[.int .i64 0,.int .i64 0,.int .i64 0,.int .u64 0,.int .u32 0,.int .i64 0,.int .i64 0] 51)));obtain ⟨k0,k1,k2,k3⟩:=fC.out.q;go_wp2_with fail;refine (Bg.out _ eW.out).mono ?_;rintro e w1 ⟨v,rfl,ho,hb1⟩;clear k0 k1 k2 k3;have hR:=ho.rd;obtain ⟨a',cap',rfl,h2,h3,h4,h5⟩:=ix.shape hR (by decide) wY;have hlz : w.heap.size + 1 < w1.heap.size:=by have:=hb1.size; simp at this; omega
 have HP : Bq w1 (w.heap.size + 1) wY:=by rw [← hsz]; exact (Bq.new W wY).below hb1
 have z0:=HP.c0;have z1:=HP.c1;have z2:=HP.c2;have z3:=HP.c3;have z4:=HP.c4;have z5:=HP.c5;have z6:=HP.c6;have hf:=HP.f;have PJ:=zh (zA eW.out hb1);clear hb1 hR ho
 cases F with
 | nil =>
  go_wp2_with fail;change bodyPost _ _ _ _ _ (pts w1 (w.heap.size + 1) (N9 wY));have hby:=HP.all wY;have ey:=zh (zD (B:=w.heap.size) (b:=w.heap.size + 1) (by omega) (N9 wY) PJ.out);generalize pts w1 (w.heap.size + 1) (N9 wY) = V at *;exact au (v:=.tuple #[N8 wY,.bool false]) (by simp [results,Tryz.results16,go_sem,hby.c0,hby.c1,hby.c2,hby.c3,hby.c4,hby.c5,hby.c6]) rfl ⟨rfl,ey.out⟩
 | cons x F =>
  obtain ⟨b,off,rfl,hc⟩:=h5 (by simp);have e0 : decide ((((x :: F).length : Nat) : Int) = 0) = false:=by simp; omega
  have c0 : w1.cell? ⟨b,off,none⟩ = some (.int .i64 x.gen):=by simpa using hc 0 (by simp) 0 _ rfl
  have c1 : w1.cell? ⟨b,off + 1,none⟩ = some (.int .i64 x.mode):=by simpa using hc 0 (by simp) 1 _ rfl
  have c2 : w1.cell? ⟨b,off + 2,none⟩ = some (.int .i64 x.rev):=by simpa using hc 0 (by simp) 2 _ rfl
  have c3 : w1.cell? ⟨b,off + 3,none⟩ = some (.int .u64 x.it.key):=by simpa using hc 0 (by simp) 3 _ rfl
  have c4 : w1.cell? ⟨b,off + 4,none⟩ = some (.int .u32 x.it.ck):=by simpa using hc 0 (by simp) 4 _ rfl
  have c5 : w1.cell? ⟨b,off + 5,none⟩ = some (.int .i64 x.it.off):=by simpa using hc 0 (by simp) 5 _ rfl
  have c6 : w1.cell? ⟨b,off + 6,none⟩ = some (.int .i64 x.it.size):=by simpa using hc 0 (by simp) 6 _ rfl
  have hpos : 0 < (x :: F).length:=by simp
  clear hc;generalize (x :: F).length = m at *;go_wp2_with fail;change bodyPost _ _ _ _ _ (pts w1 (w.heap.size + 1) (N9 x));have hby:=HP.all x;have ey:=zh (zD (B:=w.heap.size) (b:=w.heap.size + 1) (by omega) (N9 x) PJ.out);generalize pts w1 (w.heap.size + 1) (N9 x) = V at *;exact au (v:=.tuple #[N8 x,.bool true]) (by simp [results,Tryz.results16,go_sem,hby.c0,hby.c1,hby.c2,hby.c3,hby.c4,hby.c5,hby.c6]) rfl ⟨rfl,ey.out⟩
end Go.Proofs.YtcgfilmmokmdjaaGreat
