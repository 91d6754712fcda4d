/- A part of the walk. -/
import Derived.Test.YtcgfilmmokmdjaaGreatQAA
import Derived.Test.YtcgfilmmokmdjaaGreatBae
import Derived.Test.YtcgfilmmokmdjaaGreatQAI
import Derived.Test.YtcgfilmmokmdjaaGreatHd
import Derived.Test.YtcgfilmmokmdjaaGreatQAH
import Derived.Laws.Bits128
import Derived.Test.YtcgfilmmokmdjaaGreatGv
import Derived.Test.YtcgfilmmokmdjaaGreatQAD
import Derived.StillTailTactics
set_option linter.all false
set_option maxRecDepth 100000
set_option maxHeartbeats 32000000
namespace Go.Proofs.YtcgfilmmokmdjaaGreat
structure Rec where
 off : Int
 nd : Nd
 deriving DecidableEq
structure XK where
 slot : Nat
 gen : Nat
 rev : Nat
 deriving DecidableEq
def zMX (s : XK) : Prop:=s.slot < 4 ∧ 1 ≤ s.gen ∧ s.gen ≤ 8 ∧ s.rev ≤ 4294967295
instance (s : XK) : Decidable (zMX s):=by unfold zMX; exact inferInstance
def zM7 : List UInt8:=[78,86,79,76]
def XL (s : XK) : List UInt8:=zM7 ++ be s.slot 2 ++ be s.gen 2 ++ be s.rev 4
def zLp (k : List Nd) : List UInt8:=k.flatMap zMY
def whole : List Nd → Nat → Nat
 | [],_ => 0
 | x :: k,m => if m < CJ x.data.length then 0 else whole k (m - CJ x.data.length) + 1
end Go.Proofs.YtcgfilmmokmdjaaGreat
namespace Go.Proofs.YtcgfilmmokmdjaaGreat
open Go.RowKit
def zM0 (x : Nd) : Int:=if 4096 < x.data.length then 8 else 1
def T8 : List Nd → Int × List UInt8
 | [] => (0,[])
 | x :: r => if x.ok then (if (T8 r).1 = 0 then (0,zMY x ++ (T8 r).2) else ((T8 r).1,[])) else (zM0 x,[])
abbrev zLu (eN : Bool) (tk : Int) (kv nv rv : Value) : Value:=.agg #[.bool eN,.int .i64 tk,kv,nv,rv]
abbrev wt (eN : Bool) (tk : Int) (kv nv rv : Value) : Array Value:=#[.bool eN,.int .i64 tk,kv,nv,rv]
end Go.Proofs.YtcgfilmmokmdjaaGreat
namespace Go.Proofs.YtcgfilmmokmdjaaGreat
def wJ : eL:=⟨0,0,false,[]⟩
def zK (s : eL) : Gn:=eB s.dW (s.dW.length - 1)
noncomputable def tX (s : eL) : Int × Gn:=if zd s = true then (0,zK s) else (1,gY)
noncomputable def wh (s : eL) : Bool:=zd s && decide ((zK s).num < 8)
noncomputable def wl (s : eL) (n : Int) : Bool:=zd s && (decide (0 ≤ n) && decide (n ≤ 4096)) && decide ((zK s).size + (eP n.toNat : Nat) ≤ s.lim)
def qx (l : List Gn) (key : Int) : Nat → List Int
 | 0 => []
 | n + 1 => qx l key n ++ (match zR (eB l n).m key with | some _ => [(eB l n).num] | none => [])
noncomputable def zk (s : eL) (key : Int) : List Int:=if zd s = true then qx s.dW key (s.dW.length - 1) else []
theorem XM (l : List Gn) (key : Int) : ∀ n m,m ≤ n → ((xF l key n).reverse.filter fun x => decide (x.at_ < m)).map (·.gen) = qx l key m
 | 0,m,h => by
  obtain rfl : m = 0:=by omega
  rfl
 | n + 1,m,h => by
  unfold xF;rw [List.reverse_append,cQ,bE]
  by_cases hm : m ≤ n
  ·
   rw [XM l key n m hm]
   cases hg : zR (eB l n).m key with
   | none => simp
   | some x => simp [show ¬ n < m by omega]
  obtain rfl : m = n + 1:=by omega
  have hr:=XM l key n n (ai _);have hall : ∀ k,∀ x ∈ xF l key k,x.at_ < k:=by
   intro k
   induction k with
   | zero => intro x hx; cases hx
   | succ k ih =>
    intro x hx;unfold xF at hx;rcases List.mem_append.1 hx with hx | hx
    ·
     cases hg : zR (eB l k).m key with
     | none => rw [hg] at hx; cases hx
     | some y => rw [hg] at hx; obtain rfl:=List.mem_singleton.1 hx; exact dD k
    exact Nat.lt_succ_of_lt (ih x hx)
  have e1 : ((xF l key n).reverse.filter fun x => decide (x.at_ < n + 1)) = (xF l key n).reverse.filter fun x => decide (x.at_ < n):=by
   refine List.filter_congr fun x hx => ?_
   have:=hall n x (List.mem_reverse.1 hx);simp [this,Nat.lt_succ_of_lt this]
  rw [e1,hr]
  show _ = qx l key n ++ _
  cases hg : zR (eB l n).m key with
  | none => simp
  | some x => simp
noncomputable def zNE (i l : Int) : eL × Int:=if zd ⟨i,l,false,[fresh 1]⟩ = true then (⟨i,l,false,[fresh 1]⟩,0) else (wJ,1)
noncomputable def vZ (s : eL) : eL × Int:=
 if zd s = true then (if (zK s).num < 8 then (⟨s.id,s.lim,s.ro,s.dW.take (s.dW.length - 1) ++ [{ zK s with mode:=2 },fresh ((zK s).num + 1)]⟩,0) else (wJ,9)) else (wJ,1)
def uf (l : List Gn) (g : Gn) : List Gn:=l.map fun x => if x.num = g.num then g else x
noncomputable def yM (s : eL) (g : Gn) : eL × Int:=
 if zd s = true then (if (s.dW.any fun x => decide (x.num = g.num)) = true then (if zd ⟨s.id,s.lim,s.ro,uf s.dW g⟩ = true then (⟨s.id,s.lim,s.ro,uf s.dW g⟩,0) else (wJ,1)) else (wJ,6)) else (wJ,1)
theorem XP {l : List Gn} {k i : Nat} (h : i < k) (hk : k ≤ l.length) (r : List Gn) : eB (l.take k ++ r) i = eB l i:=by
 unfold eB;rw [aw,aw,dP (by rw [ay]; omega),List.getElem?_take_of_lt h]
theorem T9 {l : List Gn} {k : Nat} (hk : k ≤ l.length) (r : List Gn) (q : Nat) : eB (l.take k ++ r) (k + q) = eB r q:=by
 unfold eB;rw [aw,aw,dw (by rw [ay]; omega),ay]
 congr 2
 omega
theorem zAo (n : Int) : zG (fresh n).m = []:=by
 unfold zG;rw [ag (Xf n)]
 rfl
theorem eA.num {s : eL} (h : eA s) : ∀ i,i < s.dW.length → (i : Int) + 1 ≤ (eB s.dW i).num
 | 0,hi => by have:=(h.vg hi).num; omega
 | i + 1,hi => by
  have h1:=eA.num h i (by omega);have h2:=(h.g (i + 1) hi).2.1 (by omega);rw [show i + 1 - 1 = i by omega] at h2;omega
theorem eA.Cl {s : eL} (h : eA s) : gX (zK s) ∧ (zK s).mode = 1 ∧ (zK s).size ≤ 2 * s.lim:=by
 have hl:=h.len;have hi : s.dW.length - 1 < s.dW.length:=by omega
 obtain ⟨h1,h2,h3,h4⟩:=h.g _ hi;exact ⟨(yF _).1 h1,h3.2 (by omega),h4⟩
theorem zKZ {s : eL} (h : (vZ s).2 = 0) : eA (vZ s).1:=by
 unfold vZ at h ⊢
 by_cases hv : zd s = true
 ·
  rw [ag hv] at h ⊢
  by_cases hn : (zK s).num < 8
  ·
   rw [ag hn] at h ⊢;have hV:=(zZ s).1 hv;obtain ⟨ht,hm,hs⟩:=hV.Cl;have hl:=hV.len;have jk:=hV.num (s.dW.length - 1) (by omega);have jk : ((s.dW.length - 1 : Nat) : Int) + 1 ≤ (zK s).num:=jk;have hk : s.dW.length - 1 ≤ s.dW.length:=by omega
   have hlen : (s.dW.take (s.dW.length - 1) ++ [{ zK s with mode:=2 },fresh ((zK s).num + 1)]).length = s.dW.length + 1:=by
    simp only [ax,ay,aW,dM]; omega
   have hf:=(Xg ((zK s).num + 1)).2 (by omega);refine ⟨hV.id,hV.lim,by dsimp only; rw [hlen]; omega,fun i hi => ?_,?_⟩
   ·
    dsimp only at hi ⊢;rw [hlen] at hi;unfold Fl;dsimp only;rw [hlen]
    by_cases h1 : i < s.dW.length - 1
    ·
     have ho:=hV.g i (by omega);rw [XP h1 hk,XP (show i - 1 < s.dW.length - 1 by omega) hk];refine ⟨ho.1,ho.2.1,⟨fun e => ?_,fun e => by omega⟩,ho.2.2.2⟩;have:=ho.2.2.1.1 e;omega
    by_cases h2 : i = s.dW.length - 1
    ·
     have e0 : eB (s.dW.take (s.dW.length - 1) ++ [{ zK s with mode:=2 },fresh ((zK s).num + 1)]) i = { zK s with mode:=2 }:=by
      have:=T9 hk [{ zK s with mode:=2 },fresh ((zK s).num + 1)] 0;rw [bu] at this;rw [h2,this]; rfl
     rw [e0];refine ⟨(yF _).2 ⟨ht.num,ht.rev,by dsimp only; omega,ht.size,ht.m,ht.ends,ht.sum⟩,fun h0 => ?_,⟨fun e => by dsimp only at e; omega,fun e => by omega⟩,hs⟩;rw [XP (show i - 1 < s.dW.length - 1 by omega) hk];have:=(hV.g i (by omega)).2.1 h0;rw [h2] at this ⊢;exact this
    have h3 : i = s.dW.length - 1 + 1:=by omega
    have e0 : eB (s.dW.take (s.dW.length - 1) ++ [{ zK s with mode:=2 },fresh ((zK s).num + 1)]) i = fresh ((zK s).num + 1):=by
     rw [h3,T9 hk _ 1]; rfl
    have e1 : eB (s.dW.take (s.dW.length - 1) ++ [{ zK s with mode:=2 },fresh ((zK s).num + 1)]) (i - 1) = { zK s with mode:=2 }:=by
     have:=T9 hk [{ zK s with mode:=2 },fresh ((zK s).num + 1)] 0;rw [bu] at this;rw [show i - 1 = s.dW.length - 1 by omega,this]; rfl
    rw [e0,e1];refine ⟨(yF _).2 hf,fun _ => by show (zK s).num < (zK s).num + 1; omega,⟨fun _ => by omega,fun _ => rfl⟩,?_⟩
    show (16 : Int) ≤ 2 * s.lim
    have:=hV.lim;omega
   dsimp only;rw [hlen];have e0 : eB (s.dW.take (s.dW.length - 1) ++ [{ zK s with mode:=2 },fresh ((zK s).num + 1)]) (s.dW.length + 1 - 1) = fresh ((zK s).num + 1):=by
    rw [show s.dW.length + 1 - 1 = s.dW.length - 1 + 1 by omega,T9 hk _ 1]; rfl
   rw [e0,zAo]
   show (16 : Int) + ((0 * 24 : Nat) : Int) ≤ 2 * s.lim
   have:=hV.lim;omega
  rw [ah hn] at h; cases h
 rw [ah hv] at h; cases h
theorem zJt {s : eL} {g : Gn} (h : (yM s g).2 = 0) : eA (yM s g).1:=by
 unfold yM at h ⊢
 by_cases hv : zd s = true
 ·
  rw [ag hv] at h ⊢
  by_cases hn : (s.dW.any fun x => decide (x.num = g.num)) = true
  ·
   rw [ag hn] at h ⊢
   by_cases hw : zd ⟨s.id,s.lim,s.ro,uf s.dW g⟩ = true
   ·
    rw [ag hw]; exact (zZ _).1 hw
   rw [ah hw] at h; cases h
  rw [ah hn] at h; cases h
 rw [ah hv] at h; cases h
theorem xD {M : Mp} (_ : fN M) {y : It} : y ∈ zG M ↔ zR M y.key = some y:=by
  have ha:=yb M;rw [← vu,yQ ha];refine ⟨fun hy => zIf ha hy,fun hf => List.mem_of_find?_eq_some hf⟩
theorem zCy {R : It → It → Prop} (hs : ∀ a b,R a b → R b a) : ∀ {l : List It},l.Pairwise R → ∀ x ∈ l,∀ y ∈ l,x ≠ y → R x y
  | [],_,x,hx,_,_,_ => by cases hx
  | a :: l,h,x,hx,y,hy,hne => by
    rw [cR] at h;rcases List.mem_cons.1 hx with e1 | hx
    · rcases List.mem_cons.1 hy with e2 | hy
      · exact absurd (e1.trans e2.symm) hne
      rw [e1]; exact h.1 y hy
    rcases List.mem_cons.1 hy with e2 | hy
    · rw [e2]; exact hs _ _ (h.1 x hx)
    exact zCy hs h.2 x hx y hy hne
theorem qh {l : List It} (h : jX l) (size : Int) : kC l size ↔ (∀ x ∈ l,∀ y ∈ l,x.key ≠ y.key → Kt x y) ∧ ∀ x ∈ l,uK x ≤ size:=by
  unfold kC;have hp:=kE h;refine ⟨fun ⟨h1,h2⟩ => ⟨fun x hx y hy hne => ?_,h2⟩,fun ⟨h1,h2⟩ => ⟨?_,h2⟩⟩
  · exact zCy (fun _ _ h => zCl h) h1 x hx y hy (fun e => hne (by rw [e]))
  refine List.Pairwise.imp_of_mem ?_ hp;intro a b ha hb hlt;exact h1 a ha b hb (by omega)
theorem zM5 (n : Nat) : CJ n % 8 = 0:=by unfold CJ; omega
theorem zNA (n : Nat) : eP n % 8 = 0:=by
  unfold eP
  split
  · exact zM5 n
  rfl
theorem gX.small {g : Gn} (h : gX g) : 0 ≤ g.m.live ∧ 0 ≤ g.m.dZ ∧ g.m.live ≤ 1048576 ∧ g.m.dZ ≤ 1048576:=by
  have h1:=(zO _).1 h.m;have h2:=h1.live0;have h3:=h1.g0;have h4:=h.sum;have h5:=h.size;omega
theorem zDK {M M' : Mp} (hm : fN M) (Rt : fN M') {z z' : Int} (h : uC (zG M) z = true) (hz : z ≤ z') (hg : ∀ k y,zR M' k = some y → zR M k = some y) : uC (zG M') z' = true:=by
  have h1:=(qh (yb M) z).1 (aX h);refine aD ((qh (yb M') z').2 ⟨fun x hx y hy hne => ?_,fun x hx => ?_⟩)
  · exact h1.1 x ((xD hm).2 (hg _ _ ((xD Rt).1 hx))) y ((xD hm).2 (hg _ _ ((xD Rt).1 hy))) hne
  have:=h1.2 x ((xD hm).2 (hg _ _ ((xD Rt).1 hx)));omega
theorem zJl {M : Mp} (hm : fN M) {x : It} (hx : okB x = true) (hgb : M.dZ + (gW (zR M x.key) : Int) ≤ 1099511627776) (h : uC (zG M) x.off = true) : uC (zG (wX M x)) (uK x) = true:=by
  have h1:=(qh (yb M) x.off).1 (aX h);have Rt:=hm.ins hx hgb;have hlt:=tH (aX hx);have hmem : ∀ y,y ∈ zG (wX M x) → y = x ∨ y ∈ zG M:=fun y hy => by
    have:=(xD Rt).1 hy;rw [zFC hm hx hgb] at this
    by_cases e : x.key = y.key
    · rw [ag e] at this
      injection this with e2;exact .inl e2.symm
    rw [ah e] at this;exact .inr ((xD hm).2 this)
  refine aD ((qh (yb _) _).2 ⟨fun y hy z hz hne => ?_,fun y hy => ?_⟩)
  · rcases hmem y hy with rfl | IF
    · rcases hmem z hz with rfl | XQ
      · exact absurd rfl hne
      exact .inr (h1.2 z XQ)
    rcases hmem z hz with rfl | XQ
    · exact .inl (h1.2 y IF)
    exact h1.1 y IF z XQ hne
  rcases hmem y hy with rfl | IF
  · exact cq _
  have:=h1.2 y IF;omega
theorem zJm {g : Gn} (hg : gX g) {x : Nd} (hx : x.ok) : okB (Fm g x) = true:=by
  have h1:=hg.size;have h2 : x.data.length ≤ 4096:=hx.1;refine aD ⟨?_,?_,?_,?_,?_⟩
  · exact h1.1
  · exact h1.2.1
  · exact h1.2.2
  · show (0 : Int) ≤ (x.data.length : Int); omega
  show (x.data.length : Int) ≤ 4096; omega
theorem zBa {g : Gn} (hg : gX g) {x : Nd} (hx : x.ok) (hz : g.size + (eP x.data.length : Int) ≤ 1048576) : gX (yW g x):=by
  have hm:=(zO _).1 hg.m;have hs:=hg.small;have h8:=zNA x.data.length;have hsz:=hg.size;have QT:=hg.sum;have hxl:=xt x.data.length;refine ⟨hg.num,hg.rev,hg.mode,⟨?_,hz,?_⟩,?_,?_,?_⟩
  · show 16 ≤ g.size + (eP x.data.length : Int); omega
  · show (g.size + (eP x.data.length : Int)) % 8 = 0; omega
  all_goals
    unfold yW;dsimp only
    split
    next hd =>
      have h1 : g.m.dZ + (gW (zR g.m x.key) : Int) ≤ 1099511627776:=by have:=TU (zR g.m x.key); omega
      have Bf:=hm.del h1;have hds:=kV hm h1;have iy:=Bf.live0;have h2 : (yP g.m x.key).dZ + (eP x.data.length : Int) ≤ 1099511627776:=by omega
      have hw:=Bf.Jw (n:=(eP x.data.length : Int)) (by omega) h2
      first
        | exact (zO _).2 hw
        | (refine zDK hm hw hg.ends (by omega) ?_
           intro k y hy
           rw [xR hw,uh,← xR Bf,qC hm h1] at hy
           split at hy
           · cases hy
           exact hy)
        | (rw [zCu Bf (by omega) h2]
           dsimp only
           omega)
    next hd =>
      have hok:=zJm hg hx;have h1 : g.m.dZ + (gW (zR g.m (Fm g x).key) : Int) ≤ 1099511627776:=by have:=TU (zR g.m (Fm g x).key); omega
      have hi:=hm.ins hok h1;have XR:=zJf hm hok h1;have he : xV (Fm g x) = eP x.data.length:=by unfold xV Fm; dsimp only; rw [cS]
      first
        | exact (zO _).2 hi
        | (have h3:=zJl hm hok h1 hg.ends
           have h4 : uK (Fm g x) = g.size + (eP x.data.length : Int):=by unfold uK Fm; dsimp only; rw [cS]
           rwa [h4] at h3)
        | (rw [he] at XR
           omega)
theorem kU : ∀ (l : List Nd) {g : Gn},gX g → (∀ x ∈ l,x.ok) → g.size + (fU l : Int) ≤ 1048576 → gX (zX g l)
  | [],_,h,_,_ => h
  | x :: r,g,h,hok,hz => by
    rw [wi] at hz;have h1:=zBa h (hok x (by simp)) (by omega);have:=kU r h1 (fun y hy => hok y (by simp [hy])) (by rw [vR]; omega);exact this
theorem zGq {g : Gn} (h : gX g) (hm : g.mode = 1) {l : List Nd} (hok : ∀ x ∈ l,x.ok) (hz : g.size + (fU l : Int) ≤ 1048576) : xQ g l = (0,zX g l):=by
  unfold xQ;rw [ag ⟨(yF g).2 h,(tx l).2 hok⟩,ag hm,ag hz]
/-! ### The laws' B7 and fl -/
end Go.Proofs.YtcgfilmmokmdjaaGreat
namespace Go.Proofs.YtcgfilmmokmdjaaGreat
open Go.RowKit
/-! ### Same -/
theorem zEm (n : Int) : bits .and .i64 n 7 = n % 8:=by
 have hm : (BitVec.ofInt 64 7).toNat = 2 ^ 3 - 1:=by decide
 have key : (BitVec.ofInt 64 n &&& BitVec.ofInt 64 7).toNat = (n % ((2 ^ 64 : Nat) : Int)).toNat % 2 ^ 3:=by
  rw [BitVec.toNat_and,BitVec.toNat_ofInt,hm,dU]
 show IntKind.i64.wrap ((BitVec.ofInt 64 n &&& BitVec.ofInt 64 7).toNat : Nat) = n % 8
 rw [key,IntKind.wrap_i64];omega
theorem Rd.Da (k : Nat) (w : World) (hk : w.heap.size = k) (sz : Nat) (cs : List Value) (e : TypeId) (n : Nat) (hn : cs.length = n * sz) (hm : n ≤ maxLen) : Rd (w.alloc (.cells cs.toArray e)) sz (.slice (some ⟨k,0,none⟩) n n) n cs:=by
 subst hk; exact Rd.new w sz cs e n hn hm
theorem zCA (n : Int) (hn : 1 ≤ n ∧ n ≤ 8) (w : World) : Calls Tryz.prog 78 #[.int .i64 n] w fun e w' => e = .returned (.tuple #[zV n 0 1 16 Sl.nil 0 0,.int .i64 0]) ∧ Below w.heap.size w w':=by
 have HR:=zh (eH.new w 0 0 0 0 Sl.nil 0 0 113);have HB:=zh (zb w 0 0 0 0 Sl.nil 0 0 113);have e1 : decide (n < 1) = false:=aC (by omega);have e2 : decide (8 < n) = false:=aC (by omega);clear hn
 go_enter Tryz.func78,Tryz.ntmps78
 go_upto_region 1 with fail;obtain ⟨W,hW⟩ : ∃ W,w.alloc (.cells (zQ 0 0 0 0 Sl.nil 0 0) 113) = W:=⟨_,rfl⟩
 change Code.wp _ _ _ _ (w.alloc (.cells (zQ 0 0 0 0 Sl.nil 0 0) 113));rw [hW] at HR HB ⊢;clear hW;obtain ⟨r0,r1,r2,r3,r4,r5,r6,r7,r8,r9,jU,lM,mI,Ba⟩:=HR.out.q;have rf:=HR.out.f;go_wp2_with fail;change bodyPost _ _ _ _ _ (pts W w.heap.size (zJ n 0 1 16 Sl.nil 0 0));have hby:=HR.out.all n 0 1 16 Sl.nil 0 0;have ey:=zh (zD (B:=w.heap.size) (b:=w.heap.size) (by omega) (zJ n 0 1 16 Sl.nil 0 0) HB.out);generalize pts W w.heap.size (zJ n 0 1 16 Sl.nil 0 0) = V at *;exact au (v:=.tuple #[zV n 0 1 16 Sl.nil 0 0,.int .i64 0]) (by simp [results,Tryz.results78,go_sem,hby.q]) rfl ⟨rfl,ey.out⟩
def XS (x : Nd) : Nd:=⟨x.key % 8,x.ck,x.del,if x.del then [] else x.data.take 30⟩
def PH (l : List Nd) : List Nd:=(l.take 6).map XS
theorem zKG (x : Nd) : (XS x).data.length ≤ 30:=by
 unfold XS;dsimp only
 split
 ·
  simp
 rw [ay]; omega
theorem zEh (l : List Nd) : (PH l).length ≤ 6:=by unfold PH; rw [aI,ay]; omega
theorem zHb (l : List Nd) : ∀ x ∈ PH l,x.data.length ≤ 30:=fun x hx => by
 obtain ⟨y,_,rfl⟩:=List.mem_map.1 hx;exact zKG y
end Go.Proofs.YtcgfilmmokmdjaaGreat
namespace Go.Proofs.YtcgfilmmokmdjaaGreat
open Go.RowKit
abbrev GP:=Gn × Sl
def N4 : GP:=(gY,Sl.nil)
instance : Inhabited GP:=⟨N4⟩
def pat (l : List GP) (i : Nat) : GP:=l.getD i N4
def iY (x : GP) : List Value:=[.int .i64 x.1.num,.int .i64 x.1.rev,.int .i64 x.1.mode,.int .i64 x.1.size,.slice (x.2.a 0) (x.2.n 0) (x.2.c 0),.slice (x.2.a 1) (x.2.n 1) (x.2.c 1),.slice (x.2.a 2) (x.2.n 2) (x.2.c 2),.slice (x.2.a 3) (x.2.n 3) (x.2.c 3),.slice (x.2.a 4) (x.2.n 4) (x.2.c 4),.slice (x.2.a 5) (x.2.n 5) (x.2.c 5),.slice (x.2.a 6) (x.2.n 6) (x.2.c 6),.slice (x.2.a 7) (x.2.n 7) (x.2.c 7),.int .i64 x.1.m.live,.int .i64 x.1.m.dZ]
abbrev XT (x : GP) : Value:=zV x.1.num x.1.rev x.1.mode x.1.size x.2 x.1.m.live x.1.m.dZ
theorem kW (x : GP) : (iY x).length = 14:=rfl
def ea (l : List GP) : List Gn:=l.map Prod.fst
theorem yB (l : List GP) : (ea l).length = l.length:=aI ..
theorem xJ {l : List GP} {i : Nat} : eB (ea l) i = (pat l i).1:=by
 unfold eB ea pat;rw [aw,aw,b9]
 cases l[i]? <;> rfl
theorem xN {l : List GP} {i : Nat} (h : i < l.length) : pat l i ∈ l:=by
 unfold pat;rw [aw,aB h]; exact bM h
structure fH (w : World) (v : Value) (l : List GP) : Prop where
 r : ix 14 iY w v l
 m : ∀ p ∈ l,fq w p.2 p.1.m.st
theorem fH.below {w w' : World} {v : Value} {l : List GP} (h : fH w v l) (hb : Below w.heap.size w w') : fH w' v l:=⟨ix.below h.r hb,fun p hp => (h.m p hp).below hb⟩
theorem fH.shape {w : World} {v : Value} {l : List GP} (h : fH w v l) : ∃ a cap,v = .slice a l.length cap ∧ l.length ≤ cap ∧ cap ≤ maxLen:=by
 obtain ⟨a,cap,h1,h2,h3,_⟩:=ix.shape h.r (by decide) N4;exact ⟨a,cap,h1,h2,h3⟩
structure Bb (w : World) (b o : Nat) (x : GP) : Prop where
 n0 : w.cell? ⟨b,o,none⟩ = some (.int .i64 x.1.num)
 n1 : w.cell? ⟨b,o + 1,none⟩ = some (.int .i64 x.1.rev)
 n2 : w.cell? ⟨b,o + 2,none⟩ = some (.int .i64 x.1.mode)
 n3 : w.cell? ⟨b,o + 3,none⟩ = some (.int .i64 x.1.size)
 c0 : w.cell? ⟨b,o + 4,none⟩ = some (.slice (x.2.a 0) (x.2.n 0) (x.2.c 0))
 c1 : w.cell? ⟨b,o + 5,none⟩ = some (.slice (x.2.a 1) (x.2.n 1) (x.2.c 1))
 c2 : w.cell? ⟨b,o + 6,none⟩ = some (.slice (x.2.a 2) (x.2.n 2) (x.2.c 2))
 c3 : w.cell? ⟨b,o + 7,none⟩ = some (.slice (x.2.a 3) (x.2.n 3) (x.2.c 3))
 c4 : w.cell? ⟨b,o + 8,none⟩ = some (.slice (x.2.a 4) (x.2.n 4) (x.2.c 4))
 c5 : w.cell? ⟨b,o + 9,none⟩ = some (.slice (x.2.a 5) (x.2.n 5) (x.2.c 5))
 c6 : w.cell? ⟨b,o + 10,none⟩ = some (.slice (x.2.a 6) (x.2.n 6) (x.2.c 6))
 c7 : w.cell? ⟨b,o + 11,none⟩ = some (.slice (x.2.a 7) (x.2.n 7) (x.2.c 7))
 cl : w.cell? ⟨b,o + 12,none⟩ = some (.int .i64 x.1.m.live)
 cg : w.cell? ⟨b,o + 13,none⟩ = some (.int .i64 x.1.m.dZ)
theorem Bb.q {w : World} {b o : Nat} {x : GP} (h : Bb w b o x) : w.cell? ⟨b,o,none⟩ = some (.int .i64 x.1.num) ∧ w.cell? ⟨b,o + 1,none⟩ = some (.int .i64 x.1.rev) ∧ w.cell? ⟨b,o + 2,none⟩ = some (.int .i64 x.1.mode) ∧ w.cell? ⟨b,o + 3,none⟩ = some (.int .i64 x.1.size) ∧ w.cell? ⟨b,o + 4,none⟩ = some (.slice (x.2.a 0) (x.2.n 0) (x.2.c 0)) ∧ w.cell? ⟨b,o + 5,none⟩ = some (.slice (x.2.a 1) (x.2.n 1) (x.2.c 1)) ∧ w.cell? ⟨b,o + 6,none⟩ = some (.slice (x.2.a 2) (x.2.n 2) (x.2.c 2)) ∧ w.cell? ⟨b,o + 7,none⟩ = some (.slice (x.2.a 3) (x.2.n 3) (x.2.c 3)) ∧ w.cell? ⟨b,o + 8,none⟩ = some (.slice (x.2.a 4) (x.2.n 4) (x.2.c 4)) ∧ w.cell? ⟨b,o + 9,none⟩ = some (.slice (x.2.a 5) (x.2.n 5) (x.2.c 5)) ∧ w.cell? ⟨b,o + 10,none⟩ = some (.slice (x.2.a 6) (x.2.n 6) (x.2.c 6)) ∧ w.cell? ⟨b,o + 11,none⟩ = some (.slice (x.2.a 7) (x.2.n 7) (x.2.c 7)) ∧ w.cell? ⟨b,o + 12,none⟩ = some (.int .i64 x.1.m.live) ∧ w.cell? ⟨b,o + 13,none⟩ = some (.int .i64 x.1.m.dZ):=⟨h.n0,h.n1,h.n2,h.n3,h.c0,h.c1,h.c2,h.c3,h.c4,h.c5,h.c6,h.c7,h.cl,h.cg⟩
theorem Bb.below {w w' : World} {b o : Nat} {x : GP} (h : Bb w b o x) (hb : Below w.heap.size w w') : Bb w' b o x:=
 ⟨hb.keeps' h.n0,hb.keeps' h.n1,hb.keeps' h.n2,hb.keeps' h.n3,hb.keeps' h.c0,hb.keeps' h.c1,hb.keeps' h.c2,hb.keeps' h.c3,hb.keeps' h.c4,hb.keeps' h.c5,hb.keeps' h.c6,hb.keeps' h.c7,hb.keeps' h.cl,hb.keeps' h.cg⟩
theorem Bb.JE {w : World} {b : Nat} {g : Gn} {s : Sl} (h : eH w b g.num g.rev g.mode g.size s g.m.live g.m.dZ) : Bb w b 0 (g,s):=
 ⟨h.n0,h.n1,h.n2,h.n3,h.c0,h.c1,h.c2,h.c3,h.c4,h.c5,h.c6,h.c7,h.cl,h.cg⟩
theorem Bb.eD {w : World} {b c o : Nat} {x : GP} (h : Bb w b o x) (hp : b ≠ c) (vs : List (Nat × Value)) : Bb (pts w c vs) b o x:=
 ⟨(z8 (p:=⟨b,o,none⟩) hp vs w).trans h.n0,(z8 (p:=⟨b,o + 1,none⟩) hp vs w).trans h.n1,(z8 (p:=⟨b,o + 2,none⟩) hp vs w).trans h.n2,(z8 (p:=⟨b,o + 3,none⟩) hp vs w).trans h.n3,(z8 (p:=⟨b,o + 4,none⟩) hp vs w).trans h.c0,(z8 (p:=⟨b,o + 5,none⟩) hp vs w).trans h.c1,(z8 (p:=⟨b,o + 6,none⟩) hp vs w).trans h.c2,(z8 (p:=⟨b,o + 7,none⟩) hp vs w).trans h.c3,(z8 (p:=⟨b,o + 8,none⟩) hp vs w).trans h.c4,(z8 (p:=⟨b,o + 9,none⟩) hp vs w).trans h.c5,(z8 (p:=⟨b,o + 10,none⟩) hp vs w).trans h.c6,(z8 (p:=⟨b,o + 11,none⟩) hp vs w).trans h.c7,(z8 (p:=⟨b,o + 12,none⟩) hp vs w).trans h.cl,(z8 (p:=⟨b,o + 13,none⟩) hp vs w).trans h.cg⟩
theorem fH.at {w : World} {a : Option Addr} {n cap : Nat} {l : List GP} (h : fH w (.slice a n cap) l) {j : Nat} (hj : j < n) : ∃ b off,a = some ⟨b,off,none⟩ ∧ Bb w b (off + j * 14) (pat l j):=by
 obtain ⟨a',cap',e,h2,h3,_,h5⟩:=ix.shape h.r (by decide) N4;injection e with e1 e2 e3;subst e1 e2 e3;obtain ⟨b,off,e,hc⟩:=h5 (by omega);refine ⟨b,off,e,?_,hc j hj 1 _ rfl,hc j hj 2 _ rfl,hc j hj 3 _ rfl,hc j hj 4 _ rfl,hc j hj 5 _ rfl,hc j hj 6 _ rfl,hc j hj 7 _ rfl,hc j hj 8 _ rfl,hc j hj 9 _ rfl,hc j hj 10 _ rfl,hc j hj 11 _ rfl,hc j hj 12 _ rfl,hc j hj 13 _ rfl⟩;have:=hc j hj 0 _ rfl; rwa [bu] at this
theorem fH.Ru {w : World} {b off : Nat} {n cap : Nat} {l : List GP} (h : fH w (.slice (some ⟨b,off,none⟩) n cap) l) {j : Nat} (hj : j < n) : Bb w b (off + j * 14) (pat l j):=by
 obtain ⟨b',o',e,h⟩:=h.at hj;injection e with e;injection e with e1 e2;subst e1 e2;exact h
structure SlP where
 id : Int
 lim : Int
 ro : Bool
 dW : List GP
abbrev zN (i l : Int) (r : Bool) (a : Option Addr) (n c : Nat) : Array Value:=#[.int .i64 i,.int .i64 l,.bool r,.slice a n c]
abbrev ze (i l : Int) (r : Bool) (a : Option Addr) (n c : Nat) : Value:=.agg (zN i l r a n c)
structure fc (W : World) (b : Nat) (i l : Int) (r : Bool) (a : Option Addr) (n c : Nat) : Prop where
 c0 : W.cell? ⟨b,0,none⟩ = some (.int .i64 i)
 c1 : W.cell? ⟨b,1,none⟩ = some (.int .i64 l)
 c2 : W.cell? ⟨b,2,none⟩ = some (.bool r)
 c3 : W.cell? ⟨b,3,none⟩ = some (.slice a n c)
 f : ∀ i,W.frozen? ⟨b,i,none⟩ = false
theorem fc.q {W : World} {b : Nat} {i l : Int} {r : Bool} {a : Option Addr} {n c : Nat} (h : fc W b i l r a n c) : W.cell? ⟨b,0,none⟩ = some (.int .i64 i) ∧ W.cell? ⟨b,1,none⟩ = some (.int .i64 l) ∧ W.cell? ⟨b,2,none⟩ = some (.bool r) ∧ W.cell? ⟨b,3,none⟩ = some (.slice a n c):=⟨h.c0,h.c1,h.c2,h.c3⟩
section
variable {W : World} {b : Nat} {i l : Int} {r : Bool} {a : Option Addr} {n c : Nat}
theorem fc.new (W : World) (i l : Int) (r : Bool) (a : Option Addr) (n c : Nat) (t : TypeId) : fc (W.alloc (.cells (zN i l r a n c) t)) W.heap.size i l r a n c:=⟨by simp,by simp,by simp,by simp,fun i => by simp⟩
theorem zS (w : World) (i l : Int) (r : Bool) (a : Option Addr) (n c : Nat) (t : TypeId) : Below w.heap.size w (w.alloc (.cells (zN i l r a n c) t)):=(aj _ _).alloc (ai _) _
theorem fc.lt (h : fc W b i l r a n c) : b < W.heap.size:=cZ W _ h.c0
theorem fc.below {W' : World} (h : fc W b i l r a n c) (hb : Below W.heap.size W W') : fc W' b i l r a n c:=⟨hb.keeps' h.c0,hb.keeps' h.c1,hb.keeps' h.c2,hb.keeps' h.c3,fun i => (hb.frozen (p:=⟨b,i,none⟩) h.lt).trans (h.f i)⟩
abbrev zP (i l : Int) (r : Bool) (a : Option Addr) (n c : Nat) : List (Nat × Value):=[(0,.int .i64 i),(1,.int .i64 l),(2,.bool r),(3,.slice a n c)]
theorem fc.all (h : fc W b i l r a n c) (i' l' : Int) (r' : Bool) (a' : Option Addr) (n' c' : Nat) : fc (pts W b (zP i' l' r' a' n' c')) b i' l' r' a' n' c':=by
 obtain ⟨a0,a1,a2,a3⟩:=h.q;refine ⟨?_,?_,?_,?_,fun i => (xZ _ _ W).trans (h.f i)⟩
 ·
  simp [pts,go_sem,a0]
 ·
  simp [pts,go_sem,a1]
 ·
  simp [pts,go_sem,a2]
 simp [pts,go_sem,a3]
end
end Go.Proofs.YtcgfilmmokmdjaaGreat
namespace Go.Proofs.YtcgfilmmokmdjaaGreat
open Go.RowKit
theorem XU (w : World) : Calls Tryz.prog 53 #[.int .i64 4096] w fun e w' => e = .returned (.int .i64 4120) ∧ Below w.heap.size w w':=
 (Qy 4096 w).mono fun _ _ ⟨he,hw⟩ => ⟨he.trans rfl,hw ▸ aj _ _⟩
theorem zMm (w : World) : Calls Tryz.prog 53 #[.int .i64 0] w fun e w' => e = .returned (.int .i64 24) ∧ Below w.heap.size w w':=
 (Qy 0 w).mono fun _ _ ⟨he,hw⟩ => ⟨he.trans rfl,hw ▸ aj _ _⟩
theorem zFs (i l : Int) (r : Bool) (a : Option Addr) (n c : Nat) (w : World) (hA : ¬ (0 ≤ i ∧ i < 4 ∧ 4136 ≤ l ∧ l ≤ 262144)) :
  Calls Tryz.prog 47 #[ze i l r a n c] w fun e w' => e = .returned (.bool false) ∧ Below w.heap.size w w':=by
 have HZ:=zh (fun W => XU W);have eG:=zh (fc.new w i l r a n c 27);have eQ:=zh (zS w i l r a n c 27);have hc : i < 0 ∨ (0 ≤ i ∧ 4 ≤ i) ∨ (0 ≤ i ∧ i < 4 ∧ l < 4136) ∨ (0 ≤ i ∧ i < 4 ∧ 4136 ≤ l ∧ 262144 < l):=by omega
 clear hA
 go_enter Tryz.func47,Tryz.ntmps47
 go_upto_region 1 with fail;obtain ⟨W,hW⟩ : ∃ W,w.alloc (.cells (zN i l r a n c) 27) = W:=⟨_,rfl⟩
 change Code.wp _ _ _ _ (w.alloc (.cells (zN i l r a n c) 27));rw [hW] at eG eQ ⊢;have Dm:=eG.out.lt;have k0:=zB eG.out.c0;have k1:=zB eG.out.c1;clear hW;rcases hc with h1 | ⟨h1,h2⟩ | ⟨h1,h2,h3⟩ | ⟨h1,h2,h3,h4⟩
 ·
  have e1 : decide (i < 0) = true:=by simp; omega
  refine zC (by kernel_rfl) (by kernel_rfl) ?_
  repeat (go_big_quiet_step ((exact zE (HZ.out _))))
  refine aA ?_;intro _ hw';obtain ⟨q,hw'⟩:=hw';subst hw';have HQ:=zh (zA eQ.out q.h);clear k0 k1;go_wp2_with fail;go_ret;exact ⟨rfl,HQ.out⟩
 ·
  have e1 : decide (i < 0) = false:=by simp; omega
  have e2 : decide (4 ≤ i) = true:=by simp; omega
  refine zC (by kernel_rfl) (by kernel_rfl) ?_
  repeat (go_big_quiet_step ((exact zE (HZ.out _))))
  refine aA ?_;intro _ hw';obtain ⟨q,hw'⟩:=hw';subst hw';have HQ:=zh (zA eQ.out q.h);clear k0 k1;go_wp2_with fail;go_ret;exact ⟨rfl,HQ.out⟩
 ·
  have e1 : decide (i < 0) = false:=by simp; omega
  have e2 : decide (4 ≤ i) = false:=by simp; omega
  have e3 : decide (l < 4136) = true:=by simp; omega
  refine zC (by kernel_rfl) (by kernel_rfl) ?_
  repeat (go_big_quiet_step ((exact zE (HZ.out _))))
  refine aA ?_;intro _ hw';obtain ⟨q,hw'⟩:=hw';subst hw';have HQ:=zh (zA eQ.out q.h);clear k0 k1;go_wp2_with fail;go_ret;exact ⟨rfl,HQ.out⟩
 have e1 : decide (i < 0) = false:=by simp; omega
 have e2 : decide (4 ≤ i) = false:=by simp; omega
 have e3 : decide (l < 4136) = false:=by simp; omega
 have e4 : decide (262144 < l) = true:=by simp; omega
 refine zC (by kernel_rfl) (by kernel_rfl) ?_
 repeat (go_big_quiet_step ((exact zE (HZ.out _))))
 refine aA ?_;intro _ hw';obtain ⟨q,hw'⟩:=hw';subst hw';have HQ:=zh (zA eQ.out q.h);clear k0 k1;go_wp2_with fail;go_ret;exact ⟨rfl,HQ.out⟩
end Go.Proofs.YtcgfilmmokmdjaaGreat
