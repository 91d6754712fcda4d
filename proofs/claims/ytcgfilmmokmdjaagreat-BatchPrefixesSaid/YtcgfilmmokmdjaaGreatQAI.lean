/- A part of the walk. -/
import Derived.Test.YtcgfilmmokmdjaaGreatGv
import Derived.Test.YtcgfilmmokmdjaaGreatQAD
import Derived.Test.YtcgfilmmokmdjaaGreatQAH
import Derived.Test.YtcgfilmmokmdjaaGreatQAA
import Derived.Deep.Cut
import Derived.RegionTactic
import Derived.Deep.RegionLaw
import Derived.Test.YtcgfilmmokmdjaaGreatQAF
set_option linter.all false
set_option maxRecDepth 100000
set_option maxHeartbeats 32000000
namespace Go.Proofs.YtcgfilmmokmdjaaGreat
open Go.RowKit
def fresh (num : Int) : Gn:=⟨num,0,1,16,fun _ => [],0,0⟩
theorem TX (w : World) : fq w Sl.nil (fun _ => []):=fun _ _ => ix.nil 4 g_ w
theorem Xf (num : Int) : xA (fresh num).m = true:=by
 rw [zO];exact ⟨fun _ _ => rfl,fun _ _ x hx => (by cases hx),rfl,cq _,by show (0 : Int) ≤ 1099511627776; decide⟩
theorem Xg (num : Int) : gX (fresh num) ↔ 1 ≤ num ∧ num ≤ 8:=by
 constructor
 ·
  intro h; exact h.num
 intro h;refine ⟨h,⟨cq _,by show (0 : Int) ≤ _; decide⟩,?_,?_,Xf num,rfl,rfl⟩
 ·
  show (1 : Int) ≤ 1 ∧ (1 : Int) ≤ 3; decide
 show (16 : Int) ≤ 16 ∧ (16 : Int) ≤ 1048576 ∧ (16 : Int) % 8 = 0; decide
theorem zIH (num : Int) (hn : 1 ≤ num ∧ num ≤ 8) (w : World) : Calls Tryz.prog 60 #[.int .i64 num] w fun e w' => e = .returned (.tuple #[zV num 0 1 16 Sl.nil 0 0,.int .i64 0]) ∧ Below w.heap.size w w':=by
 have HV:=zh (fun W => uF (fresh num) Sl.nil W (TX W) (fun _ _ => aq _));rw [(yF _).2 ((Xg num).2 hn)] at HV;dsimp only [fresh] at HV;have HN:=zh (fun W => zKu W);have HB:=zh (zb w 0 0 0 0 Sl.nil 0 0 38);have HR:=zh (eH.new w 0 0 0 0 Sl.nil 0 0 38);clear hn;generalize hnil : Sl.nil = s0 at *;have Jy:=zh hnil;clear hnil
 go_enter Tryz.func60,Tryz.ntmps60
 go_wp2_with fail;refine (HN.out _).mono ?_;rintro e w1 ⟨rfl,hb1⟩;obtain ⟨W0,hW0⟩ : ∃ W0,w.alloc (.cells (zQ 0 0 0 0 s0 0 0) 38) = W0:=⟨_,rfl⟩
 have mH : Below (w.alloc (.cells (zQ 0 0 0 0 s0 0 0) 38)).heap.size (w.alloc (.cells (zQ 0 0 0 0 s0 0 0) 38)) w1:=by
  rw [← Jy.out]; exact hb1
 rw [hW0] at mH HB HR;have eW:=zh (zA HB.out mH);have eY:=zh (HR.out.below mH);clear hb1 mH HB HR hW0;have NH:=eY.out.lt;generalize hb0 : w.heap.size = b0 at *;have E0:=zh hb0;clear hb0;go_upto_region 2 with fail;obtain ⟨W,hW⟩ : ∃ W,w1.alloc (.cells (zQ num 0 1 16 s0 0 0) 38) = W:=⟨_,rfl⟩
 have HX:=zh (eH.new w1 num 0 1 16 s0 0 0 38);have eG:=zh (zb w1 num 0 1 16 s0 0 0 38);change Code.wp _ _ _ _ (w1.alloc (.cells (zQ num 0 1 16 s0 0 0) 38));rw [hW] at HX eG ⊢;clear hW;have gj:=zh (eY.out.below eG.out);have eV:=zh (iT eW.out (bU NH) eG.out);have NI:=HX.out.lt;obtain ⟨m0,m1,m2,m3,m4,m5,m6,m7,m8,m9,m10,m11,m12,m13⟩:=HX.out.q;go_wp2_with fail;refine (HV.out _).mono ?_;rintro e w2 ⟨rfl,hb2⟩;clear m0 m1 m2 m3 m4 m5 m6 m7 m8 m9 m10 m11 m12 m13;have gP:=zh (HX.out.below hb2);have mo:=zh (gj.out.below hb2);have gp:=zh (iT eV.out (bU gj.out.lt) hb2);have alo:=mo.out.lt;have alp:=gP.out.lt;have hne : b0 ≠ w1.heap.size:=by omega
 clear hb2 HX gj eV HV HN eY eW eG NI;generalize w1.heap.size = b1 at *;obtain ⟨m0,m1,m2,m3,m4,m5,m6,m7,m8,m9,m10,m11,m12,m13⟩:=gP.out.q;obtain ⟨d0,d1,d2,d3,d4,d5,d6,d7,d8,d9,d10,d11,d12,d13⟩:=mo.out.q;have F:=mo.out.f;go_wp2_with fail;change bodyPost _ _ _ _ _ (pts w2 b0 (zJ num 0 1 16 s0 0 0));have hby:=mo.out.all num 0 1 16 s0 0 0;have ey:=zh (zD (B:=b0) (ai _) (zJ num 0 1 16 s0 0 0) gp.out);generalize pts w2 b0 (zJ num 0 1 16 s0 0 0) = V at *;exact au (v:=.tuple #[zV num 0 1 16 s0 0 0,.int .i64 0]) (by simp [results,Tryz.results60,go_sem,hby.q]) rfl ⟨rfl,by rw [E0.out]; exact ey.out⟩
end Go.Proofs.YtcgfilmmokmdjaaGreat
namespace Go.Proofs.YtcgfilmmokmdjaaGreat
instance : Inhabited Mp:=⟨⟨fun _ => [],0,0⟩⟩
def gY : Gn:=⟨0,0,0,0,default⟩
instance : Inhabited Gn:=⟨gY⟩
def eB (l : List Gn) (i : Nat) : Gn:=l.getD i gY
structure eL where
 id : Int
 lim : Int
 ro : Bool
 dW : List Gn
def Fl (s : eL) (i : Nat) : Prop:=
 wM (eB s.dW i) = true ∧ (0 < i → (eB s.dW (i - 1)).num < (eB s.dW i).num) ∧ ((eB s.dW i).mode = 1 ↔ i + 1 = s.dW.length) ∧ (eB s.dW i).size ≤ 2 * s.lim
structure eA (s : eL) : Prop where
 id : 0 ≤ s.id ∧ s.id < 4
 lim : 4136 ≤ s.lim ∧ s.lim ≤ 262144
 len : 1 ≤ s.dW.length ∧ s.dW.length ≤ 8
 g : ∀ i,i < s.dW.length → Fl s i
 top : (eB s.dW (s.dW.length - 1)).size + (((zG (eB s.dW (s.dW.length - 1)).m).length * 24 : Nat) : Int) ≤ 2 * s.lim
open Classical in
noncomputable def zd (s : eL) : Bool:=decide (eA s)
theorem zZ (s : eL) : zd s = true ↔ eA s:=by unfold zd; simp
theorem qm {s : eL} (h : ¬ eA s) : zd s = false:=by unfold zd; simp [h]
theorem eA.vg {s : eL} (h : eA s) {i : Nat} (hi : i < s.dW.length) : gX (eB s.dW i):=(yF _).1 (h.g i hi).1
theorem zC6 {s : eL} {i : Nat} (hi : i < s.dW.length) (h : ¬ Fl s i) : zd s = false:=qm fun hv => h (hv.g i hi)
structure jJ where
 gen : Int
 mode : Int
 rev : Int
 it : It
 at_ : Nat
def xF (l : List Gn) (key : Int) : Nat → List jJ
 | 0 => []
 | n + 1 => (match zR (eB l n).m key with | some x => [⟨(eB l n).num,(eB l n).mode,(eB l n).rev,x,n⟩] | none => []) ++ xF l key n
noncomputable def zl (s : eL) (key : Int) : List jJ:=if zd s = true then xF s.dW key s.dW.length else []
end Go.Proofs.YtcgfilmmokmdjaaGreat
namespace Go.Proofs.YtcgfilmmokmdjaaGreat
open Go.RowKit
def Fm (g : Gn) (x : Nd) : It:=⟨(x.key : Int),(x.ck : Int),g.size,(x.data.length : Int)⟩
def yW (g : Gn) (x : Nd) : Gn:={ g with m:=if x.del then xE (yP g.m x.key) (eP x.data.length : Nat) else wX g.m (Fm g x),size:=g.size + (eP x.data.length : Nat) }
def zX (g : Gn) (l : List Nd) : Gn:=l.foldl yW g
def fU (l : List Nd) : Nat:=(l.map fun x => eP x.data.length).sum
instance (x : Nd) : Decidable x.ok:=by unfold Nd.ok; infer_instance
def IU (l : List Nd) : Bool:=l.all fun x => decide x.ok
def xQ (g : Gn) (l : List Nd) : Int × Gn:=if wM g = true ∧ IU l = true then (if g.mode = 1 then (if g.size + (fU l : Int) ≤ 1048576 then (0,zX g l) else (9,gY)) else (12,gY)) else (1,gY)
def yY (g : Gn) (l : List Int) : Int × Gn:=if wM g = true then (if g.mode = 1 then (12,gY) else (0,{ g with m:=l.foldl yP g.m })) else (1,gY)
def xl (g : Gn) (fD : Int) : Int × Gn:=if wM g = true then (if g.mode = fD then (0,{ g with mode:=fD + 1 }) else (12,gY)) else (1,gY)
def Kv (w0 : World) (p : Int × Gn) (e : Ending) (w' : World) : Prop:=(∃ s,e = .returned (.tuple #[zV p.2.num p.2.rev p.2.mode p.2.size s p.2.m.live p.2.m.dZ,.int .i64 p.1]) ∧ eZ w' w0.heap.size s p.2.m.st) ∧ Below w0.heap.size w0 w'
theorem uN (M : Mp) : xE M 0 = M:=by
 unfold xE
 split
 ·
  rw [Int.add_zero]
 rfl
theorem zGv : fU [] = 0:=rfl
theorem wi (x : Nd) (l : List Nd) : fU (x :: l) = eP x.data.length + fU l:=by simp [fU]
theorem ub (g : Gn) (l : List Nd) (x : Nd) : zX g (l ++ [x]) = yW (zX g l) x:=by simp [zX]
theorem uo (l : List Nd) (x : Nd) : fU (l ++ [x]) = fU l + eP x.data.length:=by simp [fU]
theorem vR (g : Gn) (x : Nd) : (yW g x).size = g.size + (eP x.data.length : Nat):=rfl
theorem yy (g : Gn) : ∀ l,(zX g l).size = g.size + (fU l : Nat)
 | [] => by simp [zX,fU]
 | x :: r => by
  have:=yy (yW g x) r;rw [vR] at this
  show (zX (yW g x) r).size = _
  rw [this,wi]; omega
theorem zBS (g : Gn) (x : Nd) : (yW g x).num = g.num ∧ (yW g x).rev = g.rev ∧ (yW g x).mode = g.mode:=⟨rfl,rfl,rfl⟩
theorem vt : ∀ (l : List Nd) (g : Gn),(zX g l).num = g.num ∧ (zX g l).rev = g.rev ∧ (zX g l).mode = g.mode
 | [],_ => ⟨rfl,rfl,rfl⟩
 | x :: r,g => by
  have:=vt r (yW g x);exact this
theorem zIG (M : Mp) (x : It) {n : Nat} (h : ∀ i,i < 8 → (M.st i).length ≤ n) : ∀ i,i < 8 → ((wX M x).st i).length ≤ n + 1:=fun i hi => by
 unfold wX
 split
 ·
  show (if i = zg x.key then ins (M.st i) x else M.st i).length ≤ n + 1
  have h1:=vv x (M.st i);have h2:=h i hi
  split <;> omega
 have h2:=h i hi; omega
theorem qd (M : Mp) (k : Int) {n : Nat} (h : ∀ i,i < 8 → (M.st i).length ≤ n) : ∀ i,i < 8 → ((yP M k).st i).length ≤ n:=fun i hi => by
 unfold yP
 split
 ·
  exact h i hi
 split
 ·
  show (if i = zg k then gB (M.st i) k else M.st i).length ≤ n
  have h1:=uy (M.st i) k;have h2:=h i hi
  split <;> omega
 exact h i hi
theorem uh (M : Mp) (z : Int) : (xE M z).st = M.st:=by unfold xE; split <;> rfl
theorem zFj (g : Gn) (x : Nd) {n : Nat} (h : ∀ i,i < 8 → (g.m.st i).length ≤ n) : ∀ i,i < 8 → ((yW g x).m.st i).length ≤ n + 1:=fun i hi => by
 unfold yW;dsimp only
 split
 ·
  rw [uh];exact Nat.le_succ_of_le (qd _ _ h i hi)
 exact zIG _ _ h i hi
theorem xg : ∀ (l : List Nd) (g : Gn) {n : Nat},(∀ i,i < 8 → (g.m.st i).length ≤ n) → ∀ i,i < 8 → ((zX g l).m.st i).length ≤ n + l.length
 | [],_,_,h => h
 | x :: r,g,n,h => fun i hi => by
  have:=xg r (yW g x) (zFj g x h) i hi;rw [aW];exact ak this (by omega)
theorem wQ : ∀ (l : List Int) (M : Mp) {n : Nat},(∀ i,i < 8 → (M.st i).length ≤ n) → ∀ i,i < 8 → ((l.foldl yP M).st i).length ≤ n
 | [],_,_,h => h
 | x :: r,M,_,h => wQ r (yP M x) (qd M x h)
abbrev Xi (x : Nd) (v : Value) : Value:=.agg #[.int .u64 (x.key : Int),.int .u32 (x.ck : Int),.bool x.del,v]
theorem zGm (w : World) : CZ w (.slice none 0 0) []:=kq (aU w 0 5 1)
def uB (p : Nd × Value) : List Value:=[.int .u64 (p.1.key : Int),.int .u32 (p.1.ck : Int),.bool p.1.del,p.2]
theorem zIJ (p : Nd × Value) : (uB p).length = 4:=rfl
def wU (es : List (Nd × Value)) : List Value:=es.flatMap uB
theorem vD (es : List (Nd × Value)) : (wU es).length = es.length * 4:=yV 4 uB es fun x _ => zIJ x
theorem Xj : wK Tryz.prog 23 56 4 40:=by
 obtain ⟨i,hi,hz,hs,hb⟩:=b_ (P:=Tryz.prog) (e:=56) (z:=.agg #[.int .u64 0,.int .u32 0,.bool false,.slice none 0 0]) (size:=4) (bytes:=40) (by kernel_rfl);exact ⟨Tryz.underlying23,by decide,i,_,hi,hz,hs,hb,rfl⟩
structure mr (w : World) (v : Value) (es : List (Nd × Value)) : Prop where
 row : Rd w 4 v es.length (wU es)
 dat : ∀ p ∈ es,CZ w p.2 p.1.data
theorem mr.below {w w' : World} {v : Value} {es : List (Nd × Value)} (h : mr w v es) (hb : Below w.heap.size w w') : mr w' v es:=⟨h.row.below hb,fun p hp => iw.below (h.dat p hp) hb⟩
def xW (es : List (Nd × Value)) (j : Nat) : Nd × Value:=es.getD j (MY,.slice none 0 0)
theorem uk {es : List (Nd × Value)} {j : Nat} (h : j < es.length) : xW es j ∈ es:=by
 unfold xW; rw [aw,aB h]; exact bM h
theorem mr.shape {w : World} {v : Value} {es : List (Nd × Value)} (h : mr w v es) : ∃ a cap,v = .slice a es.length cap ∧ es.length ≤ cap ∧ cap ≤ maxLen:=by
 obtain ⟨_,a,cap,h1,h2,h3,_⟩:=h.row;exact ⟨a,cap,h1,h2,h3⟩
theorem mr.at {w : World} {a : Option Addr} {n cap : Nat} {es : List (Nd × Value)} (h : mr w (.slice a n cap) es) {j : Nat} (hj : j < n) : ∃ b off,a = some ⟨b,off,none⟩ ∧ CZ w (xW es j).2 (xW es j).1.data ∧
  w.cell? ⟨b,off + j * 4,none⟩ = some (.int .u64 ((xW es j).1.key : Int)) ∧ w.cell? ⟨b,off + j * 4 + 1,none⟩ = some (.int .u32 ((xW es j).1.ck : Int)) ∧
  w.cell? ⟨b,off + j * 4 + 2,none⟩ = some (.bool (xW es j).1.del) ∧ w.cell? ⟨b,off + j * 4 + 3,none⟩ = some (xW es j).2:=by
 have hn : n = es.length:=by
  obtain ⟨_,_,_,e,_⟩:=h.row;injection e
 subst hn;obtain ⟨_,a',cap',e,_,_,_,hc⟩:=h.row;injection e with e1;obtain ⟨b,off,e2,hc⟩:=hc (by rw [vD]; omega);refine ⟨b,off,e1.trans e2,h.dat _ (uk hj),?_⟩
 have hat : ∀ i,i < 4 → ∀ u,(uB (xW es j))[i]? = some u → w.cell? ⟨b,off + (j * 4 + i),none⟩ = some u:=fun i hi u hu => hc (j * 4 + i) u (by
  rw [show wU es = es.flatMap uB from rfl,tV 4 uB (MY,.slice none 0 0) es (fun _ _ => rfl) j i hj hi]; exact hu)
 exact ⟨hat 0 (by omega) _ rfl,hat 1 (by omega) _ rfl,hat 2 (by omega) _ rfl,hat 3 (by omega) _ rfl⟩
structure EU (W : World) (b : Nat) (x : Nd) (v : Value) : Prop where
 c0 : W.cell? ⟨b,0,none⟩ = some (.int .u64 (x.key : Int))
 c1 : W.cell? ⟨b,1,none⟩ = some (.int .u32 (x.ck : Int))
 c2 : W.cell? ⟨b,2,none⟩ = some (.bool x.del)
 c3 : W.cell? ⟨b,3,none⟩ = some v
 f : ∀ i,W.frozen? ⟨b,i,none⟩ = false
theorem EU.q {W : World} {b : Nat} {x : Nd} {v : Value} (h : EU W b x v) : W.cell? ⟨b,0,none⟩ = some (.int .u64 (x.key : Int)) ∧ W.cell? ⟨b,1,none⟩ = some (.int .u32 (x.ck : Int)) ∧ W.cell? ⟨b,2,none⟩ = some (.bool x.del) ∧ W.cell? ⟨b,3,none⟩ = some v:=⟨h.c0,h.c1,h.c2,h.c3⟩
abbrev Q7 (x : Nd) (v : Value) : Array Value:=#[.int .u64 (x.key : Int),.int .u32 (x.ck : Int),.bool x.del,v]
theorem EU.new (W : World) (x : Nd) (v : Value) : EU (W.alloc (.cells (Q7 x v) 56)) W.heap.size x v:=⟨by simp,by simp,by simp,by simp,fun i => by simp⟩
theorem Xk (w : World) (x : Nd) (v : Value) : Below w.heap.size w (w.alloc (.cells (Q7 x v) 56)):=(aj _ _).alloc (ai _) _
theorem zDf (x : Nd) (a : Option Addr) (cap : Nat) (w : World) : Calls Tryz.prog 80 #[Xi x (.slice a x.data.length cap)] w fun e w' => e = .returned (.bool (decide x.ok)) ∧ Below w.heap.size w w':=by
 obtain ⟨k,c,d,l⟩:=x;dsimp only;have HB:=zh (show Below w.heap.size w (w.alloc (.cells #[.int .u64 (k : Int),.int .u32 (c : Int),.bool d,.slice a l.length cap] 56)) from (aj _ _).alloc (ai _) _)
 have HO:=zh (show decide (Nd.ok ⟨k,c,d,l⟩) = (decide ((l.length : Int) ≤ 4096) && !(d && decide (0 < (l.length : Int)))) by
  unfold Nd.ok
  dsimp only
  have e : (l = []) ↔ ¬ 0 < l.length:=by rw [← List.length_eq_zero_iff]; omega
  cases d
  ·
   simp only [Bool.false_and,Bool.not_false,Bool.and_true,reduceCtorEq,false_imp_iff,and_true]
   exact decide_eq_decide.2 (by omega)
  simp only [cT,forall_const,e]
  rw [dA,aS,aO,aS,Bool.not_eq_true',decide_eq_false_iff_not]
  omega)
 generalize decide (Nd.ok ⟨k,c,d,l⟩) = ob at *;generalize l.length = n at *
 go_enter Tryz.func80,Tryz.ntmps80
 by_cases h1 : (n : Int) ≤ 4096
 ·
  have d1 : decide ((n : Int) ≤ 4096) = true:=aD h1
  cases d
  ·
   go_wp2_with fail;go_ret;exact ⟨zH (by rw [HO.out,d1]; rfl),HB.out⟩
  by_cases h2 : 0 < (n : Int)
  ·
   have d2 : decide (0 < (n : Int)) = true:=aD h2;go_wp2_with fail;go_ret;have h3 : 0 < n:=by omega
   exact ⟨zH (by rw [HO.out,d1,d2]; simp [h3]),HB.out⟩
  have d2 : decide (0 < (n : Int)) = false:=aC h2;go_wp2_with fail;go_ret;have h3 : ¬ 0 < n:=by omega
  exact ⟨zH (by rw [HO.out,d1,d2]; simp [h3]),HB.out⟩
 have d1 : decide ((n : Int) ≤ 4096) = false:=aC h1;go_wp2_with fail;go_ret;exact ⟨zH (by rw [HO.out,d1]; rfl),HB.out⟩
/-! ### From -/
def ue (T : List It) (j : Nat) (i : Nat) : List It:=Cb i (T.take j)
theorem zIa {T : List It} {j : Nat} (h : j < T.length) : ue T (j + 1) (zg (d_ T j).key) = ue T j (zg (d_ T j).key) ++ [d_ T j]:=by
 unfold ue Cb;rw [xH h,cQ];simp
theorem zLI {T : List It} {j i : Nat} (h : j < T.length) (hi : i ≠ zg (d_ T j).key) : ue T (j + 1) i = ue T j i:=by
 unfold ue Cb;rw [xH h,cQ];simp [aR hi]
theorem zIP {T : List It} {j : Nat} (h : j < T.length) : ue T (j + 1) = fun i => if i = zg (d_ T j).key then ue T j (zg (d_ T j).key) ++ [d_ T j] else ue T j i:=funext fun i => by
 by_cases e : i = zg (d_ T j).key
 ·
  rw [ag e,e,zIa h]
 rw [ah e,zLI h e]
theorem zJ4 (T : List It) (j i : Nat) : (ue T j i).length ≤ j:=by
 unfold ue;exact ak (zKl _ _) (by rw [ay]; omega)
theorem zHO (T : List It) : ue T 0 = fun _ => []:=funext fun _ => rfl
theorem zKb (T : List It) : ue T T.length = fun i => Cb i T:=funext fun i => by unfold ue; rw [cm]
theorem zA0 (x : It) (w : World) : Calls Tryz.prog 127 #[.agg #[.int .u64 x.key,.int .u32 x.ck,.int .i64 x.off,.int .i64 x.size]] w fun e w' => e = .returned (.bool (okB x)) ∧ Below w.heap.size w w':=zAm x.key x.ck x.off x.size w
theorem zB2 (v : Value) (l : List It) (g : Int) (w : World) (h : i_ w v l) (hs : l.length ≤ 80000) :
  Calls Tryz.prog 125 #[v,.int .i64 g] w fun e w' => (∃ s',e = .returned (yK s' (tj l g).live (tj l g).dZ) ∧ eZ w' w.heap.size s' (tj l g).st) ∧ Below w.heap.size w w':=by
 have Hr:=zh h;have IK:=zh (fun v W h => qX v l W h (ak hs (by decide)));have Cf:=zh (fun (ho : l.all okB = true) v W h => zAr v (fE l) W h (fun x hx => (zHL (zKq ho) x hx).2.2.2.1) (ak (yZ l) (ak hs (by decide))));have eG:=zh (eM.new w Sl.nil 0 0 111);have eQ:=zh (za w Sl.nil 0 0 111);have iB:=zh (fun h => zKO (l:=l) (g:=g) h);have iO:=zh (fun h h0 h1 => W5 (l:=l) (g:=g) h h0 h1);have HAt:=zh (show (∀ j,j < l.length → _) → _ from kj (l:=l) (p:=okB));have HAf:=zh (show ∀ j,j < l.length → _ → _ from fun j => qS (l:=l) (p:=okB) (j:=j));have hl:=yZ l;have hsb:=qP (fE l);have M7 : zu (fE l) ≤ 80000 * 4127:=ak hsb (aV _ (ak hl hs));clear h hsb;generalize tj l g = FM at *;generalize l.all okB = ob at *;generalize fE l = T at *;obtain ⟨a,cap,rfl,h1,h2⟩:=Hr.out.shape;generalize hn : l.length = n at *;clear hn
 go_enter Tryz.func125,Tryz.ntmps125
 go_upto_region 1 with fail;obtain ⟨W0,hW0⟩ : ∃ W0,w.alloc (.cells (yj Sl.nil 0 0) 111) = W0:=⟨_,rfl⟩
 rw [hW0] at eG eQ;rw [show w.alloc (.cells #[.slice none 0 0,.slice none 0 0,.slice none 0 0,.slice none 0 0,.slice none 0 0,.slice none 0 0,.slice none 0 0,.slice none 0 0,.int .i64 0,.int .i64 0] 111) = W0 from hW0];clear hW0;go_wp2_with fail
 go_loopw [5] (fun iv W => ∃ i : Nat,iv = .int .i64 (i : Int) ∧ i ≤ n ∧ Hid (∀ r,r < i → okB (d_ l r) = true) ∧ Hid (Below W0.heap.size W0 W)) (fun iv _ => n - (intOf iv).toNat)
 case atStart => exact ⟨0,rfl,aq _,zh (fun r hr => by omega),zh (aj _ _)⟩
 obtain ⟨i,rfl,hi,mj,HB⟩:=hrel
 by_cases hin : i < n
 ·
  have ii1 : (i : Int) < (n : Int):=by omega
  obtain ⟨pb,Nh,e,k0,k1,k2,k3⟩:=(Hr.out.below (zA eQ.out HB.out)).at hin;subst e;have Xl:=zh (HAf.out i hin)
  have C9:=zh (fun (hx : okB (d_ l i) = true) r (hr : r < i + 1) => show okB (d_ l r) = true from by
   by_cases e : r = i
   ·
    rw [e]; exact hx
   exact mj.out r (by omega))
  generalize d_ l i = x at *;have HV:=zh (fun W => zA0 x W)
  cases hx : okB x
  ·
   rw [hx] at HV;have HF:=zh (iB.out (fun h => by rw [Xl.out hx] at h; cases h.1));clear hx Xl C9 iB iO;go_wp2_with fail;refine (HV.out _).mono ?_; rintro e w1 ⟨rfl,hb1⟩;have Fo:=zh (eG.out.below (zA HB.out hb1));have ey:=zh (zA eQ.out (zA HB.out hb1));clear hb1 k0 k1 k2 k3;obtain ⟨c0,c1,c2,c3,c4,c5,c6,c7,c8,c9⟩:=Fo.out.q;have cF:=Fo.out.f;go_wp2_with fail;change bodyPost _ _ _ _ _ (yH w1 w.heap.size Sl.nil 0 0);have hby:=Fo.out.all Sl.nil 0 0;have CP:=zh (zY ey.out (ai _) Sl.nil 0 0);generalize yH w1 w.heap.size Sl.nil 0 0 = V9 at *;exact au (v:=yK Sl.nil 0 0) (by simp [results,Tryz.results125,go_sem,hby.q]) rfl ⟨⟨Sl.nil,by rw [HF.out]; rfl,by rw [HF.out]; exact eZ.nil _ _⟩,CP.out⟩
  rw [hx] at HV;have Jq:=zh (C9.out hx);clear hx Xl C9;go_wp2_with fail;refine (HV.out _).mono ?_; rintro e w1 ⟨rfl,hb1⟩;have ey:=zh (zA HB.out hb1);clear hb1 k0 k1 k2 k3;go_wp2_with fail;exact ⟨⟨i + 1,by go_num,by omega,Jq,ey⟩,by simp [intOf]; omega⟩
 have ii1 : ¬ (i : Int) < (n : Int):=by omega
 obtain rfl : i = n:=by omega
 have NB : ob = true:=HAt.out mj.out;subst NB;have BZ:=zh (eG.out.below HB.out);have eW:=zh (zA eQ.out HB.out);clear HAt HAf mj eG eQ HB
 by_cases hg : 0 ≤ g ∧ g ≤ 1099511627776
 ·
  obtain ⟨hg0,hg1⟩:=hg;have g1 : decide (g < 0) = false:=by simp; omega
  have g2 : decide (1099511627776 < g) = false:=by simp; omega
  have HFM:=zh (iO.out rfl hg0 hg1);have Xm:=zh (Cf.out rfl);clear iB iO Cf;have Nb:=zh (IK.out _ wr (Hr.out.below eW.out));go_wp2_with fail;refine Nb.out.mono ?_; rintro e w2 ⟨v2,rfl,eC,hb2⟩;have gm:=zh (BZ.out.below hb2);have eV:=zh (zA eW.out hb2);have gj:=zh (fu.rd eC);have Q8:=zh (Xm.out _ w2 (fu.rd eC));obtain ⟨ta,tc,rfl,ht1,ht2⟩:=gj.out.shape;clear eC hb2 BZ eW Nb;go_wp2_with fail;refine Q8.out.mono ?_; rintro e w3 ⟨rfl,hb3⟩;have gP:=zh (gm.out.below hb3);have gp:=zh (zA eV.out hb3);have mo:=zh (gj.out.below hb3);clear hb3 gm eV gj Q8;have HAs:=zh (fun j (h : j < T.length) => zIP h);have Jz:=zh (fun j i => zJ4 T j i);have QR:=zh (zHO T);have HAz:=zh (zKb T);generalize htn : T.length = tn at *;clear htn;generalize zu T = S at *;go_upto_region 10 with fail;obtain ⟨W4,TY⟩ : ∃ W4,w3.alloc (.cells (yj Sl.nil (S : Int) g) 111) = W4:=⟨_,rfl⟩
  have C6:=zh (show eM W4 w3.heap.size Sl.nil (S : Int) g from TY ▸ eM.new w3 Sl.nil (S : Int) g 111);have fZ:=zh (show Below w3.heap.size w3 W4 from TY ▸ za w3 Sl.nil (S : Int) g 111);have hm0 : w.heap.size < w3.heap.size:=gP.out.lt;have hm1 : w3.heap.size < W4.heap.size:=C6.out.lt;rw [show w3.alloc (.cells #[.slice none 0 0,.slice none 0 0,.slice none 0 0,.slice none 0 0,.slice none 0 0,.slice none 0 0,.slice none 0 0,.slice none 0 0,.int .i64 (S : Int),.int .i64 g] 111) = W4 from TY];clear TY;go_wp2_with fail
  go_loopw [7] (fun iv W => ∃ (j : Nat) (s : Sl),iv = .int .i64 (j : Int) ∧ j ≤ tn ∧ Hid (eM W w3.heap.size s (S : Int) g) ∧ Hid (eZ W W4.heap.size s (ue T j)) ∧ Hid (Ms s) ∧ Hid (Below w3.heap.size w3 W) ∧ Hid (W4.heap.size ≤ W.heap.size)) (fun iv _ => tn - (intOf iv).toNat)
  case atStart => exact ⟨0,Sl.nil,rfl,aq _,C6,zh (by rw [QR.out]; exact eZ.nil _ _),zh Ms.nil,fZ,zh (ai _)⟩
  obtain ⟨j,s,rfl,hj,HY,HO,HA,HB,HL⟩:=hrel
  by_cases hjt : j < tn
  ·
   have jj1 : (j : Int) < (tn : Int):=by omega
   obtain ⟨qb,alF,e,q0,q1,q2,q3⟩:=(mo.out.below HB.out).at hjt;subst e;have HAj:=zh (HAs.out j hjt);have jI:=we (d_ T j).key;have NJ:=Jz.out j (zg (d_ T j).key);generalize d_ T j = x at *;have jM:=zh (fun W => zAq x.key W);generalize zg x.key = k at *;go_wp2_with fail;refine (jM.out _).mono ?_; rintro e w8 ⟨rfl,rfl⟩;have ck:=HY.out.c k jI;rw [show s.v k = .slice (s.a k) (s.n k) (s.c k) from rfl] at ck;have Q9:=zh (show wr.ownsRow W4.heap.size 49 4 (.slice (s.a k) (s.n k) (s.c k)) (ue T j k).length (zU (ue T j k)) from HO.out k jI);have fP:=zh (show Below wr.heap.size wr (wr.alloc (xO x)).drew from zy (zz wr x));have Xn:=zh (ak HL.out fP.out.size)
   have Q_:=zh (fun w9 va n vc (hown : World.ownsRow w9 W4.heap.size 49 4 (.slice va n vc) n (zU (ue T j k ++ [x]))) hg hat => zKF (w:=(wr.alloc (xO x)).drew) (gP.out.below (zA HB.out fP.out)) (HY.out.below fP.out) (HO.out.keep fP.out) HA.out (T:=[]) (B2:=w3.heap.size + 1) (aU _ _ _ _) (zA HB.out fP.out) (ai _) hm0 (dD _) (Nat.succ_le_of_lt hm1) Xn.out (fun g hg => by cases hg) jI hown hg hat);have HYg:=zh (fun W (hg : (wr.alloc (xO x)).drew.grownBy W (s.v k).ownBlock) => ((HY.out.below fP.out).grown hg (tK (HO.out k jI) hm1)));have l6:=zh (show ∀ u ∈ g_ x,u.oneCell' = true from by have:=zp [x]; rwa [xU] at this);have HCu:=zh (show zU (ue T j k ++ [x]) = zU (ue T j k) ++ g_ x by rw [zt,xU]);have ik8 : (k : Int) < 8:=by omega
   have alI : w3.heap.size < wr.heap.size:=HY.out.lt;go_wp2_with fail
   go_region_law ((refine zBo (by rfl) (.tmp 51) (.tmp 56) 33 (by rfl) yI W4.heap.size (by rfl) ((Q9.out.alloc _).drew) (ad:=⟨wr.heap.size,0,none⟩) (m:=1) (c:=1) (news:=g_ x) (by rfl) (by rfl) (zIg wr x _ rfl) l6.out (by unfold maxLen; omega) (by omega) Xn.out ?_; intro v2 w9 eC fB EV; obtain ⟨pV,pW,hv2,_,_,_⟩:=zM eC; subst hv2; have Xo:=HYg.out _ fB; have c2:=Xo.c k jI; have f2:=Xo.f k; rw [show s.v k = .slice (s.a k) (s.n k) (s.c k) from rfl] at c2))
   all_goals
    obtain ⟨r1,r2,r3,r4,r5,r6⟩:=Q_.out _ _ _ _ (by rw [HCu.out]; exact eC) fB EV;have Ra : W4.heap.size ≤ w9.heap.size:=ak Xn.out fB.size;clear c2 f2 Xo eC fB EV ck Q_ HYg Q9 r1 r5;have HR:=zh (show _ ∧ _ ∧ _ ∧ _ from ⟨r2,r3,r4,r6⟩);clear r2 r3 r4 r6;go_wp2_with fail;obtain ⟨r2,r3,r4,r6⟩:=HR.out;exact ⟨⟨j + 1,s.set k pV ((ue T j k).length + 1) pW,by go_num,by omega,zh r2,zh (by rw [HAj.out]; exact r3),zh r4,zh r6,zh (by simpa using Ra)⟩,by simp [intOf]; omega⟩
  have jj1 : ¬ (j : Int) < (tn : Int):=by omega
  obtain rfl : j = tn:=by omega
  have Fo:=zh (gP.out.below HB.out);have ey:=zh (zA gp.out HB.out);obtain ⟨d0,d1,d2,d3,d4,d5,d6,d7,d8,d9⟩:=HY.out.q;have dF:=HY.out.f;obtain ⟨c0,c1,c2,c3,c4,c5,c6,c7,c8,c9⟩:=Fo.out.q;have cF:=Fo.out.f;go_wp2_with fail;change bodyPost _ _ _ _ _ (yH wr w.heap.size s (S : Int) g);have hby:=Fo.out.all s (S : Int) g;have lT:=zh ((HO.out.j_ (b:=w.heap.size) (by omega) s (S : Int) g).mono (show w.heap.size ≤ W4.heap.size by omega));have CP:=zh (zY ey.out (ai _) s (S : Int) g);generalize yH wr w.heap.size s (S : Int) g = V9 at *;exact au (v:=yK s (S : Int) g) (by simp [results,Tryz.results125,go_sem,hby.q]) rfl ⟨⟨s,by rw [HFM.out],by rw [HFM.out]; show eZ _ _ _ (fun i => Cb i T); rw [← HAz.out]; exact lT.out⟩,CP.out⟩
 have HF:=zh (iB.out (fun h => hg h.2));have hcs : g < 0 ∨ (0 ≤ g ∧ 1099511627776 < g):=by omega
 have Fo:=BZ;have ey:=eW;clear iB iO hg;rcases hcs with h0 | ⟨h0,h1'⟩
 ·
  have g1 : decide (g < 0) = true:=by simp; omega
  obtain ⟨c0,c1,c2,c3,c4,c5,c6,c7,c8,c9⟩:=Fo.out.q;have cF:=Fo.out.f;go_wp2_with fail;change bodyPost _ _ _ _ _ (yH wr w.heap.size Sl.nil 0 0);have hby:=Fo.out.all Sl.nil 0 0;have CP:=zh (zY ey.out (ai _) Sl.nil 0 0);generalize yH wr w.heap.size Sl.nil 0 0 = V9 at *;exact au (v:=yK Sl.nil 0 0) (by simp [results,Tryz.results125,go_sem,hby.q]) rfl ⟨⟨Sl.nil,by rw [HF.out]; rfl,by rw [HF.out]; exact eZ.nil _ _⟩,CP.out⟩
 have g1 : decide (g < 0) = false:=by simp; omega
 have g2 : decide (1099511627776 < g) = true:=by simp; omega
 obtain ⟨c0,c1,c2,c3,c4,c5,c6,c7,c8,c9⟩:=Fo.out.q;have cF:=Fo.out.f;go_wp2_with fail;change bodyPost _ _ _ _ _ (yH wr w.heap.size Sl.nil 0 0);have hby:=Fo.out.all Sl.nil 0 0;have CP:=zh (zY ey.out (ai _) Sl.nil 0 0);generalize yH wr w.heap.size Sl.nil 0 0 = V9 at *;exact au (v:=yK Sl.nil 0 0) (by simp [results,Tryz.results125,go_sem,hby.q]) rfl ⟨⟨Sl.nil,by rw [HF.out]; rfl,by rw [HF.out]; exact eZ.nil _ _⟩,CP.out⟩
theorem vQ (s : Sl) (M : Mp) (w : World) (h : fq w s M.st) (hs : ∀ i,i < 8 → (M.st i).length ≤ 10000) :
  Calls Tryz.prog 123 #[yK s M.live M.dZ] w fun e w' => ∃ v',e = .returned v' ∧ fu w' w.heap.size v' (zG M) ∧ Below w.heap.size w w':=by
 have HV:=zh (fun W h => uP s M W h (fun i hi => ak (hs i hi) (by decide)));have eG:=zh (eM.new w s M.live M.dZ 111);have eQ:=zh (za w s M.live M.dZ 111);have Hr:=zh h;have HL:=zh (fun i (hi : i < 8) => h.n hi);have Rb:=zh (fun n (hn : n ≤ 8) => ak (kI (M:=M) (B:=10000) hs n hn) (aV _ hn));have IK:=zh (fun v l W h (hl : l.length ≤ 1000000) => qX v l W h hl);have HC:=zh (fun n => Wm M.st n);have HE:=zh (fun i => show cat M.st (i + 1) = cat M.st i ++ M.st i from rfl);have jT:=zh (show xA M = true → zG M = fE (cat M.st 8) from fun h => by unfold zG; rw [ag h]; rfl);have Kw:=zh (show xA M = false → zG M = [] from fun h => by unfold zG; rw [h]; rfl);clear h hs;generalize xA M = vb at *;generalize zG M = I at *;obtain ⟨f,L,G⟩:=M;dsimp only at *
 go_enter Tryz.func123,Tryz.ntmps123
 go_wp2_with fail;obtain ⟨W0,hW0⟩ : ∃ W0,w.alloc (.cells (yj s L G) 111) = W0:=⟨_,rfl⟩
 rw [hW0] at eG eQ
 try rw [hW0]
 clear hW0
 go_loopw [3,4] (fun ov iv W => ∃ i : Nat,iv = .int .i64 (i : Int) ∧ i ≤ 8 ∧ Hid (fu W W0.heap.size ov (cat f i)) ∧ Hid (i = 0 ∨ vb = true) ∧ Hid (Below W0.heap.size W0 W)) (fun _ iv _ => 8 - (intOf iv).toNat)
 case atStart => exact ⟨0,rfl,aq _,zh (aU _ _ _ _),zh (.inl rfl),zh (aj _ _)⟩
 obtain ⟨i,rfl,hi,HO,Hz,HB⟩:=hrel;have jw:=zh (show Below w.heap.size w wr from zA eQ.out HB.out);have ru:=zh (eG.out.below HB.out)
 by_cases hin : i < 8
 ·
  have i1 : (i : Int) < 8:=by omega
  have ri:=zh (HV.out wr (Hr.out.below jw.out));have hL:=HL.out i hin;have DR : s.v i = .slice (s.a i) (s.n i) (s.c i):=rfl;have ja:=zh (fun w2 (hb : Below wr.heap.size wr w2) => (Hr.out i hin).below (zA jw.out hb));rw [DR,hL] at ja;have Hvi:=zh DR;have Fp:=zh hL;clear DR hL;obtain ⟨c0,c1,c2,c3,c4,c5,c6,c7,c8,c9⟩:=ru.out.q;have cF:=ru.out.f
  cases vb
  ·
   have VG : i = 0:=by
    rcases Hz.out with h | h
    ·
     exact h
    cases h
   subst VG;have HF:=zh (Kw.out rfl);clear Kw jT;go_wp2_with fail;refine ri.out.mono ?_; rintro e w2 ⟨rfl,hb2⟩;have gu:=zh (zI HO.out hb2);have eV:=zh (zA jw.out hb2);have Nn:=zh (IK.out _ (cat f 0) w2 (fu.rd gu.out) (by simp [cat]));clear c0 c1 c2 c3 c4 c5 c6 c7 c8 c9 cF hb2;go_wp2_with fail;refine Nn.out.mono ?_; rintro e w3 ⟨v3,rfl,eu,hb3⟩;have lr:=zh (World.ownsRow.mono eu eV.out.size);have gp:=zh (zA eV.out hb3);clear eu hb3;go_wp2_with fail;go_ret;exact ⟨_,rfl,by rw [HF.out]; exact lr.out,gp.out⟩
  go_wp2_with fail;refine ri.out.mono ?_; rintro e w2 ⟨rfl,hb2⟩;have gu:=zh (zI HO.out hb2);have eV:=zh (zA jw.out hb2);have Rc:=zh (zA HB.out hb2);have gm:=zh (ru.out.below hb2);have gj:=zh (t6 (ja.out w2 hb2));have c1:=gm.out.c i hin;rw [Hvi.out,Fp.out] at c1;have hm:=Rb.out (i + 1) (by omega);rw [HC.out i] at hm;have Kq:=zh (HE.out i);have l6:=zh (zp (f i));have hsz:=Rc.out.size;clear c0 c2 c3 c4 c5 c6 c7 c8 c9 hb2 ri ja Hvi Fp;go_wp2_with (at_builtin; refine zi (n:=(cat f i).length) (m:=(f i).length) rfl (.tmp 13) (.tmp 17) 33 rfl yI W0.heap.size rfl gu.out rfl gj.out l6.out (by unfold maxLen; omega) (by omega) hsz ?_; intro v4 w4 fp gO hv4; clear hv4; have jx:=zh (show fu w4 W0.heap.size v4 (cat f (i + 1)) from yO fp (by rw [Kq.out,zt])); have fZ:=zh (zL Rc.out gu.out hsz gO); clear fp gO)
  exact ⟨⟨i + 1,by go_num,by omega,jx,zh (.inr trivial),fZ⟩,by simp [intOf]; omega⟩
 obtain rfl : i = 8:=by omega
 have hv : vb = true:=by
  rcases Hz.out with h | h
  ·
   cases h
  exact h
 subst hv;have HF:=zh (jT.out rfl);clear Kw jT;have Nn:=zh (IK.out _ (cat f 8) wr (fu.rd HO.out) (ak (Rb.out 8 (ai _)) (by decide)));go_wp2_with fail;refine Nn.out.mono ?_; rintro e w3 ⟨v3,rfl,eu,hb3⟩;have lr:=zh (World.ownsRow.mono eu jw.out.size);have gp:=zh (zA jw.out hb3);clear eu hb3;go_wp2_with fail;go_ret;exact ⟨_,rfl,by rw [HF.out]; exact lr.out,gp.out⟩
theorem zHN (s : Sl) (M : Mp) (w : World) (h : fq w s M.st) (hs : ∀ i,i < 8 → (M.st i).length ≤ 10000) :
  Calls Tryz.prog 120 #[yK s M.live M.dZ] w fun e w' => e = .returned (.int .i64 ((zG M).length : Int)) ∧ Below w.heap.size w w':=by
 have eQ:=zh (za w s M.live M.dZ 111);have HI:=zh (vQ s M _ (h.below eQ.out) hs);generalize zG M = I at *;clear h hs;obtain ⟨f,L,G⟩:=M;dsimp only at *
 go_enter Tryz.func120,Tryz.ntmps120
 go_wp2_with fail;refine HI.out.mono ?_; rintro e w1 ⟨v1,rfl,hown1,hb1⟩;have eW:=zh (zA eQ.out hb1);obtain ⟨a,c,hv,_⟩:=zM hown1;subst hv;clear hown1 hb1;go_wp2_with fail;go_ret;exact ⟨rfl,eW.out⟩
theorem zC5 (s : Sl) (M : Mp) (key : Int) (w : World) (h : fq w s M.st) (hs : ∀ i,i < 8 → (M.st i).length ≤ 10000) :
  Calls Tryz.prog 124 #[yK s M.live M.dZ,.int .u64 key] w fun e w' => e = .returned (.tuple #[jS ((zR M key).getD fM),.bool (zR M key).isSome]) ∧ Below w.heap.size w w':=by
 have HI:=zh (fun W h => vQ s M W h hs);have Nq:=zh (gG.new (w.alloc (.cells (yj s M.live M.dZ) 111)) fM);rw [show (w.alloc (.cells (yj s M.live M.dZ) 111)).heap.size = w.heap.size + 1 by simp] at Nq;have eQ:=zh (zA (za w s M.live M.dZ 111) (zz (w.alloc (.cells (yj s M.live M.dZ) 111)) fM));have HF:=zh (fun v W h => zH4 v (zG M) key W h (ak (wR hs) (by decide)));rw [vu] at HF;have Hr:=zh h;clear h hs;generalize zR M key = o at *;generalize zG M = I at *;obtain ⟨f,L,G⟩:=M;dsimp only at *
 go_enter Tryz.func124,Tryz.ntmps124
 go_wp2_with fail;refine (HI.out _ (Hr.out.below eQ.out)).mono ?_; rintro e w1 ⟨v1,rfl,hown1,hb1⟩;have eW:=zh (zA eQ.out hb1);have Mh:=zh (Nq.out.below hb1);have Vu:=zh (HF.out _ w1 (fu.rd hown1));clear hb1 hown1 eQ Nq;go_wp2_with fail;refine Vu.out.mono ?_; rintro e w3 ⟨rfl,hb3⟩;have Nr:=zh (Mh.out.below hb3);have gp:=zh (zA eW.out hb3);clear hb3;obtain ⟨d0,d1,d2,d3⟩:=Nr.out.t.q;have dF:=Nr.out.f;obtain ⟨y,hy⟩ : ∃ y,o.getD fM = y:=⟨_,rfl⟩
 have Hy:=zh hy;rw [hy];clear hy;go_wp2_with fail;change bodyPost _ _ _ _ _ (K7 w3 (w.heap.size + 1) y);have hby:=Nr.out.put y;have ey:=zh (tD gp.out (Nat.le_succ _) y);generalize K7 w3 (w.heap.size + 1) y = V at *;obtain ⟨y0,y1,y2,y3⟩:=hby.t.q;exact au (v:=.tuple #[jS y,.bool o.isSome]) (by simp [results,Tryz.results124,go_sem,y0,y1,y2,y3]) rfl ⟨by rw [Hy.out],ey.out⟩
end Go.Proofs.YtcgfilmmokmdjaaGreat
