/- A part of the walk. -/
import Derived.Test.YtcgfilmmokmdjaaGreatQAS
import Derived.Test.YtcgfilmmokmdjaaGreatBe
import Derived.Test.YtcgfilmmokmdjaaGreatQAQ
import Derived.Test.YtcgfilmmokmdjaaGreatQAM
import Derived.RangeFuncNested
import Derived.Test.YtcgfilmmokmdjaaGreatQAR
import Derived.Test.YtcgfilmmokmdjaaGreatQAP
import Derived.Test.YtcgfilmmokmdjaaGreatQAO
set_option linter.all false
set_option maxRecDepth 100000
set_option maxHeartbeats 32000000
namespace Go.Proofs.YtcgfilmmokmdjaaGreat
open Go.RowKit
theorem zMQ {ks : List KP} {l : List Kl} {num key : Int} {I : Nat} (e : jo ks = l) (hI : fL l num = I) (h : I < l.length ∧ (yE l I).1 = num) :
  I < ks.length ∧ (jg ks I).1 = num ∧ (jo ks).set I (num,(jg ks I).2.2 ++ [key]) = ku l num key:=by
 subst e hI;have h1:=ki (key:=key) h;have h2:=YC (l:=ks) (fL (jo ks) num);refine ⟨by rw [← uR]; exact h.1,by have:=h.2; rw [h2] at this; exact this,?_⟩;rw [h1,h2]
theorem zKv {ks : List KP} {l : List Kl} {num key : Int} {I : Nat} (e : jo ks = l) (hI : fL l num = I) (h : ¬ (I < l.length ∧ (yE l I).1 = num)) :
  I < (ks.take I ++ (num,.slice none 0 0,[]) :: ks.drop I).length ∧ jg (ks.take I ++ (num,.slice none 0 0,[]) :: ks.drop I) I = (num,.slice none 0 0,[]) ∧
   (jo (ks.take I ++ (num,.slice none 0 0,[]) :: ks.drop I)).set I (num,[] ++ [key]) = ku l num key:=by
 subst e hI;have h1:=qR (key:=key) h;have hle : fL (jo ks) num ≤ ks.length:=by rw [← uR]; exact YB _ _
 have ht : (ks.take (fL (jo ks) num)).length = fL (jo ks) num:=by rw [ay]; omega
 refine ⟨?_,?_,?_⟩
 ·
  rw [ax,aW,ht]; omega
 ·
  unfold jg;rw [aw,dw (by rw [ht]; exact ai _),ht,Nat.sub_self]
  rfl
 rw [h1];unfold jo;rw [bE,List.map_cons,List.map_take,List.map_drop,List.set_append_right _ _ (by rw [ay,aI]; omega)]
 rw [show fL (List.map (fun p : KP => (p.1,p.2.2)) ks) num - ((ks.map fun p => (p.1,p.2.2)).take (fL (List.map (fun p : KP => (p.1,p.2.2)) ks) num)).length = 0 by
  rw [ay,aI]
  have : fL (List.map (fun p : KP => (p.1,p.2.2)) ks) num ≤ ks.length:=hle
  omega]
 rfl
theorem zLc (ks : List KP) (k : Nat) (num : Int) (v : Value) (l : List Int) : jo (ks.set k (num,v,l)) = (jo ks).set k (num,l):=by
 unfold jo; rw [List.map_set]
section
variable {W W1 : World} {B b : Nat} {P : fG} {ga : Option Addr} {gn gc : Nat} {L : List GP} {kv Oi : Value} {ks Et : List KP} {nv : Value} {es : List (Nd × Value)} {rv : Value}
theorem lF.dY (h : lF W B P ga gn gc L kv ks nv es rv) (hk : gN W B Oi Et) : lF W B { P with dY:=jo Et } ga gn gc L Oi Et nv es rv:=⟨h.g,h.gg,hk,rfl,h.n,h.nn,h.r⟩
theorem lF.YT (h : lF W B P ga gn gc L kv ks nv es rv) (hO : gM W W1 B 89) (hk : gN W1 B Oi Et) : lF W1 B { P with dY:=jo Et } ga gn gc L Oi Et nv es rv:=
 ⟨h.g.gD hO (by decide) (by decide),h.gg,hk,rfl,h.n.gD hO (by decide) (by decide),h.nn,wL h.r hO (by decide)⟩
theorem lF.put {g n cap k : Nat} (h : lF W B P ga gn gc L (.slice (some ⟨g,0,none⟩) n cap) ks nv es rv) (hk : k < ks.length) {num : Int} (jk : (jg ks k).1 = num) {v2 : Value} {l2 : List Int}
  (ho : W1.ownsRow B 24 1 v2 l2.length (l2.map Pm)) (hg : W.grownBy W1 (jg ks k).2.1.ownBlock) (hat : v2.ownBlock = (jg ks k).2.1.ownBlock ∨ v2.ownBlock = some W.heap.size) :
  lF (W1.setCell ⟨g,k * 2 + 1,none⟩ v2) B { P with dY:=(jo ks).set k (num,l2) } ga gn gc L (.slice (some ⟨g,0,none⟩) n cap) (ks.set k (num,v2,l2)) nv es rv ∧ gM W W1 B 24 ∧ iH W1 (W1.setCell ⟨g,k * 2 + 1,none⟩ v2) B g 89:=by
 obtain ⟨h1,h2⟩:=h.k.put hk jk ho hg hat;have hO : gM W W1 B 24:=gM.row (h.k.keys _ (UA hk)) hg (ai B);have Oh : gM W1 (W1.setCell ⟨g,k * 2 + 1,none⟩ v2) B 89:=.inr ⟨g,h2⟩;refine ⟨⟨(h.g.gD hO (by decide) (by decide)).gD Oh (by decide) (by decide),h.gg,h1,zLc _ _ _ _ _,(h.n.gD hO (by decide) (by decide)).gD Oh (by decide) (by decide),h.nn,wL (wL h.r hO (by decide)) Oh (by decide)⟩,hO,h2⟩
end
theorem zIw (W : World) (x : Int) (k : Nat) (hk : W.heap.size = k) : ∀ j u,[Value.int .u64 x][j]? = some u → (World.drew (W.alloc (.cells #[.int .u64 x] 24))).cell? ((⟨k,0,none⟩ : Addr).add j) = some u:=by
 subst hk;intro j u hj;rw [yT,aJ]
 show (W.alloc (.cells #[.int .u64 x] 24)).cell? _ = some u
 rw [cell_of_row _ _ j _ _ (0,0) (dg W _)];rw [← Array.getElem?_toList]; exact hj
theorem zLj {W : World} {B : Nat} {a : Option Addr} {n cap : Nat} {ks : List KP} (h : gN W B (.slice a n cap) ks) {k : Nat} (hk : k < ks.length) : ∃ g,a = some ⟨g,0,none⟩ ∧ n = ks.length ∧ B ≤ g ∧ g < W.heap.size ∧ W.cell? ⟨g,k * 2 + 1,none⟩ = some (jg ks k).2.1:=by
 have hr : DI W (.slice a n cap) ks:=⟨fun x _ => uS x,zw h.row⟩
 have hn:=hr.len;obtain ⟨b,off,e,_,hc⟩:=hr.at (j:=k) (by omega);rcases h.row.2 with ⟨e2,_⟩ | ⟨g,c,cur,e2,hB,hg,_⟩
 ·
  cases e2; cases e
 injection e2 with e2 e3 e4;rw [e] at e2;injection e2 with e2;injection e2 with e2 e5;subst e2 e5;refine ⟨b,e,e3,hB,(Array.getElem?_eq_some_iff.1 hg).1,?_⟩;rw [aJ] at hc; exact hc
end Go.Proofs.YtcgfilmmokmdjaaGreat
namespace Go.Proofs.YtcgfilmmokmdjaaGreat
open Go.RowKit Go.Shelf
attribute [local go_sem] Oper.semAt_some
abbrev YU (x : jJ) : Value:=.agg #[.int .i64 x.gen,.int .i64 x.mode,.int .i64 x.rev,.int .u64 x.it.key,.int .u32 x.it.ck,.int .i64 x.it.off,.int .i64 x.it.size,.int .i64 (x.at_ : Int)]
structure MG (W : World) (b o : Nat) (x : jJ) : Prop where
 c0 : W.cell? ⟨b,o,none⟩ = some (.int .i64 x.gen)
 c1 : W.cell? ⟨b,o + 1,none⟩ = some (.int .i64 x.mode)
 c2 : W.cell? ⟨b,o + 2,none⟩ = some (.int .i64 x.rev)
 c3 : W.cell? ⟨b,o + 3,none⟩ = some (.int .u64 x.it.key)
 c4 : W.cell? ⟨b,o + 4,none⟩ = some (.int .u32 x.it.ck)
 c5 : W.cell? ⟨b,o + 5,none⟩ = some (.int .i64 x.it.off)
 c6 : W.cell? ⟨b,o + 6,none⟩ = some (.int .i64 x.it.size)
 c7 : W.cell? ⟨b,o + 7,none⟩ = some (.int .i64 (x.at_ : Int))
theorem MG.below {W W' : World} {b o : Nat} {x : jJ} (h : MG W b o x) (hb : Below W.heap.size W W') : MG W' b o x:=⟨hb.keeps' h.c0,hb.keeps' h.c1,hb.keeps' h.c2,hb.keeps' h.c3,hb.keeps' h.c4,hb.keeps' h.c5,hb.keeps' h.c6,hb.keeps' h.c7⟩
def lG (l : List jJ) (i : Nat) : jJ:=l.getD i wY
theorem Lm.at {w : World} {a : Option Addr} {n c : Nat} {l : List jJ} (h : Lm w (.slice a n c) l) : n = l.length ∧ (0 < n → ∃ b off,a = some ⟨b,off,none⟩ ∧ ∀ j,j < n → MG w b (off + j * 8) (lG l j)):=by
 obtain ⟨a',cap',e,_,_,_,h5⟩:=ix.shape h (by decide) wY;injection e with e1 e2 e3;subst e1 e2 e3;refine ⟨rfl,fun hp => ?_⟩;obtain ⟨b,off,e,hc⟩:=h5 hp;refine ⟨b,off,e,fun j hj => ?_⟩;have g:=fun i u hu => hc j hj i u hu
 exact ⟨by have:=g 0 _ rfl; simpa [cM,lG] using this,by have:=g 1 _ rfl; simpa [cM,lG] using this,by have:=g 2 _ rfl; simpa [cM,lG] using this,by have:=g 3 _ rfl; simpa [cM,lG] using this,by have:=g 4 _ rfl; simpa [cM,lG] using this,by have:=g 5 _ rfl; simpa [cM,lG] using this,by have:=g 6 _ rfl; simpa [cM,lG] using this,by have:=g 7 _ rfl; simpa [cM,lG] using this⟩
def DJ (b Bs : Nat) (W W' : World) : Prop:=∀ p : Addr,(p.block = b ∨ p.block = Bs) → ∀ v,W.cell? p = some v → W'.cell? p = some v
theorem DJ.refl (b Bs : Nat) (W : World) : DJ b Bs W W:=fun _ _ _ h => h
theorem DJ.trans {b Bs : Nat} {A B C : World} (h : DJ b Bs A B) (k : DJ b Bs B C) : DJ b Bs A C:=fun p hp v hv => k p hp v (h p hp v hv)
theorem DJ.put {b Bs : Nat} {w : World} (hb : b < w.heap.size) (hB : Bs < w.heap.size) (W : World) (l : Nat) (o o' : Obj) (hl : w.heap.size ≤ l) (h : W.heap[l]? = some o) (h1 : o.isCells = false) (h2 : o.isWalk = false) : DJ b Bs W (W.putObj l o'):=fun p hp v hv =>
 ((belowK_b (n₀:=p.block + 1) (w:=w) (by rcases hp with e | e <;> omega) W l o o' hl h h1 h2).cell (p:=p) (dD _)).trans hv
theorem DJ.below {b Bs : Nat} {W W' : World} (h : Below W.heap.size W W') : DJ b Bs W W':=fun _ _ _ hv => h.keeps' hv
theorem zH1 (F : Fence) (n : Nat) (hf : F.fn 211) (hro : F.round = none) (hn : 1 ≤ n) (l Bs b off len cap : Nat) (a : Option Addr) (ha : 0 < len → a = some ⟨b,off,none⟩) (L : List jJ) (hlen : len ≤ 8) (J Jx : List Nat → World → Prop)
  (hY : ∀ pre (x : Nat) W,J pre W → pre.length < len → YieldAt F (n - 1) Tryz.prog l #[.int .i64 (x : Int),YU (lG L x)] W fun e W' =>
   (e = .returned (.bool true) ∧ J (pre ++ [x]) W' ∧ DJ b Bs W W') ∨ (e = .returned (.bool false) ∧ Jx (pre ++ [x]) W'))
  (W : World) (Ku : W.cell? ⟨Bs,0,none⟩ = some (.slice a len cap)) (hc : ∀ j,j < len → MG W b (off + j * 8) (lG L j)) (h0 : J [] W) :
  CallsIn F n Tryz.prog 211 #[.func (.yield l) #[] #[],.pointer (some ⟨Bs,0,none⟩)] W fun e W' => (∃ v,e = .returned v) ∧
   ((∃ ys,ys = yw len len ∧ J ys W') ∨ (∃ pre,(∃ k,k ≤ len ∧ pre = yw len k) ∧ Jx pre W')):=by
 refine callsIn_of_wp Tryz.func211 rfl hf ?_ hro;simp only [Tryz.ntmps211,b8,aW,dM,Nat.reduceAdd,Nat.reduceSub,Array.replicate_succ,Array.replicate_zero,List.push_toArray,List.append_toArray,bV,List.cons_append]
 gi_wp2
 gi_loopw [3] (fun i wr => ∃ k : Nat,k ≤ len ∧ i = .int .i64 ((len : Int) - 1 - (k : Int)) ∧ J (yw len k) wr ∧ DJ b Bs W wr)
  (fun i _ => (intOf i + 1).toNat)
 case atStart => exact ⟨0,aq _,by simp [aF _ (show -9223372036854775808 ≤ (len : Int) - 1 ∧ (len : Int) - 1 ≤ 9223372036854775807 by omega)],h0,DJ.refl _ _ _⟩
 obtain ⟨k,hk,rfl,hJs,rA⟩:=hrel;have hBk:=rA ⟨Bs,0,none⟩ (.inr rfl) _ Ku
 by_cases hlt : k < len
 ·
  obtain ⟨j,hj⟩ : ∃ j,k + 1 + j = len:=⟨len - 1 - k,by omega⟩
  have hjk : len - 1 - k = j:=by omega
  obtain ⟨fn,tmps,assign,body,hy,hR⟩:=hY _ (len - 1 - k) wr hJs (by rw [vG]; exact hlt);have ej : (len : Int) - 1 - (k : Int) = (j : Int):=by omega
  rw [ej];rw [hjk] at hy hR;have i2 : (j : Int) < (len : Int):=by omega
  have ha':=ha (by omega);subst ha';have g0:=rA ⟨b,off + j * 8,none⟩ (.inl rfl) _ (hc j (by omega)).c0;have g1:=rA ⟨b,off + j * 8 + 1,none⟩ (.inl rfl) _ (hc j (by omega)).c1;have g2:=rA ⟨b,off + j * 8 + 2,none⟩ (.inl rfl) _ (hc j (by omega)).c2;have g3:=rA ⟨b,off + j * 8 + 3,none⟩ (.inl rfl) _ (hc j (by omega)).c3;have g4:=rA ⟨b,off + j * 8 + 4,none⟩ (.inl rfl) _ (hc j (by omega)).c4;have g5:=rA ⟨b,off + j * 8 + 5,none⟩ (.inl rfl) _ (hc j (by omega)).c5;have g6:=rA ⟨b,off + j * 8 + 6,none⟩ (.inl rfl) _ (hc j (by omega)).c6;have g7:=rA ⟨b,off + j * 8 + 7,none⟩ (.inl rfl) _ (hc j (by omega)).c7
  gi_wp2
  refine hR.mono ?_;rintro e W3 (⟨rfl,hJ3,hk3⟩ | ⟨rfl,hJx3⟩)
  ·
   gi_wp2
   go_roundw
   case rel => exact ⟨k + 1,by omega,by first | (simp; done) | (simp; omega),by rw [ua,hjk]; exact hJ3,rA.trans hk3⟩
   case measure => first | (simp [intOf]; done) | (simp [intOf]; omega)
  gi_wp2
  refine au (results_none rfl _ _ _) rfl ?_;exact ⟨⟨_,rfl⟩,.inr ⟨_,⟨k + 1,by omega,by rw [ua,hjk]⟩,hJx3⟩⟩
 obtain rfl : k = len:=by omega
 have ej : (k : Int) - 1 - (k : Int) = -1:=by omega
 rw [ej]
 gi_wp2
 go_end0;exact ⟨⟨_,rfl⟩,.inl ⟨_,rfl,hJs⟩⟩
theorem zCe (a : Option Addr) (n c : Nat) (w : World) : Calls Tryz.prog 200 #[.slice a n c] w fun e w' => e = .returned (.func (.func 211) #[] #[.pointer (some ⟨w.heap.size,0,none⟩)]) ∧ w' = w.alloc (.cells #[.slice a n c] 135):=by
 go_enter Tryz.func200,Tryz.ntmps200
 go_wp2_with fail;go_ret;exact ⟨rfl,rfl⟩
theorem zEx (F : Fence) (n : Nat) (hf : F.fn 211) (hro : F.round = none) (hn : 1 ≤ n) (Bs b off len cap : Nat) (a : Option Addr) (ha : 0 < len → a = some ⟨b,off,none⟩) (L : List jJ) (hlen : len ≤ 8) (w : World)
  (Ku : w.cell? ⟨Bs,0,none⟩ = some (.slice a len cap)) (hc : ∀ j,j < len → MG w b (off + j * 8) (lG L j)) :
  SeqStopsK F n Tryz.prog 211 #[.pointer (some ⟨Bs,0,none⟩)] (fun x : Nat => #[.int .i64 (x : Int),YU (lG L x)]) (DJ b Bs) (fun ys => ys = yw len len) (fun pre => ∃ k,k ≤ len ∧ pre = yw len k) len w:=fun l J Jx W hW _ _ hY h0 =>
 zH1 F n hf hro hn l Bs b off len cap a ha L hlen J Jx hY W (hW.keeps' Ku) (fun j hj => (hc j hj).below hW) h0
end Go.Proofs.YtcgfilmmokmdjaaGreat
namespace Go.Proofs.YtcgfilmmokmdjaaGreat
open Go.RowKit Go.Shelf
attribute [local go_sem] Oper.semAt_some
def uM (F : List jJ) (n : Nat) (pre : List Nat) : List Int:=pre.flatMap fun x => if ((lG F x).at_ : Int) ≠ (n : Int) - 1 then [(lG F x).gen] else []
theorem zKJ {F : List jJ} {n : Nat} (pre : List Nat) {x : Nat} (h : ((lG F x).at_ : Int) ≠ (n : Int) - 1) : uM F n (pre ++ [x]) = uM F n pre ++ [(lG F x).gen]:=by simp [uM,h]
theorem zHT {F : List jJ} {n : Nat} (pre : List Nat) {x : Nat} (h : ((lG F x).at_ : Int) = (n : Int) - 1) : uM F n (pre ++ [x]) = uM F n pre:=by simp [uM,h]
theorem zIi (F : List jJ) (n : Nat) (pre : List Nat) : (uM F n pre).length ≤ pre.length:=by
 induction pre with
 | nil => exact ai _
 | cons x pre ih =>
  have e : uM F n (x :: pre) = (if ((lG F x).at_ : Int) ≠ (n : Int) - 1 then [(lG F x).gen] else []) ++ uM F n pre:=rfl;rw [e,ax,aW]
  split <;> simp <;> omega
theorem zGD (F : List jJ) : (yw F.length F.length).map (lG F) = F.reverse:=by
 refine List.ext_getElem (by simp [vG]) fun j h1 h2 => ?_
 simp only [aI,vG] at h1;simp [yw,lG,List.getElem_reverse,aw];rw [aB (by omega)]
 rfl
theorem zIu {s : eL} (key : Int) : uM (zl s key) s.dW.length (yw (zl s key).length (zl s key).length) = zk s key:=by
 have e1 : uM (zl s key) s.dW.length (yw (zl s key).length (zl s key).length) = ((yw (zl s key).length (zl s key).length).map (lG (zl s key))).flatMap fun x => if (x.at_ : Int) ≠ (s.dW.length : Int) - 1 then [x.gen] else []:=by
  unfold uM; rw [List.flatMap_map]
 rw [e1,zGD];unfold zk
 cases hv : zd s with
 | false => rw [X5 hv]; rfl
 | true =>
  rw [ag rfl];have hn:=((zZ _).1 hv).len.1;have e2 : zl s key = xF s.dW key s.dW.length:=by unfold zl; rw [ag hv]
  rw [e2,← XM s.dW key s.dW.length (s.dW.length - 1) (by omega)];have hb:=zBk (l:=s.dW) (key:=key) s.dW.length;have hq : ∀ M : List jJ,(∀ x ∈ M,x.at_ < s.dW.length) → (M.flatMap fun x => if (x.at_ : Int) ≠ (s.dW.length : Int) - 1 then [x.gen] else []) = (M.filter fun x => decide (x.at_ < s.dW.length - 1)).map (·.gen):=by
   intro M
   induction M with
   | nil => intro _; rfl
   | cons x M ih =>
    intro hM;have hx:=hM x (List.mem_cons_self ..);rw [cN,ih fun y hy => hM y (List.mem_cons_of_mem _ hy)]
    by_cases hc : x.at_ < s.dW.length - 1
    ·
     rw [ag (by omega),List.filter_cons_of_pos (by simpa using hc)]; rfl
    rw [ah (by omega),List.filter_cons_of_neg (by simpa using hc)]; rfl
  exact hq _ fun x hx => hb x (List.mem_reverse.1 hx)
theorem zHl (s : eL) (key : Int) : (zl s key).length ≤ 8:=by
 cases hv : zd s with
 | false => rw [X5 hv]; exact aq _
 | true =>
  have e2 : zl s key = xF s.dW key s.dW.length:=by unfold zl; rw [ag hv]
  rw [e2];exact ak (zEk _ _ _) ((zZ _).1 hv).len.2
theorem zHH {β : Type} (B : Nat) (t : TypeId) (cs : β → Array Value) : Own (fun s W => dX W B (cs s) t):=fun s X Y row hs hg hrow => by
 have hs' : X.heap[B]? = some (.cells (cs s) t (0,0)):=hs;exact (hg.block B (Array.getElem?_eq_some_iff.1 hs').1 (fun e' => by obtain ⟨o,ho,hc⟩:=hrow B e'.symm; rw [hs'] at ho; cases ho; cases hc)).trans hs'
theorem zLl {β : Type} (n₀ : Nat) (e : TypeId) (size : Nat) (v : β → Value) (k : β → Nat) (f : β → List Value) : Own (fun s W => W.ownsRow n₀ e size (v s) (k s) (f s)):=by
 rintro s X Y row hr hg hrow;refine hr.kept hg ?_;rcases hr.2 with ⟨h1,_⟩ | ⟨g,cap,cur,h1,_,hgb,_⟩
 ·
  exact .inl (by rw [h1]; rfl)
 refine .inr fun e' => ?_
 obtain ⟨o,ho,hc⟩:=hrow g (by rw [h1] at e'; simpa [Value.ownBlock] using e'.symm);rw [hgb] at ho; cases ho; cases hc
theorem zCK {W : World} {n n' sz sz' k k' : Nat} {e e' : TypeId} {v v' : Value} {xs xs' : List Value} (h : W.ownsRow n e sz v k xs) (h' : W.ownsRow n' e' sz' v' k' xs') (he : e ≠ e') : v.ownBlock = none ∨ v.ownBlock ≠ v'.ownBlock:=by
 rcases h.2 with ⟨h1,_⟩ | ⟨g,cap,cur,rfl,_,hgb,_⟩
 ·
  exact .inl (by rw [h1]; rfl)
 refine .inr ?_;rcases h'.2 with ⟨rfl,_⟩ | ⟨g2,Oj,ao1,rfl,_,Ol,_⟩
 ·
  simp [Value.ownBlock]
 intro e3;obtain rfl : g = g2:=by simpa [Value.ownBlock] using e3
 rw [hgb] at Ol;simp at Ol;exact he Ol.2
theorem dX.not_row {W : World} {B : Nat} {cs : Array Value} {t e : TypeId} (h : dX W B cs t) (hte : t ≠ e) {base size k : Nat} {v : Value} {xs : List Value} (hr : W.ownsRow base e size v k xs) : some B ≠ v.ownBlock:=by
 rcases hr.2 with ⟨rfl,_⟩ | ⟨g,cap,cur,rfl,_,hgb,_⟩
 ·
  simp [Value.ownBlock]
 intro e';obtain rfl : B = g:=by simpa [Value.ownBlock] using e'
 have:=(show W.heap[B]? = _ from h).symm.trans hgb;simp at this;exact hte this.2
theorem zFx (i l : Int) (r : Bool) (a : Option Addr) (n c : Nat) (L : List GP) (w : World) (h : fH w (.slice a n c) L) (hs : ∀ p ∈ L,∀ j,j < 8 → (p.1.m.st j).length ≤ 10000) (key : Int) :
  Calls Tryz.prog 181 #[ze i l r a n c,.int .u64 key] w fun e w' => ∃ v',e = .returned v' ∧ ll w' w.heap.size v' (zk ⟨i,l,r,ea L⟩ key) ∧ Below w.heap.size w w':=by
 have hSl:=fun W (hb : Below w.heap.size w W) => zGa i l r a n c L W (h.below hb) hs key
 have hres:=zIu (s:=⟨i,l,r,ea L⟩) key;have hF8:=zHl ⟨i,l,r,ea L⟩ key;have hnL : (ea L).length = n:=by
  rw [yB]; obtain ⟨_,_,e,_⟩:=h.shape; injection e with _ e _; exact e.symm
 have hcap : n ≤ 9223372036854775807:=by
  show n ≤ maxLen
  obtain ⟨_,_,e,h1,h2⟩:=h.shape;injection e with _ e _;rw [e]; exact ak h1 h2
 dsimp only at hres;rw [hnL] at hres;generalize hF : zl ⟨i,l,r,ea L⟩ key = F at *;clear hF h hs hnL;rw [← hres];clear hres;obtain ⟨i0,hi,hz0,hz1,hz2⟩:=b_ (P:=Tryz.prog) (e:=3) (z:=.int .i64 0) (size:=1) (bytes:=8) (by kernel_rfl);refine (callsIn_wide (n:=20)).1 (callsIn_of_wp_marks Tryz.func181 rfl trivial ?_ rfl);simp only [Tryz.ntmps181,b8,aW,dM,Nat.reduceAdd,Nat.reduceSub,Array.replicate_succ,Array.replicate_zero,List.push_toArray,List.append_toArray,bV,List.cons_append];have JH:=fc.new w i l r a n c 27;have Du:=zS w i l r a n c 27;have hO:=Boxed.new (w.alloc (.cells (zN i l r a n c) 27)) 233 (.slice none 0 0);rw [dI] at hO;have hX:=JH.below ((aj _ _).alloc (ai _) (.cells #[.slice none 0 0] 233));have hB1:=Du.alloc (by simp) (.cells #[.slice none 0 0] 233);obtain ⟨k0,k1,k2,k3⟩:=hX.q
 gi_wp2_with (first | (refine ⟨trivial,?_⟩; gi_at_call 62; refine (callsIn_wide.2 (hSl _ hB1)).mono ?_; rintro e w1 ⟨v,rfl,hown,hb1⟩; obtain ⟨av,cv,rfl,-,-,-,-⟩:=ix.shape hown.rd (by decide) wY) | (refine ⟨trivial,?_⟩; gi_at_call 200; refine (callsIn_wide.2 (zCe _ _ _ _)).mono ?_; rintro e w' ⟨rfl,rfl⟩; clear k0 k1 k2 k3))
 clear hSl;have hpos:=fun hp => ui hown hp
 obtain ⟨b,off,hav,hbl,jP,hrows⟩ : ∃ b off,(0 < F.length → av = some ⟨b,off,none⟩) ∧ b < w1.heap.size + 1 ∧ w.heap.size + 2 ≤ b ∧ ∀ j,j < F.length → MG w1 b (off + j * 8) (lG F j):=by
  by_cases hp : 0 < F.length
  ·
   obtain ⟨g,hg1,hg2,hg3⟩:=hpos hp;obtain ⟨_,hq⟩:=Lm.at hown.rd;obtain ⟨b,off,e1,hr⟩:=hq hp;rw [hg1] at e1;obtain ⟨rfl,rfl⟩ : b = g ∧ off = 0:=by injection e1 with e1; injection e1 with e1 e2; exact ⟨e1.symm,e2.symm⟩
   exact ⟨b,0,fun _ => hg1,by omega,by simpa using hg2,hr⟩
  exact ⟨w1.heap.size,0,fun h => absurd h hp,by omega,by have:=hb1.size; simpa using this,fun j hj => absurd (Nat.lt_of_le_of_lt (aq _) hj) hp⟩
 have hS1 : dX w1 w.heap.size (zN i l r a n c) 27:=((dX.new w _ _).below ((aj _ _).alloc (ai _) _)).below hb1;have YV:=hO.below hb1;have hB2:=zA hB1 hb1;have hF1:=hown;clear hb1 hX JH Du hB1 hO hown hpos;have hlz : w.heap.size + 2 ≤ w1.heap.size:=by have:=YV.lt; omega
 obtain ⟨W0,hW0⟩ : ∃ W0,w1.alloc (.cells #[.slice av F.length cv] 135) = W0:=⟨_,rfl⟩
 have bS : Boxed W0 w1.heap.size 135 (.slice av F.length cv):=by rw [← hW0]; exact Boxed.new w1 _ _
 have bO : Boxed W0 (w.heap.size + 1) 233 (.slice none 0 0):=by rw [← hW0]; exact YV.alloc _
 have bX : dX W0 w.heap.size (zN i l r a n c) 27:=by rw [← hW0]; exact hS1.below ((aj _ _).alloc (ai _) _)
 have bF : W0.ownsRow (w.heap.size + 2) 138 8 (.slice av F.length cv) F.length (F.flatMap Ib):=by
  rw [← hW0];have:=hF1.alloc (.cells #[.slice av F.length cv] 135)
  simpa using this
 have Mt : Below w.heap.size w W0:=by rw [← hW0]; exact hB2.alloc hB2.size _
 have hsz : W0.heap.size = w1.heap.size + 1:=by rw [← hW0]; simp
 have Om : ∀ j,j < F.length → MG W0 b (off + j * 8) (lG F j):=by rw [← hW0]; exact fun j hj => (hrows j hj).below ((aj _ _).alloc (ai _) _)
 rw [hW0];clear hW0 hS1 YV hF1 hB2 hrows;generalize w1.heap.size = Bs at *;clear w1;refine wpIn_rangeFunc_ownH rfl (by decide) (gf:=211) (lb:=#[.pointer (some ⟨Bs,0,none⟩)]) rfl trivial (enters_of Tryz.func211 (by kernel_rfl) rfl)
  (zEx Fence.wide (20 - 1) trivial rfl (by decide) Bs b off F.length cv av hav F hF8 W0 bS.cell Om) DJ.trans (DJ.put (by omega) (by omega)) (aj _ _) (fun _ => rfl)
  (fun pre W => (((∃ v,Boxed W (w.heap.size + 1) 233 v ∧ W.ownsRow w.heap.size 3 1 v (uM F n pre).length ((uM F n pre).map I3) ∧ True) ∧ W.ownsRow (w.heap.size + 2) 138 8 (.slice av F.length cv) F.length (F.flatMap Ib)) ∧ dX W w.heap.size (zN i l r a n c) 27 ∧ Boxed W Bs 135 (.slice av F.length cv)) ∧ Below w.heap.size w W)
  (fun _ _ _ => False)
  (OwnFrom.and (OwnFrom.and (OwnFrom.and (Own.from (holdsRow_own w.heap.size (w.heap.size + 1) 233 3 1 (fun pre => (uM F n pre).length) (fun pre => (uM F n pre).map I3) (fun _ _ => True)) _) (Own.from (zLl (w.heap.size + 2) 138 8 (fun _ => .slice av F.length cv) (fun _ => F.length) (fun _ => F.flatMap Ib)) _)) (OwnFrom.and (Own.from (zHH _ _ _) _) (Own.from (boxed_own _ _ _) _))) (ownFrom_below (ai _) (by omega)))
  (fun _ _ _ _ _ hs _ _ => hs)
  ⟨⟨⟨⟨_,bO,aU _ _ _ _,trivial⟩,bF⟩,bX,bS⟩,Mt⟩
  (fun x a' W => ∃ Bx,Bs < Bx ∧ b < Bx ∧ dX W Bx (Ib (lG F x)).toArray 138 ∧ a' = { tmps:=#[ze i l r a n c,.int .u64 key,.pointer (some ⟨w.heap.size,0,none⟩),undef,.slice none 0 0,.pointer (some ⟨w.heap.size + 1,0,none⟩),undef,.pointer (some ⟨Bx,0,none⟩),ze i l r a n c,.int .u64 key,.slice av F.length cv,.func (.func 211) #[] #[.pointer (some ⟨Bs,0,none⟩)],.int .i64 (x : Int),YU (lG F x),undef,undef,undef,undef,undef,undef,undef,undef,undef,undef,undef,undef,undef,undef],defers:=[] })
  (fun x a' _ X Y row hs hg hr => by obtain ⟨Bx,h1,h2,h3,h4⟩:=hs; exact ⟨Bx,h1,h2,(zHH Bx _ (fun _ : Unit => _)) () X Y row h3 hg (fun r e => (hr r e).2),h4⟩)
  ?assign ?body ?done ?stop
 case assign =>
  rintro lp pre x W K hI hK;obtain ⟨⟨⟨⟨v,hv,hrow,_⟩,PZ⟩,P3,Eo⟩,hB1⟩:=hI;have hlt:=Eo.lt
  gi_wp2
  exact hK _ _ ((KeepsOthers.alloc _ _).from _) (DJ.below ((aj _ W).alloc (ai _) _))
   ⟨⟨⟨⟨v,hv.alloc _,hrow.alloc _,trivial⟩,PZ.alloc _⟩,P3.below ((aj _ W).alloc (ai _) _),Eo.alloc _⟩,hB1.alloc hB1.size _⟩ ⟨W.heap.size,by omega,by omega,dX.new W _ _,rfl⟩
 case body =>
  rintro lp pre x a' W hl ⟨rr,hr⟩ ⟨⟨⟨⟨v,hv,hrow,_⟩,PZ⟩,P3,Eo⟩,hB1⟩ ⟨Bx,hx1,hx2,bx,rfl⟩ hlt;have Co:=zIi F n pre;have c0:=bx.cell (i:=0) (u:=.int .i64 (lG F x).gen) rfl;have c7:=bx.cell (i:=7) (u:=.int .i64 ((lG F x).at_ : Int)) rfl;have k3:=P3.cell (i:=3) (u:=.slice a n c) rfl;have Ry:=hB1.size;have hOl:=hv.lt;have hBl:=Eo.lt;have Sc:=hav (by omega)
  by_cases hc : ((lG F x).at_ : Int) = (n : Int) - 1
  ·
   have hm:=zHT pre hc;rw [hc] at c7
   gi_wp2
   exact ⟨(KeepsOthers.refl W).from _,DJ.refl _ _ _,⟨⟨⟨v,hv,by rw [hm]; exact hrow,trivial⟩,PZ⟩,P3,Eo⟩,hB1⟩
  have hm:=zKJ pre hc;have hci:=hv.cell;generalize hq : ((lG F x).at_ : Int) = q at *
  gi_wp2_with (gi_at_builtin; refine wpListIn_append_own _ rfl _ _ 233 rfl w.heap.size 3 i0 _ 1 8 Tryz.underlying233 hi hz0 hz1 hz2 rfl (by decide) _ _ _ rfl (hrow.alloc _) ⟨W.heap.size,0,none⟩ 1 1 [.int .i64 (lG F x).gen] rfl rfl (zGz W [.int .i64 (lG F x).gen] 3) (by intro u hu; simp at hu; subst hu; rfl) (by unfold maxLen; omega) (by omega) (by simp; omega) ?_; intro v' w4 hown' hgrow _; obtain ⟨g',cap',rfl⟩:=ownsRow_succ hown'; obtain ⟨Dk,hv2,hr2,hk2,hb4⟩:=hv.appended (by decide) hrow (by omega) (by omega) hown' hgrow; have hc1:=Dk.cell; have hf1:=Dk.frozen)
  have hf4:=(PZ.alloc (.cells #[.int .i64 (lG F x).gen] 3)).kept hgrow (zCK PZ hrow (by decide));have hf5:=hf4.kept (grownBy_setCell' w4 (w.heap.size + 1) (.slice (some ⟨g',0,none⟩) ((uM F n pre).length + 1) cap')) (.inr (Dk.not_row (by decide) hf4).symm);have Uh:=((Eo.alloc _).kept hgrow (Eo.not_row (by decide) hrow)).other (B':=w.heap.size + 1) (by omega) (.slice (some ⟨g',0,none⟩) ((uM F n pre).length + 1) cap');have bX5:=((P3.below ((aj _ W).alloc (ai _) _)).grown hgrow (P3.not_row (by decide) hrow)).grown (grownBy_setCell' w4 (w.heap.size + 1) (.slice (some ⟨g',0,none⟩) ((uM F n pre).length + 1) cap')) (by simp);have hkk : ∀ k,k < W.heap.size → some k ≠ v.ownBlock → k ≠ w.heap.size + 1 → (w4.setCell ⟨w.heap.size + 1,0,none⟩ (.slice (some ⟨g',0,none⟩) ((uM F n pre).length + 1) cap')).heap[k]? = W.heap[k]?:=fun k h1 h2 h3 =>
   (Below.heap_setCell _ _ _ k h3).trans ((hgrow.block k (by simp; omega) h2).trans (Below.heap_alloc _ _ _ (by omega)))
  have hKp : DJ b Bs W (w4.setCell ⟨w.heap.size + 1,0,none⟩ (.slice (some ⟨g',0,none⟩) ((uM F n pre).length + 1) cap')):=fun p hp u hu => by
   have e : (w4.setCell ⟨w.heap.size + 1,0,none⟩ (.slice (some ⟨g',0,none⟩) ((uM F n pre).length + 1) cap')).heap[p.block]? = W.heap[p.block]?:=by
    rcases hp with e | e
    ·
     rw [e];refine hkk b (by omega) ?_ (by omega);rcases zCK PZ hrow (by decide) with h1 | h1
     ·
      rw [Sc] at h1; simp [Value.ownBlock] at h1
     rw [Sc] at h1; simpa [Value.ownBlock] using h1
    rw [e];exact hkk Bs (by omega) (Eo.not_row (by decide) hrow) (by omega)
   unfold World.cell? at hu ⊢;rw [e];exact hu
  exact ⟨hk2.from _,hKp,⟨⟨⟨_,hv2,by rw [hm,ax,bE]; exact hr2,trivial⟩,hf5⟩,bX5,Uh⟩,hB1.trans hb4⟩
 case done =>
  rintro D ys W hD rfl ⟨⟨⟨⟨v,hv,hrow,_⟩,_⟩,_,_⟩,hB1⟩ hK;have hc:=hv.cell
  gi_wp2
  refine ⟨by simp,.inl ⟨_,_,rfl,run_takeDeferred hK,?_⟩⟩;exact ⟨_,results_tmp rfl _ _ _,v,rfl,ownsRow_putObj hrow _ hK rfl,hB1.trans (belowK_b (w:=w) (ai _) W D _ _ (by omega) hK rfl rfl)⟩
 rintro D c' pre W _ _ h _;exact h.elim
end Go.Proofs.YtcgfilmmokmdjaaGreat
namespace Go.Proofs.YtcgfilmmokmdjaaGreat
open Go Go.RowKit
section
variable {P : Program} {ops : Array Oper} {md : Region.Mode}
def LC (md : Region.Mode) (ops : Array Oper) (n : Nat) : Bool:=
 decide (n = ops.size) &&
 ((List.range n).all fun i => ((ops[i]?).map fun o => o.after.all fun e => !Region.binds md e || decide (e.on < i)).getD false) &&
 ((List.range n).all fun i => (List.range n).all fun j => decide (i = j) || decide (zW ops i = none) || decide (zW ops i ≠ zW ops j)) &&
 Region.seqB md ops (ops.size - n) n ((List.range ops.size).map fun j => decide (j < n)).toArray
variable {Q : Exit → Act → World → Prop}
theorem zIs {n : Nat} {a0 : Act} {I : (Nat → Bool) → (Nat → Value) → World → Prop} {l : List Oper} (hl : ops = l.toArray) (hB : LC md ops n = true) (hN : ∀ i,i < n → ∀ t,zW ops i = some t → t < a0.tmps.size)
  (head : ∀ i o,i < n → ops[i]? = some o → ∀ L f w,L i = false → (∀ e ∈ o.after,Region.binds md e = true → L e.on = true) → I L f w →
   wpList P ops (Exit.then (Uj (fun v w' => I (CV L i) (xP f i v) w') (fD ops a0 f n).defers o.dst) Q) [o] (fD ops a0 f n) w)
  (tail : ∀ L f w,(∀ j,j < n → L j = true) → I L f w → wpList P ops Q (l.drop n) (fD ops a0 f n) w) :
  ∀ (fuel : Nat) (T : List Nat) (s : Array Bool) (L : Nat → Bool) (f : Nat → Value) (w : World),(∀ j,s.getD j false = L j) → T.Nodup → T.length = fuel → (∀ j,j < n → (s.getD j false = false ↔ j ∈ T)) → (∀ j ∈ T,j < n) → HeadInv md ops n s → I L f w →
   wpAny P md ops Q (fuel + (ops.size - n)) s (fD ops a0 f n) w:=by
 simp only [LC,aO,aS] at hB;obtain ⟨⟨⟨hn,hfw⟩,hdd⟩,Le⟩:=hB;have Cj : ∀ i o,i < n → ops[i]? = some o → ∀ e ∈ o.after,Region.binds md e = true → e.on < i:=fun i o hi ho e he hb => by
  have:=List.all_eq_true.1 hfw i (List.mem_range.2 hi);rw [ho] at this;simp only [dE,bw] at this;have h2:=Array.all_eq_true_iff_forall_mem.1 this e he;rw [hb] at h2
  simpa using h2
 have Dp : ∀ i j,i < n → j < n → i ≠ j → zW ops i = none ∨ zW ops i ≠ zW ops j:=fun i j hi hj hij => by
  have:=List.all_eq_true.1 (List.all_eq_true.1 hdd i (List.mem_range.2 hi)) j (List.mem_range.2 hj)
  simpa [hij] using this
 intro fuel
 induction fuel with
 | zero =>
  intro T s L f w hL hT hlen lh Bl inv hI;have Lf : T = []:=List.length_eq_zero_iff.1 hlen;subst Lf;have hall : ∀ j,j < n → s.getD j false = true:=fun j hj => by
   cases h : s.getD j false with
   | true => rfl
   | false => exact absurd ((lh j hj).1 h) (by simp)
  have Kk : s = ((List.range ops.size).map fun j => decide (j < n)).toArray:=by
   apply Array.ext
   ·
    simp [inv.size]
   intro j h1 h2;have il : j < ops.size:=by rw [← inv.size]; exact h1
   simp only [aT,dN,dR]
   by_cases e : j < n
   ·
    have:=hall j e;rw [bt,bI h1] at this;simp only [bw] at this;rw [this]; simp [e]
   have:=inv.tail j (by omega) il;rw [bt,bI h1] at this;simp only [bw] at this;rw [this]; simp [e]
  rw [aJ];have iy : (l.drop n).length = ops.size - n:=by rw [hl]; simp
  have h3:=wpAny_of_seq (P:=P) (md:=md) (ops:=ops) (Q':=Q) (l.drop n) n s (fD ops a0 f n) w (fun j => by rw [hl]; simp [cL]) (by rw [iy,Kk]; exact Le) (tail L f w (fun j hj => by rw [← hL]; exact hall j hj) hI)
  rwa [iy] at h3
 | succ fuel ih =>
  intro T s L f w hL hT hlen lh Bl inv hI;have Dq : T ≠ []:=fun e => by rw [e] at hlen; cases hlen
  obtain ⟨m,hm,hle⟩:=qH Dq;have hmn:=Bl m hm;have hun : s.getD m false = false:=(lh m hmn).2 hm;have JC : m < s.size:=by rw [inv.size]; omega
  obtain ⟨om,Fs⟩ : ∃ o,ops[m]? = some o:=⟨_,bI (by omega)⟩
  have jA : m ∈ Region.ready md ops s:=mem_ready.2 ⟨getD_in JC hun,om,Fs,fun e he jd => by
   have h1:=Cj m om hmn Fs e he jd
   cases h2 : s.getD e.on false with
   | true => rfl
   | false =>
    have:=hle _ ((lh e.on (by omega)).1 h2)
    omega⟩
  rw [show fuel + 1 + (ops.size - n) = (fuel + (ops.size - n)) + 1 by omega];refine ⟨fun e => absurd jA (by rw [e]; simp),fun i hi => ?_⟩;obtain ⟨IX,oi,hoi,lV⟩:=mem_ready.1 hi;have hin : i < n:=by rw [hn]; exact (Array.getElem?_eq_some_iff.1 hoi).1
  have Lg : i ∈ T:=(lh i hin).1 (getD_both IX);have pX : zW ops i = oi.dst:=by unfold zW; rw [hoi]; rfl
  unfold wpOp;rw [hoi];simp only [];have hh:=head i oi hin hoi L f w (by rw [← hL]; exact getD_both IX) (fun e he jd => by rw [← hL]; exact lV e he jd) hI;refine k5 hh (fun v w' hR => ?_) (fun d v w' hR => ?_)
  ·
   obtain ⟨_,hv0,hv⟩:=hR;have hval : I (CV L i) (xP f i v) w':=by
    cases hd : oi.dst with
    | none => exact hv0 hd v
    | some t =>
     have h4:=hv t hd;have h5 : t < (fD ops a0 f n).tmps.size:=by rw [ut]; exact hN i hin t (by rw [pX,hd])
     rw [hd] at h4
     simpa [Act.put,h5] using h4
   rw [← pX,qQ ops a0 f i v n hin fun j hj hji => Dp i j hin hj (aR hji)];refine ih (T.erase i) _ (CV L i) _ w' (fun j => ?_) (hT.erase i) (by rw [List.length_erase_of_mem Lg]; omega) (fun j hj => ?_) (fun j hj => Bl j (List.mem_of_mem_erase hj)) (inv.set hi hin) hval
   ·
    unfold CV
    by_cases e : j = i
    ·
     subst e;have il : j < s.size:=by rw [inv.size]; omega
     simp [bt,il]
    rw [bH false (aR e),hL j,ah e]
   rw [hT.mem_erase_iff]
   by_cases e : j = i
   ·
    subst e;have il : j < s.size:=by rw [inv.size]; omega
    simp [bt,il]
   rw [bH false (aR e),lh j hj];simp [e]
  have h1:=hR.1;have h2:=aQ List.length h1
  cases Lh : oi.dst <;> simp [Act.put,Lh] at h2
theorem zKj {id : Nat} {a0 : Act} {w : World} {l : List Oper} (n : Nat) (I : (Nat → Bool) → (Nat → Value) → World → Prop) (N : Nat) (hm : P.follows .mixedOrders = true) (hB : LC .any l.toArray n = true)
  (hsz : a0.tmps.size = N) (hN : Rl l.toArray n N = true) {fr : (Nat → Value) → Act} (hfr : ∀ f,fD l.toArray a0 f n = fr f)
  (start : ∀ f,I (fun _ => false) f w.drew)
  (head : Uk P Q l.toArray I fr l n 0)
  (tail : ∀ L f w1,(∀ j,j < n → L j = true) → I L f w1 → wpList P l.toArray Q (l.drop n) (fr f) w1) : (Code.region id l.toArray true).wp P Q a0 w:=by
 have hn : n = l.toArray.size:=by
  simp only [LC,aO,aS] at hB;exact hB.1.1.1
 refine wp_region_any hm ?_;have h:=zIs (md:=.any) (Q:=Q) (P:=P) (n:=n) (a0:=a0) (I:=I) rfl hB
  (fun i hi t ht => by
   have h1:=List.all_eq_true.1 hN i (List.mem_range.2 hi)
   rw [ht] at h1
   rw [hsz]
   simpa using h1)
  (fun i o hi ho L f w1 h0 hd hI => by
   rw [hfr]
   have h2:=Yd l n 0 head i o (by simpa using ho) hi L f w1 (by rwa [aJ]) (fun j hj => by
    unfold Li at hj
    obtain ⟨e,he,h3⟩:=Array.any_eq_true'.1 hj
    simp only [aO,ct] at h3
    rw [← h3.2]
    exact hd e he h3.1) hI
   rwa [aJ] at h2)
  (fun L f w1 hA hI => by rw [hfr]; exact tail L f w1 hA hI)
  n (List.range n) (Array.replicate l.toArray.size false) (fun _ => false) (fun j => match zW l.toArray j with | some d => a0.tmps.getD d undef | none => undef) w.drew
  (fun j => getD_replicate_false _ _) List.nodup_range (by simp) (fun j hj => by rw [getD_replicate_false]; simp [hj]) (fun j hj => by simpa using hj)
  ⟨by simp,fun j oj _ hl => (by rw [getD_replicate_false] at hl; cases hl),fun t _ ht => getD_in (by simpa using ht) (getD_replicate_false _ _)⟩
  (start _)
 have e0 : fD l.toArray a0 (fun j => match zW l.toArray j with | some d => a0.tmps.getD d undef | none => undef) n = a0:=PE _ _ _;rw [e0,show n + (l.toArray.size - n) = l.toArray.size by omega] at h;exact h
def UH (n : Nat) (w0 : World) (Φ : Nat → Value → World → Prop) (L : Nat → Bool) (f : Nat → Value) (w : World) : Prop:=Below w0.heap.size w0 w ∧ ∀ j,j < n → L j = true → Φ j (f j) w
theorem zJY {n : Nat} {a0 : Act} {w0 : World} {Φ : Nat → Value → World → Prop} (hΦ : ∀ j v w1 w2,Below w1.heap.size w1 w2 → Φ j v w1 → Φ j v w2) {l : List Oper} (hl : ops = l.toArray) (hds : ∀ i,i < n → (zW ops i).isSome = true) (hB : LC md ops n = true) (hN : ∀ i,i < n → ∀ t,zW ops i = some t → t < a0.tmps.size)
  (head : ∀ i o,i < n → ops[i]? = some o → ∀ L f w,L i = false → (∀ e ∈ o.after,Region.binds md e = true → L e.on = true) → UH n w0 Φ L f w →
   wpList P ops (Exit.then (tY (Φ i) False (fD ops a0 f n).defers o.dst w) Q) [o] (fD ops a0 f n) w)
  (tail : ∀ L f w,(∀ j,j < n → L j = true) → UH n w0 Φ L f w → wpList P ops Q (l.drop n) (fD ops a0 f n) w) :
  ∀ (fuel : Nat) (T : List Nat) (s : Array Bool) (L : Nat → Bool) (f : Nat → Value) (w : World),(∀ j,s.getD j false = L j) → T.Nodup → T.length = fuel → (∀ j,j < n → (s.getD j false = false ↔ j ∈ T)) → (∀ j ∈ T,j < n) → HeadInv md ops n s → UH n w0 Φ L f w →
   wpAny P md ops Q (fuel + (ops.size - n)) s (fD ops a0 f n) w:=by
 simp only [LC,aO,aS] at hB;obtain ⟨⟨⟨hn,hfw⟩,hdd⟩,Le⟩:=hB;have Cj : ∀ i o,i < n → ops[i]? = some o → ∀ e ∈ o.after,Region.binds md e = true → e.on < i:=fun i o hi ho e he hb => by
  have:=List.all_eq_true.1 hfw i (List.mem_range.2 hi);rw [ho] at this;simp only [dE,bw] at this;have h2:=Array.all_eq_true_iff_forall_mem.1 this e he;rw [hb] at h2
  simpa using h2
 have Dp : ∀ i j,i < n → j < n → i ≠ j → zW ops i = none ∨ zW ops i ≠ zW ops j:=fun i j hi hj hij => by
  have:=List.all_eq_true.1 (List.all_eq_true.1 hdd i (List.mem_range.2 hi)) j (List.mem_range.2 hj)
  simpa [hij] using this
 intro fuel
 induction fuel with
 | zero =>
  intro T s L f w hL hT hlen lh Bl inv hI;have Lf : T = []:=List.length_eq_zero_iff.1 hlen;subst Lf;have hall : ∀ j,j < n → s.getD j false = true:=fun j hj => by
   cases h : s.getD j false with
   | true => rfl
   | false => exact absurd ((lh j hj).1 h) (by simp)
  have Kk : s = ((List.range ops.size).map fun j => decide (j < n)).toArray:=by
   apply Array.ext
   ·
    simp [inv.size]
   intro j h1 h2;have il : j < ops.size:=by rw [← inv.size]; exact h1
   simp only [aT,dN,dR]
   by_cases e : j < n
   ·
    have:=hall j e;rw [bt,bI h1] at this;simp only [bw] at this;rw [this]; simp [e]
   have:=inv.tail j (by omega) il;rw [bt,bI h1] at this;simp only [bw] at this;rw [this]; simp [e]
  rw [aJ];have iy : (l.drop n).length = ops.size - n:=by rw [hl]; simp
  have h3:=wpAny_of_seq (P:=P) (md:=md) (ops:=ops) (Q':=Q) (l.drop n) n s (fD ops a0 f n) w (fun j => by rw [hl]; simp [cL]) (by rw [iy,Kk]; exact Le) (tail L f w (fun j hj => by rw [← hL]; exact hall j hj) hI)
  rwa [iy] at h3
 | succ fuel ih =>
  intro T s L f w hL hT hlen lh Bl inv hI;have Dq : T ≠ []:=fun e => by rw [e] at hlen; cases hlen
  obtain ⟨m,hm,hle⟩:=qH Dq;have hmn:=Bl m hm;have hun : s.getD m false = false:=(lh m hmn).2 hm;have JC : m < s.size:=by rw [inv.size]; omega
  obtain ⟨om,Fs⟩ : ∃ o,ops[m]? = some o:=⟨_,bI (by omega)⟩
  have jA : m ∈ Region.ready md ops s:=mem_ready.2 ⟨getD_in JC hun,om,Fs,fun e he jd => by
   have h1:=Cj m om hmn Fs e he jd
   cases h2 : s.getD e.on false with
   | true => rfl
   | false =>
    have:=hle _ ((lh e.on (by omega)).1 h2)
    omega⟩
  rw [show fuel + 1 + (ops.size - n) = (fuel + (ops.size - n)) + 1 by omega];refine ⟨fun e => absurd jA (by rw [e]; simp),fun i hi => ?_⟩;obtain ⟨IX,oi,hoi,lV⟩:=mem_ready.1 hi;have hin : i < n:=by rw [hn]; exact (Array.getElem?_eq_some_iff.1 hoi).1
  have Lg : i ∈ T:=(lh i hin).1 (getD_both IX);have pX : zW ops i = oi.dst:=by unfold zW; rw [hoi]; rfl
  unfold wpOp;rw [hoi];simp only [];have hh:=head i oi hin hoi L f w (by rw [← hL]; exact getD_both IX) (fun e he jd => by rw [← hL]; exact lV e he jd) hI;refine k5 hh (fun v w' hR => ?_) (fun d v w' hR => ?_)
  ·
   obtain ⟨_,Du,hv⟩:=hR;have hval : UH n w0 Φ (CV L i) (xP f i v) w':=by
    have hsome:=hds i hin;rw [pX] at hsome
    cases hd : oi.dst with
    | none => rw [hd] at hsome; cases hsome
    | some t =>
     have h4:=(hv t hd).1;have h5 : t < (fD ops a0 f n).tmps.size:=by rw [ut]; exact hN i hin t (by rw [pX,hd])
     rw [hd] at h4;have h6 : Φ i v w':=by simpa [Act.put,h5] using h4
     refine ⟨zA hI.1 Du,fun j hj YW => ?_⟩;unfold CV at YW;unfold xP
     by_cases e : j = i
     ·
      rw [ag e]; rw [e]; exact h6
     rw [ah e] at YW ⊢;exact hΦ j _ _ _ Du (hI.2 j hj YW)
   rw [← pX,qQ ops a0 f i v n hin fun j hj hji => Dp i j hin hj (aR hji)];refine ih (T.erase i) _ (CV L i) _ w' (fun j => ?_) (hT.erase i) (by rw [List.length_erase_of_mem Lg]; omega) (fun j hj => ?_) (fun j hj => Bl j (List.mem_of_mem_erase hj)) (inv.set hi hin) hval
   ·
    unfold CV
    by_cases e : j = i
    ·
     subst e;have il : j < s.size:=by rw [inv.size]; omega
     simp [bt,il]
    rw [bH false (aR e),hL j,ah e]
   rw [hT.mem_erase_iff]
   by_cases e : j = i
   ·
    subst e;have il : j < s.size:=by rw [inv.size]; omega
    simp [bt,il]
   rw [bH false (aR e),lh j hj];simp [e]
  have h1:=hR.1;have h2:=aQ List.length h1
  cases Lh : oi.dst <;> simp [Act.put,Lh] at h2
def zMx (ops : Array Oper) (n : Nat) : Bool:=(List.range n).all fun i => (zW ops i).isSome
theorem zB5 {id : Nat} {a0 : Act} {w : World} {l : List Oper} (L : List pY) (N : Nat) (hm : P.follows .mixedOrders = true) (hB : LC .any l.toArray L.length = true) (hD : zMx l.toArray L.length = true)
  (hsz : a0.tmps.size = N) (hN : Rl l.toArray L.length N = true) {fr : (Nat → Value) → Act} (hfr : ∀ f,fD l.toArray a0 f L.length = fr f)
  (head : Rm P Q l.toArray L [] fr w l L 0)
  (tail : ∀ f w1,Below w.heap.size w w1 → (∀ j,j < L.length → (stA L j).p (f j) w1) → wpList P l.toArray Q [] (fr f) w1) : (Code.region id l.toArray true).wp P Q a0 w:=by
 have hn : L.length = l.toArray.size:=by
  simp only [LC,aO,aS] at hB;exact hB.1.1.1
 refine wp_region_any hm ?_;have h:=zJY (md:=.any) (Q:=Q) (P:=P) (n:=L.length) (a0:=a0) (w0:=w) (Φ:=fun j => (stA L j).p) (fun j v w1 w2 hb h => (stA L j).m v w1 w2 hb h) rfl (fun i hi => List.all_eq_true.1 hD i (List.mem_range.2 hi)) hB
  (fun i hi t ht => by
   have h1:=List.all_eq_true.1 hN i (List.mem_range.2 hi)
   rw [ht] at h1
   rw [hsz]
   simpa using h1)
  (fun i o hi ho Lb f w1 h0 hd hI => by
   rw [hfr]
   have hS : L[i]? = some (stA L i):=by
    unfold stA
    rw [aw,aB hi]; rfl
   have h2:=T4 l L 0 head i o (stA L i) (by simpa using ho) hS f w1 hI.1 (fun j hj => by
    unfold Li at hj
    obtain ⟨e,he,h3⟩:=Array.any_eq_true'.1 hj
    simp only [aO,ct] at h3
    have hlt : e.on < i:=by
     have hB2:=hB
     simp only [LC,aO,aS] at hB2
     have:=List.all_eq_true.1 hB2.1.1.2 i (List.mem_range.2 hi)
     rw [ho] at this
     simp only [dE,bw] at this
     have h5:=Array.all_eq_true_iff_forall_mem.1 this e he
     rw [h3.1] at h5
     simpa using h5
    have h4:=hI.2 e.on (by omega) (hd e he h3.1)
    rwa [h3.2] at h4)
   have h3 : (0 + i ∈ ([] : List Nat)) = False:=by simp
   rw [h3] at h2
   exact h2)
  (fun Lb f w1 hA hI => by
   rw [hfr]
   have iy : l.drop L.length = []:=bY (by rw [hn]; simp)
   rw [iy]
   exact tail f w1 hI.1 fun j hj => hI.2 j hj (hA j hj))
  L.length (List.range L.length) (Array.replicate l.toArray.size false) (fun _ => false) (fun j => match zW l.toArray j with | some d => a0.tmps.getD d undef | none => undef) w.drew
  (fun j => getD_replicate_false _ _) List.nodup_range (by simp) (fun j hj => by rw [getD_replicate_false]; simp [hj]) (fun j hj => by simpa using hj)
  ⟨by simp,fun j oj _ hl => (by rw [getD_replicate_false] at hl; cases hl),fun t _ ht => getD_in (by simpa using ht) (getD_replicate_false _ _)⟩
  ⟨zy (aj _ _),fun j _ h => by cases h⟩
 have e0 : fD l.toArray a0 (fun j => match zW l.toArray j with | some d => a0.tmps.getD d undef | none => undef) L.length = a0:=PE _ _ _;rw [e0,show L.length + (l.toArray.size - L.length) = l.toArray.size by omega] at h;exact h
end
end Go.Proofs.YtcgfilmmokmdjaaGreat
