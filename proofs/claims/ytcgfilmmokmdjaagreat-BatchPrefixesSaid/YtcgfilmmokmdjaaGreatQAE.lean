/- A part of the walk. -/
import Derived.Test.YtcgfilmmokmdjaaGreatQAD
import Derived.Test.YtcgfilmmokmdjaaGreatQAB
import Derived.Lib.AppendZerosOnto
import Derived.Lib.Overlaps
import Derived.Lib.AppendZeros
set_option linter.all false
set_option maxRecDepth 100000
set_option maxHeartbeats 32000000
namespace Go.Proofs.YtcgfilmmokmdjaaGreat
open Go.RowKit
def yH (W : World) (b : Nat) (s : Sl) (l g : Int) : World:=
 (((((((((W.setCell ⟨b,0,none⟩ (.slice (s.a 0) (s.n 0) (s.c 0))).setCell ⟨b,1,none⟩ (.slice (s.a 1) (s.n 1) (s.c 1))).setCell ⟨b,2,none⟩ (.slice (s.a 2) (s.n 2) (s.c 2))).setCell ⟨b,3,none⟩ (.slice (s.a 3) (s.n 3) (s.c 3))).setCell ⟨b,4,none⟩ (.slice (s.a 4) (s.n 4) (s.c 4))).setCell ⟨b,5,none⟩ (.slice (s.a 5) (s.n 5) (s.c 5))).setCell ⟨b,6,none⟩ (.slice (s.a 6) (s.n 6) (s.c 6))).setCell ⟨b,7,none⟩ (.slice (s.a 7) (s.n 7) (s.c 7))).setCell ⟨b,8,none⟩ (.int .i64 l)).setCell ⟨b,9,none⟩ (.int .i64 g)
theorem eM.all {W : World} {b : Nat} {s : Sl} {l g : Int} (h : eM W b s l g) (s' : Sl) (l' g' : Int) : eM (yH W b s' l' g') b s' l' g':=by
 have c0:=h.c 0 (by decide);have c1:=h.c 1 (by decide);have c2:=h.c 2 (by decide);have c3:=h.c 3 (by decide);have c4:=h.c 4 (by decide);have c5:=h.c 5 (by decide);have c6:=h.c 6 (by decide);have c7:=h.c 7 (by decide);have c8:=h.cl;have c9:=h.cg;refine ⟨fun j hj => ?_,?_,?_,fun i => by simp [yH,h.f]⟩
 ·
  rcases Nc hj with e | e | e | e | e | e | e | e <;> subst e <;> simp [yH,go_sem,c0,c1,c2,c3,c4,c5,c6,c7,Sl.v]
 ·
  simp [yH,go_sem,c8]
 simp [yH,go_sem,c9]
theorem zY {B b : Nat} {w0 W : World} (h : Below B w0 W) (hb : B ≤ b) (s : Sl) (l g : Int) : Below B w0 (yH W b s l g):=
 (((((((((h.setCell hb _).setCell hb _).setCell hb _).setCell hb _).setCell hb _).setCell hb _).setCell hb _).setCell hb _).setCell hb _).setCell hb _
theorem eM.ep {W : World} {b : Nat} {s : Sl} {l g : Int} (h : eM W b s l g) {p : Addr} (hp : p.block ≠ b) (u : Value) : eM (W.setCell p u) b s l g:=by
 have ne : ∀ i,p ≠ ⟨b,i,none⟩:=fun i e => hp (by rw [e])
 exact ⟨fun j hj => (cu (h:=ne j) ..).trans (h.c j hj),(cu (h:=ne 8) ..).trans h.cl,(cu (h:=ne 9) ..).trans h.cg,fun i => by simp [h.f]⟩
theorem eM.mD {W : World} {b c : Nat} {s : Sl} {l g : Int} (h : eM W b s l g) (hp : c ≠ b) (s' : Sl) (l' g' : Int) : eM (yH W c s' l' g') b s l g:=
 (((((((((h.ep (p:=⟨c,0,none⟩) hp _).ep (p:=⟨c,1,none⟩) hp _).ep (p:=⟨c,2,none⟩) hp _).ep (p:=⟨c,3,none⟩) hp _).ep (p:=⟨c,4,none⟩) hp _).ep (p:=⟨c,5,none⟩) hp _).ep (p:=⟨c,6,none⟩) hp _).ep (p:=⟨c,7,none⟩) hp _).ep (p:=⟨c,8,none⟩) hp _).ep (p:=⟨c,9,none⟩) hp _
theorem yD {W : World} {B : Nat} {e : TypeId} {sz n : Nat} {v : Value} {xs : List Value} (h : W.ownsRow B e sz v n xs) {p : Addr} (hp : p.block < B) (u : Value) : (W.setCell p u).ownsRow B e sz v n xs:=
 zFb h (fun e => by have:=(World.ownsRow.lt h _ e).1; omega) u
theorem zFX {W : World} {B b : Nat} {e : TypeId} {sz n : Nat} {v : Value} {xs : List Value} (h : W.ownsRow B e sz v n xs) (hp : b < B) (s : Sl) (l g : Int) : (yH W b s l g).ownsRow B e sz v n xs:=
 yD (p:=⟨b,9,none⟩) (yD (p:=⟨b,8,none⟩) (yD (p:=⟨b,7,none⟩) (yD (p:=⟨b,6,none⟩) (yD (p:=⟨b,5,none⟩) (yD (p:=⟨b,4,none⟩) (yD (p:=⟨b,3,none⟩) (yD (p:=⟨b,2,none⟩) (yD (p:=⟨b,1,none⟩) (yD (p:=⟨b,0,none⟩) h hp _) hp _) hp _) hp _) hp _) hp _) hp _) hp _) hp _) hp _
def eZ (w : World) (B : Nat) (s : Sl) (f : Nat → List It) : Prop:=∀ i,i < 8 → fu w B (s.v i) (f i)
theorem eZ.rd {w : World} {B : Nat} {s : Sl} {f : Nat → List It} (h : eZ w B s f) : fq w s f:=fun i hi => (h i hi).rd
theorem eZ.keep {w w' : World} {B : Nat} {s : Sl} {f : Nat → List It} (h : eZ w B s f) (hb : Below w.heap.size w w') : eZ w' B s f:=fun i hi => zI (h i hi) hb
theorem eZ.mono {w : World} {B B' : Nat} {s : Sl} {f : Nat → List It} (h : eZ w B s f) (hb : B' ≤ B) : eZ w B' s f:=fun i hi => World.ownsRow.mono (h i hi) hb
theorem eZ.j_ {w : World} {B b : Nat} {s : Sl} {f : Nat → List It} (h : eZ w B s f) (hb : b < B) (s' : Sl) (l g : Int) : eZ (yH w b s' l g) B s f:=fun i hi => zFX (h i hi) hb s' l g
theorem eZ.nil (w : World) (B : Nat) : eZ w B Sl.nil (fun _ => []):=fun _ _ => aU _ _ _ _
theorem eZ.set {w : World} {B : Nat} {s : Sl} {f : Nat → List It} (h : eZ w B s f) {k : Nat} {a : Option Addr} {n c : Nat} {l : List It} (hl : fu w B (.slice a n c) l) : eZ w B (s.set k a n c) (fun i => if i = k then l else f i):=fun i hi => by
 show fu w B ((s.set k a n c).v i) (if i = k then l else f i)
 rw [Sl.Cc]
 by_cases e : i = k
 ·
  rw [ag e,ag e]; exact hl
 rw [ah e,ah e]; exact h i hi
section
variable {W : World} {b : Nat} {s : Sl} {l g : Int} (h : eM W b s l g)
include h
theorem eM.c0 : W.cell? ⟨b,0,none⟩ = some (.slice (s.a 0) (s.n 0) (s.c 0)):=h.c 0 (by decide)
theorem eM.c1 : W.cell? ⟨b,1,none⟩ = some (.slice (s.a 1) (s.n 1) (s.c 1)):=h.c 1 (by decide)
theorem eM.c2 : W.cell? ⟨b,2,none⟩ = some (.slice (s.a 2) (s.n 2) (s.c 2)):=h.c 2 (by decide)
theorem eM.c3 : W.cell? ⟨b,3,none⟩ = some (.slice (s.a 3) (s.n 3) (s.c 3)):=h.c 3 (by decide)
theorem eM.c4 : W.cell? ⟨b,4,none⟩ = some (.slice (s.a 4) (s.n 4) (s.c 4)):=h.c 4 (by decide)
theorem eM.c5 : W.cell? ⟨b,5,none⟩ = some (.slice (s.a 5) (s.n 5) (s.c 5)):=h.c 5 (by decide)
theorem eM.c6 : W.cell? ⟨b,6,none⟩ = some (.slice (s.a 6) (s.n 6) (s.c 6)):=h.c 6 (by decide)
theorem eM.c7 : W.cell? ⟨b,7,none⟩ = some (.slice (s.a 7) (s.n 7) (s.c 7)):=h.c 7 (by decide)
end
theorem kR (s : Sl) (L G : Int) (f : Nat → List It) (w : World) (h : fq w s f) (hs : ∀ i,i < 8 → (f i).length ≤ 100000) :
  Calls Tryz.prog 91 #[yK s L G] w fun e w' => (∃ s',e = .returned (yK s' L G) ∧ eZ w' w.heap.size s' f) ∧ Below w.heap.size w w':=by
 have Hr:=zh h;have HC:=zh (fun i (hi : i < 8) W (hb : Below w.heap.size w W) => VB (s.v i) (f i) W ((h i hi).below hb) (ak (hs i hi) (by decide)));have HI:=zh (fun i (hi : i < 8) => zE1 s hi);have HL:=zh (fun i (hi : i < 8) => h.n hi);clear h hs;have eG:=zh ((eM.new w s L G 36).below (za (w.alloc (.cells (yj s L G) 36)) Sl.nil 0 0 36));have Cf:=zh (eM.new (w.alloc (.cells (yj s L G) 36)) Sl.nil 0 0 36);have eQ:=zh (zA (za w s L G 36) (za (w.alloc (.cells (yj s L G) 36)) Sl.nil 0 0 36));rw [show (w.alloc (.cells (yj s L G) 36)).heap.size = w.heap.size + 1 by simp] at Cf
 go_enter Tryz.func91,Tryz.ntmps91
 go_wp2_with fail;obtain ⟨W0,hW0⟩ : ∃ W0,(w.alloc (.cells (yj s L G) 36)).alloc (.cells #[.slice none 0 0,.slice none 0 0,.slice none 0 0,.slice none 0 0,.slice none 0 0,.slice none 0 0,.slice none 0 0,.slice none 0 0,.int .i64 0,.int .i64 0] 36) = W0:=⟨_,rfl⟩
 have hW1 : (w.alloc (.cells (yj s L G) 36)).alloc (.cells (yj Sl.nil 0 0) 36) = W0:=hW0;rw [hW1] at eG Cf eQ
 try rw [hW0]
 clear hW0 hW1;have hs0 : w.heap.size + 2 ≤ W0.heap.size:=Cf.out.lt;have Ps:=zh hs0;clear hs0
 go_loopw [7] (fun iv W => ∃ (i : Nat) (q : Sl),iv = .int .i64 (i : Int) ∧ i ≤ 8 ∧ Hid (∀ j,j < i → W.ownsRow (w.heap.size + 2) 49 4 (q.v j) (f j).length (zU (f j))) ∧ Hid (∀ j,i ≤ j → q.v j = s.v j) ∧ Hid (eM W w.heap.size q L G) ∧ Hid (eM W (w.heap.size + 1) Sl.nil 0 0) ∧ Hid (Below w.heap.size w W)) (fun iv _ => 8 - (intOf iv).toNat)
 case atStart => exact ⟨0,s,rfl,aq _,zh (fun j hj => by omega),zh (fun j _ => rfl),eG,Cf,eQ⟩
 obtain ⟨i,q,rfl,hi,Hq1,Hq2,HX,HY,HB⟩:=hrel
 by_cases hin : i < 8
 ·
  have i1 : (i : Int) < 8:=by omega
  have hI:=HI.out i hin;have hL:=HL.out i hin;have Ko:=zh (HC.out i hin wr HB.out);have DR : s.v i = .slice (s.a i) (s.n i) (s.c i):=rfl;rw [DR] at Ko hI;rw [hL] at Ko hI;generalize s.a i = sa at *;generalize s.c i = sc at *;clear DR hL;go_wp2_with fail;refine Ko.out.mono ?_; rintro e w2 ⟨v2,rfl,eC,hb2⟩;have eV:=zh (zA HB.out hb2);have gm:=zh (HX.out.below hb2);have iq:=zh (HY.out.below hb2);have gT:=zh (fun j hj => zI (Hq1.out j hj) hb2);have K3 : w.heap.size + 2 ≤ wr.heap.size:=HY.out.lt;have gu:=zh (eC.mono K3);obtain ⟨oa,oc,Ec,_⟩:=zM eC;subst Ec;clear eC hb2 K3 Ko;have ci:=gm.out.c i hin;have fi:=gm.out.f i;have hqi : q.v i = .slice (q.a i) (q.n i) (q.c i):=rfl;rw [hqi] at ci;clear hqi;go_wp2_with fail;have gP:=zh (gm.out.K2 hin oa (f i).length oc)
  have mE:=zh (iq.out.ep (p:=⟨w.heap.size,i,none⟩) (show w.heap.size ≠ w.heap.size + 1 by omega) (.slice oa (f i).length oc));have gp:=zh (eV.out.setCell (p:=⟨w.heap.size,i,none⟩) (ai _) (.slice oa (f i).length oc));refine ⟨⟨i + 1,q.set i oa (f i).length oc,by go_num,by omega,zh (fun j hj => ?_),zh (fun j hj => ?_),gP,mE,gp⟩,by simp [intOf]; omega⟩
  ·
   rw [Sl.Cc]
   by_cases e : j = i
   ·
    subst e; rw [ag rfl]; exact yD gu.out (show w.heap.size < w.heap.size + 2 by omega) _
   rw [ah e]; exact yD (gT.out j (by omega)) (show w.heap.size < w.heap.size + 2 by omega) _
  rw [Sl.Cc,ah (by omega)]; exact Hq2.out j (by omega)
 obtain rfl : i = 8:=by omega
 obtain ⟨c0,c1,c2,c3,c4,c5,c6,c7,c8,c9⟩:=HX.out.q;obtain ⟨d0,d1,d2,d3,d4,d5,d6,d7,d8,d9⟩:=HY.out.q;have F:=HY.out.f;go_wp2_with fail;change bodyPost _ _ _ _ _ (yH wr (w.heap.size + 1) q L G);have hby:=HY.out.all q L G;have lT:=zh (show eZ (yH wr (w.heap.size + 1) q L G) w.heap.size q f from fun j hj => World.ownsRow.mono (zFX (Hq1.out j hj) (show w.heap.size + 1 < w.heap.size + 2 by omega) q L G) (by omega));have ey:=zh (zY HB.out (Nat.le_succ _) q L G);generalize yH wr (w.heap.size + 1) q L G = V at *;exact au (v:=yK q L G) (by simp [results,Tryz.results91,go_sem,hby.q]) rfl ⟨⟨q,rfl,lT.out⟩,ey.out⟩
end Go.Proofs.YtcgfilmmokmdjaaGreat
namespace Go.Proofs.YtcgfilmmokmdjaaGreat
open Go.RowKit
theorem kw {P : Program} {dT sT elem : TypeId} {sz bytes : Nat} (hE : wK P dT elem sz bytes) {w : World} {base : Nat} {e : TypeId} {n cap g : Nat} {xs : List Value} (h : w.ownsRow base e sz (.slice (some ⟨g,0,none⟩) n cap) n xs)
  {sa : Option Addr} {m sc : Nat} {news : List Value} (hs : Rd w sz (.slice sa m sc) m news) (o dl dc k : Nat) (hk : k = Nat.min m dl) (h0 : 0 < k) (hsz : 0 < sz) (ho : o + k ≤ n) (h1 : ∀ u ∈ news.take (k * sz),u.oneCell' = true) :
  ∃ w',(∀ ty,(Builtin.copy_ #[dT,sT] ty #[.slice (some ⟨g,o * sz,none⟩) dl dc,.slice sa m sc]).run P w = .ok (.int .i64 (k : Int)) w') ∧
   w'.ownsRow base e sz (.slice (some ⟨g,0,none⟩) n cap) n (xs.take (o * sz) ++ news.take (k * sz) ++ xs.drop (o * sz + k * sz)) ∧ w.grownBy w' (some g):=by
 obtain ⟨hl,a',cap',e1,_,_,_,hc⟩:=hs;injection e1 with e1 e2 e3;subst e1 e3;have Ph : k ≤ m:=by rw [hk]; exact Nat.min_le_left _ _
 have hlk : (news.take (k * sz)).length = k * sz:=by rw [ay,hl]; exact bJ (aV _ Ph)
 have hp : 0 < news.length:=by rw [hl]; exact Nat.mul_pos (by omega) hsz
 obtain ⟨b,off,e4,hcell⟩:=hc hp;subst e4;obtain ⟨w',hrun,hown,hgr⟩:=qN (P:=P) h (o * sz) (news.take (k * sz)) (by rw [hlk,← bZ]; exact aV _ ho) h1;rw [hlk] at hown;refine ⟨w',fun ty => ?_,hown,hgr⟩
 have hf:=run_firstCells_some (P:=P) (w:=w) sz k ⟨b,off,none⟩ m sc (news.take (k * sz)) hlk (fun j v hj => by
  rw [yT]
  refine hcell j v ?_
  rw [cI] at hj
  split at hj
  ·
   exact hj
  cases hj)
 obtain ⟨ht,hZ⟩:=wm hE;simp [Builtin.copy_,run_underlying ht,Builtin.lenOf,hZ,← hk,hf,hrun,goInt]
theorem zEW {w : World} {base : Nat} {e : TypeId} {sz n cap g : Nat} {xs : List Value} (h : w.ownsRow base e sz (.slice (some ⟨g,0,none⟩) n cap) n xs) (k : Nat) (hk : n + k ≤ cap) :
  ∃ ys,ys.length = k * sz ∧ w.ownsRow base e sz (.slice (some ⟨g,0,none⟩) (n + k) cap) (n + k) (xs ++ ys):=by
 have hx:=h.1;rcases h.2 with ⟨h',_⟩ | ⟨g',cap',cur,h',hb,hg,hnc,hcm,hcs,ji⟩
 ·
  cases h'
 injection h' with h' _ h'';injection h' with h';injection h' with h' _;subst h' h'';have hN : (n + k) * sz ≤ cur.toList.length:=by rw [dO,hcs]; exact aV _ hk
 rw [bZ] at hN;refine ⟨(cur.toList.drop (n * sz)).take (k * sz),by rw [ay,aP]; omega,?_,.inr ⟨g,cap,cur,rfl,hb,hg,hk,hcm,hcs,?_⟩⟩
 ·
  rw [ax,hx,ay,aP,bZ]; omega
 rw [bZ,List.take_add,ji]
theorem qT {P : Program} {t e : TypeId} {sz bytes : Nat} (hE : wK P t e sz bytes) (g n cap k : Nat) (hk : k ≤ n) (hc : k < cap) :
  ∀ W kl,(Instr.slice t (.slice (some ⟨g,0,none⟩) n cap) (some (.int kl (k : Int))) none none).run P W = .ok (.slice (some ⟨g,k * sz,none⟩) (n - k) (cap - k)) W:=by
 obtain ⟨h1,h2⟩:=wm hE;intro W kl;rw [run_slice_l W t (some ⟨g,0,none⟩) n cap h1 kl (k : Int) (by omega) (by omega),h2];have : cap ≠ k:=by omega
 simp [Result.andThen,sliced,this,yT]
theorem zHx {w : World} {B : Nat} {a : Option Addr} {n cap : Nat} {xs : List Value} (h : w.ownsRow B 49 4 (.slice a n cap) n xs) (i k : Nat) (hi : i ≤ n) (h0 : 0 < n) (hk : cap < i + k) (hs : i + k ≤ 1000001) :
  ∃ w' c',(∀ ty,(Builtin.append_ #[33,3] ty #[.slice a i cap,.int .i64 (k : Int)]).run Tryz.prog w = .ok (.slice (some ⟨w.heap.size,0,none⟩) (i + k) c') w') ∧
   w'.ownsRow w.heap.size 49 4 (.slice (some ⟨w.heap.size,0,none⟩) (i + k) c') (i + k) (xs.take (i * 4) ++ zU (List.replicate k fM)) ∧ Below w.heap.size w w' ∧ c' ≤ maxLen:=by
 obtain ⟨x,hx⟩ : ∃ x,Tryz.prog.info? 49 = some x:=by
  cases hq : Tryz.prog.info? 49 with
  | none => have:=MX; rw [hq] at this; cases this
  | some x => exact ⟨x,rfl⟩
 have hI:=MX;rw [hx] at hI;injection hI with hI;injection hI with hz hI;injection hI with hs4 EK;have hz : x.zero = some (jS fM):=hz;have hcap : 0 < cap:=by
  rcases h.2 with ⟨e,_⟩ | ⟨g,c,_,e,_,_,hnc,_⟩
  ·
   injection e with _ e2 _; omega
  injection e with _ _ e3; omega
 obtain ⟨hl0,a',cap',e1,_,_,_,hc⟩:=zw h;injection e1 with e1 e2 e3;subst e1 e3;have hl : (xs.take (i * 4)).length = i * 4:=by rw [ay,hl0]; exact bJ (aV _ hi)
 have hold : (Builtin.firstCells x.size i (.slice a i cap)).run Tryz.prog w.drew = .ok (xs.take (i * 4)).toArray w.drew:=by
  obtain ⟨b,off,e4,hcell⟩:=hc (by rw [hl0]; omega);subst e4;rw [hs4];refine run_firstCells_some (P:=Tryz.prog) (w:=w.drew) 4 i ⟨b,off,none⟩ i cap _ hl (fun j v hj => ?_);rw [yT];refine hcell j v ?_;rw [cI] at hj
  split at hj
  ·
   exact hj
  cases hj
 have hnb : Builtin.nextslicecap (i + k) cap * x.bytes ≤ 281474976710656:=growslice_fits hk (by rw [EK]; omega);have hr : ∀ ty,_:=fun ty => Lib.run_append_grow_zeros (P:=Tryz.prog) w 33 3 ty 49 x (jS fM) .i64 .i64 Tryz.underlying33 Tryz.underlying3 hx hz a i cap (xs.take (i * 4)) hold k (by omega) (by rw [hs4]; decide) hk (by omega) (by rw [EK]; omega) hnb
 refine ⟨_,_,hr,?_,(Below.drew (aj _ _)).alloc (ai _) _,grownCap_le_maxLen w (i + k) cap _ (by unfold maxLen; omega)⟩;have hge:=grownCap_ge w (i + k) cap 49;have hcm : grownCap w (i + k) cap 49 ≤ maxLen:=grownCap_le_maxLen w (i + k) cap _ (by unfold maxLen; omega);have hzl : (zU (List.replicate k fM)).length = k * 4:=by rw [yJ,dB]
 have hlen : (xs.take (i * 4) ++ zU (List.replicate k fM)).length = (i + k) * 4:=by rw [ax,hl,hzl,bZ]
 refine ⟨hlen,.inr ⟨w.heap.size,_,_,rfl,ai _,dg w.drew _,hge,hcm,?_,?_⟩⟩
 ·
  have z4 : (jS fM).cells.size = 4:=rfl;simp only [Array.size_append,b8,size_zeroCells,z4,hl,← bZ];rw [show i + k + (grownCap w (i + k) cap 49 - (i + k)) = grownCap w (i + k) cap 49 from by omega]
 simp only [Array.toList_append];rw [uY,← hlen];exact List.take_left
theorem zIe {xs z c : List Value} {n i : Nat} (hi : i ≤ n) (hx : xs.length = n * 4) (hz : z.length = (n + 1 - i) * 4) (hc : c.length = 4) :
  ((xs.take (i * 4) ++ z).take (i * 4) ++ c ++ (xs.take (i * 4) ++ z).drop (i * 4 + 4)).take ((i + 1) * 4) ++ xs.drop (i * 4) ++ ((xs.take (i * 4) ++ z).take (i * 4) ++ c ++ (xs.take (i * 4) ++ z).drop (i * 4 + 4)).drop ((i + 1) * 4 + (n - i) * 4) = xs.take (i * 4) ++ c ++ xs.drop (i * 4):=by
 have hl : (xs.take (i * 4)).length = i * 4:=by rw [ay,hx]; omega
 have e1 : (xs.take (i * 4) ++ z).take (i * 4) = xs.take (i * 4):=cE hl;have e2 : (xs.take (i * 4) ++ z).drop (i * 4 + 4) = z.drop 4:=by rw [← bW,List.drop_left' hl]
 have l2 : (xs.take (i * 4) ++ c).length = (i + 1) * 4:=by rw [ax,hl,hc]; omega
 have e3 : (xs.take (i * 4) ++ c ++ z.drop 4).drop ((i + 1) * 4 + (n - i) * 4) = []:=bY (by rw [ax,l2,aP,hz]; omega);rw [e1,e2,cE l2,e3,bB]
theorem zH8 {xs ys c : List Value} {n i : Nat} (hi : i ≤ n) (hx : xs.length = n * 4) (hy : ys.length = 4) :
  ((xs ++ ys).take ((i + 1) * 4) ++ ((xs ++ ys).drop (i * 4)).take ((n - i) * 4) ++ (xs ++ ys).drop ((i + 1) * 4 + (n - i) * 4)).take (i * 4) ++ c ++ ((xs ++ ys).take ((i + 1) * 4) ++ ((xs ++ ys).drop (i * 4)).take ((n - i) * 4) ++ (xs ++ ys).drop ((i + 1) * 4 + (n - i) * 4)).drop (i * 4 + 4) = xs.take (i * 4) ++ c ++ xs.drop (i * 4):=by
 have ld : (xs.drop (i * 4)).length = (n - i) * 4:=by rw [aP,hx]; omega
 have e1 : ((xs ++ ys).drop (i * 4)).take ((n - i) * 4) = xs.drop (i * 4):=by
  rw [List.drop_append_of_le_length (by omega),cE ld]
 have e2 : (xs ++ ys).drop ((i + 1) * 4 + (n - i) * 4) = []:=bY (by rw [ax,hx,hy]; omega);have l3 : ((xs ++ ys).take ((i + 1) * 4)).length = (i + 1) * 4:=by rw [ay,ax,hx,hy]; omega
 rw [e1,e2,bB];have e3 : ((xs ++ ys).take ((i + 1) * 4) ++ xs.drop (i * 4)).take (i * 4) = xs.take (i * 4):=by
  rw [dQ (by omega),dh,bJ (by omega),dQ (by omega)]
 have e4 : ((xs ++ ys).take ((i + 1) * 4) ++ xs.drop (i * 4)).drop (i * 4 + 4) = xs.drop (i * 4):=List.drop_left' (by rw [l3]; omega);rw [e3,e4]
theorem zIR {w : World} {B g n cap : Nat} {xs : List Value} (h : w.ownsRow B 49 4 (.slice (some ⟨g,0,none⟩) n cap) n xs) (i : Nat) (hi : i < n) :
  ∃ w',(∀ ty c,(Builtin.clear_ #[33] ty #[.slice (some ⟨g,i * 4,none⟩) (n - i) c]).run Tryz.prog w = .ok (.tuple #[]) w') ∧ w'.ownsRow B 49 4 (.slice (some ⟨g,0,none⟩) n cap) n (xs.take (i * 4) ++ zU (List.replicate (n - i) fM)) ∧ w.grownBy w' (some g):=by
 have hl : xs.length = n * 4:=h.1;obtain ⟨w',h1,h2,h3⟩:=qN (P:=Tryz.prog) h (i * 4) (zU (List.replicate (n - i) fM)) (by rw [yJ,dB]; omega) (zp _);refine ⟨w',fun ty c => ?_,?_,h3⟩
 ·
  obtain ⟨m,hm⟩ : ∃ m,n - i = m + 1:=⟨n - i - 1,by omega⟩
  rw [hm] at h1 ⊢;simp only [Builtin.clear_];simp [run_underlying Tryz.underlying33];have hz:=uY (m + 1);simp only [jS,fM] at hz;rw [hz,show zU (List.replicate (m + 1) ⟨0,0,0,0⟩) = zU (List.replicate (m + 1) fM) from rfl,h1]
  rfl
 rw [bY (by rw [yJ,dB]; omega),bB] at h2;exact h2
theorem zIp {w : World} {B g n cap : Nat} {xs : List Value} (h : w.ownsRow B 49 4 (.slice (some ⟨g,0,none⟩) n cap) n xs) {sa : Addr} {m sc : Nat} {news : List Value} (hs : Rd w 4 (.slice (some sa) m sc) m news) (h1 : ∀ u ∈ news,u.oneCell' = true) (hr : n + m ≤ cap) :
  ∃ w',(∀ ty,(Builtin.append_ #[33,33] ty #[.slice (some ⟨g,0,none⟩) n cap,.slice (some sa) m sc]).run Tryz.prog w = .ok (.slice (some ⟨g,0,none⟩) (n + m) cap) w') ∧ w'.ownsRow B 49 4 (.slice (some ⟨g,0,none⟩) (n + m) cap) (n + m) (xs ++ news) ∧ w.grownBy w' (some g):=by
 obtain ⟨x,hx⟩ : ∃ x,Tryz.prog.info? 49 = some x:=by
  cases hq : Tryz.prog.info? 49 with
  | none => have:=MX; rw [hq] at this; cases this
  | some x => exact ⟨x,rfl⟩
 have hI:=MX;rw [hx] at hI;injection hI with hI;injection hI with _ hI;injection hI with hs4 _;have hs4 : x.size = 4:=hs4;obtain ⟨hl,a',cap',e1,_,_,_,hc⟩:=hs;injection e1 with e1 e2 e3;subst e3;have hnews : ∀ j u,news[j]? = some u → w.cell? (sa.add j) = some u:=fun j u hj => by
  have hp : 0 < news.length:=by have:=(List.getElem?_eq_some_iff.1 hj).1; omega
  obtain ⟨b,off,e4,hcell⟩:=hc hp;rw [← e1] at e4;obtain rfl:=Option.some.inj e4;rw [yT]; exact hcell j u hj
 rcases h.2 with ⟨h',_⟩ | ⟨g',c2,cur,h',hb,hg,hnc,hcm,hcs,ji⟩
 ·
  cases h'
 injection h' with h' _ h'';injection h' with h';injection h' with h' _;subst h' h'';have hx1:=h.1;have hfit : n * 4 + news.length ≤ cur.size:=by rw [hl,hcs]; omega
 refine ⟨_,fun ty => run_append_room (P:=Tryz.prog) w 33 ty 49 x Tryz.underlying33 hx g n cap cur hg sa m sc news (by rw [hs4]; exact hl) hnews h1 hr (by rw [hs4]; exact hfit),⟨?_,.inr ⟨g,cap,_,rfl,hb,setRow_heap w g cur _ _ _ hg,hr,hcm,?_,?_⟩⟩,⟨rfl,rfl,rfl,by simp,fun k _ hk => setRow_other w g k _ (fun e => hk (by rw [e]))⟩⟩
 ·
  rw [ax,hx1,hl,bZ]
 ·
  rw [hs4];simp only [b8,ax,ay,aP,dO];omega
 rw [hs4,ji];have : (xs ++ news).length = (n + m) * 4:=by rw [ax,hx1,hl,bZ]
 rw [← this];exact List.take_left
theorem zGW (w : World) (n : Nat) (h0 : 0 < n) (hn : n ≤ 1000000) :
  ∃ w' c,(∀ ty,(Builtin.append_ #[33,3] ty #[.slice none 0 0,.int .i64 (n : Int)]).run Tryz.prog w = .ok (.slice (some ⟨w.heap.size,0,none⟩) n c) w') ∧
   w'.ownsRow w.heap.size 49 4 (.slice (some ⟨w.heap.size,0,none⟩) 0 c) 0 [] ∧ Below w.heap.size w w' ∧ n ≤ c ∧ c ≤ maxLen:=by
 obtain ⟨x,hx⟩ : ∃ x,Tryz.prog.info? 49 = some x:=by
  cases hq : Tryz.prog.info? 49 with
  | none => have:=MX; rw [hq] at this; cases this
  | some x => exact ⟨x,rfl⟩
 have hI:=MX;rw [hx] at hI;injection hI with hI;injection hI with hz hI;injection hI with hs4 EK;have hz : x.zero = some (jS fM):=hz;have hr : ∀ ty,_:=fun ty => Lib.run_append_nil_zeros (P:=Tryz.prog) w 33 3 ty 49 x (jS fM) .i64 .i64 Tryz.underlying33 Tryz.underlying3 hx hz n h0 (by rw [hs4]; decide) (by omega) (by rw [EK]; omega)
 have hge:=grownCap_ge w n 0 49;have hcm : grownCap w n 0 49 ≤ maxLen:=grownCap_le_maxLen w n 0 _ (by unfold maxLen; omega);refine ⟨_,_,hr,⟨rfl,.inr ⟨w.heap.size,_,_,rfl,ai _,dg w.drew _,aq _,hcm,?_,by simp⟩⟩,(Below.drew (aj _ _)).alloc (ai _) _,hge,hcm⟩;have z4 : (jS fM).cells.size = 4:=rfl;simp only [Array.size_append,size_zeroCells,z4,← bZ];rw [show n + (grownCap w n 0 49 - n) = grownCap w n 0 49 from by omega]
theorem zKR (n : Nat) (hn : n ≤ 1000000) (w : World) :
  Calls Tryz.prog 172 #[.slice none 0 0,.int .i64 (n : Int)] w fun e w' => ∃ v',e = .returned v' ∧ fu w' w.heap.size v' [] ∧ Below w.heap.size w w':=by
 have hneg : decide ((n : Int) < 0) = false:=by simp
 by_cases h0 : n = 0
 ·
  subst h0
  go_enter Tryz.func172,Tryz.ntmps172
  go_wp2_with fail;go_ret;exact ⟨_,rfl,aU _ _ _ _,aj _ _⟩
 have hp : decide ((0 : Int) < (n : Int)) = true:=by simp; omega
 obtain ⟨w1,c,hrun,hown,hb,hnc,hcm⟩:=zGW w n (by omega) hn;have h1:=yX (P:=Tryz.prog) yI (a:=some ⟨w.heap.size,0,none⟩) (n:=n) (cap:=c) (fun x hx => ⟨w.heap.size,0,(Option.some.inj hx).symm⟩) 0 (aq _);have h2 : ∀ W kh,(Instr.slice 33 (.slice none 0 0) none (some (.int kh ((0 : Nat) : Int))) none).run Tryz.prog W = .ok (.slice none 0 0) W:=yX (P:=Tryz.prog) yI (a:=none) (n:=0) (cap:=0) (fun x hx => by cases hx) 0 (ai _);rw [show ((0 : Nat) : Int) = 0 from rfl] at h1 h2;have HO:=zh hown;have HB:=zh hb;have j1 : IntKind.i64.wrap ((n : Int) - 0) = (n : Int):=(aF _ (by omega)).trans (by omega);clear hown hb
 go_enter Tryz.func172,Tryz.ntmps172
 go_wp2_with (at_builtin; refine Lib.wpList_append_run _ rfl (.tmp 20) (.tmp 21) _ _ rfl _ _ rfl rfl _ _ (hrun _) ?_);go_ret;exact ⟨_,rfl,HO.out,HB.out⟩
theorem Wm (f : Nat → List It) (n : Nat) : (cat f (n + 1)).length = (cat f n).length + (f n).length:=by
 show (cat f n ++ f n).length = _
 rw [ax]
theorem zFB (f : Nat → List It) : ∀ d n,(cat f n).length ≤ (cat f (n + d)).length
 | 0,_ => ai _
 | d + 1,n => by
  have:=zFB f d n;rw [show n + (d + 1) = (n + d) + 1 by omega,Wm];omega
theorem zGJ (b : Nat) (s : Sl) (L G : Int) (f : Nat → List It) (w : World) (hx : eM w b s L G) (h : fq w s f) (hs : (cat f 8).length ≤ 1000000) :
  Calls Tryz.prog 133 #[.slice (some ⟨b,0,none⟩) 8 8] w fun e w' => ∃ v',e = .returned v' ∧ fu w' w.heap.size v' (cat f 8) ∧ Below w.heap.size w w':=by
 have HX:=zh hx;have HR:=zh h;have HL:=zh (fun i (hi : i < 8) => h.n hi);have HC:=zh (fun n => Wm f n)
 have HM:=zh (fun n (hn : n ≤ 8) => show (cat f n).length ≤ 1000000 from by
  have:=zFB f (8 - n) n
  rw [show n + (8 - n) = 8 by omega] at this
  omega)
 have HG:=zh (fun n hn W => zKR n hn W);have HE:=zh (fun i => show cat f (i + 1) = cat f i ++ f i from rfl);clear hx h hs
 go_enter Tryz.func133,Tryz.ntmps133
 go_wp2_with fail
 go_loopw [3,11] (fun lv iv W => ∃ i : Nat,iv = .int .i64 (i : Int) ∧ i ≤ 8 ∧ lv = .int .i64 ((cat f i).length : Int) ∧ w = W) (fun _ iv _ => 8 - (intOf iv).toNat)
 case atStart => exact ⟨0,rfl,aq _,rfl,rfl⟩
 obtain ⟨i,rfl,hi,rfl,rfl⟩:=hrel
 by_cases hin : i < 8
 ·
  have i1 : (i : Int) < 8:=by omega
  have ci:=HX.out.c i hin;have DR : s.v i = .slice (s.a i) (s.n i) (s.c i):=rfl;rw [DR,HL.out i hin] at ci;have hm:=HM.out (i + 1) (by omega);have hc:=HC.out i;rw [hc] at hm;have Ko:=zh hc;generalize (cat f i).length = p at *;generalize (f i).length = q at *;have hw : IntKind.i64.wrap ((p : Int) + (q : Int)) = ((p + q : Nat) : Int):=(aF _ (by omega)).trans (by omega);have hneg : decide (((p + q : Nat) : Int) < 0) = false:=by simp; omega
  clear DR hc;go_wp2_with fail;exact ⟨⟨i + 1,by go_num,by omega,by rw [Ko.out,cH],trivial⟩,by simp [intOf]; omega⟩
 obtain rfl : i = 8:=by omega
 have HGr:=zh (HG.out (cat f 8).length (HM.out 8 (ai _)) w);generalize (cat f 8).length = tot at *;go_wp2_with fail;refine HGr.out.mono ?_; rintro e w1 ⟨v1,rfl,hown1,hb1⟩;have lZ:=zh hown1;have eW:=zh hb1;clear hown1 hb1 HGr;go_wp2_with fail
 go_loopw [6,27] (fun ov iv W => ∃ i : Nat,iv = .int .i64 (i : Int) ∧ i ≤ 8 ∧ Hid (W.ownsRow w.heap.size 49 4 ov (cat f i).length (zU (cat f i))) ∧ Hid (Below w.heap.size w W)) (fun _ iv _ => 8 - (intOf iv).toNat)
 case atStart => exact ⟨0,rfl,aq _,lZ,eW⟩
 obtain ⟨i,rfl,hi,HO,HB⟩:=hrel
 by_cases hin : i < 8
 ·
  have i1 : (i : Int) < 8:=by omega
  have ci:=Below.keeps HB.out _ _ (HX.out.c i hin);have ja:=zh ((HR.out i hin).below HB.out);have DR : s.v i = .slice (s.a i) (s.n i) (s.c i):=rfl;rw [DR,HL.out i hin] at ci ja;have hm:=HM.out (i + 1) (by omega);rw [HC.out i] at hm;have Kq:=zh (HE.out i);have hone:=zp (f i);have l6:=zh hone;have hsz:=HB.out.size;have h_:=zh (show Rd wr 4 (.slice (s.a i) (f i).length (s.c i)) (f i).length (zU (f i)) from t6 ja.out);clear DR hone;go_wp2_with (at_builtin; refine zi (n:=(cat f i).length) (m:=(f i).length) rfl (.tmp 31) (.tmp 32) 33 rfl yI w.heap.size rfl HO.out rfl h_.out l6.out (by unfold maxLen; omega) (by omega) hsz ?_; intro v4 w4 fp gO hv4; clear hv4; have jx:=zh (show fu w4 w.heap.size v4 (cat f (i + 1)) from yO fp (by rw [Kq.out,zt])); have fZ:=zh (zL HB.out HO.out hsz gO); clear fp gO);exact ⟨⟨i + 1,by go_num,by omega,jx,fZ⟩,by simp [intOf]; omega⟩
 obtain rfl : i = 8:=by omega
 go_wp2_with fail;go_ret;exact ⟨_,rfl,HO.out,HB.out⟩
end Go.Proofs.YtcgfilmmokmdjaaGreat
