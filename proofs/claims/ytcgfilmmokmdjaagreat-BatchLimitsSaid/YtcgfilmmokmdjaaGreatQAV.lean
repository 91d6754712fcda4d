/- A part of the walk. -/
import Derived.Test.YtcgfilmmokmdjaaGreatQAU
import Derived.Test.YtcgfilmmokmdjaaGreatQAI
import Derived.Test.YtcgfilmmokmdjaaGreatQAQ
import Derived.Test.YtcgfilmmokmdjaaGreatBe
import Derived.Test.YtcgfilmmokmdjaaGreatQAS
import Derived.Test.YtcgfilmmokmdjaaGreatQAO
import Derived.RangeFuncNested
import Derived.Test.YtcgfilmmokmdjaaGreatQAT
import Derived.Test.YtcgfilmmokmdjaaGreatQAR
set_option linter.all false
set_option maxRecDepth 100000
set_option maxHeartbeats 32000000
namespace Go.Proofs.YtcgfilmmokmdjaaGreat
open Go.RowKit
theorem zFM {ks : List KP} {i : Nat} (hi : i ≤ ks.length) : (ks.flatMap klC).take (i * 2) = (ks.take i).flatMap klC ∧ (ks.flatMap klC).drop (i * 2) = (ks.drop i).flatMap klC := by
 have e : ks.flatMap klC = (ks.take i).flatMap klC ++ (ks.drop i).flatMap klC := by rw [← List.flatMap_append, List.take_append_drop]
 have hl : ((ks.take i).flatMap klC).length = i * 2 := by rw [yK 2 klC _ (fun x _ => uJ x), List.length_take, Nat.min_eq_left hi]
 rw [e];exact ⟨List.take_left' hl, List.drop_left' hl⟩
theorem OwnKs.ins {W W' : World} {B : Nat} {v v' : Value} {ks : List KP} (h : OwnKs W B v ks) {i : Nat} (hi : i ≤ ks.length) (num : Int)
  (ho : W'.ownsRow B 89 2 v' (ks.length + 1) ((ks.flatMap klC).take (i * 2) ++ klC (num, .slice none 0 0, []) ++ (ks.flatMap klC).drop (i * 2))) (hg : W.grownBy W' v.ownBlock) :
  OwnKs W' B v' (ks.take i ++ (num, .slice none 0 0, []) :: ks.drop i) := by
 have hO := OthR.row h.row hg (Nat.le_refl B);obtain ⟨e1, e2⟩ := zFM hi;have hmem : ∀ p ∈ ks.take i ++ (num, .slice none 0 0, []) :: ks.drop i, p ∈ ks ∨ p = (num, .slice none 0 0, []) := fun p hp => by
  rcases List.mem_append.1 hp with hp | hp
  ·
   exact .inl (List.mem_of_mem_take hp)
  rcases List.mem_cons.1 hp with rfl | hp
  ·
   exact .inr rfl
  exact .inl (List.mem_of_mem_drop hp)
 refine ⟨?_, fun p hp => ?_, ?_⟩
 ·
  have el : (ks.take i ++ (num, .slice none 0 0, []) :: ks.drop i).length = ks.length + 1 := by
   rw [List.length_append, List.length_cons, List.length_take, List.length_drop]; omega
  have ef : (ks.take i ++ (num, .slice none 0 0, []) :: ks.drop i).flatMap klC = (ks.flatMap klC).take (i * 2) ++ klC (num, .slice none 0 0, []) ++ (ks.flatMap klC).drop (i * 2) := by
   rw [List.flatMap_append, List.flatMap_cons, e1, e2, List.append_assoc]
  rw [el, ef]; exact ho
 ·
  rcases hmem p hp with hp | rfl
  ·
   exact xl (h.keys p hp) hO (by decide)
  exact World.ownsRow_nil _ _ _ _
 rw [List.pairwise_append, List.pairwise_cons];refine ⟨h.apart.sublist (List.take_sublist _ _), ⟨fun y _ => .inl rfl, h.apart.sublist (List.drop_sublist _ _)⟩, fun x hx y hy => ?_⟩;rcases List.mem_cons.1 hy with rfl | hy
 ·
  by_cases e : x.2.1.ownBlock = none
  ·
   exact .inl e
  exact .inr e
 have e : ks = ks.take i ++ ks.drop i := (List.take_append_drop i ks).symm;have := h.apart;rw [e, List.pairwise_append] at this;exact this.2.2 x hx y hy
theorem zCU {l : List KP} {i : Nat} (h : i < l.length) : l[i] = kat l i := by
 unfold kat; rw [List.getD_eq_getElem?_getD, List.getElem?_eq_getElem h]; rfl
theorem OwnKs.put {W W1 : World} {B g n cap k : Nat} {ks : List KP} (h : OwnKs W B (.slice (some ⟨g, 0, none⟩) n cap) ks) (hk : k < ks.length) {num : Int} (hnum : (kat ks k).1 = num) {v2 : Value} {l2 : List Int}
  (ho : W1.ownsRow B 24 1 v2 l2.length (l2.map zHw)) (hg : W.grownBy W1 (kat ks k).2.1.ownBlock) (hat : v2.ownBlock = (kat ks k).2.1.ownBlock ∨ v2.ownBlock = some W.heap.size) :
  OwnKs (W1.setCell ⟨g, k * 2 + 1, none⟩ v2) B (.slice (some ⟨g, 0, none⟩) n cap) (ks.set k (num, v2, l2)) ∧ Oth W1 (W1.setCell ⟨g, k * 2 + 1, none⟩ v2) B g 89 := by
 have hlen : n = ks.length := by
  rcases h.row.2 with ⟨e, _⟩ | ⟨_, _, _, e, _⟩
  ·
   cases e
  injection e
 have hO := OthR.row (h.keys _ (zAQ hk)) hg (Nat.le_refl B);have hrow1 : W1.ownsRow B 89 2 (.slice (some ⟨g, 0, none⟩) n cap) ks.length (ks.flatMap klC) := xl h.row hO (by decide);have hgB : B ≤ g := (hrow1.lt g rfl).1;have hty := Lib.ownsRow_kind hrow1 g rfl;have hO2 : Oth W1 (W1.setCell ⟨g, k * 2 + 1, none⟩ v2) B g 89 := Oth.pts hgB hty [(k * 2 + 1, v2)];refine ⟨⟨?_, fun p hp => ?_, ?_⟩, hO2⟩
 ·
  subst hlen;have h1 := (hrow1.stored (k * 2) (.int .i64 num)).1;have hsame : (ks.flatMap klC).set (k * 2) (.int .i64 num) = ks.flatMap klC := by
   refine List.ext_getElem? fun j => ?_
   rw [List.getElem?_set]
   by_cases e : k * 2 = j
   ·
    subst e;rw [if_pos rfl];have hl : (ks.flatMap klC).length = ks.length * 2 := yK 2 klC _ (fun x _ => uJ x);rw [if_pos (by omega)];have h2 := ua 2 klC (0, .slice none 0 0, []) ks (fun x _ => uJ x) k 0 hk (by decide);rw [Nat.add_zero] at h2;rw [h2];rw [← hnum]
    rfl
   rw [if_neg e]
  have h3 := (hrow1.stored (k * 2 + 1) v2).1;have h4 := zB5 2 klC uJ ks k hk (num, v2, l2);have h5 : zHK (ks.flatMap klC) (k * 2) (klC (num, v2, l2)) = (ks.flatMap klC).set (k * 2 + 1) v2 := by
   show ((ks.flatMap klC).set (k * 2) (.int .i64 num)).set (k * 2 + 1) v2 = _
   rw [hsame]
  rw [← h5, h4] at h3;rw [List.length_set];exact h3
 ·
  rcases List.mem_iff_getElem.1 hp with ⟨j, hj, rfl⟩;rw [List.length_set] at hj;rw [List.getElem_set]
  split
  ·
   exact xU ho hO2 (by decide)
  rename_i hne;have hap : (ks[j]).2.1.ownBlock = none ∨ (ks[j]).2.1.ownBlock ≠ (kat ks k).2.1.ownBlock := by
   rw [← zCU hk];rcases Nat.lt_or_gt_of_ne hne with h1 | h1
   ·
    rcases List.pairwise_iff_getElem.1 h.apart k j hk hj h1 with h2 | h2
    ·
     by_cases e : (ks[j]).2.1.ownBlock = none
     ·
      exact .inl e
     exact .inr (by rw [h2]; exact e)
    exact .inr h2.symm
   exact List.pairwise_iff_getElem.1 h.apart j k hj hk h1
  exact xU (World.ownsRow.kept (h.keys _ (List.getElem_mem hj)) hg hap) hO2 (by decide)
 have hlt : ∀ j (hj : j < ks.length) x, (ks[j]).2.1.ownBlock = some x → x < W.heap.size := fun j hj x hx => ((h.keys _ (List.getElem_mem hj)).lt x hx).2
 rw [List.pairwise_iff_getElem];intro i j hi hj hij;rw [List.length_set] at hi hj;have hap := List.pairwise_iff_getElem.1 h.apart i j hi hj hij;rw [List.getElem_set, List.getElem_set]
 split
 ·
  rename_i e1;subst e1
  split
  ·
   omega
  show v2.ownBlock = none ∨ v2.ownBlock ≠ (ks[j]).2.1.ownBlock
  rcases hat with hat | hat
  ·
   rw [hat, ← zCU hk]; exact hap
  rw [hat];exact .inr fun e => by have := hlt j hj _ e.symm; omega
 split
 ·
  rename_i e1 e2;subst e2
  show (ks[i]).2.1.ownBlock = none ∨ (ks[i]).2.1.ownBlock ≠ v2.ownBlock
  rcases hat with hat | hat
  ·
   rw [hat, ← zCU hk]; exact hap
  rw [hat];exact .inr fun e => by have := hlt i hi _ e; omega
 exact hap
end Go.Proofs.YtcgfilmmokmdjaaGreat
namespace Go.Proofs.YtcgfilmmokmdjaaGreat
open Go.RowKit
theorem zLA {ks : List KP} {l : List Kl} {num key : Int} {I : Nat} (e : kls ks = l) (hI : klI l num = I) (h : I < l.length ∧ (ye l I).1 = num) :
  I < ks.length ∧ (kat ks I).1 = num ∧ (kls ks).set I (num, (kat ks I).2.2 ++ [key]) = zBV l num key := by
 subst e hI;have h1 := zDW (key := key) h;have h2 := zEX (l := ks) (klI (kls ks) num);refine ⟨by rw [← uH]; exact h.1, by have := h.2; rw [h2] at this; exact this, ?_⟩;rw [h1, h2]
theorem zJi {ks : List KP} {l : List Kl} {num key : Int} {I : Nat} (e : kls ks = l) (hI : klI l num = I) (h : ¬ (I < l.length ∧ (ye l I).1 = num)) :
  I < (ks.take I ++ (num, .slice none 0 0, []) :: ks.drop I).length ∧ kat (ks.take I ++ (num, .slice none 0 0, []) :: ks.drop I) I = (num, .slice none 0 0, []) ∧
   (kls (ks.take I ++ (num, .slice none 0 0, []) :: ks.drop I)).set I (num, [] ++ [key]) = zBV l num key := by
 subst e hI;have h1 := zBv (key := key) h;have hle : klI (kls ks) num ≤ ks.length := by rw [← uH]; exact zE4 _ _
 have ht : (ks.take (klI (kls ks) num)).length = klI (kls ks) num := by rw [List.length_take]; omega
 refine ⟨?_, ?_, ?_⟩
 ·
  rw [List.length_append, List.length_cons, ht]; omega
 ·
  unfold kat;rw [List.getD_eq_getElem?_getD, List.getElem?_append_right (by rw [ht]; exact Nat.le_refl _), ht, Nat.sub_self]
  rfl
 rw [h1];unfold kls;rw [List.map_append, List.map_cons, List.map_take, List.map_drop, List.set_append_right _ _ (by rw [List.length_take, List.length_map]; omega)]
 rw [show klI (List.map (fun p : KP => (p.1, p.2.2)) ks) num - ((ks.map fun p => (p.1, p.2.2)).take (klI (List.map (fun p : KP => (p.1, p.2.2)) ks) num)).length = 0 by
  rw [List.length_take, List.length_map]
  have : klI (List.map (fun p : KP => (p.1, p.2.2)) ks) num ≤ ks.length := hle
  omega]
 rfl
theorem zKK (ks : List KP) (k : Nat) (num : Int) (v : Value) (l : List Int) : kls (ks.set k (num, v, l)) = (kls ks).set k (num, l) := by
 unfold kls; rw [List.map_set]
section
variable {W W1 : World} {B b : Nat} {P : Pst} {ga : Option Addr} {gn gc : Nat} {L : List GP} {kv kv' : Value} {ks ks' : List KP} {nv : Value} {es : List (Nd × Value)} {rv : Value}
theorem PlR.kills (h : PlR W B P ga gn gc L kv ks nv es rv) (hk : OwnKs W B kv' ks') : PlR W B { P with kills := kls ks' } ga gn gc L kv' ks' nv es rv := ⟨h.g, h.gg, hk, rfl, h.n, h.nn, h.r⟩
theorem PlR.insR (h : PlR W B P ga gn gc L kv ks nv es rv) (hO : OthR W W1 B 89) (hk : OwnKs W1 B kv' ks') : PlR W1 B { P with kills := kls ks' } ga gn gc L kv' ks' nv es rv :=
 ⟨h.g.othR hO (by decide) (by decide), h.gg, hk, rfl, h.n.othR hO (by decide) (by decide), h.nn, xl h.r hO (by decide)⟩
theorem PlR.put {g n cap k : Nat} (h : PlR W B P ga gn gc L (.slice (some ⟨g, 0, none⟩) n cap) ks nv es rv) (hk : k < ks.length) {num : Int} (hnum : (kat ks k).1 = num) {v2 : Value} {l2 : List Int}
  (ho : W1.ownsRow B 24 1 v2 l2.length (l2.map zHw)) (hg : W.grownBy W1 (kat ks k).2.1.ownBlock) (hat : v2.ownBlock = (kat ks k).2.1.ownBlock ∨ v2.ownBlock = some W.heap.size) :
  PlR (W1.setCell ⟨g, k * 2 + 1, none⟩ v2) B { P with kills := (kls ks).set k (num, l2) } ga gn gc L (.slice (some ⟨g, 0, none⟩) n cap) (ks.set k (num, v2, l2)) nv es rv ∧ OthR W W1 B 24 ∧ Oth W1 (W1.setCell ⟨g, k * 2 + 1, none⟩ v2) B g 89 := by
 obtain ⟨h1, h2⟩ := h.k.put hk hnum ho hg hat;have hO : OthR W W1 B 24 := OthR.row (h.k.keys _ (zAQ hk)) hg (Nat.le_refl B);have hO2 : OthR W1 (W1.setCell ⟨g, k * 2 + 1, none⟩ v2) B 89 := .inr ⟨g, h2⟩;refine ⟨⟨(h.g.othR hO (by decide) (by decide)).othR hO2 (by decide) (by decide), h.gg, h1, zKK _ _ _ _ _, (h.n.othR hO (by decide) (by decide)).othR hO2 (by decide) (by decide), h.nn, xl (xl h.r hO (by decide)) hO2 (by decide)⟩, hO, h2⟩
end
theorem zHq (W : World) (x : Int) (k : Nat) (hk : W.heap.size = k) : ∀ j u, [Value.int .u64 x][j]? = some u → (World.drew (W.alloc (.cells #[.int .u64 x] 24))).cell? ((⟨k, 0, none⟩ : Addr).add j) = some u := by
 subst hk;intro j u hj;rw [yJ, Nat.zero_add]
 show (W.alloc (.cells #[.int .u64 x] 24)).cell? _ = some u
 rw [cell_of_row _ _ j _ _ (0, 0) (heap_alloc_new W _)];rw [← Array.getElem?_toList]; exact hj
theorem zKS {W : World} {B : Nat} {a : Option Addr} {n cap : Nat} {ks : List KP} (h : OwnKs W B (.slice a n cap) ks) {k : Nat} (hk : k < ks.length) : ∃ g, a = some ⟨g, 0, none⟩ ∧ n = ks.length ∧ B ≤ g ∧ g < W.heap.size ∧ W.cell? ⟨g, k * 2 + 1, none⟩ = some (kat ks k).2.1 := by
 have hr : RdKs W (.slice a n cap) ks := ⟨fun x _ => uJ x, zv h.row⟩
 have hn := hr.len;obtain ⟨b, off, e, _, hc⟩ := hr.at (j := k) (by omega);rcases h.row.2 with ⟨e2, _⟩ | ⟨g, c, cur, e2, hB, hg, _⟩
 ·
  cases e2; cases e
 injection e2 with e2 e3 e4;rw [e] at e2;injection e2 with e2;injection e2 with e2 e5;subst e2 e5;refine ⟨b, e, e3, hB, (Array.getElem?_eq_some_iff.1 hg).1, ?_⟩;rw [Nat.zero_add] at hc; exact hc
end Go.Proofs.YtcgfilmmokmdjaaGreat
namespace Go.Proofs.YtcgfilmmokmdjaaGreat
open Go.RowKit Go.Shelf
attribute [local go_sem] Oper.semAt_some
abbrev fdV (x : Fnd) : Value := .agg #[.int .i64 x.gen, .int .i64 x.mode, .int .i64 x.rev, .int .u64 x.it.key, .int .u32 x.it.ck, .int .i64 x.it.off, .int .i64 x.it.size, .int .i64 (x.at_ : Int)]
structure FAt (W : World) (b o : Nat) (x : Fnd) : Prop where
 c0 : W.cell? ⟨b, o, none⟩ = some (.int .i64 x.gen)
 c1 : W.cell? ⟨b, o + 1, none⟩ = some (.int .i64 x.mode)
 c2 : W.cell? ⟨b, o + 2, none⟩ = some (.int .i64 x.rev)
 c3 : W.cell? ⟨b, o + 3, none⟩ = some (.int .u64 x.it.key)
 c4 : W.cell? ⟨b, o + 4, none⟩ = some (.int .u32 x.it.ck)
 c5 : W.cell? ⟨b, o + 5, none⟩ = some (.int .i64 x.it.off)
 c6 : W.cell? ⟨b, o + 6, none⟩ = some (.int .i64 x.it.size)
 c7 : W.cell? ⟨b, o + 7, none⟩ = some (.int .i64 (x.at_ : Int))
theorem FAt.below {W W' : World} {b o : Nat} {x : Fnd} (h : FAt W b o x) (hb : Below W.heap.size W W') : FAt W' b o x := ⟨hb.keeps' h.c0, hb.keeps' h.c1, hb.keeps' h.c2, hb.keeps' h.c3, hb.keeps' h.c4, hb.keeps' h.c5, hb.keeps' h.c6, hb.keeps' h.c7⟩
def fat (l : List Fnd) (i : Nat) : Fnd := l.getD i uU
theorem RdFd.at {w : World} {a : Option Addr} {n c : Nat} {l : List Fnd} (h : RdFd w (.slice a n c) l) : n = l.length ∧ (0 < n → ∃ b off, a = some ⟨b, off, none⟩ ∧ ∀ j, j < n → FAt w b (off + j * 8) (fat l j)) := by
 obtain ⟨a', cap', e, _, _, _, h5⟩ := RdS.shape h (by decide) uU;injection e with e1 e2 e3;subst e1 e2 e3;refine ⟨rfl, fun hp => ?_⟩;obtain ⟨b, off, e, hc⟩ := h5 hp;refine ⟨b, off, e, fun j hj => ?_⟩;have g := fun i u hu => hc j hj i u hu
 exact ⟨by have := g 0 _ rfl; simpa [Nat.add_assoc, fat] using this, by have := g 1 _ rfl; simpa [Nat.add_assoc, fat] using this, by have := g 2 _ rfl; simpa [Nat.add_assoc, fat] using this, by have := g 3 _ rfl; simpa [Nat.add_assoc, fat] using this, by have := g 4 _ rfl; simpa [Nat.add_assoc, fat] using this, by have := g 5 _ rfl; simpa [Nat.add_assoc, fat] using this, by have := g 6 _ rfl; simpa [Nat.add_assoc, fat] using this, by have := g 7 _ rfl; simpa [Nat.add_assoc, fat] using this⟩
def KpF (b Bs : Nat) (W W' : World) : Prop := ∀ p : Addr, (p.block = b ∨ p.block = Bs) → ∀ v, W.cell? p = some v → W'.cell? p = some v
theorem KpF.refl (b Bs : Nat) (W : World) : KpF b Bs W W := fun _ _ _ h => h
theorem KpF.trans {b Bs : Nat} {A B C : World} (h : KpF b Bs A B) (k : KpF b Bs B C) : KpF b Bs A C := fun p hp v hv => k p hp v (h p hp v hv)
theorem KpF.put {b Bs : Nat} {w : World} (hb : b < w.heap.size) (hB : Bs < w.heap.size) (W : World) (l : Nat) (o o' : Obj) (hl : w.heap.size ≤ l) (h : W.heap[l]? = some o) (h1 : o.isCells = false) (h2 : o.isWalk = false) : KpF b Bs W (W.putObj l o') := fun p hp v hv =>
 ((belowK_b (n₀ := p.block + 1) (w := w) (by rcases hp with e | e <;> omega) W l o o' hl h h1 h2).cell (p := p) (Nat.lt_succ_self _)).trans hv
theorem KpF.below {b Bs : Nat} {W W' : World} (h : Below W.heap.size W W') : KpF b Bs W W' := fun _ _ _ hv => h.keeps' hv
theorem zGq (F : Fence) (n : Nat) (hf : F.fn 211) (hro : F.round = none) (hn : 1 ≤ n) (l Bs b off len cap : Nat) (a : Option Addr) (ha : 0 < len → a = some ⟨b, off, none⟩) (L : List Fnd) (hlen : len ≤ 8) (J Jx : List Nat → World → Prop)
  (hY : ∀ pre (x : Nat) W, J pre W → pre.length < len → YieldAt F (n - 1) Tryz.prog l #[.int .i64 (x : Int), fdV (fat L x)] W fun e W' =>
   (e = .returned (.bool true) ∧ J (pre ++ [x]) W' ∧ KpF b Bs W W') ∨ (e = .returned (.bool false) ∧ Jx (pre ++ [x]) W'))
  (W : World) (hBs : W.cell? ⟨Bs, 0, none⟩ = some (.slice a len cap)) (hc : ∀ j, j < len → FAt W b (off + j * 8) (fat L j)) (h0 : J [] W) :
  CallsIn F n Tryz.prog 211 #[.func (.yield l) #[] #[], .pointer (some ⟨Bs, 0, none⟩)] W fun e W' => (∃ v, e = .returned v) ∧
   ((∃ ys, ys = yV len len ∧ J ys W') ∨ (∃ pre, (∃ k, k ≤ len ∧ pre = yV len k) ∧ Jx pre W')) := by
 refine callsIn_of_wp Tryz.func211 rfl hf ?_ hro;simp only [Tryz.ntmps211, List.size_toArray, List.length_cons, List.length_nil, Nat.reduceAdd, Nat.reduceSub, Array.replicate_succ, Array.replicate_zero, List.push_toArray, List.append_toArray, List.nil_append, List.cons_append]
 gi_wp2
 gi_loopw [3] (fun i wr => ∃ k : Nat, k ≤ len ∧ i = .int .i64 ((len : Int) - 1 - (k : Int)) ∧ J (yV len k) wr ∧ KpF b Bs W wr)
  (fun i _ => (intOf i + 1).toNat)
 case atStart => exact ⟨0, Nat.zero_le _, by simp [IntWalk.i64_in _ (show -9223372036854775808 ≤ (len : Int) - 1 ∧ (len : Int) - 1 ≤ 9223372036854775807 by omega)], h0, KpF.refl _ _ _⟩
 obtain ⟨k, hk, rfl, hJs, hnx⟩ := hrel;have hBk := hnx ⟨Bs, 0, none⟩ (.inr rfl) _ hBs
 by_cases hlt : k < len
 ·
  obtain ⟨j, hj⟩ : ∃ j, k + 1 + j = len := ⟨len - 1 - k, by omega⟩
  have hjk : len - 1 - k = j := by omega
  obtain ⟨fn, tmps, assign, body, hy, hR⟩ := hY _ (len - 1 - k) wr hJs (by rw [wV]; exact hlt);have ej : (len : Int) - 1 - (k : Int) = (j : Int) := by omega
  rw [ej];rw [hjk] at hy hR;have i2 : (j : Int) < (len : Int) := by omega
  have ha' := ha (by omega);subst ha';have g0 := hnx ⟨b, off + j * 8, none⟩ (.inl rfl) _ (hc j (by omega)).c0;have g1 := hnx ⟨b, off + j * 8 + 1, none⟩ (.inl rfl) _ (hc j (by omega)).c1;have g2 := hnx ⟨b, off + j * 8 + 2, none⟩ (.inl rfl) _ (hc j (by omega)).c2;have g3 := hnx ⟨b, off + j * 8 + 3, none⟩ (.inl rfl) _ (hc j (by omega)).c3;have g4 := hnx ⟨b, off + j * 8 + 4, none⟩ (.inl rfl) _ (hc j (by omega)).c4;have g5 := hnx ⟨b, off + j * 8 + 5, none⟩ (.inl rfl) _ (hc j (by omega)).c5;have g6 := hnx ⟨b, off + j * 8 + 6, none⟩ (.inl rfl) _ (hc j (by omega)).c6;have g7 := hnx ⟨b, off + j * 8 + 7, none⟩ (.inl rfl) _ (hc j (by omega)).c7
  gi_wp2
  refine hR.mono ?_;rintro e W3 (⟨rfl, hJ3, hk3⟩ | ⟨rfl, hJx3⟩)
  ·
   gi_wp2
   go_roundw
   case rel => exact ⟨k + 1, by omega, by first | (simp; done) | (simp; omega), by rw [vj, hjk]; exact hJ3, hnx.trans hk3⟩
   case measure => first | (simp [intOf]; done) | (simp [intOf]; omega)
  gi_wp2
  refine bodyPost_ret (results_none rfl _ _ _) rfl ?_;exact ⟨⟨_, rfl⟩, .inr ⟨_, ⟨k + 1, by omega, by rw [vj, hjk]⟩, hJx3⟩⟩
 obtain rfl : k = len := by omega
 have ej : (k : Int) - 1 - (k : Int) = -1 := by omega
 rw [ej]
 gi_wp2
 go_end0;exact ⟨⟨_, rfl⟩, .inl ⟨_, rfl, hJs⟩⟩
theorem zBZ (a : Option Addr) (n c : Nat) (w : World) : Calls Tryz.prog 200 #[.slice a n c] w fun e w' => e = .returned (.func (.func 211) #[] #[.pointer (some ⟨w.heap.size, 0, none⟩)]) ∧ w' = w.alloc (.cells #[.slice a n c] 135) := by
 go_enter Tryz.func200, Tryz.ntmps200
 go_wp2_with fail;go_ret;exact ⟨rfl, rfl⟩
theorem zDr (F : Fence) (n : Nat) (hf : F.fn 211) (hro : F.round = none) (hn : 1 ≤ n) (Bs b off len cap : Nat) (a : Option Addr) (ha : 0 < len → a = some ⟨b, off, none⟩) (L : List Fnd) (hlen : len ≤ 8) (w : World)
  (hBs : w.cell? ⟨Bs, 0, none⟩ = some (.slice a len cap)) (hc : ∀ j, j < len → FAt w b (off + j * 8) (fat L j)) :
  SeqStopsK F n Tryz.prog 211 #[.pointer (some ⟨Bs, 0, none⟩)] (fun x : Nat => #[.int .i64 (x : Int), fdV (fat L x)]) (KpF b Bs) (fun ys => ys = yV len len) (fun pre => ∃ k, k ≤ len ∧ pre = yV len k) len w := fun l J Jx W hW _ _ hY h0 =>
 zGq F n hf hro hn l Bs b off len cap a ha L hlen J Jx hY W (hW.keeps' hBs) (fun j hj => (hc j hj).below hW) h0
end Go.Proofs.YtcgfilmmokmdjaaGreat
namespace Go.Proofs.YtcgfilmmokmdjaaGreat
open Go.RowKit Go.Shelf
attribute [local go_sem] Oper.semAt_some
def vS (F : List Fnd) (n : Nat) (pre : List Nat) : List Int := pre.flatMap fun x => if ((fat F x).at_ : Int) ≠ (n : Int) - 1 then [(fat F x).gen] else []
theorem zI6 {F : List Fnd} {n : Nat} (pre : List Nat) {x : Nat} (h : ((fat F x).at_ : Int) ≠ (n : Int) - 1) : vS F n (pre ++ [x]) = vS F n pre ++ [(fat F x).gen] := by simp [vS, h]
theorem zGI {F : List Fnd} {n : Nat} (pre : List Nat) {x : Nat} (h : ((fat F x).at_ : Int) = (n : Int) - 1) : vS F n (pre ++ [x]) = vS F n pre := by simp [vS, h]
theorem zHb (F : List Fnd) (n : Nat) (pre : List Nat) : (vS F n pre).length ≤ pre.length := by
 induction pre with
 | nil => exact Nat.le_refl _
 | cons x pre ih =>
  have e : vS F n (x :: pre) = (if ((fat F x).at_ : Int) ≠ (n : Int) - 1 then [(fat F x).gen] else []) ++ vS F n pre := rfl;rw [e, List.length_append, List.length_cons]
  split <;> simp <;> omega
theorem zE7 (F : List Fnd) : (yV F.length F.length).map (fat F) = F.reverse := by
 refine List.ext_getElem (by simp [wV]) fun j h1 h2 => ?_
 simp only [List.length_map, wV] at h1;simp [yV, fat, List.getElem_reverse, List.getD_eq_getElem?_getD];rw [List.getElem?_eq_getElem (by omega)]
 rfl
theorem zHo {s : Slt} (key : Int) : vS (yI s key) s.gens.length (yV (yI s key).length (yI s key).length) = zj s key := by
 have e1 : vS (yI s key) s.gens.length (yV (yI s key).length (yI s key).length) = ((yV (yI s key).length (yI s key).length).map (fat (yI s key))).flatMap fun x => if (x.at_ : Int) ≠ (s.gens.length : Int) - 1 then [x.gen] else [] := by
  unfold vS; rw [List.flatMap_map]
 rw [e1, zE7];unfold zj
 cases hv : zg s with
 | false => rw [zAw hv]; rfl
 | true =>
  rw [if_pos rfl];have hn := ((zT _).1 hv).len.1;have e2 : yI s key = xb s.gens key s.gens.length := by unfold yI; rw [if_pos hv]
  rw [e2, ← zA0 s.gens key s.gens.length (s.gens.length - 1) (by omega)];have hb := zAj (l := s.gens) (key := key) s.gens.length;have hq : ∀ M : List Fnd, (∀ x ∈ M, x.at_ < s.gens.length) → (M.flatMap fun x => if (x.at_ : Int) ≠ (s.gens.length : Int) - 1 then [x.gen] else []) = (M.filter fun x => decide (x.at_ < s.gens.length - 1)).map (·.gen) := by
   intro M
   induction M with
   | nil => intro _; rfl
   | cons x M ih =>
    intro hM;have hx := hM x (List.mem_cons_self ..);rw [List.flatMap_cons, ih fun y hy => hM y (List.mem_cons_of_mem _ hy)]
    by_cases hc : x.at_ < s.gens.length - 1
    ·
     rw [if_pos (by omega), List.filter_cons_of_pos (by simpa using hc)]; rfl
    rw [if_neg (by omega), List.filter_cons_of_neg (by simpa using hc)]; rfl
  exact hq _ fun x hx => hb x (List.mem_reverse.1 hx)
theorem zGY (s : Slt) (key : Int) : (yI s key).length ≤ 8 := by
 cases hv : zg s with
 | false => rw [zAw hv]; exact Nat.zero_le _
 | true =>
  have e2 : yI s key = xb s.gens key s.gens.length := by unfold yI; rw [if_pos hv]
  rw [e2];exact Nat.le_trans (zDe _ _ _) ((zT _).1 hv).len.2
theorem zF8 {β : Type} (B : Nat) (t : TypeId) (cs : β → Array Value) : Own (fun s W => BlkE W B (cs s) t) := fun s X Y row hs hg hrow => by
 have hs' : X.heap[B]? = some (.cells (cs s) t (0, 0)) := hs;exact (hg.block B (Array.getElem?_eq_some_iff.1 hs').1 (fun e' => by obtain ⟨o, ho, hc⟩ := hrow B e'.symm; rw [hs'] at ho; cases ho; cases hc)).trans hs'
theorem zKU {β : Type} (n₀ : Nat) (e : TypeId) (size : Nat) (v : β → Value) (k : β → Nat) (f : β → List Value) : Own (fun s W => W.ownsRow n₀ e size (v s) (k s) (f s)) := by
 rintro s X Y row hr hg hrow;refine hr.kept hg ?_;rcases hr.2 with ⟨h1, _⟩ | ⟨g, cap, cur, h1, _, hgb, _⟩
 ·
  exact .inl (by rw [h1]; rfl)
 refine .inr fun e' => ?_
 obtain ⟨o, ho, hc⟩ := hrow g (by rw [h1] at e'; simpa [Value.ownBlock] using e'.symm);rw [hgb] at ho; cases ho; cases hc
theorem zBH {W : World} {n n' sz sz' k k' : Nat} {e e' : TypeId} {v v' : Value} {xs xs' : List Value} (h : W.ownsRow n e sz v k xs) (h' : W.ownsRow n' e' sz' v' k' xs') (he : e ≠ e') : v.ownBlock = none ∨ v.ownBlock ≠ v'.ownBlock := by
 rcases h.2 with ⟨h1, _⟩ | ⟨g, cap, cur, rfl, _, hgb, _⟩
 ·
  exact .inl (by rw [h1]; rfl)
 refine .inr ?_;rcases h'.2 with ⟨rfl, _⟩ | ⟨g2, cap2, cur2, rfl, _, hgb2, _⟩
 ·
  simp [Value.ownBlock]
 intro e3;obtain rfl : g = g2 := by simpa [Value.ownBlock] using e3
 rw [hgb] at hgb2;simp at hgb2;exact he hgb2.2
theorem BlkE.not_row {W : World} {B : Nat} {cs : Array Value} {t e : TypeId} (h : BlkE W B cs t) (hte : t ≠ e) {base size k : Nat} {v : Value} {xs : List Value} (hr : W.ownsRow base e size v k xs) : some B ≠ v.ownBlock := by
 rcases hr.2 with ⟨rfl, _⟩ | ⟨g, cap, cur, rfl, _, hgb, _⟩
 ·
  simp [Value.ownBlock]
 intro e';obtain rfl : B = g := by simpa [Value.ownBlock] using e'
 have := (show W.heap[B]? = _ from h).symm.trans hgb;simp at this;exact hte this.2
theorem zEq (i l : Int) (r : Bool) (a : Option Addr) (n c : Nat) (L : List GP) (w : World) (h : RdG w (.slice a n c) L) (hs : ∀ p ∈ L, ∀ j, j < 8 → (p.1.m.st j).length ≤ 10000) (key : Int) :
  Calls Tryz.prog 181 #[zhq i l r a n c, .int .u64 key] w fun e w' => ∃ v', e = .returned v' ∧ OwnI w' w.heap.size v' (zj ⟨i, l, r, gns L⟩ key) ∧ Below w.heap.size w w' := by
 have hSl := fun W (hb : Below w.heap.size w W) => zFT i l r a n c L W (h.below hb) hs key
 have hres := zHo (s := ⟨i, l, r, gns L⟩) key;have hF8 := zGY ⟨i, l, r, gns L⟩ key;have hnL : (gns L).length = n := by
  rw [zz]; obtain ⟨_, _, e, _⟩ := h.shape; injection e with _ e _; exact e.symm
 have hcap : n ≤ 9223372036854775807 := by
  show n ≤ maxLen
  obtain ⟨_, _, e, h1, h2⟩ := h.shape;injection e with _ e _;rw [e]; exact Nat.le_trans h1 h2
 dsimp only at hres;rw [hnL] at hres;generalize hF : yI ⟨i, l, r, gns L⟩ key = F at *;clear hF h hs hnL;rw [← hres];clear hres;obtain ⟨i0, hi, hz0, hz1, hz2⟩ := info_parts (P := Tryz.prog) (e := 3) (z := .int .i64 0) (size := 1) (bytes := 8) (by kernel_rfl);refine (callsIn_wide (n := 20)).1 (callsIn_of_wp_marks Tryz.func181 rfl trivial ?_ rfl);simp only [Tryz.ntmps181, List.size_toArray, List.length_cons, List.length_nil, Nat.reduceAdd, Nat.reduceSub, Array.replicate_succ, Array.replicate_zero, List.push_toArray, List.append_toArray, List.nil_append, List.cons_append];have hbox := BoxV.new w i l r a n c 27;have hbel := zP w i l r a n c 27;have hO := Boxed.new (w.alloc (.cells (zS i l r a n c) 27)) 233 (.slice none 0 0);rw [World.size_alloc] at hO;have hX := hbox.below ((Below.refl _ _).alloc (Nat.le_refl _) (.cells #[.slice none 0 0] 233))
 have hB1 := hbel.alloc (by simp) (.cells #[.slice none 0 0] 233);obtain ⟨k0, k1, k2, k3⟩ := hX.q
 gi_wp2_with (first | (refine ⟨trivial, ?_⟩; gi_at_call 62; refine (callsIn_wide.2 (hSl _ hB1)).mono ?_; rintro e w1 ⟨v, rfl, hown, hb1⟩; obtain ⟨av, cv, rfl, -, -, -, -⟩ := RdS.shape hown.rd (by decide) uU) | (refine ⟨trivial, ?_⟩; gi_at_call 200; refine (callsIn_wide.2 (zBZ _ _ _ _)).mono ?_; rintro e w' ⟨rfl, rfl⟩; clear k0 k1 k2 k3))
 clear hSl;have hpos := fun hp => tJ hown hp
 obtain ⟨b, off, hav, hbl, hbb, hrows⟩ : ∃ b off, (0 < F.length → av = some ⟨b, off, none⟩) ∧ b < w1.heap.size + 1 ∧ w.heap.size + 2 ≤ b ∧ ∀ j, j < F.length → FAt w1 b (off + j * 8) (fat F j) := by
  by_cases hp : 0 < F.length
  ·
   obtain ⟨g, hg1, hg2, hg3⟩ := hpos hp;obtain ⟨_, hq⟩ := RdFd.at hown.rd;obtain ⟨b, off, e1, hr⟩ := hq hp;rw [hg1] at e1;obtain ⟨rfl, rfl⟩ : b = g ∧ off = 0 := by injection e1 with e1; injection e1 with e1 e2; exact ⟨e1.symm, e2.symm⟩
   exact ⟨b, 0, fun _ => hg1, by omega, by simpa using hg2, hr⟩
  exact ⟨w1.heap.size, 0, fun h => absurd h hp, by omega, by have := hb1.size; simpa using this, fun j hj => absurd (Nat.lt_of_le_of_lt (Nat.zero_le _) hj) hp⟩
 have hS1 : BlkE w1 w.heap.size (zS i l r a n c) 27 := ((BlkE.new w _ _).below ((Below.refl _ _).alloc (Nat.le_refl _) _)).below hb1;have hO1 := hO.below hb1;have hB2 := zA hB1 hb1;have hF1 := hown;clear hb1 hX hbox hbel hB1 hO hown hpos;have hlz : w.heap.size + 2 ≤ w1.heap.size := by have := hO1.lt; omega
 obtain ⟨W0, hW0⟩ : ∃ W0, w1.alloc (.cells #[.slice av F.length cv] 135) = W0 := ⟨_, rfl⟩
 have bS : Boxed W0 w1.heap.size 135 (.slice av F.length cv) := by rw [← hW0]; exact Boxed.new w1 _ _
 have bO : Boxed W0 (w.heap.size + 1) 233 (.slice none 0 0) := by rw [← hW0]; exact hO1.alloc _
 have bX : BlkE W0 w.heap.size (zS i l r a n c) 27 := by rw [← hW0]; exact hS1.below ((Below.refl _ _).alloc (Nat.le_refl _) _)
 have bF : W0.ownsRow (w.heap.size + 2) 138 8 (.slice av F.length cv) F.length (F.flatMap fdC) := by
  rw [← hW0];have := hF1.alloc (.cells #[.slice av F.length cv] 135)
  simpa using this
 have hB3 : Below w.heap.size w W0 := by rw [← hW0]; exact hB2.alloc hB2.size _
 have hsz : W0.heap.size = w1.heap.size + 1 := by rw [← hW0]; simp
 have hrows0 : ∀ j, j < F.length → FAt W0 b (off + j * 8) (fat F j) := by rw [← hW0]; exact fun j hj => (hrows j hj).below ((Below.refl _ _).alloc (Nat.le_refl _) _)
 rw [hW0];clear hW0 hS1 hO1 hF1 hB2 hrows;generalize w1.heap.size = Bs at *;clear w1;refine wpIn_rangeFunc_ownH rfl (by decide) (gf := 211) (lb := #[.pointer (some ⟨Bs, 0, none⟩)]) rfl trivial (enters_of Tryz.func211 (by kernel_rfl) rfl)
  (zDr Fence.wide (20 - 1) trivial rfl (by decide) Bs b off F.length cv av hav F hF8 W0 bS.cell hrows0) KpF.trans (KpF.put (by omega) (by omega)) (Below.refl _ _) (fun _ => rfl)
  (fun pre W => (((∃ v, Boxed W (w.heap.size + 1) 233 v ∧ W.ownsRow w.heap.size 3 1 v (vS F n pre).length ((vS F n pre).map zBc) ∧ True) ∧ W.ownsRow (w.heap.size + 2) 138 8 (.slice av F.length cv) F.length (F.flatMap fdC)) ∧ BlkE W w.heap.size (zS i l r a n c) 27 ∧ Boxed W Bs 135 (.slice av F.length cv)) ∧ Below w.heap.size w W)
  (fun _ _ _ => False)
  (OwnFrom.and (OwnFrom.and (OwnFrom.and (Own.from (holdsRow_own w.heap.size (w.heap.size + 1) 233 3 1 (fun pre => (vS F n pre).length) (fun pre => (vS F n pre).map zBc) (fun _ _ => True)) _) (Own.from (zKU (w.heap.size + 2) 138 8 (fun _ => .slice av F.length cv) (fun _ => F.length) (fun _ => F.flatMap fdC)) _)) (OwnFrom.and (Own.from (zF8 _ _ _) _) (Own.from (boxed_own _ _ _) _))) (ownFrom_below (Nat.le_refl _) (by omega)))
  (fun _ _ _ _ _ hs _ _ => hs)
  ⟨⟨⟨⟨_, bO, World.ownsRow_nil _ _ _ _, trivial⟩, bF⟩, bX, bS⟩, hB3⟩
  (fun x a' W => ∃ Bx, Bs < Bx ∧ b < Bx ∧ BlkE W Bx (fdC (fat F x)).toArray 138 ∧ a' = { tmps := #[zhq i l r a n c, .int .u64 key, .pointer (some ⟨w.heap.size, 0, none⟩), undef, .slice none 0 0, .pointer (some ⟨w.heap.size + 1, 0, none⟩), undef, .pointer (some ⟨Bx, 0, none⟩), zhq i l r a n c, .int .u64 key, .slice av F.length cv, .func (.func 211) #[] #[.pointer (some ⟨Bs, 0, none⟩)], .int .i64 (x : Int), fdV (fat F x), undef, undef, undef, undef, undef, undef, undef, undef, undef, undef, undef, undef, undef, undef], defers := [] })
  (fun x a' _ X Y row hs hg hr => by obtain ⟨Bx, h1, h2, h3, h4⟩ := hs; exact ⟨Bx, h1, h2, (zF8 Bx _ (fun _ : Unit => _)) () X Y row h3 hg (fun r e => (hr r e).2), h4⟩)
  ?assign ?body ?done ?stop
 case assign =>
  rintro lp pre x W K hI hK;obtain ⟨⟨⟨⟨v, hv, hrow, _⟩, hfd⟩, bX1, bS1⟩, hB1⟩ := hI;have hlt := bS1.lt
  gi_wp2
  exact hK _ _ ((KeepsOthers.alloc _ _).from _) (KpF.below ((Below.refl _ W).alloc (Nat.le_refl _) _))
   ⟨⟨⟨⟨v, hv.alloc _, hrow.alloc _, trivial⟩, hfd.alloc _⟩, bX1.below ((Below.refl _ W).alloc (Nat.le_refl _) _), bS1.alloc _⟩, hB1.alloc hB1.size _⟩ ⟨W.heap.size, by omega, by omega, BlkE.new W _ _, rfl⟩
 case body =>
  rintro lp pre x a' W hl ⟨rr, hr⟩ ⟨⟨⟨⟨v, hv, hrow, _⟩, hfd⟩, bX1, bS1⟩, hB1⟩ ⟨Bx, hx1, hx2, bx, rfl⟩ hlt;have hgl := zHb F n pre;have c0 := bx.cell (i := 0) (u := .int .i64 (fat F x).gen) rfl;have c7 := bx.cell (i := 7) (u := .int .i64 ((fat F x).at_ : Int)) rfl;have k3 := bX1.cell (i := 3) (u := .slice a n c) rfl;have hsW := hB1.size;have hOl := hv.lt;have hBl := bS1.lt;have hav1 := hav (by omega)
  by_cases hc : ((fat F x).at_ : Int) = (n : Int) - 1
  ·
   have hm := zGI pre hc;rw [hc] at c7
   gi_wp2
   exact ⟨(KeepsOthers.refl W).from _, KpF.refl _ _ _, ⟨⟨⟨v, hv, by rw [hm]; exact hrow, trivial⟩, hfd⟩, bX1, bS1⟩, hB1⟩
  have hm := zI6 pre hc;have hci := hv.cell;generalize hq : ((fat F x).at_ : Int) = q at *
  gi_wp2_with (gi_at_builtin; refine wpListIn_append_own _ rfl _ _ 233 rfl w.heap.size 3 i0 _ 1 8 Tryz.underlying233 hi hz0 hz1 hz2 rfl (by decide) _ _ _ rfl (hrow.alloc _) ⟨W.heap.size, 0, none⟩ 1 1 [.int .i64 (fat F x).gen] rfl rfl (zFu W [.int .i64 (fat F x).gen] 3) (by intro u hu; simp at hu; subst hu; rfl) (by unfold maxLen; omega) (by omega) (by simp; omega) ?_; intro v' w4 hown' hgrow _; obtain ⟨g', cap', rfl⟩ := ownsRow_succ hown'; obtain ⟨hv1, hv2, hr2, hk2, hb4⟩ := hv.appended (by decide) hrow (by omega) (by omega) hown' hgrow; have hc1 := hv1.cell; have hf1 := hv1.frozen)
  have hf4 := (hfd.alloc (.cells #[.int .i64 (fat F x).gen] 3)).kept hgrow (zBH hfd hrow (by decide));have hf5 := hf4.kept (grownBy_setCell' w4 (w.heap.size + 1) (.slice (some ⟨g', 0, none⟩) ((vS F n pre).length + 1) cap')) (.inr (hv1.not_row (by decide) hf4).symm);have bS5 := ((bS1.alloc _).kept hgrow (bS1.not_row (by decide) hrow)).other (B' := w.heap.size + 1) (by omega) (.slice (some ⟨g', 0, none⟩) ((vS F n pre).length + 1) cap');have bX5 := ((bX1.below ((Below.refl _ W).alloc (Nat.le_refl _) _)).grown hgrow (bX1.not_row (by decide) hrow)).grown (grownBy_setCell' w4 (w.heap.size + 1) (.slice (some ⟨g', 0, none⟩) ((vS F n pre).length + 1) cap')) (by simp);have hkk : ∀ k, k < W.heap.size → some k ≠ v.ownBlock → k ≠ w.heap.size + 1 → (w4.setCell ⟨w.heap.size + 1, 0, none⟩ (.slice (some ⟨g', 0, none⟩) ((vS F n pre).length + 1) cap')).heap[k]? = W.heap[k]? := fun k h1 h2 h3 =>
   (Below.heap_setCell _ _ _ k h3).trans ((hgrow.block k (by simp; omega) h2).trans (Below.heap_alloc _ _ _ (by omega)))
  have hKp : KpF b Bs W (w4.setCell ⟨w.heap.size + 1, 0, none⟩ (.slice (some ⟨g', 0, none⟩) ((vS F n pre).length + 1) cap')) := fun p hp u hu => by
   have e : (w4.setCell ⟨w.heap.size + 1, 0, none⟩ (.slice (some ⟨g', 0, none⟩) ((vS F n pre).length + 1) cap')).heap[p.block]? = W.heap[p.block]? := by
    rcases hp with e | e
    ·
     rw [e];refine hkk b (by omega) ?_ (by omega);rcases zBH hfd hrow (by decide) with h1 | h1
     ·
      rw [hav1] at h1; simp [Value.ownBlock] at h1
     rw [hav1] at h1; simpa [Value.ownBlock] using h1
    rw [e];exact hkk Bs (by omega) (bS1.not_row (by decide) hrow) (by omega)
   unfold World.cell? at hu ⊢;rw [e];exact hu
  exact ⟨hk2.from _, hKp, ⟨⟨⟨_, hv2, by rw [hm, List.length_append, List.map_append]; exact hr2, trivial⟩, hf5⟩, bX5, bS5⟩, hB1.trans hb4⟩
 case done =>
  rintro D ys W hD rfl ⟨⟨⟨⟨v, hv, hrow, _⟩, _⟩, _, _⟩, hB1⟩ hK;have hc := hv.cell
  gi_wp2
  refine ⟨by simp, .inl ⟨_, _, rfl, run_takeDeferred hK, ?_⟩⟩;exact ⟨_, results_tmp rfl _ _ _, v, rfl, ownsRow_putObj hrow _ hK rfl, hB1.trans (belowK_b (w := w) (Nat.le_refl _) W D _ _ (by omega) hK rfl rfl)⟩
 rintro D c' pre W _ _ h _;exact h.elim
end Go.Proofs.YtcgfilmmokmdjaaGreat
