/- A part of the walk. -/
import Derived.Test.YtcgfilmmokmdjaaGreatQAB
import Derived.StillTailTactics
set_option linter.all false
set_option maxRecDepth 100000
set_option maxHeartbeats 32000000
namespace Go.Proofs.YtcgfilmmokmdjaaGreat
def nV (d d' : List It) : Prop := ∀ k : Int, d.filter (fun y => y.key == k) = d'.filter (fun y => y.key == k)
theorem nV.refl (d : List It) : nV d d := fun _ => rfl
theorem nV.symm {d d' : List It} (h : nV d d') : nV d' d := fun k => (h k).symm
theorem nV.trans {a b c : List It} (h : nV a b) (h' : nV b c) : nV a c := fun k => (h k).trans (h' k)
theorem nV.app {a a' b b' : List It} (h : nV a a') (h' : nV b b') : nV (a ++ b) (a' ++ b') := fun k => by rw [cQ, cQ, h k, h' k]
theorem zJV {u v : List It} (h : ∀ x ∈ u, ∀ y ∈ v, x.key ≠ y.key) : nV (u ++ v) (v ++ u) := fun k => by
 rw [cQ, cQ]
 by_cases hu : u.filter (fun y => y.key == k) = []
 ·
  rw [hu]; simp
 obtain ⟨x, hx⟩ := List.exists_mem_of_ne_nil _ hu;obtain ⟨hx1, hx2⟩ := List.mem_filter.1 hx;have hv : v.filter (fun y => y.key == k) = [] := by
  rw [List.filter_eq_nil_iff];intro y hy e;simp at hx2 e;exact h x hx1 y hy (by omega)
 rw [hv]; simp
theorem nV.mem {d d' : List It} (h : nV d d') {x : It} (hx : x ∈ d) : x ∈ d' := by
 have : x ∈ d.filter (fun y => y.key == x.key) := List.mem_filter.2 ⟨hx, by simp⟩;rw [h x.key] at this;exact (List.mem_filter.1 this).1
def jl (d : List It) (a b : Nat) : List It := (d.drop a).take (b - a)
theorem yh {d : List It} {a b : Nat} (h : b ≤ d.length) : (jl d a b).length = b - a := by
 unfold jl; rw [ay, aK]; omega
theorem qC {d : List It} {a b c : Nat} (h1 : a ≤ b) (h2 : b ≤ c) : jl d a c = jl d a b ++ jl d b c := by
 unfold jl;rw [show c - a = (b - a) + (c - b) by omega, List.take_add, bU, show a + (b - a) = b by omega]
theorem parts {d : List It} {a b : Nat} (h1 : a ≤ b) : d = d.take a ++ jl d a b ++ d.drop b := by
 have : d.drop b = (d.drop a).drop (b - a) := by rw [bU]; congr 1; omega
 unfold jl;rw [this, bp, bJ, bJ]
theorem Nj {d : List It} {a b : Nat} (h : b ≤ d.length) {x : It} : x ∈ jl d a b ↔ ∃ j, a ≤ j ∧ j < b ∧ dX d j = x := by
 unfold jl
 constructor
 ·
  intro hx;obtain ⟨j, hj, rfl⟩ := vw hx;rw [ay, aK] at hj;exact ⟨a + j, by omega, by omega, by rw [wX (by omega), xg]⟩
 rintro ⟨j, h1, h2, rfl⟩;have : dX d j = dX ((d.drop a).take (b - a)) (j - a) := by
  rw [wX (by omega), xg]; congr 1; omega
 rw [this];have hl : j - a < ((d.drop a).take (b - a)).length := by rw [ay, aK]; omega
 rw [← vE hl];exact bI hl
structure Moved (d d' : List It) (a b : Nat) : Prop where
 lo : d'.take a = d.take a
 hi : d'.drop b = d.drop b
 mid : nV (jl d a b) (jl d' a b)
 len : d'.length = d.length
theorem Moved.refl (d : List It) (a b : Nat) : Moved d d a b := ⟨rfl, rfl, .refl _, rfl⟩
theorem Moved.trans {d d' e : List It} {a b : Nat} (h : Moved d d' a b) (h' : Moved d' e a b) : Moved d e a b :=
 ⟨h'.lo.trans h.lo, h'.hi.trans h.hi, h.mid.trans h'.mid, h'.len.trans h.len⟩
theorem zCw {d d' : List It} {a a' : Nat} (h : a ≤ a') (e : d'.take a' = d.take a') : d'.take a = d.take a := by
 have := aS (List.take a) e
 rwa [dh, dh, bH h] at this
theorem zDO {d d' : List It} {b b' : Nat} (h : b' ≤ b) (e : d'.drop b' = d.drop b') : d'.drop b = d.drop b := by
 have := aS (List.drop (b - b')) e
 rwa [bU, bU, show b' + (b - b') = b by omega] at this
theorem zIl {d d' : List It} {a a' : Nat} (e : d'.take a' = d.take a') : jl d' a a' = jl d a a' := by
 unfold jl;have h1 : ∀ l : List It, (l.drop a).take (a' - a) = (l.take a').drop a := fun l => by rw [List.drop_take]
 rw [h1, h1, e]
theorem zJC {d d' : List It} {b' b : Nat} (e : d'.drop b' = d.drop b') : jl d' b' b = jl d b' b := by
 unfold jl; rw [e]
theorem Moved.wide {d d' : List It} {a b a' b' : Nat} (h : Moved d d' a' b') (h1 : a ≤ a') (h2 : a' ≤ b') (h3 : b' ≤ b) : Moved d d' a b :=
 ⟨zCw h1 h.lo, zDO h3 h.hi, by
  rw [qC (d := d) h1 (ak h2 h3), qC (d := d') h1 (ak h2 h3), qC (d := d) h2 h3, qC (d := d') h2 h3, zIl h.lo, zJC h.hi]
  exact (nV.refl _).app (h.mid.app (.refl _)), h.len⟩
theorem Moved.nV {d d' : List It} {a b : Nat} (h : Moved d d' a b) (hab : a ≤ b) : nV d d' := by
 rw [parts (d := d) hab, parts (d := d') hab, h.lo, h.hi];exact (Go.Proofs.YtcgfilmmokmdjaaGreat.nV.app (.app (.refl _) h.mid) (.refl _))
theorem Moved.out {d d' : List It} {a b : Nat} (h : Moved d d' a b) {i : Nat} (hi : i < a ∨ b ≤ i) : dX d' i = dX d i := by
 rcases hi with hi | hi
 ·
  rw [← wX (l := d') hi, h.lo, wX hi]
 have e : ∀ l : List It, dX l i = dX (l.drop b) (i - b) := fun l => by rw [xg]; congr 1; omega
 rw [e d', h.hi, ← e d]
theorem Moved.src {d d' : List It} {a b : Nat} (h : Moved d d' a b) (hb : b ≤ d.length) {i : Nat} (h1 : a ≤ i) (h2 : i < b) : ∃ j, a ≤ j ∧ j < b ∧ dX d' i = dX d j := by
 have hm : dX d' i ∈ jl d' a b := (Nj (by rw [h.len]; exact hb)).2 ⟨i, h1, h2, rfl⟩;obtain ⟨j, h3, h4, h5⟩ := (Nj hb).1 (h.mid.symm.mem hm);exact ⟨j, h3, h4, h5.symm⟩
def iM (d : List It) (a b : Nat) : Prop := ∀ i j, a ≤ i → i < j → j < b → (dX d i).key ≤ (dX d j).key
def ey (d : List It) (s m e : Nat) : List It := d.take s ++ (jl d m e ++ jl d s m) ++ d.drop e
theorem qN {d : List It} {s m e : Nat} (h1 : s ≤ m) (h2 : m ≤ e) (h3 : e ≤ d.length) (hk : ∀ i, s ≤ i → i < m → ∀ j, m ≤ j → j < e → (dX d i).key ≠ (dX d j).key) : Moved d (ey d s m e) s e := by
 have l1 : (d.take s).length = s := by rw [ay]; omega
 have l2 : (jl d m e ++ jl d s m).length = e - s := by rw [aA, yh h3, yh (by omega)]; omega
 have DW : s ≤ e := by omega
 have e1 : (ey d s m e).take s = d.take s := by unfold ey; rw [bp]; exact cE l1
 have e2 : (ey d s m e).drop e = d.drop e := by unfold ey; exact List.drop_left' (by rw [aA, l1, l2]; omega)
 have e3 : jl (ey d s m e) s e = jl d m e ++ jl d s m := by
  have hr : ey d s m e = d.take s ++ ((jl d m e ++ jl d s m) ++ d.drop e) := by unfold ey; rw [bp]
  show ((ey d s m e).drop s).take (e - s) = _
  rw [hr, List.drop_left' l1];exact cE l2
 refine ⟨e1, e2, ?_, ?_⟩
 ·
  rw [e3, qC h1 h2];refine zJV fun x hx y hy => ?_
  obtain ⟨i, i1, i2, rfl⟩ := (Nj (by omega)).1 hx;obtain ⟨j, j1, j2, rfl⟩ := (Nj h3).1 hy;exact hk i i1 i2 j j1 j2
 unfold ey;rw [aA, aA, l1, l2, aK]; omega
theorem xC {u v : List It} {i : Nat} (h : i < u.length) : dX (u ++ v) i = dX u i := by
 unfold dX;rw [ax, ax, dP h]
theorem zx {u v : List It} {i : Nat} (h : u.length ≤ i) : dX (u ++ v) i = dX v (i - u.length) := by
 unfold dX;rw [ax, ax, dD h]
theorem UU {d : List It} {a b i : Nat} (h : i < b - a) : dX (jl d a b) i = dX d (a + i) := by
 unfold jl; rw [wX h, xg]
theorem ws {d : List It} {s m e : Nat} (h1 : s ≤ m) (h2 : m ≤ e) (h3 : e ≤ d.length) {i : Nat} (i1 : s ≤ i) (i2 : i < s + (e - m)) : dX (ey d s m e) i = dX d (m + (i - s)) := by
 have l1 : (d.take s).length = s := by rw [ay]; omega
 have l3 : (jl d m e).length = e - m := yh h3;have l4 : (jl d s m).length = m - s := yh (by omega);unfold ey;rw [xC (by rw [aA, aA, l1, l3, l4]; omega), zx (by omega), l1, xC (by omega), UU (by omega)]
theorem wn {d : List It} {s m e : Nat} (h1 : s ≤ m) (h2 : m ≤ e) (h3 : e ≤ d.length) {i : Nat} (i1 : s + (e - m) ≤ i) (i2 : i < e) : dX (ey d s m e) i = dX d (s + (i - (s + (e - m)))) := by
 have l1 : (d.take s).length = s := by rw [ay]; omega
 have l3 : (jl d m e).length = e - m := yh h3;have l4 : (jl d s m).length = m - s := yh (by omega);unfold ey;rw [xC (by rw [aA, aA, l1, l3, l4]; omega), zx (by omega), l1, zx (by omega), l3, UU (by omega)]
 congr 2; omega
theorem zKb {d d2 d3 : List It} {a c b : Nat} (h1 : a ≤ c) (h2 : c ≤ b) (hb : b ≤ d.length) (m2 : Moved d d2 a c) (n2 : iM d2 a c) (m3 : Moved d2 d3 c b) (n3 : iM d3 c b)
  (hx : ∀ i, a ≤ i → i < c → ∀ j, c ≤ j → j < b → (dX d i).key ≤ (dX d j).key) : Moved d d3 a b ∧ iM d3 a b := by
 refine ⟨(m2.wide (ai _) h1 h2).trans (m3.wide h1 h2 (ai _)), fun i j i1 ij j2 => ?_⟩;rcases bD i c with hic | hic
 ·
  rw [m3.out (Or.inl hic)];rcases bD j c with Nk | Nk
  ·
   rw [m3.out (Or.inl Nk)]; exact n2 i j i1 ij Nk
  obtain ⟨i', i3, i4, e1⟩ := m2.src (by omega) i1 hic;obtain ⟨j', j3, j4, e2⟩ := m3.src (by rw [m2.len]; omega) Nk j2;rw [e1, e2, m2.out (Or.inr j3)];exact hx i' i3 i4 j' j3 j4
 exact n3 i j hic ij j2
theorem Pt {d : List It} {a s m e b c : Nat} (h0 : a ≤ s) (h1 : s ≤ m) (h2 : m ≤ e) (h3 : e ≤ b) (hb : b ≤ d.length) (hc : c = s + (e - m)) (na : iM d a m) (nb : iM d m b)
  (H1 : ∀ i, a ≤ i → i < s → ∀ j, e ≤ j → j < b → (dX d i).key ≤ (dX d j).key) (H2 : ∀ i, s ≤ i → i < m → ∀ j, m ≤ j → j < e → (dX d j).key < (dX d i).key) :
  Moved d (ey d s m e) a b ∧ iM (ey d s m e) a s ∧ iM (ey d s m e) s c ∧ iM (ey d s m e) c e ∧ iM (ey d s m e) e b ∧
  ∀ i, a ≤ i → i < c → ∀ j, c ≤ j → j < b → (dX (ey d s m e) i).key ≤ (dX (ey d s m e) j).key := by
 subst hc;have M := qN h1 h2 (ak h3 hb) (fun i i1 i2 j j1 j2 => by have := H2 i i1 i2 j j1 j2; omega);have o : ∀ {i}, i < s ∨ e ≤ i → dX (ey d s m e) i = dX d i := fun h => M.out h
 have r1 : ∀ {i}, s ≤ i → i < s + (e - m) → dX (ey d s m e) i = dX d (m + (i - s)) := fun i1 i2 => ws h1 h2 (ak h3 hb) i1 i2
 have r2 : ∀ {i}, s + (e - m) ≤ i → i < e → dX (ey d s m e) i = dX d (s + (i - (s + (e - m)))) := fun i1 i2 => wn h1 h2 (ak h3 hb) i1 i2
 refine ⟨M.wide h0 (by omega) h3, fun i j i1 ij j2 => ?_, fun i j i1 ij j2 => ?_, fun i j i1 ij j2 => ?_, fun i j i1 ij j2 => ?_, fun i i1 i2 j j1 j2 => ?_⟩
 ·
  rw [o (Or.inl (by omega)), o (Or.inl j2)]; exact na i j i1 ij (by omega)
 ·
  rw [r1 i1 (by omega), r1 (by omega) j2]; exact nb _ _ (by omega) (by omega) (by omega)
 ·
  rw [r2 i1 (by omega), r2 (by omega) j2]; exact na _ _ (by omega) (by omega) (by omega)
 ·
  rw [o (Or.inr i1), o (Or.inr (by omega))]; exact nb i j (by omega) ij j2
 rcases bD i s with is | is
 ·
  rw [o (Or.inl is)];rcases bD j e with je | je
  ·
   rw [r2 j1 je]; exact na _ _ i1 (by omega) (by omega)
  rw [o (Or.inr je)]; exact H1 i i1 is j je j2
 rw [r1 is i2];rcases bD j e with je | je
 ·
  rw [r2 j1 je]; exact Int.le_of_lt (H2 _ (by omega) (by omega) _ (by omega) (by omega))
 rw [o (Or.inr je)]; exact nb _ _ (by omega) (by omega) j2
end Go.Proofs.YtcgfilmmokmdjaaGreat
namespace Go.Proofs.YtcgfilmmokmdjaaGreat
open Go.RowKit
def Gt (x y : Int) : Int := if x < y then -1 else if y < x then 1 else 0
theorem UW (x y : Int) : (decide (Gt x y < 0)) = decide (x < y) := by
 unfold Gt
 by_cases h : x < y
 ·
  rw [ag h]; simp [h]
 rw [ah h]
 by_cases h2 : y < x
 ·
  rw [ag h2]; simp [h]
 rw [ah h2]; simp [h]
theorem vK (x : Int) (w : World) : Calls Tryz.prog 198 #[.int .u64 x] w fun e w' => e = .returned (.bool false) ∧ Below w.heap.size w w' := by
 go_enter Tryz.func198, Tryz.ntmps198
 have hx : (x != x) = false := by simp
 go_wp2_with fail;go_ret;exact ⟨rfl, aj _ _⟩
theorem zET (x y : Int) (w : World) : Calls Tryz.prog 175 #[.int .u64 x, .int .u64 y] w fun e w' => e = .returned (.int .i64 (Gt x y)) ∧ Below w.heap.size w w' := by
 unfold Gt
 by_cases h : x < y
 ·
  rw [ag h]
  go_enter Tryz.func175, Tryz.ntmps175
  go_wp2_with fail;refine (vK _ _).mono ?_; rintro e w1 ⟨rfl, hb1⟩;have eQ := zh hb1;clear hb1;go_wp2_with fail;refine (vK _ _).mono ?_; rintro e w2 ⟨rfl, hb2⟩;have eP := zh (zA eQ.out hb2);clear hb2;go_wp2_with fail;go_ret;exact ⟨rfl, eP.out⟩
 rw [ah h]
 by_cases h2 : y < x
 ·
  rw [ag h2]
  go_enter Tryz.func175, Tryz.ntmps175
  go_wp2_with fail;refine (vK _ _).mono ?_; rintro e w1 ⟨rfl, hb1⟩;have eQ := zh hb1;clear hb1;go_wp2_with fail;refine (vK _ _).mono ?_; rintro e w2 ⟨rfl, hb2⟩;have eP := zh (zA eQ.out hb2);clear hb2;go_wp2_with fail;go_ret;exact ⟨rfl, eP.out⟩
 rw [ah h2]
 go_enter Tryz.func175, Tryz.ntmps175
 go_wp2_with fail;refine (vK _ _).mono ?_; rintro e w1 ⟨rfl, hb1⟩;have eQ := zh hb1;clear hb1;go_wp2_with fail;refine (vK _ _).mono ?_; rintro e w2 ⟨rfl, hb2⟩;have eP := zh (zA eQ.out hb2);clear hb2;go_wp2_with fail;go_ret;exact ⟨rfl, eP.out⟩
theorem UX (x y : It) (w : World) : Calls Tryz.prog 174 #[jB x, jB y] w fun e w' => e = .returned (.int .i64 (Gt x.key y.key)) ∧ Below w.heap.size w w' := by
 have HW := zh (show Below w.heap.size w ((w.alloc (.cells #[.int .u64 x.key, .int .u32 x.ck, .int .i64 x.off, .int .i64 x.size] 49)).alloc (.cells #[.int .u64 y.key, .int .u32 y.ck, .int .i64 y.off, .int .i64 y.size] 49)) from ((aj _ _).alloc (ai _) _).alloc (by simp) _)
 go_enter Tryz.func174, Tryz.ntmps174
 go_wp2_with fail;refine (zET _ _ _).mono ?_; rintro e w1 ⟨rfl, hb1⟩;have eQ := zh (zA HW.out hb1);clear hb1;go_wp2_with fail;go_ret;exact ⟨rfl, eQ.out⟩
def tE (d : List It) (i j : Nat) : List It := (d.set i (dX d j)).set j (dX d i)
def qR (d : List It) (a b : Nat) : Nat → List It
 | 0 => d
 | i + 1 => tE (qR d a b i) (a + i) (b + i)
theorem vu (d : List It) (i j : Nat) : (tE d i j).length = d.length := by unfold tE; rw [aZ, aZ]
theorem xQ (d : List It) (a b : Nat) : ∀ i, (qR d a b i).length = d.length
 | 0 => rfl
 | i + 1 => by show (tE _ _ _).length = _; rw [vu, xQ]
def DX (w : World) (g k : Nat) (y : It) : World := (((w.setCell ⟨g, k * 4, none⟩ (.int .u64 y.key)).setCell ⟨g, k * 4 + 1, none⟩ (.int .u32 y.ck)).setCell ⟨g, k * 4 + 2, none⟩ (.int .i64 y.off)).setCell ⟨g, k * 4 + 3, none⟩ (.int .i64 y.size)
theorem zp {a b c : World} {r : Option Nat} (a1 : a.grownBy b r) (a2 : b.grownBy c r) : a.grownBy c r :=
 ⟨a2.os.trans a1.os, a2.tape.trans a1.tape, a2.output.trans a1.output, ak a1.size a2.size, fun k hk hne => (a2.block k (cS hk a1.size) hne).trans (a1.block k hk hne)⟩
theorem zFP (a : World) (r : Option Nat) : a.grownBy a.drew r := ⟨rfl, rfl, rfl, ai _, fun _ _ _ => rfl⟩
theorem UY {w : World} {B g n cap : Nat} {q : List It} (h : w.ownsRow B 49 4 (.slice (some ⟨g, 0, none⟩) n cap) n (zU q)) (k : Nat) (hk : k < q.length) (y : It) :
  (DX w g k y).ownsRow B 49 4 (.slice (some ⟨g, 0, none⟩) n cap) n (zU (q.set k y)) ∧ w.grownBy (DX w g k y) (some g) := by
 have s1 := h.stored (k * 4) (.int .u64 y.key);have s2 := s1.1.stored (k * 4 + 1) (.int .u32 y.ck);have s3 := s2.1.stored (k * 4 + 2) (.int .i64 y.off);have s4 := s3.1.stored (k * 4 + 3) (.int .i64 y.size);exact ⟨Pk h k hk y, zp (zp (zp s1.2 s2.2) s3.2) s4.2⟩
theorem Pu {w : World} {B g n cap : Nat} {q : List It} (h : w.ownsRow B 49 4 (.slice (some ⟨g, 0, none⟩) n cap) n (zU q)) (hq : q.length = n) {i j : Nat} (hi : i < n) (hj : j < n) {x y : It} (hx : dX q i = x) (hy : dX q j = y) :
  (DX (DX w g i y) g j x).drew.ownsRow B 49 4 (.slice (some ⟨g, 0, none⟩) n cap) n (zU (tE q i j)) ∧ w.grownBy (DX (DX w g i y) g j x).drew (some g) := by
 obtain ⟨h1, g1⟩ := UY h i (by omega) y;obtain ⟨h2, g2⟩ := UY h1 j (by rw [aZ]; omega) x;unfold tE;rw [hx, hy];exact ⟨h2.drew, zp (zp g1 g2) (zFP _ _)⟩
theorem uq (g n cap a b k B : Nat) (d : List It) (fv : Value) (w : World) (hown : w.ownsRow B 49 4 (.slice (some ⟨g, 0, none⟩) n cap) n (zU d)) (hn : d.length = n) (hs : n ≤ 1000000) (hab : a + k ≤ b) (hb : b + k ≤ n) :
  Calls Tryz.prog 216 #[.slice (some ⟨g, 0, none⟩) n cap, .int .i64 (a : Int), .int .i64 (b : Int), .int .i64 (k : Int), fv] w fun e w' => e = .returned (.tuple #[]) ∧ w'.ownsRow B 49 4 (.slice (some ⟨g, 0, none⟩) n cap) n (zU (qR d a b k)) ∧ w.grownBy w' (some g) := by
 have HO := zh hown;have HL := zh (fun i => (xQ d a b i).trans hn);have HS := zh (fun i => show qR d a b (i + 1) = tE (qR d a b i) (a + i) (b + i) from rfl);have hgr : w.grownBy w (some g) := ⟨rfl, rfl, rfl, ai _, fun _ _ _ => rfl⟩
 have HG := zh hgr;have H0 := zh (show qR d a b 0 = d from rfl);clear hown hn hgr
 go_enter Tryz.func216, Tryz.ntmps216
 go_wp2_with fail
 go_loopw [10] (fun iv wr => ∃ i : Nat, iv = .int .i64 (i : Int) ∧ i ≤ k ∧ wr.ownsRow B 49 4 (.slice (some ⟨g, 0, none⟩) n cap) n (zU (qR d a b i)) ∧ w.grownBy wr (some g)) (fun iv _ => k - (intOf iv).toNat)
 case atStart => exact ⟨0, rfl, by omega, by rw [H0.out]; exact HO.out, HG.out⟩
 obtain ⟨i, rfl, hi, hown, hgr⟩ := hrel;have Ho := zh hown;have Hg := zh hgr;clear hown hgr
 by_cases hlt : i < k
 ·
  have rU := zh (HL.out i);have BP := zh (HS.out i);generalize qR d a b i = q at *;obtain ⟨_, _, e, c0, c1, c2, c3⟩ := (yj (zr Ho.out)).at (show a + i < n by omega);injection e with e; injection e with e1 e2; subst e1 e2;obtain ⟨_, _, e, d0, d1, d2, d3⟩ := (yj (zr Ho.out)).at (show b + i < n by omega);injection e with e; injection e with e1 e2; subst e1 e2;simp only [aJ] at c0 c1 c2 c3 d0 d1 d2 d3;have j1 : IntKind.i64.wrap ((a : Int) + (i : Int)) = (a : Int) + (i : Int) := aH _ (by omega);have j2 : IntKind.i64.wrap ((b : Int) + (i : Int)) = (b : Int) + (i : Int) := aH _ (by omega);have j3 : ((a : Int) + (i : Int)).toNat = a + i := by omega
  have j4 : ((b : Int) + (i : Int)).toNat = b + i := by omega
  go_wp2_with fail;have j5 : (0 : Int) ≤ (a : Int) + (i : Int) := by omega
  have j6 : (0 : Int) ≤ (b : Int) + (i : Int) := by omega
  have j7 : (a : Int) + (i : Int) < (n : Int) := by omega
  have j8 : (b : Int) + (i : Int) < (n : Int) := by omega
  have fz := fun k => Ho.out.frozenAt k
  have f0 := fz ((a + i) * 4);have f1 := fz ((a + i) * 4 + 1);have f2 := fz ((a + i) * 4 + 2);have f3 := fz ((a + i) * 4 + 3);have f4 := fz ((b + i) * 4);have f5 := fz ((b + i) * 4 + 1);have f6 := fz ((b + i) * 4 + 2);have f7 := fz ((b + i) * 4 + 3);clear fz;generalize hx : dX q (a + i) = x at *;generalize hy : dX q (b + i) = y at *;have mJ := zh (And.intro hx hy);clear hx hy;have HF := zh (Pu Ho.out rU.out (i := a + i) (j := b + i) (by omega) (by omega) mJ.out.1 mJ.out.2)
  go_region_with (fail)
  all_goals go_wp2_with fail
  all_goals exact ⟨⟨i + 1, by go_num, by omega, by rw [BP.out]; exact HF.out.1, zp Hg.out HF.out.2⟩, by simp [intOf]; omega⟩
 obtain rfl : i = k := by omega
 go_wp2_with fail;go_end0;exact ⟨rfl, Ho.out, Hg.out⟩
end Go.Proofs.YtcgfilmmokmdjaaGreat
namespace Go.Proofs.YtcgfilmmokmdjaaGreat
theorem UZ {d : List It} {i : Nat} {x : It} (hi : i < d.length) (j : Nat) : dX (d.set i x) j = if j = i then x else dX d j := by
 unfold dX;rw [ax, ax, dH]
 by_cases h : j = i
 ·
  subst h; rw [ag rfl, ag rfl, ag hi]; rfl
 rw [ah (aO h), ah h]
theorem kD {d : List It} {i j : Nat} (hi : i < d.length) (hj : j < d.length) (k : Nat) : dX (tE d i j) k = if k = j then dX d i else if k = i then dX d j else dX d k := by
 unfold tE;rw [UZ (by rw [aZ]; exact hj), UZ hi]
theorem U0 {d : List It} {a b : Nat} : ∀ (k : Nat), a + k ≤ b → b + k ≤ d.length → ∀ i, dX (qR d a b k) i = if a ≤ i ∧ i < a + k then dX d (i - a + b) else if b ≤ i ∧ i < b + k then dX d (i - b + a) else dX d i
 | 0, _, _, i => by rw [ah (by omega), ah (by omega)]; rfl
 | k + 1, h1, h2, i => by
  have ih := U0 (d := d) (a := a) (b := b) k (by omega) (by omega)
  show dX (tE (qR d a b k) (a + k) (b + k)) i = _
  rw [kD (by rw [xQ]; omega) (by rw [xQ]; omega)]
  by_cases e1 : i = b + k
  ·
   subst e1;rw [ag rfl, ih, ah (by omega), ah (by omega), ah (by omega), ag (by omega)]
   congr 1; omega
  rw [ah e1]
  by_cases e2 : i = a + k
  ·
   subst e2;rw [ag rfl, ih, ah (by omega), ah (by omega), ag (by omega)]
   congr 1; omega
  rw [ah e2, ih]
  by_cases c1 : a ≤ i ∧ i < a + k
  ·
   rw [ag c1, ag (by omega)]
  rw [ah c1, ah (show ¬ (a ≤ i ∧ i < a + (k + 1)) by omega)]
  by_cases c2 : b ≤ i ∧ i < b + k
  ·
   rw [ag c2, ag (by omega)]
  rw [ah c2, ah (show ¬ (b ≤ i ∧ i < b + (k + 1)) by omega)]
theorem kZ {u v : List It} (hl : u.length = v.length) (h : ∀ i, i < u.length → dX u i = dX v i) : u = v := by
 apply List.ext_getElem hl;intro i h1 h2;rw [vE h1, vE h2]; exact h i h1
theorem tU {P X Y Z Q : List It} (h : X.length = Z.length) : qR (P ++ (X ++ (Y ++ (Z ++ Q)))) P.length (P.length + X.length + Y.length) X.length = P ++ (Z ++ (Y ++ (X ++ Q))) := by
 refine kZ (by rw [xQ]; simp only [aA]; omega) fun i hi => ?_
 rw [xQ] at hi;simp only [aA] at hi;rw [U0 _ (by omega) (by simp only [aA]; omega)]
 by_cases p1 : i < P.length
 ·
  rw [ah (by omega), ah (by omega), xC p1, xC p1]
 by_cases p2 : i < P.length + X.length
 ·
  rw [ag (by omega), zx (u := P) (by omega), zx (u := X) (by omega), zx (u := Y) (by omega), xC (u := Z) (by omega), zx (u := P) (by omega), xC (u := Z) (by omega)]
  congr 1; omega
 by_cases p3 : i < P.length + X.length + Y.length
 ·
  rw [ah (by omega), ah (by omega), zx (u := P) (by omega), zx (u := X) (by omega), xC (u := Y) (by omega), zx (u := P) (by omega), zx (u := Z) (by omega), xC (u := Y) (by omega)]
  congr 1; omega
 by_cases p4 : i < P.length + X.length + Y.length + Z.length
 ·
  rw [ah (by omega), ag (by omega), zx (u := P) (by omega), xC (u := X) (by omega), zx (u := P) (by omega), zx (u := Z) (by omega), zx (u := Y) (by omega), xC (u := X) (by omega)]
  congr 1; omega
 rw [ah (by omega), ah (by omega), zx (u := P) (by omega), zx (u := X) (by omega), zx (u := Y) (by omega), zx (u := Z) (by omega), zx (u := P) (by omega), zx (u := Z) (by omega), zx (u := Y) (by omega), zx (u := X) (by omega)]
 congr 1; omega
end Go.Proofs.YtcgfilmmokmdjaaGreat
namespace Go.Proofs.YtcgfilmmokmdjaaGreat
open Go.RowKit
structure mS (T q : List It) (m i j : Nat) : Prop where
 ex : ∃ P U V Q : List It, q = P ++ (U ++ (V ++ Q)) ∧ T = P ++ (V ++ (U ++ Q)) ∧ U.length = i ∧ V.length = j ∧ P.length + i = m
 hi : 0 < i
 hj : 0 < j
theorem mS.gt {T q : List It} {m i j : Nat} (h : mS T q m i j) (hij : j < i) : mS T (qR q (m - i) m j) m (i - j) j := by
 obtain ⟨⟨P, U, V, Q, rfl, rfl, hu, hv, hm⟩, h1, h2⟩ := h;refine ⟨⟨P ++ V, U.drop j, U.take j, Q, ?_, ?_, by rw [aK]; omega, by rw [ay]; omega, by rw [aA]; omega⟩, by omega, h2⟩
 ·
  have hx : (U.take j).length = V.length := by rw [ay]; omega
  have hb := tU (P := P) (X := U.take j) (Y := U.drop j) (Z := V) (Q := Q) hx;have hlen : P.length + (U.take j).length + (U.drop j).length = m := by rw [ay, aK]; omega
  rw [hlen, hx, hv, show P.length = m - i by omega, ← bp (U.take j), bJ] at hb;rw [hb]; simp
 simp only [bp];rw [← bp (U.take j), bJ]
theorem mS.lt {T q : List It} {m i j : Nat} (h : mS T q m i j) (hij : i < j) : mS T (qR q (m - i) (m + j - i) i) m i (j - i) := by
 obtain ⟨⟨P, U, V, Q, rfl, rfl, hu, hv, hm⟩, h1, h2⟩ := h;refine ⟨⟨P, V.drop (j - i), V.take (j - i), U ++ Q, ?_, ?_, by rw [aK]; omega, by rw [ay]; omega, hm⟩, h1, by omega⟩
 ·
  have hx : U.length = (V.drop (j - i)).length := by rw [aK]; omega
  have hb := tU (P := P) (X := U) (Y := V.take (j - i)) (Z := V.drop (j - i)) (Q := Q) hx;have hlen : P.length + U.length + (V.take (j - i)).length = m + j - i := by rw [ay]; omega
  rw [hlen, hu, show P.length = m - i by omega, ← bp (V.take (j - i)), bJ] at hb;rw [hb]
 rw [← bp (V.take (j - i)), bJ]
theorem mS.eq {T q : List It} {m i : Nat} (h : mS T q m i i) : qR q (m - i) m i = T := by
 obtain ⟨⟨P, U, V, Q, rfl, rfl, hu, hv, hm⟩, h1, h2⟩ := h;have hb := tU (P := P) (X := U) (Y := []) (Z := V) (Q := Q) (by omega);rw [hu, show P.length = m - i by omega] at hb;simp only [dI, bT, bn] at hb;rw [show m - i + i = m by omega] at hb;exact hb
theorem mS.len {T q : List It} {m i j : Nat} (h : mS T q m i j) : i ≤ m ∧ m + j ≤ q.length := by
 obtain ⟨⟨P, U, V, Q, rfl, rfl, hu, hv, hm⟩, h1, h2⟩ := h;simp only [aA]; omega
theorem zFv {d : List It} {a m b : Nat} (h1 : a < m) (h2 : m < b) (h3 : b ≤ d.length) : mS (ey d a m b) d m (m - a) (b - m) := by
 refine ⟨⟨d.take a, jl d a m, jl d m b, d.drop b, ?_, ?_, yh (by omega), yh h3, by rw [ay]; omega⟩, by omega, by omega⟩
 ·
  have := parts (d := d) (a := a) (b := b) (by omega);rw [qC (bM h1) (bM h2)] at this
  simpa using this
 unfold ey; simp
theorem zFM (g n cap a m b B : Nat) (d : List It) (fv : Value) (w : World) (hown : w.ownsRow B 49 4 (.slice (some ⟨g, 0, none⟩) n cap) n (zU d)) (hn : d.length = n) (hs : n ≤ 1000000) (h1 : a < m) (h2 : m < b) (h3 : b ≤ n) :
  Calls Tryz.prog 214 #[.slice (some ⟨g, 0, none⟩) n cap, .int .i64 (a : Int), .int .i64 (m : Int), .int .i64 (b : Int), fv] w fun e w' => e = .returned (.tuple #[]) ∧ w'.ownsRow B 49 4 (.slice (some ⟨g, 0, none⟩) n cap) n (zU (ey d a m b)) ∧ w.grownBy w' (some g) := by
 have HO := zh hown;have HR := zh (zFv h1 h2 (by omega) : mS (ey d a m b) d m (m - a) (b - m));have hgr : w.grownBy w (some g) := ⟨rfl, rfl, rfl, ai _, fun _ _ _ => rfl⟩
 have HG := zh hgr;have HN := zh hn;generalize ey d a m b = T at *;clear hown hgr hn
 go_enter Tryz.func214, Tryz.ntmps214
 go_wp2_with fail
 go_loopw [10, 11] (fun iv jv wr => ∃ (i j : Nat) (q : List It), iv = .int .i64 (i : Int) ∧ jv = .int .i64 (j : Int) ∧ mS T q m i j ∧ q.length = n ∧ wr.ownsRow B 49 4 (.slice (some ⟨g, 0, none⟩) n cap) n (zU q) ∧ w.grownBy wr (some g)) (fun iv jv _ => (intOf iv).toNat + (intOf jv).toNat)
 case atStart => exact ⟨m - a, b - m, d, by go_num, by go_num, HR.out, HN.out, HO.out, HG.out⟩
 obtain ⟨i, j, q, rfl, rfl, hr, hq, ho, hg⟩ := hrel;have hl := hr.len;have hip := hr.hi;have hjp := hr.hj;rw [hq] at hl;have Ho := zh ho;have Hg := zh hg;have Hr := zh hr;have Hq := zh hq;clear ho hg hr hq;rcases Nat.lt_trichotomy i j with hij | hij | hij
 ·
  have HC := zh (uq g n cap (m - i) (m + j - i) i B q fv wr Ho.out Hq.out hs (by omega) (by omega));have e1 : ((m - i : Nat) : Int) = (m : Int) - (i : Int) := by omega
  have e2 : ((m + j - i : Nat) : Int) = (m : Int) + (j : Int) - (i : Int) := by omega
  rw [e1, e2] at HC;have fZ := zh (Hr.out.lt hij);have CZ := zh ((xQ q (m - i) (m + j - i) i).trans Hq.out);generalize qR q (m - i) (m + j - i) i = q2 at *;clear e1 e2;have hne : ((i : Int) != (j : Int)) = true := by rw [bne_iff_ne]; omega
  go_wp2_with fail;refine HC.out.mono ?_; rintro e w2 ⟨rfl, ew, fu⟩;have gj := zh ew;have iG := zh (zp Hg.out fu);clear ew fu;go_wp2_with fail;exact ⟨⟨i, j - i, q2, rfl, by go_num, fZ.out, CZ.out, gj.out, iG.out⟩, by simp [intOf]; omega⟩
 ·
  subst hij;have HC := zh (uq g n cap (m - i) m i B q fv wr Ho.out Hq.out hs (by omega) (by omega));have e1 : ((m - i : Nat) : Int) = (m : Int) - (i : Int) := by omega
  rw [e1, Hr.out.eq] at HC;clear e1;have hne : ((i : Int) != (i : Int)) = false := by simp
  go_wp2_with fail;refine HC.out.mono ?_; rintro e w2 ⟨rfl, ew, fu⟩;have gj := zh ew;have iG := zh (zp Hg.out fu);clear ew fu;go_wp2_with fail;go_end0;exact ⟨rfl, gj.out, iG.out⟩
 have HC := zh (uq g n cap (m - i) m j B q fv wr Ho.out Hq.out hs (by omega) (by omega));have e1 : ((m - i : Nat) : Int) = (m : Int) - (i : Int) := by omega
 rw [e1] at HC;have fZ := zh (Hr.out.gt hij);have CZ := zh ((xQ q (m - i) m j).trans Hq.out);generalize qR q (m - i) m j = q2 at *;clear e1;have hne : ((i : Int) != (j : Int)) = true := by rw [bne_iff_ne]; omega
 go_wp2_with fail;refine HC.out.mono ?_; rintro e w2 ⟨rfl, ew, fu⟩;have gj := zh ew;have iG := zh (zp Hg.out fu);clear ew fu;go_wp2_with fail;exact ⟨⟨i - j, j, q2, by go_num, rfl, fZ.out, CZ.out, gj.out, iG.out⟩, by simp [intOf]; omega⟩
theorem zFY {q : List It} {j : Nat} (h0 : 0 < j) (hj : j < q.length) (hk : (dX q j).key < (dX q (j - 1)).key) : Moved q (tE q j (j - 1)) (j - 1) (j + 1) := by
 have M := qN (d := q) (s := j - 1) (m := j) (e := j + 1) (by omega) (by omega) (by omega) (fun i i1 i2 k k1 k2 => by
  obtain rfl : i = j - 1 := by omega
  obtain rfl : k = j := by omega
  omega)
 have e : tE q j (j - 1) = ey q (j - 1) j (j + 1) := by
  refine kZ (by rw [vu, M.len]) fun i _ => ?_
  rw [kD hj (by omega)]
  by_cases e1 : i = j - 1
  ·
   rw [ag e1, ws (by omega) (by omega) (by omega) (by omega) (by omega)]; congr 1; omega
  rw [ah e1]
  by_cases e2 : i = j
  ·
   rw [ag e2, wn (by omega) (by omega) (by omega) (by omega) (by omega)]; congr 1; omega
  rw [ah e2, M.out (by omega)]
 rw [e]; exact M
structure Way (d q : List It) (a b i j : Nat) : Prop where
 mv : Moved d q a b
 rest : ∀ x y, a ≤ x → x < y → y ≤ i → x ≠ j → y ≠ j → (dX q x).key ≤ (dX q y).key
 up : ∀ y, j < y → y ≤ i → (dX q j).key ≤ (dX q y).key
 lo : a ≤ j
 hi : j ≤ i
 ib : i < b
theorem Way.start {d q : List It} {a b i : Nat} (m : Moved d q a b) (n : iM q a i) (h : a ≤ i) (hb : i < b) : Way d q a b i i :=
 ⟨m, fun x y x1 xy y1 _ y2 => n x y x1 xy (by omega), fun y y1 y2 => by omega, h, ai _, hb⟩
theorem Way.done {d q : List It} {a b i j : Nat} (h : Way d q a b i j) (hs : j = a ∨ (dX q (j - 1)).key ≤ (dX q j).key) : iM q a (i + 1) := fun x y x1 xy y2 => by
 by_cases e1 : x = j
 ·
  subst e1; exact h.up y xy (by omega)
 by_cases e2 : y = j
 ·
  subst e2;rcases hs with hs | hs
  ·
   omega
  by_cases e3 : x = y - 1
  ·
   subst e3; exact hs
  exact Int.le_trans (h.rest x (y - 1) x1 (by omega) (by have := h.hi; omega) e1 (by omega)) hs
 exact h.rest x y x1 xy (by omega) e1 e2
theorem Way.step {d q : List It} {a b i j : Nat} (h : Way d q a b i j) (hb : b ≤ q.length) (ha : a < j) (hk : (dX q j).key < (dX q (j - 1)).key) : Way d (tE q j (j - 1)) a b i (j - 1) := by
 have hib := h.ib;have hji := h.hi;have at_ := kD (d := q) (i := j) (j := j - 1) (by omega) (by omega);have M := zFY (q := q) (j := j) (by omega) (by omega) hk;refine ⟨h.mv.trans (M.wide (by omega) (by omega) (by omega)), fun x y x1 xy y1 x2 y2 => ?_, fun y y1 y2 => ?_, by omega, by omega, hib⟩
 ·
  rw [at_, at_, ah x2, ah y2]
  by_cases e1 : x = j
  ·
   rw [ag e1, ah (by omega)]; exact h.rest (j - 1) y (by omega) (by omega) y1 (by omega) (by omega)
  rw [ah e1]
  by_cases e2 : y = j
  ·
   rw [ag e2]; exact h.rest x (j - 1) x1 (by omega) (by omega) e1 (by omega)
  rw [ah e2]; exact h.rest x y x1 xy y1 e1 e2
 rw [at_, at_, ag rfl, ah (by omega)]
 by_cases e1 : y = j
 ·
  rw [ag e1]; omega
 rw [ah e1]; exact h.up y (by omega) y2
theorem xU {a b : World} (h : a.grownBy b none) (r : Option Nat) : a.grownBy b r := ⟨h.os, h.tape, h.output, h.size, fun k hk _ => h.block k hk (by simp)⟩
theorem qT (g n cap a b B : Nat) (d : List It) (w : World) (hown : w.ownsRow B 49 4 (.slice (some ⟨g, 0, none⟩) n cap) n (zU d)) (hn : d.length = n) (hs : n ≤ 1000000) (h1 : a ≤ b) (h2 : b ≤ n) :
  Calls Tryz.prog 186 #[.slice (some ⟨g, 0, none⟩) n cap, .int .i64 (a : Int), .int .i64 (b : Int), .func (.func 174) #[] #[]] w fun e w' => e = .returned (.tuple #[]) ∧ ∃ d', w'.ownsRow B 49 4 (.slice (some ⟨g, 0, none⟩) n cap) n (zU d') ∧ Moved d d' a b ∧ iM d' a b ∧ w.grownBy w' (some g) := by
 have HO := zh hown;have hgr : w.grownBy w (some g) := ⟨rfl, rfl, rfl, ai _, fun _ _ _ => rfl⟩
 have HG := zh hgr;have HN := zh hn;have HM := zh (Moved.refl d a b);have HL := zh (fun q (h : Moved d q a b) => h.len.trans hn);clear hown hgr hn
 go_enter Tryz.func186, Tryz.ntmps186
 go_wp2_with fail
 go_loopw [8] (fun iv wr => ∃ (i : Nat) (q : List It), iv = .int .i64 (i : Int) ∧ a < i ∧ (i ≤ b ∨ i = a + 1) ∧ Moved d q a b ∧ iM q a i ∧ wr.ownsRow B 49 4 (.slice (some ⟨g, 0, none⟩) n cap) n (zU q) ∧ w.grownBy wr (some g)) (fun iv _ => n + 1 - (intOf iv).toNat)
 case atStart => exact ⟨a + 1, d, by go_num, by omega, by omega, HM.out, fun i j i1 ij j2 => by omega, HO.out, HG.out⟩
 obtain ⟨i, q, rfl, hi, hib, hm, hnd, ho, hg⟩ := hrel;have Hm := zh hm;have Ki := zh hnd;have Ho := zh ho;have Hg := zh hg;clear hm hnd ho hg
 by_cases hlt : i < b
 ·
  have HW := zh (Way.start Hm.out Ki.out (by omega) hlt);go_wp2_with fail
  go_loopw [9] (fun jv wj => ∃ (j : Nat) (q : List It), jv = .int .i64 (j : Int) ∧ a ≤ j ∧ j ≤ i ∧ Way d q a b i j ∧ wj.ownsRow B 49 4 (.slice (some ⟨g, 0, none⟩) n cap) n (zU q) ∧ w.grownBy wj (some g)) (fun jv _ => (intOf jv).toNat)
  case atStart => exact ⟨i, q, rfl, by omega, by omega, HW.out, Ho.out, Hg.out⟩
  obtain ⟨j, r, rfl, hja, hji, hw, ho, hg⟩ := hrel;have Hw := zh hw;have Ho := zh ho;have Hg := zh hg;have hlr := HL.out _ hw.mv;have U1 := zh hlr;clear hw ho hg hlr
  by_cases hgt : a < j
  ·
   obtain ⟨_, _, e, c0, c1, c2, c3⟩ := (yj (zr Ho.out)).at (show j < n by omega);injection e with e; injection e with e1 e2; subst e1 e2;obtain ⟨_, _, e, d0, d1, d2, d3⟩ := (yj (zr Ho.out)).at (show j - 1 < n by omega);injection e with e; injection e with e1 e2; subst e1 e2;simp only [aJ] at c0 c1 c2 c3 d0 d1 d2 d3;have HV := zh (fun W => UX (dX r j) (dX r (j - 1)) W);have hcl := UW (dX r j).key (dX r (j - 1)).key;obtain ⟨x, hx⟩ : ∃ x, dX r j = x := ⟨_, rfl⟩
   obtain ⟨y, hy⟩ : ∃ y, dX r (j - 1) = y := ⟨_, rfl⟩
   have mJ := zh (And.intro hx hy);rw [hx] at c0 c1 c2 c3 HV hcl;rw [hy] at d0 d1 d2 d3 HV hcl;clear hx hy;obtain ⟨c, hc⟩ : ∃ c, Gt x.key y.key = c := ⟨_, rfl⟩
   rw [hc] at HV hcl;clear hc;have hcl := zh hcl;have j1 : IntKind.i64.wrap ((j : Int) - 1) = (j : Int) - 1 := aH _ (by omega);have j2 : (0 : Int) ≤ (j : Int) - 1 := by omega
   have j3 : ((j : Int) - 1).toNat = j - 1 := by omega
   have j4 : (j : Int) - 1 < (n : Int) := by omega
   have j5 : (j : Int) < (n : Int) := by omega
   have f0 := zB c0;have f1 := zB c1;have f2 := zB c2;have f3 := zB c3;have f4 := zB d0;have f5 := zB d1;have f6 := zB d2;have f7 := zB d3;clear c0 c1 c2 c3 d0 d1 d2 d3
   by_cases hk : c < 0
   ·
    have hkk : x.key < y.key := by have := hcl.out; rw [aF hk] at this; exact aY this.symm
    go_wp2_with fail;refine zC (by kernel_rfl) (by kernel_rfl) ?_
    repeat (go_big_quiet_step ((exact zG (HV.out _))))
    refine aC ?_;intro _ hw';obtain ⟨p, hw'⟩ := hw';subst hw';have Hp := zh (zH Ho.out p.h);have Gp := zh (zp Hg.out (xU (grown_of p.h) (some g)));obtain ⟨_, _, e, c0, c1, c2, c3⟩ := (yj (zr Hp.out)).at (show j < n by omega);injection e with e; injection e with e1 e2; subst e1 e2;obtain ⟨_, _, e, d0, d1, d2, d3⟩ := (yj (zr Hp.out)).at (show j - 1 < n by omega);injection e with e; injection e with e1 e2; subst e1 e2;simp only [aJ] at c0 c1 c2 c3 d0 d1 d2 d3;rw [mJ.out.1] at c0 c1 c2 c3;rw [mJ.out.2] at d0 d1 d2 d3;have fz := fun k => Hp.out.frozenAt k
    have z0 := fz (j * 4);have z1 := fz (j * 4 + 1);have z2 := fz (j * 4 + 2);have z3 := fz (j * 4 + 3);have z4 := fz ((j - 1) * 4);have z5 := fz ((j - 1) * 4 + 1);have z6 := fz ((j - 1) * 4 + 2);have z7 := fz ((j - 1) * 4 + 3);clear fz f0 f1 f2 f3 f4 f5 f6 f7;have HF := zh (Pu Hp.out U1.out (i := j) (j := j - 1) (by omega) (by omega) mJ.out.1 mJ.out.2);have HS := zh (Hw.out.step (by rw [U1.out]; exact h2) hgt (by rw [mJ.out.1, mJ.out.2]; exact hkk));generalize p.w' = wp at *;clear hkk;go_wp2_with fail
    go_region_with (fail)
    all_goals go_wp2_with fail
    all_goals exact ⟨⟨j - 1, tE r j (j - 1), by go_num, by omega, by omega, HS.out, HF.out.1, zp Gp.out HF.out.2⟩, by simp [intOf]; omega⟩
   have hkk : ¬ x.key < y.key := by have := hcl.out; rw [aD hk] at this; exact cD this.symm
   have HD := zh (Hw.out.done (Or.inr (by rw [mJ.out.1, mJ.out.2]; omega)));have Jl : decide (c < 0) = false := aD hk;have abW : decide (x.key < y.key) = false := aD hkk;clear hk;go_wp2_with fail;refine zC (by kernel_rfl) (by kernel_rfl) ?_
   repeat (go_big_quiet_step ((exact zG (HV.out _))))
   refine aC ?_;intro _ hw';obtain ⟨p, hw'⟩ := hw';subst hw';have Hp := zh (zH Ho.out p.h);have Gp := zh (zp Hg.out (xU (grown_of p.h) (some g)));generalize p.w' = wp at *;go_wp2_with fail;exact ⟨⟨i + 1, r, by go_num, by omega, by omega, Hw.out.mv, HD.out, Hp.out, Gp.out⟩, by simp [intOf]; omega⟩
  obtain rfl : j = a := by omega
  have HD := zh (Hw.out.done (Or.inl rfl));go_wp2_with fail;refine zC (by kernel_rfl) (by kernel_rfl) ?_
  repeat (go_big_quiet_step (fail))
  refine aC ?_;intro _ hw';obtain ⟨p, hw'⟩ := hw';subst hw';have Hp := zh (zH Ho.out p.h);have Gp := zh (zp Hg.out (xU (grown_of p.h) (some g)));generalize p.w' = wp at *;go_wp2_with fail;exact ⟨⟨i + 1, r, by go_num, by omega, by omega, Hw.out.mv, HD.out, Hp.out, Gp.out⟩, by simp [intOf]; omega⟩
 have HD := zh (show iM q a b from fun x y x1 xy y2 => Ki.out x y x1 xy (by omega));go_wp2_with fail;go_end0;exact ⟨rfl, q, Ho.out, Hm.out, HD.out, Hg.out⟩
end Go.Proofs.YtcgfilmmokmdjaaGreat
namespace Go.Proofs.YtcgfilmmokmdjaaGreat
theorem qE {d : List It} {s m e : Nat} (h1 : s ≤ m) (h2 : m ≤ e) (h3 : e ≤ d.length) {i : Nat} (hi : i < s ∨ e ≤ i) : dX (ey d s m e) i = dX d i := by
 have l1 : (d.take s).length = s := by rw [ay]; omega
 have l2 : (jl d m e ++ jl d s m).length = e - s := by rw [aA, yh h3, yh (by omega)]; omega
 unfold ey;rcases hi with hi | hi
 ·
  rw [bp, xC (by omega), wX hi]
 rw [zx (by rw [aA, l1, l2]; omega), aA, l1, l2, xg]
 congr 1; omega
theorem wZ {d : List It} {s m e : Nat} (h1 : s ≤ m) (h2 : m ≤ e) (h3 : e ≤ d.length) : (ey d s m e).length = d.length := by
 have l1 : (d.take s).length = s := by rw [ay]; omega
 unfold ey;rw [aA, aA, aA, l1, yh h3, yh (by omega), aK]; omega
theorem kL {d : List It} {s e : Nat} (h1 : s ≤ e) : ey d s e e = d ∧ ey d s s e = d := by
 have e0 : ∀ x, jl d x x = [] := fun x => by unfold jl; rw [Nat.sub_self, List.take_zero]
 have p := parts (d := d) h1
 constructor <;> · unfold ey; rw [e0]; simpa using p.symm
theorem zH3 {d : List It} {a k : Nat} (h1 : a ≤ k) (h2 : k + 2 ≤ d.length) : tE (ey d a (a + 1) (k + 1)) k (k + 1) = ey d a (a + 1) (k + 2) := by
 have hl := wZ (d := d) (s := a) (m := a + 1) (e := k + 1) (by omega) (by omega) (by omega);have hl2 := wZ (d := d) (s := a) (m := a + 1) (e := k + 2) (by omega) (by omega) (by omega);refine kZ (by rw [vu, hl, hl2]) fun i _ => ?_
 rw [kD (by rw [hl]; omega) (by rw [hl]; omega)]
 by_cases e1 : i = k + 1
 ·
  rw [ag e1, wn (by omega) (by omega) (by omega) (by omega) (by omega), wn (by omega) (by omega) (by omega) (by omega) (by omega)]
  congr 1; omega
 rw [ah e1]
 by_cases e2 : i = k
 ·
  rw [ag e2, qE (by omega) (by omega) (by omega) (by omega), ws (by omega) (by omega) (by omega) (by omega) (by omega)]
  congr 1; omega
 rw [ah e2]
 by_cases e3 : i < a ∨ k + 2 ≤ i
 ·
  rw [qE (by omega) (by omega) (by omega) (by omega), qE (by omega) (by omega) (by omega) (by omega)]
 rw [ws (by omega) (by omega) (by omega) (by omega) (by omega), ws (by omega) (by omega) (by omega) (by omega) (by omega)]
theorem zLI {d : List It} {k m : Nat} (h1 : k + 1 ≤ m) (h2 : m + 1 ≤ d.length) : tE (ey d (k + 1) m (m + 1)) (k + 1) k = ey d k m (m + 1) := by
 have hl := wZ (d := d) (s := k + 1) (m := m) (e := m + 1) (by omega) (by omega) (by omega);have hl2 := wZ (d := d) (s := k) (m := m) (e := m + 1) (by omega) (by omega) (by omega);refine kZ (by rw [vu, hl, hl2]) fun i _ => ?_
 rw [kD (by rw [hl]; omega) (by rw [hl]; omega)]
 by_cases e1 : i = k
 ·
  rw [ag e1, ws (by omega) (by omega) (by omega) (by omega) (by omega), ws (by omega) (by omega) (by omega) (by omega) (by omega)]
  congr 1; omega
 rw [ah e1]
 by_cases e2 : i = k + 1
 ·
  rw [ag e2, qE (by omega) (by omega) (by omega) (by omega), wn (by omega) (by omega) (by omega) (by omega) (by omega)]
  congr 1; omega
 rw [ah e2]
 by_cases e3 : i < k ∨ m + 1 ≤ i
 ·
  rw [qE (by omega) (by omega) (by omega) (by omega), qE (by omega) (by omega) (by omega) (by omega)]
 rw [wn (by omega) (by omega) (by omega) (by omega) (by omega), wn (by omega) (by omega) (by omega) (by omega) (by omega)]
 congr 1; omega
theorem zKE {d : List It} {a i b : Nat} (h1 : a + 1 ≤ i) (h2 : i ≤ b) (hb : b ≤ d.length) (nb : iM d (a + 1) b)
  (H1 : ∀ j, a + 1 ≤ j → j < i → (dX d j).key < (dX d a).key) (H2 : ∀ j, i ≤ j → j < b → (dX d a).key ≤ (dX d j).key) :
  Moved d (ey d a (a + 1) i) a b ∧ iM (ey d a (a + 1) i) a b := by
 have R := Pt (d := d) (a := a) (s := a) (m := a + 1) (e := i) (b := b) (c := a + (i - (a + 1))) (ai _) (by omega) h1 h2 hb rfl (fun x y x1 xy y1 => by omega) nb
  (fun x x1 x2 => by omega) (fun x x1 x2 j j1 j2 => (show x = a by omega) ▸ H1 j j1 j2)
 obtain ⟨m, n1, n2, n3, n4, hx⟩ := R;refine ⟨m, fun x y x1 xy y2 => ?_⟩;rcases bD x (a + (i - (a + 1))) with xc | xc
 ·
  rcases bD y (a + (i - (a + 1))) with yc | yc
  ·
   exact n2 x y x1 xy yc
  exact hx x x1 xc y yc y2
 have hxi : ∀ z, i ≤ z → dX (ey d a (a + 1) i) z = dX d z := fun z hz => (qN (by omega) h1 (ak h2 hb) (fun p p1 p2 q q1 q2 => by
  obtain rfl : p = a := by omega
  have := H1 q q1 q2; omega)).out (Or.inr hz)
 rcases bD x i with xi | xi
 ·
  rcases bD y i with yi | yi
  ·
   omega
  rw [hxi y yi, wn (by omega) h1 (ak h2 hb) xc xi];have : a + (x - (a + (i - (a + 1)))) = a := by omega
  rw [this]; exact H2 y yi y2
 exact n4 x y xi xy y2
theorem zIh {d : List It} {a i m : Nat} (h1 : a ≤ i) (h2 : i ≤ m) (hb : m + 1 ≤ d.length) (na : iM d a m)
  (H1 : ∀ j, a ≤ j → j < i → (dX d j).key ≤ (dX d m).key) (H2 : ∀ j, i ≤ j → j < m → (dX d m).key < (dX d j).key) :
  Moved d (ey d i m (m + 1)) a (m + 1) ∧ iM (ey d i m (m + 1)) a (m + 1) := by
 have R := Pt (d := d) (a := a) (s := i) (m := m) (e := m + 1) (b := m + 1) (c := i + 1) h1 h2 (by omega) (ai _) hb (by omega) na (fun x y x1 xy y1 => by omega)
  (fun x x1 x2 j j1 j2 => by omega) (fun x x1 x2 j j1 j2 => (show j = m by omega) ▸ H2 x x1 x2)
 obtain ⟨mv, n1, n2, n3, n4, hx⟩ := R;refine ⟨mv, fun x y x1 xy y2 => ?_⟩;rcases bD x (i + 1) with xc | xc
 ·
  rcases bD y (i + 1) with yc | yc
  ·
   rcases bD y i with yi | yi
   ·
    exact n1 x y x1 xy yi
   obtain rfl : y = i := by omega
   have ho : dX (ey d y m (m + 1)) x = dX d x := (qN h2 (by omega) hb (fun p p1 p2 q q1 q2 => by
    obtain rfl : q = m := by omega
    have := H2 p p1 p2; omega)).out (Or.inl (by omega))
   rw [ho, ws h2 (by omega) hb (ai _) (by omega)];have : m + (y - y) = m := by omega
   rw [this]; exact H1 x x1 (by omega)
  exact hx x x1 xc y yc y2
 exact n3 x y xc xy y2
structure Ev (d : List It) (a m b s : Nat) : Prop where
 lo : (if m > (a + b) / 2 then (a + b) / 2 + m - b else a) ≤ s
 hi : s ≤ (if m > (a + b) / 2 then (a + b) / 2 else m)
 l : (if m > (a + b) / 2 then (a + b) / 2 + m - b else a) < s → (dX d (s - 1)).key ≤ (dX d ((a + b) / 2 + m - s)).key
 r : s < (if m > (a + b) / 2 then (a + b) / 2 else m) → (dX d ((a + b) / 2 + m - 1 - s)).key < (dX d s).key
theorem Ev.ends {d : List It} {a m b s : Nat} (h : Ev d a m b s) : a ≤ s ∧ s ≤ m ∧ s ≤ (a + b) / 2 ∧ m ≤ (a + b) / 2 + m - s ∧ (a + b) / 2 + m - s ≤ b := by
 have := h.lo;have := h.hi
 split at this <;> split at * <;> omega
theorem zKO {d : List It} {a m b s : Nat} (h : Ev d a m b s) (h1 : a < m) (h2 : m < b) (hb : b ≤ d.length) (na : iM d a m) (nb : iM d m b) :
  Moved d (ey d s m ((a + b) / 2 + m - s)) a b ∧ iM (ey d s m ((a + b) / 2 + m - s)) a s ∧ iM (ey d s m ((a + b) / 2 + m - s)) s ((a + b) / 2) ∧ iM (ey d s m ((a + b) / 2 + m - s)) ((a + b) / 2) ((a + b) / 2 + m - s) ∧ iM (ey d s m ((a + b) / 2 + m - s)) ((a + b) / 2 + m - s) b ∧
  ∀ i, a ≤ i → i < (a + b) / 2 → ∀ j, (a + b) / 2 ≤ j → j < b → (dX (ey d s m ((a + b) / 2 + m - s)) i).key ≤ (dX (ey d s m ((a + b) / 2 + m - s)) j).key := by
 obtain ⟨e1, e2, e3, e4, e5⟩ := h.ends;have U2 : ∀ {x y}, a ≤ x → x ≤ y → y < m → (dX d x).key ≤ (dX d y).key := fun {x y} x1 xy y1 => by
  rcases bD x y with q | q
  ·
   exact na x y x1 q y1
  rw [show x = y by omega]; exact cT _
 have U3 : ∀ {x y}, m ≤ x → x ≤ y → y < b → (dX d x).key ≤ (dX d y).key := fun {x y} x1 xy y1 => by
  rcases bD x y with q | q
  ·
   exact nb x y x1 q y1
  rw [show x = y by omega]; exact cT _
 refine Pt e1 e2 e4 e5 hb (by omega) na nb (fun i i1 i2 j j1 j2 => ?_) (fun i i1 i2 j j1 j2 => ?_)
 ·
  have hl := h.l
  by_cases q : (if m > (a + b) / 2 then (a + b) / 2 + m - b else a) < s
  ·
   exact Int.le_trans (U2 i1 (show i ≤ s - 1 by omega) (by omega)) (Int.le_trans (hl q) (U3 e4 j1 j2))
  exfalso; split at q <;> omega
 have hr := h.r
 by_cases q : s < (if m > (a + b) / 2 then (a + b) / 2 else m)
 ·
  exact Int.lt_of_le_of_lt (U3 j1 (show j ≤ (a + b) / 2 + m - 1 - s by omega) (by omega)) (Int.lt_of_lt_of_le (hr q) (U2 e1 i1 i2))
 exfalso; split at q <;> omega
end Go.Proofs.YtcgfilmmokmdjaaGreat
