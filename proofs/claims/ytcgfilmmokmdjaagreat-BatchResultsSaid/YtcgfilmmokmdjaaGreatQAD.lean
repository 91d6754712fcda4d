/- A part of the walk. -/
import Derived.Test.YtcgfilmmokmdjaaGreatQAC
import Derived.Test.YtcgfilmmokmdjaaGreatQAB
import Derived.Test.YtcgfilmmokmdjaaGreatQAA
import Derived.Lib.OwnKind
import Derived.Laws.ComplexArith
set_option linter.all false
namespace Go.Proofs.YtcgfilmmokmdjaaGreat
def uD : List It → List It
 | [] => []
 | [x] => [x]
 | x :: y :: r => if y.key = x.key then uD (y :: r) else x :: uD (y :: r)
def Pv (d : List It) : Prop := d.Pairwise fun a b => a.key ≤ b.key
theorem zLM {d : List It} (h : iM d 0 d.length) : Pv d := by
 refine List.pairwise_iff_getElem.2 fun i j hi hj hij => ?_
 rw [vE hi, vE hj];exact h i j (au _) hij hj
theorem U4 (k : Int) : fG [] k = none := rfl
theorem U5 (x : It) {f : List It} (h : f ≠ []) : (x :: f).getLast? = f.getLast? := by
 cases f with
 | nil => exact absurd rfl h
 | cons y f => rw [List.getLast?_cons_cons]
theorem U6 : ∀ (d : List It), Pv d → ∀ k : Int, fG (uD d) k = (d.filter fun y => y.key == k).getLast?
 | [], _, k => rfl
 | [x], _, k => by
  unfold uD;rw [zl, cu]
  by_cases h : x.key = k
  ·
   rw [ag h, ag (by simp [h])]; rfl
  rw [ah h, ah (by simp [h])]; rfl
 | x :: y :: r, hp, k => by
  obtain ⟨h1, h2⟩ := List.pairwise_cons.1 hp;have ih := U6 (y :: r) h2 k;unfold uD;rw [cu]
  by_cases e : y.key = x.key
  ·
   rw [ag e, ih]
   by_cases hk : x.key = k
   ·
    rw [ag (by simp [hk]), U5];intro h0;have : y ∈ (y :: r).filter fun y => y.key == k := List.mem_filter.2 ⟨by simp, by simp; omega⟩
    rw [h0] at this; cases this
   rw [ah (by simp [hk])]
  rw [ah e, zl]
  by_cases hk : x.key = k
  ·
   rw [ag hk, ag (by simp [hk])];have h0 : (y :: r).filter (fun y => y.key == k) = [] := by
    rw [List.filter_eq_nil_iff];intro z hz;have hxy := h1 y (by simp);have hyz : y.key ≤ z.key := by
     rcases List.mem_cons.1 hz with rfl | hz
     ·
      exact cT _
     exact (List.pairwise_cons.1 h2).1 z hz
    simp; omega
   rw [h0]; rfl
  rw [ah hk, ah (by simp [hk]), ih]
theorem Px : ∀ (d : List It), ∀ z ∈ uD d, z ∈ d
 | [], _, h => h
 | [x], z, h => h
 | x :: y :: r, z, h => by
  unfold uD at h
  split at h
  ·
   exact List.mem_cons_of_mem _ (Px (y :: r) z h)
  rcases List.mem_cons.1 h with rfl | h
  ·
   simp
  exact List.mem_cons_of_mem _ (Px (y :: r) z h)
theorem U7 : ∀ (d : List It), Pv d → (uD d).Pairwise fun a b => a.key < b.key
 | [], _ => .nil
 | [x], _ => .cons (fun _ h => by cases h) .nil
 | x :: y :: r, hp => by
  obtain ⟨h1, h2⟩ := List.pairwise_cons.1 hp;have ih := U7 (y :: r) h2;unfold uD
  split
  ·
   exact ih
  rename_i e;refine .cons (fun z hz => ?_) ih;have hz := Px _ z hz;have hxy := h1 y (by simp);rcases List.mem_cons.1 hz with rfl | hz
  ·
   omega
  have := (List.pairwise_cons.1 h2).1 z hz; omega
theorem wV {l : List It} {k : Int} {x : It} (h : fG l k = some x) : x ∈ l ∧ x.key = k := by
 unfold fG at h;exact ⟨List.mem_of_find?_eq_some h, by simpa using List.find?_some h⟩
theorem wt {l : List It} {k : Int} (h : ∀ x ∈ l, x.key ≠ k) : fG l k = none := by
 unfold fG;rw [List.find?_eq_none];intro x hx; simpa using h x hx
theorem qB : ∀ (u v : List It), (u.Pairwise fun a b => a.key < b.key) → (v.Pairwise fun a b => a.key < b.key) → (∀ k, fG u k = fG v k) → u = v
 | [], [], _, _, _ => rfl
 | [], y :: v, _, _, h => by
  have := h y.key;rw [U4, zl, ag rfl] at this; cases this
 | x :: u, [], _, _, h => by
  have := h x.key;rw [U4, zl, ag rfl] at this; cases this
 | x :: u, y :: v, hu, hv, h => by
  obtain ⟨u1, u2⟩ := List.pairwise_cons.1 hu;obtain ⟨v1, v2⟩ := List.pairwise_cons.1 hv;have hx := h x.key;rw [zl, ag rfl] at hx;have hy := h y.key;rw [zl (y := y), ag rfl] at hy;have m1 := wV hx.symm;have m2 := wV hy;have e : x.key = y.key := by
   rcases List.mem_cons.1 m1.1 with e | m1
   ·
    rw [e]
   have := v1 _ m1;rcases List.mem_cons.1 m2.1 with e | m2
   ·
    rw [e]
   have := u1 _ m2; omega
  have exy : x = y := by
   rw [zl, ag e.symm] at hx;exact Option.some.inj hx
  subst exy
  congr 1
  refine qB u v u2 v2 fun k => ?_
  by_cases hk : x.key = k
  ·
   rw [wt fun z hz => by have := u1 z hz; omega, wt fun z hz => by have := v1 z hz; omega]
  have := h k
  rwa [zl, zl, ah hk, ah hk] at this
theorem U8 : ∀ (l out : List It) (k : Int), fG (l.foldl ins out) k = match (l.filter fun y => y.key == k).getLast? with | some x => some x | none => fG out k
 | [], out, k => rfl
 | x :: l, out, k => by
  rw [dJ, U8 l (ins out x) k, cu]
  by_cases h : x.key = k
  ·
   rw [ag (by simp [h])]
   by_cases h0 : l.filter (fun y => y.key == k) = []
   ·
    rw [h0]
    show fG (ins out x) k = some x
    rw [← h]; exact vG x out
   rw [U5 x h0]
   cases e : (l.filter fun y => y.key == k).getLast? with
   | none => rw [List.getLast?_eq_none_iff] at e; exact absurd e h0
   | some y => rfl
  rw [ah (by simp [h]), wl x k (aO h)]
theorem Py (l : List It) (k : Int) : fG (fC l) k = (l.filter fun y => y.key == k).getLast? := by
 unfold fC;rw [U8]
 cases (l.filter fun y => y.key == k).getLast? <;> rfl
theorem zJ2 {l d : List It} (h : nV l d) (hn : iM d 0 d.length) : uD d = fC l := by
 have hp := zLM hn;refine qB _ _ (U7 d hp) (uw ((xX _).2 (wi l))) fun k => ?_
 rw [U6 d hp, Py, h k]
theorem vJ {d : List It} {i : Nat} (h : i < d.length) : d.drop i = dX d i :: d.drop (i + 1) := by
 rw [cR h, vE h]
theorem zIV {d : List It} {i : Nat} (h : i + 1 = d.length) : uD (d.drop i) = [dX d i] ++ uD (d.drop (i + 1)) := by
 rw [vJ (by omega), List.drop_eq_nil_of_le (by omega)]; rfl
theorem zHw {d : List It} {i : Nat} (h : i + 1 < d.length) (hk : (dX d (i + 1)).key ≠ (dX d i).key) : uD (d.drop i) = [dX d i] ++ uD (d.drop (i + 1)) := by
 rw [vJ (show i < d.length by omega), vJ h]
 conv => lhs; unfold uD
 rw [ah hk]; rfl
theorem zG2 {d : List It} {i : Nat} (h : i + 1 < d.length) (hk : (dX d (i + 1)).key = (dX d i).key) : uD (d.drop i) = uD (d.drop (i + 1)) := by
 rw [vJ (show i < d.length by omega), vJ h]
 conv => lhs; unfold uD
 rw [ag hk]
/-! ### Pz -/
def oV (d : List It) (bs lo hi : Nat) : Prop := ∀ k i j, lo ≤ i → i < j → j < hi → k * bs ≤ i → j < k * bs + bs → (dX d i).key ≤ (dX d j).key
theorem oV.nd {d : List It} {bs lo hi k a b : Nat} (h : oV d bs lo hi) (h1 : lo ≤ a) (h2 : b ≤ hi) (h3 : k * bs ≤ a) (h4 : b ≤ k * bs + bs) : iM d a b := fun i j i1 ij j1 => h k i j (by omega) ij (by omega) (by omega) (by omega)
theorem oV.sub {d : List It} {bs lo hi lo' hi' : Nat} (h : oV d bs lo hi) (h1 : lo ≤ lo') (h2 : hi' ≤ hi) : oV d bs lo' hi' := fun k i j i1 ij j1 a b => h k i j (by omega) ij (by omega) a b
theorem oV.none (d : List It) (bs lo : Nat) : oV d bs lo lo := fun k i j i1 ij j1 => by omega
theorem oV.keep {d d' : List It} {bs lo hi a b : Nat} (h : oV d bs lo hi) (m : Moved d d' a b) (hh : hi ≤ a ∨ b ≤ lo) : oV d' bs lo hi := fun k i j i1 ij j1 p q => by
 rw [m.out (by omega), m.out (by omega)]; exact h k i j i1 ij j1 p q
theorem oV.more {d : List It} {bs a b k : Nat} (h : oV d bs 0 a) (hk : a = k * bs) (n : iM d a b) : oV d bs 0 b := fun c i j i1 ij j1 p q => by
 by_cases e : j < a
 ·
  exact h c i j i1 ij e p q
 have hc : k ≤ c := by
  rcases bD c k with hc | hc
  ·
   have := aW bs (show c + 1 ≤ k by omega);rw [dm] at this; omega
  exact hc
 have := aW bs hc;exact n i j (by omega) ij j1
theorem oV.whole {d : List It} {bs n : Nat} (h : oV d bs 0 n) (hb : n ≤ bs) : iM d 0 n := fun i j i1 ij j1 => h 0 i j i1 ij j1 (by omega) (by omega)
theorem qj (u v : List It) : fC (u ++ v) = v.foldl ins (fC u) := by unfold fC; rw [dt]
theorem zKj (l : List It) : Ng [] l [] = fC l := by
 unfold Ng;rw [Uy]
 show fC ([] ++ fC l) = _
 rw [bT, yK (wi l)]
theorem tS (s : List It) (x : It) (k : Int) : fG (ins s x) k = if x.key = k then some x else fG s k := by
 by_cases h : x.key = k
 ·
  rw [ag h, ← h]; exact vG x s
 rw [ah h]; exact wl x k (aO h) s
theorem PA (s : List It) (key k : Int) : fG (gl s key) k = if k = key then none else fG s k := by
 by_cases h : k = key
 ·
  rw [ag h, h]; exact kW s key
 rw [ah h]; exact uH key k h s
theorem zJs (u : List It) (x : It) : fC (u ++ [x]) = ins (fC u) x := by rw [qj]; rfl
def zv (s : List It) : Nat := (s.map fun x => eM x.size.toNat).sum
theorem xE (s t : List It) : zv (s ++ t) = zv s + zv t := by simp [zv]
theorem tp (s : List It) : zv s ≤ s.length * 4127 := by
 induction s with
 | nil => exact ai _
 | cons x l ih =>
  have := xx x.size.toNat
  show eM x.size.toNat + zv l ≤ _
  rw [aX]; omega
theorem PB : ∀ (u v : List It) (x : It), (∀ z ∈ u, z.key < x.key) → ins (u ++ v) x = u ++ ins v x
 | [], _, _, _ => rfl
 | y :: u, v, x, h => by
  show ins (y :: (u ++ v)) x = y :: (u ++ ins v x)
  simp only [ins];rw [ag (h y (by simp)), PB u v x (fun z hz => h z (by simp [hz]))]
theorem U9 : ∀ (u v : List It) (x : It), (∃ z ∈ u, x.key ≤ z.key) → ins (u ++ v) x = ins u x ++ v
 | [], _, _, h => by obtain ⟨z, hz, _⟩ := h; cases hz
 | y :: u, v, x, h => by
  show ins (y :: (u ++ v)) x = ins (y :: u) x ++ v
  simp only [ins]
  split
  ·
   rename_i hlt
   rw [U9 u v x (by
    obtain ⟨z, hz, hx⟩ := h
    rcases List.mem_cons.1 hz with rfl | hz
    ·
     omega
    exact ⟨z, hz, hx⟩)]
   rfl
  split <;> rfl
theorem zI3 (u : List It) (y : It) (key : Int) : gl (u ++ [y]) key = gl u key ++ if y.key = key then [] else [y] := by
 unfold gl;rw [cQ]
 by_cases h : y.key = key
 ·
  rw [ag h]; simp [h]
 rw [ah h]; simp [h]
structure gF (s : List It) (x : It) (i : Nat) (done : Bool) (out : List It) : Prop where
 no : done = false → out = s.take i ∧ ∀ z ∈ s.take i, z.key < x.key
 yes : done = true → out = ins (s.take i) x ∧ ∃ j, j < i ∧ x.key ≤ (dX s j).key
theorem gF.start (s : List It) (x : It) : gF s x 0 false [] := ⟨fun _ => ⟨rfl, fun z hz => by cases hz⟩, fun h => by cases h⟩
theorem gF.low {s out : List It} {x : It} {i : Nat} (h : gF s x i false out) (hi : i < s.length) (hk : (dX s i).key < x.key) : gF s x (i + 1) false (out ++ [dX s i]) := by
 obtain ⟨h1, h2⟩ := h.no rfl;refine ⟨fun _ => ⟨by rw [xB hi, h1], fun z hz => ?_⟩, fun h => by cases h⟩;rw [xB hi] at hz;rcases List.mem_append.1 hz with hz | hz
 ·
  exact h2 z hz
 rw [List.mem_singleton.1 hz]; exact hk
theorem gF.here {s out : List It} {x : It} {i : Nat} (h : gF s x i false out) (hi : i < s.length) (hk : (dX s i).key = x.key) : gF s x (i + 1) true (out ++ [x]) := by
 obtain ⟨h1, h2⟩ := h.no rfl;refine ⟨(fun h => by cases h), fun _ => ⟨?_, i, by omega, by omega⟩⟩;rw [xB hi, PB _ _ _ h2, h1];simp only [ins];rw [ah (by omega), ag hk]
theorem gF.ahead {s out : List It} {x : It} {i : Nat} (h : gF s x i false out) (hi : i < s.length) (hk : x.key < (dX s i).key) : gF s x (i + 1) true (out ++ [x] ++ [dX s i]) := by
 obtain ⟨h1, h2⟩ := h.no rfl;refine ⟨(fun h => by cases h), fun _ => ⟨?_, i, by omega, by omega⟩⟩;rw [xB hi, PB _ _ _ h2, h1];simp only [ins];rw [ah (by omega), ah (by omega), bp]; rfl
theorem gF.gt {s out : List It} {x : It} {i : Nat} (h : gF s x i true out) (ha : jZ s) (hi : i < s.length) : x.key < (dX s i).key := by
 obtain ⟨_, j, hj, hx⟩ := h.yes rfl;exact Int.lt_of_le_of_lt hx (ha.mono hj hi)
theorem gF.more {s out : List It} {x : It} {i : Nat} (h : gF s x i true out) (hi : i < s.length) : gF s x (i + 1) true (out ++ [dX s i]) := by
 obtain ⟨h1, j, hj, hx⟩ := h.yes rfl;refine ⟨(fun h => by cases h), fun _ => ⟨?_, j, by omega, hx⟩⟩;rw [xB hi, U9 _ _ _ ⟨dX s j, ?_, hx⟩, h1];have hm : dX (s.take i) j ∈ s.take i := t7 (by rw [ay]; omega)
 rwa [wX hj] at hm
theorem gF.PD {s out : List It} {x : It} (h : gF s x s.length true out) : out = ins s x := by
 have := (h.yes rfl).1
 rwa [ct] at this
theorem gF.PE {s out : List It} {x : It} (h : gF s x s.length false out) : out ++ [x] = ins s x := by
 obtain ⟨h1, h2⟩ := h.no rfl;rw [ct] at h1 h2;rw [Pa x s h2, h1]
theorem gF.len {s out : List It} {x : It} {i : Nat} {b : Bool} (h : gF s x i b out) : out.length ≤ i + 1 := by
 cases b with
 | false => rw [(h.no rfl).1, ay]; omega
 | true =>
  have := vQ x (s.take i);rw [(h.yes rfl).1];have h2 : (s.take i).length ≤ i := by rw [ay]; omega
  omega
theorem zKa {l : List It} {key : Int} {r : Nat} (h : r < l.length) (hk : (dX l r).key = key) (hn : ∀ j, r < j → j < l.length → (dX l j).key ≠ key) : fG (fC l) key = some (dX l r) := by
 rw [Py];have e : l = l.take r ++ dX l r :: l.drop (r + 1) := by rw [← vJ h, bJ]
 have h0 : (l.drop (r + 1)).filter (fun y => y.key == key) = [] := by
  rw [List.filter_eq_nil_iff];intro y hy;obtain ⟨j, hj, rfl⟩ := vw hy;rw [xg];rw [aK] at hj
  simpa using hn (r + 1 + j) (by omega) (by omega)
 conv => lhs; rw [e]
 rw [cQ, cu, ag (by simp [hk]), h0, List.getLast?_append]
 rfl
theorem zHa {l : List It} {key : Int} (hn : ∀ j, j < l.length → (dX l j).key ≠ key) : fG (fC l) key = none := by
 rw [Py];have h0 : l.filter (fun y => y.key == key) = [] := by
  rw [List.filter_eq_nil_iff];intro y hy;obtain ⟨j, hj, rfl⟩ := vw hy
  simpa using hn j hj
 rw [h0]; rfl
def U_ (s v : List It) : List It := v.foldl ins s
def fl (key : Int) : Nat := (key * 11400714819323198485 % 18446744073709551616 / 2305843009213693952).toNat
theorem wS (key : Int) : fl key < 8 := by unfold fl; omega
structure Mp where
 st : Nat → List It
 live : Int
 dW : Int
def cat (f : Nat → List It) : Nat → List It
 | 0 => []
 | n + 1 => cat f n ++ f n
def vA (M : Mp) : List It := cat M.st 8
def rV (M : Mp) (i : Nat) : Bool := xp (M.st i) && (M.st i).all fun x => fl x.key == i
def yw (M : Mp) : Bool := (List.range 8).all (rV M) && (M.live == (zv (vA M) : Int)) && decide (0 ≤ M.dW) && decide (M.dW ≤ 1099511627776)
structure fO (M : Mp) : Prop where
 ok : ∀ i, i < 8 → xp (M.st i) = true
 sp : ∀ i, i < 8 → ∀ x ∈ M.st i, fl x.key = i
 lv : M.live = (zv (vA M) : Int)
 g0 : 0 ≤ M.dW
 g1 : M.dW ≤ 1099511627776
theorem zV (M : Mp) : yw M = true ↔ fO M := by
 unfold yw rV;rw [aM, aM, aM, dE, aT, aT, cz]
 constructor
 ·
  rintro ⟨⟨⟨h1, h2⟩, h3⟩, h4⟩;have h := fun i (hi : i < 8) => Bool.and_eq_true_iff.1 (h1 i (List.mem_range.2 hi))
  exact ⟨fun i hi => (h i hi).1, fun i hi x hx => beq_iff_eq.1 (List.all_eq_true.1 (h i hi).2 x hx), h2, h3, h4⟩
 rintro ⟨h1, h2, h3, h4, h5⟩;exact ⟨⟨⟨fun i hi => Bool.and_eq_true_iff.2 ⟨h1 i (List.mem_range.1 hi), List.all_eq_true.2 fun x hx => beq_iff_eq.2 (h2 i (List.mem_range.1 hi) x hx)⟩, h3⟩, h4⟩, h5⟩
theorem qU {l : List It} (h : jZ l) : l.Pairwise fun a b => a.key < b.key := uw ((xX _).2 h)
theorem vt {l : List It} (h : xp l = true) : jZ l := (uP.1 h).1
theorem zH7 {l : List It} (h : jZ l) {y : It} (hy : y ∈ l) : fG l y.key = some y := by
 have hp := qU h;clear h
 induction l with
 | nil => cases hy
 | cons x l ih =>
  rw [dz] at hp;rw [zl];rcases List.mem_cons.1 hy with rfl | hy
  ·
   rw [ag rfl]
  rw [ah (by have := hp.1 y hy; omega)]; exact ih hy hp.2
theorem zDF {l : List It} {k : Int} (h : fG l k = none) : ∀ x ∈ l, x.key ≠ k := fun x hx => by
 unfold fG at h;rw [List.find?_eq_none] at h
 simpa using h x hx
theorem Va (s : List It) (k : Int) : ∀ n (v : List It), v.length = n → fG (v.foldl ins s) k = match fG (fC v) k with | some x => some x | none => fG s k
 | 0, v, h => by rw [List.length_eq_zero_iff.1 h]; rfl
 | n + 1, v, h => by
  obtain ⟨u, y, rfl⟩ : ∃ u y, v = u ++ [y] := by
   have hv : v ≠ [] := fun e => by rw [e] at h; cases h
   exact ⟨v.dropLast, v.getLast hv, (List.dropLast_concat_getLast hv).symm⟩
  have ih := Va s k n u (by rw [aA] at h; simpa using h);rw [dt, zJs]
  show fG (ins (u.foldl ins s) y) k = _
  rw [tS, tS, ih]
  by_cases e : y.key = k
  ·
   rw [ag e, ag e]
  rw [ah e, ah e]
theorem zJ6 (u v : List It) (k : Int) : fG (fC (u ++ v)) k = match fG (fC v) k with | some x => some x | none => fG (fC u) k := by
 rw [qj]; exact Va (fC u) k _ v rfl
theorem PG (f : Nat → List It) (k : Int) : ∀ n, (∀ i, i < n → jZ (f i) ∧ ∀ x ∈ f i, fl x.key = i) → fG (fC (cat f n)) k = if fl k < n then fG (f (fl k)) k else none
 | 0, _ => by rw [ah (by omega)]; rfl
 | n + 1, h => by
  have ih := PG f k n (fun i hi => h i (by omega));obtain ⟨ha, hs⟩ := h n (by omega)
  show fG (fC (cat f n ++ f n)) k = _
  rw [zJ6, yK ha, ih]
  by_cases e : fl k = n
  ·
   rw [ah (show ¬ fl k < n by omega), ag (show fl k < n + 1 by omega), e]
   cases fG (f n) k <;> rfl
  have hn : fG (f n) k = none := wt fun x hx e2 => e (by rw [← e2]; exact hs x hx)
  rw [hn]
  by_cases hl : fl k < n
  ·
   rw [ag hl, ag (by omega)]
  rw [ah hl, ah (by omega)]
theorem fO.fG {M : Mp} (h : fO M) (k : Int) : fG (fC (vA M)) k = fG (M.st (fl k)) k := by
 have := PG M.st k 8 (fun i hi => ⟨vt (h.ok i hi), h.sp i hi⟩);rw [ag (wS k)] at this;exact this
theorem Vb (p : It → Bool) (b : Bool) (k : Int) (hp : ∀ x : It, x.key = k → p x = b) : ∀ l : List It, fG (l.filter p) k = if b then fG l k else none
 | [] => by cases b <;> rfl
 | x :: l => by
  have ih := Vb p b k hp l
  by_cases e : x.key = k
  ·
   rw [cu, hp x e]
   cases b
   ·
    simpa using ih
   simp only [if_true]; rw [zl, zl, ag e, ag e]
  rw [cu]
  split
  ·
   rw [zl, ah e, ih, zl, ah e]
  rw [ih, zl, ah e]
def nX (i : Nat) (l : List It) : List It := l.filter fun x => fl x.key == i
theorem uj (i : Nat) (l : List It) (k : Int) : fG (nX i l) k = if fl k = i then fG l k else none := by
 have := Vb (fun x => fl x.key == i) (decide (fl k = i)) k (fun x e => by rw [e]; by_cases h : fl k = i <;> simp [h]) l;unfold nX;rw [this]
 by_cases h : fl k = i <;> simp [h]
theorem PH (i : Nat) {l : List It} (h : jZ l) : (nX i l).Pairwise fun a b => a.key < b.key := (qU h).filter _
theorem fO.nX {M : Mp} (h : fO M) {i : Nat} (hi : i < 8) : nX i (fC (vA M)) = M.st i := by
 refine qB _ _ (PH i (wi _)) (qU (vt (h.ok i hi))) fun k => ?_
 rw [uj, h.fG]
 by_cases e : fl k = i
 ·
  rw [ag e, e]
 rw [ah e];exact (wt fun x hx e2 => e (by rw [← e2]; exact h.sp i hi x hx)).symm
theorem zKZ {l : List It} (h : jZ l) (x : It) (i : Nat) : nX i (ins l x) = if fl x.key = i then ins (nX i l) x else nX i l := by
 have hp := PH i h;refine qB _ _ ((uw (qP _ _ ((xX _).2 h))).filter _) ?_ fun k => ?_
 ·
  split
  ·
   exact uw (qP _ _ (Pq hp))
  exact hp
 rw [uj, tS]
 by_cases e : fl x.key = i
 ·
  rw [ag e, tS, uj]
  by_cases e2 : x.key = k
  ·
   rw [ag e2, ag (show fl k = i by rw [← e2]; exact e), ag e2]
  rw [ah e2, ah e2]
 rw [ah e, uj]
 by_cases e2 : x.key = k
 ·
  rw [ah (by rw [← e2]; exact e), ah (by rw [← e2]; exact e)]
 rw [ah e2]
theorem zKV {l : List It} (h : jZ l) (key : Int) (i : Nat) : nX i (gl l key) = if fl key = i then gl (nX i l) key else nX i l := by
 have hp := PH i h;refine qB _ _ ((qU (Pr h key)).filter _) ?_ fun k => ?_
 ·
  split
  ·
   exact hp.filter _
  exact hp
 rw [uj, PA]
 by_cases e : fl key = i
 ·
  rw [ag e, PA, uj]
  by_cases e2 : k = key
  ·
   rw [ag e2, ag (show fl k = i by rw [e2]; exact e), ag e2]
  rw [ah e2, ah e2]
 rw [ah e, uj]
 by_cases e2 : k = key
 ·
  rw [ah (by rw [e2]; exact e), ah (by rw [e2]; exact e)]
 rw [ah e2]
/-! ### Bytes -/
def gW : Option It → Nat
 | some y => eM y.size.toNat
 | none => 0
theorem PI (x : It) : ∀ s : List It, jZ s → zv (ins s x) + gW (fG s x.key) = zv s + eM x.size.toNat := fun s h => by
 have hp := qU h;clear h
 induction s with
 | nil => simp [ins, zv, gW, fG]
 | cons y s ih =>
  rw [dz] at hp;have ih := ih hp.2;rw [zl];simp only [ins]
  split
  ·
   rename_i hlt;rw [ah (by omega)]
   show eM y.size.toNat + zv (ins s x) + _ = eM y.size.toNat + zv s + _
   omega
  split
  ·
   rename_i hle he
   show eM x.size.toNat + zv s + eM y.size.toNat = eM y.size.toNat + zv s + _
   omega
  rename_i hle he;have : fG s x.key = none := wt fun z hz e => by have := hp.1 z hz; omega
  rw [this]
  show eM x.size.toNat + (eM y.size.toNat + zv s) + 0 = eM y.size.toNat + zv s + _
  omega
theorem Vc (key : Int) : ∀ s : List It, jZ s → zv (gl s key) + gW (fG s key) = zv s := fun s h => by
 have hp := qU h;clear h
 induction s with
 | nil => rfl
 | cons y s ih =>
  rw [dz] at hp;have ih := ih hp.2;rw [zl]
  by_cases e : y.key = key
  ·
   have hn : gl s key = s := by
    unfold gl;rw [List.filter_eq_self];intro z hz;have := hp.1 z hz;have : z.key ≠ key := by omega
    simpa using this
   have : gl (y :: s) key = s := by rw [← hn]; unfold gl; rw [cu, ah (by simpa using e), List.filter_filter]; simp
   rw [ag e, this]
   show zv s + eM y.size.toNat = eM y.size.toNat + zv s
   omega
  have : gl (y :: s) key = y :: gl s key := by unfold gl; rw [cu, ag (by simpa using e)]
  rw [ah e, this]
  show eM y.size.toNat + zv (gl s key) + _ = eM y.size.toNat + zv s
  omega
theorem Vd : ∀ (v s : List It), jZ s → (v.Pairwise fun a b => a.key < b.key) → (∀ x ∈ v, fG s x.key = none) → zv (v.foldl ins s) = zv s + zv v
 | [], s, _, _, _ => by simp [zv]
 | x :: v, s, hs, hv, hn => by
  rw [dz] at hv;have h1 := PI x s hs;rw [hn x (by simp)] at h1
  show zv (v.foldl ins (ins s x)) = _
  rw [Vd v (ins s x) ((xX _).1 (qP _ _ ((xX _).2 hs))) hv.2 (fun y hy => by
   rw [tS, ah (by have := hv.1 y hy; omega)]; exact hn y (by simp [hy]))]
  show _ = zv s + (eM x.size.toNat + zv v)
  simp only [gW] at h1;omega
theorem Ve (f : Nat → List It) : ∀ n, (∀ i, i < n → jZ (f i) ∧ ∀ x ∈ f i, fl x.key = i) → zv (fC (cat f n)) = zv (cat f n)
 | 0, _ => rfl
 | n + 1, h => by
  have ih := Ve f n (fun i hi => h i (by omega));obtain ⟨ha, hs⟩ := h n (by omega)
  show zv (fC (cat f n ++ f n)) = zv (cat f n ++ f n)
  rw [qj, Vd _ _ (wi _) (qU ha) (fun x hx => by
   rw [PG f x.key n (fun i hi => h i (by omega)), ah (by rw [hs x hx]; omega)]), xE, ih]
theorem fO.sum {M : Mp} (h : fO M) : zv (fC (vA M)) = zv (vA M) := Ve M.st 8 fun i hi => ⟨vt (h.ok i hi), h.sp i hi⟩
end Go.Proofs.YtcgfilmmokmdjaaGreat
namespace Go.Proofs.YtcgfilmmokmdjaaGreat
open Go.RowKit
structure jH (w : World) (b : Nat) (x : It) : Prop where
 c0 : w.cell? ⟨b, 0, none⟩ = some (.int .u64 x.key)
 c1 : w.cell? ⟨b, 1, none⟩ = some (.int .u32 x.ck)
 c2 : w.cell? ⟨b, 2, none⟩ = some (.int .i64 x.off)
 c3 : w.cell? ⟨b, 3, none⟩ = some (.int .i64 x.size)
theorem jH.q {w : World} {b : Nat} {x : It} (h : jH w b x) : w.cell? ⟨b, 0, none⟩ = some (.int .u64 x.key) ∧ w.cell? ⟨b, 1, none⟩ = some (.int .u32 x.ck) ∧ w.cell? ⟨b, 2, none⟩ = some (.int .i64 x.off) ∧ w.cell? ⟨b, 3, none⟩ = some (.int .i64 x.size) := ⟨h.c0, h.c1, h.c2, h.c3⟩
theorem jH.below {w w' : World} {b : Nat} {x : It} (h : jH w b x) (hb : Below w.heap.size w w') : jH w' b x :=
 ⟨Below.keeps hb _ _ h.c0, Below.keeps hb _ _ h.c1, Below.keeps hb _ _ h.c2, Below.keeps hb _ _ h.c3⟩
abbrev xF (x : It) : Obj := .cells #[.int .u64 x.key, .int .u32 x.ck, .int .i64 x.off, .int .i64 x.size] 49
theorem jH.new (w : World) (x : It) : jH (w.alloc (xF x)) w.heap.size x := ⟨by simp, by simp, by simp, by simp⟩
theorem z8 (w : World) (x : It) : Below w.heap.size w (w.alloc (xF x)) := (aj _ _).alloc (ai _) _
theorem jH.set {w : World} {b : Nat} {x : It} (h : jH w b x) (y : It) : jH ((((w.setCell ⟨b, 0, none⟩ (.int .u64 y.key)).setCell ⟨b, 1, none⟩ (.int .u32 y.ck)).setCell ⟨b, 2, none⟩ (.int .i64 y.off)).setCell ⟨b, 3, none⟩ (.int .i64 y.size)) b y := by
 obtain ⟨h0, h1, h2, h3⟩ := h;exact ⟨by simp [go_sem, h0], by simp [go_sem, h1], by simp [go_sem, h2], by simp [go_sem, h3]⟩
structure Sl where
 a : Nat → Option Addr
 n : Nat → Nat
 c : Nat → Nat
def Sl.v (s : Sl) (i : Nat) : Value := .slice (s.a i) (s.n i) (s.c i)
def Sl.set (s : Sl) (k : Nat) (a : Option Addr) (n c : Nat) : Sl := ⟨fun i => if i = k then a else s.a i, fun i => if i = k then n else s.n i, fun i => if i = k then c else s.c i⟩
def Sl.nil : Sl := ⟨fun _ => none, fun _ => 0, fun _ => 0⟩
theorem Sl.nY (s : Sl) (k : Nat) (a : Option Addr) (n c i : Nat) : (s.set k a n c).v i = if i = k then .slice a n c else s.v i := by
 unfold Sl.set Sl.v
 by_cases h : i = k
 ·
  simp [h]
 simp [h]
abbrev yN (s : Sl) (l g : Int) : Array Value := #[.slice (s.a 0) (s.n 0) (s.c 0), .slice (s.a 1) (s.n 1) (s.c 1), .slice (s.a 2) (s.n 2) (s.c 2), .slice (s.a 3) (s.n 3) (s.c 3), .slice (s.a 4) (s.n 4) (s.c 4), .slice (s.a 5) (s.n 5) (s.c 5), .slice (s.a 6) (s.n 6) (s.c 6), .slice (s.a 7) (s.n 7) (s.c 7), .int .i64 l, .int .i64 g]
abbrev yA (s : Sl) (l g : Int) : Value := .agg (yN s l g)
abbrev zML (s : Sl) : Array Value := #[.slice (s.a 0) (s.n 0) (s.c 0), .slice (s.a 1) (s.n 1) (s.c 1), .slice (s.a 2) (s.n 2) (s.c 2), .slice (s.a 3) (s.n 3) (s.c 3), .slice (s.a 4) (s.n 4) (s.c 4), .slice (s.a 5) (s.n 5) (s.c 5), .slice (s.a 6) (s.n 6) (s.c 6), .slice (s.a 7) (s.n 7) (s.c 7)]
def fw (w : World) (s : Sl) (f : Nat → List It) : Prop := ∀ i, i < 8 → iQ w (s.v i) (f i)
theorem fw.below {w w' : World} {s : Sl} {f : Nat → List It} (h : fw w s f) (hb : Below w.heap.size w w') : fw w' s f := fun i hi => (h i hi).below hb
theorem fw.n {w : World} {s : Sl} {f : Nat → List It} (h : fw w s f) {i : Nat} (hi : i < 8) : s.n i = (f i).length := by
 obtain ⟨a, c, e, _, _⟩ := (h i hi).shape;injection e
structure eB (W : World) (b : Nat) (s : Sl) (l g : Int) : Prop where
 c : ∀ j, j < 8 → W.cell? ⟨b, j, none⟩ = some (s.v j)
 cl : W.cell? ⟨b, 8, none⟩ = some (.int .i64 l)
 cg : W.cell? ⟨b, 9, none⟩ = some (.int .i64 g)
 f : ∀ i, W.frozen? ⟨b, i, none⟩ = false
theorem eB.q {W : World} {b : Nat} {s : Sl} {l g : Int} (h : eB W b s l g) : W.cell? ⟨b, 0, none⟩ = some (.slice (s.a 0) (s.n 0) (s.c 0)) ∧ W.cell? ⟨b, 1, none⟩ = some (.slice (s.a 1) (s.n 1) (s.c 1)) ∧ W.cell? ⟨b, 2, none⟩ = some (.slice (s.a 2) (s.n 2) (s.c 2)) ∧ W.cell? ⟨b, 3, none⟩ = some (.slice (s.a 3) (s.n 3) (s.c 3)) ∧ W.cell? ⟨b, 4, none⟩ = some (.slice (s.a 4) (s.n 4) (s.c 4)) ∧ W.cell? ⟨b, 5, none⟩ = some (.slice (s.a 5) (s.n 5) (s.c 5)) ∧ W.cell? ⟨b, 6, none⟩ = some (.slice (s.a 6) (s.n 6) (s.c 6)) ∧ W.cell? ⟨b, 7, none⟩ = some (.slice (s.a 7) (s.n 7) (s.c 7)) ∧ W.cell? ⟨b, 8, none⟩ = some (.int .i64 l) ∧ W.cell? ⟨b, 9, none⟩ = some (.int .i64 g) := ⟨h.c 0 (by decide), h.c 1 (by decide), h.c 2 (by decide), h.c 3 (by decide), h.c 4 (by decide), h.c 5 (by decide), h.c 6 (by decide), h.c 7 (by decide), h.cl, h.cg⟩
theorem Gu {j : Nat} (h : j < 8) : j = 0 ∨ j = 1 ∨ j = 2 ∨ j = 3 ∨ j = 4 ∨ j = 5 ∨ j = 6 ∨ j = 7 := by omega
theorem eB.new (W : World) (s : Sl) (l g : Int) (t : TypeId) : eB (W.alloc (.cells (yN s l g) t)) W.heap.size s l g :=
 ⟨fun j hj => by rcases Gu hj with h | h | h | h | h | h | h | h <;> subst h <;> simp [Sl.v], by simp, by simp, fun i => by simp⟩
theorem eB.keep {W W' : World} {b B : Nat} {s : Sl} {l g : Int} (h : eB W b s l g) (hb : b < B) (hB : Below B W W') : eB W' b s l g :=
 ⟨fun j hj => (hB.cell (p := ⟨b, j, none⟩) hb).trans (h.c j hj), (hB.cell (p := ⟨b, 8, none⟩) hb).trans h.cl, (hB.cell (p := ⟨b, 9, none⟩) hb).trans h.cg, fun i => (hB.frozen (p := ⟨b, i, none⟩) hb).trans (h.f i)⟩
theorem eB.lt {W : World} {b : Nat} {s : Sl} {l g : Int} (h : eB W b s l g) : b < W.heap.size := cI W _ h.cl
theorem eB.below {W W' : World} {b : Nat} {s : Sl} {l g : Int} (h : eB W b s l g) (hB : Below W.heap.size W W') : eB W' b s l g := h.keep h.lt hB
theorem eB.Ew {W : World} {b : Nat} {s : Sl} {l g : Int} (h : eB W b s l g) {k : Nat} (hk : k < 8) (a : Option Addr) (n c : Nat) : eB (W.setCell ⟨b, k, none⟩ (.slice a n c)) b (s.set k a n c) l g := by
 have hkc := h.c k hk;refine ⟨fun j hj => ?_, ?_, ?_, fun i => by simp [h.f]⟩
 ·
  rw [Sl.nY]
  by_cases e : j = k
  ·
   subst e; rw [ag rfl]; simp [go_sem, hkc]
  rw [ah e];have := h.c j hj;simp [go_sem, this]
 ·
  have := h.cl;simp [go_sem, this]
 have := h.cg;simp [go_sem, this]
theorem Kk (n : Nat) (w : World) : Calls Tryz.prog 53 #[.int .i64 (n : Int)] w fun e w' => e = .returned (.int .i64 ((eM n : Nat) : Int)) ∧ w = w' := by
 by_cases hn : n ≤ 4096
 ·
  have HS := zh (show ((eM n : Nat) : Int) = (20 + (n : Int) + 4 + 8 - 1) / 8 * 8 by unfold eM oQ; rw [ag hn]; omega);have hd : decide ((4096 : Int) < (n : Int)) = false := by simp; omega
  have hd2 : decide ((n : Int) < 0) = false := by simp
  go_enter Tryz.func53, Tryz.ntmps53
  go_wp2_with fail;go_ret;exact ⟨wT (by rw [HS.out]), rfl⟩
 have HS := zh (show eM n = 0 by unfold eM; rw [ah hn]);have hd : decide ((4096 : Int) < (n : Int)) = true := by simp; omega
 have hd2 : decide ((n : Int) < 0) = false := by simp
 go_enter Tryz.func53, Tryz.ntmps53
 go_wp2_with fail;go_ret;exact ⟨wT (by rw [HS.out]; rfl), rfl⟩
theorem Nn (n : Nat) (w : World) : Calls Tryz.prog 28 #[.int .i64 (n : Int)] w fun e w' => e = .returned (.int .i64 ((eM n : Nat) : Int)) ∧ w = w' := by
 by_cases hn : n ≤ 4096
 ·
  have HS := zh (show ((eM n : Nat) : Int) = (20 + (n : Int) + 4 + 8 - 1) / 8 * 8 by unfold eM oQ; rw [ag hn]; omega);have hd : decide ((4096 : Int) < (n : Int)) = false := by simp; omega
  have hd2 : decide ((n : Int) < 0) = false := by simp
  go_enter Tryz.func28, Tryz.ntmps28
  go_wp2_with fail;go_ret;exact ⟨wT (by rw [HS.out]; omega), rfl⟩
 have HS := zh (show eM n = 0 by unfold eM; rw [ah hn]);have hd : decide ((4096 : Int) < (n : Int)) = true := by simp; omega
 have hd2 : decide ((n : Int) < 0) = false := by simp
 go_enter Tryz.func28, Tryz.ntmps28
 go_wp2_with fail;go_ret;exact ⟨wT (by rw [HS.out]; rfl), rfl⟩
end Go.Proofs.YtcgfilmmokmdjaaGreat
namespace Go.Proofs.YtcgfilmmokmdjaaGreat.Fx
open Ieee
def fb (n : Int) : Nat := FloatKind.f64.nearest n
def Small (n : Int) : Prop := n.natAbs < 2 ^ 53
theorem Vf : (2 : Nat) ^ 52 = 4503599627370496 := rfl
theorem Km : (2 : Nat) ^ 53 = 9007199254740992 := rfl
theorem Kn : double.infRung = 9218868437227405312 := rfl
theorem PL : double.binade = 4503599627370496 := rfl
theorem Gv : double.signWeight = 9223372036854775808 := rfl
theorem sF (a k : Nat) (h : 0 < a) : (a * 2 ^ k).log2 = a.log2 + k := by
 have ha : a ≠ 0 := by omega
 have hp : 0 < 2 ^ k := Nat.two_pow_pos k;have hm : a * 2 ^ k ≠ 0 := Nat.mul_ne_zero ha (by omega);refine Nat.le_antisymm ?_ ?_
 ·
  refine Nat.lt_succ_iff.1 ((Nat.log2_lt hm).2 ?_);rw [show (a.log2 + k).succ = (a.log2 + 1) + k by omega, Nat.pow_add];exact Nat.mul_lt_mul_of_pos_right ((Nat.log2_lt ha).1 (dA _)) hp
 refine (Nat.le_log2 hm).2 ?_;rw [Nat.pow_add];exact aW _ ((Nat.le_log2 ha).1 (ai _))
theorem ru {a : Nat} (h : 0 < a) (hs : a < 2 ^ 53) : a.log2 ≤ 52 := Nat.lt_succ_iff.1 ((Nat.log2_lt (by omega)).2 hs)
theorem full {a : Nat} (h : 0 < a) (hs : a < 2 ^ 53) : 2 ^ 52 ≤ a * 2 ^ (52 - a.log2) ∧ a * 2 ^ (52 - a.log2) < 2 ^ 53 := by
 have hl := ru h hs;have h1 := (Nat.le_log2 (n := a) (by omega)).1 (ai _);have h2 := (Nat.log2_lt (n := a) (by omega)).1 (dA _);have hp : 0 < 2 ^ (52 - a.log2) := Nat.two_pow_pos _;refine ⟨?_, ?_⟩
 ·
  have := aW (2 ^ (52 - a.log2)) h1
  rwa [← Nat.pow_add, show a.log2 + (52 - a.log2) = 52 by omega] at this
 have := Nat.mul_lt_mul_of_pos_right h2 hp
 rwa [← Nat.pow_add, show a.log2.succ + (52 - a.log2) = 53 by omega] at this
theorem lC (way : Toward) (neg : Bool) (b k : Nat) (h : k ≤ (b * 2 ^ k).log2 + 2 ∨ b = 0) : way.cut neg (b * 2 ^ k) k = b := by
 unfold Toward.cut;rcases h with h | h
 ·
  rw [bH h, Nat.shiftLeft_eq, Nat.one_mul];have hp : 0 < 2 ^ k := Nat.two_pow_pos k;simp only [Nat.mul_div_cancel _ hp, Nat.mul_mod_left]
  cases way <;> cases neg <;> simp <;> omega
 subst h;rw [Nat.zero_mul];have hp : 0 < 1 <<< min k (Nat.log2 0 + 2) := by rw [Nat.shiftLeft_eq, Nat.one_mul]; exact Nat.two_pow_pos _
 simp only [Nat.zero_div, Nat.zero_mod]
 cases way <;> cases neg <;> simp <;> omega
def Ap (a : Nat) : Nat := (a.log2 + 1022) * 2 ^ 52 + a * 2 ^ (52 - a.log2)
theorem k_ (neg : Bool) (a k : Nat) (h : 0 < a) (hs : a < 2 ^ 53) : double.nearest neg (a * 2 ^ k) (-(k : Int)) = double.word neg (Ap a) := by
 have hl := ru h hs;have hf := full h hs;have hm : a * 2 ^ k ≠ 0 := Nat.mul_ne_zero (by omega) (by have := Nat.two_pow_pos k; omega);unfold Format.nearest;rw [ah hm];have hlp : double.leastPlace = -1074 := by decide
 have hb : double.binade = 2 ^ 52 := rfl;have Ko := sF a k h;have hfr : double.fractionBits = 52 := rfl;have Kq : max (-(k : Int) + ((a * 2 ^ k).log2 : Int) - (double.fractionBits : Int)) double.leastPlace = (a.log2 : Int) - 52 := by
  rw [Ko, hlp, hfr]; omega
 have Kr : Toward.even.cut neg ((a * 2 ^ k) <<< (-(k : Int) - ((a.log2 : Int) - 52)).toNat) ((a.log2 : Int) - 52 - -(k : Int)).toNat = a * 2 ^ (52 - a.log2) := by
  rw [Nat.shiftLeft_eq]
  by_cases hc : k + a.log2 ≤ 52
  ·
   have e1 : (-(k : Int) - ((a.log2 : Int) - 52)).toNat = 52 - a.log2 - k := by omega
   have e2 : ((a.log2 : Int) - 52 - -(k : Int)).toNat = 0 := by omega
   rw [e1, e2, Nat.mul_assoc, ← Nat.pow_add, show k + (52 - a.log2 - k) = 52 - a.log2 by omega];have := lC .even neg (a * 2 ^ (52 - a.log2)) 0 (.inl (by omega))
   rwa [Nat.pow_zero, Nat.mul_one] at this
  have e1 : (-(k : Int) - ((a.log2 : Int) - 52)).toNat = 0 := by omega
  have e2 : ((a.log2 : Int) - 52 - -(k : Int)).toNat = k - (52 - a.log2) := by omega
  rw [e1, e2, Nat.pow_zero, Nat.mul_one];have e3 : a * 2 ^ k = a * 2 ^ (52 - a.log2) * 2 ^ (k - (52 - a.log2)) := by
   rw [Nat.mul_assoc, ← Nat.pow_add, show 52 - a.log2 + (k - (52 - a.log2)) = k by omega]
  rw [e3];refine lC .even neg _ _ (.inl ?_);rw [← e3, Ko]; omega
 simp only [Kq, Kr];have hr : ((a.log2 : Int) - 52 - double.leastPlace).toNat * double.binade + a * 2 ^ (52 - a.log2) = Ap a := by
  rw [hlp, hb, show ((a.log2 : Int) - 52 - -1074).toNat = a.log2 + 1022 by omega]; rfl
 rw [hr, bH];rw [Kn];unfold Ap;rw [Vf, Km] at *;omega
theorem Ks (n : Int) : fb n = double.nearest (decide (n < 0)) n.natAbs 0 := rfl
theorem wr (n : Int) (hs : Small n) (k : Nat) : double.nearest (decide (n < 0)) (n.natAbs * 2 ^ k) (-(k : Int)) = fb n := by
 rw [Ks]
 by_cases h0 : n = 0
 ·
  subst h0;unfold Format.nearest;simp
 have h := k_ (decide (n < 0)) n.natAbs k (by omega) hs;have h' := k_ (decide (n < 0)) n.natAbs 0 (by omega) hs;rw [Nat.pow_zero, Nat.mul_one] at h';rw [h];exact h'.symm
theorem BQ (neg : Bool) (r : Nat) (h1 : 4503599627370496 ≤ r) (h2 : r < 9218868437227405312) : double.read (double.word neg r) = .number neg (4503599627370496 + r % 4503599627370496) (-1074 + ((r / 4503599627370496 - 1 : Nat) : Int)) := by
 have hlp : double.leastPlace = -1074 := by decide
 have e1 : double.word neg r % 9223372036854775808 = r := by
  unfold Format.word;rw [Gv]
  cases neg
  ·
   simp only [Bool.false_eq_true, if_false]; omega
  simp only [if_true]; omega
 have e2 : (double.word neg r / 9223372036854775808 % 2 == 1) = neg := by
  unfold Format.word;rw [Gv]
  cases neg
  ·
   simp only [Bool.false_eq_true, if_false]; rw [beq_eq_false_iff_ne]; omega
  simp only [if_true]; rw [cz]; omega
 unfold Format.read;simp only [Gv, PL, Kn, e1, e2, hlp];rw [ah (by omega), ag h2]
theorem rd (n : Int) (hs : Small n) : ∃ k : Nat, double.read (fb n) = .number (decide (n < 0)) (n.natAbs * 2 ^ k) (-(k : Int)) := by
 by_cases h0 : n = 0
 ·
  subst h0;have e : double.read (fb 0) = .number false 0 (-1074) := rfl;obtain ⟨K, hK⟩ : ∃ K : Nat, K = 1074 := ⟨_, rfl⟩
  refine ⟨K, ?_⟩;rw [e, Int.natAbs_zero, Nat.zero_mul, hK]
  rfl
 have ha : 0 < n.natAbs := by omega
 have hl := ru ha hs;have hf := full ha hs;have h := k_ (decide (n < 0)) n.natAbs 0 ha hs;rw [Nat.pow_zero, Nat.mul_one] at h;have e : fb n = double.word (decide (n < 0)) (Ap n.natAbs) := h;have hr : Ap n.natAbs = (n.natAbs.log2 + 1022) * 4503599627370496 + n.natAbs * 2 ^ (52 - n.natAbs.log2) := rfl;rw [Vf, Km] at hf;have hg : ∃ k, k = 52 - n.natAbs.log2 := ⟨_, rfl⟩
 obtain ⟨k, hk⟩ := hg;refine ⟨k, ?_⟩;rw [← hk] at hf hr;have hg : ∃ q, q = n.natAbs * 2 ^ k := ⟨_, rfl⟩
 obtain ⟨q, hq⟩ := hg;rw [← hq] at hf hr ⊢;clear hq h;have e1 : 4503599627370496 + Ap n.natAbs % 4503599627370496 = q := by rw [hr]; omega
 have e2 : -1074 + ((Ap n.natAbs / 4503599627370496 - 1 : Nat) : Int) = -(k : Int) := by rw [hr]; omega
 rw [e, BQ _ _ (by rw [hr]; omega) (by rw [hr]; omega), e1, e2]
theorem lY (n : Int) (k up : Nat) : signed (decide (n < 0)) (n.natAbs * 2 ^ k) up = n * (2 ^ (k + up) : Nat) := by
 unfold signed;rw [Nat.shiftLeft_eq, Nat.mul_assoc, ← Nat.pow_add]
 by_cases h : n < 0
 ·
  rw [ag (by simpa using h), Int.natCast_mul];rw [show ((n.natAbs : Nat) : Int) = -n by omega, Int.neg_mul, Int.neg_neg]
 rw [ah (by simpa using h), Int.natCast_mul];rw [show ((n.natAbs : Nat) : Int) = n by omega]
theorem C0 (a b : Int) (ha : Small a) (hb : Small b) (hab : Small (a + b)) : double.add (fb a) (fb b) = some (fb (a + b)) := by
 obtain ⟨k, hk⟩ := rd a ha;obtain ⟨j, hj⟩ := rd b hb;unfold Format.add;rw [hk, hj]
 show Option.map double.write (some _) = _
 rw [dB]
 congr 1
 have Gw : min (-(k : Int)) (-(j : Int)) = -((max k j : Nat) : Int) := by omega
 have e1 : (-(k : Int) - -((max k j : Nat) : Int)).toNat = max k j - k := by omega
 have e2 : (-(j : Int) - -((max k j : Nat) : Int)).toNat = max k j - j := by omega
 simp only [Gw, e1, e2, lY];rw [show k + (max k j - k) = max k j by omega, show j + (max k j - j) = max k j by omega, ← Int.add_mul];generalize max k j = M;have hp : 0 < 2 ^ M := Nat.two_pow_pos M;have hp' : (0 : Int) < ((2 ^ M : Nat) : Int) := by omega
 have hn : ((a + b) * ((2 ^ M : Nat) : Int)).natAbs = (a + b).natAbs * 2 ^ M := by rw [Int.natAbs_mul, Int.natAbs_natCast]
 rw [hn];have hsg : (if (a + b) * ((2 ^ M : Nat) : Int) = 0 then decide (a < 0) && decide (b < 0) else decide ((a + b) * ((2 ^ M : Nat) : Int) < 0)) = decide (a + b < 0) := by
  by_cases h0 : a + b = 0
  ·
   rw [ag (by rw [h0, Int.zero_mul]), h0]
   by_cases h1 : a < 0
   ·
    simp [h1]; omega
   simp [h1]
  rw [ah (Int.mul_ne_zero h0 (by omega))];refine decide_eq_decide.2 ⟨fun h => ?_, fun h => Int.mul_neg_of_neg_of_pos h hp'⟩
  by_cases h1 : a + b < 0
  ·
   exact h1
  have := Int.mul_nonneg (show 0 ≤ a + b by omega) (Int.le_of_lt hp'); omega
 rw [hsg];exact wr (a + b) hab M
theorem C1 (a b : Int) (ha : Small a) (hb : Small b) : double.order (fb a) (fb b) = some (compare a b) := by
 obtain ⟨k, hk⟩ := rd a ha;obtain ⟨j, hj⟩ := rd b hb;unfold Format.order;rw [hk, hj];have Gw : min (-(k : Int)) (-(j : Int)) = -((max k j : Nat) : Int) := by omega
 have e1 : (-(k : Int) - -((max k j : Nat) : Int)).toNat = max k j - k := by omega
 have e2 : (-(j : Int) - -((max k j : Nat) : Int)).toNat = max k j - j := by omega
 show some (compare _ _) = _
 simp only [Gw, e1, e2, lY];rw [show k + (max k j - k) = max k j by omega, show j + (max k j - j) = max k j by omega];generalize max k j = M;have hp : 0 < 2 ^ M := Nat.two_pow_pos M;have hp' : (0 : Int) < ((2 ^ M : Nat) : Int) := by omega
 congr 1
 show compareOfLessAndEq _ _ = compareOfLessAndEq _ _
 unfold compareOfLessAndEq;have h1 : a * ((2 ^ M : Nat) : Int) < b * ((2 ^ M : Nat) : Int) ↔ a < b := ⟨fun h => Int.lt_of_mul_lt_mul_right h (Int.le_of_lt hp'), fun h => Int.mul_lt_mul_of_pos_right h hp'⟩
 have h2 : a * ((2 ^ M : Nat) : Int) = b * ((2 ^ M : Nat) : Int) ↔ a = b := ⟨fun h => Int.eq_of_mul_eq_mul_right (by omega) h, fun h => by rw [h]⟩
 simp only [h1, h2]
theorem C2 (a : Int) (ha : Small a) : (double.read (fb a)).toInt .zero = some a := by
 obtain ⟨k, hk⟩ := rd a ha;rw [hk];unfold Datum.toInt Datum.integral;have e1 : (-(k : Int)).toNat = 0 := by omega
 have e2 : (- -(k : Int)).toNat = k := by omega
 simp only [e1, e2, Nat.shiftLeft_zero];have hc : Toward.zero.cut (decide (a < 0)) (a.natAbs * 2 ^ k) k = a.natAbs := by
  by_cases h0 : a.natAbs = 0
  ·
   rw [h0]; exact lC _ _ 0 k (.inr rfl)
  exact lC _ _ _ k (.inl (by rw [sF _ _ (by omega)]; omega))
 rw [hc];have := lY a 0 0;rw [Nat.pow_zero, Nat.mul_one] at this;rw [this]; simp
end Go.Proofs.YtcgfilmmokmdjaaGreat.Fx
namespace Go.Proofs.YtcgfilmmokmdjaaGreat
open Go.RowKit
theorem ut (key : Int) (w : World) : Calls Tryz.prog 94 #[.int .u64 key] w fun e w' => e = .returned (.int .i64 (fl key : Int)) ∧ w = w' := by
 have h1 : IntKind.u64.wrap (key * 11400714819323198485) = key * 11400714819323198485 % 18446744073709551616 := by simp [IntKind.wrap, IntKind.signed, IntKind.bits]
 have h2 : (fl key : Int) = key * 11400714819323198485 % 18446744073709551616 / 2305843009213693952 := by unfold fl; omega
 go_enter Tryz.func94, Tryz.ntmps94
 go_wp2_with fail;go_ret;exact ⟨wT h2.symm, rfl⟩
theorem zKH (w : World) : Calls Tryz.prog 103 #[] w fun e w' => e = .returned (yA Sl.nil 0 0) ∧ Below w.heap.size w w' := by
 go_enter Tryz.func103, Tryz.ntmps103
 go_wp2_with fail;exact aw (v := yA Sl.nil 0 0) (by simp [results, Tryz.results103, go_sem, Sl.nil]) rfl ⟨rfl, (aj _ _).alloc (ai _) _⟩
theorem zLX (z : Int) (w : World) : Calls Tryz.prog 53 #[.int .i64 z] w fun e w' => (∃ n : Nat, e = .returned (.int .i64 (n : Int)) ∧ n ≤ 4127 ∧ (0 ≤ z → n = eM z.toNat)) ∧ w = w' := by
 by_cases hz : 0 ≤ z
 ·
  obtain ⟨n, rfl⟩ := dQ hz;refine (Kk n w).mono ?_; rintro e w' ⟨rfl, rfl⟩;exact ⟨⟨eM n, rfl, xx n, fun _ => by rw [Int.toNat_natCast]⟩, rfl⟩
 have hd : decide (z < 0) = true := by simp; omega
 have HS := zh hz;clear hz
 go_enter Tryz.func53, Tryz.ntmps53
 go_wp2_with fail;go_ret;exact ⟨⟨0, rfl, by omega, fun h => by have := HS.out; omega⟩, rfl⟩
theorem Vg (x : It) (w : World) : Calls Tryz.prog 97 #[jB x] w fun e w' => (∃ n : Nat, e = .returned (.int .i64 (n : Int)) ∧ n ≤ 4127 ∧ (0 ≤ x.size → n = eM x.size.toNat)) ∧ Below w.heap.size w w' := by
 have HZ := zh (fun W => zLX x.size W);obtain ⟨x0, x1, x2, x3⟩ := x;dsimp only at HZ
 go_enter Tryz.func97, Tryz.ntmps97
 go_wp2_with fail;refine (HZ.out _).mono ?_; rintro e w2 ⟨⟨n, rfl, h1, h2⟩, rfl⟩;have H1 := zh h1;have H2 := zh h2;clear h1 h2;go_wp2_with fail;go_ret;exact ⟨⟨n, rfl, H1.out, H2.out⟩, (aj _ _).alloc (ai _) _⟩
theorem uk (s : Sl) (l g : Int) (w : World) : Calls Tryz.prog 93 #[yA s l g] w fun e w' => e = .returned (.complex .f64 (Fx.fb l) (Fx.fb g)) ∧ Below w.heap.size w w' := by
 go_enter Tryz.func93, Tryz.ntmps93
 go_wp2_with fail;go_ret;exact ⟨rfl, (aj _ _).alloc (ai _) _⟩
theorem Vh (n : Nat) (hn : n ≤ 10000) (w : World) : Calls Tryz.prog 96 #[.int .i64 (n : Int)] w fun e w' => e = .returned (.complex .f64 (Fx.fb (-(n : Int))) (Fx.fb n)) ∧ Below w.heap.size w w' := by
 go_enter Tryz.func96, Tryz.ntmps96
 go_wp2_with fail;go_ret;exact ⟨rfl, aj _ _⟩
theorem Vi (a : Int) (ha : Fx.Small a) : floatToIntVal .f64 (Fx.fb a) .i64 = some a := by
 have h : a.natAbs < 2 ^ 53 := ha;rw [Fx.Km] at h;unfold floatToIntVal;have : (FloatKind.f64.decode (Fx.fb a)).toInt .zero = some a := Fx.C2 a ha;rw [this];simp only [IntKind.min, IntKind.max, IntKind.signed, IntKind.bits];rw [ag];simp; omega
theorem PN (s : Sl) (l0 g0 l g : Int) (hl : Fx.Small l) (hg : Fx.Small g) (w : World) : Calls Tryz.prog 92 #[yA s l0 g0, .complex .f64 (Fx.fb l) (Fx.fb g)] w fun e w' => e = .returned (yA s l g) ∧ Below w.heap.size w w' := by
 have h1 := fun W => run_convert_float_int (P := Tryz.prog) W 170 2 .f64 .i64 (Fx.fb l) l (by kernel_rfl) Tryz.underlying2 (Vi l hl)
 have h2 := fun W => run_convert_float_int (P := Tryz.prog) W 170 2 .f64 .i64 (Fx.fb g) g (by kernel_rfl) Tryz.underlying2 (Vi g hg)
 generalize Fx.fb l = bl at *;generalize Fx.fb g = bg at *
 go_enter Tryz.func92, Tryz.ntmps92
 go_wp2_with fail;exact aw (v := yA s l g) (by simp [results, Tryz.results92, go_sem]) rfl ⟨rfl, ((aj _ _).alloc (ai _) _).alloc (by simp) _⟩
end Go.Proofs.YtcgfilmmokmdjaaGreat
