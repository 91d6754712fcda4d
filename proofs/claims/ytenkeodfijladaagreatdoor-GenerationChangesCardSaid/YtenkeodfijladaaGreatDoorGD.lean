/- Several texts in one, each over the last: slices.SortFunc at items by their offset: the shelf's contract laid at this program, the closure of generation.fits. The laying is what lay-plain.mjs printed, turned into a template by tplplain.py. The shelf's sort at items: its row against my rows. Generations, in plain Lean. No program here. generation.fits: the walk. Generations as values and in memory: four numbers and a needle map. -/
import Derived.Shelf.SlSortCmp.KitK
import Derived.Ground.SlsfProg
import Derived.Test.YtenkeodfijladaaGreatDoorFi
import Derived.Test.YtenkeodfijladaaGreatDoorGC
import Derived.Shelf.SlSortCmp.WholeK
import Derived.Shelf.SlSortCmp.NoneTotal
import Derived.Test.YtenkeodfijladaaGreatDoorGY
import Derived.Test.YtenkeodfijladaaGreatDoorBx
namespace Go.Proofs.YtenkeodfijladaaGreatDoor
open Go.RowKit Go.Shelf
def sortI_ren : Go.Shelf.Ren := ⟨fun | 6 => 82 | 15 => 110 | 14 => 109 | 28 => 142 | 29 => 143 | 20 => 134 | 21 => 135 | 22 => 136 | 23 => 137 | 24 => 138 | 25 => 139 | 26 => 140 | 27 => 141 | 46 => 157 | 47 => 158 | 48 => 159 | 49 => 160 | 50 => 161 | 57 => 168 | n => n, fun | 22 => 22 | 24 => 77 | 25 => 127 | 3 => 3 | 39 => 132 | 0 => 0 | 53 => 33 | 55 => 32 | 4 => 4 | 46 => 167 | 45 => 166 | 50 => 133 | 5 => 5 | 9 => 9 | 66 => 179 | 70 => 183 | 76 => 192 | 77 => 193 | n => n, fun | n => n⟩
theorem sortI : Go.Proofs.SlLaysF0.n6 Tryz.prog sortI_ren := {
  mixed := by kernel_rfl
  f6 := ⟨Tryz.f82.name, by decide, Tryz.func82.trans (congrArg some (by kernel_rfl))⟩
  f14 := ⟨Tryz.f109.name, by decide, Tryz.func109.trans (congrArg some (by kernel_rfl))⟩
  f15 := Tryz.func110.trans (congrArg some (by kernel_rfl))
  f20 := ⟨Tryz.f134.name, by decide, Tryz.func134.trans (congrArg some (by kernel_rfl))⟩
  f21 := ⟨Tryz.f135.name, by decide, Tryz.func135.trans (congrArg some (by kernel_rfl))⟩
  f22 := ⟨Tryz.f136.name, by decide, Tryz.func136.trans (congrArg some (by kernel_rfl))⟩
  f23 := ⟨Tryz.f137.name, by decide, Tryz.func137.trans (congrArg some (by kernel_rfl))⟩
  f24 := ⟨Tryz.f138.name, by decide, Tryz.func138.trans (congrArg some (by kernel_rfl))⟩
  f25 := ⟨Tryz.f139.name, by decide, Tryz.func139.trans (congrArg some (by kernel_rfl))⟩
  f26 := ⟨Tryz.f140.name, by decide, Tryz.func140.trans (congrArg some (by kernel_rfl))⟩
  f27 := ⟨Tryz.f141.name, by decide, Tryz.func141.trans (congrArg some (by kernel_rfl))⟩
  f28 := Tryz.func142.trans (congrArg some (by kernel_rfl))
  f29 := Tryz.func143.trans (congrArg some (by kernel_rfl))
  f46 := ⟨Tryz.f157.name, by decide, Tryz.func157.trans (congrArg some (by kernel_rfl))⟩
  f47 := Tryz.func158.trans (congrArg some (by kernel_rfl))
  f48 := Tryz.func159.trans (congrArg some (by kernel_rfl))
  f49 := ⟨Tryz.f160.name, by decide, Tryz.func160.trans (congrArg some (by kernel_rfl))⟩
  f50 := ⟨Tryz.f161.name, by decide, Tryz.func161.trans (congrArg some (by kernel_rfl))⟩
  f57 := ⟨Tryz.f168.name, by decide, Tryz.func168.trans (congrArg some (by kernel_rfl))⟩
  t0 := Tryz.underlying0
  a0 := Tryz.isAgg0
  z0 := Tryz.sizeOf0
  v0 := Tryz.zeroValue0
  t3 := Tryz.underlying3
  a3 := Tryz.isAgg3
  z3 := Tryz.sizeOf3
  v3 := Tryz.zeroValue3
  t4 := Tryz.underlying4
  a4 := Tryz.isAgg4
  z4 := Tryz.sizeOf4
  v4 := Tryz.zeroValue4
  t5 := Tryz.underlying5
  a5 := Tryz.isAgg5
  z5 := Tryz.sizeOf5
  v5 := Tryz.zeroValue5
  t9 := Tryz.underlying9
  a9 := Tryz.isAgg9
  z9 := Tryz.sizeOf9
  v9 := Tryz.zeroValue9
  t22 := Tryz.underlying22
  a22 := Tryz.isAgg22
  z22 := Tryz.sizeOf22
  v22 := Tryz.zeroValue22
  t25 := Tryz.underlying127
  a25 := Tryz.isAgg127
  z25 := Tryz.sizeOf127
  v25 := Tryz.zeroValue127
  t39 := Tryz.underlying132
  a39 := Tryz.isAgg132
  z39 := Tryz.sizeOf132
  v39 := Tryz.zeroValue132
  t45 := Tryz.underlying166
  a45 := Tryz.isAgg166
  z45 := Tryz.sizeOf166
  v45 := Tryz.zeroValue166
  t46 := Tryz.underlying167
  a46 := Tryz.isAgg167
  z46 := Tryz.sizeOf167
  v46 := Tryz.zeroValue167
  t50 := Tryz.underlying133
  a50 := Tryz.isAgg133
  z50 := Tryz.sizeOf133
  v50 := Tryz.zeroValue133
  t53 := Tryz.underlying33
  a53 := Tryz.isAgg33
  z53 := Tryz.sizeOf33
  v53 := Tryz.zeroValue33
  t55 := Tryz.underlying32
  a55 := Tryz.isAgg32
  z55 := Tryz.sizeOf32
  v55 := Tryz.zeroValue32
  t66 := Tryz.underlying179
  a66 := Tryz.isAgg179
  z66 := Tryz.sizeOf179
  v66 := Tryz.zeroValue179
  t70 := Tryz.underlying183
  a70 := Tryz.isAgg183
  z70 := Tryz.sizeOf183
  v70 := Tryz.zeroValue183
  t76 := Tryz.underlying192
  a76 := Tryz.isAgg192
  z76 := Tryz.sizeOf192
  v76 := Tryz.zeroValue192
  t77 := Tryz.underlying193
  a77 := Tryz.isAgg193
  z77 := Tryz.sizeOf193
  v77 := Tryz.zeroValue193 }

def cmpO (x y : Int) : Int := if x < y then -1 else if y < x then 1 else 0
theorem cmpO_lt (x y : Int) : (decide (cmpO x y < 0)) = decide (x < y) := by
  unfold cmpO
  by_cases h : x < y
  · rw [if_pos h]; simp [h]
  · rw [if_neg h]
    by_cases h2 : y < x
    · rw [if_pos h2]; simp [h]
    · rw [if_neg h2]; simp [h]
theorem isnan64_any (x : Int) (w : World) : Calls Tryz.prog 111 #[.int .i64 x] w fun e w' => e = .returned (.bool false) ∧ w' = w := by
  go_enter Tryz.func111, Tryz.ntmps111
  have hx : (x != x) = false := by simp
  go_wp2_with fail
  go_ret
  exact ⟨rfl, rfl⟩
theorem compare64_any (x y : Int) (w : World) : Calls Tryz.prog 84 #[.int .i64 x, .int .i64 y] w fun e w' => e = .returned (.int .i64 (cmpO x y)) ∧ w' = w := by
  unfold cmpO
  by_cases h : x < y
  · rw [if_pos h]
    go_enter Tryz.func84, Tryz.ntmps84
    go_wp2_with fail
    refine (isnan64_any _ _).mono ?_; rintro e w1 ⟨rfl, rfl⟩
    go_wp2_with fail
    refine (isnan64_any _ _).mono ?_; rintro e w2 ⟨rfl, rfl⟩
    go_wp2_with fail
    go_ret
    exact ⟨rfl, rfl⟩
  · rw [if_neg h]
    by_cases h2 : y < x
    · rw [if_pos h2]
      go_enter Tryz.func84, Tryz.ntmps84
      go_wp2_with fail
      refine (isnan64_any _ _).mono ?_; rintro e w1 ⟨rfl, rfl⟩
      go_wp2_with fail
      refine (isnan64_any _ _).mono ?_; rintro e w2 ⟨rfl, rfl⟩
      go_wp2_with fail
      go_ret
      exact ⟨rfl, rfl⟩
    · rw [if_neg h2]
      go_enter Tryz.func84, Tryz.ntmps84
      go_wp2_with fail
      refine (isnan64_any _ _).mono ?_; rintro e w1 ⟨rfl, rfl⟩
      go_wp2_with fail
      refine (isnan64_any _ _).mono ?_; rintro e w2 ⟨rfl, rfl⟩
      go_wp2_with fail
      go_ret
      exact ⟨rfl, rfl⟩
theorem fitsf_any (x y : It) (w : World) : Calls Tryz.prog 83 #[itV x, itV y] w fun e w' => e = .returned (.int .i64 (cmpO x.off y.off)) ∧ ∃ q os', w' = Sort.grow (w.drewN q) os' := by
  go_enter Tryz.func83, Tryz.ntmps83
  go_wp2_with fail
  refine (compare64_any _ _ _).mono ?_; rintro e w1 ⟨rfl, rfl⟩
  go_wp2_with fail
  go_ret
  exact ⟨rfl, 0, _, by rw [Sort.alloc_eq_grow, Sort.alloc_eq_grow, Sort.grow_grow]; rfl⟩
end Go.Proofs.YtenkeodfijladaaGreatDoor

namespace Go.Proofs.YtenkeodfijladaaGreatDoor
open Go.RowKit Go.Shelf

theorem flat_item (l : List It) (t : Nat) (h : t < l.length * 4) : (itsC l)[t]? = some ((itC l.toArray[t / 4]!)[t % 4]!) := by
  have h4 : t / 4 < l.length := by omega
  have e := flat_at 4 itC it0 l (fun x _ => itC_len x) (t / 4) (t % 4) h4 (by omega)
  rw [show t / 4 * 4 + t % 4 = t from by omega] at e
  have e2 : l.toArray[t / 4]! = l.getD (t / 4) it0 := by
    rw [getElem!_pos _ _ (by simpa using h4), List.getD_eq_getElem?_getD, List.getElem?_eq_getElem h4]
    simp
  rw [e2]
  unfold itsC
  rw [e]
  have h5 : t % 4 < (itC (l.getD (t / 4) it0)).length := by rw [itC_len]; omega
  rw [List.getElem?_eq_getElem h5, getElem!_pos (itC (l.getD (t / 4) it0)) (t % 4) h5]
theorem holdsK_own {w : World} {g n : Nat} {l : List It} {cur : Array Value} {e : TypeId} (hg : w.heap[g]? = some (.cells cur e (0, 0))) (hn : l.length = n) (ht : cur.toList.take (n * 4) = itsC l) : Sort.HoldsK itC 4 w g 0 l.toArray := by
  intro j hj
  rw [Sort.size_flatK, List.size_toArray] at hj
  rw [Sort.get_flatK _ _ _ _ (by rw [List.size_toArray]; exact hj), Nat.zero_add]
  refine ⟨?_, by simp [World.frozen?, hg]⟩
  rw [cell_of_row w g j cur e (0, 0) hg]
  have h := flat_item l j hj
  rw [← ht, List.getElem?_take, if_pos (by omega)] at h
  simpa using h
theorem rd_holdsK {w : World} {g cap : Nat} {d : Array It} (h : Sort.HoldsK itC 4 w g 0 d) (hn : d.size ≤ cap) (hc : cap ≤ maxLen) : RdT w (.slice (some ⟨g, 0, none⟩) d.size cap) d.toList := by
  refine rd_rdT (n := d.size) ⟨by rw [itsC_length]; simp, some ⟨g, 0, none⟩, cap, rfl, hn, hc, fun h => by simp at h, fun _ => ⟨g, 0, rfl, fun j u hj => ?_⟩⟩
  have hj4 : j < d.toList.length * 4 := by
    have := (List.getElem?_eq_some_iff.1 hj).1
    rwa [itsC_length] at this
  have h2 := (h j (by rw [Sort.size_flatK]; simpa using hj4)).1
  rw [Sort.get_flatK _ _ _ _ (by simpa using hj4)] at h2
  rw [flat_item _ _ hj4] at hj
  injection hj with hj
  subst hj
  exact h2
theorem below_sorted {w : World} {B g n : Nat} {d : Array It} {os : Array Obj} (hB : B ≤ g) (hg : g < w.heap.size) : Below B w (sortWorldK itC 4 w g 0 n d os) := by
  refine ⟨rfl, rfl, rfl, size_sortWorldK_c itC 4 w g 0 n d os, fun k hk => ?_⟩
  unfold sortWorldK Sort.grow Sort.putRowK Sort.putRow Sort.mapBlock
  show ((Array.modify _ g _) ++ os)[k]? = _
  rw [Array.getElem?_append_left (by rw [Array.size_modify]; show k < w.heap.size; omega), Array.getElem?_modify, if_neg (by omega)]
  rfl
theorem perm_in {l : List It} {d' : Array It} (h : Sort.PermIn 0 l.toArray.size l.toArray d') : l.Perm d'.toList := by
  obtain ⟨h1, _, h2⟩ := h
  have e1 : (d'.extract 0 l.toArray.size) = d' := by rw [← h1]; simp
  have e2 : (l.toArray.extract 0 l.toArray.size) = l.toArray := by simp
  rw [e1, e2] at h2
  exact h2.symm
theorem sorted_in {d' : Array It} {n : Nat} (hn : d'.size = n) (h : Sort.SortedIn (ltOf fun x y : It => cmpO x.off y.off) 0 n d') : d'.toList.Pairwise fun a b => a.off ≤ b.off := by
  rw [List.pairwise_iff_getElem]
  intro i j hi hj hij
  have hi' : i < d'.size := by simpa using hi
  have hj' : j < d'.size := by simpa using hj
  have h2 := h i j (Nat.zero_le _) hij (by omega)
  unfold ltOf at h2
  rw [cmpO_lt, decide_eq_false_iff_not, getElem!_pos d' i hi', getElem!_pos d' j hj'] at h2
  simpa using h2
theorem swoO : Sort.SWO (ltOf fun x y : It => cmpO x.off y.off) where
  irrefl x := by unfold ltOf; rw [cmpO_lt]; simp
  trans x y z h1 h2 := by unfold ltOf at *; rw [cmpO_lt] at *; simp at *; omega
  ntrans x y z h1 h2 := by unfold ltOf at *; rw [cmpO_lt] at *; simp at *; omega
end Go.Proofs.YtenkeodfijladaaGreatDoor

namespace Go.Proofs.YtenkeodfijladaaGreatDoor

structure Gn where
  num : Int
  rev : Int
  mode : Int
  size : Int
  m : Mp
/-- Where a record ends. -/
def endI (x : It) : Int := x.off + (szN x.size.toNat : Int)
/-- Two records that do not overlap. -/
def disj (x y : It) : Prop := endI x ≤ y.off ∨ endI y ≤ x.off
instance (x y : It) : Decidable (disj x y) := by unfold disj; infer_instance
def endsP (l : List It) (size : Int) : Prop := l.Pairwise disj ∧ ∀ x ∈ l, endI x ≤ size
instance (l : List It) (size : Int) : Decidable (endsP l size) := by unfold endsP; infer_instance
def endsB (l : List It) (size : Int) : Bool := decide (endsP l size)
theorem disj_symm {x y : It} (h : disj x y) : disj y x := h.symm
theorem endsP_perm {l l' : List It} (h : l.Perm l') (size : Int) : endsP l size ↔ endsP l' size := by
  unfold endsP
  rw [List.Perm.pairwise_iff (fun h => disj_symm h) h]
  exact ⟨fun ⟨h1, h2⟩ => ⟨h1, fun x hx => h2 x (h.mem_iff.2 hx)⟩, fun ⟨h1, h2⟩ => ⟨h1, fun x hx => h2 x (h.mem_iff.1 hx)⟩⟩
theorem szN_pos {n : Nat} (h : n ≤ 4096) : 0 < szN n := by
  rw [szN_of h]
  have := nsz_bounds n
  omega
theorem endI_gt {x : It} (h : okP x) : x.off < endI x := by
  have h1 := h.2.2.2
  have := szN_pos (n := x.size.toNat) (by omega)
  unfold endI
  omega
/-- What the program's loop over the sorted list finds: how far it comes, and where the last record ends. -/
def chain (e : Int) : List It → Option Int
  | [] => some e
  | x :: r => if x.off < e then none else chain (endI x) r
def fitsB (l : List It) (size : Int) : Bool := match chain 16 l with
  | none => false
  | some e => decide (e ≤ size)
theorem chain_ends : ∀ (l : List It) (e size : Int), (∀ x ∈ l, okP x) → l.Pairwise (fun a b => a.off ≤ b.off) → (∀ x ∈ l, e ≤ x.off ∨ x.off < e) →
    ((match chain e l with | none => false | some e' => decide (e' ≤ size)) = true ↔ (l.Pairwise disj ∧ (∀ x ∈ l, e ≤ x.off) ∧ (∀ x ∈ l, endI x ≤ size) ∧ (l = [] → e ≤ size)))
  | [], e, size, _, _, _ => by simp [chain]
  | x :: r, e, size, hok, hs, _ => by
    have hx := endI_gt (hok x (by simp))
    rw [List.pairwise_cons] at hs ⊢
    have ih := chain_ends r (endI x) size (fun y hy => hok y (by simp [hy])) hs.2 (fun y _ => by omega)
    by_cases h : x.off < e
    · have h1 : chain e (x :: r) = none := by unfold chain; rw [if_pos h]
      rw [h1]
      constructor
      · intro h2; cases h2
      · rintro ⟨_, h3, _⟩
        have := h3 x (by simp)
        omega
    · have h1 : chain e (x :: r) = chain (endI x) r := by
        show (if x.off < e then none else chain (endI x) r) = _
        rw [if_neg h]
      rw [h1, ih]
      constructor
      · rintro ⟨h2, h3, h4, h5⟩
        refine ⟨⟨fun y hy => .inl (h3 y hy), h2⟩, fun y hy => ?_, fun y hy => ?_, fun e => by cases e⟩
        · rcases List.mem_cons.1 hy with rfl | hy
          · omega
          · have := hs.1 y hy; omega
        · rcases List.mem_cons.1 hy with rfl | hy
          · cases r with
            | nil => exact h5 rfl
            | cons z t =>
              have h6 := h4 z (by simp)
              have h7 := h3 z (by simp)
              have h8 := endI_gt (hok z (by simp))
              omega
          · exact h4 y hy
      · rintro ⟨⟨h2, h3⟩, h4, h5, _⟩
        refine ⟨h3, fun y hy => ?_, fun y hy => h5 y (by simp [hy]), fun _ => h5 x (by simp)⟩
        rcases h2 y hy with h6 | h6
        · exact h6
        · have h7 := hs.1 y hy
          have h8 := endI_gt (hok y (by simp [hy]))
          omega
theorem fitsB_of {l l' : List It} {size : Int} (hok : ∀ x ∈ l, okP x) (hp : l.Perm l') (hs : l'.Pairwise fun a b => a.off ≤ b.off) (h16 : 16 ≤ size) : fitsB l' size = endsB l size := by
  have hok' : ∀ x ∈ l', okP x := fun x hx => hok x (hp.mem_iff.2 hx)
  rw [Bool.eq_iff_iff]
  unfold fitsB endsB
  rw [chain_ends l' 16 size hok' hs (fun y _ => by omega), decide_eq_true_eq, endsP_perm hp]
  exact ⟨fun ⟨h1, _, h2, _⟩ => ⟨h1, h2⟩, fun ⟨h1, h2⟩ => ⟨h1, fun x hx => (hok' x hx).1, h2, fun _ => h16⟩⟩
/-- What a valid generation is. -/
structure VldG (g : Gn) : Prop where
  num : 1 ≤ g.num ∧ g.num ≤ 8
  rev : 0 ≤ g.rev ∧ g.rev ≤ 4294967295
  mode : 1 ≤ g.mode ∧ g.mode ≤ 3
  size : 16 ≤ g.size ∧ g.size ≤ 1048576 ∧ g.size % 8 = 0
  m : vldM g.m = true
  ends : endsB (itemsM g.m) g.size = true
  sum : g.size = 16 + g.m.live + g.m.garb
def vldG (g : Gn) : Bool := decide (1 ≤ g.num) && decide (g.num ≤ 8) && decide (0 ≤ g.rev) && decide (g.rev ≤ 4294967295) && decide (1 ≤ g.mode) && decide (g.mode ≤ 3) && decide (16 ≤ g.size) && decide (g.size ≤ 1048576) && decide (g.size % 8 = 0) && vldM g.m && endsB (itemsM g.m) g.size && decide (g.size = 16 + g.m.live + g.m.garb)
theorem vldG_iff (g : Gn) : vldG g = true ↔ VldG g := by
  unfold vldG
  simp only [Bool.and_eq_true, decide_eq_true_eq]
  exact ⟨fun ⟨⟨⟨⟨⟨⟨⟨⟨⟨⟨⟨a, b⟩, c⟩, d⟩, e⟩, f⟩, g⟩, h⟩, i⟩, j⟩, k⟩, l⟩ => ⟨⟨a, b⟩, ⟨c, d⟩, ⟨e, f⟩, ⟨g, h, i⟩, j, k, l⟩, fun h => ⟨⟨⟨⟨⟨⟨⟨⟨⟨⟨⟨h.num.1, h.num.2⟩, h.rev.1⟩, h.rev.2⟩, h.mode.1⟩, h.mode.2⟩, h.size.1⟩, h.size.2.1⟩, h.size.2.2⟩, h.m⟩, h.ends⟩, h.sum⟩⟩
theorem vldG_not {g : Gn} (h : ¬ VldG g) : vldG g = false := by
  cases e : vldG g with
  | false => rfl
  | true => exact absurd ((vldG_iff g).1 e) h
end Go.Proofs.YtenkeodfijladaaGreatDoor

namespace Go.Proofs.YtenkeodfijladaaGreatDoor
open Go.RowKit Go.Shelf

theorem sort_any (v : Value) (l : List It) (w : World) (B : Nat) (hB : B ≤ w.heap.size) (hv : OwnT w B v l) (hsm : l.length ≤ 1000000) :
    Calls Tryz.prog 82 #[v, .func (.func 83) #[] #[]] w fun e w' => e = .returned (.tuple #[]) ∧ ∃ l', l.Perm l' ∧ l'.Pairwise (fun a b => a.off ≤ b.off) ∧ RdT w' v l' ∧ Below B w w' := by
  have eg : ∀ args w, (callFunc 83 args).run Tryz.prog w = .ok (.enter 83 args) w := enters_of Tryz.func83 (by kernel_rfl) rfl
  rcases hv.2 with ⟨rfl, h0⟩ | ⟨g, cap, cur, rfl, hb, hg, hn, hc, hs, ht⟩
  · have hl : l = [] := List.eq_nil_of_length_eq_zero h0
    subst hl
    refine (AnyF.slices_SortFunc_none sortI none 0 _ w).mono ?_
    rintro e w' ⟨rfl, rfl⟩
    exact ⟨rfl, [], List.Perm.nil, List.Pairwise.nil, RdS.nil 4 itC _, Below.refl _ _⟩
  · have hgs : g < w.heap.size := (Array.getElem?_eq_some_iff.1 hg).1
    have hcon := AnyQ.slices_SortFunc sortI 4 Tryz.isAgg77 Tryz.sizeOf77 itC itC_len (fun x u hu => by simp [itC] at hu; rcases hu with rfl | rfl | rfl | rfl <;> rfl) (fun x y => cmpO x.off y.off) swoO 83 #[] g 0 cap l.toArray w eg (fun _ _ _ _ x y => fitsf_any x y _) (holdsK_own hg rfl ht) hgs (by rw [List.size_toArray]; omega)
    change Calls Tryz.prog 82 _ _ _ at hcon
    refine hcon.mono ?_
    rintro e w' ⟨rfl, d', n, os, hp, hso, rfl⟩
    have hz : d'.size = l.length := by rw [hp.1, List.size_toArray]
    refine ⟨rfl, d'.toList, perm_in hp, sorted_in (by rw [hz, List.size_toArray]) hso, ?_, below_sorted hb hgs⟩
    have := rd_holdsK (holdsK_sortWorldK_c itC 4 w g 0 l.toArray d' n os (holdsK_own hg rfl ht) hgs hp.1) (by rw [hz]; exact hn) hc
    rwa [hz] at this
theorem drop_iat {l : List It} {k : Nat} (h : k < l.length) : l.drop k = iat l k :: l.drop (k + 1) := by
  rw [List.drop_eq_getElem_cons h]
  unfold iat
  rw [List.getD_eq_getElem?_getD, List.getElem?_eq_getElem h]
  rfl
set_option maxHeartbeats 1000000 in
theorem fits_own (v : Value) (l : List It) (size : Int) (w : World) (B : Nat) (hB : B ≤ w.heap.size) (hv : OwnT w B v l) (hok : ∀ x ∈ l, okP x) (hsm : l.length ≤ 1000000) (hsz : 16 ≤ size) :
    Calls Tryz.prog 52 #[v, .int .i64 size] w fun e w' => e = .returned (.bool (endsB l size)) ∧ Below B w w' := by
  have HS := Lib.hid (fun W (h : OwnT W B v l) (h2 : B ≤ W.heap.size) => sort_any v l W B h2 h hsm)
  have HO := Lib.hid hv
  have HE := Lib.hid (fun l' (h : l.Perm l') h2 => fitsB_of (size := size) hok h h2 hsz)
  have HK := Lib.hid (fun l' (h : l.Perm l') => show ∀ x ∈ l', okP x from fun x hx => hok x (h.mem_iff.2 hx))
  generalize endsB l size = res at *
  clear hv hok hsm
  go_enter Tryz.func52, Tryz.ntmps52
  go_wp2_with fail
  refine (HS.out _ HO.out hB).mono ?_
  rintro e w1 ⟨rfl, l', hp, hs, hrd, hb⟩
  have HB := Lib.hid hb
  have HRes := Lib.hid (HE.out l' hp hs)
  have HK' := HK.out l' hp
  have hBs := Nat.le_trans hB hb.size
  clear HS HO HE HK hb hp hs
  obtain ⟨a, cap, rfl, h1, h2⟩ := hrd.shape
  have hm := lt63 h1 h2
  have Hr := Lib.hid hrd
  generalize hn : l'.length = n at *
  have Hn := Lib.hid hn
  have HKo := Lib.hid HK'
  clear hrd h1 h2 hn HK'
  go_wp2_with fail
  go_loopw [5, 12] (fun e i wr => ∃ (k : Nat) (s : Int), k ≤ n ∧ e = .int .i64 s ∧ i = .int .i64 (k : Int) ∧ 0 ≤ s ∧ s ≤ 1048576 + 5000 ∧ chain 16 l' = chain s (l'.drop k) ∧ Below B w wr ∧ w1.heap.size ≤ wr.heap.size ∧ Below w1.heap.size w1 wr) (fun _ i _ => n - (intOf i).toNat)
  case atStart => exact ⟨0, 16, Nat.zero_le _, rfl, rfl, by omega, by omega, rfl, HB.out, Nat.le_refl _, Below.refl _ _⟩
  case round =>
    obtain ⟨k, s, hk, rfl, rfl, hs0, hs1, hch, hb, hsz2, hb1⟩ := hrel
    have Hc := Lib.hid hch
    have Hb := Lib.hid hb
    have Hb1 := Lib.hid hb1
    clear hch hb hb1
    by_cases hlt : k < n
    · obtain ⟨b, off, rfl, c0, c1, c2, c3⟩ := (Hr.out.below Hb1.out).at hlt
      have hx := HKo.out (iat l' k) (by rw [← Hn.out] at hlt; exact iat_mem hlt)
      have hsl : szN (iat l' k).size.toNat ≤ 4127 := szN_le _
      have HD := Lib.hid (show chain s (l'.drop k) = if (iat l' k).off < s then none else chain ((iat l' k).off + (szN (iat l' k).size.toNat : Int)) (l'.drop (k + 1)) by
        rw [drop_iat (by rw [Hn.out]; exact hlt)]; rfl)
      have HZ := Lib.hid (fun W => nsizeB (iat l' k).size.toNat W)
      have hz0 : ((iat l' k).size.toNat : Int) = (iat l' k).size := Int.toNat_of_nonneg hx.2.2.2.1
      have HX := Lib.hid (BoxI.new wr (iat l' k))
      have HBx := Lib.hid (below_box wr (iat l' k))
      generalize szN (iat l' k).size.toNat = z at *
      rw [hz0] at HZ
      clear hz0
      have hx1 := hx.1
      have hx2 := hx.2.1
      clear hx
      generalize iat l' k = x at *
      go_upto_region 6 with fail
      change Code.wp _ _ _ _ (wr.alloc (boxC x))
      obtain ⟨W, hW⟩ : ∃ W, wr.alloc (boxC x) = W := ⟨_, rfl⟩
      rw [hW] at HX HBx ⊢
      have hlw := HX.out.lt
      have HbW := Lib.hid (bup Hb.out (Nat.le_trans hBs hsz2) HBx.out)
      have Hb1W := Lib.hid (bup Hb1.out hsz2 HBx.out)
      have hszW := Nat.le_trans hsz2 HBx.out.size
      have HZ' := Lib.hid (fun W => (HZ.out W).mono (R' := fun e w' => e = .returned (.int .i64 (z : Int)) ∧ Below W.heap.size W w') fun _ _ ⟨he, hw⟩ => ⟨he, hw ▸ Below.refl _ _⟩)
      clear HZ
      have d2 := HX.out.t.c2
      have d3 := HX.out.t.c3
      clear c0 c1 c2 c3 hW
      by_cases hlo : x.off < s
      · go_wp2_with fail
        go_ret
        have hf : res = false := by
          rw [← HRes.out]; unfold fitsB; rw [Hc.out, HD.out, if_pos hlo]
        exact ⟨ret_bool hf.symm, HbW.out⟩
      · have hge : s ≤ x.off := by omega
        go_wp2_with fail
        have e2 := cell_by d2
        have e3 := cell_by d3
        refine wp_region_below (by kernel_rfl) (by kernel_rfl) ?_
        repeat (go_big_quiet_step ((exact calls_by (HZ'.out _))))
        refine wpQuiet_nil ?_
        intro _ hw'
        obtain ⟨q, hw'⟩ := hw'
        subst hw'
        have HbQ := Lib.hid (bup HbW.out (Nat.le_trans hBs hszW) q.h)
        have HbQ1 := Lib.hid (bup Hb1W.out hszW q.h)
        have hszQ := Nat.le_trans hszW q.h.size
        generalize q.w' = W2 at *
        clear e2 e3 d2 d3
        go_wp2_with fail
        exact ⟨⟨k + 1, x.off + (z : Int), by omega, by go_num, by go_num, by omega, by omega, by rw [Hc.out, HD.out, if_neg (by omega)], HbQ.out, hszQ, HbQ1.out⟩, by simp [intOf]; omega⟩
    · obtain rfl : k = n := by omega
      have hd : l'.drop k = [] := List.drop_of_length_le (by rw [Hn.out]; exact Nat.le_refl _)
      have hf : res = decide (s ≤ size) := by
        rw [← HRes.out]; unfold fitsB; rw [Hc.out, hd]; rfl
      have HF := Lib.hid hf
      clear hf
      go_wp2_with fail
      go_ret
      exact ⟨ret_bool HF.out.symm, Hb.out⟩
end Go.Proofs.YtenkeodfijladaaGreatDoor

namespace Go.Proofs.YtenkeodfijladaaGreatDoor
open Go.RowKit

abbrev genC (n r md z : Int) (s : Sl) (l g : Int) : Array Value := #[.int .i64 n, .int .i64 r, .int .i64 md, .int .i64 z, .slice (s.a 0) (s.n 0) (s.c 0), .slice (s.a 1) (s.n 1) (s.c 1), .slice (s.a 2) (s.n 2) (s.c 2), .slice (s.a 3) (s.n 3) (s.c 3), .slice (s.a 4) (s.n 4) (s.c 4), .slice (s.a 5) (s.n 5) (s.c 5), .slice (s.a 6) (s.n 6) (s.c 6), .slice (s.a 7) (s.n 7) (s.c 7), .int .i64 l, .int .i64 g]
abbrev genV (n r md z : Int) (s : Sl) (l g : Int) : Value := .agg (genC n r md z s l g)
theorem _root_.Go.RowKit.Below.keeps' {w w' : World} (h : Below w.heap.size w w') {p : Addr} {u : Value} (hp : w.cell? p = some u) : w'.cell? p = some u := (h.cell (World.block_lt_of_cell? w p hp)).trans hp
theorem own_set_neB {w : World} {B : Nat} {e : TypeId} {sz n : Nat} {v : Value} {xs : List Value} {p : Addr} (h : w.ownsRow B e sz v n xs) (hne : v.ownBlock ≠ some p.block) (u : Value) : (w.setCell p u).ownsRow B e sz v n xs := by
  refine ⟨h.1, ?_⟩
  rcases h.2 with h0 | ⟨g, cap, cur, rfl, hb, hg, rest⟩
  · exact .inl h0
  · refine .inr ⟨g, cap, cur, rfl, hb, ?_, rest⟩
    rw [Below.heap_setCell w p u g (fun e => hne (by rw [← e]; rfl))]; exact hg
/-- Several cells of a block stored, one after the other. -/
def pts (W : World) (b : Nat) (vs : List (Nat × Value)) : World := vs.foldl (fun W p => W.setCell ⟨b, p.1, none⟩ p.2) W
theorem pts_below {B b : Nat} {w0 : World} (hb : B ≤ b) : ∀ (vs : List (Nat × Value)) {W : World}, Below B w0 W → Below B w0 (pts W b vs)
  | [], _, h => h
  | p :: r, _, h => pts_below hb r (h.setCell (p := ⟨b, p.1, none⟩) hb p.2)
theorem pts_own_ne {b B : Nat} {e : TypeId} {sz n : Nat} {v : Value} {xs : List Value} (hne : v.ownBlock ≠ some b) : ∀ (vs : List (Nat × Value)) {W : World}, W.ownsRow B e sz v n xs → (pts W b vs).ownsRow B e sz v n xs
  | [], _, h => h
  | p :: r, _, h => pts_own_ne hne r (own_set_neB (p := ⟨b, p.1, none⟩) h hne p.2)
theorem pts_own {b B : Nat} {e : TypeId} {sz n : Nat} {v : Value} {xs : List Value} (hb : b < B) {W : World} (h : W.ownsRow B e sz v n xs) (vs : List (Nat × Value)) : (pts W b vs).ownsRow B e sz v n xs := pts_own_ne (own_row_ge h hb) vs h
theorem pts_cell {b : Nat} {p : Addr} (hne : p.block ≠ b) : ∀ (vs : List (Nat × Value)) (W : World), (pts W b vs).cell? p = W.cell? p
  | [], _ => rfl
  | q :: r, W => (pts_cell hne r _).trans (World.cell?_setCell_other (h := fun e => hne (by rw [← e])) ..)
theorem pts_frozen {b : Nat} (p : Addr) : ∀ (vs : List (Nat × Value)) (W : World), (pts W b vs).frozen? p = W.frozen? p
  | [], _ => rfl
  | q :: r, W => (pts_frozen p r _).trans (by simp)
theorem pts_size {b : Nat} : ∀ (vs : List (Nat × Value)) (W : World), (pts W b vs).heap.size = W.heap.size
  | [], _ => rfl
  | q :: r, W => (pts_size r _).trans (by simp)
theorem OwnM.pts {w : World} {B b : Nat} {s : Sl} {f : Nat → List It} (h : OwnM w B s f) (hb : b < B) (vs : List (Nat × Value)) : OwnM (Go.Proofs.YtenkeodfijladaaGreatDoor.pts w b vs) B s f := fun i hi => pts_own hb (h i hi) vs
theorem BoxM.pts_ne {W : World} {b c : Nat} {s : Sl} {l g : Int} (h : BoxM W b s l g) (hp : b ≠ c) (vs : List (Nat × Value)) : BoxM (pts W c vs) b s l g :=
  ⟨fun j hj => (pts_cell (p := ⟨b, j, none⟩) hp vs W).trans (h.c j hj), (pts_cell (p := ⟨b, 8, none⟩) hp vs W).trans h.cl, (pts_cell (p := ⟨b, 9, none⟩) hp vs W).trans h.cg, fun i => (pts_frozen _ vs W).trans (h.f i)⟩
theorem BoxI.pts_ne {W : World} {b c : Nat} {x : It} (h : BoxI W b x) (hp : b ≠ c) (vs : List (Nat × Value)) : BoxI (pts W c vs) b x :=
  ⟨⟨(pts_cell (p := ⟨b, 0, none⟩) hp vs W).trans h.t.c0, (pts_cell (p := ⟨b, 1, none⟩) hp vs W).trans h.t.c1, (pts_cell (p := ⟨b, 2, none⟩) hp vs W).trans h.t.c2, (pts_cell (p := ⟨b, 3, none⟩) hp vs W).trans h.t.c3⟩, fun i => (pts_frozen _ vs W).trans (h.f i)⟩
/-- A generation in a block of its own. -/
structure BoxG (W : World) (b : Nat) (n r md z : Int) (s : Sl) (l g : Int) : Prop where
  n0 : W.cell? ⟨b, 0, none⟩ = some (.int .i64 n)
  n1 : W.cell? ⟨b, 1, none⟩ = some (.int .i64 r)
  n2 : W.cell? ⟨b, 2, none⟩ = some (.int .i64 md)
  n3 : W.cell? ⟨b, 3, none⟩ = some (.int .i64 z)
  c : ∀ j, j < 8 → W.cell? ⟨b, 4 + j, none⟩ = some (s.v j)
  cl : W.cell? ⟨b, 12, none⟩ = some (.int .i64 l)
  cg : W.cell? ⟨b, 13, none⟩ = some (.int .i64 g)
  f : ∀ i, W.frozen? ⟨b, i, none⟩ = false
section
variable {W : World} {b : Nat} {n r md z : Int} {s : Sl} {l g : Int}
theorem BoxG.new (W : World) (n r md z : Int) (s : Sl) (l g : Int) (t : TypeId) : BoxG (W.alloc (.cells (genC n r md z s l g) t)) W.heap.size n r md z s l g :=
  ⟨by simp, by simp, by simp, by simp, fun j hj => by rcases lt8 hj with h | h | h | h | h | h | h | h <;> subst h <;> simp [Sl.v], by simp, by simp, fun i => by simp⟩
theorem below_gen (w : World) (n r md z : Int) (s : Sl) (l g : Int) (t : TypeId) : Below w.heap.size w (w.alloc (.cells (genC n r md z s l g) t)) := (Below.refl _ _).alloc (Nat.le_refl _) _
theorem BoxG.lt (h : BoxG W b n r md z s l g) : b < W.heap.size := World.block_lt_of_cell? W _ h.cl
theorem BoxG.below {W' : World} (h : BoxG W b n r md z s l g) (hB : Below W.heap.size W W') : BoxG W' b n r md z s l g :=
  ⟨hB.keeps' h.n0, hB.keeps' h.n1, hB.keeps' h.n2, hB.keeps' h.n3, fun j hj => hB.keeps' (h.c j hj), hB.keeps' h.cl, hB.keeps' h.cg, fun i => (hB.frozen (p := ⟨b, i, none⟩) h.lt).trans (h.f i)⟩
theorem BoxG.pts_ne {c : Nat} (h : BoxG W b n r md z s l g) (hp : b ≠ c) (vs : List (Nat × Value)) : BoxG (pts W c vs) b n r md z s l g :=
  ⟨(pts_cell (p := ⟨b, 0, none⟩) hp vs W).trans h.n0, (pts_cell (p := ⟨b, 1, none⟩) hp vs W).trans h.n1, (pts_cell (p := ⟨b, 2, none⟩) hp vs W).trans h.n2, (pts_cell (p := ⟨b, 3, none⟩) hp vs W).trans h.n3, fun j hj => (pts_cell (p := ⟨b, 4 + j, none⟩) hp vs W).trans (h.c j hj), (pts_cell (p := ⟨b, 12, none⟩) hp vs W).trans h.cl, (pts_cell (p := ⟨b, 13, none⟩) hp vs W).trans h.cg, fun i => (pts_frozen _ vs W).trans (h.f i)⟩
theorem BoxG.c0 (h : BoxG W b n r md z s l g) : W.cell? ⟨b, 4, none⟩ = some (.slice (s.a 0) (s.n 0) (s.c 0)) := h.c 0 (by decide)
theorem BoxG.c1 (h : BoxG W b n r md z s l g) : W.cell? ⟨b, 5, none⟩ = some (.slice (s.a 1) (s.n 1) (s.c 1)) := h.c 1 (by decide)
theorem BoxG.c2 (h : BoxG W b n r md z s l g) : W.cell? ⟨b, 6, none⟩ = some (.slice (s.a 2) (s.n 2) (s.c 2)) := h.c 2 (by decide)
theorem BoxG.c3 (h : BoxG W b n r md z s l g) : W.cell? ⟨b, 7, none⟩ = some (.slice (s.a 3) (s.n 3) (s.c 3)) := h.c 3 (by decide)
theorem BoxG.c4 (h : BoxG W b n r md z s l g) : W.cell? ⟨b, 8, none⟩ = some (.slice (s.a 4) (s.n 4) (s.c 4)) := h.c 4 (by decide)
theorem BoxG.c5 (h : BoxG W b n r md z s l g) : W.cell? ⟨b, 9, none⟩ = some (.slice (s.a 5) (s.n 5) (s.c 5)) := h.c 5 (by decide)
theorem BoxG.c6 (h : BoxG W b n r md z s l g) : W.cell? ⟨b, 10, none⟩ = some (.slice (s.a 6) (s.n 6) (s.c 6)) := h.c 6 (by decide)
theorem BoxG.c7 (h : BoxG W b n r md z s l g) : W.cell? ⟨b, 11, none⟩ = some (.slice (s.a 7) (s.n 7) (s.c 7)) := h.c 7 (by decide)
end
/-- The whole generation stored; its map alone stored. -/
abbrev genL (n r md z : Int) (s : Sl) (l g : Int) : List (Nat × Value) := [(0, .int .i64 n), (1, .int .i64 r), (2, .int .i64 md), (3, .int .i64 z), (4, .slice (s.a 0) (s.n 0) (s.c 0)), (5, .slice (s.a 1) (s.n 1) (s.c 1)), (6, .slice (s.a 2) (s.n 2) (s.c 2)), (7, .slice (s.a 3) (s.n 3) (s.c 3)), (8, .slice (s.a 4) (s.n 4) (s.c 4)), (9, .slice (s.a 5) (s.n 5) (s.c 5)), (10, .slice (s.a 6) (s.n 6) (s.c 6)), (11, .slice (s.a 7) (s.n 7) (s.c 7)), (12, .int .i64 l), (13, .int .i64 g)]
abbrev mapL (s : Sl) (l g : Int) : List (Nat × Value) := [(4, .slice (s.a 0) (s.n 0) (s.c 0)), (5, .slice (s.a 1) (s.n 1) (s.c 1)), (6, .slice (s.a 2) (s.n 2) (s.c 2)), (7, .slice (s.a 3) (s.n 3) (s.c 3)), (8, .slice (s.a 4) (s.n 4) (s.c 4)), (9, .slice (s.a 5) (s.n 5) (s.c 5)), (10, .slice (s.a 6) (s.n 6) (s.c 6)), (11, .slice (s.a 7) (s.n 7) (s.c 7)), (12, .int .i64 l), (13, .int .i64 g)]
set_option maxHeartbeats 1000000 in
theorem BoxG.all {W : World} {b : Nat} {n r md z : Int} {s : Sl} {l g : Int} (h : BoxG W b n r md z s l g) (n' r' md' z' : Int) (s' : Sl) (l' g' : Int) : BoxG (pts W b (genL n' r' md' z' s' l' g')) b n' r' md' z' s' l' g' := by
  have a0 := h.n0
  have a1 := h.n1
  have a2 := h.n2
  have a3 := h.n3
  have c0 := h.c0
  have c1 := h.c1
  have c2 := h.c2
  have c3 := h.c3
  have c4 := h.c4
  have c5 := h.c5
  have c6 := h.c6
  have c7 := h.c7
  have c8 := h.cl
  have c9 := h.cg
  refine ⟨?_, ?_, ?_, ?_, fun j hj => ?_, ?_, ?_, fun i => (pts_frozen _ _ W).trans (h.f i)⟩
  · simp [pts, go_sem, a0]
  · simp [pts, go_sem, a1]
  · simp [pts, go_sem, a2]
  · simp [pts, go_sem, a3]
  · rcases lt8 hj with e | e | e | e | e | e | e | e <;> subst e <;> simp [pts, go_sem, c0, c1, c2, c3, c4, c5, c6, c7, Sl.v]
  · simp [pts, go_sem, c8]
  · simp [pts, go_sem, c9]
set_option maxHeartbeats 1000000 in
theorem BoxG.map {W : World} {b : Nat} {n r md z : Int} {s : Sl} {l g : Int} (h : BoxG W b n r md z s l g) (s' : Sl) (l' g' : Int) : BoxG (pts W b (mapL s' l' g')) b n r md z s' l' g' := by
  have a0 := h.n0
  have a1 := h.n1
  have a2 := h.n2
  have a3 := h.n3
  have c0 := h.c0
  have c1 := h.c1
  have c2 := h.c2
  have c3 := h.c3
  have c4 := h.c4
  have c5 := h.c5
  have c6 := h.c6
  have c7 := h.c7
  have c8 := h.cl
  have c9 := h.cg
  refine ⟨?_, ?_, ?_, ?_, fun j hj => ?_, ?_, ?_, fun i => (pts_frozen _ _ W).trans (h.f i)⟩
  · simp [pts, go_sem, a0]
  · simp [pts, go_sem, a1]
  · simp [pts, go_sem, a2]
  · simp [pts, go_sem, a3]
  · rcases lt8 hj with e | e | e | e | e | e | e | e <;> subst e <;> simp [pts, go_sem, c0, c1, c2, c3, c4, c5, c6, c7, Sl.v]
  · simp [pts, go_sem, c8]
  · simp [pts, go_sem, c9]
/-- One number stored: the revision, the mode, the size. -/
theorem BoxG.num3 {W : World} {b : Nat} {n r md z : Int} {s : Sl} {l g : Int} (h : BoxG W b n r md z s l g) (z' : Int) : BoxG (pts W b [(3, .int .i64 z')]) b n r md z' s l g := by
  have a3 := h.n3
  have ne : ∀ i, i ≠ 3 → ∀ u, W.cell? ⟨b, i, none⟩ = some u → (pts W b [(3, .int .i64 z')]).cell? ⟨b, i, none⟩ = some u := fun i hi u hu => (World.cell?_setCell_other (h := fun e => hi (by injection e with _ e _; exact e.symm)) ..).trans hu
  exact ⟨ne 0 (by decide) _ h.n0, ne 1 (by decide) _ h.n1, ne 2 (by decide) _ h.n2, by simp [pts, go_sem, a3], fun j hj => ne (4 + j) (by omega) _ (h.c j hj), ne 12 (by decide) _ h.cl, ne 13 (by decide) _ h.cg, fun i => (pts_frozen _ _ W).trans (h.f i)⟩
theorem BoxG.num2 {W : World} {b : Nat} {n r md z : Int} {s : Sl} {l g : Int} (h : BoxG W b n r md z s l g) (md' : Int) : BoxG (pts W b [(2, .int .i64 md')]) b n r md' z s l g := by
  have a3 := h.n2
  have ne : ∀ i, i ≠ 2 → ∀ u, W.cell? ⟨b, i, none⟩ = some u → (pts W b [(2, .int .i64 md')]).cell? ⟨b, i, none⟩ = some u := fun i hi u hu => (World.cell?_setCell_other (h := fun e => hi (by injection e with _ e _; exact e.symm)) ..).trans hu
  exact ⟨ne 0 (by decide) _ h.n0, ne 1 (by decide) _ h.n1, by simp [pts, go_sem, a3], ne 3 (by decide) _ h.n3, fun j hj => ne (4 + j) (by omega) _ (h.c j hj), ne 12 (by decide) _ h.cl, ne 13 (by decide) _ h.cg, fun i => (pts_frozen _ _ W).trans (h.f i)⟩
end Go.Proofs.YtenkeodfijladaaGreatDoor
