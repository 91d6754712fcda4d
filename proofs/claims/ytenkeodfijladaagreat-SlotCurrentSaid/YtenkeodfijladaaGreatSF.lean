/- Several texts in one, each over the last: SlotOldest in plain Lean: a key is removed from the older generations, one after the other. No program here. SlotCurrent in plain Lean: needles added to the last generation, a rotation. No program here. slices.Backward over places: its closure's contract, the function, what it hands back. Printed by mkSkv.py after XVb and XVc. Older of the program's slots: the walk (after XVg). Printed by mkSkw.py. -/
import Derived.Test.YtenkeodfijladaaGreatSB
import Derived.Test.YtenkeodfijladaaGreatGR
import Derived.Test.YtenkeodfijladaaGreatVB
import Derived.RangeFuncNested
import Derived.Test.YtenkeodfijladaaGreatSC
namespace Go.Proofs.YtenkeodfijladaaGreat

def dropG (g : Gn) (key : Int) : Gn := { g with m := delM g.m key }
theorem VldG.room {g : Gn} (h : VldG g) (key : Int) : g.m.garb + (szO (getM g.m key) : Int) ≤ 1099511627776 := by
  have := h.small
  have := szO_le (getM g.m key)
  omega
theorem dropG_vld {g : Gn} (h : VldG g) (key : Int) : VldG (dropG g key) := by
  have hm := (vldM_iff _).1 h.m
  have hr := h.room key
  have hd := hm.del hr
  have hs := delM_sum hm hr
  have hsum := h.sum
  refine ⟨h.num, h.rev, h.mode, h.size, (vldM_iff _).2 hd, ends_less hm hd h.ends (Int.le_refl _) ?_, ?_⟩
  · intro k y hy
    rw [getM_del hm hr] at hy
    split at hy
    · cases hy
    · exact hy
  · show g.size = 16 + (delM g.m key).live + (delM g.m key).garb
    omega
theorem dropG_get {g : Gn} (h : VldG g) (key k : Int) : getM (dropG g key).m k = if key = k then none else getM g.m k := getM_del ((vldM_iff _).1 h.m) (h.room key) k
theorem gat_some {l : List Gn} {i : Nat} (hi : i < l.length) : l[i]? = some (gat l i) := by
  unfold gat; rw [List.getD_eq_getElem?_getD, List.getElem?_eq_getElem hi]; rfl
theorem gat_set {l : List Gn} {j : Nat} (hj : j < l.length) (g : Gn) (i : Nat) : gat (l.set j g) i = if i = j then g else gat l i := by
  unfold gat
  rw [List.getD_eq_getElem?_getD, List.getElem?_set, List.getD_eq_getElem?_getD]
  by_cases e : j = i
  · rw [if_pos e, if_pos e.symm, if_pos hj]; rfl
  · rw [if_neg e, if_neg fun h => e h.symm]
theorem VldSl.inj {s : Slt} (h : VldSl s) : ∀ {i j : Nat}, i < j → j < s.gens.length → (gat s.gens i).num < (gat s.gens j).num
  | i, 0, hij, _ => by omega
  | i, j + 1, hij, hj => by
    have h1 := (h.g (j + 1) hj).2.1 (by omega)
    rw [show j + 1 - 1 = j by omega] at h1
    by_cases e : i = j
    · rw [e]; exact h1
    · have := VldSl.inj h (show i < j by omega) (by omega)
      omega
theorem VldSl.num_ne {s : Slt} (h : VldSl s) {i j : Nat} (hi : i < s.gens.length) (hj : j < s.gens.length) (hne : i ≠ j) : (gat s.gens i).num ≠ (gat s.gens j).num := by
  rcases Nat.lt_or_gt_of_ne hne with h1 | h1
  · have := h.inj h1 hj; omega
  · have := h.inj h1 hi; omega
theorem putG_set {s : Slt} (h : VldSl s) {j : Nat} (hj : j < s.gens.length) {g : Gn} (hg : g.num = (gat s.gens j).num) : putG s.gens g = s.gens.set j g := by
  refine List.ext_getElem? fun i => ?_
  unfold putG
  rw [List.getElem?_map, List.getElem?_set]
  by_cases hi : i < s.gens.length
  · rw [gat_some hi]
    by_cases hij : j = i
    · subst hij
      rw [if_pos rfl, if_pos hj]
      simp [hg]
    · rw [if_neg hij]
      have h1 : (gat s.gens i).num ≠ g.num := by rw [hg]; exact h.num_ne hi hj fun e => hij e.symm
      simp [h1]
  · rw [if_neg (by omega), List.getElem?_eq_none (by omega)]
    rfl
/-- A generation of a valid slot may be changed, where the new one fits. -/
structure Fit (s : Slt) (j : Nat) (g : Gn) : Prop where
  hj : j < s.gens.length
  v : VldG g
  n : g.num = (gat s.gens j).num
  m : g.mode = 1 ↔ j + 1 = s.gens.length
  z : g.size ≤ 2 * s.lim
  t : j + 1 = s.gens.length → g.size + (((itemsM g.m).length * 24 : Nat) : Int) ≤ 2 * s.lim
def setG (s : Slt) (j : Nat) (g : Gn) : Slt := ⟨s.id, s.lim, s.ro, s.gens.set j g⟩
theorem chg_vld {s : Slt} (h : VldSl s) {j : Nat} {g : Gn} (hf : Fit s j g) : VldSl (setG s j g) := by
  have hj := hf.hj
  refine ⟨h.id, h.lim, by show 1 ≤ (s.gens.set j g).length ∧ (s.gens.set j g).length ≤ 8; rw [List.length_set]; exact h.len, fun i hi => ?_, ?_⟩
  · have hi : i < s.gens.length := by have : i < (s.gens.set j g).length := hi; rwa [List.length_set] at this
    have ho := h.g i hi
    unfold okG setG
    dsimp only
    rw [List.length_set, gat_set hj, gat_set hj]
    obtain ⟨h1, h2, h3, h4⟩ := ho
    by_cases e : i = j
    · subst e
      rw [if_pos rfl]
      refine ⟨(vldG_iff _).2 hf.v, fun h0 => ?_, hf.m, hf.z⟩
      rw [if_neg (by omega), hf.n]
      exact h2 h0
    · rw [if_neg e]
      refine ⟨h1, fun h0 => ?_, h3, h4⟩
      by_cases e2 : i - 1 = j
      · rw [if_pos e2, hf.n, ← e2]; exact h2 h0
      · rw [if_neg e2]; exact h2 h0
  · have hl := h.len
    show (gat (s.gens.set j g) ((s.gens.set j g).length - 1)).size + (((itemsM (gat (s.gens.set j g) ((s.gens.set j g).length - 1)).m).length * 24 : Nat) : Int) ≤ 2 * s.lim
    rw [List.length_set, gat_set hj]
    by_cases e : s.gens.length - 1 = j
    · rw [if_pos e]; exact hf.t (by omega)
    · rw [if_neg e]; exact h.top
theorem chg_at {s : Slt} (h : VldSl s) {j : Nat} {g : Gn} (hf : Fit s j g) : chgS s g = (setG s j g, 0) := by
  have hv := (vldSl_iff _).2 (chg_vld h hf)
  have hp := putG_set h hf.hj hf.n
  unfold setG at hv ⊢
  unfold chgS
  rw [if_pos ((vldSl_iff s).2 h), hp, if_pos ?_, if_pos hv]
  · rw [List.any_eq_true]
    exact ⟨gat s.gens j, gat_mem hf.hj, by simp [hf.n]⟩
theorem fit_drop {s : Slt} (h : VldSl s) {j : Nat} (hj : j + 1 < s.gens.length) (key : Int) : Fit s j (dropG (gat s.gens j) key) := by
  have ho := h.g j (by omega)
  exact ⟨by omega, dropG_vld (h.vg (by omega)) key, rfl, ho.2.2.1, ho.2.2.2, fun e => by omega⟩
/-! ### The numbers of the older generations -/
/-! ### The slot after the removals below place c -/
structure Dn (S : Slt) (key : Int) (c : Nat) (s : Slt) : Prop where
  v : VldSl s
  id : s.id = S.id
  lim : s.lim = S.lim
  ro : s.ro = S.ro
  len : s.gens.length = S.gens.length
  num : ∀ r, r < S.gens.length → (gat s.gens r).num = (gat S.gens r).num
  lo : ∀ r, r < c → r < S.gens.length → getM (gat s.gens r).m key = none
  hi : ∀ r, c ≤ r → gat s.gens r = gat S.gens r
  st : LenS 48 s.gens
theorem Dn.start {S : Slt} (h : VldSl S) (hl : LenS 48 S.gens) (key : Int) : Dn S key 0 S := ⟨h, rfl, rfl, rfl, rfl, fun _ _ => rfl, fun _ h => by omega, fun _ _ => rfl, hl⟩
theorem Dn.step {S s : Slt} {key : Int} {r : Nat} (h : Dn S key r s) (hr : r + 1 < S.gens.length) : Dn S key (r + 1) (setG s r (dropG (gat s.gens r) key)) := by
  have hl := h.len
  have hj : r < s.gens.length := by omega
  have hf := fit_drop h.v (show r + 1 < s.gens.length by omega) key
  refine ⟨chg_vld h.v hf, h.id, h.lim, h.ro, by show (s.gens.set r _).length = _; rw [List.length_set]; exact hl, fun q hq => ?_, fun q hq hql => ?_, fun q hq => ?_, fun g hg => ?_⟩
  · show (gat (s.gens.set r _) q).num = _
    rw [gat_set hj]
    by_cases e : q = r
    · rw [if_pos e, e]; exact h.num r (by omega)
    · rw [if_neg e]; exact h.num q hq
  · show getM (gat (s.gens.set r _) q).m key = none
    rw [gat_set hj]
    by_cases e : q = r
    · rw [if_pos e, dropG_get (h.v.vg hj), if_pos rfl]
    · rw [if_neg e]; exact h.lo q (by omega) hql
  · show gat (s.gens.set r _) q = _
    rw [gat_set hj, if_neg (by omega)]
    exact h.hi q (by omega)
  · rcases List.mem_or_eq_of_mem_set hg with hg | rfl
    · exact h.st g hg
    · intro i hi
      exact delM_len8 _ _ (h.st _ (gat_mem hj)) i hi
/-! ### What is found -/
theorem allF_mem {l : List Gn} {key : Int} : ∀ {n : Nat} {x : Fnd} {t : List Fnd}, allF l key n = x :: t → x.at_ < n ∧ x.mode = (gat l x.at_).mode ∧ getM (gat l x.at_).m key = some x.it ∧ x.gen = (gat l x.at_).num ∧ x.rev = (gat l x.at_).rev ∧ ∀ r, x.at_ < r → r < n → getM (gat l r).m key = none
  | 0, _, _, h => by cases h
  | n + 1, x, t, h => by
    have e : allF l key (n + 1) = (match getM (gat l n).m key with | some x => [⟨(gat l n).num, (gat l n).mode, (gat l n).rev, x, n⟩] | none => []) ++ allF l key n := rfl
    rw [e] at h
    cases hx : getM (gat l n).m key with
    | some y =>
      rw [hx] at h
      injection h with h1 _
      subst h1
      exact ⟨Nat.lt_succ_self n, rfl, hx, rfl, rfl, fun r h1 h2 => by dsimp only at h1; omega⟩
    | none =>
      rw [hx] at h
      obtain ⟨h1, h2, h3, h4, h5, h6⟩ := allF_mem (show allF l key n = x :: t from h)
      exact ⟨by omega, h2, h3, h4, h5, fun r h7 h8 => by
        by_cases e : r = n
        · rw [e]; exact hx
        · exact h6 r h7 (by omega)⟩
theorem allSl_v {s : Slt} (h : VldSl s) (key : Int) : allSl s key = allF s.gens key s.gens.length := by unfold allSl; rw [if_pos ((vldSl_iff s).2 h)]
end Go.Proofs.YtenkeodfijladaaGreat

namespace Go.Proofs.YtenkeodfijladaaGreat

theorem itemsM_le {M : Mp} {n : Nat} (h : ∀ i, i < 8 → (M.st i).length ≤ n) : (itemsM M).length ≤ 8 * n := by
  have hc : ∀ k, k ≤ 8 → (cat M.st k).length ≤ k * n := by
    intro k
    induction k with
    | zero => intro _; exact Nat.zero_le _
    | succ k ih =>
      intro hk
      have h1 := ih (by omega)
      have h2 := h k (by omega)
      show (cat M.st k ++ M.st k).length ≤ _
      rw [List.length_append, Nat.succ_mul]
      omega
  unfold itemsM
  split
  · exact Nat.le_trans (srt_length _) (hc 8 (Nat.le_refl _))
  · exact Nat.zero_le _
/-- The index of the last of the first n needles that has a key; -1 if there is none. -/
def ndk (l : List Nd) (j : Nat) : Nd := l.getD j nd0
def lastK (l : List Nd) (key : Int) : Nat → Int
  | 0 => -1
  | n + 1 => if ((ndk l n).key : Int) = key then (n : Int) else lastK l key n
theorem lastK_range (l : List Nd) (key : Int) : ∀ n, lastK l key n = -1 ∨ (0 ≤ lastK l key n ∧ lastK l key n < n)
  | 0 => .inl rfl
  | n + 1 => by
    unfold lastK
    split
    · right; omega
    · rcases lastK_range l key n with h | h
      · exact .inl h
      · right; omega
/-- What a key has in a map behind some needles. -/
def gotK (g : Gn) (l : List Nd) (key : Int) (n : Nat) (o : Option It) : Prop :=
  if lastK l key n = -1 then o = getM g.m key
  else if (ndk l (lastK l key n).toNat).del = true then o = none
  else ∃ f, o = some ⟨key, ((ndk l (lastK l key n).toNat).ck : Int), f, ((ndk l (lastK l key n).toNat).data.length : Int)⟩
theorem take_ndk {l : List Nd} {n : Nat} (h : n < l.length) : l.take (n + 1) = l.take n ++ [ndk l n] := by
  rw [List.take_add_one, List.getElem?_eq_getElem h]
  unfold ndk
  rw [List.getD_eq_getElem?_getD, List.getElem?_eq_getElem h]; rfl
theorem ndk_mem {l : List Nd} {n : Nat} (h : n < l.length) : ndk l n ∈ l := by
  unfold ndk
  rw [List.getD_eq_getElem?_getD, List.getElem?_eq_getElem h]; exact List.getElem_mem h
theorem szL_tk (l : List Nd) : ∀ n, szL (l.take n) ≤ szL l := by
  intro n
  have e : szL l = szL (l.take n ++ l.drop n) := by rw [List.take_append_drop]
  have h2 : szL (l.take n ++ l.drop n) = szL (l.take n) + szL (l.drop n) := by unfold szL; rw [List.map_append, List.sum_append]
  omega
theorem getM_addOne {g : Gn} (hg : VldG g) {x : Nd} (hx : x.ok) (hz : g.size + (szN x.data.length : Int) ≤ 1048576) (key : Int) :
    getM (addOne g x).m key = if (x.key : Int) = key then (if x.del = true then none else some (itA g x)) else getM g.m key := by
  have hm := (vldM_iff _).1 hg.m
  have hs := hg.small
  have hxl := szN_le x.data.length
  unfold addOne
  dsimp only
  by_cases hd : x.del = true
  · rw [if_pos hd]
    have h1 : g.m.garb + (szO (getM g.m x.key) : Int) ≤ 1099511627776 := hg.room _
    have hd1 := hm.del h1
    have hds := delM_sum hm h1
    have hdl := hd1.live0
    have h2 : (delM g.m x.key).garb + (szN x.data.length : Int) ≤ 1099511627776 := by omega
    have hw := hd1.waste (n := (szN x.data.length : Int)) (by omega) h2
    rw [getM_of hw, wasteM_st, ← getM_of hd1, getM_del hm h1]
    simp only [hd, if_true]
  · rw [if_neg hd]
    have hok := itA_ok hg hx
    have h1 : g.m.garb + (szO (getM g.m (itA g x).key) : Int) ≤ 1099511627776 := hg.room _
    rw [getM_ins hm hok h1, if_neg hd]
    rfl
theorem getM_addAll {g : Gn} (hg : VldG g) {l : List Nd} (hok : ∀ x ∈ l, x.ok) (hz : g.size + (szL l : Int) ≤ 1048576) (key : Int) : ∀ n, n ≤ l.length → gotK g l key n (getM (addAll g (l.take n)).m key)
  | 0, _ => by unfold gotK lastK; rw [if_pos rfl]; rfl
  | n + 1, h => by
    have ih := getM_addAll hg hok hz key n (by omega)
    have hl : n < l.length := by omega
    have hsz : g.size + (szL (l.take (n + 1)) : Int) ≤ 1048576 := by have := szL_tk l (n + 1); omega
    rw [take_ndk hl, szL_snoc] at hsz
    have hv := addAll_vld (l.take n) hg (fun x hx => hok x (List.mem_of_mem_take hx)) (by omega)
    rw [take_ndk hl, addAll_snoc, getM_addOne hv (hok _ (ndk_mem hl)) (by rw [addAll_size]; omega)]
    unfold gotK lastK
    by_cases e : ((ndk l n).key : Int) = key
    · rw [if_pos e, if_pos e, if_neg (by omega)]
      by_cases hd : (ndk l n).del = true
      · rw [if_pos hd, if_pos (by rw [Int.toNat_natCast]; exact hd)]
      · rw [if_neg hd, if_neg (by rw [Int.toNat_natCast]; exact hd)]
        exact ⟨(addAll g (l.take n)).size, by rw [Int.toNat_natCast, ← e]; rfl⟩
    · rw [if_neg e, if_neg e]
      exact ih
/-! ### The slot with needles added to its last generation -/
noncomputable def addT (S : Slt) (l : List Nd) : Slt := setG S (S.gens.length - 1) (addAll (topG S) l)
theorem addT_fit {S : Slt} (h : VldSl S) (hl : LenS 48 S.gens) (hz : SizS 3216 S.gens) (h9 : S.lim = 9000) {l : List Nd} (hok : ∀ x ∈ l, x.ok) (h6 : l.length ≤ 6) (h4 : szL l ≤ 400) :
    addG (topG S) l = (0, addAll (topG S) l) ∧ Fit S (S.gens.length - 1) (addAll (topG S) l) := by
  obtain ⟨hv, hm, _⟩ := h.topv
  have hlen := h.len
  have hmem := topG_mem h
  have hsz := hz _ hmem
  have hz2 : (topG S).size + (szL l : Int) ≤ 1048576 := by omega
  have hg := addAll_vld l hv hok hz2
  have hn := addAll_num l (topG S)
  refine ⟨addG_ok hv hm hok hz2, by omega, hg, hn.1, ?_, ?_, fun _ => ?_⟩
  · rw [hn.2.2, hm]; exact ⟨fun _ => by omega, fun _ => rfl⟩
  · rw [addAll_size, h9]; omega
  · have h1 := itemsM_le (addAll_len l (topG S) (hl _ hmem))
    rw [addAll_size, h9]
    omega
theorem topS_ok {S : Slt} (h : VldSl S) : topS S = (0, topG S) := by unfold topS; rw [if_pos ((vldSl_iff S).2 h)]
theorem allF_set {S : Slt} (h : VldSl S) {g : Gn} (hg : g.num = (topG S).num ∧ g.rev = (topG S).rev ∧ g.mode = (topG S).mode) (key : Int) :
    allF (S.gens.set (S.gens.length - 1) g) key S.gens.length = (match getM g.m key with | some x => [⟨(topG S).num, (topG S).mode, (topG S).rev, x, S.gens.length - 1⟩] | none => []) ++ allF S.gens key (S.gens.length - 1) := by
  have hlen := h.len
  obtain ⟨k, hk⟩ : ∃ k, S.gens.length = k + 1 := ⟨S.gens.length - 1, by omega⟩
  have hj : S.gens.length - 1 < S.gens.length := by omega
  have hcong : ∀ n, n ≤ S.gens.length - 1 → allF (S.gens.set (S.gens.length - 1) g) key n = allF S.gens key n := by
    intro n
    induction n with
    | zero => intro _; rfl
    | succ n ih =>
      intro hn
      unfold allF
      rw [ih (by omega), gat_set hj, if_neg (by omega)]
  have e : allF (S.gens.set (S.gens.length - 1) g) key S.gens.length = (match getM (gat (S.gens.set (S.gens.length - 1) g) (S.gens.length - 1)).m key with | some x => [⟨(gat (S.gens.set (S.gens.length - 1) g) (S.gens.length - 1)).num, (gat (S.gens.set (S.gens.length - 1) g) (S.gens.length - 1)).mode, (gat (S.gens.set (S.gens.length - 1) g) (S.gens.length - 1)).rev, x, S.gens.length - 1⟩] | none => []) ++ allF (S.gens.set (S.gens.length - 1) g) key (S.gens.length - 1) := by
    rw [hk]; rfl
  rw [e, hcong _ (Nat.le_refl _), gat_set hj, if_pos rfl, hg.1, hg.2.1, hg.2.2]
theorem allF_top {S : Slt} (h : VldSl S) (key : Int) :
    allF S.gens key S.gens.length = (match getM (topG S).m key with | some x => [⟨(topG S).num, (topG S).mode, (topG S).rev, x, S.gens.length - 1⟩] | none => []) ++ allF S.gens key (S.gens.length - 1) := by
  have hlen := h.len
  obtain ⟨k, hk⟩ : ∃ k, S.gens.length = k + 1 := ⟨S.gens.length - 1, by omega⟩
  unfold topG
  rw [hk]; rfl
/-- What the law asks of a key behind the needles. -/
def NowOk (S : Slt) (l : List Nd) (key : Int) (now : Fnd) (has : Bool) (was : Fnd) (had : Bool) : Prop :=
  if lastK l key l.length = -1 then has = had ∧ now = was
  else if (ndk l (lastK l key l.length).toNat).del = true then ¬ (has = true ∧ now.gen = (topG S).num)
  else has = true ∧ now.gen = (topG S).num ∧ now.it.ck = ((ndk l (lastK l key l.length).toNat).ck : Int) ∧ now.it.size = ((ndk l (lastK l key l.length).toNat).data.length : Int)
theorem allF_gen {S : Slt} (h : VldSl S) {key : Int} {x : Fnd} {t : List Fnd} (hx : allF S.gens key (S.gens.length - 1) = x :: t) : x.gen ≠ (topG S).num := by
  have hlen := h.len
  obtain ⟨h1, _, _, h4, _, _⟩ := allF_mem hx
  rw [h4]
  have := h.inj h1 (by omega)
  unfold topG
  omega
theorem now_ok {S : Slt} (h : VldSl S) {l : List Nd} (hf : addG (topG S) l = (0, addAll (topG S) l) ∧ Fit S (S.gens.length - 1) (addAll (topG S) l)) (hok : ∀ x ∈ l, x.ok) (key : Int) :
    NowOk S l key ((allSl (addT S l) key).headD fnd0) (!(allSl (addT S l) key).isEmpty) ((allSl S key).headD fnd0) (!(allSl S key).isEmpty) := by
  have hv := chg_vld h hf.2
  have hn := addAll_num l (topG S)
  have hsz : (topG S).size + (szL l : Int) ≤ 1048576 := by
    have h1 := hf.2.v.size
    rw [addAll_size] at h1
    omega
  have hg := getM_addAll h.topv.1 hok hsz key l.length (Nat.le_refl _)
  rw [List.take_of_length_le (Nat.le_refl _)] at hg
  have e1 : allSl (addT S l) key = allF (S.gens.set (S.gens.length - 1) (addAll (topG S) l)) key S.gens.length := by
    unfold addT
    rw [allSl_v hv]
    show allF (S.gens.set (S.gens.length - 1) (addAll (topG S) l)) key (S.gens.set (S.gens.length - 1) (addAll (topG S) l)).length = _
    rw [List.length_set]
  rw [e1, allF_set h hn, allSl_v h, allF_top h]
  unfold gotK at hg
  unfold NowOk
  by_cases hl : lastK l key l.length = -1
  · rw [if_pos hl] at hg ⊢
    rw [hg]
    exact ⟨rfl, rfl⟩
  · rw [if_neg hl] at hg ⊢
    by_cases hd : (ndk l (lastK l key l.length).toNat).del = true
    · rw [if_pos hd] at hg ⊢
      rw [hg]
      rintro ⟨h1, h2⟩
      cases hx : allF S.gens key (S.gens.length - 1) with
      | nil => rw [hx] at h1; cases h1
      | cons x t =>
        rw [hx] at h2
        exact allF_gen h hx h2
    · rw [if_neg hd] at hg ⊢
      obtain ⟨f, hg⟩ := hg
      rw [hg]
      exact ⟨rfl, rfl, rfl, rfl⟩
/-- A rotation changes no current item. -/
theorem rot_ok {S : Slt} (h : VldSl S) (hr : (rotS S).2 = 0) (key : Int) :
    (!(allSl (rotS S).1 key).isEmpty) = (!(allSl S key).isEmpty) ∧ ((allSl (rotS S).1 key).headD fnd0).gen = ((allSl S key).headD fnd0).gen ∧ ((allSl (rotS S).1 key).headD fnd0).it = ((allSl S key).headD fnd0).it := by
  have hv := rotS_vld hr
  rw [allSl_v hv, allSl_v h, allF_top h]
  rw [rotS_ok hr]
  dsimp only
  have hlen := h.len
  have hk : S.gens.length - 1 ≤ S.gens.length := by omega
  obtain ⟨k, hk1⟩ : ∃ k, S.gens.length - 1 = k := ⟨_, rfl⟩
  rw [hk1] at hk ⊢
  have el : (S.gens.take k ++ [{ topG S with mode := 2 }, fresh ((topG S).num + 1)]).length = k + 2 := by
    simp only [List.length_append, List.length_take, List.length_cons, List.length_nil]; omega
  have hcong : ∀ n, n ≤ k → allF (S.gens.take k ++ [{ topG S with mode := 2 }, fresh ((topG S).num + 1)]) key n = allF S.gens key n := by
    intro n
    induction n with
    | zero => intro _; rfl
    | succ n ih =>
      intro hn
      unfold allF
      rw [ih (by omega), gat_take (show n < k by omega) hk]
  have g0 : gat (S.gens.take k ++ [{ topG S with mode := 2 }, fresh ((topG S).num + 1)]) k = { topG S with mode := 2 } := by
    have := gat_end hk [{ topG S with mode := 2 }, fresh ((topG S).num + 1)] 0
    rw [Nat.add_zero] at this
    rw [this]; rfl
  have g1 : gat (S.gens.take k ++ [{ topG S with mode := 2 }, fresh ((topG S).num + 1)]) (k + 1) = fresh ((topG S).num + 1) := by
    rw [gat_end hk _ 1]; rfl
  have gf : getM (fresh ((topG S).num + 1)).m key = none := by
    rw [getM_of ((vldM_iff _).1 (fresh_map _))]
    rfl
  rw [el]
  have e2 : allF (S.gens.take k ++ [{ topG S with mode := 2 }, fresh ((topG S).num + 1)]) key (k + 2) = (match getM (topG S).m key with | some x => [⟨(topG S).num, 2, (topG S).rev, x, k⟩] | none => []) ++ allF S.gens key k := by
    show (match getM (gat _ (k + 1)).m key with | some x => _ | none => []) ++ ((match getM (gat _ k).m key with | some x => _ | none => []) ++ allF _ key k) = _
    rw [g1, gf, hcong k (Nat.le_refl _), g0]
    rfl
  rw [e2]
  cases getM (topG S).m key with
  | none => exact ⟨rfl, rfl, rfl⟩
  | some x => exact ⟨rfl, rfl, rfl⟩
theorem rotS_err {S : Slt} (h : VldSl S) : (rotS S).2 = 0 ∨ (rotS S).2 = 9 := by
  unfold rotS
  rw [if_pos ((vldSl_iff S).2 h)]
  split
  · exact .inl rfl
  · exact .inr rfl
end Go.Proofs.YtenkeodfijladaaGreat

namespace Go.Proofs.YtenkeodfijladaaGreat
open Go.RowKit Go.Shelf

attribute [local go_sem] Oper.semAt_some

abbrev fdV (x : Fnd) : Value := .agg #[.int .i64 x.gen, .int .i64 x.mode, .int .i64 x.rev, .int .u64 x.it.key, .int .u32 x.it.ck, .int .i64 x.it.off, .int .i64 x.it.size, .int .i64 (x.at_ : Int)]
/-- A place with its index in eight cells. -/
structure FAt (W : World) (b o : Nat) (x : Fnd) : Prop where
  c0 : W.cell? ⟨b, o, none⟩ = some (.int .i64 x.gen)
  c1 : W.cell? ⟨b, o + 1, none⟩ = some (.int .i64 x.mode)
  c2 : W.cell? ⟨b, o + 2, none⟩ = some (.int .i64 x.rev)
  c3 : W.cell? ⟨b, o + 3, none⟩ = some (.int .u64 x.it.key)
  c4 : W.cell? ⟨b, o + 4, none⟩ = some (.int .u32 x.it.ck)
  c5 : W.cell? ⟨b, o + 5, none⟩ = some (.int .i64 x.it.off)
  c6 : W.cell? ⟨b, o + 6, none⟩ = some (.int .i64 x.it.size)
  c7 : W.cell? ⟨b, o + 7, none⟩ = some (.int .i64 (x.at_ : Int))
theorem FAt.below {W W' : World} {b o : Nat} {x : Fnd} (h : FAt W b o x) (hb : Below W.heap.size W W') : FAt W' b o x := ⟨hb.keeps' h.c0, hb.keeps' h.c1, hb.keeps' h.c2, hb.keeps' h.c3, hb.keeps' h.c4, hb.keeps' h.c5, hb.keeps' h.c6, hb.keeps' h.c7⟩
def fat (l : List Fnd) (i : Nat) : Fnd := l.getD i fnd0
theorem RdFd.at {w : World} {a : Option Addr} {n c : Nat} {l : List Fnd} (h : RdFd w (.slice a n c) l) : n = l.length ∧ (0 < n → ∃ b off, a = some ⟨b, off, none⟩ ∧ ∀ j, j < n → FAt w b (off + j * 8) (fat l j)) := by
  obtain ⟨a', cap', e, _, _, _, h5⟩ := RdS.shape h (by decide) fnd0
  injection e with e1 e2 e3
  subst e1 e2 e3
  refine ⟨rfl, fun hp => ?_⟩
  obtain ⟨b, off, e, hc⟩ := h5 hp
  refine ⟨b, off, e, fun j hj => ?_⟩
  have g := fun i u hu => hc j hj i u hu
  exact ⟨by have := g 0 _ rfl; simpa [Nat.add_assoc, fat] using this, by have := g 1 _ rfl; simpa [Nat.add_assoc, fat] using this, by have := g 2 _ rfl; simpa [Nat.add_assoc, fat] using this, by have := g 3 _ rfl; simpa [Nat.add_assoc, fat] using this, by have := g 4 _ rfl; simpa [Nat.add_assoc, fat] using this, by have := g 5 _ rfl; simpa [Nat.add_assoc, fat] using this, by have := g 6 _ rfl; simpa [Nat.add_assoc, fat] using this, by have := g 7 _ rfl; simpa [Nat.add_assoc, fat] using this⟩
/-- What a round keeps: the places' block and the iterator's box. -/
def KpF (b Bs : Nat) (W W' : World) : Prop := ∀ p : Addr, (p.block = b ∨ p.block = Bs) → ∀ v, W.cell? p = some v → W'.cell? p = some v
theorem KpF.refl (b Bs : Nat) (W : World) : KpF b Bs W W := fun _ _ _ h => h
theorem KpF.trans {b Bs : Nat} {A B C : World} (h : KpF b Bs A B) (k : KpF b Bs B C) : KpF b Bs A C := fun p hp v hv => k p hp v (h p hp v hv)
theorem KpF.put {b Bs : Nat} {w : World} (hb : b < w.heap.size) (hB : Bs < w.heap.size) (W : World) (l : Nat) (o o' : Obj) (hl : w.heap.size ≤ l) (h : W.heap[l]? = some o) (h1 : o.isCells = false) (h2 : o.isWalk = false) : KpF b Bs W (W.putObj l o') := fun p hp v hv =>
  ((belowK_b (n₀ := p.block + 1) (w := w) (by rcases hp with e | e <;> omega) W l o o' hl h h1 h2).cell (p := p) (Nat.lt_succ_self _)).trans hv
theorem KpF.below {b Bs : Nat} {W W' : World} (h : Below W.heap.size W W') : KpF b Bs W W' := fun _ _ _ hv => h.keeps' hv
set_option maxRecDepth 100000 in
set_option maxHeartbeats 4000000 in
theorem back1f_in (F : Fence) (n : Nat) (hf : F.fn 105) (hro : F.round = none) (hn : 1 ≤ n) (l Bs b off len cap : Nat) (a : Option Addr) (ha : 0 < len → a = some ⟨b, off, none⟩) (L : List Fnd) (hlen : len ≤ 8) (J Jx : List Nat → World → Prop)
    (hY : ∀ pre (x : Nat) W, J pre W → pre.length < len → YieldAt F (n - 1) Tryz.prog l #[.int .i64 (x : Int), fdV (fat L x)] W fun e W' =>
      (e = .returned (.bool true) ∧ J (pre ++ [x]) W' ∧ KpF b Bs W W') ∨ (e = .returned (.bool false) ∧ Jx (pre ++ [x]) W'))
    (W : World) (hBs : W.cell? ⟨Bs, 0, none⟩ = some (.slice a len cap)) (hc : ∀ j, j < len → FAt W b (off + j * 8) (fat L j)) (h0 : J [] W) :
    CallsIn F n Tryz.prog 105 #[.func (.yield l) #[] #[], .pointer (some ⟨Bs, 0, none⟩)] W fun e W' => (∃ v, e = .returned v) ∧
      ((∃ ys, ys = downto len len ∧ J ys W') ∨ (∃ pre, (∃ k, k ≤ len ∧ pre = downto len k) ∧ Jx pre W')) := by
  refine callsIn_of_wp Tryz.func105 rfl hf ?_ hro
  simp only [Tryz.ntmps105, List.size_toArray, List.length_cons, List.length_nil, Nat.reduceAdd, Nat.reduceSub, Array.replicate_succ, Array.replicate_zero, List.push_toArray, List.append_toArray, List.nil_append, List.cons_append]
  gi_wp2
  gi_loopw [3] (fun i wr => ∃ k : Nat, k ≤ len ∧ i = .int .i64 ((len : Int) - 1 - (k : Int)) ∧ J (downto len k) wr ∧ KpF b Bs W wr)
    (fun i _ => (intOf i + 1).toNat)
  case atStart => exact ⟨0, Nat.zero_le _, by simp [IntWalk.i64_in _ (show -9223372036854775808 ≤ (len : Int) - 1 ∧ (len : Int) - 1 ≤ 9223372036854775807 by omega)], h0, KpF.refl _ _ _⟩
  case round =>
    obtain ⟨k, hk, rfl, hJs, hnx⟩ := hrel
    have hBk := hnx ⟨Bs, 0, none⟩ (.inr rfl) _ hBs
    by_cases hlt : k < len
    · obtain ⟨j, hj⟩ : ∃ j, k + 1 + j = len := ⟨len - 1 - k, by omega⟩
      have hjk : len - 1 - k = j := by omega
      obtain ⟨fn, tmps, assign, body, hy, hR⟩ := hY _ (len - 1 - k) wr hJs (by rw [downto_length]; exact hlt)
      have ej : (len : Int) - 1 - (k : Int) = (j : Int) := by omega
      rw [ej]
      rw [hjk] at hy hR
      have i2 : (j : Int) < (len : Int) := by omega
      have ha' := ha (by omega)
      subst ha'
      have g0 := hnx ⟨b, off + j * 8, none⟩ (.inl rfl) _ (hc j (by omega)).c0
      have g1 := hnx ⟨b, off + j * 8 + 1, none⟩ (.inl rfl) _ (hc j (by omega)).c1
      have g2 := hnx ⟨b, off + j * 8 + 2, none⟩ (.inl rfl) _ (hc j (by omega)).c2
      have g3 := hnx ⟨b, off + j * 8 + 3, none⟩ (.inl rfl) _ (hc j (by omega)).c3
      have g4 := hnx ⟨b, off + j * 8 + 4, none⟩ (.inl rfl) _ (hc j (by omega)).c4
      have g5 := hnx ⟨b, off + j * 8 + 5, none⟩ (.inl rfl) _ (hc j (by omega)).c5
      have g6 := hnx ⟨b, off + j * 8 + 6, none⟩ (.inl rfl) _ (hc j (by omega)).c6
      have g7 := hnx ⟨b, off + j * 8 + 7, none⟩ (.inl rfl) _ (hc j (by omega)).c7
      gi_wp2
      refine hR.mono ?_
      rintro e W3 (⟨rfl, hJ3, hk3⟩ | ⟨rfl, hJx3⟩)
      · gi_wp2
        go_roundw
        case rel => exact ⟨k + 1, by omega, by first | (simp; done) | (simp; omega), by rw [downto_succ, hjk]; exact hJ3, hnx.trans hk3⟩
        case measure => first | (simp [intOf]; done) | (simp [intOf]; omega)
      · gi_wp2
        refine bodyPost_ret (results_none rfl _ _ _) rfl ?_
        exact ⟨⟨_, rfl⟩, .inr ⟨_, ⟨k + 1, by omega, by rw [downto_succ, hjk]⟩, hJx3⟩⟩
    · obtain rfl : k = len := by omega
      have ej : (k : Int) - 1 - (k : Int) = -1 := by omega
      rw [ej]
      gi_wp2
      go_end0
      exact ⟨⟨_, rfl⟩, .inl ⟨_, rfl, hJs⟩⟩
theorem backwardf_any (a : Option Addr) (n c : Nat) (w : World) : Calls Tryz.prog 61 #[.slice a n c] w fun e w' => e = .returned (.func (.func 105) #[] #[.pointer (some ⟨w.heap.size, 0, none⟩)]) ∧ w' = w.alloc (.cells #[.slice a n c] 135) := by
  go_enter Tryz.func61, Tryz.ntmps61
  go_wp2_with fail
  go_ret
  exact ⟨rfl, rfl⟩
theorem backf_stops (F : Fence) (n : Nat) (hf : F.fn 105) (hro : F.round = none) (hn : 1 ≤ n) (Bs b off len cap : Nat) (a : Option Addr) (ha : 0 < len → a = some ⟨b, off, none⟩) (L : List Fnd) (hlen : len ≤ 8) (w : World)
    (hBs : w.cell? ⟨Bs, 0, none⟩ = some (.slice a len cap)) (hc : ∀ j, j < len → FAt w b (off + j * 8) (fat L j)) :
    SeqStopsK F n Tryz.prog 105 #[.pointer (some ⟨Bs, 0, none⟩)] (fun x : Nat => #[.int .i64 (x : Int), fdV (fat L x)]) (KpF b Bs) (fun ys => ys = downto len len) (fun pre => ∃ k, k ≤ len ∧ pre = downto len k) len w := fun l J Jx W hW _ _ hY h0 =>
  back1f_in F n hf hro hn l Bs b off len cap a ha L hlen J Jx hY W (hW.keeps' hBs) (fun j hj => (hc j hj).below hW) h0
end Go.Proofs.YtenkeodfijladaaGreat

namespace Go.Proofs.YtenkeodfijladaaGreat
open Go.RowKit Go.Shelf

attribute [local go_sem] Oper.semAt_some

/-- The numbers of places that are not the last generation's, of those at the indexes. -/
def outO (F : List Fnd) (n : Nat) (pre : List Nat) : List Int := pre.flatMap fun x => if ((fat F x).at_ : Int) ≠ (n : Int) - 1 then [(fat F x).gen] else []
theorem outO_hit {F : List Fnd} {n : Nat} (pre : List Nat) {x : Nat} (h : ((fat F x).at_ : Int) ≠ (n : Int) - 1) : outO F n (pre ++ [x]) = outO F n pre ++ [(fat F x).gen] := by simp [outO, h]
theorem outO_miss {F : List Fnd} {n : Nat} (pre : List Nat) {x : Nat} (h : ((fat F x).at_ : Int) = (n : Int) - 1) : outO F n (pre ++ [x]) = outO F n pre := by simp [outO, h]
theorem outO_len (F : List Fnd) (n : Nat) (pre : List Nat) : (outO F n pre).length ≤ pre.length := by
  induction pre with
  | nil => exact Nat.le_refl _
  | cons x pre ih =>
    have e : outO F n (x :: pre) = (if ((fat F x).at_ : Int) ≠ (n : Int) - 1 then [(fat F x).gen] else []) ++ outO F n pre := rfl
    rw [e, List.length_append, List.length_cons]
    split <;> simp <;> omega
theorem downto_map (F : List Fnd) : (downto F.length F.length).map (fat F) = F.reverse := by
  refine List.ext_getElem (by simp [downto_length]) fun j h1 h2 => ?_
  simp only [List.length_map, downto_length] at h1
  simp [downto, fat, List.getElem_reverse, List.getD_eq_getElem?_getD]
  rw [List.getElem?_eq_getElem (by omega)]
  rfl
theorem outO_all {s : Slt} (key : Int) : outO (allSl s key) s.gens.length (downto (allSl s key).length (allSl s key).length) = olderS s key := by
  have e1 : outO (allSl s key) s.gens.length (downto (allSl s key).length (allSl s key).length) = ((downto (allSl s key).length (allSl s key).length).map (fat (allSl s key))).flatMap fun x => if (x.at_ : Int) ≠ (s.gens.length : Int) - 1 then [x.gen] else [] := by
    unfold outO; rw [List.flatMap_map]
  rw [e1, downto_map]
  unfold olderS
  cases hv : vldSl s with
  | false => rw [allSl_no hv]; rfl
  | true =>
    rw [if_pos rfl]
    have hn := ((vldSl_iff _).1 hv).len.1
    have e2 : allSl s key = allF s.gens key s.gens.length := by unfold allSl; rw [if_pos hv]
    rw [e2, ← allF_old s.gens key s.gens.length (s.gens.length - 1) (by omega)]
    have hb := gotF_bound (l := s.gens) (key := key) s.gens.length
    have hq : ∀ M : List Fnd, (∀ x ∈ M, x.at_ < s.gens.length) → (M.flatMap fun x => if (x.at_ : Int) ≠ (s.gens.length : Int) - 1 then [x.gen] else []) = (M.filter fun x => decide (x.at_ < s.gens.length - 1)).map (·.gen) := by
      intro M
      induction M with
      | nil => intro _; rfl
      | cons x M ih =>
        intro hM
        have hx := hM x (List.mem_cons_self ..)
        rw [List.flatMap_cons, ih fun y hy => hM y (List.mem_cons_of_mem _ hy)]
        by_cases hc : x.at_ < s.gens.length - 1
        · rw [if_pos (by omega), List.filter_cons_of_pos (by simpa using hc)]; rfl
        · rw [if_neg (by omega), List.filter_cons_of_neg (by simpa using hc)]; rfl
    exact hq _ fun x hx => hb x (List.mem_reverse.1 hx)
theorem allSl_len (s : Slt) (key : Int) : (allSl s key).length ≤ 8 := by
  cases hv : vldSl s with
  | false => rw [allSl_no hv]; exact Nat.zero_le _
  | true =>
    have e2 : allSl s key = allF s.gens key s.gens.length := by unfold allSl; rw [if_pos hv]
    rw [e2]
    exact Nat.le_trans (allF_len _ _ _) ((vldSl_iff _).1 hv).len.2
theorem blk_own {β : Type} (B : Nat) (t : TypeId) (cs : β → Array Value) : Own (fun s W => BlkE W B (cs s) t) := fun s X Y row hs hg hrow => by
  have hs' : X.heap[B]? = some (.cells (cs s) t (0, 0)) := hs
  exact (hg.block B (Array.getElem?_eq_some_iff.1 hs').1 (fun e' => by obtain ⟨o, ho, hc⟩ := hrow B e'.symm; rw [hs'] at ho; cases ho; cases hc)).trans hs'
theorem row_own {β : Type} (n₀ : Nat) (e : TypeId) (size : Nat) (v : β → Value) (k : β → Nat) (f : β → List Value) : Own (fun s W => W.ownsRow n₀ e size (v s) (k s) (f s)) := by
  rintro s X Y row hr hg hrow
  refine hr.kept hg ?_
  rcases hr.2 with ⟨h1, _⟩ | ⟨g, cap, cur, h1, _, hgb, _⟩
  · exact .inl (by rw [h1]; rfl)
  · refine .inr fun e' => ?_
    obtain ⟨o, ho, hc⟩ := hrow g (by rw [h1] at e'; simpa [Value.ownBlock] using e'.symm)
    rw [hgb] at ho; cases ho; cases hc
theorem rows_apart {W : World} {n n' sz sz' k k' : Nat} {e e' : TypeId} {v v' : Value} {xs xs' : List Value} (h : W.ownsRow n e sz v k xs) (h' : W.ownsRow n' e' sz' v' k' xs') (he : e ≠ e') : v.ownBlock = none ∨ v.ownBlock ≠ v'.ownBlock := by
  rcases h.2 with ⟨h1, _⟩ | ⟨g, cap, cur, rfl, _, hgb, _⟩
  · exact .inl (by rw [h1]; rfl)
  · refine .inr ?_
    rcases h'.2 with ⟨rfl, _⟩ | ⟨g2, cap2, cur2, rfl, _, hgb2, _⟩
    · simp [Value.ownBlock]
    · intro e3
      obtain rfl : g = g2 := by simpa [Value.ownBlock] using e3
      rw [hgb] at hgb2
      simp at hgb2
      exact he hgb2.2
theorem BlkE.not_row {W : World} {B : Nat} {cs : Array Value} {t e : TypeId} (h : BlkE W B cs t) (hte : t ≠ e) {base size k : Nat} {v : Value} {xs : List Value} (hr : W.ownsRow base e size v k xs) : some B ≠ v.ownBlock := by
  rcases hr.2 with ⟨rfl, _⟩ | ⟨g, cap, cur, rfl, _, hgb, _⟩
  · simp [Value.ownBlock]
  · intro e'
    obtain rfl : B = g := by simpa [Value.ownBlock] using e'
    have := (show W.heap[B]? = _ from h).symm.trans hgb
    simp at this
    exact hte this.2
set_option maxRecDepth 100000 in
set_option maxHeartbeats 8000000 in
theorem solder_any (i l : Int) (r : Bool) (a : Option Addr) (n c : Nat) (L : List GP) (w : World) (h : RdG w (.slice a n c) L) (hs : ∀ p ∈ L, ∀ j, j < 8 → (p.1.m.st j).length ≤ 10000) (key : Int) :
    Calls Tryz.prog 17 #[sloV i l r a n c, .int .u64 key] w fun e w' => ∃ v', e = .returned v' ∧ OwnI w' w.heap.size v' (olderS ⟨i, l, r, gns L⟩ key) ∧ Below w.heap.size w w' := by
  have hSl := fun W (hb : Below w.heap.size w W) => all_any i l r a n c L W (h.below hb) hs key
  have hres := outO_all (s := ⟨i, l, r, gns L⟩) key
  have hF8 := allSl_len ⟨i, l, r, gns L⟩ key
  have hnL : (gns L).length = n := by
    rw [gns_len]; obtain ⟨_, _, e, _⟩ := h.shape; injection e with _ e _; exact e.symm
  have hcap : n ≤ 9223372036854775807 := by
    show n ≤ maxLen
    obtain ⟨_, _, e, h1, h2⟩ := h.shape
    injection e with _ e _
    rw [e]; exact Nat.le_trans h1 h2
  dsimp only at hres
  rw [hnL] at hres
  generalize hF : allSl ⟨i, l, r, gns L⟩ key = F at *
  clear hF h hs hnL
  rw [← hres]
  clear hres
  obtain ⟨i0, hi, hz0, hz1, hz2⟩ := info_parts (P := Tryz.prog) (e := 3) (z := .int .i64 0) (size := 1) (bytes := 8) (by kernel_rfl)
  refine (callsIn_wide (n := 20)).1 (callsIn_of_wp_marks Tryz.func17 rfl trivial ?_ rfl)
  simp only [Tryz.ntmps17, List.size_toArray, List.length_cons, List.length_nil, Nat.reduceAdd, Nat.reduceSub, Array.replicate_succ, Array.replicate_zero, List.push_toArray, List.append_toArray, List.nil_append, List.cons_append]
  have hbox := BoxV.new w i l r a n c 41
  have hbel := below_slo w i l r a n c 41
  have hO := Boxed.new (w.alloc (.cells (sloC i l r a n c) 41)) 46 (.slice none 0 0)
  rw [World.size_alloc] at hO
  have hX := hbox.below ((Below.refl _ _).alloc (Nat.le_refl _) (.cells #[.slice none 0 0] 46))
  have hB1 := hbel.alloc (by simp) (.cells #[.slice none 0 0] 46)
  have k0 := hX.c0
  have k1 := hX.c1
  have k2 := hX.c2
  have k3 := hX.c3
  gi_wp2_with (first | (refine ⟨trivial, ?_⟩; gi_at_call 57; refine (callsIn_wide.2 (hSl _ hB1)).mono ?_; rintro e w1 ⟨v, rfl, hown, hb1⟩; obtain ⟨av, cv, rfl, -, -, -, -⟩ := RdS.shape hown.rd (by decide) fnd0) | (refine ⟨trivial, ?_⟩; gi_at_call 61; refine (callsIn_wide.2 (backwardf_any _ _ _ _)).mono ?_; rintro e w' ⟨rfl, rfl⟩; clear k0 k1 k2 k3))
  clear hSl
  have hpos := fun hp => rowG_some hown hp
  obtain ⟨b, off, hav, hbl, hbb, hrows⟩ : ∃ b off, (0 < F.length → av = some ⟨b, off, none⟩) ∧ b < w1.heap.size + 1 ∧ w.heap.size + 2 ≤ b ∧ ∀ j, j < F.length → FAt w1 b (off + j * 8) (fat F j) := by
    by_cases hp : 0 < F.length
    · obtain ⟨g, hg1, hg2, hg3⟩ := hpos hp
      obtain ⟨_, hq⟩ := RdFd.at hown.rd
      obtain ⟨b, off, e1, hr⟩ := hq hp
      rw [hg1] at e1
      obtain ⟨rfl, rfl⟩ : b = g ∧ off = 0 := by injection e1 with e1; injection e1 with e1 e2; exact ⟨e1.symm, e2.symm⟩
      exact ⟨b, 0, fun _ => hg1, by omega, by simpa using hg2, hr⟩
    · exact ⟨w1.heap.size, 0, fun h => absurd h hp, by omega, by have := hb1.size; simpa using this, fun j hj => absurd (Nat.lt_of_le_of_lt (Nat.zero_le _) hj) hp⟩
  have hS1 : BlkE w1 w.heap.size (sloC i l r a n c) 41 := ((BlkE.new w _ _).below ((Below.refl _ _).alloc (Nat.le_refl _) _)).below hb1
  have hO1 := hO.below hb1
  have hB2 := bstep hB1 hb1
  have hF1 := hown
  clear hb1 hX hbox hbel hB1 hO hown hpos
  have hlz : w.heap.size + 2 ≤ w1.heap.size := by have := hO1.lt; omega
  obtain ⟨W0, hW0⟩ : ∃ W0, w1.alloc (.cells #[.slice av F.length cv] 135) = W0 := ⟨_, rfl⟩
  have bS : Boxed W0 w1.heap.size 135 (.slice av F.length cv) := by rw [← hW0]; exact Boxed.new w1 _ _
  have bO : Boxed W0 (w.heap.size + 1) 46 (.slice none 0 0) := by rw [← hW0]; exact hO1.alloc _
  have bX : BlkE W0 w.heap.size (sloC i l r a n c) 41 := by rw [← hW0]; exact hS1.below ((Below.refl _ _).alloc (Nat.le_refl _) _)
  have bF : W0.ownsRow (w.heap.size + 2) 138 8 (.slice av F.length cv) F.length (F.flatMap fdC) := by
    rw [← hW0]
    have := hF1.alloc (.cells #[.slice av F.length cv] 135)
    simpa using this
  have hB3 : Below w.heap.size w W0 := by rw [← hW0]; exact hB2.alloc hB2.size _
  have hsz : W0.heap.size = w1.heap.size + 1 := by rw [← hW0]; simp
  have hrows0 : ∀ j, j < F.length → FAt W0 b (off + j * 8) (fat F j) := by rw [← hW0]; exact fun j hj => (hrows j hj).below ((Below.refl _ _).alloc (Nat.le_refl _) _)
  rw [hW0]
  clear hW0 hS1 hO1 hF1 hB2 hrows
  generalize w1.heap.size = Bs at *
  clear w1
  refine wpIn_rangeFunc_ownH rfl (by decide) (gf := 105) (lb := #[.pointer (some ⟨Bs, 0, none⟩)]) rfl trivial (enters_of Tryz.func105 (by kernel_rfl) rfl)
    (backf_stops Fence.wide (20 - 1) trivial rfl (by decide) Bs b off F.length cv av hav F hF8 W0 bS.cell hrows0) KpF.trans (KpF.put (by omega) (by omega)) (Below.refl _ _) (fun _ => rfl)
    (fun pre W => (((∃ v, Boxed W (w.heap.size + 1) 46 v ∧ W.ownsRow w.heap.size 3 1 v (outO F n pre).length ((outO F n pre).map intC) ∧ True) ∧ W.ownsRow (w.heap.size + 2) 138 8 (.slice av F.length cv) F.length (F.flatMap fdC)) ∧ BlkE W w.heap.size (sloC i l r a n c) 41 ∧ Boxed W Bs 135 (.slice av F.length cv)) ∧ Below w.heap.size w W)
    (fun _ _ _ => False)
    (OwnFrom.and (OwnFrom.and (OwnFrom.and (Own.from (holdsRow_own w.heap.size (w.heap.size + 1) 46 3 1 (fun pre => (outO F n pre).length) (fun pre => (outO F n pre).map intC) (fun _ _ => True)) _) (Own.from (row_own (w.heap.size + 2) 138 8 (fun _ => .slice av F.length cv) (fun _ => F.length) (fun _ => F.flatMap fdC)) _)) (OwnFrom.and (Own.from (blk_own _ _ _) _) (Own.from (boxed_own _ _ _) _))) (ownFrom_below (Nat.le_refl _) (by omega)))
    (fun _ _ _ _ _ hs _ _ => hs)
    ⟨⟨⟨⟨_, bO, World.ownsRow_nil _ _ _ _, trivial⟩, bF⟩, bX, bS⟩, hB3⟩
    (fun x a' W => ∃ Bx, Bs < Bx ∧ b < Bx ∧ BlkE W Bx (fdC (fat F x)).toArray 138 ∧ a' = { tmps := #[sloV i l r a n c, .int .u64 key, .pointer (some ⟨w.heap.size, 0, none⟩), undef, .slice none 0 0, .pointer (some ⟨w.heap.size + 1, 0, none⟩), undef, .pointer (some ⟨Bx, 0, none⟩), sloV i l r a n c, .int .u64 key, .slice av F.length cv, .func (.func 105) #[] #[.pointer (some ⟨Bs, 0, none⟩)], .int .i64 (x : Int), fdV (fat F x), undef, undef, undef, undef, undef, undef, undef, undef, undef, undef, undef, undef, undef, undef], defers := [] })
    (fun x a' _ X Y row hs hg hr => by obtain ⟨Bx, h1, h2, h3, h4⟩ := hs; exact ⟨Bx, h1, h2, (blk_own Bx _ (fun _ : Unit => _)) () X Y row h3 hg (fun r e => (hr r e).2), h4⟩)
    ?assign ?body ?done ?stop
  case assign =>
    rintro lp pre x W K hI hK
    obtain ⟨⟨⟨⟨v, hv, hrow, _⟩, hfd⟩, bX1, bS1⟩, hB1⟩ := hI
    have hlt := bS1.lt
    gi_wp2
    exact hK _ _ ((KeepsOthers.alloc _ _).from _) (KpF.below ((Below.refl _ W).alloc (Nat.le_refl _) _))
      ⟨⟨⟨⟨v, hv.alloc _, hrow.alloc _, trivial⟩, hfd.alloc _⟩, bX1.below ((Below.refl _ W).alloc (Nat.le_refl _) _), bS1.alloc _⟩, hB1.alloc hB1.size _⟩ ⟨W.heap.size, by omega, by omega, BlkE.new W _ _, rfl⟩
  case body =>
    rintro lp pre x a' W hl ⟨rr, hr⟩ ⟨⟨⟨⟨v, hv, hrow, _⟩, hfd⟩, bX1, bS1⟩, hB1⟩ ⟨Bx, hx1, hx2, bx, rfl⟩ hlt
    have hgl := outO_len F n pre
    have c0 := bx.cell (i := 0) (u := .int .i64 (fat F x).gen) rfl
    have c7 := bx.cell (i := 7) (u := .int .i64 ((fat F x).at_ : Int)) rfl
    have k3 := bX1.cell (i := 3) (u := .slice a n c) rfl
    have hsW := hB1.size
    have hOl := hv.lt
    have hBl := bS1.lt
    have hav1 := hav (by omega)
    by_cases hc : ((fat F x).at_ : Int) = (n : Int) - 1
    · have hm := outO_miss pre hc
      rw [hc] at c7
      gi_wp2
      exact ⟨(KeepsOthers.refl W).from _, KpF.refl _ _ _, ⟨⟨⟨v, hv, by rw [hm]; exact hrow, trivial⟩, hfd⟩, bX1, bS1⟩, hB1⟩
    · have hm := outO_hit pre hc
      have hci := hv.cell
      generalize hq : ((fat F x).at_ : Int) = q at *
      gi_wp2_with (gi_at_builtin; refine wpListIn_append_own _ rfl _ _ 46 rfl w.heap.size 3 i0 _ 1 8 Tryz.underlying46 hi hz0 hz1 hz2 rfl (by decide) _ _ _ rfl (hrow.alloc _) ⟨W.heap.size, 0, none⟩ 1 1 [.int .i64 (fat F x).gen] rfl rfl (news_at W [.int .i64 (fat F x).gen] 3) (by intro u hu; simp at hu; subst hu; rfl) (by unfold maxLen; omega) (by omega) (by simp; omega) ?_; intro v' w4 hown' hgrow _; obtain ⟨g', cap', rfl⟩ := ownsRow_succ hown'; obtain ⟨hv1, hv2, hr2, hk2, hb4⟩ := hv.appended (by decide) hrow (by omega) (by omega) hown' hgrow; have hc1 := hv1.cell; have hf1 := hv1.frozen)
      have hf4 := (hfd.alloc (.cells #[.int .i64 (fat F x).gen] 3)).kept hgrow (rows_apart hfd hrow (by decide))
      have hf5 := hf4.kept (grownBy_setCell' w4 (w.heap.size + 1) (.slice (some ⟨g', 0, none⟩) ((outO F n pre).length + 1) cap')) (.inr (hv1.not_row (by decide) hf4).symm)
      have bS5 := ((bS1.alloc _).kept hgrow (bS1.not_row (by decide) hrow)).other (B' := w.heap.size + 1) (by omega) (.slice (some ⟨g', 0, none⟩) ((outO F n pre).length + 1) cap')
      have bX5 := ((bX1.below ((Below.refl _ W).alloc (Nat.le_refl _) _)).grown hgrow (bX1.not_row (by decide) hrow)).grown (grownBy_setCell' w4 (w.heap.size + 1) (.slice (some ⟨g', 0, none⟩) ((outO F n pre).length + 1) cap')) (by simp)
      have hkk : ∀ k, k < W.heap.size → some k ≠ v.ownBlock → k ≠ w.heap.size + 1 → (w4.setCell ⟨w.heap.size + 1, 0, none⟩ (.slice (some ⟨g', 0, none⟩) ((outO F n pre).length + 1) cap')).heap[k]? = W.heap[k]? := fun k h1 h2 h3 =>
        (Below.heap_setCell _ _ _ k h3).trans ((hgrow.block k (by simp; omega) h2).trans (Below.heap_alloc _ _ _ (by omega)))
      have hKp : KpF b Bs W (w4.setCell ⟨w.heap.size + 1, 0, none⟩ (.slice (some ⟨g', 0, none⟩) ((outO F n pre).length + 1) cap')) := fun p hp u hu => by
        have e : (w4.setCell ⟨w.heap.size + 1, 0, none⟩ (.slice (some ⟨g', 0, none⟩) ((outO F n pre).length + 1) cap')).heap[p.block]? = W.heap[p.block]? := by
          rcases hp with e | e
          · rw [e]
            refine hkk b (by omega) ?_ (by omega)
            rcases rows_apart hfd hrow (by decide) with h1 | h1
            · rw [hav1] at h1; simp [Value.ownBlock] at h1
            · rw [hav1] at h1; simpa [Value.ownBlock] using h1
          · rw [e]
            exact hkk Bs (by omega) (bS1.not_row (by decide) hrow) (by omega)
        unfold World.cell? at hu ⊢
        rw [e]
        exact hu
      exact ⟨hk2.from _, hKp, ⟨⟨⟨_, hv2, by rw [hm, List.length_append, List.map_append]; exact hr2, trivial⟩, hf5⟩, bX5, bS5⟩, hB1.trans hb4⟩
  case done =>
    rintro D ys W hD rfl ⟨⟨⟨⟨v, hv, hrow, _⟩, _⟩, _, _⟩, hB1⟩ hK
    have hc := hv.cell
    gi_wp2
    refine ⟨by simp, .inl ⟨_, _, rfl, run_takeDeferred hK, ?_⟩⟩
    exact ⟨_, results_tmp rfl _ _ _, v, rfl, ownsRow_putObj hrow _ hK rfl, hB1.trans (belowK_b (w := w) (Nat.le_refl _) W D _ _ (by omega) hK rfl rfl)⟩
  case stop =>
    rintro D c' pre W _ _ h _
    exact h.elim
end Go.Proofs.YtenkeodfijladaaGreat
