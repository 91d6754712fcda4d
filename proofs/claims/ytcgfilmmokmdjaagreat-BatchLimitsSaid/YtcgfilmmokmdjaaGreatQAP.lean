/- A part of the walk. -/
import Derived.Test.YtcgfilmmokmdjaaGreatQAO
import Derived.Test.YtcgfilmmokmdjaaGreatQAN
import Derived.Test.YtcgfilmmokmdjaaGreatQAJ
import Derived.Test.YtcgfilmmokmdjaaGreatQAM
set_option linter.all false
set_option maxRecDepth 100000
set_option maxHeartbeats 32000000
namespace Go.Proofs.YtcgfilmmokmdjaaGreat
def zC6 (g : Gn) (key : Int) : Gn := { g with m := yF g.m key }
theorem VldG.room {g : Gn} (h : VldG g) (key : Int) : g.m.garb + (szO (zW g.m key) : Int) ≤ 1099511627776 := by
 have := h.small;have := zC5 (zW g.m key);omega
theorem zGo {g : Gn} (h : VldG g) (key : Int) : VldG (zC6 g key) := by
 have hm := (zM _).1 h.m;have hr := h.room key;have hd := hm.del hr;have hs := qQ hm hr;have hsum := h.sum;refine ⟨h.num, h.rev, h.mode, h.size, (zM _).2 hd, zCB hm hd h.ends (Int.le_refl _) ?_, ?_⟩
 ·
  intro k y hy;rw [qj hm hr] at hy
  split at hy
  ·
   cases hy
  exact hy
 show g.size = 16 + (yF g.m key).live + (yF g.m key).garb
 omega
theorem zGg {g : Gn} (h : VldG g) (hm : g.mode ≠ 1) (key : Int) : yW g [key] = (0, zC6 g key) := by
 unfold yW;rw [if_pos ((yD g).2 h), if_neg hm]; rfl
theorem zIJ {l : List Gn} {i : Nat} (hi : i < l.length) : l[i]? = some (gat l i) := by
 unfold gat; rw [List.getD_eq_getElem?_getD, List.getElem?_eq_getElem hi]; rfl
theorem vX {l : List Gn} {j : Nat} (hj : j < l.length) (g : Gn) (i : Nat) : gat (l.set j g) i = if i = j then g else gat l i := by
 unfold gat;rw [List.getD_eq_getElem?_getD, List.getElem?_set, List.getD_eq_getElem?_getD]
 by_cases e : j = i
 ·
  rw [if_pos e, if_pos e.symm, if_pos hj]; rfl
 rw [if_neg e, if_neg fun h => e h.symm]
theorem VldSl.inj {s : Slt} (h : VldSl s) : ∀ {i j : Nat}, i < j → j < s.gens.length → (gat s.gens i).num < (gat s.gens j).num
 | i, 0, hij, _ => by omega
 | i, j + 1, hij, hj => by
  have h1 := (h.g (j + 1) hj).2.1 (by omega);rw [show j + 1 - 1 = j by omega] at h1
  by_cases e : i = j
  ·
   rw [e]; exact h1
  have := VldSl.inj h (show i < j by omega) (by omega);omega
theorem VldSl.num_ne {s : Slt} (h : VldSl s) {i j : Nat} (hi : i < s.gens.length) (hj : j < s.gens.length) (hne : i ≠ j) : (gat s.gens i).num ≠ (gat s.gens j).num := by
 rcases Nat.lt_or_gt_of_ne hne with h1 | h1
 ·
  have := h.inj h1 hj; omega
 have := h.inj h1 hi; omega
theorem zIt {s : Slt} (h : VldSl s) {j : Nat} (hj : j < s.gens.length) {g : Gn} (hg : g.num = (gat s.gens j).num) : uj s.gens g = s.gens.set j g := by
 refine List.ext_getElem? fun i => ?_
 unfold uj;rw [List.getElem?_map, List.getElem?_set]
 by_cases hi : i < s.gens.length
 ·
  rw [zIJ hi]
  by_cases hij : j = i
  ·
   subst hij;rw [if_pos rfl, if_pos hj];simp [hg]
  rw [if_neg hij];have h1 : (gat s.gens i).num ≠ g.num := by rw [hg]; exact h.num_ne hi hj fun e => hij e.symm
  simp [h1]
 rw [if_neg (by omega), List.getElem?_eq_none (by omega)]
 rfl
structure Fit (s : Slt) (j : Nat) (g : Gn) : Prop where
 hj : j < s.gens.length
 v : VldG g
 n : g.num = (gat s.gens j).num
 m : g.mode = 1 ↔ j + 1 = s.gens.length
 z : g.size ≤ 2 * s.lim
 t : j + 1 = s.gens.length → g.size + (((zG g.m).length * 24 : Nat) : Int) ≤ 2 * s.lim
def kY (s : Slt) (j : Nat) (g : Gn) : Slt := ⟨s.id, s.lim, s.ro, s.gens.set j g⟩
theorem zF9 {s : Slt} (h : VldSl s) {j : Nat} {g : Gn} (hf : Fit s j g) : VldSl (kY s j g) := by
 have hj := hf.hj;refine ⟨h.id, h.lim, by show 1 ≤ (s.gens.set j g).length ∧ (s.gens.set j g).length ≤ 8; rw [List.length_set]; exact h.len, fun i hi => ?_, ?_⟩
 ·
  have hi : i < s.gens.length := by have : i < (s.gens.set j g).length := hi; rwa [List.length_set] at this
  have ho := h.g i hi;unfold okG kY;dsimp only;rw [List.length_set, vX hj, vX hj];obtain ⟨h1, h2, h3, h4⟩ := ho
  by_cases e : i = j
  ·
   subst e;rw [if_pos rfl];refine ⟨(yD _).2 hf.v, fun h0 => ?_, hf.m, hf.z⟩;rw [if_neg (by omega), hf.n];exact h2 h0
  rw [if_neg e];refine ⟨h1, fun h0 => ?_, h3, h4⟩
  by_cases e2 : i - 1 = j
  ·
   rw [if_pos e2, hf.n, ← e2]; exact h2 h0
  rw [if_neg e2]; exact h2 h0
 have hl := h.len
 show (gat (s.gens.set j g) ((s.gens.set j g).length - 1)).size + (((zG (gat (s.gens.set j g) ((s.gens.set j g).length - 1)).m).length * 24 : Nat) : Int) ≤ 2 * s.lim
 rw [List.length_set, vX hj]
 by_cases e : s.gens.length - 1 = j
 ·
  rw [if_pos e]; exact hf.t (by omega)
 rw [if_neg e]; exact h.top
theorem zHi {s : Slt} (h : VldSl s) {j : Nat} {g : Gn} (hf : Fit s j g) : yb s g = (kY s j g, 0) := by
 have hv := (zT _).2 (zF9 h hf);have hp := zIt h hf.hj hf.n;unfold kY at hv ⊢;unfold yb;rw [if_pos ((zT s).2 h), hp, if_pos ?_, if_pos hv]
 ·
  rw [List.any_eq_true];exact ⟨gat s.gens j, tF hf.hj, by simp [hf.n]⟩
theorem fit_drop {s : Slt} (h : VldSl s) {j : Nat} (hj : j + 1 < s.gens.length) (key : Int) : Fit s j (zC6 (gat s.gens j) key) := by
 have ho := h.g j (by omega);exact ⟨by omega, zGo (h.vg (by omega)) key, rfl, ho.2.2.1, ho.2.2.2, fun e => by omega⟩
/-! ### The numbers of the older generations -/
theorem zCI (l : List Gn) (key : Int) : ∀ (n i : Nat), i < (qW l key n).length → ∃ r, r < n ∧ (qW l key n)[i]? = some (gat l r).num ∧ zW (gat l r).m key ≠ none ∧ (qW l key r).length = i
 | 0, i, h => by cases h
 | n + 1, i, h => by
  have e : qW l key (n + 1) = qW l key n ++ (match zW (gat l n).m key with | some _ => [(gat l n).num] | none => []) := rfl
  by_cases hi : i < (qW l key n).length
  ·
   obtain ⟨r, h1, h2, h3, h4⟩ := zCI l key n i hi;exact ⟨r, by omega, by rw [e, List.getElem?_append_left hi]; exact h2, h3, h4⟩
  rw [e, List.length_append] at h
  cases hx : zW (gat l n).m key with
  | none => rw [hx] at h; simp at h; omega
  | some x =>
   rw [hx] at h;have hi2 : i = (qW l key n).length := by simp at h; omega
   refine ⟨n, by omega, ?_, by rw [hx]; exact (fun h => by cases h), hi2.symm⟩;rw [e, hx, List.getElem?_append_right (by omega), hi2];simp
/-! ### The slot after the removals below place c -/
structure Dn (S : Slt) (key : Int) (c : Nat) (s : Slt) : Prop where
 v : VldSl s
 id : s.id = S.id
 lim : s.lim = S.lim
 ro : s.ro = S.ro
 len : s.gens.length = S.gens.length
 num : ∀ r, r < S.gens.length → (gat s.gens r).num = (gat S.gens r).num
 lo : ∀ r, r < c → r < S.gens.length → zW (gat s.gens r).m key = none
 hi : ∀ r, c ≤ r → gat s.gens r = gat S.gens r
 st : LenS 48 s.gens
/-! ### What is found -/
theorem zDJ {l : List Gn} {key : Int} : ∀ {n : Nat} {x : Fnd} {t : List Fnd}, xb l key n = x :: t → x.at_ < n ∧ x.mode = (gat l x.at_).mode ∧ zW (gat l x.at_).m key = some x.it ∧ x.gen = (gat l x.at_).num ∧ x.rev = (gat l x.at_).rev ∧ ∀ r, x.at_ < r → r < n → zW (gat l r).m key = none
 | 0, _, _, h => by cases h
 | n + 1, x, t, h => by
  have e : xb l key (n + 1) = (match zW (gat l n).m key with | some x => [⟨(gat l n).num, (gat l n).mode, (gat l n).rev, x, n⟩] | none => []) ++ xb l key n := rfl;rw [e] at h
  cases hx : zW (gat l n).m key with
  | some y =>
   rw [hx] at h;injection h with h1 _;subst h1;exact ⟨Nat.lt_succ_self n, rfl, hx, rfl, rfl, fun r h1 h2 => by dsimp only at h1; omega⟩
  | none =>
   rw [hx] at h;obtain ⟨h1, h2, h3, h4, h5, h6⟩ := zDJ (show xb l key n = x :: t from h)
   exact ⟨by omega, h2, h3, h4, h5, fun r h7 h8 => by
    by_cases e : r = n
    ·
     rw [e]; exact hx
    exact h6 r h7 (by omega)⟩
theorem zCQ {s : Slt} (h : VldSl s) (key : Int) : yI s key = xb s.gens key s.gens.length := by unfold yI; rw [if_pos ((zT s).2 h)]
theorem zEN {s : Slt} (h : VldSl s) (key : Int) : zj s key = qW s.gens key (s.gens.length - 1) := by unfold zj; rw [if_pos ((zT s).2 h)]
theorem zEP {g : Gn} (hg : VldG g) {x : Nd} (hx : x.ok) (hz : g.size + (szN x.data.length : Int) ≤ 1048576) (key : Int) :
  zW (yM g x).m key = if (x.key : Int) = key then (if x.del = true then none else some (itA g x)) else zW g.m key := by
 have hm := (zM _).1 hg.m;have hs := hg.small;have hxl := xg x.data.length;unfold yM;dsimp only
 by_cases hd : x.del = true
 ·
  rw [if_pos hd];have h1 : g.m.garb + (szO (zW g.m x.key) : Int) ≤ 1099511627776 := hg.room _;have hd1 := hm.del h1;have hds := qQ hm h1;have hdl := hd1.live0;have h2 : (yF g.m x.key).garb + (szN x.data.length : Int) ≤ 1099511627776 := by omega
  have hw := hd1.waste (n := (szN x.data.length : Int)) (by omega) h2;rw [xP hw, vw, ← xP hd1, qj hm h1];simp only [hd, if_true]
 rw [if_neg hd];have hok := zIZ hg hx;have h1 : g.m.garb + (szO (zW g.m (itA g x).key) : Int) ≤ 1099511627776 := hg.room _;rw [zD4 hm hok h1, if_neg hd]
 rfl
/-! ### The slot with needles added to its last generation -/
noncomputable def zL1 (S : Slt) (l : List Nd) : Slt := kY S (S.gens.length - 1) (zV (zY S) l)
theorem zKY {S : Slt} (h : VldSl S) : tB S = (0, zY S) := by unfold tB; rw [if_pos ((zT S).2 h)]
theorem zLF {S : Slt} (h : VldSl S) {g : Gn} (hg : g.num = (zY S).num ∧ g.rev = (zY S).rev ∧ g.mode = (zY S).mode) (key : Int) :
  xb (S.gens.set (S.gens.length - 1) g) key S.gens.length = (match zW g.m key with | some x => [⟨(zY S).num, (zY S).mode, (zY S).rev, x, S.gens.length - 1⟩] | none => []) ++ xb S.gens key (S.gens.length - 1) := by
 have hlen := h.len;obtain ⟨k, hk⟩ : ∃ k, S.gens.length = k + 1 := ⟨S.gens.length - 1, by omega⟩
 have hj : S.gens.length - 1 < S.gens.length := by omega
 have hcong : ∀ n, n ≤ S.gens.length - 1 → xb (S.gens.set (S.gens.length - 1) g) key n = xb S.gens key n := by
  intro n
  induction n with
  | zero => intro _; rfl
  | succ n ih =>
   intro hn;unfold xb;rw [ih (by omega), vX hj, if_neg (by omega)]
 have e : xb (S.gens.set (S.gens.length - 1) g) key S.gens.length = (match zW (gat (S.gens.set (S.gens.length - 1) g) (S.gens.length - 1)).m key with | some x => [⟨(gat (S.gens.set (S.gens.length - 1) g) (S.gens.length - 1)).num, (gat (S.gens.set (S.gens.length - 1) g) (S.gens.length - 1)).mode, (gat (S.gens.set (S.gens.length - 1) g) (S.gens.length - 1)).rev, x, S.gens.length - 1⟩] | none => []) ++ xb (S.gens.set (S.gens.length - 1) g) key (S.gens.length - 1) := by
  rw [hk]; rfl
 rw [e, hcong _ (Nat.le_refl _), vX hj, if_pos rfl, hg.1, hg.2.1, hg.2.2]
theorem zAV {S : Slt} (h : VldSl S) (key : Int) :
  xb S.gens key S.gens.length = (match zW (zY S).m key with | some x => [⟨(zY S).num, (zY S).mode, (zY S).rev, x, S.gens.length - 1⟩] | none => []) ++ xb S.gens key (S.gens.length - 1) := by
 have hlen := h.len;obtain ⟨k, hk⟩ : ∃ k, S.gens.length = k + 1 := ⟨S.gens.length - 1, by omega⟩
 unfold zY;rw [hk]; rfl
structure Rq where
  tk : Int
  kind : Int
  key : Nat
  ck : Nat
  data : List UInt8
def rq0 : Rq := ⟨0, 0, 0, 0, []⟩
instance : Inhabited Rq := ⟨rq0⟩
def Rq.Wf (q : Rq) : Prop := q.key < 18446744073709551616 ∧ q.ck < 4294967296
abbrev Kl := Int × List Int
structure Pst where
  t : Slt
  rot : Bool
  kills : List Kl
  needs : List Nd
  res : List Int
  bytes : Int
noncomputable def vp (P : Pst) (x : Nd) : Pst := { P with t := (yb P.t (xM (tB P.t).2 [x]).2).1, needs := P.needs ++ [x], bytes := P.bytes + (szN x.data.length : Int) }
def qi (l : List Gn) (num : Int) : Nat := (l.findIdx? fun g => decide (g.num = num)).getD l.length
noncomputable def wv (s : Slt) (num : Int) (keys : List Int) : Slt × Int :=
  if qi s.gens num < s.gens.length then (if (yW (gat s.gens (qi s.gens num)) keys).1 = 0 then yb s (yW (gat s.gens (qi s.gens num)) keys).2 else (wS, (yW (gat s.gens (qi s.gens num)) keys).1)) else (wS, 6)
def klI (l : List Kl) (num : Int) : Nat := (l.findIdx? fun k => decide (num ≤ k.1)).getD l.length
def ye (l : List Kl) (i : Nat) : Kl := l.getD i (0, [])
def zBV (l : List Kl) (num key : Int) : List Kl :=
  if klI l num < l.length ∧ (ye l (klI l num)).1 = num then l.set (klI l num) (num, (ye l (klI l num)).2 ++ [key])
  else l.take (klI l num) ++ (num, [key]) :: l.drop (klI l num)
noncomputable def wt (key : Int) (P : Pst) (num : Int) : Pst := { P with t := (wv P.t num [key]).1, kills := zBV P.kills num key }
noncomputable def vQ (t : Slt) (key : Int) : Bool := !(yI t key).isEmpty && decide (((yI t key).headD uU).mode = 1)
noncomputable def xO (P : Pst) (key : Int) : Pst := (zj P.t key).foldl (wt key) P
def zAu (q : Rq) : Nd := ⟨q.key, q.ck, true, []⟩
def ud (q : Rq) : Nd := ⟨q.key, q.ck, false, q.data⟩
noncomputable def xR (P : Pst) (q : Rq) : Pst := if vQ (xO P q.key).t q.key = true then vp (xO P q.key) (zAu q) else xO P q.key
noncomputable def zx (t : Slt) (q : Rq) : Int := if 4096 < q.data.length then 8 else if wH t (q.data.length : Int) = true then 0 else 9
noncomputable def yw (t : Slt) (q : Rq) : Int := if (yI t q.key).isEmpty = false ∧ ((yI t q.key).headD uU).it.ck = (q.ck : Int) then 0 else 6
def more (P : Pst) (e : Int) : Pst := { P with res := P.res ++ [e] }
noncomputable def zd (P : Pst) (q : Rq) : Bool × Pst :=
  if P.res.length = 16 then (false, P)
  else if q.kind = 1 then
    (if zx P.t q = 9 ∧ wZ P.t = true then (false, { P with rot := decide (P.res.length = 0) })
     else if zx P.t q = 0 then
       (if 0 < P.bytes ∧ 16384 < P.bytes + (szN q.data.length : Int) then (false, P) else (true, more (vp P (ud q)) 0))
     else (true, more P (zx P.t q)))
  else if q.kind = 2 then
    (if yw P.t q = 0 then
       (if vQ P.t q.key = true ∧ 0 < P.bytes ∧ 16384 < P.bytes + 24 then (false, P) else (true, more (xR P q) 0))
     else (true, more P 6))
  else (true, more P 1)
noncomputable def tp : List Rq → Pst → Pst
  | [], P => P
  | q :: r, P => if (zd P q).1 = true then tp r (zd P q).2 else (zd P q).2
def wl (s : Slt) : Pst := ⟨s, false, [], [], [], 0⟩
noncomputable def yT (s : Slt) (l : List Rq) : Pst × Int := if zg s = true then (tp l (wl s), 0) else (wl wS, 1)
/-! ### How far the numbers go -/
theorem zA1 (P : Pst) (x : Nd) : (vp P x).res = P.res := rfl
theorem yu (P : Pst) (key : Int) : (xO P key).res = P.res ∧ (xO P key).needs = P.needs ∧ (xO P key).bytes = P.bytes ∧ (xO P key).rot = P.rot := by
  have h : ∀ (l : List Int) (P : Pst), (l.foldl (wt key) P).res = P.res ∧ (l.foldl (wt key) P).needs = P.needs ∧ (l.foldl (wt key) P).bytes = P.bytes ∧ (l.foldl (wt key) P).rot = P.rot := by
    intro l
    induction l with
    | nil => intro P; exact ⟨rfl, rfl, rfl, rfl⟩
    | cons x r ih =>
      intro P;have := ih (wt key P x);exact this
  exact h _ P
theorem tj (P : Pst) (q : Rq) (h : P.res.length ≤ 16) : (zd P q).2.res.length ≤ 16 ∧ P.res.length ≤ (zd P q).2.res.length ∧ ((zd P q).1 = true → (zd P q).2.res.length = P.res.length + 1) := by
  have hd : (xR P q).res = P.res := by
    unfold xR
    split
    · rw [zA1]; exact (yu P q.key).1
    exact (yu P q.key).1
  have hm : ∀ (Q : Pst) (e : Int), (more Q e).res.length = Q.res.length + 1 := fun Q e => by unfold more; simp
  unfold zd
  split
  · exact ⟨h, Nat.le_refl _, fun h => by cases h⟩
  split
  · split
    · exact ⟨h, Nat.le_refl _, fun h => by cases h⟩
    split
    · split
      · exact ⟨h, Nat.le_refl _, fun h => by cases h⟩
      dsimp only; rw [hm, zA1]; exact ⟨by omega, by omega, fun _ => rfl⟩
    dsimp only; rw [hm]; exact ⟨by omega, by omega, fun _ => rfl⟩
  split
  · split
    · split
      · exact ⟨h, Nat.le_refl _, fun h => by cases h⟩
      dsimp only; rw [hm, hd]; exact ⟨by omega, by omega, fun _ => rfl⟩
    dsimp only; rw [hm]; exact ⟨by omega, by omega, fun _ => rfl⟩
  dsimp only; rw [hm]; exact ⟨by omega, by omega, fun _ => rfl⟩
structure SmP (K : Nat) (P : Pst) : Prop where
  l : LenS (K + P.needs.length) P.t.gens
  n : P.needs.length ≤ P.res.length
  r : P.res.length ≤ 16
  b0 : 0 ≤ P.bytes
  b1 : P.bytes ≤ 4128 * (P.needs.length : Int)
  k : P.kills.length ≤ 8 * P.res.length
  kk : ∀ x ∈ P.kills, x.2.length ≤ 8 * P.res.length
  x : ∀ x ∈ P.needs, x.data.length ≤ 4096
end Go.Proofs.YtcgfilmmokmdjaaGreat
namespace Go.Proofs.YtcgfilmmokmdjaaGreat
open Go.RowKit
theorem vz {i l : Int} {r : Bool} {L : List GP} {j : Nat} (h : L.length = j + 1) : zY ⟨i, l, r, gns L⟩ = (pat L j).1 := by
 unfold zY
 show gat (gns L) ((gns L).length - 1) = _
 rw [zz, h, xD]
 rfl
theorem zEY (i l : Int) (r : Bool) (a : Option Addr) (n c : Nat) (L : List GP) (w : World) (h : RdG w (.slice a n c) L) (hs : ∀ p ∈ L, ∀ j, j < 8 → (p.1.m.st j).length ≤ 10000) :
  Calls Tryz.prog 35 #[zhq i l r a n c] w fun e w' => e = .returned (.bool (wZ ⟨i, l, r, gns L⟩)) ∧ Below w.heap.size w w' := by
 have HSv := zh (fun W (hb : Below w.heap.size w W) => yY i l r a n c L W (h.below hb) hs);have HBx := zh (BoxV.new w i l r a n c 27);have HB0 := zh (zP w i l r a n c 27);have hcs : wZ ⟨i, l, r, gns L⟩ = (zg ⟨i, l, r, gns L⟩ && decide ((zY ⟨i, l, r, gns L⟩).num < 8)) := rfl;rw [hcs];clear hcs
 cases hv : zg ⟨i, l, r, gns L⟩
 ·
  rw [hv] at HSv;clear h hs hv
  go_enter Tryz.func35, Tryz.ntmps35
  go_upto_region 1 with fail;obtain ⟨W, hW⟩ : ∃ W, w.alloc (.cells (zS i l r a n c) 27) = W := ⟨_, rfl⟩
  change Code.wp _ _ _ _ (w.alloc (.cells (zS i l r a n c) 27));rw [hW] at HBx HB0 ⊢;clear hW;have hlw := HBx.out.lt;obtain ⟨k0, k1, k2, k3⟩ := HBx.out.q;go_wp2_with fail;refine (HSv.out _ HB0.out).mono ?_;rintro e w1 ⟨rfl, hb1⟩;have HB1 := zh (zA HB0.out hb1);clear k0 k1 k2 k3 hb1;go_wp2_with fail;go_ret;exact ⟨rfl, HB1.out⟩
 rw [hv] at HSv;have hV := (zT _).1 hv;have hLn : L.length = n := by
  obtain ⟨_, _, e, _⟩ := h.shape;injection e with _ e _; exact e.symm
 have hl : (gns L).length = n := by rw [zz, hLn]
 have hn : 1 ≤ n ∧ n ≤ 8 := by have := hV.len; simp only [hl] at this; exact this
 obtain ⟨j, rfl⟩ : ∃ j, n = j + 1 := ⟨n - 1, by omega⟩
 rw [vz hLn];have HR := zh h;clear hV hLn hl hv h hs;obtain ⟨b, off, rfl, hg⟩ := HR.out.at (show j < j + 1 by omega);have HG := zh hg;clear hg HR;generalize pat L j = p at *;obtain ⟨⟨num, rev, md, sz, f, LV, GA⟩, s⟩ := p;dsimp only at *
 go_enter Tryz.func35, Tryz.ntmps35
 go_upto_region 1 with fail;obtain ⟨W, hW⟩ : ∃ W, w.alloc (.cells (zS i l r (some ⟨b, off, none⟩) (j + 1) c) 27) = W := ⟨_, rfl⟩
 change Code.wp _ _ _ _ (w.alloc (.cells (zS i l r (some ⟨b, off, none⟩) (j + 1) c) 27));rw [hW] at HBx HB0 ⊢;clear hW;have hlw := HBx.out.lt;obtain ⟨k0, k1, k2, k3⟩ := HBx.out.q;go_wp2_with fail;refine (HSv.out _ HB0.out).mono ?_;rintro e w1 ⟨rfl, hb1⟩;clear k0 k1 k2 k3;have HB1 := zh (zA HB0.out hb1);have HX1 := zh (HBx.out.below hb1);have HG1 := zh (HG.out.below HB1.out);clear hb1 HB0 HBx HG HSv;have j3 : IntKind.i64.wrap (j : Int) = (j : Int) := IntWalk.i64_in _ (by omega);have i2 : (j : Int) < ((j + 1 : Nat) : Int) := by omega
 have v3 := HX1.out.c3;have g0 := HG1.out.n0;dsimp only at g0;go_wp2_with fail;go_ret;exact ⟨by simp, HB1.out⟩
theorem qA (g : Gn) (s : Sl) (w : World) (h : RdM w s g.m.st) (hs : ∀ i, i < 8 → (g.m.st i).length ≤ 10000) :
  Calls Tryz.prog 48 #[ze g.num g.rev g.mode g.size s g.m.live g.m.garb] w fun e w' => (∃ s', e = .returned (ze g.num g.rev g.mode g.size s' g.m.live g.m.garb) ∧ OwnM w' w.heap.size s' g.m.st) ∧ Below w.heap.size w w' := by
 have HW := zh (fun W (hb : Below w.heap.size w W) => uX s g.m 0 W (h.below hb) hs);rw [uk] at HW;obtain ⟨n, r, md, z, ⟨f, L, G⟩⟩ := g;dsimp only at *;obtain ⟨W, hW, hbx, hbr, hbw⟩ := vW w n r md z s L G 38;have HX := zh hbx;have HR := zh hbr;have HB := zh hbw;clear hbx hbr hbw h hs
 go_enter Tryz.func48, Tryz.ntmps48
 go_upto_region 1 with fail;change Code.wp _ _ _ _ ((w.alloc (.cells (zX n r md z s L G) 38)).alloc (.cells (zX 0 0 0 0 Sl.nil 0 0) 38));rw [hW];clear hW;obtain ⟨x0, x1, x2, x3, x4, x5, x6, x7, x8, x9, x10, x11, x12, x13⟩ := HX.out.q;go_wp2_with fail;refine (HW.out _ HB.out).mono ?_;rintro e w1 ⟨⟨t, rfl, ho⟩, hb⟩;have hlr := HR.out.lt;have HO1 := zh (ho.mono (show w.heap.size + 2 ≤ W.heap.size by omega));have HX1 := zh (HX.out.below hb);have HR1 := zh (HR.out.below hb);have HB1 := zh (zA HB.out hb);clear x0 x1 x2 x3 x4 x5 x6 x7 x8 x9 x10 x11 x12 x13;clear ho hb HX HR HB HW;have xf := HX1.out.f;obtain ⟨x0, x1, x2, x3, x4, x5, x6, x7, x8, x9, x10, x11, x12, x13⟩ := HX1.out.q;go_upto_region 2 with fail;clear xf;clear x0 x1 x2 x3 x4 x5 x6 x7 x8 x9 x10 x11 x12 x13;change Code.wp _ _ _ _ (pts w1 w.heap.size (yd t L G));have HX2 := zh (HX1.out.map t L G)
 have HR2 := zh (HR1.out.pts_ne (show w.heap.size + 1 ≠ w.heap.size by omega) (yd t L G));have HB2 := zh (zD (B := w.heap.size) (b := w.heap.size) (Nat.le_refl _) (yd t L G) HB1.out);have HO2 := zh (HO1.out.pts (show w.heap.size < w.heap.size + 2 by omega) (yd t L G));generalize pts w1 w.heap.size (yd t L G) = w2 at *;clear HX1 HR1 HB1 HO1;obtain ⟨x0, x1, x2, x3, x4, x5, x6, x7, x8, x9, x10, x11, x12, x13⟩ := HX2.out.q;obtain ⟨y0, y1, y2, y3, y4, y5, y6, y7, y8, y9, y10, y11, y12, y13⟩ := HR2.out.q;have rf := HR2.out.f;go_wp2_with fail;change bodyPost _ _ _ _ _ (pts w2 (w.heap.size + 1) (zO n r md z t L G));have hby := HR2.out.all n r md z t L G;have HBz := zh (zD (B := w.heap.size) (b := (w.heap.size + 1)) (by omega) (zO n r md z t L G) HB2.out)
 have hrd := (HO2.out.pts (show w.heap.size + 1 < w.heap.size + 2 by omega) (zO n r md z t L G)).mono (show w.heap.size ≤ w.heap.size + 2 by omega);generalize pts w2 (w.heap.size + 1) (zO n r md z t L G) = V at *;exact bodyPost_ret (v := ze n r md z t L G) (by simp [results, Tryz.results48, go_sem, hby.n0, hby.n1, hby.n2, hby.n3, hby.c0, hby.c1, hby.c2, hby.c3, hby.c4, hby.c5, hby.c6, hby.c7, hby.cl, hby.cg]) rfl ⟨⟨_, rfl, hrd⟩, HBz.out⟩
theorem zJq (i l : Int) (r : Bool) (a : Option Addr) (n c : Nat) (L : List GP) (w : World) (h : RdG w (.slice a n c) L) (hs : ∀ p ∈ L, ∀ j, j < 8 → (p.1.m.st j).length ≤ 10000) :
  Calls Tryz.prog 11 #[zhq i l r a n c] w (zJ3 w (tB ⟨i, l, r, gns L⟩)) := by
 have HSv := zh (fun W (hb : Below w.heap.size w W) => yY i l r a n c L W (h.below hb) hs);have HBx := zh (BoxV.new w i l r a n c 27);have HB0 := zh (zP w i l r a n c 27);have hcs : tB ⟨i, l, r, gns L⟩ = if zg ⟨i, l, r, gns L⟩ = true then (0, zY ⟨i, l, r, gns L⟩) else (1, gn0) := rfl
 cases hv : zg ⟨i, l, r, gns L⟩
 ·
  rw [hv] at HSv;rw [hv, if_neg (by decide)] at hcs;have HC := zh hcs;clear h hs hv hcs
  go_enter Tryz.func11, Tryz.ntmps11
  go_upto_region 1 with fail;obtain ⟨W, hW⟩ : ∃ W, w.alloc (.cells (zS i l r a n c) 27) = W := ⟨_, rfl⟩
  change Code.wp _ _ _ _ ((w.alloc (.cells (zS i l r a n c) 27)).alloc (.cells (zX 0 0 0 0 Sl.nil 0 0) 38));have hsz : W.heap.size = w.heap.size + 1 := by rw [← hW]; simp
  rw [hW] at HBx HB0 ⊢;clear hW;obtain ⟨W2, hW2⟩ : ∃ W2, W.alloc (.cells (zX 0 0 0 0 Sl.nil 0 0) 38) = W2 := ⟨_, rfl⟩
  have HR := zh (show BoxG W2 (w.heap.size + 1) 0 0 0 0 Sl.nil 0 0 from by have := BoxG.new W 0 0 0 0 Sl.nil 0 0 38; rw [hW2, hsz] at this; exact this);have hba := zZ W 0 0 0 0 Sl.nil 0 0 38;rw [hW2] at hba ⊢;have HB2 := zh (zA HB0.out hba);have HX2 := zh (HBx.out.below hba);clear hba hW2;obtain ⟨k0, k1, k2, k3⟩ := HX2.out.q;go_wp2_with fail;refine (HSv.out _ HB2.out).mono ?_;rintro e w1 ⟨rfl, hb1⟩;have HB1 := zh (zA HB2.out hb1);have HX1 := zh (HX2.out.below hb1);have HR1 := zh (HR.out.below hb1);clear k0 k1 k2 k3 hb1 HB2 HX2 HR HBx HB0;have rf := HR1.out.f;obtain ⟨y0, y1, y2, y3, y4, y5, y6, y7, y8, y9, y10, y11, y12, y13⟩ := HR1.out.q;go_wp2_with fail;change bodyPost _ _ _ _ _ (pts w1 (w.heap.size + 1) (zO 0 0 0 0 Sl.nil 0 0));have hby := HR1.out.all 0 0 0 0 Sl.nil 0 0;have HBz := zh (zD (B := w.heap.size) (b := (w.heap.size + 1)) (by omega) (zO 0 0 0 0 Sl.nil 0 0) HB1.out)
  generalize pts w1 (w.heap.size + 1) (zO 0 0 0 0 Sl.nil 0 0) = V at *;exact bodyPost_ret (v := .tuple #[ze 0 0 0 0 Sl.nil 0 0, .int .i64 1]) (by simp [results, Tryz.results11, go_sem, hby.n0, hby.n1, hby.n2, hby.n3, hby.c0, hby.c1, hby.c2, hby.c3, hby.c4, hby.c5, hby.c6, hby.c7, hby.cl, hby.cg]) rfl ⟨⟨Sl.nil, by rw [HC.out]; first | done | rfl, by rw [HC.out]; exact OwnM.nil _ _⟩, HBz.out⟩
 rw [hv] at HSv;rw [hv, if_pos rfl] at hcs;have hV := (zT _).1 hv;have hLn : L.length = n := by
  obtain ⟨_, _, e, _⟩ := h.shape;injection e with _ e _; exact e.symm
 have hl : (gns L).length = n := by rw [zz, hLn]
 have hn : 1 ≤ n ∧ n ≤ 8 := by have := hV.len; simp only [hl] at this; exact this
 obtain ⟨j, rfl⟩ : ∃ j, n = j + 1 := ⟨n - 1, by omega⟩
 rw [vz hLn] at hcs;have HC := zh hcs;have HR0 := zh h;have hmem := xI (l := L) (i := j) (by omega);have HMp := zh (h.m _ hmem);have HSs := zh (hs _ hmem);clear hV hLn hl hv h hs hmem hcs;obtain ⟨b, off, rfl, hg⟩ := HR0.out.at (show j < j + 1 by omega);have HG := zh hg;clear hg HR0;generalize pat L j = p at *;obtain ⟨⟨num, rev, md, sz, ⟨f, LV, GA⟩⟩, s⟩ := p;dsimp only at *
 go_enter Tryz.func11, Tryz.ntmps11
 go_upto_region 1 with fail;obtain ⟨W, hW⟩ : ∃ W, w.alloc (.cells (zS i l r (some ⟨b, off, none⟩) (j + 1) c) 27) = W := ⟨_, rfl⟩
 change Code.wp _ _ _ _ ((w.alloc (.cells (zS i l r (some ⟨b, off, none⟩) (j + 1) c) 27)).alloc (.cells (zX 0 0 0 0 Sl.nil 0 0) 38));have hsz : W.heap.size = w.heap.size + 1 := by rw [← hW]; simp
 rw [hW] at HBx HB0 ⊢;clear hW;obtain ⟨W2, hW2⟩ : ∃ W2, W.alloc (.cells (zX 0 0 0 0 Sl.nil 0 0) 38) = W2 := ⟨_, rfl⟩
 have HR := zh (show BoxG W2 (w.heap.size + 1) 0 0 0 0 Sl.nil 0 0 from by have := BoxG.new W 0 0 0 0 Sl.nil 0 0 38; rw [hW2, hsz] at this; exact this);have hba := zZ W 0 0 0 0 Sl.nil 0 0 38;rw [hW2] at hba ⊢;have HB2 := zh (zA HB0.out hba);have HX2 := zh (HBx.out.below hba);clear hba hW2;obtain ⟨k0, k1, k2, k3⟩ := HX2.out.q;go_wp2_with fail;refine (HSv.out _ HB2.out).mono ?_;rintro e w1 ⟨rfl, hb1⟩;have HB1 := zh (zA HB2.out hb1);have HX1 := zh (HX2.out.below hb1);have HR1 := zh (HR.out.below hb1);clear k0 k1 k2 k3 hb1 HB2 HX2 HR HBx HB0;have HG1 := zh (HG.out.below HB1.out);clear HG HSv;have j3 : IntKind.i64.wrap (j : Int) = (j : Int) := IntWalk.i64_in _ (by omega);have i2 : (j : Int) < ((j + 1 : Nat) : Int) := by omega
 have v3 := HX1.out.c3;obtain ⟨g0, g1, g2, g3, g4, g5, g6, g7, g8, g9, g10, g11, g12, g13⟩ := HG1.out.q
 try dsimp only at g0 g1 g2 g3 g4 g5 g6 g7 g8 g9 g10 g11 g12 g13
 go_wp2_with fail;refine (qA ⟨num, rev, md, sz, ⟨f, LV, GA⟩⟩ s w1 (HMp.out.below HB1.out) HSs.out).mono ?_;rintro e w2 ⟨⟨t, rfl, ho⟩, hb2⟩;have hlr := HR1.out.lt;have HO2 := zh (ho.mono (show w.heap.size + 2 ≤ w1.heap.size by omega));have HR2 := zh (HR1.out.below hb2);have HB2 := zh (zA HB1.out hb2);clear ho hb2 HR1 HB1 HX1 HG1 v3;clear g0 g1 g2 g3 g4 g5 g6 g7 g8 g9 g10 g11 g12 g13;have rf := HR2.out.f;obtain ⟨y0, y1, y2, y3, y4, y5, y6, y7, y8, y9, y10, y11, y12, y13⟩ := HR2.out.q;go_wp2_with fail;change bodyPost _ _ _ _ _ (pts w2 (w.heap.size + 1) (zO num rev md sz t LV GA));have hby := HR2.out.all num rev md sz t LV GA;have HBz := zh (zD (B := w.heap.size) (b := (w.heap.size + 1)) (by omega) (zO num rev md sz t LV GA) HB2.out);have hrd := (HO2.out.pts (show w.heap.size + 1 < w.heap.size + 2 by omega) (zO num rev md sz t LV GA)).mono (show w.heap.size ≤ w.heap.size + 2 by omega)
 generalize pts w2 (w.heap.size + 1) (zO num rev md sz t LV GA) = V at *;exact bodyPost_ret (v := .tuple #[ze num rev md sz t LV GA, .int .i64 0]) (by simp [results, Tryz.results11, go_sem, hby.n0, hby.n1, hby.n2, hby.n3, hby.c0, hby.c1, hby.c2, hby.c3, hby.c4, hby.c5, hby.c6, hby.c7, hby.cl, hby.cg]) rfl ⟨⟨t, by rw [HC.out]; first | done | rfl, by rw [HC.out]; exact hrd⟩, HBz.out⟩
end Go.Proofs.YtcgfilmmokmdjaaGreat
