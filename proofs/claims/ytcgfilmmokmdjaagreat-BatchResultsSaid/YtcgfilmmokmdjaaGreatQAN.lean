/- A part of the walk. -/
import Derived.Test.YtcgfilmmokmdjaaGreatQAM
import Derived.Test.YtcgfilmmokmdjaaGreatQAL
import Derived.Test.YtcgfilmmokmdjaaGreatQAI
import Derived.Test.YtcgfilmmokmdjaaGreatQAK
set_option maxRecDepth 100000
set_option maxHeartbeats 32000000
namespace Go.Proofs.YtcgfilmmokmdjaaGreat
def F5 (g : Gn) (key : Int) : Gn := { g with m := yJ g.m key }
theorem ja.room {g : Gn} (h : ja g) (key : Int) : g.m.dR + (gR (ze g.m key) : Int) ≤ 1099511627776 := by
 have := h.small;have := N1 (ze g.m key);omega
theorem X2 {g : Gn} (h : ja g) (key : Int) : ja (F5 g key) := by
 have hm := (zV _).1 h.m;have hr := h.room key;have hd := hm.del hr;have hs := qy hm hr;have K6 := h.sum;refine ⟨h.num, h.rev, h.mode, h.size, (zV _).2 hd, XA hm hd h.ends (cS _) ?_, ?_⟩
 ·
  intro k y hy;rw [kR hm hr] at hy
  split at hy
  ·
   cases hy
  exact hy
 show g.size = 16 + (yJ g.m key).live + (yJ g.m key).dR
 omega
theorem zHL {g : Gn} (h : ja g) (hm : g.mode ≠ 1) (key : Int) : ye g [key] = (0, F5 g key) := by
 unfold ye;rw [ag ((yD g).2 h), ah hm]; rfl
theorem zIq {l : List Gn} {i : Nat} (hi : i < l.length) : l[i]? = some (eH l i) := by
 unfold eH; rw [ax, aB hi]; rfl
theorem vF {l : List Gn} {j : Nat} (hj : j < l.length) (g : Gn) (i : Nat) : eH (l.set j g) i = if i = j then g else eH l i := by
 unfold eH;rw [ax, dq, ax]
 by_cases e : j = i
 ·
  rw [ag e, ag e.symm, ag hj]; rfl
 rw [ah e, ah fun h => e h.symm]
theorem ec.inj {s : eE} (h : ec s) : ∀ {i j : Nat}, i < j → j < s.dP.length → (eH s.dP i).num < (eH s.dP j).num
 | i, 0, hij, _ => by omega
 | i, j + 1, hij, hj => by
  have h1 := (h.g (j + 1) hj).2.1 (by omega);rw [show j + 1 - 1 = j by omega] at h1
  by_cases e : i = j
  ·
   rw [e]; exact h1
  have := ec.inj h (show i < j by omega) (by omega);omega
theorem ec.rJ {s : eE} (h : ec s) {i j : Nat} (hi : i < s.dP.length) (hj : j < s.dP.length) (hne : i ≠ j) : (eH s.dP i).num ≠ (eH s.dP j).num := by
 rcases Nat.lt_or_gt_of_ne hne with h1 | h1
 ·
  have := h.inj h1 hj; omega
 have := h.inj h1 hi; omega
theorem zJR {s : eE} (h : ec s) {j : Nat} (hj : j < s.dP.length) {g : Gn} (hg : g.num = (eH s.dP j).num) : uV s.dP g = s.dP.set j g := by
 refine List.ext_getElem? fun i => ?_
 unfold uV;rw [b8, dq]
 by_cases hi : i < s.dP.length
 ·
  rw [zIq hi]
  by_cases hij : j = i
  ·
   subst hij;rw [ag rfl, ag hj];simp [hg]
  rw [ah hij];have h1 : (eH s.dP i).num ≠ g.num := by rw [hg]; exact h.rJ hi hj fun e => hij e.symm
  simp [h1]
 rw [ah (by omega), List.getElem?_eq_none (by omega)]
 rfl
structure Fit (s : eE) (j : Nat) (g : Gn) : Prop where
 hj : j < s.dP.length
 v : ja g
 n : g.num = (eH s.dP j).num
 m : g.mode = 1 ↔ j + 1 = s.dP.length
 z : g.size ≤ 2 * s.lim
 t : j + 1 = s.dP.length → g.size + (((zI g.m).length * 24 : Nat) : Int) ≤ 2 * s.lim
def uF (s : eE) (j : Nat) (g : Gn) : eE := ⟨s.id, s.lim, s.ro, s.dP.set j g⟩
theorem X3 {s : eE} (h : ec s) {j : Nat} {g : Gn} (hf : Fit s j g) : ec (uF s j g) := by
 have hj := hf.hj;refine ⟨h.id, h.lim, by show 1 ≤ (s.dP.set j g).length ∧ (s.dP.set j g).length ≤ 8; rw [bd]; exact h.len, fun i hi => ?_, ?_⟩
 ·
  have hi : i < s.dP.length := by have : i < (s.dP.set j g).length := hi; rwa [bd] at this
  have ho := h.g i hi;unfold Bi uF;dsimp only;rw [bd, vF hj, vF hj];obtain ⟨h1, h2, h3, h4⟩ := ho
  by_cases e : i = j
  ·
   subst e;rw [ag rfl];refine ⟨(yD _).2 hf.v, fun h0 => ?_, hf.m, hf.z⟩;rw [ah (by omega), hf.n];exact h2 h0
  rw [ah e];refine ⟨h1, fun h0 => ?_, h3, h4⟩
  by_cases e2 : i - 1 = j
  ·
   rw [ag e2, hf.n, ← e2]; exact h2 h0
  rw [ah e2]; exact h2 h0
 have hl := h.len
 show (eH (s.dP.set j g) ((s.dP.set j g).length - 1)).size + (((zI (eH (s.dP.set j g) ((s.dP.set j g).length - 1)).m).length * 24 : Nat) : Int) ≤ 2 * s.lim
 rw [bd, vF hj]
 by_cases e : s.dP.length - 1 = j
 ·
  rw [ag e]; exact hf.t (by omega)
 rw [ah e]; exact h.top
theorem Ot {s : eE} (h : ec s) {j : Nat} {g : Gn} (hf : Fit s j g) : yb s g = (uF s j g, 0) := by
 have hv := (zR _).2 (X3 h hf);have hp := zJR h hf.hj hf.n;unfold uF at hv ⊢;unfold yb;rw [ag ((zR s).2 h), hp, ag ?_, ag hv]
 ·
  rw [List.any_eq_true];exact ⟨eH s.dP j, th hf.hj, by simp [hf.n]⟩
theorem fit_drop {s : eE} (h : ec s) {j : Nat} (hj : j + 1 < s.dP.length) (key : Int) : Fit s j (F5 (eH s.dP j) key) := by
 have ho := h.g j (by omega);exact ⟨by omega, X2 (h.vg (by omega)) key, rfl, ho.2.2.1, ho.2.2.2, fun e => by omega⟩
/-! ### The numbers of the older fB -/
theorem R1 (l : List Gn) (key : Int) : ∀ (n i : Nat), i < (kF l key n).length → ∃ r, r < n ∧ (kF l key n)[i]? = some (eH l r).num ∧ ze (eH l r).m key ≠ none ∧ (kF l key r).length = i
 | 0, i, h => by cases h
 | n + 1, i, h => by
  have e : kF l key (n + 1) = kF l key n ++ (match ze (eH l n).m key with | some _ => [(eH l n).num] | none => []) := rfl
  by_cases hi : i < (kF l key n).length
  ·
   obtain ⟨r, h1, h2, h3, h4⟩ := R1 l key n i hi;exact ⟨r, by omega, by rw [e, dK hi]; exact h2, h3, h4⟩
  rw [e, aA] at h
  cases hx : ze (eH l n).m key with
  | none => rw [hx] at h; simp at h; omega
  | some x =>
   rw [hx] at h;have hi2 : i = (kF l key n).length := by simp at h; omega
   refine ⟨n, by omega, ?_, by rw [hx]; exact (fun h => by cases h), hi2.symm⟩;rw [e, hx, dz (by omega), hi2];simp
/-! ### The slot after the LP below place c -/
structure Dn (S : eE) (key : Int) (c : Nat) (s : eE) : Prop where
 v : ec s
 id : s.id = S.id
 lim : s.lim = S.lim
 ro : s.ro = S.ro
 len : s.dP.length = S.dP.length
 num : ∀ r, r < S.dP.length → (eH s.dP r).num = (eH S.dP r).num
 lo : ∀ r, r < c → r < S.dP.length → ze (eH s.dP r).m key = none
 hi : ∀ r, c ≤ r → eH s.dP r = eH S.dP r
 st : eV 48 s.dP
/-! ### mC is found -/
theorem X4 {l : List Gn} {key : Int} : ∀ {n : Nat} {x : jT} {t : List jT}, xu l key n = x :: t → x.at_ < n ∧ x.mode = (eH l x.at_).mode ∧ ze (eH l x.at_).m key = some x.it ∧ x.gen = (eH l x.at_).num ∧ x.rev = (eH l x.at_).rev ∧ ∀ r, x.at_ < r → r < n → ze (eH l r).m key = none
 | 0, _, _, h => by cases h
 | n + 1, x, t, h => by
  have e : xu l key (n + 1) = (match ze (eH l n).m key with | some x => [⟨(eH l n).num, (eH l n).mode, (eH l n).rev, x, n⟩] | none => []) ++ xu l key n := rfl;rw [e] at h
  cases hx : ze (eH l n).m key with
  | some y =>
   rw [hx] at h;injection h with h1 _;subst h1;exact ⟨dt n, rfl, hx, rfl, rfl, fun r h1 h2 => by dsimp only at h1; omega⟩
  | none =>
   rw [hx] at h;obtain ⟨h1, h2, h3, h4, h5, h6⟩ := X4 (show xu l key n = x :: t from h)
   exact ⟨by omega, h2, h3, h4, h5, fun r h7 h8 => by
    by_cases e : r = n
    ·
     rw [e]; exact hx
    exact h6 r h7 (by omega)⟩
theorem R2 {s : eE} (h : ec s) (key : Int) : yM s key = xu s.dP key s.dP.length := by unfold yM; rw [ag ((zR s).2 h)]
theorem X5 {s : eE} (h : ec s) (key : Int) : zk s key = kF s.dP key (s.dP.length - 1) := by unfold zk; rw [ag ((zR s).2 h)]
theorem zEu {g : Gn} (hg : ja g) {x : Nd} (hx : x.ok) (hz : g.size + (eG x.data.length : Int) ≤ 1048576) (key : Int) :
  ze (yT g x).m key = if (x.key : Int) = key then (if x.del = true then none else some (Bj g x)) else ze g.m key := by
 have hm := (zV _).1 hg.m;have hs := hg.small;have hxl := xx x.data.length;unfold yT;dsimp only
 by_cases hd : x.del = true
 ·
  rw [ag hd];have h1 : g.m.dR + (gR (ze g.m x.key) : Int) ≤ 1099511627776 := hg.room _;have oE := hm.del h1;have hds := qy hm h1;have iw := oE.Bh;have h2 : (yJ g.m x.key).dR + (eG x.data.length : Int) ≤ 1099511627776 := by omega
  have hw := oE.Df (n := (eG x.data.length : Int)) (by omega) h2;rw [xZ hw, uI, ← xZ oE, kR hm h1];simp only [hd, if_true]
 rw [ah hd];have hok := XB hg hx;have h1 : g.m.dR + (gR (ze g.m (Bj g x).key) : Int) ≤ 1099511627776 := hg.room _;rw [Wy hm hok h1, ah hd]
 rfl
/-! ### The slot with nO added to its last generation -/
noncomputable def zMW (S : eE) (l : List Nd) : eE := uF S (S.dP.length - 1) (zb (zS S) l)
theorem X6 {S : eE} (h : ec S) : uG S = (0, zS S) := by unfold uG; rw [ag ((zR S).2 h)]
theorem zLj {S : eE} (h : ec S) {g : Gn} (hg : g.num = (zS S).num ∧ g.rev = (zS S).rev ∧ g.mode = (zS S).mode) (key : Int) :
  xu (S.dP.set (S.dP.length - 1) g) key S.dP.length = (match ze g.m key with | some x => [⟨(zS S).num, (zS S).mode, (zS S).rev, x, S.dP.length - 1⟩] | none => []) ++ xu S.dP key (S.dP.length - 1) := by
 have hlen := h.len;obtain ⟨k, hk⟩ : ∃ k, S.dP.length = k + 1 := ⟨S.dP.length - 1, by omega⟩
 have hj : S.dP.length - 1 < S.dP.length := by omega
 have LQ : ∀ n, n ≤ S.dP.length - 1 → xu (S.dP.set (S.dP.length - 1) g) key n = xu S.dP key n := by
  intro n
  induction n with
  | zero => intro _; rfl
  | succ n ih =>
   intro hn;unfold xu;rw [ih (by omega), vF hj, ah (by omega)]
 have e : xu (S.dP.set (S.dP.length - 1) g) key S.dP.length = (match ze (eH (S.dP.set (S.dP.length - 1) g) (S.dP.length - 1)).m key with | some x => [⟨(eH (S.dP.set (S.dP.length - 1) g) (S.dP.length - 1)).num, (eH (S.dP.set (S.dP.length - 1) g) (S.dP.length - 1)).mode, (eH (S.dP.set (S.dP.length - 1) g) (S.dP.length - 1)).rev, x, S.dP.length - 1⟩] | none => []) ++ xu (S.dP.set (S.dP.length - 1) g) key (S.dP.length - 1) := by
  rw [hk]; rfl
 rw [e, LQ _ (ai _), vF hj, ag rfl, hg.1, hg.2.1, hg.2.2]
theorem R3 {S : eE} (h : ec S) (key : Int) :
  xu S.dP key S.dP.length = (match ze (zS S).m key with | some x => [⟨(zS S).num, (zS S).mode, (zS S).rev, x, S.dP.length - 1⟩] | none => []) ++ xu S.dP key (S.dP.length - 1) := by
 have hlen := h.len;obtain ⟨k, hk⟩ : ∃ k, S.dP.length = k + 1 := ⟨S.dP.length - 1, by omega⟩
 unfold zS;rw [hk]; rfl
structure Rq where
  tk : Int
  kind : Int
  key : Nat
  ck : Nat
  data : List UInt8
def JV : Rq := ⟨0, 0, 0, 0, []⟩
instance : Inhabited Rq := ⟨JV⟩
def Rq.Wf (q : Rq) : Prop := q.key < 18446744073709551616 ∧ q.ck < 4294967296
abbrev Kl := Int × List Int
structure fg where
  t : eE
  ep : Bool
  ei : List Kl
  needs : List Nd
  res : List Int
  bytes : Int
noncomputable def vH (P : fg) (x : Nd) : fg := { P with t := (yb P.t (yt (uG P.t).2 [x]).2).1, needs := P.needs ++ [x], bytes := P.bytes + (eG x.data.length : Int) }
def kP (l : List Gn) (num : Int) : Nat := (l.findIdx? fun g => decide (g.num = num)).getD l.length
noncomputable def yX (s : eE) (num : Int) (keys : List Int) : eE × Int :=
  if kP s.dP num < s.dP.length then (if (ye (eH s.dP (kP s.dP num)) keys).1 = 0 then yb s (ye (eH s.dP (kP s.dP num)) keys).2 else (xP, (ye (eH s.dP (kP s.dP num)) keys).1)) else (xP, 6)
def fE (l : List Kl) (num : Int) : Nat := (l.findIdx? fun k => decide (num ≤ k.1)).getD l.length
def yH (l : List Kl) (i : Nat) : Kl := l.getD i (0, [])
def kM (l : List Kl) (num key : Int) : List Kl :=
  if fE l num < l.length ∧ (yH l (fE l num)).1 = num then l.set (fE l num) (num, (yH l (fE l num)).2 ++ [key])
  else l.take (fE l num) ++ (num, [key]) :: l.drop (fE l num)
noncomputable def xS (key : Int) (P : fg) (num : Int) : fg := { P with t := (yX P.t num [key]).1, ei := kM P.ei num key }
noncomputable def vI (t : eE) (key : Int) : Bool := !(yM t key).isEmpty && decide (((yM t key).headD us).mode = 1)
noncomputable def yW (P : fg) (key : Int) : fg := (zk P.t key).foldl (xS key) P
def Ds (q : Rq) : Nd := ⟨q.key, q.ck, true, []⟩
def uy (q : Rq) : Nd := ⟨q.key, q.ck, false, q.data⟩
noncomputable def yZ (P : fg) (q : Rq) : fg := if vI (yW P q.key).t q.key = true then vH (yW P q.key) (Ds q) else yW P q.key
noncomputable def zy (t : eE) (q : Rq) : Int := if 4096 < q.data.length then 8 else if wW t (q.data.length : Int) = true then 0 else 9
noncomputable def xI (t : eE) (q : Rq) : Int := if (yM t q.key).isEmpty = false ∧ ((yM t q.key).headD us).it.ck = (q.ck : Int) then 0 else 6
def more (P : fg) (e : Int) : fg := { P with res := P.res ++ [e] }
noncomputable def zT (P : fg) (q : Rq) : Bool × fg :=
  if P.res.length = 16 then (false, P)
  else if q.kind = 1 then
    (if zy P.t q = 9 ∧ xe P.t = true then (false, { P with ep := decide (P.res.length = 0) })
     else if zy P.t q = 0 then
       (if 0 < P.bytes ∧ 16384 < P.bytes + (eG q.data.length : Int) then (false, P) else (true, more (vH P (uy q)) 0))
     else (true, more P (zy P.t q)))
  else if q.kind = 2 then
    (if xI P.t q = 0 then
       (if vI P.t q.key = true ∧ 0 < P.bytes ∧ 16384 < P.bytes + 24 then (false, P) else (true, more (yZ P q) 0))
     else (true, more P 6))
  else (true, more P 1)
noncomputable def wJ : List Rq → fg → fg
  | [], P => P
  | q :: r, P => if (zT P q).1 = true then wJ r (zT P q).2 else (zT P q).2
def yR (s : eE) : fg := ⟨s, false, [], [], [], 0⟩
noncomputable def zm (s : eE) (l : List Rq) : fg × Int := if zg s = true then (wJ l (yR s), 0) else (yR xP, 1)
/-! ### X8 far the numbers go -/
theorem R4 (P : fg) (x : Nd) : (vH P x).res = P.res := rfl
theorem yl (P : fg) (key : Int) : (yW P key).res = P.res ∧ (yW P key).needs = P.needs ∧ (yW P key).bytes = P.bytes ∧ (yW P key).ep = P.ep := by
  have h : ∀ (l : List Int) (P : fg), (l.foldl (xS key) P).res = P.res ∧ (l.foldl (xS key) P).needs = P.needs ∧ (l.foldl (xS key) P).bytes = P.bytes ∧ (l.foldl (xS key) P).ep = P.ep := by
    intro l
    induction l with
    | nil => intro P; exact ⟨rfl, rfl, rfl, rfl⟩
    | cons x r ih =>
      intro P;have := ih (xS key P x);exact this
  exact h _ P
theorem uW (P : fg) (q : Rq) (h : P.res.length ≤ 16) : (zT P q).2.res.length ≤ 16 ∧ P.res.length ≤ (zT P q).2.res.length ∧ ((zT P q).1 = true → (zT P q).2.res.length = P.res.length + 1) := by
  have hd : (yZ P q).res = P.res := by
    unfold yZ
    split
    · rw [R4]; exact (yl P q.key).1
    exact (yl P q.key).1
  have hm : ∀ (Q : fg) (e : Int), (more Q e).res.length = Q.res.length + 1 := fun Q e => by unfold more; simp
  unfold zT
  split
  · exact ⟨h, ai _, fun h => by cases h⟩
  split
  · split
    · exact ⟨h, ai _, fun h => by cases h⟩
    split
    · split
      · exact ⟨h, ai _, fun h => by cases h⟩
      dsimp only; rw [hm, R4]; exact ⟨by omega, by omega, fun _ => rfl⟩
    dsimp only; rw [hm]; exact ⟨by omega, by omega, fun _ => rfl⟩
  split
  · split
    · split
      · exact ⟨h, ai _, fun h => by cases h⟩
      dsimp only; rw [hm, hd]; exact ⟨by omega, by omega, fun _ => rfl⟩
    dsimp only; rw [hm]; exact ⟨by omega, by omega, fun _ => rfl⟩
  dsimp only; rw [hm]; exact ⟨by omega, by omega, fun _ => rfl⟩
structure SmP (K : Nat) (P : fg) : Prop where
  l : eV (K + P.needs.length) P.t.dP
  n : P.needs.length ≤ P.res.length
  r : P.res.length ≤ 16
  b0 : 0 ≤ P.bytes
  b1 : P.bytes ≤ 4128 * (P.needs.length : Int)
  k : P.ei.length ≤ 8 * P.res.length
  kk : ∀ x ∈ P.ei, x.2.length ≤ 8 * P.res.length
  x : ∀ x ∈ P.needs, x.data.length ≤ 4096
end Go.Proofs.YtcgfilmmokmdjaaGreat
namespace Go.Proofs.YtcgfilmmokmdjaaGreat
open Go.RowKit
theorem vP {i l : Int} {r : Bool} {L : List GP} {j : Nat} (h : L.length = j + 1) : zS ⟨i, l, r, dV L⟩ = (pat L j).1 := by
 unfold zS
 show eH (dV L) ((dV L).length - 1) = _
 rw [zj, h, yu]
 rfl
theorem qY (i l : Int) (r : Bool) (a : Option Addr) (n c : Nat) (L : List GP) (w : World) (h : fl w (.slice a n c) L) (hs : ∀ p ∈ L, ∀ j, j < 8 → (p.1.m.st j).length ≤ 10000) :
  Calls Tryz.prog 35 #[zZ i l r a n c] w fun e w' => e = .returned (.bool (xe ⟨i, l, r, dV L⟩)) ∧ Below w.heap.size w w' := by
 have gp := zh (fun W (hb : Below w.heap.size w W) => yQ i l r a n c L W (h.below hb) hs);have eB := zh (eQ.new w i l r a n c 27);have eA := zh (zN w i l r a n c 27);have hcs : xe ⟨i, l, r, dV L⟩ = (zg ⟨i, l, r, dV L⟩ && decide ((zS ⟨i, l, r, dV L⟩).num < 8)) := rfl;rw [hcs];clear hcs
 cases hv : zg ⟨i, l, r, dV L⟩
 ·
  rw [hv] at gp;clear h hs hv
  go_enter Tryz.func35, Tryz.ntmps35
  go_upto_region 1 with fail;obtain ⟨W, hW⟩ : ∃ W, w.alloc (.cells (zK i l r a n c) 27) = W := ⟨_, rfl⟩
  change Code.wp _ _ _ _ (w.alloc (.cells (zK i l r a n c) 27));rw [hW] at eB eA ⊢;clear hW;have rD := eB.out.lt;obtain ⟨k0, k1, k2, k3⟩ := eB.out.q;go_wp2_with fail;refine (gp.out _ eA.out).mono ?_;rintro e w1 ⟨rfl, dW⟩;have eO := zh (zA eA.out dW);clear k0 k1 k2 k3 dW;go_wp2_with fail;go_ret;exact ⟨rfl, eO.out⟩
 rw [hv] at gp;have hV := (zR _).1 hv;have fN : L.length = n := by
  obtain ⟨_, _, e, _⟩ := h.shape;injection e with _ e _; exact e.symm
 have hl : (dV L).length = n := by rw [zj, fN]
 have hn : 1 ≤ n ∧ n ≤ 8 := by have := hV.len; simp only [hl] at this; exact this
 obtain ⟨j, rfl⟩ : ∃ j, n = j + 1 := ⟨n - 1, by omega⟩
 rw [vP fN];have HR := zh h;clear hV fN hl hv h hs;obtain ⟨b, off, rfl, hg⟩ := HR.out.at (show j < j + 1 by omega);have HG := zh hg;clear hg HR;generalize pat L j = p at *;obtain ⟨⟨num, rev, md, sz, f, LV, GA⟩, s⟩ := p;dsimp only at *
 go_enter Tryz.func35, Tryz.ntmps35
 go_upto_region 1 with fail;obtain ⟨W, hW⟩ : ∃ W, w.alloc (.cells (zK i l r (some ⟨b, off, none⟩) (j + 1) c) 27) = W := ⟨_, rfl⟩
 change Code.wp _ _ _ _ (w.alloc (.cells (zK i l r (some ⟨b, off, none⟩) (j + 1) c) 27));rw [hW] at eB eA ⊢;clear hW;have rD := eB.out.lt;obtain ⟨k0, k1, k2, k3⟩ := eB.out.q;go_wp2_with fail;refine (gp.out _ eA.out).mono ?_;rintro e w1 ⟨rfl, dW⟩;clear k0 k1 k2 k3;have eO := zh (zA eA.out dW);have fk := zh (eB.out.below dW);have pR := zh (HG.out.below eO.out);clear dW eA eB HG gp;have j3 : IntKind.i64.wrap (j : Int) = (j : Int) := aH _ (by omega);have i2 : (j : Int) < ((j + 1 : Nat) : Int) := by omega
 have v3 := fk.out.c3;have g0 := pR.out.n0;dsimp only at g0;go_wp2_with fail;go_ret;exact ⟨by simp, eO.out⟩
theorem qd (g : Gn) (s : Sl) (w : World) (h : fp w s g.m.st) (hs : ∀ i, i < 8 → (g.m.st i).length ≤ 10000) :
  Calls Tryz.prog 48 #[za g.num g.rev g.mode g.size s g.m.live g.m.dR] w fun e w' => (∃ s', e = .returned (za g.num g.rev g.mode g.size s' g.m.live g.m.dR) ∧ eS w' w.heap.size s' g.m.st) ∧ Below w.heap.size w w' := by
 have HW := zh (fun W (hb : Below w.heap.size w W) => vT s g.m 0 W (h.below hb) hs);rw [vj] at HW;obtain ⟨n, r, md, z, ⟨f, L, G⟩⟩ := g;dsimp only at *;obtain ⟨W, hW, fa, f_, fu⟩ := wU w n r md z s L G 38;have HX := zh fa;have HR := zh f_;have HB := zh fu;clear fa f_ fu h hs
 go_enter Tryz.func48, Tryz.ntmps48
 go_upto_region 1 with fail;change Code.wp _ _ _ _ ((w.alloc (.cells (zW n r md z s L G) 38)).alloc (.cells (zW 0 0 0 0 Sl.nil 0 0) 38));rw [hW];clear hW;obtain ⟨x0, x1, x2, x3, x4, x5, x6, x7, x8, x9, fI, fJ, fG, fH⟩ := HX.out.q;go_wp2_with fail;refine (HW.out _ HB.out).mono ?_;rintro e w1 ⟨⟨t, rfl, ho⟩, hb⟩;have hlr := HR.out.lt;have mQ := zh (ho.mono (show w.heap.size + 2 ≤ W.heap.size by omega));have fk := zh (HX.out.below hb);have eY := zh (HR.out.below hb);have eO := zh (zA HB.out hb);clear x0 x1 x2 x3 x4 x5 x6 x7 x8 x9 fI fJ fG fH;clear ho hb HX HR HB HW;have xf := fk.out.f;obtain ⟨x0, x1, x2, x3, x4, x5, x6, x7, x8, x9, fI, fJ, fG, fH⟩ := fk.out.q;go_upto_region 2 with fail;clear xf;clear x0 x1 x2 x3 x4 x5 x6 x7 x8 x9 fI fJ fG fH;change Code.wp _ _ _ _ (pts w1 w.heap.size (yp t L G));have fQ := zh (fk.out.map t L G)
 have fU := zh (eY.out.ek (show w.heap.size + 1 ≠ w.heap.size by omega) (yp t L G));have eN := zh (zD (B := w.heap.size) (b := w.heap.size) (ai _) (yp t L G) eO.out);have fW := zh (mQ.out.pts (show w.heap.size < w.heap.size + 2 by omega) (yp t L G));generalize pts w1 w.heap.size (yp t L G) = w2 at *;clear fk eY eO mQ;obtain ⟨x0, x1, x2, x3, x4, x5, x6, x7, x8, x9, fI, fJ, fG, fH⟩ := fQ.out.q;obtain ⟨y0, y1, y2, y3, y4, y5, y6, y7, y8, y9, FY, FZ, F0, F2⟩ := fU.out.q;have rf := fU.out.f;go_wp2_with fail;change bodyPost _ _ _ _ _ (pts w2 (w.heap.size + 1) (zL n r md z t L G));have hby := fU.out.all n r md z t L G;have ea := zh (zD (B := w.heap.size) (b := (w.heap.size + 1)) (by omega) (zL n r md z t L G) eN.out);have gw := (fW.out.pts (show w.heap.size + 1 < w.heap.size + 2 by omega) (zL n r md z t L G)).mono (show w.heap.size ≤ w.heap.size + 2 by omega)
 generalize pts w2 (w.heap.size + 1) (zL n r md z t L G) = V at *;exact aw (v := za n r md z t L G) (by simp [results, Tryz.results48, go_sem, hby.q]) rfl ⟨⟨_, rfl, gw⟩, ea.out⟩
theorem X9 (i l : Int) (r : Bool) (a : Option Addr) (n c : Nat) (L : List GP) (w : World) (h : fl w (.slice a n c) L) (hs : ∀ p ∈ L, ∀ j, j < 8 → (p.1.m.st j).length ≤ 10000) :
  Calls Tryz.prog 11 #[zZ i l r a n c] w (Hx w (uG ⟨i, l, r, dV L⟩)) := by
 have gp := zh (fun W (hb : Below w.heap.size w W) => yQ i l r a n c L W (h.below hb) hs);have eB := zh (eQ.new w i l r a n c 27);have eA := zh (zN w i l r a n c 27);have hcs : uG ⟨i, l, r, dV L⟩ = if zg ⟨i, l, r, dV L⟩ = true then (0, zS ⟨i, l, r, dV L⟩) else (1, fT) := rfl
 cases hv : zg ⟨i, l, r, dV L⟩
 ·
  rw [hv] at gp;rw [hv, ah (by decide)] at hcs;have HC := zh hcs;clear h hs hv hcs
  go_enter Tryz.func11, Tryz.ntmps11
  go_upto_region 1 with fail;obtain ⟨W, hW⟩ : ∃ W, w.alloc (.cells (zK i l r a n c) 27) = W := ⟨_, rfl⟩
  change Code.wp _ _ _ _ ((w.alloc (.cells (zK i l r a n c) 27)).alloc (.cells (zW 0 0 0 0 Sl.nil 0 0) 38));have hsz : W.heap.size = w.heap.size + 1 := by rw [← hW]; simp
  rw [hW] at eB eA ⊢;clear hW;obtain ⟨W2, rI⟩ : ∃ W2, W.alloc (.cells (zW 0 0 0 0 Sl.nil 0 0) 38) = W2 := ⟨_, rfl⟩
  have HR := zh (show eu W2 (w.heap.size + 1) 0 0 0 0 Sl.nil 0 0 from by have := eu.new W 0 0 0 0 Sl.nil 0 0 38; rw [rI, hsz] at this; exact this);have eC := zQ W 0 0 0 0 Sl.nil 0 0 38;rw [rI] at eC ⊢;have eN := zh (zA eA.out eC);have fQ := zh (eB.out.below eC);clear eC rI;obtain ⟨k0, k1, k2, k3⟩ := fQ.out.q;go_wp2_with fail;refine (gp.out _ eN.out).mono ?_;rintro e w1 ⟨rfl, dW⟩;have eO := zh (zA eN.out dW);have fk := zh (fQ.out.below dW);have eY := zh (HR.out.below dW);clear k0 k1 k2 k3 dW eN fQ HR eB eA;have rf := eY.out.f;obtain ⟨y0, y1, y2, y3, y4, y5, y6, y7, y8, y9, FY, FZ, F0, F2⟩ := eY.out.q;go_wp2_with fail;change bodyPost _ _ _ _ _ (pts w1 (w.heap.size + 1) (zL 0 0 0 0 Sl.nil 0 0));have hby := eY.out.all 0 0 0 0 Sl.nil 0 0;have ea := zh (zD (B := w.heap.size) (b := (w.heap.size + 1)) (by omega) (zL 0 0 0 0 Sl.nil 0 0) eO.out)
  generalize pts w1 (w.heap.size + 1) (zL 0 0 0 0 Sl.nil 0 0) = V at *;exact aw (v := .tuple #[za 0 0 0 0 Sl.nil 0 0, .int .i64 1]) (by simp [results, Tryz.results11, go_sem, hby.q]) rfl ⟨⟨Sl.nil, by rw [HC.out]; first | done | rfl, by rw [HC.out]; exact eS.nil _ _⟩, ea.out⟩
 rw [hv] at gp;rw [hv, ag rfl] at hcs;have hV := (zR _).1 hv;have fN : L.length = n := by
  obtain ⟨_, _, e, _⟩ := h.shape;injection e with _ e _; exact e.symm
 have hl : (dV L).length = n := by rw [zj, fN]
 have hn : 1 ≤ n ∧ n ≤ 8 := by have := hV.len; simp only [hl] at this; exact this
 obtain ⟨j, rfl⟩ : ∃ j, n = j + 1 := ⟨n - 1, by omega⟩
 rw [vP fN] at hcs;have HC := zh hcs;have jO := zh h;have fR := yd (l := L) (i := j) (by omega);have l8 := zh (h.m _ fR);have JW := zh (hs _ fR);clear hV fN hl hv h hs fR hcs;obtain ⟨b, off, rfl, hg⟩ := jO.out.at (show j < j + 1 by omega);have HG := zh hg;clear hg jO;generalize pat L j = p at *;obtain ⟨⟨num, rev, md, sz, ⟨f, LV, GA⟩⟩, s⟩ := p;dsimp only at *
 go_enter Tryz.func11, Tryz.ntmps11
 go_upto_region 1 with fail;obtain ⟨W, hW⟩ : ∃ W, w.alloc (.cells (zK i l r (some ⟨b, off, none⟩) (j + 1) c) 27) = W := ⟨_, rfl⟩
 change Code.wp _ _ _ _ ((w.alloc (.cells (zK i l r (some ⟨b, off, none⟩) (j + 1) c) 27)).alloc (.cells (zW 0 0 0 0 Sl.nil 0 0) 38));have hsz : W.heap.size = w.heap.size + 1 := by rw [← hW]; simp
 rw [hW] at eB eA ⊢;clear hW;obtain ⟨W2, rI⟩ : ∃ W2, W.alloc (.cells (zW 0 0 0 0 Sl.nil 0 0) 38) = W2 := ⟨_, rfl⟩
 have HR := zh (show eu W2 (w.heap.size + 1) 0 0 0 0 Sl.nil 0 0 from by have := eu.new W 0 0 0 0 Sl.nil 0 0 38; rw [rI, hsz] at this; exact this);have eC := zQ W 0 0 0 0 Sl.nil 0 0 38;rw [rI] at eC ⊢;have eN := zh (zA eA.out eC);have fQ := zh (eB.out.below eC);clear eC rI;obtain ⟨k0, k1, k2, k3⟩ := fQ.out.q;go_wp2_with fail;refine (gp.out _ eN.out).mono ?_;rintro e w1 ⟨rfl, dW⟩;have eO := zh (zA eN.out dW);have fk := zh (fQ.out.below dW);have eY := zh (HR.out.below dW);clear k0 k1 k2 k3 dW eN fQ HR eB eA;have pR := zh (HG.out.below eO.out);clear HG gp;have j3 : IntKind.i64.wrap (j : Int) = (j : Int) := aH _ (by omega);have i2 : (j : Int) < ((j + 1 : Nat) : Int) := by omega
 have v3 := fk.out.c3;obtain ⟨g0, g1, g2, g3, g4, g5, g6, g7, g8, g9, g10, g11, g12, g13⟩ := pR.out.q
 try dsimp only at g0 g1 g2 g3 g4 g5 g6 g7 g8 g9 g10 g11 g12 g13
 go_wp2_with fail;refine (qd ⟨num, rev, md, sz, ⟨f, LV, GA⟩⟩ s w1 (l8.out.below eO.out) JW.out).mono ?_;rintro e w2 ⟨⟨t, rfl, ho⟩, ez⟩;have hlr := eY.out.lt;have fW := zh (ho.mono (show w.heap.size + 2 ≤ w1.heap.size by omega));have fU := zh (eY.out.below ez);have eN := zh (zA eO.out ez);clear ho ez eY eO fk pR v3;clear g0 g1 g2 g3 g4 g5 g6 g7 g8 g9 g10 g11 g12 g13;have rf := fU.out.f;obtain ⟨y0, y1, y2, y3, y4, y5, y6, y7, y8, y9, FY, FZ, F0, F2⟩ := fU.out.q;go_wp2_with fail;change bodyPost _ _ _ _ _ (pts w2 (w.heap.size + 1) (zL num rev md sz t LV GA));have hby := fU.out.all num rev md sz t LV GA;have ea := zh (zD (B := w.heap.size) (b := (w.heap.size + 1)) (by omega) (zL num rev md sz t LV GA) eN.out);have gw := (fW.out.pts (show w.heap.size + 1 < w.heap.size + 2 by omega) (zL num rev md sz t LV GA)).mono (show w.heap.size ≤ w.heap.size + 2 by omega)
 generalize pts w2 (w.heap.size + 1) (zL num rev md sz t LV GA) = V at *;exact aw (v := .tuple #[za num rev md sz t LV GA, .int .i64 0]) (by simp [results, Tryz.results11, go_sem, hby.q]) rfl ⟨⟨t, by rw [HC.out]; first | done | rfl, by rw [HC.out]; exact gw⟩, ea.out⟩
end Go.Proofs.YtcgfilmmokmdjaaGreat
