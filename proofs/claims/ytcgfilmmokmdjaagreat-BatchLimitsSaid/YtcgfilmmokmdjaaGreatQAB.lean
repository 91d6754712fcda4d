/- A part of the walk. -/
import Derived.Test.YtcgfilmmokmdjaaGreatQAA
import Derived.Deep.RegionLaw
import Derived.Deep.RegionWith
import Derived.Laws.OwnMore
import Derived.Laws.Bits128
import Derived.Shelf.SlSortCmp.KitK
import Derived.Ground.SlsfProg
set_option linter.all false
set_option maxRecDepth 100000
set_option maxHeartbeats 32000000
namespace Go.Proofs.YtcgfilmmokmdjaaGreat
def ins : List It → It → List It
 | [], x => [x]
 | y :: r, x => if y.key < x.key then y :: ins r x else if y.key = x.key then x :: r else x :: y :: r
def srt (l : List It) : List It := l.foldl ins []
theorem zCo : ∀ (out : List It) (x : It) (k : Nat), k ≤ out.length → (∀ j, j < k → (iat out j).key < x.key) → (k < out.length → x.key ≤ (iat out k).key) →
  ins out x = out.take k ++ x :: out.drop (if k < out.length ∧ (iat out k).key = x.key then k + 1 else k)
 | [], x, k, hk, _, _ => by
  obtain rfl : k = 0 := by simpa using hk
  simp [ins]
 | y :: r, x, 0, _, _, h2 => by
  have h := h2 (by simp);have e0 : iat (y :: r) 0 = y := rfl;rw [e0] at h;unfold ins;rw [if_neg (by omega)]
  by_cases e : y.key = x.key
  ·
   rw [if_pos e, if_pos ⟨by simp, by rw [e0]; exact e⟩]; simp
  rw [if_neg e, if_neg (fun h => e (by rw [e0] at h; exact h.2))]; simp
 | y :: r, x, k + 1, hk, h1, h2 => by
  have e0 : iat (y :: r) 0 = y := rfl;have hs : ∀ j, iat (y :: r) (j + 1) = iat r j := fun j => rfl
  unfold ins;rw [if_pos (by have := h1 0 (by omega); rwa [e0] at this)];rw [zCo r x k (by simpa using hk) (fun j hj => by have := h1 (j + 1) (by omega); rwa [hs] at this) (fun hj => by have := h2 (by simpa using hj); rwa [hs] at this)];rw [hs]
  by_cases e : k < r.length ∧ (iat r k).key = x.key
  ·
   rw [if_pos e, if_pos ⟨by simpa using e.1, e.2⟩]; simp
  rw [if_neg e, if_neg (fun h => e ⟨by simpa using h.1, h.2⟩)]; simp
theorem vJ (x : It) : ∀ out : List It, (ins out x).length ≤ out.length + 1
 | [] => by simp [ins]
 | y :: r => by
  have := vJ x r;unfold ins
  split
  ·
   simp; omega
  split <;> simp
theorem zFs : srt [] = [] := rfl
theorem zBG {l : List It} {j : Nat} (h : j < l.length) : srt (l.take (j + 1)) = ins (srt (l.take j)) (iat l j) := by
 unfold srt;rw [yj h, List.foldl_append]; rfl
theorem wu (l : List It) : ∀ j, j ≤ l.length → (srt (l.take j)).length ≤ j
 | 0, _ => by simp [srt]
 | j + 1, h => by
  rw [zBG (by omega)];have := vJ (iat l j) (srt (l.take j));have := wu l j (by omega);omega
theorem yN (l : List It) : (srt l).length ≤ l.length := by
 have := wu l l.length (Nat.le_refl _)
 rwa [List.take_length] at this
theorem qw {p : It → Prop} (x : It) (hx : p x) : ∀ out : List It, (∀ y ∈ out, p y) → ∀ y ∈ ins out x, p y
 | [], _ => by simp [ins]; exact hx
 | y :: r, h => by
  have hr := qw x hx r (fun z hz => h z (by simp [hz]));intro z hz;unfold ins at hz
  split at hz
  ·
   rcases List.mem_cons.1 hz with rfl | hz
   ·
    exact h _ (by simp)
   exact hr z hz
  split at hz
  ·
   rcases List.mem_cons.1 hz with rfl | hz
   ·
    exact hx
   exact h z (by simp [hz])
  rcases List.mem_cons.1 hz with rfl | hz
  ·
   exact hx
  exact h z hz
theorem zBs {p : It → Prop} : ∀ (l out : List It), (∀ y ∈ l, p y) → (∀ y ∈ out, p y) → ∀ y ∈ l.foldl ins out, p y
 | [], _, _, h => h
 | x :: l, out, hl, h => zBs l (ins out x) (fun y hy => hl y (by simp [hy])) (qw x (hl x (by simp)) out h)
theorem zGA {p : It → Prop} {l : List It} (h : ∀ y ∈ l, p y) : ∀ y ∈ srt l, p y := zBs l [] h (fun _ hy => by cases hy)
def AscR : List It → Prop
 | [] => True
 | [_] => True
 | x :: y :: r => x.key < y.key ∧ AscR (y :: r)
theorem xK : ∀ l : List It, AscR l ↔ Asc l
 | [] => ⟨fun _ _ h => by simp at h, fun _ => trivial⟩
 | [_] => ⟨fun _ _ h => by simp at h, fun _ => trivial⟩
 | x :: y :: r => by
  unfold AscR;rw [xK (y :: r)]
  constructor
  ·
   rintro ⟨h1, h2⟩ j hj
   cases j with
   | zero => exact h1
   | succ j => exact h2 j (by simpa using hj)
  intro h;exact ⟨h 0 (by simp), fun j hj => h (j + 1) (by simpa using hj)⟩
theorem AscR.tail {x : It} {r : List It} (h : AscR (x :: r)) : AscR r := by
 cases r with
 | nil => trivial
 | cons y r => exact h.2
theorem AscR.cons {x : It} {r : List It} (h : AscR r) (hx : ∀ y, r.head? = some y → x.key < y.key) : AscR (x :: r) := by
 cases r with
 | nil => trivial
 | cons y r => exact ⟨hx y rfl, h⟩
theorem zIf (x y : It) (r : List It) (z : It) (h : (ins r x).head? = some z) (hx : y.key < x.key) (hr : ∀ y', r.head? = some y' → y.key < y'.key) : y.key < z.key := by
 cases r with
 | nil => simp [ins] at h; subst h; exact hx
 | cons u r =>
  unfold ins at h
  split at h
  ·
   simp at h; subst h; exact hr _ rfl
  split at h <;> (simp at h; subst h; exact hx)
theorem tl (x : It) : ∀ out : List It, AscR out → AscR (ins out x)
 | [], _ => trivial
 | y :: r, h => by
  unfold ins
  split
  ·
   rename_i hlt;refine (tl x r h.tail).cons fun z hz => zIf x y r z hz hlt fun y' hy' => ?_
   cases r with
   | nil => cases hy'
   | cons u r => simp at hy'; subst hy'; exact h.1
  split
  ·
   rename_i h1 h2;refine h.tail.cons fun z hz => ?_
   cases r with
   | nil => cases hz
   | cons u r => simp at hz; subst hz; rw [← h2]; exact h.1
  exact ⟨by omega, h⟩
theorem zB9 : ∀ (l out : List It), AscR out → AscR (l.foldl ins out)
 | [], _, h => h
 | x :: l, out, h => zB9 l (ins out x) (tl x out h)
theorem wU (l : List It) : Asc (srt l) := (xK _).1 (zB9 l [] trivial)
theorem zBN (x : It) : ∀ out : List It, (∀ y ∈ out, y.key < x.key) → ins out x = out ++ [x]
 | [], _ => rfl
 | y :: r, h => by
  unfold ins;rw [if_pos (h y (by simp)), zBN x r (fun z hz => h z (by simp [hz]))]; rfl
theorem qx {l : List It} (h : Asc l) : ∀ j, j ≤ l.length → srt (l.take j) = l.take j
 | 0, _ => by simp [srt]
 | j + 1, hj => by
  rw [zBG (by omega), qx h j (by omega), zBN, ← yj (by omega)];intro y hy;obtain ⟨i, hi, rfl⟩ := vd hy;rw [List.length_take] at hi;rw [wK (by omega)];exact h.mono (by omega) (by omega)
theorem yH {l : List It} (h : Asc l) : srt l = l := by
 have := qx h l.length (Nat.le_refl _)
 rwa [List.take_length] at this
def fnd (l : List It) (key : Int) : Option It := l.find? fun x => x.key == key
def Place (l : List It) (key : Int) (r : Nat) : Prop := r ≤ l.length ∧ (∀ j, r = j + 1 → (iat l j).key < key) ∧ (r < l.length → key ≤ (iat l r).key)
theorem Place.lt {l : List It} {key : Int} {r : Nat} (h : Place l key r) (ha : Asc l) {j : Nat} (hj : j < r) : (iat l j).key < key := by
 obtain ⟨h1, h2, _⟩ := h;have h3 := h2 (r - 1) (by omega)
 by_cases e : j = r - 1
 ·
  rw [e]; exact h3
 have := ha.mono (show j < r - 1 by omega) (by omega);omega
theorem zKr {l : List It} {key : Int} : ∀ {r : Nat}, r < l.length → (iat l r).key = key → (∀ j, j < r → (iat l j).key ≠ key) → fnd l key = some (iat l r) := by
 induction l with
 | nil => intro r h; simp at h
 | cons x l ih =>
  intro r hr hk hn;unfold fnd;rw [List.find?_cons]
  cases r with
  | zero =>
   have : x.key = key := hk;rw [show (x.key == key) = true from beq_iff_eq.2 this]; rfl
  | succ r =>
   have h0 : x.key ≠ key := hn 0 (by omega);rw [show (x.key == key) = false from beq_eq_false_iff_ne.2 h0];exact ih (r := r) (by simpa using hr) hk (fun j hj => hn (j + 1) (by omega))
theorem zHr {l : List It} {key : Int} (h : ∀ j, j < l.length → (iat l j).key ≠ key) : fnd l key = none := by
 unfold fnd;rw [List.find?_eq_none];intro x hx;obtain ⟨j, hj, rfl⟩ := vd hx
 simpa using h j hj
theorem Place.found {l : List It} {key : Int} {r : Nat} (h : Place l key r) (ha : Asc l) (hr : r < l.length) (hk : (iat l r).key = key) : fnd l key = some (iat l r) :=
 zKr hr hk fun j hj => by have := h.lt ha hj; omega
theorem Place.not {l : List It} {key : Int} {r : Nat} (h : Place l key r) (ha : Asc l) (hk : r < l.length → (iat l r).key ≠ key) : fnd l key = none :=
 zHr fun j hj => by
  by_cases e : j < r
  ·
   have := h.lt ha e; omega
  by_cases e2 : j = r
  ·
   rw [e2]; exact hk (by omega)
  have h1 := h.2.2 (by omega);have h2 := ha.mono (show r < j by omega) hj;omega
end Go.Proofs.YtcgfilmmokmdjaaGreat
namespace Go.Proofs.YtcgfilmmokmdjaaGreat
open Go.RowKit
theorem zEx {wo : World} {base : Nat} {a oa : Option Addr} {oc m : Nat} {xs : List Value} (h : ∀ z, a = some z → wo.heap.size ≤ z.block) (ho : wo.ownsRow base 49 4 (.slice oa m oc) m xs) (k : Nat) :
  ∀ z, a = some z → some z.block ≠ (Value.slice oa k oc).ownBlock := by
 intro z hz e;have h1 := h z hz;have h2 := ho.lt z.block (by rw [e]; cases oa <;> rfl);omega
theorem tS (v : Value) (l : List It) (w : World) (h : RdT w v l) (hs : l.length ≤ 1000000) :
  Calls Tryz.prog 164 #[v] w fun e w' => ∃ v', e = .returned v' ∧ OwnT w' w.heap.size v' (srt l) ∧ Below w.heap.size w w' := by
 obtain ⟨a, cap, rfl, _, _⟩ := h.shape;have HS := zh (show ∀ j, j < l.length → _ from fun j => zBG (l := l) (j := j));have HL := zh (wu l);have HE := zh (show srt (l.take l.length) = srt l by rw [List.take_length]);generalize hn : l.length = n at *;have Hr := zh h;clear h hn
 go_enter Tryz.func164, Tryz.ntmps164
 go_wp2_with fail
 go_loopw [3, 4] (fun ov iv wr => ∃ j : Nat, iv = .int .i64 (j : Int) ∧ j ≤ n ∧ OwnT wr w.heap.size ov (srt (l.take j)) ∧ Below w.heap.size w wr) (fun _ iv _ => n - (intOf iv).toNat)
 case atStart => exact ⟨0, rfl, Nat.zero_le _, World.ownsRow_nil _ _ _ _, Below.refl _ _⟩
 obtain ⟨j, rfl, hj, hown, hb⟩ := hrel;have hB := hb.size;obtain ⟨oa, oc, rfl, ho1, ho2, ho3⟩ := zJ hown;have Ho3 := zh ho3;have Hb := zh hb;have Hown := zh (show wr.ownsRow w.heap.size 49 4 _ (srt (l.take j)).length (zL (srt (l.take j))) from hown);clear hown hb ho3
 by_cases hlt : j < n
 ·
  have hL := HL.out j hj;have HSj := zh (HS.out j hlt);generalize srt (l.take j) = o at *;generalize hm : o.length = m at *;have HM := zh hm;clear hm;obtain ⟨b, off, rfl, c0, c1, c2, c3⟩ := Hr.out.at hlt;generalize iat l j = x at *;have HS4 := zh (fun w' (h : Below w.heap.size w w') => And.intro (Below.keeps h _ _ c0) (And.intro (Below.keeps h _ _ c1) (And.intro (Below.keeps h _ _ c2) (Below.keeps h _ _ c3))));have c0 := Below.keeps Hb.out _ _ c0;clear c1 c2 c3;obtain ⟨wo, ewo⟩ : ∃ wo : World, wo = wr := ⟨_, rfl⟩
  subst ewo;go_wp2_with fail
  go_loopw [5] (fun kv w2 => ∃ k : Nat, kv = .int .i64 (k : Int) ∧ k ≤ m ∧ (∀ i, i < k → (iat o i).key < x.key) ∧ Below wo.heap.size wo w2) (fun kv _ => m - (intOf kv).toNat)
  case atStart => exact ⟨0, rfl, Nat.zero_le _, fun i hi => absurd hi (by omega), Below.refl _ _⟩
  obtain ⟨k, rfl, hk, hkey, hb2⟩ := hrel;have Hkey := zh hkey;have Hb2 := zh hb2;have d0 := Below.keeps hb2 _ _ c0;clear hkey hb2;have i1 : (j : Int) < (n : Int) := by omega
  by_cases hkm : k < m
  ·
   have ho := (yS (zv Hown.out)).below Hb2.out;obtain ⟨bo, oo, rfl, e0, _⟩ := ho.at hkm;clear ho;have i2 : (k : Int) < (m : Int) := by omega
   generalize hy : (iat o k).key = y at *;have HY := zh hy;clear hy
   by_cases hyx : y < x.key
   ·
    have hyd : decide (y < x.key) = true := decide_eq_true hyx;go_wp2_with fail
    go_quiet (fail)
    clear i1 i2;go_wp2_with fail
    exact ⟨⟨k + 1, by go_num, by omega, fun i hi => by
     by_cases e : i = k
     ·
      rw [e, HY.out]; exact hyx
     exact Hkey.out i (by omega), below_drewN Hb2.out _⟩, by simp [intOf]; omega⟩
   have hyd : decide (y < x.key) = false := decide_eq_false hyx;have Hins := zh (zCo o x k (by rw [HM.out]; exact hk) Hkey.out (by rw [HY.out]; omega));obtain ⟨sa, sc, hrun, hsl, hsb⟩ := vK yA (uo ((yS (zv Hown.out)).below Hb2.out)) k hk;rw [← uE] at hsl;obtain ⟨d, hd, hd1, hd2⟩ : ∃ d, m - k = d ∧ 0 < d ∧ d ≤ m := ⟨m - k, rfl, by omega, by omega⟩
   rw [hd] at hsl hrun;have HD := zh hd;have HSl := zh hsl;have Hmade := zh (fun nq => World.ownsRow_made (base := wr.heap.size) (e := 49) (size := 4) (wr.drewN nq) #[] 0 (Nat.le_refl _) (by decide) rfl);clear hsl hsb hd;go_wp2_with fail
   go_quiet (fail)
   clear i1 i2;go_wp2_with (at_builtin; go_must (refine za rfl (.tmp 32) (.tmp 35) 33 rfl yA wr.heap.size rfl (Hmade.out nq) rfl ((HSl.out.below (below_drewN (Below.refl _ _) nq)).alloc _) (zl _) (by unfold maxLen; omega) (by omega) (by simp) ?_); intro v3 w3 hown3 hgr3 hv3; clear hv3);rw [Nat.zero_add, List.nil_append] at hown3;have hb3 := zK ((below_drewN (Below.refl wr.heap.size wr) nq).alloc (Nat.le_refl _) _) (Hmade.out nq) (by simp) hgr3;obtain ⟨ra, rc, rfl, hr1, hr2, hr3⟩ := zJ hown3;obtain ⟨rb, roff, rfl, g0, _⟩ := (yS (zv hown3)).at hd1;have hrb := (hown3.lt rb rfl).1;simp only [xS, Nat.zero_mul, Nat.add_zero, HY.out] at g0;have k0 := Below.keeps hb3 _ _ d0;have Hr3 := zh (zv hown3);have Hb3 := zh hb3;have hdd : decide ((0 : Int) < (d : Int)) = true := by simp; omega
   have i1 : (j : Int) < (n : Int) := by omega
   clear hown3 hgr3 hb3 hr3 hrun
   by_cases hyx2 : y = x.key
   ·
    have hbe : (y == x.key) = true := beq_iff_eq.2 hyx2;obtain ⟨ta, tc, hrun2, hsl2, hsb2⟩ := vK yA Hr3.out 1 hd1;rw [show ((1 : Nat) : Int) = 1 from rfl] at hrun2;have HSl2 := zh hsl2;have HSb2 := zh hsb2;clear hsl2 hsb2;go_wp2_with fail
    go_quiet (fail)
    go_wp2_with fail;obtain ⟨w4, hw4⟩ : ∃ w4, w4 = w3.drewN nq := ⟨_, rfl⟩
    rw [← hw4];have HBL := zh (show Below wo.heap.size wo w4 by rw [hw4]; exact below_drewN (zA Hb2.out Hb3.out) nq)
    have HRD := zh (show Rd w4 4 (.slice ta (d - 1) tc) (d - 1) (zL (o.drop (k + 1))) by
     rw [hw4, show k + 1 = k + 1 from rfl, ← List.drop_drop, uE]; exact HSl2.out.below (below_drewN (Below.refl _ _) nq))
    have HNE := zh (show ∀ z, ta = some z → wo.heap.size ≤ z.block from fun z hz => by
     obtain ⟨y', hy', e⟩ := HSb2.out z hz
     injection hy' with hy'
     rw [← e, ← hy']; exact Nat.le_trans Hb2.out.size hrb)
    have HNE2 := zh (zEx HNE.out Hown.out k);have HOK := zh (show ins o x = o.take k ++ x :: o.drop (k + 1) by rw [Hins.out, if_pos ⟨by rw [HM.out]; exact hkm, HY.out.trans hyx2⟩]);have HRL := zh (show d - 1 ≤ m by omega);clear hw4 Hr3 Hb3 HSl2 HSb2 hrun2 g0 k0 hbe hyx2;have hto := yU (P := Tryz.prog) yA (n := m) Ho3.out k (Nat.le_trans hk ho1);have HW4 := zh (zA Hb.out HBL.out);have hB4 : w.heap.size ≤ w4.heap.size := HW4.out.size;have Hown4 := zh (vG (zH Hown.out HBL.out) k hk);have HT := zh (zl [x]);have hrl := HRL.out
    go_region_held3 (fun w' => w'.cell? ⟨b, off + j * 4, none⟩ = some (.int .u64 x.key) ∧ w'.cell? ⟨b, off + j * 4 + 1, none⟩ = some (.int .u32 x.ck) ∧ w'.cell? ⟨b, off + j * 4 + 2, none⟩ = some (.int .i64 x.off) ∧ w'.cell? ⟨b, off + j * 4 + 3, none⟩ = some (.int .i64 x.size))
     (first | exact HS4.out _ HW4.out.drew | exact HS4.out _ (HW4.out.drew.alloc hB4 _) | exact HS4.out _ (zK (HW4.out.drew.alloc hB4 _) ((Hown4.out.drew).alloc _) (by simp; omega) hgr5) | exact HS4.out _ (zK (zK (HW4.out.drew.alloc hB4 _) ((Hown4.out.drew).alloc _) (by simp; omega) hgr5) hown5 (Nat.le_trans (by simp; omega) hgr5.size) hgr6))
     (first | (refine xV (by rfl) _ _ _ (by rfl) yA w.heap.size (by rfl) ((Hown4.out.drew).alloc _) (by rfl) (Rd.new _ 4 (itC x) 49 1 rfl (by decide)) (by simpa [zL] using HT.out) (by unfold maxLen; omega) (by omega) (by simp; omega) ?_; intro v5 w5 hown5 hgr5 hv5; clear hv5) | (refine xV (by rfl) _ _ _ (by rfl) yA w.heap.size (by rfl) hown5 (by rfl) (((HRD.out.drew).alloc _).grown hgr5 HNE2.out) (zl _) (by unfold maxLen; omega) (by omega) (Nat.le_trans (by simp; omega) hgr5.size) ?_; intro v6 w6 hown6 hgr6 hv6; clear hv6))
    have hfin6 : zL (o.take k) ++ itC x ++ zL (o.drop (k + 1)) = zL (srt (l.take (j + 1))) := by rw [HSj.out, HOK.out, zp, uA, List.append_assoc]
    rw [xX] at hfin6;have Hfin6 := zh hfin6;have HB6 := zh (zK (zK (HW4.out.drew.alloc hB4 _) ((Hown4.out.drew).alloc _) (by simp; omega) hgr5) hown5 (Nat.le_trans (by simp; omega) hgr5.size) hgr6);have HO6 := zh hown6;clear hfin6 hown5 hown6 hgr5 hgr6;go_wp2_with fail;exact ⟨⟨j + 1, by go_num, by omega, yE HO6.out Hfin6.out, HB6.out⟩, by simp [intOf]; omega⟩
   have hbe : (y == x.key) = false := beq_eq_false_iff_ne.2 hyx2;go_wp2_with fail
   go_quiet (fail)
   go_wp2_with fail;obtain ⟨w4, hw4⟩ : ∃ w4, w4 = w3.drewN nq := ⟨_, rfl⟩
   rw [← hw4];have HBL := zh (show Below wo.heap.size wo w4 by rw [hw4]; exact below_drewN (zA Hb2.out Hb3.out) nq)
   have HRD := zh (show Rd w4 4 _ d (zL (o.drop k)) by
    rw [hw4]; exact Hr3.out.below (below_drewN (Below.refl _ _) nq))
   have HNE := zh (show ∀ z, some (⟨rb, roff, none⟩ : Addr) = some z → wo.heap.size ≤ z.block from fun z hz => by
    injection hz with hz
    rw [← hz]; exact Nat.le_trans Hb2.out.size hrb)
   have HNE2 := zh (zEx HNE.out Hown.out k);have HOK := zh (show ins o x = o.take k ++ x :: o.drop k by rw [Hins.out, if_neg (fun h => hyx2 (HY.out.symm.trans h.2))]);have HRL := zh (show d ≤ m by omega);clear hw4 Hr3 Hb3 g0 k0 hbe hyx2;have hto := yU (P := Tryz.prog) yA (n := m) Ho3.out k (Nat.le_trans hk ho1);have HW4 := zh (zA Hb.out HBL.out);have hB4 : w.heap.size ≤ w4.heap.size := HW4.out.size;have Hown4 := zh (vG (zH Hown.out HBL.out) k hk);have HT := zh (zl [x]);have hrl := HRL.out
   go_region_held3 (fun w' => w'.cell? ⟨b, off + j * 4, none⟩ = some (.int .u64 x.key) ∧ w'.cell? ⟨b, off + j * 4 + 1, none⟩ = some (.int .u32 x.ck) ∧ w'.cell? ⟨b, off + j * 4 + 2, none⟩ = some (.int .i64 x.off) ∧ w'.cell? ⟨b, off + j * 4 + 3, none⟩ = some (.int .i64 x.size))
    (first | exact HS4.out _ HW4.out.drew | exact HS4.out _ (HW4.out.drew.alloc hB4 _) | exact HS4.out _ (zK (HW4.out.drew.alloc hB4 _) ((Hown4.out.drew).alloc _) (by simp; omega) hgr5) | exact HS4.out _ (zK (zK (HW4.out.drew.alloc hB4 _) ((Hown4.out.drew).alloc _) (by simp; omega) hgr5) hown5 (Nat.le_trans (by simp; omega) hgr5.size) hgr6))
    (first | (refine xV (by rfl) _ _ _ (by rfl) yA w.heap.size (by rfl) ((Hown4.out.drew).alloc _) (by rfl) (Rd.new _ 4 (itC x) 49 1 rfl (by decide)) (by simpa [zL] using HT.out) (by unfold maxLen; omega) (by omega) (by simp; omega) ?_; intro v5 w5 hown5 hgr5 hv5; clear hv5) | (refine xV (by rfl) _ _ _ (by rfl) yA w.heap.size (by rfl) hown5 (by rfl) (((HRD.out.drew).alloc _).grown hgr5 HNE2.out) (zl _) (by unfold maxLen; omega) (by omega) (Nat.le_trans (by simp; omega) hgr5.size) ?_; intro v6 w6 hown6 hgr6 hv6; clear hv6))
   have hfin6 : zL (o.take k) ++ itC x ++ zL (o.drop k) = zL (srt (l.take (j + 1))) := by rw [HSj.out, HOK.out, zp, uA, List.append_assoc]
   rw [xX] at hfin6;have Hfin6 := zh hfin6;have HB6 := zh (zK (zK (HW4.out.drew.alloc hB4 _) ((Hown4.out.drew).alloc _) (by simp; omega) hgr5) hown5 (Nat.le_trans (by simp; omega) hgr5.size) hgr6);have HO6 := zh hown6;clear hfin6 hown5 hown6 hgr5 hgr6;go_wp2_with fail;exact ⟨⟨j + 1, by go_num, by omega, yE HO6.out Hfin6.out, HB6.out⟩, by simp [intOf]; omega⟩
  obtain rfl : k = m := by omega
  have Hins := zh (zCo o x k (by rw [HM.out]; exact Nat.le_refl _) Hkey.out (by rw [HM.out]; intro h; omega));obtain ⟨sa, sc, hrun, hsl, hsb⟩ := vK yA (zv (zH Hown.out Hb2.out)) k hk;rw [Nat.sub_self, List.drop_of_length_le (by rw [yB, HM.out]; exact Nat.le_refl _)] at hsl;rw [Nat.sub_self] at hrun;have HSl := zh hsl;have Hmade := zh (fun nq => World.ownsRow_made (base := wr.heap.size) (e := 49) (size := 4) (wr.drewN nq) #[] 0 (Nat.le_refl _) (by decide) rfl);clear hsl hsb;go_wp2_with fail
  go_quiet (fail)
  clear i1;go_wp2_with (at_builtin; go_must (refine za rfl (.tmp 32) (.tmp 35) 33 rfl yA wr.heap.size rfl (Hmade.out nq) rfl ((HSl.out.below (below_drewN (Below.refl _ _) nq)).alloc _) (fun _ h => by cases h) (by unfold maxLen; omega) (by omega) (by simp) ?_); intro v3 w3 hown3 hgr3 hv3; clear hv3);rw [Nat.zero_add, List.nil_append] at hown3;have hb3 := zK ((below_drewN (Below.refl wr.heap.size wr) nq).alloc (Nat.le_refl _) _) (Hmade.out nq) (by simp) hgr3;obtain ⟨ra, rc, rfl, hr1, hr2, hr3⟩ := zJ hown3;have Hr3 := zh (zv hown3);have Hb3 := zh hb3
  have HNE := zh (show ∀ z, ra = some z → wo.heap.size ≤ z.block from fun z hz => by
   subst hz
   exact Nat.le_trans Hb2.out.size (hown3.lt _ rfl).1)
  have HNE2 := zh (zEx HNE.out Hown.out k);have HOK := zh (show ins o x = o.take k ++ x :: [] by rw [Hins.out, if_neg (fun h => by have := HM.out; omega), List.drop_of_length_le (by rw [HM.out]; exact Nat.le_refl _)]);have HRL := zh (show 0 ≤ k from Nat.zero_le _);clear hown3 hgr3 hb3 hr3 hrun;go_wp2_with fail
  go_quiet (fail)
  go_wp2_with fail;obtain ⟨w4, hw4⟩ : ∃ w4, w4 = w3.drewN nq := ⟨_, rfl⟩
  rw [← hw4];have HBL := zh (show Below wo.heap.size wo w4 by rw [hw4]; exact below_drewN (zA Hb2.out Hb3.out) nq)
  have HRD := zh (show Rd w4 4 _ 0 (zL []) by
   rw [hw4]; exact Hr3.out.below (below_drewN (Below.refl _ _) nq))
  clear hw4 Hr3 Hb3;have hto := yU (P := Tryz.prog) yA (n := k) Ho3.out k ho1;have HW4 := zh (zA Hb.out HBL.out);have hB4 : w.heap.size ≤ w4.heap.size := HW4.out.size;have Hown4 := zh (vG (zH Hown.out HBL.out) k hk);have HT := zh (zl [x]);have hrl := HRL.out
  go_region_held3 (fun w' => w'.cell? ⟨b, off + j * 4, none⟩ = some (.int .u64 x.key) ∧ w'.cell? ⟨b, off + j * 4 + 1, none⟩ = some (.int .u32 x.ck) ∧ w'.cell? ⟨b, off + j * 4 + 2, none⟩ = some (.int .i64 x.off) ∧ w'.cell? ⟨b, off + j * 4 + 3, none⟩ = some (.int .i64 x.size))
   (first | exact HS4.out _ HW4.out.drew | exact HS4.out _ (HW4.out.drew.alloc hB4 _) | exact HS4.out _ (zK (HW4.out.drew.alloc hB4 _) ((Hown4.out.drew).alloc _) (by simp; omega) hgr5) | exact HS4.out _ (zK (zK (HW4.out.drew.alloc hB4 _) ((Hown4.out.drew).alloc _) (by simp; omega) hgr5) hown5 (Nat.le_trans (by simp; omega) hgr5.size) hgr6))
   (first | (refine xV (by rfl) _ _ _ (by rfl) yA w.heap.size (by rfl) ((Hown4.out.drew).alloc _) (by rfl) (Rd.new _ 4 (itC x) 49 1 rfl (by decide)) (by simpa [zL] using HT.out) (by unfold maxLen; omega) (by omega) (by simp; omega) ?_; intro v5 w5 hown5 hgr5 hv5; clear hv5) | (refine xV (by rfl) _ _ _ (by rfl) yA w.heap.size (by rfl) hown5 (by rfl) (((HRD.out.drew).alloc _).grown hgr5 HNE2.out) (zl _) (by unfold maxLen; omega) (by omega) (Nat.le_trans (by simp; omega) hgr5.size) ?_; intro v6 w6 hown6 hgr6 hv6; clear hv6))
  have hfin6 : zL (o.take k) ++ itC x ++ zL [] = zL (srt (l.take (j + 1))) := by rw [HSj.out, HOK.out, zp, uA, List.append_assoc]
  rw [xX] at hfin6;have Hfin6 := zh hfin6;have HB6 := zh (zK (zK (HW4.out.drew.alloc hB4 _) ((Hown4.out.drew).alloc _) (by simp; omega) hgr5) hown5 (Nat.le_trans (by simp; omega) hgr5.size) hgr6);have HO6 := zh hown6;clear hfin6 hown5 hown6 hgr5 hgr6;go_wp2_with fail;exact ⟨⟨j + 1, by go_num, by omega, yE HO6.out Hfin6.out, HB6.out⟩, by simp [intOf]; omega⟩
 obtain rfl : j = n := by omega
 go_wp2_with fail;go_ret;exact ⟨_, rfl, by rw [← HE.out]; exact Hown.out, Hb.out⟩
def zLl (x : It) : It := ⟨x.key, x.ck, 16 + 8 * (x.off % 4096), x.size % 4096⟩
def upd (o : List It) (k : Nat) : List It := (o.take k).map zLl ++ o.drop k
theorem kU (v : Value) (l : List It) (w : World) (h : RdT w v l) (hs : l.length ≤ 1000000) :
  Calls Tryz.prog 134 #[v] w fun e w' => ∃ v', e = .returned v' ∧ OwnT w' w.heap.size v' l ∧ Below w.heap.size w w' := by
 obtain ⟨a, cap, rfl, h1, h2⟩ := h.shape;have q22 : ∀ (w : World) (a : Option Addr) (n c n' c' : Nat), (binOp .eql 33 (.slice a n c) (.slice none n' c')).run Tryz.prog w = .ok (.bool a.isNone) w := fun w a n c n' c' => Lib.run_eql_slice_nil w _ _ a n c n' c' Tryz.underlying33
 cases a with
 | none =>
  have h0 : l = [] := by
   obtain ⟨_, a', cap', e, _, _, h5, _⟩ := h.2;injection e with e1 e2 e3;have := h5 e1.symm;exact List.length_eq_zero_iff.1 (by omega)
  subst h0;clear h
  go_enter Tryz.func134, Tryz.ntmps134
  go_wp2_with fail;go_ret;exact ⟨_, rfl, World.ownsRow_nil _ _ _ _, Below.refl _ _⟩
 | some p =>
  have Hr := zh (uo h);generalize hn : l.length = n at *;clear h
  go_enter Tryz.func134, Tryz.ntmps134
  go_wp2_with (at_builtin; go_must (refine za rfl (.tmp 5) (.tmp 6) 33 rfl yA w.heap.size rfl (World.ownsRow_made (size := 4) _ #[] 0 (Nat.le_refl _) (by decide) rfl) rfl (Hr.out.alloc _) (zl _) (by unfold maxLen; omega) (by omega) (by simp) ?_); intro v3 w3 hown3 hgr3 hv3; clear hv3);have HB := zh (zK ((Below.refl w.heap.size w).alloc (Nat.le_refl _) _) (World.ownsRow_made (e := 49) (size := 4) w #[] 0 (Nat.le_refl _) (by decide) rfl) (by simp) hgr3);have HO := zh (yE hown3 (List.nil_append _));clear hown3 hgr3;go_wp2_with fail;go_ret;exact ⟨_, rfl, HO.out, HB.out⟩
def wC (l : List It) : Prop := ∀ (v : Value) (w : World), RdT w v l → Calls Tryz.prog 135 #[v] w fun e w' => ∃ v', e = .returned v' ∧ OwnT w' w.heap.size v' (srt l) ∧ Below w.heap.size w w'
theorem zFP (l : List It) (ha : Asc l) (hs : l.length ≤ 1000000) : wC l := by
 intro v w h;have HC := zh (kU v l w h hs);have HA := zh (fun v w h => zCP v l w h);rw [(uO l).2 ha] at HA;have HS := zh (yH ha);obtain ⟨a, cap, rfl, h1, h2⟩ := h.shape;clear h ha
 go_enter Tryz.func135, Tryz.ntmps135
 go_wp2_with fail;refine HC.out.mono ?_; rintro e w1 ⟨v1, rfl, hown1, hb1⟩;have HO := zh hown1;have HB := zh hb1;clear hown1 hb1;go_wp2_with fail;refine (HA.out _ _ HO.out.rd).mono ?_; rintro e w2 ⟨rfl, hb2⟩;have HO2 := zh (zH HO.out hb2);have HB2 := zh (zA HB.out hb2);clear hb2;go_wp2_with fail;go_ret;exact ⟨_, rfl, by rw [HS.out]; exact HO2.out, HB2.out⟩
structure SrCtx (w : World) (lb kb : Nat) (a : Option Addr) (n cap : Nat) (l : List It) (key : Int) : Prop where
 lv : w.cell? ⟨lb, 0, none⟩ = some (.slice a n cap)
 kv : w.cell? ⟨kb, 0, none⟩ = some (.int .u64 key)
 rd : RdT w (.slice a n cap) l
theorem SrCtx.below {w w' : World} {lb kb : Nat} {a : Option Addr} {n cap : Nat} {l : List It} {key : Int} (h : SrCtx w lb kb a n cap l key) (hb : Below w.heap.size w w') : SrCtx w' lb kb a n cap l key :=
 ⟨Below.keeps hb _ _ h.lv, Below.keeps hb _ _ h.kv, h.rd.below hb⟩
theorem zKM (i lb kb : Nat) (a : Option Addr) (n cap : Nat) (l : List It) (key : Int) (w : World) (h : SrCtx w lb kb a n cap l key) (hi : i < n) (_hn : n ≤ 1000000) :
  Calls Tryz.prog 177 #[.int .i64 (i : Int), .pointer (some ⟨lb, 0, none⟩), .pointer (some ⟨kb, 0, none⟩)] w fun e w' => e = .returned (.bool (decide (key ≤ (iat l i).key))) ∧ Below w.heap.size w w' := by
 obtain ⟨h1, h2, h3⟩ := h;obtain ⟨b, off, rfl, c0, _⟩ := h3.at hi;generalize (iat l i).key = x at *;have i1 : (i : Int) < (n : Int) := by omega
 clear h3
 go_enter Tryz.func177, Tryz.ntmps177
 go_wp2_with fail
 go_quiet (fail)
 go_wp2_with fail;go_ret;exact ⟨rfl, below_drewN (Below.refl _ _) _⟩
theorem zES (lb kb : Nat) (a : Option Addr) (n cap : Nat) (l : List It) (key : Int) (w : World) (h : SrCtx w lb kb a n cap l key) (hn : n ≤ 1000000) :
  Calls Tryz.prog 176 #[.int .i64 (n : Int), .func (.func 177) #[] #[.pointer (some ⟨lb, 0, none⟩), .pointer (some ⟨kb, 0, none⟩)]] w fun e w' =>
   (∃ r : Nat, e = .returned (.int .i64 (r : Int)) ∧ r ≤ n ∧ (∀ j, r = j + 1 → (iat l j).key < key) ∧ (r < n → key ≤ (iat l r).key)) ∧ Below w.heap.size w w' := by
 have H := zh h;clear h
 go_enter Tryz.func176, Tryz.ntmps176
 go_wp2_with fail
 go_loopw [5, 6] (fun iv jv wr => ∃ i j : Nat, iv = .int .i64 (i : Int) ∧ jv = .int .i64 (j : Int) ∧ i ≤ j ∧ j ≤ n ∧ (∀ k, i = k + 1 → (iat l k).key < key) ∧ (j < n → key ≤ (iat l j).key) ∧ Below w.heap.size w wr) (fun iv jv _ => (intOf jv - intOf iv).toNat)
 case atStart => exact ⟨0, n, rfl, rfl, Nat.zero_le _, Nat.le_refl _, fun k hk => by omega, fun h => by omega, Below.refl _ _⟩
 obtain ⟨i, j, rfl, rfl, hij, hj, hlo, hhi, hb⟩ := hrel;have HL := zh hlo;have HH := zh hhi;have Hb := zh hb;clear hlo hhi hb
 by_cases hlt : i < j
 ·
  obtain ⟨m, hm, hm1, hm2⟩ : ∃ m : Nat, (i + j) / 2 = m ∧ i ≤ m ∧ m < j := ⟨(i + j) / 2, rfl, by omega, by omega⟩
  have HC := zh (fun W hW => zKM m lb kb a n cap l key W (H.out.below hW) (by omega) hn);have hmi : ((i : Int) + (j : Int)) / 2 = (m : Int) := by omega
  have HMi := zh hm;clear hm;generalize hq : decide (key ≤ (iat l m).key) = q at *;have HQ := zh hq;clear hq;go_wp2_with fail;refine (HC.out _ Hb.out).mono ?_; rintro e w1 ⟨rfl, hb1⟩;have Hb1 := zh (zA Hb.out hb1);clear hb1
  cases q
  ·
   go_wp2_with fail;refine ⟨⟨m + 1, j, by go_num, rfl, by omega, hj, fun k hk => ?_, HH.out, Hb1.out⟩, by simp [intOf]; omega⟩;obtain rfl : m = k := by omega
   have := of_decide_eq_false HQ.out;omega
  go_wp2_with fail;exact ⟨⟨i, m, rfl, rfl, hm1, by omega, HL.out, fun _ => of_decide_eq_true HQ.out, Hb1.out⟩, by simp [intOf]; omega⟩
 obtain rfl : i = j := by omega
 go_wp2_with fail;go_ret;exact ⟨⟨i, rfl, hj, HL.out, HH.out⟩, Hb.out⟩
theorem qB (v : Value) (l : List It) (key : Int) (w : World) (h : RdT w v l) (hs : l.length ≤ 1000000) :
  Calls Tryz.prog 136 #[v, .int .u64 key] w fun e w' => (∃ r : Nat, Place l key r ∧ e = .returned (.tuple #[.int .i64 (r : Int), .bool (decide (r < l.length ∧ (iat l r).key = key))])) ∧ Below w.heap.size w w' := by
 obtain ⟨a, cap, rfl, h1, h2⟩ := h.shape;have HP := zh (show ∀ r, r ≤ l.length → (∀ j, r = j + 1 → (iat l j).key < key) → (r < l.length → key ≤ (iat l r).key) → Place l key r from fun r a b c => ⟨a, b, c⟩);generalize hn : l.length = n at *;have Hr := zh h;have HW := zh (show Below w.heap.size w ((w.alloc (.cells #[.slice a n cap] 33)).alloc (.cells #[.int .u64 key] 24)) from ((Below.refl _ _).alloc (Nat.le_refl _) _).alloc (by simp) _);have HC := zh (zES w.heap.size (w.heap.size + 1) a n cap l key ((w.alloc (.cells #[.slice a n cap] 33)).alloc (.cells #[.int .u64 key] 24)) ⟨by simp, by simp, Hr.out.below HW.out⟩ hs);have HX := zh (show SrCtx ((w.alloc (.cells #[.slice a n cap] 33)).alloc (.cells #[.int .u64 key] 24)) w.heap.size (w.heap.size + 1) a n cap l key from ⟨by simp, by simp, Hr.out.below HW.out⟩);clear h hn h1 h2
 go_enter Tryz.func136, Tryz.ntmps136
 go_wp2_with fail;refine HC.out.mono ?_; rintro e w1 ⟨⟨r, rfl, r1, r2, r3⟩, hb1⟩;have HR := zh (HP.out r r1 r2 r3);obtain ⟨x1, x2, x3⟩ := HX.out.below hb1;have Hb1 := zh (zA HW.out hb1);clear hb1 r2 r3
 by_cases hrn : r < n
 ·
  obtain ⟨b, off, rfl, c0, _⟩ := x3.at hrn;have i1 : (r : Int) < (n : Int) := by omega
  have HE := zh (show ((iat l r).key == key) = decide (r < n ∧ (iat l r).key = key) by rw [Bool.eq_iff_iff]; simp [hrn]);generalize hy : (iat l r).key = y at *;have HY := zh hy;clear x3 hy;go_wp2_with fail
  go_quiet (fail)
  go_wp2_with fail;go_ret2;exact ⟨⟨r, HR.out, zIV (by rw [HY.out]; exact HE.out)⟩, below_drewN Hb1.out _⟩
 obtain rfl : r = n := by omega
 have HE := zh (show false = decide (r < r ∧ (iat l r).key = key) by simp);clear x3;go_wp2_with fail
 go_quiet (fail)
 go_wp2_with fail;go_ret2;exact ⟨⟨r, HR.out, zIV HE.out⟩, below_drewN Hb1.out _⟩
theorem zDG (v : Value) (l : List It) (key : Int) (w : World) (h : RdT w v l) (hk : wC l) (hs : l.length ≤ 1000000) :
  Calls Tryz.prog 100 #[v, .int .u64 key] w fun e w' => e = .returned (.tuple #[itV ((fnd (srt l) key).getD it0), .bool (fnd (srt l) key).isSome]) ∧ Below w.heap.size w w' := by
 have HS := zh (fun w h => hk v w h);have hlen := yN l;have HA := zh (wU l);have HF := zh (fun v w h => qB v (srt l) key w h (by omega));have Hr := zh h;obtain ⟨a, cap, rfl, _, _⟩ := h.shape;generalize srt l = s at *;have HW := zh (show Below w.heap.size w (w.alloc (.cells #[.int .u64 0, .int .u32 0, .int .i64 0, .int .i64 0] 49)) from (Below.refl _ _).alloc (Nat.le_refl _) _);have hW : (w.alloc (.cells #[.int .u64 0, .int .u32 0, .int .i64 0, .int .i64 0] 49)).heap.size = w.heap.size + 1 := by simp
 clear h hk
 go_enter Tryz.func100, Tryz.ntmps100
 go_wp2_with fail;refine (HS.out _ (Hr.out.below HW.out)).mono ?_; rintro e w1 ⟨v1, rfl, hown1, hb1⟩;have HO := zh hown1;have HB := zh hb1;clear hown1 hb1;go_wp2_with fail;refine (HF.out _ _ HO.out.rd).mono ?_; rintro e w2 ⟨⟨r, hp, rfl⟩, hb2⟩;have HB2 := zh (HB.out.trans (hb2.mono HB.out.size));have g : ∀ i u, (w.alloc (.cells #[.int .u64 0, .int .u32 0, .int .i64 0, .int .i64 0] 49)).cell? ⟨w.heap.size, i, none⟩ = some u → w2.cell? ⟨w.heap.size, i, none⟩ = some u := fun i u hu => (HB2.out.cell (p := ⟨w.heap.size, i, none⟩) (by simp)).trans hu
 have f : ∀ i, w2.frozen? ⟨w.heap.size, i, none⟩ = false := fun i => (HB2.out.frozen (p := ⟨w.heap.size, i, none⟩) (by simp)).trans (by simp)
 have g0 := g 0 _ (by simp; rfl);have g1 := g 1 _ (by simp; rfl);have g2 := g 2 _ (by simp; rfl);have g3 := g 3 _ (by simp; rfl);have f0 := f 0;have f1 := f 1;have f2 := f 2;have f3 := f 3;have hs2 : w.heap.size < w2.heap.size := by have := HB2.out.size; omega
 have HD2 := zh (show Below w.heap.size w w2 from HW.out.trans (HB2.out.mono (by omega)));have HRs := zh (HO.out.rd.below hb2);have HP := zh hp;clear g f hb2 hp hW
 by_cases hy : r < s.length ∧ (iat s r).key = key
 ·
  have HFd := zh (HP.out.found HA.out hy.1 hy.2);rw [decide_eq_true hy];obtain ⟨_, cv, rfl, _, _⟩ := HRs.out.shape;obtain ⟨b, off, rfl, c0, c1, c2, c3⟩ := HRs.out.at hy.1;have hrl := hy.1;generalize hx : iat s r = x at *;have HX := zh hx;clear hx hy;go_wp2_with fail;exact bodyPost_ret (v := .tuple #[itV x, .bool true]) (by simp [results, Tryz.results100, go_sem, g0, g1, g2, g3]) rfl ⟨by rw [HFd.out]; rfl, ((((HD2.out.setCell (Nat.le_refl _) _).setCell (Nat.le_refl _) _).setCell (Nat.le_refl _) _).setCell (Nat.le_refl _) _)⟩
 have HFd := zh (HP.out.not HA.out (fun h h' => hy ⟨h, h'⟩));rw [decide_eq_false hy];clear hy;go_wp2_with fail;exact bodyPost_ret (v := .tuple #[itV it0, .bool false]) (by simp [results, Tryz.results100, go_sem, g0, g1, g2, g3, it0]) rfl ⟨by rw [HFd.out]; rfl, ((((HD2.out.setCell (Nat.le_refl _) _).setCell (Nat.le_refl _) _).setCell (Nat.le_refl _) _).setCell (Nat.le_refl _) _)⟩
end Go.Proofs.YtcgfilmmokmdjaaGreat
namespace Go.Proofs.YtcgfilmmokmdjaaGreat
open Go.RowKit Go.Shelf
def zHB : Go.Shelf.Ren := ⟨fun | 6 => 129 | 15 => 167 | 14 => 166 | 28 => 194 | 29 => 195 | 20 => 186 | 21 => 187 | 22 => 188 | 23 => 189 | 24 => 190 | 25 => 191 | 26 => 192 | 27 => 193 | 46 => 204 | 47 => 205 | 48 => 206 | 49 => 207 | 50 => 208 | 57 => 213 | n => n, fun | 22 => 33 | 24 => 49 | 25 => 216 | 3 => 3 | 39 => 185 | 0 => 0 | 53 => 47 | 55 => 24 | 4 => 4 | 46 => 256 | 45 => 255 | 50 => 221 | 5 => 5 | 9 => 9 | 66 => 270 | 70 => 274 | 76 => 278 | 77 => 279 | n => n, fun | n => n⟩
theorem zKf : Go.Proofs.SlLaysF0.n6 Tryz.prog zHB := {
 mixed := by kernel_rfl
 f6 := ⟨Tryz.f129.name, by decide, Tryz.func129.trans (congrArg some (by kernel_rfl))⟩
 f14 := ⟨Tryz.f166.name, by decide, Tryz.func166.trans (congrArg some (by kernel_rfl))⟩
 f15 := Tryz.func167.trans (congrArg some (by kernel_rfl))
 f20 := ⟨Tryz.f186.name, by decide, Tryz.func186.trans (congrArg some (by kernel_rfl))⟩
 f21 := ⟨Tryz.f187.name, by decide, Tryz.func187.trans (congrArg some (by kernel_rfl))⟩
 f22 := ⟨Tryz.f188.name, by decide, Tryz.func188.trans (congrArg some (by kernel_rfl))⟩
 f23 := ⟨Tryz.f189.name, by decide, Tryz.func189.trans (congrArg some (by kernel_rfl))⟩
 f24 := ⟨Tryz.f190.name, by decide, Tryz.func190.trans (congrArg some (by kernel_rfl))⟩
 f25 := ⟨Tryz.f191.name, by decide, Tryz.func191.trans (congrArg some (by kernel_rfl))⟩
 f26 := ⟨Tryz.f192.name, by decide, Tryz.func192.trans (congrArg some (by kernel_rfl))⟩
 f27 := ⟨Tryz.f193.name, by decide, Tryz.func193.trans (congrArg some (by kernel_rfl))⟩
 f28 := Tryz.func194.trans (congrArg some (by kernel_rfl))
 f29 := Tryz.func195.trans (congrArg some (by kernel_rfl))
 f46 := ⟨Tryz.f204.name, by decide, Tryz.func204.trans (congrArg some (by kernel_rfl))⟩
 f47 := Tryz.func205.trans (congrArg some (by kernel_rfl))
 f48 := Tryz.func206.trans (congrArg some (by kernel_rfl))
 f49 := ⟨Tryz.f207.name, by decide, Tryz.func207.trans (congrArg some (by kernel_rfl))⟩
 f50 := ⟨Tryz.f208.name, by decide, Tryz.func208.trans (congrArg some (by kernel_rfl))⟩
 f57 := ⟨Tryz.f213.name, by decide, Tryz.func213.trans (congrArg some (by kernel_rfl))⟩
 t0 := Tryz.underlying0
 a0 := Tryz.isAgg0
 z0 := Tryz.sizeOf0
 v0 := Tryz.zeroValue0
 t3 := Tryz.underlying3
 a3 := Tryz.isAgg3
 z3 := Tryz.sizeOf3
 v3 := Tryz.zeroValue3
 t4 := Tryz.underlying4
 a4 := Tryz.isAgg4
 z4 := Tryz.sizeOf4
 v4 := Tryz.zeroValue4
 t5 := Tryz.underlying5
 a5 := Tryz.isAgg5
 z5 := Tryz.sizeOf5
 v5 := Tryz.zeroValue5
 t9 := Tryz.underlying9
 a9 := Tryz.isAgg9
 z9 := Tryz.sizeOf9
 v9 := Tryz.zeroValue9
 t22 := Tryz.underlying33
 a22 := Tryz.isAgg33
 z22 := Tryz.sizeOf33
 v22 := Tryz.zeroValue33
 t25 := Tryz.underlying216
 a25 := Tryz.isAgg216
 z25 := Tryz.sizeOf216
 v25 := Tryz.zeroValue216
 t39 := Tryz.underlying185
 a39 := Tryz.isAgg185
 z39 := Tryz.sizeOf185
 v39 := Tryz.zeroValue185
 t45 := Tryz.underlying255
 a45 := Tryz.isAgg255
 z45 := Tryz.sizeOf255
 v45 := Tryz.zeroValue255
 t46 := Tryz.underlying256
 a46 := Tryz.isAgg256
 z46 := Tryz.sizeOf256
 v46 := Tryz.zeroValue256
 t50 := Tryz.underlying221
 a50 := Tryz.isAgg221
 z50 := Tryz.sizeOf221
 v50 := Tryz.zeroValue221
 t53 := Tryz.underlying47
 a53 := Tryz.isAgg47
 z53 := Tryz.sizeOf47
 v53 := Tryz.zeroValue47
 t55 := Tryz.underlying24
 a55 := Tryz.isAgg24
 z55 := Tryz.sizeOf24
 v55 := Tryz.zeroValue24
 t66 := Tryz.underlying270
 a66 := Tryz.isAgg270
 z66 := Tryz.sizeOf270
 v66 := Tryz.zeroValue270
 t70 := Tryz.underlying274
 a70 := Tryz.isAgg274
 z70 := Tryz.sizeOf274
 v70 := Tryz.zeroValue274
 t76 := Tryz.underlying278
 a76 := Tryz.isAgg278
 z76 := Tryz.sizeOf278
 v76 := Tryz.zeroValue278
 t77 := Tryz.underlying279
 a77 := Tryz.isAgg279
 z77 := Tryz.sizeOf279
 v77 := Tryz.zeroValue279 }
def zDX (x y : Int) : Int := if x < y then -1 else if y < x then 1 else 0
theorem zAJ (x y : Int) : (decide (zDX x y < 0)) = decide (x < y) := by
 unfold zDX
 by_cases h : x < y
 ·
  rw [if_pos h]; simp [h]
 rw [if_neg h]
 by_cases h2 : y < x
 ·
  rw [if_pos h2]; simp [h]
 rw [if_neg h2]; simp [h]
theorem wA (x : Int) (w : World) : Calls Tryz.prog 168 #[.int .i64 x] w fun e w' => e = .returned (.bool false) ∧ w' = w := by
 go_enter Tryz.func168, Tryz.ntmps168
 have hx : (x != x) = false := by simp
 go_wp2_with fail;go_ret;exact ⟨rfl, rfl⟩
theorem zBb (x y : Int) (w : World) : Calls Tryz.prog 131 #[.int .i64 x, .int .i64 y] w fun e w' => e = .returned (.int .i64 (zDX x y)) ∧ w' = w := by
 unfold zDX
 by_cases h : x < y
 ·
  rw [if_pos h]
  go_enter Tryz.func131, Tryz.ntmps131
  go_wp2_with fail;refine (wA _ _).mono ?_; rintro e w1 ⟨rfl, rfl⟩;go_wp2_with fail;refine (wA _ _).mono ?_; rintro e w2 ⟨rfl, rfl⟩;go_wp2_with fail;go_ret;exact ⟨rfl, rfl⟩
 rw [if_neg h]
 by_cases h2 : y < x
 ·
  rw [if_pos h2]
  go_enter Tryz.func131, Tryz.ntmps131
  go_wp2_with fail;refine (wA _ _).mono ?_; rintro e w1 ⟨rfl, rfl⟩;go_wp2_with fail;refine (wA _ _).mono ?_; rintro e w2 ⟨rfl, rfl⟩;go_wp2_with fail;go_ret;exact ⟨rfl, rfl⟩
 rw [if_neg h2]
 go_enter Tryz.func131, Tryz.ntmps131
 go_wp2_with fail;refine (wA _ _).mono ?_; rintro e w1 ⟨rfl, rfl⟩;go_wp2_with fail;refine (wA _ _).mono ?_; rintro e w2 ⟨rfl, rfl⟩;go_wp2_with fail;go_ret;exact ⟨rfl, rfl⟩
theorem zGi (x y : It) (w : World) : Calls Tryz.prog 130 #[itV x, itV y] w fun e w' => e = .returned (.int .i64 (zDX x.off y.off)) ∧ ∃ q os', w' = Sort.grow (w.drewN q) os' := by
 go_enter Tryz.func130, Tryz.ntmps130
 go_wp2_with fail;refine (zBb _ _ _).mono ?_; rintro e w1 ⟨rfl, rfl⟩;go_wp2_with fail;go_ret;exact ⟨rfl, 0, _, by rw [Sort.alloc_eq_grow, Sort.alloc_eq_grow, Sort.grow_grow]; rfl⟩
theorem zBm (l : List It) (t : Nat) (h : t < l.length * 4) : (zL l)[t]? = some ((itC l.toArray[t / 4]!)[t % 4]!) := by
 have h4 : t / 4 < l.length := by omega
 have e := ua 4 itC it0 l (fun x _ => wM x) (t / 4) (t % 4) h4 (by omega);rw [show t / 4 * 4 + t % 4 = t from by omega] at e;have e2 : l.toArray[t / 4]! = l.getD (t / 4) it0 := by
  rw [getElem!_pos _ _ (by simpa using h4), List.getD_eq_getElem?_getD, List.getElem?_eq_getElem h4];simp
 rw [e2];unfold zL;rw [e];have h5 : t % 4 < (itC (l.getD (t / 4) it0)).length := by rw [wM]; omega
 rw [List.getElem?_eq_getElem h5, getElem!_pos (itC (l.getD (t / 4) it0)) (t % 4) h5]
theorem zAp {w : World} {g n : Nat} {l : List It} {cur : Array Value} {e : TypeId} (hg : w.heap[g]? = some (.cells cur e (0, 0))) (hn : l.length = n) (ht : cur.toList.take (n * 4) = zL l) : Sort.HoldsK itC 4 w g 0 l.toArray := by
 intro j hj;rw [Sort.size_flatK, List.size_toArray] at hj;rw [Sort.get_flatK _ _ _ _ (by rw [List.size_toArray]; exact hj), Nat.zero_add];refine ⟨?_, by simp [World.frozen?, hg]⟩;rw [cell_of_row w g j cur e (0, 0) hg];have h := zBm l j hj;rw [← ht, List.getElem?_take, if_pos (by omega)] at h
 simpa using h
theorem zGS {w : World} {g cap : Nat} {d : Array It} (h : Sort.HoldsK itC 4 w g 0 d) (hn : d.size ≤ cap) (hc : cap ≤ maxLen) : RdT w (.slice (some ⟨g, 0, none⟩) d.size cap) d.toList := by
 refine yS (n := d.size) ⟨by rw [yB]; simp, some ⟨g, 0, none⟩, cap, rfl, hn, hc, fun h => by simp at h, fun _ => ⟨g, 0, rfl, fun j u hj => ?_⟩⟩;have hj4 : j < d.toList.length * 4 := by
  have := (List.getElem?_eq_some_iff.1 hj).1
  rwa [yB] at this
 have h2 := (h j (by rw [Sort.size_flatK]; simpa using hj4)).1;rw [Sort.get_flatK _ _ _ _ (by simpa using hj4)] at h2;rw [zBm _ _ hj4] at hj;injection hj with hj;subst hj;exact h2
theorem zCS {w : World} {B g n : Nat} {d : Array It} {os : Array Obj} (hB : B ≤ g) (hg : g < w.heap.size) : Below B w (sortWorldK itC 4 w g 0 n d os) := by
 refine ⟨rfl, rfl, rfl, size_sortWorldK_c itC 4 w g 0 n d os, fun k hk => ?_⟩;unfold sortWorldK Sort.grow Sort.putRowK Sort.putRow Sort.mapBlock
 show ((Array.modify _ g _) ++ os)[k]? = _
 rw [Array.getElem?_append_left (by rw [Array.size_modify]; show k < w.heap.size; omega), Array.getElem?_modify, if_neg (by omega)]
 rfl
theorem zJX {l : List It} {d' : Array It} (h : Sort.PermIn 0 l.toArray.size l.toArray d') : l.Perm d'.toList := by
 obtain ⟨h1, _, h2⟩ := h;have e1 : (d'.extract 0 l.toArray.size) = d' := by rw [← h1]; simp
 have e2 : (l.toArray.extract 0 l.toArray.size) = l.toArray := by simp
 rw [e1, e2] at h2;exact h2.symm
theorem zHF {d' : Array It} {n : Nat} (hn : d'.size = n) (h : Sort.SortedIn (ltOf fun x y : It => zDX x.off y.off) 0 n d') : d'.toList.Pairwise fun a b => a.off ≤ b.off := by
 rw [List.pairwise_iff_getElem];intro i j hi hj hij;have hi' : i < d'.size := by simpa using hi
 have hj' : j < d'.size := by simpa using hj
 have h2 := h i j (Nat.zero_le _) hij (by omega);unfold ltOf at h2;rw [zAJ, decide_eq_false_iff_not, getElem!_pos d' i hi', getElem!_pos d' j hj'] at h2
 simpa using h2
theorem zLx : Sort.SWO (ltOf fun x y : It => zDX x.off y.off) where
 irrefl x := by unfold ltOf; rw [zAJ]; simp
 trans x y z h1 h2 := by unfold ltOf at *; rw [zAJ] at *; simp at *; omega
 ntrans x y z h1 h2 := by unfold ltOf at *; rw [zAJ] at *; simp at *; omega
end Go.Proofs.YtcgfilmmokmdjaaGreat
