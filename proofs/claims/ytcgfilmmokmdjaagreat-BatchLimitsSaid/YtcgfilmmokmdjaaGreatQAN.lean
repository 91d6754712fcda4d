/- A part of the walk. -/
import Derived.Test.YtcgfilmmokmdjaaGreatQAA
import Derived.Test.YtcgfilmmokmdjaaGreatBae
import Derived.Test.YtcgfilmmokmdjaaGreatQAJ
import Derived.Test.YtcgfilmmokmdjaaGreatHd
import Derived.Test.YtcgfilmmokmdjaaGreatQAI
import Derived.Laws.Bits128
import Derived.Test.YtcgfilmmokmdjaaGreatGv
import Derived.Test.YtcgfilmmokmdjaaGreatQAE
import Derived.StillTailTactics
set_option linter.all false
set_option maxRecDepth 100000
set_option maxHeartbeats 32000000
namespace Go.Proofs.YtcgfilmmokmdjaaGreat
structure Rec where
 off : Int
 nd : Nd
 deriving DecidableEq
structure Sup where
 slot : Nat
 gen : Nat
 rev : Nat
 deriving DecidableEq
def zLI (s : Sup) : Prop := s.slot < 4 ∧ 1 ≤ s.gen ∧ s.gen ≤ 8 ∧ s.rev ≤ 4294967295
instance (s : Sup) : Decidable (zLI s) := by unfold zLI; exact inferInstance
def zLt : List UInt8 := [78, 86, 79, 76]
def s12 (s : Sup) : List UInt8 := zLt ++ be s.slot 2 ++ be s.gen 2 ++ be s.rev 4
def zIe (k : List Nd) : Nat := (k.map fun x => nsz x.data.length).sum
theorem kO (x : Nd) (k : List Nd) : zIe (x :: k) = nsz x.data.length + zIe k := by simp [zIe]
def wN (k : List Nd) : List UInt8 := k.flatMap zBT
theorem uK : ∀ k : List Nd, (wN k).length = zIe k
 | [] => rfl
 | x :: k => by
  have ih := uK k
  show (zBT x ++ wN k).length = _
  rw [List.length_append, ih, ki, kO]
def whole : List Nd → Nat → Nat
 | [], _ => 0
 | x :: k, m => if m < nsz x.data.length then 0 else whole k (m - nsz x.data.length) + 1
end Go.Proofs.YtcgfilmmokmdjaaGreat
namespace Go.Proofs.YtcgfilmmokmdjaaGreat
open Go.RowKit
def zCa (x : Nd) : Int := if 4096 < x.data.length then 8 else 1
theorem zFR (x : Nd) : zCa x ≠ 0 := by unfold zCa; split <;> decide
theorem zD5 (x : Nd) (dv : Value) (w : World) (hok : ¬ x.ok) (h : RdB w dv x.data) :
  Calls Tryz.prog 74 #[ndV x dv] w fun e w' => e = .returned (.tuple #[.slice none 0 0, .int .i64 (zCa x)]) ∧ Below w.heap.size w w' := by
 obtain ⟨a, cap, rfl, h1, h2⟩ := h.shape0;have HV := zh (fun W => vu x a cap W);rw [show decide x.ok = false from decide_eq_false hok] at HV;have HB0 := zh (show Below w.heap.size w (w.alloc (.cells #[.int .u64 (x.key : Int), .int .u32 (x.ck : Int), .bool x.del, .slice a x.data.length cap] 56)) from (Below.refl _ _).alloc (Nat.le_refl _) _);have hE : zCa x = if 4096 < x.data.length then 8 else 1 := rfl
 generalize zCa x = er at *;clear h hok;obtain ⟨k, c, d, l⟩ := x;dsimp only at *;generalize hn : l.length = n at *;clear hn
 by_cases hl : 4096 < n
 ·
  rw [if_pos hl] at hE;subst hE;have d1 : decide ((4096 : Int) < (n : Int)) = true := by simp; omega
  go_enter Tryz.func74, Tryz.ntmps74
  go_wp2_with fail;go_ret2;exact ⟨rfl, HB0.out⟩
 rw [if_neg hl] at hE;subst hE;have d1 : decide ((4096 : Int) < (n : Int)) = false := by simp; omega
 go_enter Tryz.func74, Tryz.ntmps74
 go_wp2_with fail;refine (HV.out _).mono ?_; rintro e w1 ⟨rfl, hb1⟩;have HB1 := zh (zA HB0.out hb1);clear hb1 HV HB0;go_wp2_with fail;go_ret2;exact ⟨rfl, HB1.out⟩
def wF : List Nd → Int × List UInt8
 | [] => (0, [])
 | x :: r => if x.ok then (if (wF r).1 = 0 then (0, zBT x ++ (wF r).2) else ((wF r).1, [])) else (zCa x, [])
theorem kM : ∀ {l : List Nd}, (∀ x ∈ l, x.ok) → wF l = (0, wN l)
 | [], _ => rfl
 | x :: r, h => by
  have ih := kM (l := r) fun y hy => h y (by simp [hy])
  unfold wF;rw [if_pos (h x (by simp)), ih, if_pos rfl]
  rfl
theorem zBC : ∀ {l : List Nd} {k : Nat}, k < l.length → (∀ x ∈ l.take k, x.ok) → ¬ (l.getD k nd0).ok → wF l = (zCa (l.getD k nd0), [])
 | [], k, h, _, _ => by cases h
 | x :: r, 0, _, _, h => by
  have h : ¬ x.ok := h;unfold wF;rw [if_neg h]; rfl
 | x :: r, k + 1, hk, ha, h => by
  have h : ¬ (r.getD k nd0).ok := h;have ih := zBC (l := r) (k := k) (by simpa using hk) (fun y hy => ha y (by simp [hy])) h;unfold wF;rw [if_pos (ha x (by simp)), ih, if_neg (zFR _)]
  rfl
theorem zGw (es : List (Nd × Value)) (k : Nat) : (es.map (·.1)).getD k nd0 = (yZ es k).1 := by
 unfold yZ;rw [List.getD_eq_getElem?_getD, List.getD_eq_getElem?_getD, List.getElem?_map]
 cases es[k]? <;> rfl
theorem zDN (k : List Nd) (x : Nd) : wN (k ++ [x]) = wN k ++ zBT x := by simp [wN]
theorem zGl {l : List Nd} (h : ∀ x ∈ l, x.ok) : (wN l).length ≤ 4128 * l.length := by
 rw [uK]
 induction l with
 | nil => exact Nat.zero_le _
 | cons x r ih =>
  have h1 := ih fun y hy => h y (by simp [hy])
  have h2 := (h x (by simp)).1;have h3 := xT x.data.length;rw [kO, List.length_cons]; omega
theorem zAe {es : List (Nd × Value)} {i : Nat} (h : i < es.length) : (es.map (·.1)).take (i + 1) = (es.map (·.1)).take i ++ [(yZ es i).1] := by
 unfold yZ;rw [List.take_add_one, List.getElem?_map, List.getElem?_eq_getElem h, List.getD_eq_getElem?_getD, List.getElem?_eq_getElem h]; rfl
abbrev zKg (rot : Bool) (tk : Int) (kv nv rv : Value) : Value := .agg #[.bool rot, .int .i64 tk, kv, nv, rv]
abbrev wX (rot : Bool) (tk : Int) (kv nv rv : Value) : Array Value := #[.bool rot, .int .i64 tk, kv, nv, rv]
theorem zEo (rot : Bool) (tk : Int) (kv nv rv : Value) (es : List (Nd × Value)) (w : World) (hkv : ∃ a n c, kv = .slice a n c) (hrv : ∃ a n c, rv = .slice a n c) (h : RdN w nv es) (hwf : ∀ p ∈ es, p.1.Wf) (hs : es.length ≤ 200) :
  Calls Tryz.prog 34 #[zKg rot tk kv nv rv] w fun e w' => (∃ bv, e = .returned (.tuple #[bv, .int .i64 (wF (es.map (·.1))).1]) ∧ OwnB w' w.heap.size bv (wF (es.map (·.1))).2) ∧ Below w.heap.size w w' := by
 obtain ⟨ka, kn, kc, rfl⟩ := hkv;obtain ⟨ra, rn, rc, rfl⟩ := hrv;obtain ⟨a, cap, rfl, h1, h2⟩ := h.shape;have HB0 := zh (show Below w.heap.size w (w.alloc (.cells (wX rot tk (.slice ka kn kc) (.slice a es.length cap) (.slice ra rn rc)) 71)) from (Below.refl _ _).alloc (Nat.le_refl _) _);have Hw0 := zh h;have HK := zh hwf;have HM := zh (show ∀ j, j < es.length → yZ es j ∈ es from fun j => vH);have HS := zh (show ∀ j, j < es.length → wN ((es.map (·.1)).take (j + 1)) = wN ((es.map (·.1)).take j) ++ zBT (yZ es j).1 from fun j hj => by rw [zAe hj, zDN])
 have HOk := zh (show ∀ j, j < es.length → (∀ x ∈ (es.map (·.1)).take j, x.ok) → (yZ es j).1.ok → ∀ x ∈ (es.map (·.1)).take (j + 1), x.ok from fun j hj h1 h2 x hx => by
  rw [zAe hj] at hx
  rcases List.mem_append.1 hx with hx | hx
  ·
   exact h1 x hx
  obtain rfl := List.mem_singleton.1 hx; exact h2)
 have HBad := zh (show ∀ j, j < es.length → (∀ x ∈ (es.map (·.1)).take j, x.ok) → ¬ (yZ es j).1.ok → wF (es.map (·.1)) = (zCa (yZ es j).1, []) from fun j hj h1 h2 => by
  rw [← zGw] at h2 ⊢
  exact zBC (by rw [List.length_map]; exact hj) h1 h2)
 have HEnd := zh (show (∀ x ∈ (es.map (·.1)).take es.length, x.ok) → wF (es.map (·.1)) = (0, wN ((es.map (·.1)).take es.length)) from fun h => by
  rw [List.take_of_length_le (by rw [List.length_map]; exact Nat.le_refl _)] at h ⊢
  exact kM h)
 have HLe := zh (show ∀ j, j ≤ es.length → (∀ x ∈ (es.map (·.1)).take j, x.ok) → (wN ((es.map (·.1)).take j)).length ≤ 4128 * j from fun j hj h => by
  have := zGl h
  rw [List.length_take, List.length_map, Nat.min_eq_left hj] at this
  exact this)
 clear h hwf;generalize hn : es.length = n at *;clear hn;generalize es.map (·.1) = K at *;generalize wF K = R at *
 go_enter Tryz.func34, Tryz.ntmps34
 go_wp2_with fail
 go_loopw [4, 12] (fun ov iv W => ∃ (k m : Nat), iv = .int .i64 (k : Int) ∧ k ≤ n ∧ m ≤ 1000000 ∧ Hid (m = (wN (K.take k)).length) ∧ Hid (∀ x ∈ K.take k, x.ok) ∧ Hid (W.ownsRow w.heap.size 5 1 ov m ((wN (K.take k)).map xh)) ∧ Hid (Below w.heap.size w W)) (fun _ iv _ => n - (intOf iv).toNat)
 case atStart => exact ⟨0, 0, rfl, Nat.zero_le _, Nat.zero_le _, zh rfl, zh (fun x hx => by cases hx), zh (World.ownsRow_nil _ _ _ _), HB0⟩
 clear HB0;obtain ⟨k, m, rfl, hk, hm, HmE, HOk1, HOb, HB⟩ := hrel;have hsz := HB.out.size
 by_cases hlt : k < n
 ·
  have i1 : (k : Int) < (n : Int) := by omega
  have hr := Hw0.out.below HB.out;obtain ⟨pb, poff, rfl, hx, c0, c1, c2, c3⟩ := hr.at hlt;have hkw := HK.out _ (HM.out k hlt);have HS1 := zh (HS.out k hlt);have HO1 := zh (HOk.out k hlt HOk1.out);have HB1 := zh (HBad.out k hlt HOk1.out);clear hr;generalize yZ es k = X at *;obtain ⟨x, dv⟩ := X;dsimp only at *;obtain ⟨da, dc, rfl, _, _⟩ := hx.shape0
  by_cases hok : x.ok
  ·
   have HEn := zh (fun W (hb : Below wr.heap.size wr W) => zFB x (.slice da x.data.length dc) W hok hkw (RdL.below hx hb));have HNl := zh (ki x);have hNb := xT x.data.length;have hx1 := hok.1;have HO2 := zh (HO1.out hok);have HLe2 := zh (HLe.out (k + 1) hlt HO2.out);clear HO1 HB1 hx hkw hok;go_upto_region 5 with fail;clear c0 c1 c2 c3;have hbq := ut wr x (.slice da x.data.length dc);have HX := zh (BoxD.new wr x (.slice da x.data.length dc));have HB2 := zh (zA HB.out hbq);have HOb2 := zh (zH HOb.out hbq);have HEn2 := zh (HEn.out _ hbq);clear hbq HEn HB HOb;change Code.wp _ _ _ _ (wr.alloc (.cells (ndC x (.slice da x.data.length dc)) 56));generalize wr.alloc (.cells (ndC x (.slice da x.data.length dc)) 56) = w2 at *;generalize wr.heap.size = bN at *;generalize hdn : x.data.length = dn at *;clear hdn;generalize nsz dn = s at *;obtain ⟨c0, c1, c2, c3⟩ := HX.out.q;go_wp2_with fail
   refine HEn2.out.mono ?_;rintro e w3 ⟨v3, rfl, hown3, hb3⟩;clear c0 c1 c2 c3;have HOb3 := zh (zH HOb2.out hb3);have HB3 := zh (zA HB2.out hb3);have hs3 := HB3.out.size;have HR3 := zh (show Rd w3 1 v3 s ((zBT x).map xh) from by have := hown3.rd; unfold RdB RdL at this; rw [HNl.out] at this; exact this);obtain ⟨oa, oc, rfl, _⟩ := zJ hown3;clear hown3 hb3 HOb2 HB2 HEn2 HX;obtain ⟨ob, obc, rfl, _⟩ := zJ HOb3.out;go_wp2_with (at_builtin; go_must (refine za (n := m) (m := s) rfl (.tmp 24) (.tmp 25) 54 rfl ku w.heap.size rfl HOb3.out rfl HR3.out (vE _) (by unfold maxLen; omega) (by omega) hs3 ?_); intro v4 w4 hown4 hgr4 hv4; clear hv4);have HB4 := zh (zK HB3.out HOb3.out hs3 hgr4);have HO4 := zh (show w4.ownsRow w.heap.size 5 1 v4 (m + s) ((wN (K.take (k + 1))).map xh) from by rw [HS1.out, List.map_append]; exact hown4)
   have HSz := zh (show m + s = (wN (K.take (k + 1))).length by rw [HS1.out, List.length_append, HNl.out, ← HmE.out]);have hm4 : m + s ≤ 1000000 := by have h5 := HLe2.out; rw [← HSz.out] at h5; omega
   clear hown4 hgr4;go_wp2_with fail;exact ⟨⟨k + 1, m + s, by go_num, by omega, hm4, HSz, HO2, HO4, HB4⟩, by simp [intOf]; omega⟩
  have HEn := zh (fun W (hb : Below wr.heap.size wr W) => zD5 x (.slice da x.data.length dc) W hok (RdL.below hx hb));have hR := HB1.out hok;have hne := zFR x;clear HO1 HB1 hx hkw hok HOb;subst hR;go_upto_region 5 with fail;clear c0 c1 c2 c3;have hbq := ut wr x (.slice da x.data.length dc);have HX := zh (BoxD.new wr x (.slice da x.data.length dc));have HB2 := zh (zA HB.out hbq);have HEn2 := zh (HEn.out _ hbq);clear hbq HEn HB;change Code.wp _ _ _ _ (wr.alloc (.cells (ndC x (.slice da x.data.length dc)) 56));generalize wr.alloc (.cells (ndC x (.slice da x.data.length dc)) 56) = w2 at *;generalize wr.heap.size = bN at *;generalize hdn : x.data.length = dn at *;clear hdn;obtain ⟨c0, c1, c2, c3⟩ := HX.out.q;have hz : (zCa x == 0) = false := beq_eq_false_iff_ne.2 hne;go_wp2_with fail;refine HEn2.out.mono ?_;rintro e w3 ⟨rfl, hb3⟩;have HB3 := zh (zA HB2.out hb3);clear c0 c1 c2 c3 hb3 HEn2 HX
  go_wp2_with fail;go_ret2;exact ⟨⟨.slice none 0 0, rfl, World.ownsRow_nil _ _ _ _⟩, HB3.out⟩
 obtain rfl : k = n := by omega
 have hR := HEnd.out HOk1.out;subst hR;go_wp2_with fail;go_ret2;exact ⟨⟨_, rfl, td HOb.out rfl⟩, HB.out⟩
end Go.Proofs.YtcgfilmmokmdjaaGreat
namespace Go.Proofs.YtcgfilmmokmdjaaGreat
def wS : Slt := ⟨0, 0, false, []⟩
def zY (s : Slt) : Gn := gat s.gens (s.gens.length - 1)
noncomputable def tB (s : Slt) : Int × Gn := if zg s = true then (0, zY s) else (1, gn0)
noncomputable def wZ (s : Slt) : Bool := zg s && decide ((zY s).num < 8)
noncomputable def wH (s : Slt) (n : Int) : Bool := zg s && (decide (0 ≤ n) && decide (n ≤ 4096)) && decide ((zY s).size + (szN n.toNat : Nat) ≤ s.lim)
def qW (l : List Gn) (key : Int) : Nat → List Int
 | 0 => []
 | n + 1 => qW l key n ++ (match zW (gat l n).m key with | some _ => [(gat l n).num] | none => [])
noncomputable def zj (s : Slt) (key : Int) : List Int := if zg s = true then qW s.gens key (s.gens.length - 1) else []
theorem zA0 (l : List Gn) (key : Int) : ∀ n m, m ≤ n → ((xb l key n).reverse.filter fun x => decide (x.at_ < m)).map (·.gen) = qW l key m
 | 0, m, h => by
  obtain rfl : m = 0 := by omega
  rfl
 | n + 1, m, h => by
  unfold xb;rw [List.reverse_append, List.filter_append, List.map_append]
  by_cases hm : m ≤ n
  ·
   rw [zA0 l key n m hm]
   cases hg : zW (gat l n).m key with
   | none => simp
   | some x => simp [show ¬ n < m by omega]
  obtain rfl : m = n + 1 := by omega
  have hr := zA0 l key n n (Nat.le_refl _);have hall : ∀ k, ∀ x ∈ xb l key k, x.at_ < k := by
   intro k
   induction k with
   | zero => intro x hx; cases hx
   | succ k ih =>
    intro x hx;unfold xb at hx;rcases List.mem_append.1 hx with hx | hx
    ·
     cases hg : zW (gat l k).m key with
     | none => rw [hg] at hx; cases hx
     | some y => rw [hg] at hx; obtain rfl := List.mem_singleton.1 hx; exact Nat.lt_succ_self k
    exact Nat.lt_succ_of_lt (ih x hx)
  have e1 : ((xb l key n).reverse.filter fun x => decide (x.at_ < n + 1)) = (xb l key n).reverse.filter fun x => decide (x.at_ < n) := by
   refine List.filter_congr fun x hx => ?_
   have := hall n x (List.mem_reverse.1 hx);simp [this, Nat.lt_succ_of_lt this]
  rw [e1, hr]
  show _ = qW l key n ++ _
  cases hg : zW (gat l n).m key with
  | none => simp
  | some x => simp
noncomputable def zLz (i l : Int) : Slt × Int := if zg ⟨i, l, false, [fresh 1]⟩ = true then (⟨i, l, false, [fresh 1]⟩, 0) else (wS, 1)
noncomputable def wm (s : Slt) : Slt × Int :=
 if zg s = true then (if (zY s).num < 8 then (⟨s.id, s.lim, s.ro, s.gens.take (s.gens.length - 1) ++ [{ zY s with mode := 2 }, fresh ((zY s).num + 1)]⟩, 0) else (wS, 9)) else (wS, 1)
def uj (l : List Gn) (g : Gn) : List Gn := l.map fun x => if x.num = g.num then g else x
noncomputable def yb (s : Slt) (g : Gn) : Slt × Int :=
 if zg s = true then (if (s.gens.any fun x => decide (x.num = g.num)) = true then (if zg ⟨s.id, s.lim, s.ro, uj s.gens g⟩ = true then (⟨s.id, s.lim, s.ro, uj s.gens g⟩, 0) else (wS, 1)) else (wS, 6)) else (wS, 1)
theorem zBP {l : List Gn} {k i : Nat} (h : i < k) (hk : k ≤ l.length) (r : List Gn) : gat (l.take k ++ r) i = gat l i := by
 unfold gat;rw [List.getD_eq_getElem?_getD, List.getD_eq_getElem?_getD, List.getElem?_append_left (by rw [List.length_take]; omega), List.getElem?_take_of_lt h]
theorem zAF {l : List Gn} {k : Nat} (hk : k ≤ l.length) (r : List Gn) (q : Nat) : gat (l.take k ++ r) (k + q) = gat r q := by
 unfold gat;rw [List.getD_eq_getElem?_getD, List.getD_eq_getElem?_getD, List.getElem?_append_right (by rw [List.length_take]; omega), List.length_take]
 congr 2
 omega
theorem kg (n : Int) : zG (fresh n).m = [] := by
 unfold zG;rw [if_pos (kH n)]
 rfl
theorem VldSl.num {s : Slt} (h : VldSl s) : ∀ i, i < s.gens.length → (i : Int) + 1 ≤ (gat s.gens i).num
 | 0, hi => by have := (h.vg hi).num; omega
 | i + 1, hi => by
  have h1 := VldSl.num h i (by omega);have h2 := (h.g (i + 1) hi).2.1 (by omega);rw [show i + 1 - 1 = i by omega] at h2;omega
theorem VldSl.topv {s : Slt} (h : VldSl s) : VldG (zY s) ∧ (zY s).mode = 1 ∧ (zY s).size ≤ 2 * s.lim := by
 have hl := h.len;have hi : s.gens.length - 1 < s.gens.length := by omega
 obtain ⟨h1, h2, h3, h4⟩ := h.g _ hi;exact ⟨(yD _).1 h1, h3.2 (by omega), h4⟩
theorem zJK {s : Slt} (h : (wm s).2 = 0) : VldSl (wm s).1 := by
 unfold wm at h ⊢
 by_cases hv : zg s = true
 ·
  rw [if_pos hv] at h ⊢
  by_cases hn : (zY s).num < 8
  ·
   rw [if_pos hn] at h ⊢;have hV := (zT s).1 hv;obtain ⟨ht, hm, hs⟩ := hV.topv;have hl := hV.len;have hnum := hV.num (s.gens.length - 1) (by omega);have hnum : ((s.gens.length - 1 : Nat) : Int) + 1 ≤ (zY s).num := hnum;have hk : s.gens.length - 1 ≤ s.gens.length := by omega
   have hlen : (s.gens.take (s.gens.length - 1) ++ [{ zY s with mode := 2 }, fresh ((zY s).num + 1)]).length = s.gens.length + 1 := by
    simp only [List.length_append, List.length_take, List.length_cons, List.length_nil]; omega
   have hf := (kG ((zY s).num + 1)).2 (by omega);refine ⟨hV.id, hV.lim, by dsimp only; rw [hlen]; omega, fun i hi => ?_, ?_⟩
   ·
    dsimp only at hi ⊢;rw [hlen] at hi;unfold okG;dsimp only;rw [hlen]
    by_cases h1 : i < s.gens.length - 1
    ·
     have ho := hV.g i (by omega);rw [zBP h1 hk, zBP (show i - 1 < s.gens.length - 1 by omega) hk];refine ⟨ho.1, ho.2.1, ⟨fun e => ?_, fun e => by omega⟩, ho.2.2.2⟩;have := ho.2.2.1.1 e;omega
    by_cases h2 : i = s.gens.length - 1
    ·
     have e0 : gat (s.gens.take (s.gens.length - 1) ++ [{ zY s with mode := 2 }, fresh ((zY s).num + 1)]) i = { zY s with mode := 2 } := by
      have := zAF hk [{ zY s with mode := 2 }, fresh ((zY s).num + 1)] 0;rw [Nat.add_zero] at this;rw [h2, this]; rfl
     rw [e0];refine ⟨(yD _).2 ⟨ht.num, ht.rev, by dsimp only; omega, ht.size, ht.m, ht.ends, ht.sum⟩, fun h0 => ?_, ⟨fun e => by dsimp only at e; omega, fun e => by omega⟩, hs⟩;rw [zBP (show i - 1 < s.gens.length - 1 by omega) hk];have := (hV.g i (by omega)).2.1 h0;rw [h2] at this ⊢;exact this
    have h3 : i = s.gens.length - 1 + 1 := by omega
    have e0 : gat (s.gens.take (s.gens.length - 1) ++ [{ zY s with mode := 2 }, fresh ((zY s).num + 1)]) i = fresh ((zY s).num + 1) := by
     rw [h3, zAF hk _ 1]; rfl
    have e1 : gat (s.gens.take (s.gens.length - 1) ++ [{ zY s with mode := 2 }, fresh ((zY s).num + 1)]) (i - 1) = { zY s with mode := 2 } := by
     have := zAF hk [{ zY s with mode := 2 }, fresh ((zY s).num + 1)] 0;rw [Nat.add_zero] at this;rw [show i - 1 = s.gens.length - 1 by omega, this]; rfl
    rw [e0, e1];refine ⟨(yD _).2 hf, fun _ => by show (zY s).num < (zY s).num + 1; omega, ⟨fun _ => by omega, fun _ => rfl⟩, ?_⟩
    show (16 : Int) ≤ 2 * s.lim
    have := hV.lim;omega
   dsimp only;rw [hlen];have e0 : gat (s.gens.take (s.gens.length - 1) ++ [{ zY s with mode := 2 }, fresh ((zY s).num + 1)]) (s.gens.length + 1 - 1) = fresh ((zY s).num + 1) := by
    rw [show s.gens.length + 1 - 1 = s.gens.length - 1 + 1 by omega, zAF hk _ 1]; rfl
   rw [e0, kg]
   show (16 : Int) + ((0 * 24 : Nat) : Int) ≤ 2 * s.lim
   have := hV.lim;omega
  rw [if_neg hn] at h; cases h
 rw [if_neg hv] at h; cases h
theorem zIh {s : Slt} {g : Gn} (h : (yb s g).2 = 0) : VldSl (yb s g).1 := by
 unfold yb at h ⊢
 by_cases hv : zg s = true
 ·
  rw [if_pos hv] at h ⊢
  by_cases hn : (s.gens.any fun x => decide (x.num = g.num)) = true
  ·
   rw [if_pos hn] at h ⊢
   by_cases hw : zg ⟨s.id, s.lim, s.ro, uj s.gens g⟩ = true
   ·
    rw [if_pos hw]; exact (zT _).1 hw
   rw [if_neg hw] at h; cases h
  rw [if_neg hn] at h; cases h
 rw [if_neg hv] at h; cases h
theorem xJ {M : Mp} (_ : VldM M) {y : It} : y ∈ zG M ↔ zW M y.key = some y := by
  have ha := yO M;rw [← vI, yH ha];refine ⟨fun hy => zHY ha hy, fun hf => List.mem_of_find?_eq_some hf⟩
theorem zBt {R : It → It → Prop} (hs : ∀ a b, R a b → R b a) : ∀ {l : List It}, l.Pairwise R → ∀ x ∈ l, ∀ y ∈ l, x ≠ y → R x y
  | [], _, x, hx, _, _, _ => by cases hx
  | a :: l, h, x, hx, y, hy, hne => by
    rw [List.pairwise_cons] at h;rcases List.mem_cons.1 hx with e1 | hx
    · rcases List.mem_cons.1 hy with e2 | hy
      · exact absurd (e1.trans e2.symm) hne
      rw [e1]; exact h.1 y hy
    rcases List.mem_cons.1 hy with e2 | hy
    · rw [e2]; exact hs _ _ (h.1 x hx)
    exact zBt hs h.2 x hx y hy hne
theorem tY {l : List It} (h : Asc l) (size : Int) : qd l size ↔ (∀ x ∈ l, ∀ y ∈ l, x.key ≠ y.key → zBY x y) ∧ ∀ x ∈ l, vP x ≤ size := by
  unfold qd;have hp := tw h;refine ⟨fun ⟨h1, h2⟩ => ⟨fun x hx y hy hne => ?_, h2⟩, fun ⟨h1, h2⟩ => ⟨?_, h2⟩⟩
  · exact zBt (fun _ _ h => zBh h) h1 x hx y hy (fun e => hne (by rw [e]))
  refine List.Pairwise.imp_of_mem ?_ hp;intro a b ha hb hlt;exact h1 a ha b hb (by omega)
theorem zLq (n : Nat) : nsz n % 8 = 0 := by unfold nsz; omega
theorem zLw (n : Nat) : szN n % 8 = 0 := by
  unfold szN
  split
  · exact zLq n
  rfl
theorem VldG.small {g : Gn} (h : VldG g) : 0 ≤ g.m.live ∧ 0 ≤ g.m.garb ∧ g.m.live ≤ 1048576 ∧ g.m.garb ≤ 1048576 := by
  have h1 := (zM _).1 h.m;have h2 := h1.live0;have h3 := h1.g0;have h4 := h.sum;have h5 := h.size;omega
theorem zCB {M M' : Mp} (hm : VldM M) (hm' : VldM M') {z z' : Int} (h : vM (zG M) z = true) (hz : z ≤ z') (hg : ∀ k y, zW M' k = some y → zW M k = some y) : vM (zG M') z' = true := by
  have h1 := (tY (yO M) z).1 (of_decide_eq_true h);refine decide_eq_true ((tY (yO M') z').2 ⟨fun x hx y hy hne => ?_, fun x hx => ?_⟩)
  · exact h1.1 x ((xJ hm).2 (hg _ _ ((xJ hm').1 hx))) y ((xJ hm).2 (hg _ _ ((xJ hm').1 hy))) hne
  have := h1.2 x ((xJ hm).2 (hg _ _ ((xJ hm').1 hx)));omega
theorem zIY {M : Mp} (hm : VldM M) {x : It} (hx : okB x = true) (hgb : M.garb + (szO (zW M x.key) : Int) ≤ 1099511627776) (h : vM (zG M) x.off = true) : vM (zG (wB M x)) (vP x) = true := by
  have h1 := (tY (yO M) x.off).1 (of_decide_eq_true h);have hm' := hm.ins hx hgb;have hlt := tO (of_decide_eq_true hx);have hmem : ∀ y, y ∈ zG (wB M x) → y = x ∨ y ∈ zG M := fun y hy => by
    have := (xJ hm').1 hy;rw [zD4 hm hx hgb] at this
    by_cases e : x.key = y.key
    · rw [if_pos e] at this
      injection this with e2;exact .inl e2.symm
    rw [if_neg e] at this;exact .inr ((xJ hm).2 this)
  refine decide_eq_true ((tY (yO _) _).2 ⟨fun y hy z hz hne => ?_, fun y hy => ?_⟩)
  · rcases hmem y hy with rfl | hy'
    · rcases hmem z hz with rfl | hz'
      · exact absurd rfl hne
      exact .inr (h1.2 z hz')
    rcases hmem z hz with rfl | hz'
    · exact .inl (h1.2 y hy')
    exact h1.1 y hy' z hz' hne
  rcases hmem y hy with rfl | hy'
  · exact Int.le_refl _
  have := h1.2 y hy';omega
theorem zIZ {g : Gn} (hg : VldG g) {x : Nd} (hx : x.ok) : okB (itA g x) = true := by
  have h1 := hg.size;have h2 : x.data.length ≤ 4096 := hx.1;refine decide_eq_true ⟨?_, ?_, ?_, ?_, ?_⟩
  · exact h1.1
  · exact h1.2.1
  · exact h1.2.2
  · show (0 : Int) ≤ (x.data.length : Int); omega
  show (x.data.length : Int) ≤ 4096; omega
theorem zEZ {g : Gn} (hg : VldG g) {x : Nd} (hx : x.ok) (hz : g.size + (szN x.data.length : Int) ≤ 1048576) : VldG (yM g x) := by
  have hm := (zM _).1 hg.m;have hs := hg.small;have h8 := zLw x.data.length;have hsz := hg.size;have hsum := hg.sum;have hxl := xg x.data.length;refine ⟨hg.num, hg.rev, hg.mode, ⟨?_, hz, ?_⟩, ?_, ?_, ?_⟩
  · show 16 ≤ g.size + (szN x.data.length : Int); omega
  · show (g.size + (szN x.data.length : Int)) % 8 = 0; omega
  all_goals
    unfold yM;dsimp only
    split
    next hd =>
      have h1 : g.m.garb + (szO (zW g.m x.key) : Int) ≤ 1099511627776 := by have := zC5 (zW g.m x.key); omega
      have hd1 := hm.del h1;have hds := qQ hm h1;have hdl := hd1.live0;have h2 : (yF g.m x.key).garb + (szN x.data.length : Int) ≤ 1099511627776 := by omega
      have hw := hd1.waste (n := (szN x.data.length : Int)) (by omega) h2
      first
        | exact (zM _).2 hw
        | (refine zCB hm hw hg.ends (by omega) ?_
           intro k y hy
           rw [xP hw, vw, ← xP hd1, qj hm h1] at hy
           split at hy
           · cases hy
           exact hy)
        | (rw [zBp hd1 (by omega) h2]
           dsimp only
           omega)
    next hd =>
      have hok := zIZ hg hx;have h1 : g.m.garb + (szO (zW g.m (itA g x).key) : Int) ≤ 1099511627776 := by have := zC5 (zW g.m (itA g x).key); omega
      have hi := hm.ins hok h1;have his := zIT hm hok h1;have he : xA (itA g x) = szN x.data.length := by unfold xA itA; dsimp only; rw [Int.toNat_natCast]
      first
        | exact (zM _).2 hi
        | (have h3 := zIY hm hok h1 hg.ends
           have h4 : vP (itA g x) = g.size + (szN x.data.length : Int) := by unfold vP itA; dsimp only; rw [Int.toNat_natCast]
           rwa [h4] at h3)
        | (rw [he] at his
           omega)
theorem zJ1 {g : Gn} (h : VldG g) (hm : g.mode = 1) {l : List Nd} (hok : ∀ x ∈ l, x.ok) (hz : g.size + (szL l : Int) ≤ 1048576) : xM g l = (0, zV g l) := by
  unfold xM;rw [if_pos ⟨(yD g).2 h, (un l).2 hok⟩, if_pos hm, if_pos hz]
/-! ### The laws' needles and generations -/
end Go.Proofs.YtcgfilmmokmdjaaGreat
namespace Go.Proofs.YtcgfilmmokmdjaaGreat
open Go.RowKit
/-! ### Same -/
theorem zDh (n : Int) : bits .and .i64 n 7 = n % 8 := by
 have hm : (BitVec.ofInt 64 7).toNat = 2 ^ 3 - 1 := by decide
 have key : (BitVec.ofInt 64 n &&& BitVec.ofInt 64 7).toNat = (n % ((2 ^ 64 : Nat) : Int)).toNat % 2 ^ 3 := by
  rw [BitVec.toNat_and, BitVec.toNat_ofInt, hm, Nat.and_two_pow_sub_one_eq_mod]
 show IntKind.i64.wrap ((BitVec.ofInt 64 n &&& BitVec.ofInt 64 7).toNat : Nat) = n % 8
 rw [key, IntKind.wrap_i64];omega
theorem Rd.newK' (k : Nat) (w : World) (hk : w.heap.size = k) (sz : Nat) (cs : List Value) (e : TypeId) (n : Nat) (hn : cs.length = n * sz) (hm : n ≤ maxLen) : Rd (w.alloc (.cells cs.toArray e)) sz (.slice (some ⟨k, 0, none⟩) n n) n cs := by
 subst hk; exact Rd.new w sz cs e n hn hm
theorem zA5 (n : Int) (hn : 1 ≤ n ∧ n ≤ 8) (w : World) : Calls Tryz.prog 78 #[.int .i64 n] w fun e w' => e = .returned (.tuple #[ze n 0 1 16 Sl.nil 0 0, .int .i64 0]) ∧ Below w.heap.size w w' := by
 have HR := zh (BoxG.new w 0 0 0 0 Sl.nil 0 0 113);have HB := zh (zZ w 0 0 0 0 Sl.nil 0 0 113);have e1 : decide (n < 1) = false := decide_eq_false (by omega);have e2 : decide (8 < n) = false := decide_eq_false (by omega);clear hn
 go_enter Tryz.func78, Tryz.ntmps78
 go_upto_region 1 with fail;obtain ⟨W, hW⟩ : ∃ W, w.alloc (.cells (zX 0 0 0 0 Sl.nil 0 0) 113) = W := ⟨_, rfl⟩
 change Code.wp _ _ _ _ (w.alloc (.cells (zX 0 0 0 0 Sl.nil 0 0) 113));rw [hW] at HR HB ⊢;clear hW;obtain ⟨r0, r1, r2, r3, r4, r5, r6, r7, r8, r9, r10, r11, r12, r13⟩ := HR.out.q;have rf := HR.out.f;go_wp2_with fail;change bodyPost _ _ _ _ _ (pts W w.heap.size (zO n 0 1 16 Sl.nil 0 0));have hby := HR.out.all n 0 1 16 Sl.nil 0 0;have HBz := zh (zD (B := w.heap.size) (b := w.heap.size) (by omega) (zO n 0 1 16 Sl.nil 0 0) HB.out);generalize pts W w.heap.size (zO n 0 1 16 Sl.nil 0 0) = V at *;exact bodyPost_ret (v := .tuple #[ze n 0 1 16 Sl.nil 0 0, .int .i64 0]) (by simp [results, Tryz.results78, go_sem, hby.n0, hby.n1, hby.n2, hby.n3, hby.c0, hby.c1, hby.c2, hby.c3, hby.c4, hby.c5, hby.c6, hby.c7, hby.cl, hby.cg]) rfl ⟨rfl, HBz.out⟩
def zKk (x : Nd) : Nd := ⟨x.key % 8, x.ck, x.del, if x.del then [] else x.data.take 30⟩
def zGG (l : List Nd) : List Nd := (l.take 6).map zKk
theorem zI4 (x : Nd) : (zKk x).data.length ≤ 30 := by
 unfold zKk;dsimp only
 split
 ·
  simp
 rw [List.length_take]; omega
theorem zDa (l : List Nd) : (zGG l).length ≤ 6 := by unfold zGG; rw [List.length_map, List.length_take]; omega
theorem zGP (l : List Nd) : ∀ x ∈ zGG l, x.data.length ≤ 30 := fun x hx => by
 obtain ⟨y, _, rfl⟩ := List.mem_map.1 hx;exact zI4 y
end Go.Proofs.YtcgfilmmokmdjaaGreat
namespace Go.Proofs.YtcgfilmmokmdjaaGreat
open Go.RowKit
abbrev GP := Gn × Sl
def gp0 : GP := (gn0, Sl.nil)
instance : Inhabited GP := ⟨gp0⟩
def pat (l : List GP) (i : Nat) : GP := l.getD i gp0
def gpC (x : GP) : List Value := [.int .i64 x.1.num, .int .i64 x.1.rev, .int .i64 x.1.mode, .int .i64 x.1.size, .slice (x.2.a 0) (x.2.n 0) (x.2.c 0), .slice (x.2.a 1) (x.2.n 1) (x.2.c 1), .slice (x.2.a 2) (x.2.n 2) (x.2.c 2), .slice (x.2.a 3) (x.2.n 3) (x.2.c 3), .slice (x.2.a 4) (x.2.n 4) (x.2.c 4), .slice (x.2.a 5) (x.2.n 5) (x.2.c 5), .slice (x.2.a 6) (x.2.n 6) (x.2.c 6), .slice (x.2.a 7) (x.2.n 7) (x.2.c 7), .int .i64 x.1.m.live, .int .i64 x.1.m.garb]
abbrev gpV (x : GP) : Value := ze x.1.num x.1.rev x.1.mode x.1.size x.2 x.1.m.live x.1.m.garb
theorem qR (x : GP) : (gpC x).length = 14 := rfl
def gns (l : List GP) : List Gn := l.map Prod.fst
theorem zz (l : List GP) : (gns l).length = l.length := List.length_map ..
theorem xD {l : List GP} {i : Nat} : gat (gns l) i = (pat l i).1 := by
 unfold gat gns pat;rw [List.getD_eq_getElem?_getD, List.getD_eq_getElem?_getD, List.getElem?_map]
 cases l[i]? <;> rfl
theorem xI {l : List GP} {i : Nat} (h : i < l.length) : pat l i ∈ l := by
 unfold pat;rw [List.getD_eq_getElem?_getD, List.getElem?_eq_getElem h]; exact List.getElem_mem h
structure RdG (w : World) (v : Value) (l : List GP) : Prop where
 r : RdS 14 gpC w v l
 m : ∀ p ∈ l, RdM w p.2 p.1.m.st
theorem RdG.below {w w' : World} {v : Value} {l : List GP} (h : RdG w v l) (hb : Below w.heap.size w w') : RdG w' v l := ⟨RdS.below h.r hb, fun p hp => (h.m p hp).below hb⟩
theorem RdG.shape {w : World} {v : Value} {l : List GP} (h : RdG w v l) : ∃ a cap, v = .slice a l.length cap ∧ l.length ≤ cap ∧ cap ≤ maxLen := by
 obtain ⟨a, cap, h1, h2, h3, _⟩ := RdS.shape h.r (by decide) gp0;exact ⟨a, cap, h1, h2, h3⟩
structure GAt (w : World) (b o : Nat) (x : GP) : Prop where
 n0 : w.cell? ⟨b, o, none⟩ = some (.int .i64 x.1.num)
 n1 : w.cell? ⟨b, o + 1, none⟩ = some (.int .i64 x.1.rev)
 n2 : w.cell? ⟨b, o + 2, none⟩ = some (.int .i64 x.1.mode)
 n3 : w.cell? ⟨b, o + 3, none⟩ = some (.int .i64 x.1.size)
 c0 : w.cell? ⟨b, o + 4, none⟩ = some (.slice (x.2.a 0) (x.2.n 0) (x.2.c 0))
 c1 : w.cell? ⟨b, o + 5, none⟩ = some (.slice (x.2.a 1) (x.2.n 1) (x.2.c 1))
 c2 : w.cell? ⟨b, o + 6, none⟩ = some (.slice (x.2.a 2) (x.2.n 2) (x.2.c 2))
 c3 : w.cell? ⟨b, o + 7, none⟩ = some (.slice (x.2.a 3) (x.2.n 3) (x.2.c 3))
 c4 : w.cell? ⟨b, o + 8, none⟩ = some (.slice (x.2.a 4) (x.2.n 4) (x.2.c 4))
 c5 : w.cell? ⟨b, o + 9, none⟩ = some (.slice (x.2.a 5) (x.2.n 5) (x.2.c 5))
 c6 : w.cell? ⟨b, o + 10, none⟩ = some (.slice (x.2.a 6) (x.2.n 6) (x.2.c 6))
 c7 : w.cell? ⟨b, o + 11, none⟩ = some (.slice (x.2.a 7) (x.2.n 7) (x.2.c 7))
 cl : w.cell? ⟨b, o + 12, none⟩ = some (.int .i64 x.1.m.live)
 cg : w.cell? ⟨b, o + 13, none⟩ = some (.int .i64 x.1.m.garb)
theorem GAt.q {w : World} {b o : Nat} {x : GP} (h : GAt w b o x) : w.cell? ⟨b, o, none⟩ = some (.int .i64 x.1.num) ∧ w.cell? ⟨b, o + 1, none⟩ = some (.int .i64 x.1.rev) ∧ w.cell? ⟨b, o + 2, none⟩ = some (.int .i64 x.1.mode) ∧ w.cell? ⟨b, o + 3, none⟩ = some (.int .i64 x.1.size) ∧ w.cell? ⟨b, o + 4, none⟩ = some (.slice (x.2.a 0) (x.2.n 0) (x.2.c 0)) ∧ w.cell? ⟨b, o + 5, none⟩ = some (.slice (x.2.a 1) (x.2.n 1) (x.2.c 1)) ∧ w.cell? ⟨b, o + 6, none⟩ = some (.slice (x.2.a 2) (x.2.n 2) (x.2.c 2)) ∧ w.cell? ⟨b, o + 7, none⟩ = some (.slice (x.2.a 3) (x.2.n 3) (x.2.c 3)) ∧ w.cell? ⟨b, o + 8, none⟩ = some (.slice (x.2.a 4) (x.2.n 4) (x.2.c 4)) ∧ w.cell? ⟨b, o + 9, none⟩ = some (.slice (x.2.a 5) (x.2.n 5) (x.2.c 5)) ∧ w.cell? ⟨b, o + 10, none⟩ = some (.slice (x.2.a 6) (x.2.n 6) (x.2.c 6)) ∧ w.cell? ⟨b, o + 11, none⟩ = some (.slice (x.2.a 7) (x.2.n 7) (x.2.c 7)) ∧ w.cell? ⟨b, o + 12, none⟩ = some (.int .i64 x.1.m.live) ∧ w.cell? ⟨b, o + 13, none⟩ = some (.int .i64 x.1.m.garb) := ⟨h.n0, h.n1, h.n2, h.n3, h.c0, h.c1, h.c2, h.c3, h.c4, h.c5, h.c6, h.c7, h.cl, h.cg⟩
theorem GAt.below {w w' : World} {b o : Nat} {x : GP} (h : GAt w b o x) (hb : Below w.heap.size w w') : GAt w' b o x :=
 ⟨hb.keeps' h.n0, hb.keeps' h.n1, hb.keeps' h.n2, hb.keeps' h.n3, hb.keeps' h.c0, hb.keeps' h.c1, hb.keeps' h.c2, hb.keeps' h.c3, hb.keeps' h.c4, hb.keeps' h.c5, hb.keeps' h.c6, hb.keeps' h.c7, hb.keeps' h.cl, hb.keeps' h.cg⟩
theorem GAt.of_box {w : World} {b : Nat} {g : Gn} {s : Sl} (h : BoxG w b g.num g.rev g.mode g.size s g.m.live g.m.garb) : GAt w b 0 (g, s) :=
 ⟨h.n0, h.n1, h.n2, h.n3, h.c0, h.c1, h.c2, h.c3, h.c4, h.c5, h.c6, h.c7, h.cl, h.cg⟩
theorem GAt.pts_ne {w : World} {b c o : Nat} {x : GP} (h : GAt w b o x) (hp : b ≠ c) (vs : List (Nat × Value)) : GAt (pts w c vs) b o x :=
 ⟨(zw (p := ⟨b, o, none⟩) hp vs w).trans h.n0, (zw (p := ⟨b, o + 1, none⟩) hp vs w).trans h.n1, (zw (p := ⟨b, o + 2, none⟩) hp vs w).trans h.n2, (zw (p := ⟨b, o + 3, none⟩) hp vs w).trans h.n3, (zw (p := ⟨b, o + 4, none⟩) hp vs w).trans h.c0, (zw (p := ⟨b, o + 5, none⟩) hp vs w).trans h.c1, (zw (p := ⟨b, o + 6, none⟩) hp vs w).trans h.c2, (zw (p := ⟨b, o + 7, none⟩) hp vs w).trans h.c3, (zw (p := ⟨b, o + 8, none⟩) hp vs w).trans h.c4, (zw (p := ⟨b, o + 9, none⟩) hp vs w).trans h.c5, (zw (p := ⟨b, o + 10, none⟩) hp vs w).trans h.c6, (zw (p := ⟨b, o + 11, none⟩) hp vs w).trans h.c7, (zw (p := ⟨b, o + 12, none⟩) hp vs w).trans h.cl, (zw (p := ⟨b, o + 13, none⟩) hp vs w).trans h.cg⟩
theorem RdG.at {w : World} {a : Option Addr} {n cap : Nat} {l : List GP} (h : RdG w (.slice a n cap) l) {j : Nat} (hj : j < n) : ∃ b off, a = some ⟨b, off, none⟩ ∧ GAt w b (off + j * 14) (pat l j) := by
 obtain ⟨a', cap', e, h2, h3, _, h5⟩ := RdS.shape h.r (by decide) gp0;injection e with e1 e2 e3;subst e1 e2 e3;obtain ⟨b, off, e, hc⟩ := h5 (by omega);refine ⟨b, off, e, ?_, hc j hj 1 _ rfl, hc j hj 2 _ rfl, hc j hj 3 _ rfl, hc j hj 4 _ rfl, hc j hj 5 _ rfl, hc j hj 6 _ rfl, hc j hj 7 _ rfl, hc j hj 8 _ rfl, hc j hj 9 _ rfl, hc j hj 10 _ rfl, hc j hj 11 _ rfl, hc j hj 12 _ rfl, hc j hj 13 _ rfl⟩;have := hc j hj 0 _ rfl; rwa [Nat.add_zero] at this
theorem RdG.at2 {w : World} {b off : Nat} {n cap : Nat} {l : List GP} (h : RdG w (.slice (some ⟨b, off, none⟩) n cap) l) {j : Nat} (hj : j < n) : GAt w b (off + j * 14) (pat l j) := by
 obtain ⟨b', o', e, h⟩ := h.at hj;injection e with e;injection e with e1 e2;subst e1 e2;exact h
structure SlP where
 id : Int
 lim : Int
 ro : Bool
 gens : List GP
abbrev zS (i l : Int) (r : Bool) (a : Option Addr) (n c : Nat) : Array Value := #[.int .i64 i, .int .i64 l, .bool r, .slice a n c]
abbrev zhq (i l : Int) (r : Bool) (a : Option Addr) (n c : Nat) : Value := .agg (zS i l r a n c)
structure BoxV (W : World) (b : Nat) (i l : Int) (r : Bool) (a : Option Addr) (n c : Nat) : Prop where
 c0 : W.cell? ⟨b, 0, none⟩ = some (.int .i64 i)
 c1 : W.cell? ⟨b, 1, none⟩ = some (.int .i64 l)
 c2 : W.cell? ⟨b, 2, none⟩ = some (.bool r)
 c3 : W.cell? ⟨b, 3, none⟩ = some (.slice a n c)
 f : ∀ i, W.frozen? ⟨b, i, none⟩ = false
theorem BoxV.q {W : World} {b : Nat} {i l : Int} {r : Bool} {a : Option Addr} {n c : Nat} (h : BoxV W b i l r a n c) : W.cell? ⟨b, 0, none⟩ = some (.int .i64 i) ∧ W.cell? ⟨b, 1, none⟩ = some (.int .i64 l) ∧ W.cell? ⟨b, 2, none⟩ = some (.bool r) ∧ W.cell? ⟨b, 3, none⟩ = some (.slice a n c) := ⟨h.c0, h.c1, h.c2, h.c3⟩
section
variable {W : World} {b : Nat} {i l : Int} {r : Bool} {a : Option Addr} {n c : Nat}
theorem BoxV.new (W : World) (i l : Int) (r : Bool) (a : Option Addr) (n c : Nat) (t : TypeId) : BoxV (W.alloc (.cells (zS i l r a n c) t)) W.heap.size i l r a n c := ⟨by simp, by simp, by simp, by simp, fun i => by simp⟩
theorem zP (w : World) (i l : Int) (r : Bool) (a : Option Addr) (n c : Nat) (t : TypeId) : Below w.heap.size w (w.alloc (.cells (zS i l r a n c) t)) := (Below.refl _ _).alloc (Nat.le_refl _) _
theorem BoxV.lt (h : BoxV W b i l r a n c) : b < W.heap.size := World.block_lt_of_cell? W _ h.c0
theorem BoxV.below {W' : World} (h : BoxV W b i l r a n c) (hb : Below W.heap.size W W') : BoxV W' b i l r a n c := ⟨hb.keeps' h.c0, hb.keeps' h.c1, hb.keeps' h.c2, hb.keeps' h.c3, fun i => (hb.frozen (p := ⟨b, i, none⟩) h.lt).trans (h.f i)⟩
abbrev zU (i l : Int) (r : Bool) (a : Option Addr) (n c : Nat) : List (Nat × Value) := [(0, .int .i64 i), (1, .int .i64 l), (2, .bool r), (3, .slice a n c)]
theorem BoxV.all (h : BoxV W b i l r a n c) (i' l' : Int) (r' : Bool) (a' : Option Addr) (n' c' : Nat) : BoxV (pts W b (zU i' l' r' a' n' c')) b i' l' r' a' n' c' := by
 obtain ⟨a0, a1, a2, a3⟩ := h.q;refine ⟨?_, ?_, ?_, ?_, fun i => (xF _ _ W).trans (h.f i)⟩
 ·
  simp [pts, go_sem, a0]
 ·
  simp [pts, go_sem, a1]
 ·
  simp [pts, go_sem, a2]
 simp [pts, go_sem, a3]
end
end Go.Proofs.YtcgfilmmokmdjaaGreat
namespace Go.Proofs.YtcgfilmmokmdjaaGreat
open Go.RowKit
theorem zAc (w : World) : Calls Tryz.prog 53 #[.int .i64 4096] w fun e w' => e = .returned (.int .i64 4120) ∧ Below w.heap.size w w' :=
 (zAs 4096 w).mono fun _ _ ⟨he, hw⟩ => ⟨he.trans rfl, hw ▸ Below.refl _ _⟩
theorem zLb (w : World) : Calls Tryz.prog 53 #[.int .i64 0] w fun e w' => e = .returned (.int .i64 24) ∧ Below w.heap.size w w' :=
 (zAs 0 w).mono fun _ _ ⟨he, hw⟩ => ⟨he.trans rfl, hw ▸ Below.refl _ _⟩
theorem zEk (i l : Int) (r : Bool) (a : Option Addr) (n c : Nat) (w : World) (hA : ¬ (0 ≤ i ∧ i < 4 ∧ 4136 ≤ l ∧ l ≤ 262144)) :
  Calls Tryz.prog 47 #[zhq i l r a n c] w fun e w' => e = .returned (.bool false) ∧ Below w.heap.size w w' := by
 have HZ := zh (fun W => zAc W);have HBx := zh (BoxV.new w i l r a n c 27);have HB0 := zh (zP w i l r a n c 27);have hc : i < 0 ∨ (0 ≤ i ∧ 4 ≤ i) ∨ (0 ≤ i ∧ i < 4 ∧ l < 4136) ∨ (0 ≤ i ∧ i < 4 ∧ 4136 ≤ l ∧ 262144 < l) := by omega
 clear hA
 go_enter Tryz.func47, Tryz.ntmps47
 go_upto_region 1 with fail;obtain ⟨W, hW⟩ : ∃ W, w.alloc (.cells (zS i l r a n c) 27) = W := ⟨_, rfl⟩
 change Code.wp _ _ _ _ (w.alloc (.cells (zS i l r a n c) 27));rw [hW] at HBx HB0 ⊢;have hlw := HBx.out.lt;have k0 := zC HBx.out.c0;have k1 := zC HBx.out.c1;clear hW;rcases hc with h1 | ⟨h1, h2⟩ | ⟨h1, h2, h3⟩ | ⟨h1, h2, h3, h4⟩
 ·
  have e1 : decide (i < 0) = true := by simp; omega
  refine zB (by kernel_rfl) (by kernel_rfl) ?_
  repeat (go_big_quiet_step ((exact zI (HZ.out _))))
  refine wpQuiet_nil ?_;intro _ hw';obtain ⟨q, hw'⟩ := hw';subst hw';have HQ := zh (zA HB0.out q.h);clear k0 k1;go_wp2_with fail;go_ret;exact ⟨rfl, HQ.out⟩
 ·
  have e1 : decide (i < 0) = false := by simp; omega
  have e2 : decide (4 ≤ i) = true := by simp; omega
  refine zB (by kernel_rfl) (by kernel_rfl) ?_
  repeat (go_big_quiet_step ((exact zI (HZ.out _))))
  refine wpQuiet_nil ?_;intro _ hw';obtain ⟨q, hw'⟩ := hw';subst hw';have HQ := zh (zA HB0.out q.h);clear k0 k1;go_wp2_with fail;go_ret;exact ⟨rfl, HQ.out⟩
 ·
  have e1 : decide (i < 0) = false := by simp; omega
  have e2 : decide (4 ≤ i) = false := by simp; omega
  have e3 : decide (l < 4136) = true := by simp; omega
  refine zB (by kernel_rfl) (by kernel_rfl) ?_
  repeat (go_big_quiet_step ((exact zI (HZ.out _))))
  refine wpQuiet_nil ?_;intro _ hw';obtain ⟨q, hw'⟩ := hw';subst hw';have HQ := zh (zA HB0.out q.h);clear k0 k1;go_wp2_with fail;go_ret;exact ⟨rfl, HQ.out⟩
 have e1 : decide (i < 0) = false := by simp; omega
 have e2 : decide (4 ≤ i) = false := by simp; omega
 have e3 : decide (l < 4136) = false := by simp; omega
 have e4 : decide (262144 < l) = true := by simp; omega
 refine zB (by kernel_rfl) (by kernel_rfl) ?_
 repeat (go_big_quiet_step ((exact zI (HZ.out _))))
 refine wpQuiet_nil ?_;intro _ hw';obtain ⟨q, hw'⟩ := hw';subst hw';have HQ := zh (zA HB0.out q.h);clear k0 k1;go_wp2_with fail;go_ret;exact ⟨rfl, HQ.out⟩
end Go.Proofs.YtcgfilmmokmdjaaGreat
