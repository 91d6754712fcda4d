/- A part of the walk. -/
import Derived.Test.YtcgfilmmokmdjaaGreatVw
import Derived.Test.YtcgfilmmokmdjaaGreatQAJ
import Derived.Laws.Bits64
import Derived.Laws.Bits64b
import Derived.Test.YtcgfilmmokmdjaaGreatQAN
import Derived.RangeFuncBox
import Derived.RangeFuncLeaves
import Derived.Shelf.Abstract
import Derived.OwnWalkIn
import Derived.TacticsInMore
import Derived.LoopNIn
import Derived.LoopIn
import Derived.RangeFuncNested
set_option linter.all false
set_option maxRecDepth 100000
set_option maxHeartbeats 32000000
namespace Go.Proofs.YtcgfilmmokmdjaaGreat
open Go.RowKit
theorem yY (i l : Int) (r : Bool) (a : Option Addr) (n c : Nat) (L : List GP) (w : World) (h : RdG w (.slice a n c) L) (hs : ∀ p ∈ L, ∀ j, j < 8 → (p.1.m.st j).length ≤ 10000) :
  Calls Tryz.prog 47 #[zhq i l r a n c] w fun e w' => e = .returned (.bool (zg ⟨i, l, r, gns L⟩)) ∧ Below w.heap.size w w' := by
 have hLn : L.length = n := by
  obtain ⟨_, _, e, _⟩ := h.shape;injection e with _ e _; exact e.symm
 by_cases hA : 0 ≤ i ∧ i < 4 ∧ 4136 ≤ l ∧ l ≤ 262144
 ·
  by_cases hn : 1 ≤ n ∧ n ≤ 8
  ·
   exact zEw i l r a n c L w hA hn h hs
  have hf : zg ⟨i, l, r, gns L⟩ = false := th fun hv => hn (by have := hv.len; rw [zz, hLn] at this; exact this)
  rw [hf];exact zEy i l r a n c w hA (by omega)
 have hf : zg ⟨i, l, r, gns L⟩ = false := th fun hv => hA ⟨hv.id.1, hv.id.2, hv.lim.1, hv.lim.2⟩
 rw [hf];exact zEk i l r a n c w hA
def xk (key : Int) : Int := bits .xor .u64 (bits .and .u64 key 4294967295) (key / 4294967296)
def kJ : List GP := [(fresh 1, Sl.nil)]
theorem zAP (i l : Int) (r : Bool) (hA : 0 ≤ i ∧ i < 4 ∧ 4136 ≤ l ∧ l ≤ 262144) : zg ⟨i, l, r, gns kJ⟩ = true := by
 rw [zT];have hl : (gns kJ).length = 1 := rfl;have hg : gat (gns kJ) 0 = fresh 1 := rfl;refine ⟨⟨hA.1, hA.2.1⟩, hA.2.2, ⟨Nat.le_refl _, by show (1 : Nat) ≤ 8; decide⟩, fun k hk => ?_, ?_⟩
 ·
  have h0 : k = 0 := by
   have : k < 1 := hk;omega
  subst h0;refine ⟨by show wJ (fresh 1) = true; rw [yD]; exact (kG 1).2 (by decide), fun h => absurd h (by decide), ⟨fun _ => rfl, fun _ => rfl⟩, ?_⟩
  show (16 : Int) ≤ 2 * l
  omega
 show (fresh 1).size + (((zG (fresh 1).m).length * 24 : Nat) : Int) ≤ 2 * l
 have hit : zG (fresh 1).m = [] := by
  unfold zG;rw [if_pos (kH 1)]
  rfl
 rw [hit]
 show (16 : Int) + 0 ≤ 2 * l
 omega
theorem zAM {w : World} {b : Nat} (h : GAt w b 0 (fresh 1, Sl.nil)) : RdG w (.slice (some ⟨b, 0, none⟩) 1 1) kJ := by
 refine ⟨⟨fun x _ => qR x, ?_⟩, fun p hp => ?_⟩
 ·
  refine ⟨rfl, some ⟨b, 0, none⟩, 1, rfl, Nat.le_refl _, by unfold maxLen; decide, fun h => (by cases h), fun _ => ⟨b, 0, rfl, fun j u hj => ?_⟩⟩;have hj' : (gpC (fresh 1, Sl.nil))[j]? = some u := by simpa [kJ] using hj
  have hlt : j < 14 := (List.getElem?_eq_some_iff.1 hj').1;rw [Nat.zero_add];rcases (show j = 0 ∨ j = 1 ∨ j = 2 ∨ j = 3 ∨ j = 4 ∨ j = 5 ∨ j = 6 ∨ j = 7 ∨ j = 8 ∨ j = 9 ∨ j = 10 ∨ j = 11 ∨ j = 12 ∨ j = 13 by omega) with e | e | e | e | e | e | e | e | e | e | e | e | e | e <;> subst e <;> injection hj' with hj' <;> subst hj'
  ·
   exact h.n0
  ·
   exact h.n1
  ·
   exact h.n2
  ·
   exact h.n3
  ·
   exact h.c0
  ·
   exact h.c1
  ·
   exact h.c2
  ·
   exact h.c3
  ·
   exact h.c4
  ·
   exact h.c5
  ·
   exact h.c6
  ·
   exact h.c7
  ·
   exact h.cl
  exact h.cg
 have : p = (fresh 1, Sl.nil) := by simpa [kJ] using hp
 subst this;exact zAE w
theorem zIH (i l : Int) (hA : 0 ≤ i ∧ i < 4 ∧ 4136 ≤ l ∧ l ≤ 262144) (w : World) : Calls Tryz.prog 63 #[.int .i64 i, .int .i64 l] w fun e w' => ∃ b, e = .returned (.tuple #[zhq i l false (some ⟨b, 0, none⟩) 1 1, .int .i64 0]) ∧ w.heap.size ≤ b ∧ GAt w' b 0 (fresh 1, Sl.nil) ∧ Below w.heap.size w w' := by
 have HF := zh (fun W => zG6 1 (by decide) W)
 have HV := zh (fun b W (h : GAt W b 0 (fresh 1, Sl.nil)) => yY i l false (some ⟨b, 0, none⟩) 1 1 kJ W (zAM h) (fun p hp j _ => by
  have : p = (fresh 1, Sl.nil) := by simpa [kJ] using hp
  subst this
  exact Nat.zero_le _))
 rw [zAP i l false hA] at HV;have HB := zh (zP w 0 0 false none 0 0 27);have HR := zh (BoxV.new w 0 0 false none 0 0 27);clear hA
 go_enter Tryz.func63, Tryz.ntmps63
 go_wp2_with fail;refine (HF.out _).mono ?_;rintro e w1 ⟨rfl, hb1⟩;obtain ⟨W0, hW0⟩ : ∃ W0, w.alloc (.cells (zS 0 0 false none 0 0) 27) = W0 := ⟨_, rfl⟩
 have hb1' : Below (w.alloc (.cells (zS 0 0 false none 0 0) 27)).heap.size (w.alloc (.cells (zS 0 0 false none 0 0) 27)) w1 := hb1;rw [hW0] at hb1' HB HR;have HB1 := zh (zA HB.out hb1');have HR1 := zh (HR.out.below hb1');clear hb1 hb1' HB HR hW0 HF;have hlR := HR1.out.lt;generalize hb0 : w.heap.size = b0 at *;have E0 := zh hb0;clear hb0;generalize hnil : Sl.nil = s0 at *;have HNil := zh hnil;clear hnil;go_upto_region 2 with fail;obtain ⟨W, hW⟩ : ∃ W, w1.alloc (.cells (zX 1 0 1 16 s0 0 0) 38) = W := ⟨_, rfl⟩
 have HX := zh (BoxG.new w1 1 0 1 16 s0 0 0 38);have HBx := zh (zZ w1 1 0 1 16 s0 0 0 38);change Code.wp _ _ _ _ (w1.alloc (.cells (zX 1 0 1 16 s0 0 0) 38));rw [hW] at HX HBx ⊢;clear hW;have HR2 := zh (HR1.out.below HBx.out);have HB2 := zh (bup HB1.out (Nat.le_of_lt hlR) HBx.out);have hlX := HX.out.lt;obtain ⟨m0, m1, m2, m3, m4, m5, m6, m7, m8, m9, m10, m11, m12, m13⟩ := HX.out.q;go_upto_region 3 with fail;change Code.wp _ _ _ _ ((W.alloc (.cells (zX 1 0 1 16 s0 0 0) 38)).alloc (.cells (zS i l false (some ⟨W.heap.size, 0, none⟩) 1 1) 27));obtain ⟨W2, hW2⟩ : ∃ W2, W.alloc (.cells (zX 1 0 1 16 s0 0 0) 38) = W2 := ⟨_, rfl⟩
 have hz2 : W2.heap.size = W.heap.size + 1 := by rw [← hW2]; simp
 have HG2 := zh (show GAt W2 W.heap.size 0 (fresh 1, s0) from hW2 ▸ GAt.of_box (g := fresh 1) (BoxG.new W 1 0 1 16 s0 0 0 38));have HBa := zh (show Below W.heap.size W W2 from hW2 ▸ zZ W 1 0 1 16 s0 0 0 38);rw [hW2];clear hW2;obtain ⟨W3, hW3⟩ : ∃ W3, W2.alloc (.cells (zS i l false (some ⟨W.heap.size, 0, none⟩) 1 1) 27) = W3 := ⟨_, rfl⟩
 have HS3 := zh (show BoxV W3 (W.heap.size + 1) i l false (some ⟨W.heap.size, 0, none⟩) 1 1 from hz2 ▸ hW3 ▸ BoxV.new W2 i l false (some ⟨W.heap.size, 0, none⟩) 1 1 27);have HBb := zh (show Below W2.heap.size W2 W3 from hW3 ▸ zP W2 i l false (some ⟨W.heap.size, 0, none⟩) 1 1 27);rw [hW3];clear hW3;have HG3 := zh (HG2.out.below HBb.out);have hab := zA HBa.out HBb.out;have HR3 := zh (HR2.out.below hab);have HB3 := zh (bup HB2.out (Nat.le_of_lt HR2.out.lt) hab);have hl3 := HS3.out.lt;have hbW : b0 < W.heap.size := HR2.out.lt;clear m0 m1 m2 m3 m4 m5 m6 m7 m8 m9 m10 m11 m12 m13 HX HBx HR2 HB2 HG2 HBa HBb hab HR1 HB1 hlX hlR;obtain ⟨x0, x1, x2, x3⟩ := HS3.out.q;generalize hgb : W.heap.size = gb at *;clear hgb;go_wp2_with fail;refine (HV.out _ _ HG3.out).mono ?_;rintro e w4 ⟨rfl, hb4⟩;have HG4 := zh (HG3.out.below hb4);have HR4 := zh (HR3.out.below hb4);have HS4 := zh (HS3.out.below hb4)
 have HB4 := zh (bup HB3.out (Nat.le_of_lt HR3.out.lt) hb4);have hl4 := HS4.out.lt;have hlr4 := HR4.out.lt;clear x0 x1 x2 x3 hb4 HG3 HR3 HS3 HB3 HV hl3;obtain ⟨x0, x1, x2, x3⟩ := HS4.out.q;obtain ⟨d0, d1, d2, d3⟩ := HR4.out.q;have F := HR4.out.f;have hne : b0 ≠ gb + 1 := by omega
 go_wp2_with fail;change bodyPost _ _ _ _ _ (pts w4 b0 (zU i l false (some ⟨gb, 0, none⟩) 1 1));have hby := HR4.out.all i l false (some ⟨gb, 0, none⟩) 1 1;have HBz := zh (zD (B := b0) (Nat.le_refl _) (zU i l false (some ⟨gb, 0, none⟩) 1 1) HB4.out);have HGz := zh (HG4.out.pts_ne (show gb ≠ b0 by omega) (zU i l false (some ⟨gb, 0, none⟩) 1 1));generalize pts w4 b0 (zU i l false (some ⟨gb, 0, none⟩) 1 1) = V at *;exact bodyPost_ret (v := .tuple #[zhq i l false (some ⟨gb, 0, none⟩) 1 1, .int .i64 0]) (by simp [results, Tryz.results63, go_sem, hby.c0, hby.c1, hby.c2, hby.c3]) rfl ⟨gb, rfl, by rw [E0.out]; omega, by rw [HNil.out]; exact HGz.out, by rw [E0.out]; exact HBz.out⟩
structure AcP where
 kind : Int
 lv : Value
 l : List (Nd × Value)
 gen : Int
 kv : Value
 keys : List Int
def zHn : AcP := ⟨0, .slice none 0 0, [], 0, .slice none 0 0, []⟩
instance : Inhabited AcP := ⟨zHn⟩
def acC (x : AcP) : List Value := [.int .i64 x.kind, x.lv, .int .i64 x.gen, x.kv]
theorem zKF (x : AcP) : (acC x).length = 4 := rfl
def qS (l : List AcP) (i : Nat) : AcP := l.getD i zHn
theorem zIu {l : List AcP} {i : Nat} (h : i < l.length) : qS l i ∈ l := by
 unfold qS;rw [List.getD_eq_getElem?_getD, List.getElem?_eq_getElem h]; exact List.getElem_mem h
noncomputable def vN (s : Slt) (r : Int × Gn) : Slt := if r.1 = 0 ∧ (yb s r.2).2 = 0 then (yb s r.2).1 else s
noncomputable def zDi (s : Slt) (kd : Int) (ns : List Nd) (gen : Int) (keys : List Int) : Slt :=
 if kd = 2 then (if (wm s).2 = 0 then (wm s).1 else s)
 else if kd = 3 then vN s (yW (gat s.gens (gen % (s.gens.length : Int)).toNat) (keys.take 8))
 else vN s (xM (zY s) (zGG ns))
noncomputable def zLN (s : Slt) (x : AcP) : Slt := zDi s (bits .and .i64 x.kind 3) (x.l.map (·.1)) x.gen x.keys
def sl0 : Slt := ⟨1, 9000, false, [fresh 1]⟩
noncomputable def zKq (s : Slt) (l : List AcP) : Slt := l.foldl zLN s
noncomputable def zLy (l : List AcP) : Slt := zKq sl0 (l.take 8)
theorem tF {l : List Gn} {i : Nat} (h : i < l.length) : gat l i ∈ l := by
 unfold gat;rw [List.getD_eq_getElem?_getD, List.getElem?_eq_getElem h]; exact List.getElem_mem h
def LenS (k : Nat) (l : List Gn) : Prop := ∀ g ∈ l, ∀ i, i < 8 → (g.m.st i).length ≤ k
def zLf (k : Int) (l : List Gn) : Prop := ∀ g ∈ l, g.size ≤ k
theorem LenS.mono {k k' : Nat} {l : List Gn} (h : LenS k l) (hk : k ≤ k') : LenS k' l := fun g hg i hi => Nat.le_trans (h g hg i hi) hk
theorem zAn {l : List Gn} {g x : Gn} (h : x ∈ uj l g) : x ∈ l ∨ x = g := by
 obtain ⟨y, hy, e⟩ := List.mem_map.1 h
 by_cases c : y.num = g.num
 ·
  rw [if_pos c] at e; exact .inr e.symm
 rw [if_neg c] at e; exact .inl (e ▸ hy)
theorem zIg (l : List Gn) (g : Gn) : (uj l g).length = l.length := List.length_map ..
theorem zAR {s : Slt} {g : Gn} (h : (yb s g).2 = 0) : (yb s g).1 = ⟨s.id, s.lim, s.ro, uj s.gens g⟩ := by
 unfold yb at h ⊢
 by_cases hv : zg s = true
 ·
  rw [if_pos hv] at h ⊢
  by_cases hn : (s.gens.any fun x => decide (x.num = g.num)) = true
  ·
   rw [if_pos hn] at h ⊢
   by_cases hw : zg ⟨s.id, s.lim, s.ro, uj s.gens g⟩ = true
   ·
    rw [if_pos hw]
   rw [if_neg hw] at h; cases h
  rw [if_neg hn] at h; cases h
 rw [if_neg hv] at h; cases h
theorem zC2 {s : Slt} (h : (wm s).2 = 0) : (wm s).1 = ⟨s.id, s.lim, s.ro, s.gens.take (s.gens.length - 1) ++ [{ zY s with mode := 2 }, fresh ((zY s).num + 1)]⟩ := by
 unfold wm at h ⊢
 by_cases hv : zg s = true
 ·
  rw [if_pos hv] at h ⊢
  by_cases hn : (zY s).num < 8
  ·
   rw [if_pos hn]
  rw [if_neg hn] at h; cases h
 rw [if_neg hv] at h; cases h
theorem tD {s : Slt} (h : VldSl s) : zY s ∈ s.gens := tF (by have := h.len; omega)
theorem zKR (l : List Nd) : szL (zGG l) ≤ 400 := by
 have key : ∀ k : List Nd, (∀ x ∈ k, x.data.length ≤ 30) → szL k ≤ k.length * 56 := by
  intro k
  induction k with
  | nil => intro _; exact Nat.zero_le _
  | cons x r ih =>
   intro h;have h1 := ih fun y hy => h y (by simp [hy])
   have h2 := h x (by simp);have h3 : szN x.data.length ≤ 56 := by rw [kQ (by omega)]; unfold nsz; omega
   rw [wG, List.length_cons]; omega
 have h1 := key _ (zGP l);have h2 := zDa l;omega
theorem qY {g : Gn} {l : List Nd} (h : (xM g l).1 = 0) : (xM g l).2 = zV g l := by
 unfold xM at h ⊢
 split
 ·
  rename_i h1;rw [if_pos h1] at h
  split
  ·
   rename_i h2;rw [if_pos h2] at h
   split
   ·
    rfl
   rename_i h3; rw [if_neg h3] at h; cases h
  rename_i h2; rw [if_neg h2] at h; cases h
 rename_i h1; rw [if_neg h1] at h; cases h
theorem zB8 {g : Gn} {l : List Int} (h : (yW g l).1 = 0) : (yW g l).2 = { g with m := l.foldl yF g.m } := by
 unfold yW at h ⊢
 split
 ·
  rename_i h1;rw [if_pos h1] at h
  split
  ·
   rename_i h2; rw [if_pos h2] at h; cases h
  rfl
 rename_i h1; rw [if_neg h1] at h; cases h
structure MadeI (n : Nat) (s : Slt) : Prop where
 v : VldSl s
 id : s.id = 1
 lim : s.lim = 9000
 ro : s.ro = false
 len : LenS (6 * n) s.gens
 siz : zLf (16 + 400 * (n : Int)) s.gens
theorem zFO : MadeI 0 sl0 := by
 refine ⟨(zT _).1 (zAP 1 9000 false (by decide)), rfl, rfl, rfl, fun g hg i _ => ?_, fun g hg => ?_⟩
 ·
  obtain rfl := List.mem_singleton.1 hg;exact Nat.zero_le _
 obtain rfl := List.mem_singleton.1 hg
 show (16 : Int) ≤ _
 omega
theorem MadeI.up {n : Nat} {s : Slt} (h : MadeI n s) : MadeI (n + 1) s := ⟨h.v, h.id, h.lim, h.ro, h.len.mono (by omega), fun g hg => by have := h.siz g hg; omega⟩
theorem MadeI.chg {n : Nat} {s : Slt} (h : MadeI n s) {g : Gn} (hc : (yb s g).2 = 0) (hl : ∀ i, i < 8 → (g.m.st i).length ≤ 6 * (n + 1)) (hz : g.size ≤ 16 + 400 * ((n + 1 : Nat) : Int)) : MadeI (n + 1) (yb s g).1 := by
 have hv := zIh hc;rw [zAR hc] at hv ⊢;refine ⟨hv, h.id, h.lim, h.ro, fun x hx i hi => ?_, fun x hx => ?_⟩
 ·
  rcases zAn hx with hx | rfl
  ·
   exact Nat.le_trans (h.len x hx i hi) (by omega)
  exact hl i hi
 rcases zAn hx with hx | rfl
 ·
  have := h.siz x hx; omega
 exact hz
theorem zB6 {n : Nat} {s : Slt} (h : MadeI n s) (kd : Int) (ns : List Nd) (gen : Int) (keys : List Int) : MadeI (n + 1) (zDi s kd ns gen keys) := by
 unfold zDi
 split
 ·
  split
  ·
   rename_i hr;have hv := zJK hr;rw [zC2 hr] at hv ⊢;refine ⟨hv, h.id, h.lim, h.ro, fun x hx i hi => ?_, fun x hx => ?_⟩
   ·
    rcases List.mem_append.1 hx with hx | hx
    ·
     exact Nat.le_trans (h.len x (List.mem_of_mem_take hx) i hi) (by omega)
    simp only [List.mem_cons, List.not_mem_nil, or_false] at hx;rcases hx with rfl | rfl
    ·
     exact Nat.le_trans (h.len _ (tD h.v) i hi) (by omega)
    exact Nat.zero_le _
   rcases List.mem_append.1 hx with hx | hx
   ·
    have := h.siz x (List.mem_of_mem_take hx); omega
   simp only [List.mem_cons, List.not_mem_nil, or_false] at hx;rcases hx with rfl | rfl
   ·
    have := h.siz _ (tD h.v); dsimp only; omega
   show (16 : Int) ≤ _; omega
  exact h.up
 split
 ·
  unfold vN
  split
  ·
   rename_i hr;obtain ⟨h1, h2⟩ := hr
   have hg : gat s.gens (gen % (s.gens.length : Int)).toNat ∈ s.gens := tF (by
    have h1 := h.v.len
    have h2 := Int.emod_lt_of_pos gen (show (0 : Int) < (s.gens.length : Int) by omega)
    have h3 := Int.emod_nonneg gen (show (s.gens.length : Int) ≠ 0 by omega)
    omega)
   refine h.chg h2 ?_ ?_
   ·
    rw [zB8 h1];intro i hi;exact Nat.le_trans (xu _ _ (h.len _ hg) i hi) (by omega)
   rw [zB8 h1];have := h.siz _ hg;dsimp only; omega
  exact h.up
 unfold vN
 split
 ·
  rename_i hr;obtain ⟨h1, h2⟩ := hr;have hg := tD h.v;refine h.chg h2 ?_ ?_
  ·
   rw [qY h1];intro i hi;have := xx (zGG ns) _ (h.len _ hg) i hi;have := zDa ns;omega
  rw [qY h1, wk];have := h.siz _ hg;have := zKR ns;omega
 exact h.up
theorem zGe (i l : Int) (r : Bool) (a : Option Addr) (n c : Nat) (L : List GP) (w : World) (h : RdG w (.slice a n c) L) (hs : ∀ p ∈ L, ∀ j, j < 8 → (p.1.m.st j).length ≤ 10000) (hv : zg ⟨i, l, r, gns L⟩ = true) (m : Nat) (hm : m ≤ 4096) :
  Calls Tryz.prog 36 #[zhq i l r a n c, .int .i64 (m : Int)] w fun e w' => e = .returned (.bool (decide ((pat L (n - 1)).1.size + ((szN m : Nat) : Int) ≤ l))) ∧ Below w.heap.size w w' := by
 have hV := (zT _).1 hv;have hLn : L.length = n := by
  obtain ⟨_, _, e, _⟩ := h.shape;injection e with _ e _; exact e.symm
 have hl : (gns L).length = n := by rw [zz, hLn]
 have hn : 1 ≤ n ∧ n ≤ 8 := by have := hV.len; simp only [hl] at this; exact this
 obtain ⟨j, rfl⟩ : ∃ j, n = j + 1 := ⟨n - 1, by omega⟩
 have hg := hV.vg (i := j) (by show j < (gns L).length; omega);simp only [xD] at hg;have hz1 := hg.size.1;have hz2 := hg.size.2.1;have HSv := zh (fun W (hb : Below w.heap.size w W) => yY i l r a (j + 1) c L W (h.below hb) hs);rw [hv] at HSv;have HZ := zh (fun W => (zAs m W).mono (R' := fun e w' => e = .returned (.int .i64 ((szN m : Nat) : Int)) ∧ Below W.heap.size W w') fun _ _ ⟨he, hw⟩ => ⟨he, hw ▸ Below.refl _ _⟩);have hszm : szN m ≤ 4127 := xg m;have HPj : j + 1 - 1 = j := by omega
 rw [HPj];have HR := zh h;have HBx := zh (BoxV.new w i l r a (j + 1) c 27);have HB0 := zh (zP w i l r a (j + 1) c 27);have e1 : decide ((m : Int) < 0) = false := by simp
 have e2 : decide ((4096 : Int) < (m : Int)) = false := by simp; omega
 clear hV hLn hl hg hv h hs HPj;generalize szN m = z at *;obtain ⟨b, off, rfl, hg⟩ := HR.out.at (show j < j + 1 by omega);have HG := zh hg;clear hg HR;generalize pat L j = p at *;obtain ⟨⟨num, rev, md, sz, f, LV, GA⟩, s⟩ := p;dsimp only at *
 go_enter Tryz.func36, Tryz.ntmps36
 go_upto_region 1 with fail;obtain ⟨W, hW⟩ : ∃ W, w.alloc (.cells (zS i l r (some ⟨b, off, none⟩) (j + 1) c) 27) = W := ⟨_, rfl⟩
 change Code.wp _ _ _ _ (w.alloc (.cells (zS i l r (some ⟨b, off, none⟩) (j + 1) c) 27));rw [hW] at HBx HB0 ⊢;clear hW;have hlw := HBx.out.lt;obtain ⟨k0, k1, k2, k3⟩ := HBx.out.q;go_wp2_with fail;refine (HSv.out _ HB0.out).mono ?_;rintro e w1 ⟨rfl, hb1⟩;clear k0 k1 k2 k3;have HB1 := zh (zA HB0.out hb1);have HX1 := zh (HBx.out.below hb1);have HG1 := zh (HG.out.below HB1.out);have hl1 := HX1.out.lt;clear hb1 HB0 HBx HG HSv;have j3 : IntKind.i64.wrap (j : Int) = (j : Int) := IntWalk.i64_in _ (by omega);have i2 : (j : Int) < ((j + 1 : Nat) : Int) := by omega
 have j5 : IntKind.i64.wrap (sz + (z : Int)) = sz + (z : Int) := IntWalk.i64_in _ (by omega);go_wp2_with fail;have v1 := zC HX1.out.c1;have v3 := zC HX1.out.c3;have g3 := zC HG1.out.n3;dsimp only at g3;refine zB (by kernel_rfl) (by kernel_rfl) ?_
 repeat (go_big_quiet_step ((exact zI (HZ.out _))))
 refine wpQuiet_nil ?_;intro _ hw';obtain ⟨q, hw'⟩ := hw';subst hw';have HQ := zh (zA HB1.out q.h);clear v1 v3 g3;go_wp2_with fail;go_ret;exact ⟨rfl, HQ.out⟩
end Go.Proofs.YtcgfilmmokmdjaaGreat
namespace Go.Proofs.YtcgfilmmokmdjaaGreat
open Go.RowKit Go.Shelf
attribute [local go_sem] Oper.semAt_some
def yV (len k : Nat) : List Nat := (List.range k).map fun j => len - 1 - j
theorem vj (len k : Nat) : yV len (k + 1) = yV len k ++ [len - 1 - k] := by simp [yV, List.range_succ]
theorem wV (len k : Nat) : (yV len k).length = k := by simp [yV]
def KpB (n₀ Bs : Nat) (W W' : World) : Prop := Below n₀ W W' ∧ ∀ v, W.cell? ⟨Bs, 0, none⟩ = some v → W'.cell? ⟨Bs, 0, none⟩ = some v
theorem KpB.refl (n₀ Bs : Nat) (W : World) : KpB n₀ Bs W W := ⟨Below.refl _ _, fun _ h => h⟩
theorem KpB.trans {n₀ Bs : Nat} {A B C : World} (h : KpB n₀ Bs A B) (k : KpB n₀ Bs B C) : KpB n₀ Bs A C := ⟨h.1.trans k.1, fun v hv => k.2 v (h.2 v hv)⟩
theorem KpB.put {n₀ Bs : Nat} {w : World} (hn : n₀ ≤ w.heap.size) (hB : Bs < w.heap.size) (W : World) (l : Nat) (o o' : Obj) (hl : w.heap.size ≤ l) (h : W.heap[l]? = some o) (h1 : o.isCells = false) (h2 : o.isWalk = false) : KpB n₀ Bs W (W.putObj l o') :=
 ⟨belowK_b hn W l o o' hl h h1 h2, fun v hv => ((belowK_b (n₀ := Bs + 1) (w := w) (by omega) W l o o' hl h h1 h2).cell (p := ⟨Bs, 0, none⟩) (Nat.lt_succ_self _)).trans hv⟩
theorem zHg (F : Fence) (n : Nat) (hf : F.fn 143) (hro : F.round = none) (hn : 1 ≤ n) (l Bs n₀ b off len cap : Nat) (L : List GP) (hlen : len ≤ 8) (hb : b < n₀) (J Jx : List Nat → World → Prop)
  (hY : ∀ pre (x : Nat) W, J pre W → pre.length < len → YieldAt F (n - 1) Tryz.prog l #[.int .i64 (x : Int), gpV (pat L x)] W fun e W' =>
   (e = .returned (.bool true) ∧ J (pre ++ [x]) W' ∧ KpB n₀ Bs W W') ∨ (e = .returned (.bool false) ∧ Jx (pre ++ [x]) W'))
  (W : World) (hBs : W.cell? ⟨Bs, 0, none⟩ = some (.slice (some ⟨b, off, none⟩) len cap)) (hc : ∀ j, j < len → GAt W b (off + j * 14) (pat L j)) (h0 : J [] W) :
  CallsIn F n Tryz.prog 143 #[.func (.yield l) #[] #[], .pointer (some ⟨Bs, 0, none⟩)] W fun e W' => (∃ v, e = .returned v) ∧
   ((∃ ys, ys = yV len len ∧ J ys W') ∨ (∃ pre, (∃ k, k ≤ len ∧ pre = yV len k) ∧ Jx pre W')) := by
 refine callsIn_of_wp Tryz.func143 rfl hf ?_ hro;simp only [Tryz.ntmps143, List.size_toArray, List.length_cons, List.length_nil, Nat.reduceAdd, Nat.reduceSub, Array.replicate_succ, Array.replicate_zero, List.push_toArray, List.append_toArray, List.nil_append, List.cons_append]
 gi_wp2
 gi_loopw [3] (fun i wr => ∃ k : Nat, k ≤ len ∧ i = .int .i64 ((len : Int) - 1 - (k : Int)) ∧ J (yV len k) wr ∧ KpB n₀ Bs W wr)
  (fun i _ => (intOf i + 1).toNat)
 case atStart => exact ⟨0, Nat.zero_le _, by simp [IntWalk.i64_in _ (show -9223372036854775808 ≤ (len : Int) - 1 ∧ (len : Int) - 1 ≤ 9223372036854775807 by omega)], h0, KpB.refl _ _ _⟩
 obtain ⟨k, hk, rfl, hJs, hnx⟩ := hrel;have hBk := hnx.2 _ hBs
 by_cases hlt : k < len
 ·
  obtain ⟨j, hj⟩ : ∃ j, k + 1 + j = len := ⟨len - 1 - k, by omega⟩
  have hjk : len - 1 - k = j := by omega
  obtain ⟨fn, tmps, assign, body, hy, hR⟩ := hY _ (len - 1 - k) wr hJs (by rw [wV]; exact hlt);have ej : (len : Int) - 1 - (k : Int) = (j : Int) := by omega
  rw [ej];rw [hjk] at hy hR;have i2 : (j : Int) < (len : Int) := by omega
  have g0 := (hnx.1.cell (p := ⟨b, off + j * 14, none⟩) hb).trans (hc j (by omega)).n0;have g1 := (hnx.1.cell (p := ⟨b, off + j * 14 + 1, none⟩) hb).trans (hc j (by omega)).n1;have g2 := (hnx.1.cell (p := ⟨b, off + j * 14 + 2, none⟩) hb).trans (hc j (by omega)).n2;have g3 := (hnx.1.cell (p := ⟨b, off + j * 14 + 3, none⟩) hb).trans (hc j (by omega)).n3;have g4 := (hnx.1.cell (p := ⟨b, off + j * 14 + 4, none⟩) hb).trans (hc j (by omega)).c0;have g5 := (hnx.1.cell (p := ⟨b, off + j * 14 + 5, none⟩) hb).trans (hc j (by omega)).c1;have g6 := (hnx.1.cell (p := ⟨b, off + j * 14 + 6, none⟩) hb).trans (hc j (by omega)).c2;have g7 := (hnx.1.cell (p := ⟨b, off + j * 14 + 7, none⟩) hb).trans (hc j (by omega)).c3;have g8 := (hnx.1.cell (p := ⟨b, off + j * 14 + 8, none⟩) hb).trans (hc j (by omega)).c4;have g9 := (hnx.1.cell (p := ⟨b, off + j * 14 + 9, none⟩) hb).trans (hc j (by omega)).c5
  have g10 := (hnx.1.cell (p := ⟨b, off + j * 14 + 10, none⟩) hb).trans (hc j (by omega)).c6;have g11 := (hnx.1.cell (p := ⟨b, off + j * 14 + 11, none⟩) hb).trans (hc j (by omega)).c7;have g12 := (hnx.1.cell (p := ⟨b, off + j * 14 + 12, none⟩) hb).trans (hc j (by omega)).cl;have g13 := (hnx.1.cell (p := ⟨b, off + j * 14 + 13, none⟩) hb).trans (hc j (by omega)).cg
  gi_wp2
  refine hR.mono ?_;rintro e W3 (⟨rfl, hJ3, hk3⟩ | ⟨rfl, hJx3⟩)
  ·
   gi_wp2
   go_roundw
   case rel => exact ⟨k + 1, by omega, by first | (simp; done) | (simp; omega), by rw [vj, hjk]; exact hJ3, hnx.trans hk3⟩
   case measure => first | (simp [intOf]; done) | (simp [intOf]; omega)
  gi_wp2
  refine bodyPost_ret (results_none rfl _ _ _) rfl ?_;exact ⟨⟨_, rfl⟩, .inr ⟨_, ⟨k + 1, by omega, by rw [vj, hjk]⟩, hJx3⟩⟩
 obtain rfl : k = len := by omega
 have ej : (k : Int) - 1 - (k : Int) = -1 := by omega
 rw [ej]
 gi_wp2
 go_end0;exact ⟨⟨_, rfl⟩, .inl ⟨_, rfl, hJs⟩⟩
end Go.Proofs.YtcgfilmmokmdjaaGreat
namespace Go.Proofs.YtcgfilmmokmdjaaGreat
open Go.RowKit Go.Shelf
theorem zCc (a : Option Addr) (n c : Nat) (w : World) : Calls Tryz.prog 105 #[.slice a n c] w fun e w' => e = .returned (.func (.func 143) #[] #[.pointer (some ⟨w.heap.size, 0, none⟩)]) ∧ w' = w.alloc (.cells #[.slice a n c] 25) := by
 go_enter Tryz.func105, Tryz.ntmps105
 go_wp2_with fail;go_ret;exact ⟨rfl, rfl⟩
theorem zE8 (F : Fence) (n : Nat) (hf : F.fn 143) (hro : F.round = none) (hn : 1 ≤ n) (Bs n₀ b off len cap : Nat) (L : List GP) (hlen : len ≤ 8) (hb : b < n₀) (w : World)
  (hBs : w.cell? ⟨Bs, 0, none⟩ = some (.slice (some ⟨b, off, none⟩) len cap)) (hc : ∀ j, j < len → GAt w b (off + j * 14) (pat L j)) :
  SeqStopsK F n Tryz.prog 143 #[.pointer (some ⟨Bs, 0, none⟩)] (fun x : Nat => #[.int .i64 (x : Int), gpV (pat L x)]) (KpB n₀ Bs) (fun ys => ys = yV len len) (fun pre => ∃ k, k ≤ len ∧ pre = yV len k) len w := fun l J Jx W hW _ _ hY h0 =>
 zHg F n hf hro hn l Bs n₀ b off len cap L hlen hb J Jx hY W (hW.keeps' hBs) (fun j hj => (hc j hj).below hW) h0
end Go.Proofs.YtcgfilmmokmdjaaGreat
namespace Go.Proofs.YtcgfilmmokmdjaaGreat
open Go.RowKit
def fdC (x : Fnd) : List Value := [.int .i64 x.gen, .int .i64 x.mode, .int .i64 x.rev, .int .u64 x.it.key, .int .u32 x.it.ck, .int .i64 x.it.off, .int .i64 x.it.size, .int .i64 (x.at_ : Int)]
theorem zKH (x : Fnd) : (fdC x).length = 8 := rfl
theorem zK3 : (Tryz.prog.info? 138).map (fun i => (i.zero, i.size, i.bytes)) = some (some (.agg #[.int .i64 0, .int .i64 0, .int .i64 0, .int .u64 0, .int .u32 0, .int .i64 0, .int .i64 0, .int .i64 0]), 8, 64) := by kernel_rfl
abbrev RdFd (w : World) (v : Value) (l : List Fnd) : Prop := RdS 8 fdC w v l
abbrev OwnFd (w : World) (base : Nat) (v : Value) (l : List Fnd) : Prop := w.ownsRow base 138 8 v l.length (l.flatMap fdC)
theorem zKp (i l : Int) (r : Bool) (a : Option Addr) (n c : Nat) (L : List GP) (w : World) (h : RdG w (.slice a n c) L) (hs : ∀ p ∈ L, ∀ j, j < 8 → (p.1.m.st j).length ≤ 10000) (hv : zg ⟨i, l, r, gns L⟩ = false) (key : Int) :
  Calls Tryz.prog 62 #[zhq i l r a n c, .int .u64 key] w fun e w' => e = .returned (.slice none 0 0) ∧ Below w.heap.size w w' := by
 have HSv := zh (fun W (hb : Below w.heap.size w W) => yY i l r a n c L W (h.below hb) hs);rw [hv] at HSv;have HBx := zh (BoxV.new w i l r a n c 27);have HB0 := zh (zP w i l r a n c 27);clear hv h hs
 go_enter Tryz.func62, Tryz.ntmps62
 go_upto_region 1 with fail;obtain ⟨W, hW⟩ : ∃ W, w.alloc (.cells (zS i l r a n c) 27) = W := ⟨_, rfl⟩
 change Code.wp _ _ _ _ ((w.alloc (.cells (zS i l r a n c) 27)).alloc (.cells #[.int .u64 key] 24));rw [hW] at HBx HB0 ⊢;clear hW;have hlw := HBx.out.lt;have HB1 := zh (HB0.out.alloc HB0.out.size (.cells #[.int .u64 key] 24));have HX1 := zh (HBx.out.below ((Below.refl _ W).alloc (Nat.le_refl _) (.cells #[.int .u64 key] 24)));obtain ⟨k0, k1, k2, k3⟩ := HX1.out.q;go_wp2_with fail;refine (HSv.out _ HB1.out).mono ?_;rintro e w1 ⟨rfl, hb1⟩;have HB2 := zh (zA HB1.out hb1);clear hb1 k0 k1 k2 k3;go_wp2_with fail;go_ret;exact ⟨rfl, HB2.out⟩
end Go.Proofs.YtcgfilmmokmdjaaGreat
namespace Go.Proofs.YtcgfilmmokmdjaaGreat
open Go.RowKit Go.Shelf
attribute [local go_sem] Oper.semAt_some
def tq (l : List Gn) (key : Int) (pre : List Nat) : List Fnd := pre.flatMap fun n => match zW (gat l n).m key with | some x => [⟨(gat l n).num, (gat l n).mode, (gat l n).rev, x, n⟩] | none => []
theorem zHc {l : List Gn} {key : Int} (pre : List Nat) {n : Nat} {x : It} (h : zW (gat l n).m key = some x) : tq l key (pre ++ [n]) = tq l key pre ++ [⟨(gat l n).num, (gat l n).mode, (gat l n).rev, x, n⟩] := by simp [tq, h]
theorem zG4 {l : List Gn} {key : Int} (pre : List Nat) {n : Nat} (h : zW (gat l n).m key = none) : tq l key (pre ++ [n]) = tq l key pre := by simp [tq, h]
theorem zIj (l : List Gn) (key : Int) (pre : List Nat) : (tq l key pre).length ≤ pre.length := by
 induction pre with
 | nil => exact Nat.le_refl _
 | cons n pre ih =>
  have e : tq l key (n :: pre) = (match zW (gat l n).m key with | some x => [⟨(gat l n).num, (gat l n).mode, (gat l n).rev, x, n⟩] | none => []) ++ tq l key pre := rfl;rw [e, List.length_append, List.length_cons];have : (match zW (gat l n).m key with | some x => [(⟨(gat l n).num, (gat l n).mode, (gat l n).rev, x, n⟩ : Fnd)] | none => []).length ≤ 1 := by
   cases zW (gat l n).m key <;> simp
  omega
theorem zET (n : Nat) : yV (n + 1) (n + 1) = n :: yV n n := by
 unfold yV;rw [List.range_succ_eq_map, List.map_cons, List.map_map, List.cons.injEq];refine ⟨by omega, List.map_congr_left fun j _ => ?_⟩;simp only [Function.comp_apply]; omega
theorem zDk (l : List Gn) (key : Int) : ∀ n, tq l key (yV n n) = xb l key n
 | 0 => rfl
 | n + 1 => by
  have ih := zDk l key n;rw [zET, xb, ← ih]
  rfl
theorem zAj {l : List Gn} {key : Int} : ∀ n, ∀ x ∈ xb l key n, x.at_ < n
 | 0, x, h => by cases h
 | n + 1, x, h => by
  rw [xb] at h;rcases List.mem_append.1 h with h | h
  ·
   cases e : zW (gat l n).m key with
   | none => rw [e] at h; cases h
   | some y => rw [e] at h; rw [List.mem_singleton.1 h]; exact Nat.lt_succ_self n
  exact Nat.lt_succ_of_lt (zAj n x h)
theorem zB0 {W W' : World} (h : Below W.heap.size W W') : KeepsOthers W W' := ⟨h.size, fun k o hk _ => (h.block k (Array.getElem?_eq_some_iff.1 hk).1).trans hk⟩
theorem zGb {W W' : World} {b : Nat} {n r md z : Int} {s : Sl} {l g : Int} {row : Option Nat} (h : BoxG W b n r md z s l g) (hg : W.grownBy W' row) (hrow : ∀ r, row = some r → ∃ o : Obj, W.heap[r]? = some o ∧ o.isCells = false) : BoxG W' b n r md z s l g :=
 ⟨cell_kept h.n0 hg hrow, cell_kept h.n1 hg hrow, cell_kept h.n2 hg hrow, cell_kept h.n3 hg hrow, fun j hj => cell_kept (h.c j hj) hg hrow, cell_kept h.cl hg hrow, cell_kept h.cg hg hrow, fun i => by
  obtain ⟨o, ho, hc⟩ := cells_of_cell h.n0
  have e := grownBy_keeps_cells hg hrow ho hc
  have e2 := h.f i
  unfold World.frozen? at e2 ⊢
  rw [e]; exact e2⟩
theorem _root_.Go.Boxed.below {W W' : World} {B : Nat} {t : TypeId} {v : Value} (h : Boxed W B t v) (hb : Below W.heap.size W W') : Boxed W' B t v := (hb.block _ h.lt).trans h
theorem zFu (W : World) (cs : List Value) (e : TypeId) : ∀ j u, cs[j]? = some u → (W.alloc (.cells cs.toArray e)).cell? ((⟨W.heap.size, 0, none⟩ : Addr).add j) = some u := fun j u h => by
 rw [yJ, Nat.zero_add];have h0 := World.alloc_heap_new W (.cells cs.toArray e);simp only [World.cell?, h0, List.getElem?_toArray];exact h
theorem zJF (W : World) (k : Nat) (hk : W.heap.size = k) (cs : List Value) (e : TypeId) : ∀ j u, cs[j]? = some u → (W.alloc (.cells cs.toArray e)).cell? ((⟨k, 0, none⟩ : Addr).add j) = some u := by subst hk; exact zFu W cs e
theorem zLB (x : Fnd) : ∀ u ∈ fdC x, u.oneCell' = true := by
 intro u hu;simp only [fdC, List.mem_cons, List.not_mem_nil, or_false] at hu;rcases hu with h | h | h | h | h | h | h | h <;> rw [h] <;> rfl
theorem zKm {w : World} {v : Value} {L : List GP} (h : RdG w v L) (x : Nat) : RdM w (pat L x).2 (pat L x).1.m.st := by
 by_cases hx : x < L.length
 ·
  exact h.m _ (xI hx)
 have e : pat L x = gp0 := by unfold pat; rw [List.getD_eq_getElem?_getD, List.getElem?_eq_none (by omega)]; rfl
 rw [e]; exact zAE w
theorem zKO {L : List GP} (hs : ∀ p ∈ L, ∀ j, j < 8 → (p.1.m.st j).length ≤ 10000) (x : Nat) : ∀ j, j < 8 → ((pat L x).1.m.st j).length ≤ 10000 := by
 by_cases hx : x < L.length
 ·
  exact hs _ (xI hx)
 have e : pat L x = gp0 := by unfold pat; rw [List.getD_eq_getElem?_getD, List.getElem?_eq_none (by omega)]; rfl
 rw [e]; intro j _; exact Nat.zero_le _
theorem zJw (i l : Int) (r : Bool) (a : Option Addr) (n c : Nat) (L : List GP) (w : World) (h : RdG w (.slice a n c) L) (hs : ∀ p ∈ L, ∀ j, j < 8 → (p.1.m.st j).length ≤ 10000) (hv : zg ⟨i, l, r, gns L⟩ = true) (key : Int) :
  Calls Tryz.prog 62 #[zhq i l r a n c, .int .u64 key] w fun e w' => ∃ v, e = .returned v ∧ OwnFd w' w.heap.size v (xb (gns L) key n) ∧ Below w.heap.size w w' := by
 obtain ⟨hn1, hn8⟩ := ((zT _).1 hv).len;dsimp only at hn1 hn8;rw [zz] at hn1 hn8;obtain rfl : n = L.length := by obtain ⟨a', cap', e, _⟩ := h.shape; injection e
 obtain ⟨b, off, rfl, hg0⟩ := h.at (show 0 < L.length by omega);have HG := zh (fun j (hj : j < L.length) => h.at2 hj);have hb := World.block_lt_of_cell? w _ hg0.n0;have hSv := fun W (hb : Below w.heap.size w W) => yY i l r (some ⟨b, off, none⟩) L.length c L W (h.below hb) hs
 have HGet := zh (fun W (hb : Below w.heap.size w W) (x : Nat) => zEO (pat L x).2 (pat L x).1.m key W ((zKm h x).below hb) (zKO hs x));rw [hv] at hSv;clear hg0 h hs;obtain ⟨i0, hi, hz0, hz1, hz2⟩ := info_parts zK3;refine (callsIn_wide (n := 20)).1 (callsIn_of_wp_marks Tryz.func62 rfl trivial ?_ rfl);simp only [Tryz.ntmps62, List.size_toArray, List.length_cons, List.length_nil, Nat.reduceAdd, Nat.reduceSub, Array.replicate_succ, Array.replicate_zero, List.push_toArray, List.append_toArray, List.nil_append, List.cons_append];have hbox := BoxV.new w i l r (some ⟨b, off, none⟩) L.length c 27;have hbel := zP w i l r (some ⟨b, off, none⟩) L.length c 27;have hbK := Boxed.new (w.alloc (.cells (zS i l r (some ⟨b, off, none⟩) L.length c) 27)) 24 (.int .u64 key);rw [World.size_alloc] at hbK
 gi_wp2_with (first | (refine ⟨trivial, ?_⟩; gi_at_call 47; refine (callsIn_wide.2 (hSv _ (hbel.alloc (by simp) _))).mono ?_; rintro e w1 ⟨rfl, hb1⟩; have hB1 := zA (hbel.alloc (by simp) (.cells #[.int .u64 key] 24)) hb1; have k3 := (((hbox.below ((Below.refl _ _).alloc (Nat.le_refl _) (.cells #[.int .u64 key] 24))).below hb1).below ((Below.refl _ w1).alloc (Nat.le_refl _) (.cells #[.slice none 0 0] 135))).c3; have hbK1 : Boxed w1 (w.heap.size + 1) 24 (.int .u64 key) := (hb1.block _ hbK.lt).trans hbK; clear hb1 hbox hbel hbK) | (refine ⟨trivial, ?_⟩; gi_at_call 105; refine (callsIn_wide.2 (zCc _ _ _ _)).mono ?_; rintro e w' ⟨rfl, rfl⟩; clear k3))
 clear hSv;have bO := (Boxed.new w1 135 (.slice none 0 0)).alloc (.cells #[.slice (some ⟨b, off, none⟩) L.length c] 25);have bS := Boxed.new (w1.alloc (.cells #[.slice none 0 0] 135)) 25 (.slice (some ⟨b, off, none⟩) L.length c);have bK := (hbK1.alloc (.cells #[.slice none 0 0] 135)).alloc (.cells #[.slice (some ⟨b, off, none⟩) L.length c] 25);have hl1 := hbK1.lt;simp only [World.size_alloc] at bS;have hB2 : Below w.heap.size w ((w1.alloc (.cells #[.slice none 0 0] 135)).alloc (.cells #[.slice (some ⟨b, off, none⟩) L.length c] 25)) := (hB1.alloc hB1.size _).alloc (by have := hB1.size; simp; omega) _;have hsz : ((w1.alloc (.cells #[.slice none 0 0] 135)).alloc (.cells #[.slice (some ⟨b, off, none⟩) L.length c] 25)).heap.size = w1.heap.size + 2 := by simp
 obtain ⟨Bo, hBo⟩ : ∃ Bo, w1.heap.size = Bo := ⟨_, rfl⟩
 obtain ⟨W0, hW0⟩ : ∃ W0, (w1.alloc (.cells #[.slice none 0 0] 135)).alloc (.cells #[.slice (some ⟨b, off, none⟩) L.length c] 25) = W0 := ⟨_, rfl⟩
 rw [hBo] at bO bS hsz hl1 ⊢;rw [hW0] at bO bS bK hB2 hsz ⊢;clear hW0 hbK1 hBo hB1;clear w1;have hsB := hB2.size;refine wpIn_rangeFunc_ownH rfl (by decide) (gf := 143) (lb := #[.pointer (some ⟨Bo + 1, 0, none⟩)]) rfl trivial (enters_of Tryz.func143 (by kernel_rfl) rfl)
  (zE8 Fence.wide (20 - 1) trivial rfl (by decide) (Bo + 1) w.heap.size b off L.length c L hn8 hb W0 bS.cell (fun j hj => (HG.out j hj).below hB2)) KpB.trans (KpB.put (by omega) (by omega)) (Below.refl _ _) (fun _ => rfl)
  (fun pre W => ((∃ v, Boxed W Bo 135 v ∧ W.ownsRow w.heap.size 138 8 v (tq (gns L) key pre).length ((tq (gns L) key pre).flatMap fdC) ∧ True) ∧ Boxed W (w.heap.size + 1) 24 (.int .u64 key) ∧ Boxed W (Bo + 1) 25 (.slice (some ⟨b, off, none⟩) L.length c)) ∧ Below w.heap.size w W)
  (fun _ _ _ => False)
  (OwnFrom.and (OwnFrom.and (Own.from (holdsRow_own w.heap.size Bo 135 138 8 (fun pre => (tq (gns L) key pre).length) (fun pre => (tq (gns L) key pre).flatMap fdC) (fun _ _ => True)) _) (OwnFrom.and (Own.from (boxed_own _ _ _) _) (Own.from (boxed_own _ _ _) _))) (ownFrom_below (Nat.le_refl _) (by omega)))
  (fun _ _ _ _ _ hs _ _ => hs)
  ⟨⟨⟨_, bO, World.ownsRow_nil _ _ _ _, trivial⟩, bK, bS⟩, hB2⟩
  (fun x a' W => ∃ Bx, w.heap.size + 1 < Bx ∧ Bo + 1 < Bx ∧ BoxG W Bx (pat L x).1.num (pat L x).1.rev (pat L x).1.mode (pat L x).1.size (pat L x).2 (pat L x).1.m.live (pat L x).1.m.garb ∧ a' = { tmps := #[zhq i l r (some ⟨b, off, none⟩) L.length c, .int .u64 key, .pointer (some ⟨w.heap.size, 0, none⟩), .pointer (some ⟨w.heap.size + 1, 0, none⟩), .slice none 0 0, .pointer (some ⟨Bo, 0, none⟩), .int .i64 (x : Int), .pointer (some ⟨Bx, 0, none⟩), undef, undef, zhq i l r (some ⟨b, off, none⟩) L.length c, .bool true, .bool false, .pointer (some ⟨w.heap.size, 3, none⟩), .slice (some ⟨b, off, none⟩) L.length c, .func (.func 143) #[] #[.pointer (some ⟨Bo + 1, 0, none⟩)], .int .i64 (x : Int), gpV (pat L x), undef, undef, undef, undef, undef, undef, undef, undef, undef, undef, undef, undef, undef, undef, undef, undef, undef, undef, undef, undef, undef, undef], defers := [] })
  (fun x a' _ X Y row hs hg hr => by obtain ⟨Bx, h1, h2, h3, h4⟩ := hs; exact ⟨Bx, h1, h2, zGb h3 hg (fun r e => (hr r e).2), h4⟩)
  ?assign ?body ?done ?stop
 case assign =>
  rintro l pre x W K hI hK;obtain ⟨⟨⟨v, hv, hrow, _⟩, bK1, bS1⟩, hB1⟩ := hI;have hlt := bS1.lt
  gi_wp2
  exact hK _ _ ((KeepsOthers.alloc _ _).from _) ⟨(Below.refl _ W).alloc hB1.size _, fun v hv => ((Below.refl (Bo + 1 + 1) W).alloc hlt _).cell (p := ⟨Bo + 1, 0, none⟩) (Nat.lt_succ_self _) |>.trans hv⟩
   ⟨⟨⟨v, hv.alloc _, hrow.alloc _, trivial⟩, bK1.alloc _, bS1.alloc _⟩, hB1.alloc hB1.size _⟩ ⟨W.heap.size, by have := bK1.lt; omega, by omega, BoxG.new W _ _ _ _ _ _ _ _, rfl⟩
 case body =>
  rintro l pre x a' W hl ⟨rr, hr⟩ ⟨⟨⟨v, hv, hrow, _⟩, bK1, bS1⟩, hB1⟩ ⟨Bx, hx1, hx2, bX, rfl⟩ hlt;have hn0 := (HGet.out W hB1 x)
  have hgl := zIj (gns L) key pre;have hhit := fun (y : It) (h : zW (pat L x).1.m key = some y) => zHc (l := gns L) pre (n := x) (by rw [xD]; exact h)
  have hmiss := fun (h : zW (pat L x).1.m key = none) => zG4 (l := gns L) pre (n := x) (by rw [xD]; exact h)
  rw [xD] at hhit;have g0 := bX.n0;have g1 := bX.n1;have g2 := bX.n2;obtain ⟨c0, c1, c2, c3, c4, c5, c6, c7, c8, c9⟩ := bX.q;have cK := bK1.cell;have hXl := bX.lt;have hKl := bK1.lt;have hOl := hv.lt;have hsW := hB1.size
  cases hgm : zW (pat L x).1.m key with
  | none =>
   rw [hgm] at hn0;have hm := hmiss hgm;clear hhit hmiss hgm HGet HG
   gi_wp2_with (refine ⟨trivial, ?_⟩; gi_at_call 95; refine (CallsIn.inRound l (callsIn_wide.2 hn0)).mono ?_; rintro e w2 ⟨rfl, hb2⟩)
   have hb3 := hb2.alloc hb2.size (yq it0);exact ⟨(zB0 hb3).from _, ⟨hb3.mono hsW, fun u hu => hb3.keeps' hu⟩, ⟨⟨v, hv.below hb3, by rw [hm]; exact zH hrow hb3, trivial⟩, bK1.below hb3, bS1.below hb3⟩, hB1.trans (hb3.mono hsW)⟩
  | some y =>
   rw [hgm] at hn0;have hm := hhit y hgm;clear hhit hmiss hgm HGet HG
   gi_wp2_with (first | (refine ⟨trivial, ?_⟩; gi_at_call 95; refine (CallsIn.inRound l (callsIn_wide.2 hn0)).mono ?_; rintro e w2 ⟨rfl, hb2⟩; have hb3 := hb2.alloc hb2.size (yq y); have q0 := hb3.keeps' g0; have q1 := hb3.keeps' g1; have q2 := hb3.keeps' g2; have hv3 := hv.below hb3; have qO := hv3.cell; have hrow3 := zH hrow hb3; have hsW3 : (w2.alloc (yq y)).heap.size = w2.heap.size + 1 := (by simp); have hsW4 := hb2.size) | (gi_at_builtin; refine wpListIn_append_own _ rfl _ _ 135 rfl w.heap.size 138 i0 _ 8 64 Tryz.underlying135 hi hz0 hz1 hz2 rfl (by decide) _ _ _ rfl (hrow3.alloc _) ⟨w2.heap.size + 1, 0, none⟩ 1 1 (fdC ⟨(pat L x).1.num, (pat L x).1.mode, (pat L x).1.rev, y, x⟩) rfl rfl (zJF _ (w2.heap.size + 1) hsW3 (fdC ⟨(pat L x).1.num, (pat L x).1.mode, (pat L x).1.rev, y, x⟩) 138) (zLB _) (by unfold maxLen; omega) (by omega) (by simp; omega) ?_; intro v' w4 hown' hgrow _; obtain ⟨g', cap', rfl⟩ := ownsRow_succ hown'; obtain ⟨hv1, hv2, hr2, hk2, hb4⟩ := hv3.appended (by decide) hrow3 (by omega) (by omega) hown' hgrow; have hc1 := hv1.cell; have hf1 := hv1.frozen))
   have bS5 := (((bS1.below hb3).alloc _).kept hgrow ((bS1.below hb3).not_row (by decide) hrow3)).other (B' := Bo) (by omega) (.slice (some ⟨g', 0, none⟩) ((tq (gns L) key pre).length + 1) cap');have bK5 := (((bK1.below hb3).alloc _).kept hgrow ((bK1.below hb3).not_row (by decide) hrow3)).other (B' := Bo) (by omega) (.slice (some ⟨g', 0, none⟩) ((tq (gns L) key pre).length + 1) cap');exact ⟨((zB0 hb3).trans hk2).from _, ⟨(hb3.mono hsW).trans hb4, fun u hu => by rw [bS1.cell] at hu; cases hu; exact bS5.cell⟩, ⟨⟨_, hv2, by rw [hm, List.length_append, List.flatMap_append]; simpa using hr2, trivial⟩, bK5, bS5⟩, hB1.trans ((hb3.mono hsW).trans hb4)⟩
 case done =>
  rintro D ys W hD rfl ⟨⟨⟨v, hv, hrow, _⟩, bK1, bS1⟩, hB1⟩ hK;have hc := hv.cell;rw [zDk] at hrow
  gi_wp2
  refine ⟨by simp, .inl ⟨_, _, rfl, run_takeDeferred hK, ?_⟩⟩;exact ⟨_, results_tmp rfl _ _ _, v, rfl, ownsRow_putObj hrow _ hK rfl, hB1.trans (belowK_b (w := w) (Nat.le_refl _) W D _ _ (by omega) hK rfl rfl)⟩
 rintro D c pre W _ _ h _;exact h.elim
end Go.Proofs.YtcgfilmmokmdjaaGreat
namespace Go.Proofs.YtcgfilmmokmdjaaGreat
open Go.RowKit
def uU : Fnd := ⟨0, 0, 0, it0, 0⟩
abbrev plC (x : Fnd) : Array Value := #[.int .i64 x.gen, .int .i64 x.mode, .int .i64 x.rev, .int .u64 x.it.key, .int .u32 x.it.ck, .int .i64 x.it.off, .int .i64 x.it.size]
abbrev plV (x : Fnd) : Value := .agg (plC x)
theorem zDe (l : List Gn) (key : Int) : ∀ n, (xb l key n).length ≤ n
 | 0 => Nat.le_refl _
 | n + 1 => by
  have h := zDe l key n;rw [xb, List.length_append]
  cases zW (gat l n).m key <;> simp <;> omega
theorem zIC {i l : Int} {r : Bool} {L : List GP} {n : Nat} (hn : n = L.length) (hv : zg ⟨i, l, r, gns L⟩ = true) (key : Int) : yI ⟨i, l, r, gns L⟩ key = xb (gns L) key n := by
 unfold yI; rw [if_pos hv, hn]; show xb (gns L) key (gns L).length = _; rw [zz]
theorem zAw {s : Slt} (hv : zg s = false) (key : Int) : yI s key = [] := by unfold yI; rw [if_neg (by rw [hv]; decide)]
theorem OwnFd.rd {w : World} {B : Nat} {v : Value} {l : List Fnd} (h : OwnFd w B v l) : RdFd w v l := zC1 (fun x _ => zKH x) (by decide) h
theorem zFT (i l : Int) (r : Bool) (a : Option Addr) (n c : Nat) (L : List GP) (w : World) (h : RdG w (.slice a n c) L) (hs : ∀ p ∈ L, ∀ j, j < 8 → (p.1.m.st j).length ≤ 10000) (key : Int) :
  Calls Tryz.prog 62 #[zhq i l r a n c, .int .u64 key] w fun e w' => ∃ v, e = .returned v ∧ OwnFd w' w.heap.size v (yI ⟨i, l, r, gns L⟩ key) ∧ Below w.heap.size w w' := by
 cases hv : zg ⟨i, l, r, gns L⟩ with
 | true =>
  rw [zIC (by obtain ⟨a', cap', e, _⟩ := h.shape; injection e) hv];exact zJw i l r a n c L w h hs hv key
 | false =>
  rw [zAw hv];refine (zKp i l r a n c L w h hs hv key).mono ?_;rintro e w' ⟨rfl, hb⟩;exact ⟨_, rfl, World.ownsRow_nil _ _ _ _, hb⟩
structure BoxP (W : World) (b : Nat) (x : Fnd) : Prop where
 c0 : W.cell? ⟨b, 0, none⟩ = some (.int .i64 x.gen)
 c1 : W.cell? ⟨b, 1, none⟩ = some (.int .i64 x.mode)
 c2 : W.cell? ⟨b, 2, none⟩ = some (.int .i64 x.rev)
 c3 : W.cell? ⟨b, 3, none⟩ = some (.int .u64 x.it.key)
 c4 : W.cell? ⟨b, 4, none⟩ = some (.int .u32 x.it.ck)
 c5 : W.cell? ⟨b, 5, none⟩ = some (.int .i64 x.it.off)
 c6 : W.cell? ⟨b, 6, none⟩ = some (.int .i64 x.it.size)
 f : ∀ i, W.frozen? ⟨b, i, none⟩ = false
theorem BoxP.new (W : World) (x : Fnd) : BoxP (W.alloc (.cells (plC x) 51)) W.heap.size x := ⟨by simp, by simp, by simp, by simp, by simp, by simp, by simp, fun i => by simp⟩
theorem BoxP.lt {W : World} {b : Nat} {x : Fnd} (h : BoxP W b x) : b < W.heap.size := World.block_lt_of_cell? W _ h.c0
theorem BoxP.below {W W' : World} {b : Nat} {x : Fnd} (h : BoxP W b x) (hB : Below W.heap.size W W') : BoxP W' b x := ⟨hB.keeps' h.c0, hB.keeps' h.c1, hB.keeps' h.c2, hB.keeps' h.c3, hB.keeps' h.c4, hB.keeps' h.c5, hB.keeps' h.c6, fun i => (hB.frozen (p := ⟨b, i, none⟩) h.lt).trans (h.f i)⟩
abbrev plL (x : Fnd) : List (Nat × Value) := [(0, .int .i64 x.gen), (1, .int .i64 x.mode), (2, .int .i64 x.rev), (3, .int .u64 x.it.key), (4, .int .u32 x.it.ck), (5, .int .i64 x.it.off), (6, .int .i64 x.it.size)]
theorem BoxP.all {W : World} {b : Nat} {x : Fnd} (h : BoxP W b x) (y : Fnd) : BoxP (pts W b (plL y)) b y := by
 have c0 := h.c0;have c1 := h.c1;have c2 := h.c2;have c3 := h.c3;have c4 := h.c4;have c5 := h.c5;have c6 := h.c6;refine ⟨?_, ?_, ?_, ?_, ?_, ?_, ?_, fun i => (xF _ _ W).trans (h.f i)⟩
 ·
  simp [pts, go_sem, c0]
 ·
  simp [pts, go_sem, c1]
 ·
  simp [pts, go_sem, c2]
 ·
  simp [pts, go_sem, c3]
 ·
  simp [pts, go_sem, c4]
 ·
  simp [pts, go_sem, c5]
 simp [pts, go_sem, c6]
theorem zGJ (i l : Int) (r : Bool) (a : Option Addr) (n c : Nat) (L : List GP) (w : World) (h : RdG w (.slice a n c) L) (hs : ∀ p ∈ L, ∀ j, j < 8 → (p.1.m.st j).length ≤ 10000) (key : Int) :
  Calls Tryz.prog 16 #[zhq i l r a n c, .int .u64 key] w fun e w' => e = .returned (.tuple #[plV ((yI ⟨i, l, r, gns L⟩ key).headD uU), .bool (!(yI ⟨i, l, r, gns L⟩ key).isEmpty)]) ∧ Below w.heap.size w w' := by
 have HAll := zh (fun W (hb : Below w.heap.size w W) => zFT i l r a n c L W (h.below hb) hs key);have HBx := zh (BoxV.new w i l r a n c 27);have HB0 := zh (zP w i l r a n c 27);obtain ⟨F, hF⟩ : ∃ F, yI ⟨i, l, r, gns L⟩ key = F := ⟨_, rfl⟩
 rw [hF] at HAll ⊢;clear h hs hF
 go_enter Tryz.func16, Tryz.ntmps16
 go_upto_region 1 with fail;obtain ⟨W, hW⟩ : ∃ W, w.alloc (.cells (zS i l r a n c) 27) = W := ⟨_, rfl⟩
 change Code.wp _ _ _ _ ((w.alloc (.cells (zS i l r a n c) 27)).alloc _);have hsz : W.heap.size = w.heap.size + 1 := by rw [← hW]; simp
 rw [hW] at HBx HB0 ⊢;clear hW;have hlw := HBx.out.lt;have HB1 := zh (HB0.out.alloc HB0.out.size (.cells #[.int .i64 0, .int .i64 0, .int .i64 0, .int .u64 0, .int .u32 0, .int .i64 0, .int .i64 0] 51));have HX1 := zh (HBx.out.below ((Below.refl _ W).alloc (Nat.le_refl _) (.cells #[.int .i64 0, .int .i64 0, .int .i64 0, .int .u64 0, .int .u32 0, .int .i64 0, .int .i64 0] 51)));obtain ⟨k0, k1, k2, k3⟩ := HX1.out.q;go_wp2_with fail;refine (HAll.out _ HB1.out).mono ?_;rintro e w1 ⟨v, rfl, ho, hb1⟩;clear k0 k1 k2 k3;have hR := ho.rd;obtain ⟨a', cap', rfl, h2, h3, h4, h5⟩ := RdS.shape hR (by decide) uU;have hlz : w.heap.size + 1 < w1.heap.size := by have := hb1.size; simp at this; omega
 have HP : BoxP w1 (w.heap.size + 1) uU := by rw [← hsz]; exact (BoxP.new W uU).below hb1
 have z0 := HP.c0;have z1 := HP.c1;have z2 := HP.c2;have z3 := HP.c3;have z4 := HP.c4;have z5 := HP.c5;have z6 := HP.c6;have hf := HP.f;have HBe := zh (zA HB1.out hb1);clear hb1 hR ho
 cases F with
 | nil =>
  go_wp2_with fail;change bodyPost _ _ _ _ _ (pts w1 (w.heap.size + 1) (plL uU));have hby := HP.all uU;have HBz := zh (zD (B := w.heap.size) (b := w.heap.size + 1) (by omega) (plL uU) HBe.out);generalize pts w1 (w.heap.size + 1) (plL uU) = V at *;exact bodyPost_ret (v := .tuple #[plV uU, .bool false]) (by simp [results, Tryz.results16, go_sem, hby.c0, hby.c1, hby.c2, hby.c3, hby.c4, hby.c5, hby.c6]) rfl ⟨rfl, HBz.out⟩
 | cons x F =>
  obtain ⟨b, off, rfl, hc⟩ := h5 (by simp);have e0 : decide ((((x :: F).length : Nat) : Int) = 0) = false := by simp; omega
  have c0 : w1.cell? ⟨b, off, none⟩ = some (.int .i64 x.gen) := by simpa using hc 0 (by simp) 0 _ rfl
  have c1 : w1.cell? ⟨b, off + 1, none⟩ = some (.int .i64 x.mode) := by simpa using hc 0 (by simp) 1 _ rfl
  have c2 : w1.cell? ⟨b, off + 2, none⟩ = some (.int .i64 x.rev) := by simpa using hc 0 (by simp) 2 _ rfl
  have c3 : w1.cell? ⟨b, off + 3, none⟩ = some (.int .u64 x.it.key) := by simpa using hc 0 (by simp) 3 _ rfl
  have c4 : w1.cell? ⟨b, off + 4, none⟩ = some (.int .u32 x.it.ck) := by simpa using hc 0 (by simp) 4 _ rfl
  have c5 : w1.cell? ⟨b, off + 5, none⟩ = some (.int .i64 x.it.off) := by simpa using hc 0 (by simp) 5 _ rfl
  have c6 : w1.cell? ⟨b, off + 6, none⟩ = some (.int .i64 x.it.size) := by simpa using hc 0 (by simp) 6 _ rfl
  have hpos : 0 < (x :: F).length := by simp
  clear hc;generalize (x :: F).length = m at *;go_wp2_with fail;change bodyPost _ _ _ _ _ (pts w1 (w.heap.size + 1) (plL x));have hby := HP.all x;have HBz := zh (zD (B := w.heap.size) (b := w.heap.size + 1) (by omega) (plL x) HBe.out);generalize pts w1 (w.heap.size + 1) (plL x) = V at *;exact bodyPost_ret (v := .tuple #[plV x, .bool true]) (by simp [results, Tryz.results16, go_sem, hby.c0, hby.c1, hby.c2, hby.c3, hby.c4, hby.c5, hby.c6]) rfl ⟨rfl, HBz.out⟩
end Go.Proofs.YtcgfilmmokmdjaaGreat
