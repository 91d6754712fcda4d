/- A part of the walk. -/
import Derived.Test.YtcgfilmmokmdjaaGreatVw
import Derived.Test.YtcgfilmmokmdjaaGreatQAI
import Derived.Laws.Bits64
import Derived.Laws.Bits64b
import Derived.Test.YtcgfilmmokmdjaaGreatQAL
import Derived.RangeFuncBox
import Derived.RangeFuncLeaves
import Derived.Shelf.Abstract
import Derived.OwnWalkIn
import Derived.TacticsInMore
import Derived.LoopNIn
import Derived.LoopIn
import Derived.RangeFuncNested
set_option linter.all false
set_option maxRecDepth 100000
set_option maxHeartbeats 32000000
namespace Go.Proofs.YtcgfilmmokmdjaaGreat
open Go.RowKit
theorem yQ (i l : Int) (r : Bool) (a : Option Addr) (n c : Nat) (L : List GP) (w : World) (h : fq w (.slice a n c) L) (hs : ∀ p ∈ L, ∀ j, j < 8 → (p.1.m.st j).length ≤ 10000) :
  Calls Tryz.prog 47 #[zZ i l r a n c] w fun e w' => e = .returned (.bool (zg ⟨i, l, r, dZ L⟩)) ∧ Below w.heap.size w w' := by
 have fR : L.length = n := by
  obtain ⟨_, _, e, _⟩ := h.shape;injection e with _ e _; exact e.symm
 by_cases hA : 0 ≤ i ∧ i < 4 ∧ 4136 ≤ l ∧ l ≤ 262144
 ·
  by_cases hn : 1 ≤ n ∧ n ≤ 8
  ·
   exact zFV i l r a n c L w hA hn h hs
  have hf : zg ⟨i, l, r, dZ L⟩ = false := qM fun hv => hn (by have := hv.len; rw [zj, fR] at this; exact this)
  rw [hf];exact zFX i l r a n c w hA (by omega)
 have hf : zg ⟨i, l, r, dZ L⟩ = false := qM fun hv => hA ⟨hv.id.1, hv.id.2, hv.lim.1, hv.lim.2⟩
 rw [hf];exact zFG i l r a n c w hA
def xk (key : Int) : Int := bits .xor .u64 (bits .and .u64 key 4294967295) (key / 4294967296)
def B5 : List GP := [(fresh 1, Sl.nil)]
theorem NU (i l : Int) (r : Bool) (hA : 0 ≤ i ∧ i < 4 ∧ 4136 ≤ l ∧ l ≤ 262144) : zg ⟨i, l, r, dZ B5⟩ = true := by
 rw [zR];have hl : (dZ B5).length = 1 := rfl;have hg : eN (dZ B5) 0 = fresh 1 := rfl;refine ⟨⟨hA.1, hA.2.1⟩, hA.2.2, ⟨ai _, by show (1 : Nat) ≤ 8; decide⟩, fun k hk => ?_, ?_⟩
 ·
  have h0 : k = 0 := by
   have : k < 1 := hk;omega
  subst h0;refine ⟨by show wB (fresh 1) = true; rw [yD]; exact (k6 1).2 (by decide), fun h => absurd h (by decide), ⟨fun _ => rfl, fun _ => rfl⟩, ?_⟩
  show (16 : Int) ≤ 2 * l
  omega
 show (fresh 1).size + (((zI (fresh 1).m).length * 24 : Nat) : Int) ≤ 2 * l
 have hit : zI (fresh 1).m = [] := by
  unfold zI;rw [ag (k9 1)]
  rfl
 rw [hit]
 show (16 : Int) + 0 ≤ 2 * l
 omega
theorem NV {w : World} {b : Nat} (h : nw w b 0 (fresh 1, Sl.nil)) : fq w (.slice (some ⟨b, 0, none⟩) 1 1) B5 := by
 refine ⟨⟨fun x _ => qz x, ?_⟩, fun p hp => ?_⟩
 ·
  refine ⟨rfl, some ⟨b, 0, none⟩, 1, rfl, ai _, by unfold maxLen; decide, fun h => (by cases h), fun _ => ⟨b, 0, rfl, fun j u hj => ?_⟩⟩;have hj' : (gU (fresh 1, Sl.nil))[j]? = some u := by simpa [B5] using hj
  have hlt : j < 14 := (List.getElem?_eq_some_iff.1 hj').1;rw [aJ];rcases (show j = 0 ∨ j = 1 ∨ j = 2 ∨ j = 3 ∨ j = 4 ∨ j = 5 ∨ j = 6 ∨ j = 7 ∨ j = 8 ∨ j = 9 ∨ j = 10 ∨ j = 11 ∨ j = 12 ∨ j = 13 by omega) with e | e | e | e | e | e | e | e | e | e | e | e | e | e <;> subst e <;> injection hj' with hj' <;> subst hj'
  ·
   exact h.n0
  ·
   exact h.n1
  ·
   exact h.n2
  ·
   exact h.n3
  ·
   exact h.c0
  ·
   exact h.c1
  ·
   exact h.c2
  ·
   exact h.c3
  ·
   exact h.c4
  ·
   exact h.c5
  ·
   exact h.c6
  ·
   exact h.c7
  ·
   exact h.cl
  exact h.cg
 have : p = (fresh 1, Sl.nil) := by simpa [B5] using hp
 subst this;exact kA w
theorem zIo (i l : Int) (hA : 0 ≤ i ∧ i < 4 ∧ 4136 ≤ l ∧ l ≤ 262144) (w : World) : Calls Tryz.prog 63 #[.int .i64 i, .int .i64 l] w fun e w' => ∃ b, e = .returned (.tuple #[zZ i l false (some ⟨b, 0, none⟩) 1 1, .int .i64 0]) ∧ w.heap.size ≤ b ∧ nw w' b 0 (fresh 1, Sl.nil) ∧ Below w.heap.size w w' := by
 have HF := zh (fun W => Wu 1 (by decide) W)
 have HV := zh (fun b W (h : nw W b 0 (fresh 1, Sl.nil)) => yQ i l false (some ⟨b, 0, none⟩) 1 1 B5 W (NV h) (fun p hp j _ => by
  have : p = (fresh 1, Sl.nil) := by simpa [B5] using hp
  subst this
  exact au _))
 rw [NU i l false hA] at HV;have HB := zh (zN w 0 0 false none 0 0 27);have HR := zh (eT.new w 0 0 false none 0 0 27);clear hA
 go_enter Tryz.func63, Tryz.ntmps63
 go_wp2_with fail;refine (HF.out _).mono ?_;rintro e w1 ⟨rfl, hb1⟩;obtain ⟨W0, hW0⟩ : ∃ W0, w.alloc (.cells (zK 0 0 false none 0 0) 27) = W0 := ⟨_, rfl⟩
 have mF : Below (w.alloc (.cells (zK 0 0 false none 0 0) 27)).heap.size (w.alloc (.cells (zK 0 0 false none 0 0) 27)) w1 := hb1;rw [hW0] at mF HB HR;have eQ := zh (zA HB.out mF);have eY := zh (HR.out.below mF);clear hb1 mF HB HR hW0 HF;have G0 := eY.out.lt;generalize hb0 : w.heap.size = b0 at *;have E0 := zh hb0;clear hb0;generalize hnil : Sl.nil = s0 at *;have Da := zh hnil;clear hnil;go_upto_region 2 with fail;obtain ⟨W, hW⟩ : ∃ W, w1.alloc (.cells (zW 1 0 1 16 s0 0 0) 38) = W := ⟨_, rfl⟩
 have HX := zh (eA.new w1 1 0 1 16 s0 0 0 38);have eE := zh (zQ w1 1 0 1 16 s0 0 0 38);change Code.wp _ _ _ _ (w1.alloc (.cells (zW 1 0 1 16 s0 0 0) 38));rw [hW] at HX eE ⊢;clear hW;have fZ := zh (eY.out.below eE.out);have eP := zh (iP eQ.out (bM G0) eE.out);have G1 := HX.out.lt;obtain ⟨m0, m1, m2, m3, m4, m5, m6, m7, m8, m9, m10, m11, m12, m13⟩ := HX.out.q;go_upto_region 3 with fail;change Code.wp _ _ _ _ ((W.alloc (.cells (zW 1 0 1 16 s0 0 0) 38)).alloc (.cells (zK i l false (some ⟨W.heap.size, 0, none⟩) 1 1) 27));obtain ⟨W2, hW2⟩ : ∃ W2, W.alloc (.cells (zW 1 0 1 16 s0 0 0) 38) = W2 := ⟨_, rfl⟩
 have hz2 : W2.heap.size = W.heap.size + 1 := by rw [← hW2]; simp
 have iG := zh (show nw W2 W.heap.size 0 (fresh 1, s0) from hW2 ▸ nw.De (g := fresh 1) (eA.new W 1 0 1 16 s0 0 0 38));have B6 := zh (show Below W.heap.size W W2 from hW2 ▸ zQ W 1 0 1 16 s0 0 0 38);rw [hW2];clear hW2;obtain ⟨W3, hW3⟩ : ∃ W3, W2.alloc (.cells (zK i l false (some ⟨W.heap.size, 0, none⟩) 1 1) 27) = W3 := ⟨_, rfl⟩
 have sj := zh (show eT W3 (W.heap.size + 1) i l false (some ⟨W.heap.size, 0, none⟩) 1 1 from hz2 ▸ hW3 ▸ eT.new W2 i l false (some ⟨W.heap.size, 0, none⟩) 1 1 27);have oW := zh (show Below W2.heap.size W2 W3 from hW3 ▸ zN W2 i l false (some ⟨W.heap.size, 0, none⟩) 1 1 27);rw [hW3];clear hW3;have ES := zh (iG.out.below oW.out);have hab := zA B6.out oW.out;have mh := zh (fZ.out.below hab);have fV := zh (iP eP.out (bM fZ.out.lt) hab);have hl3 := sj.out.lt;have hbW : b0 < W.heap.size := fZ.out.lt;clear m0 m1 m2 m3 m4 m5 m6 m7 m8 m9 m10 m11 m12 m13 HX eE fZ eP iG B6 oW hab eY eQ G1 G0;obtain ⟨x0, x1, x2, x3⟩ := sj.out.q;generalize hgb : W.heap.size = gb at *;clear hgb;go_wp2_with fail;refine (HV.out _ _ ES.out).mono ?_;rintro e w4 ⟨rfl, hb4⟩;have ET := zh (ES.out.below hb4);have jF := zh (mh.out.below hb4);have nz := zh (sj.out.below hb4);have fQ := zh (iP fV.out (bM mh.out.lt) hb4)
 have hl4 := nz.out.lt;have Ru := jF.out.lt;clear x0 x1 x2 x3 hb4 ES mh sj fV HV hl3;obtain ⟨x0, x1, x2, x3⟩ := nz.out.q;obtain ⟨d0, d1, d2, d3⟩ := jF.out.q;have F := jF.out.f;have hne : b0 ≠ gb + 1 := by omega
 go_wp2_with fail;change bodyPost _ _ _ _ _ (pts w4 b0 (zJ i l false (some ⟨gb, 0, none⟩) 1 1));have hby := jF.out.all i l false (some ⟨gb, 0, none⟩) 1 1;have ek := zh (zD (B := b0) (ai _) (zJ i l false (some ⟨gb, 0, none⟩) 1 1) fQ.out);have H5 := zh (ET.out.eu (show gb ≠ b0 by omega) (zJ i l false (some ⟨gb, 0, none⟩) 1 1));generalize pts w4 b0 (zJ i l false (some ⟨gb, 0, none⟩) 1 1) = V at *;exact aw (v := .tuple #[zZ i l false (some ⟨gb, 0, none⟩) 1 1, .int .i64 0]) (by simp [results, Tryz.results63, go_sem, hby.c0, hby.c1, hby.c2, hby.c3]) rfl ⟨gb, rfl, by rw [E0.out]; omega, by rw [Da.out]; exact H5.out, by rw [E0.out]; exact ek.out⟩
structure nG where
 kind : Int
 lv : Value
 l : List (Nd × Value)
 gen : Int
 kv : Value
 keys : List Int
def Lk : nG := ⟨0, .slice none 0 0, [], 0, .slice none 0 0, []⟩
instance : Inhabited nG := ⟨Lk⟩
def NW (x : nG) : List Value := [.int .i64 x.kind, x.lv, .int .i64 x.gen, x.kv]
theorem zKn (x : nG) : (NW x).length = 4 := rfl
def kB (l : List nG) (i : Nat) : nG := l.getD i Lk
theorem zJT {l : List nG} {i : Nat} (h : i < l.length) : kB l i ∈ l := by
 unfold kB;rw [ax, aB h]; exact bI h
noncomputable def vV (s : eL) (r : Int × Gn) : eL := if r.1 = 0 ∧ (yb s r.2).2 = 0 then (yb s r.2).1 else s
noncomputable def Ll (s : eL) (kd : Int) (ns : List Nd) (gen : Int) (keys : List Int) : eL :=
 if kd = 2 then (if (xO s).2 = 0 then (xO s).1 else s)
 else if kd = 3 then vV s (ye (eN s.dU (gen % (s.dU.length : Int)).toNat) (keys.take 8))
 else vV s (yt (zS s) (Jy ns))
noncomputable def zLu (s : eL) (x : nG) : eL := Ll s (bits .and .i64 x.kind 3) (x.l.map (·.1)) x.gen x.keys
def B7 : eL := ⟨1, 9000, false, [fresh 1]⟩
noncomputable def zLO (s : eL) (l : List nG) : eL := l.foldl zLu s
noncomputable def zMS (l : List nG) : eL := zLO B7 (l.take 8)
theorem th {l : List Gn} {i : Nat} (h : i < l.length) : eN l i ∈ l := by
 unfold eN;rw [ax, aB h]; exact bI h
def eV (k : Nat) (l : List Gn) : Prop := ∀ g ∈ l, ∀ i, i < 8 → (g.m.st i).length ≤ k
def zMA (k : Int) (l : List Gn) : Prop := ∀ g ∈ l, g.size ≤ k
theorem eV.mono {k k' : Nat} {l : List Gn} (h : eV k l) (hk : k ≤ k') : eV k' l := fun g hg i hi => ak (h g hg i hi) hk
theorem Rv {l : List Gn} {g x : Gn} (h : x ∈ uV l g) : x ∈ l ∨ x = g := by
 obtain ⟨y, hy, e⟩ := List.mem_map.1 h
 by_cases c : y.num = g.num
 ·
  rw [ag c] at e; exact .inr e.symm
 rw [ah c] at e; exact .inl (e ▸ hy)
theorem zJE (l : List Gn) (g : Gn) : (uV l g).length = l.length := aI ..
theorem NY {s : eL} {g : Gn} (h : (yb s g).2 = 0) : (yb s g).1 = ⟨s.id, s.lim, s.ro, uV s.dU g⟩ := by
 unfold yb at h ⊢
 by_cases hv : zg s = true
 ·
  rw [ag hv] at h ⊢
  by_cases hn : (s.dU.any fun x => decide (x.num = g.num)) = true
  ·
   rw [ag hn] at h ⊢
   by_cases hw : zg ⟨s.id, s.lim, s.ro, uV s.dU g⟩ = true
   ·
    rw [ag hw]
   rw [ah hw] at h; cases h
  rw [ah hn] at h; cases h
 rw [ah hv] at h; cases h
theorem Xx {s : eL} (h : (xO s).2 = 0) : (xO s).1 = ⟨s.id, s.lim, s.ro, s.dU.take (s.dU.length - 1) ++ [{ zS s with mode := 2 }, fresh ((zS s).num + 1)]⟩ := by
 unfold xO at h ⊢
 by_cases hv : zg s = true
 ·
  rw [ag hv] at h ⊢
  by_cases hn : (zS s).num < 8
  ·
   rw [ag hn]
  rw [ah hn] at h; cases h
 rw [ah hv] at h; cases h
theorem uX {s : eL} (h : eo s) : zS s ∈ s.dU := th (by have := h.len; omega)
theorem zK2 (l : List Nd) : ic (Jy l) ≤ 400 := by
 have key : ∀ k : List Nd, (∀ x ∈ k, x.data.length ≤ 30) → ic k ≤ k.length * 56 := by
  intro k
  induction k with
  | nil => intro _; exact au _
  | cons x r ih =>
   intro h;have h1 := ih fun y hy => h y (by simp [hy])
   have h2 := h x (by simp);have h3 : eM x.data.length ≤ 56 := by rw [J4 (by omega)]; unfold oQ; omega
   rw [wu, aX]; omega
 have h1 := key _ (zG0 l);have h2 := Xu l;omega
theorem kI {g : Gn} {l : List Nd} (h : (yt g l).1 = 0) : (yt g l).2 = zb g l := by
 unfold yt at h ⊢
 split
 ·
  rename_i h1;rw [ag h1] at h
  split
  ·
   rename_i h2;rw [ag h2] at h
   split
   ·
    rfl
   rename_i h3; rw [ah h3] at h; cases h
  rename_i h2; rw [ah h2] at h; cases h
 rename_i h1; rw [ah h1] at h; cases h
theorem Xy {g : Gn} {l : List Int} (h : (ye g l).1 = 0) : (ye g l).2 = { g with m := l.foldl yJ g.m } := by
 unfold ye at h ⊢
 split
 ·
  rename_i h1;rw [ag h1] at h
  split
  ·
   rename_i h2; rw [ag h2] at h; cases h
  rfl
 rename_i h1; rw [ah h1] at h; cases h
structure iI (n : Nat) (s : eL) : Prop where
 v : eo s
 id : s.id = 1
 lim : s.lim = 9000
 ro : s.ro = false
 len : eV (6 * n) s.dU
 FY : zMA (16 + 400 * (n : Int)) s.dU
theorem zF1 : iI 0 B7 := by
 refine ⟨(zR _).1 (NU 1 9000 false (by decide)), rfl, rfl, rfl, fun g hg i _ => ?_, fun g hg => ?_⟩
 ·
  obtain rfl := List.mem_singleton.1 hg;exact au _
 obtain rfl := List.mem_singleton.1 hg
 show (16 : Int) ≤ _
 omega
theorem iI.up {n : Nat} {s : eL} (h : iI n s) : iI (n + 1) s := ⟨h.v, h.id, h.lim, h.ro, h.len.mono (by omega), fun g hg => by have := h.FY g hg; omega⟩
theorem iI.NZ {n : Nat} {s : eL} (h : iI n s) {g : Gn} (hc : (yb s g).2 = 0) (hl : ∀ i, i < 8 → (g.m.st i).length ≤ 6 * (n + 1)) (hz : g.size ≤ 16 + 400 * ((n + 1 : Nat) : Int)) : iI (n + 1) (yb s g).1 := by
 have hv := zJF hc;rw [NY hc] at hv ⊢;refine ⟨hv, h.id, h.lim, h.ro, fun x hx i hi => ?_, fun x hx => ?_⟩
 ·
  rcases Rv hx with hx | rfl
  ·
   exact ak (h.len x hx i hi) (by omega)
  exact hl i hi
 rcases Rv hx with hx | rfl
 ·
  have := h.FY x hx; omega
 exact hz
theorem Xz {n : Nat} {s : eL} (h : iI n s) (kd : Int) (ns : List Nd) (gen : Int) (keys : List Int) : iI (n + 1) (Ll s kd ns gen keys) := by
 unfold Ll
 split
 ·
  split
  ·
   rename_i hr;have hv := zJv hr;rw [Xx hr] at hv ⊢;refine ⟨hv, h.id, h.lim, h.ro, fun x hx i hi => ?_, fun x hx => ?_⟩
   ·
    rcases List.mem_append.1 hx with hx | hx
    ·
     exact ak (h.len x (bN hx) i hi) (by omega)
    simp only [cB, cC, or_false] at hx;rcases hx with rfl | rfl
    ·
     exact ak (h.len _ (uX h.v) i hi) (by omega)
    exact au _
   rcases List.mem_append.1 hx with hx | hx
   ·
    have := h.FY x (bN hx); omega
   simp only [cB, cC, or_false] at hx;rcases hx with rfl | rfl
   ·
    have := h.FY _ (uX h.v); dsimp only; omega
   show (16 : Int) ≤ _; omega
  exact h.up
 split
 ·
  unfold vV
  split
  ·
   rename_i hr;obtain ⟨h1, h2⟩ := hr
   have hg : eN s.dU (gen % (s.dU.length : Int)).toNat ∈ s.dU := th (by
    have h1 := h.v.len
    have h2 := Int.emod_lt_of_pos gen (show (0 : Int) < (s.dU.length : Int) by omega)
    have h3 := Int.emod_nonneg gen (show (s.dU.length : Int) ≠ 0 by omega)
    omega)
   refine h.NZ h2 ?_ ?_
   ·
    rw [Xy h1];intro i hi;exact ak (wI _ _ (h.len _ hg) i hi) (by omega)
   rw [Xy h1];have := h.FY _ hg;dsimp only; omega
  exact h.up
 unfold vV
 split
 ·
  rename_i hr;obtain ⟨h1, h2⟩ := hr;have hg := uX h.v;refine h.NZ h2 ?_ ?_
  ·
   rw [kI h1];intro i hi;have := wL (Jy ns) _ (h.len _ hg) i hi;have := Xu ns;omega
  rw [kI h1, wP];have := h.FY _ hg;have := zK2 ns;omega
 exact h.up
theorem zHH (i l : Int) (r : Bool) (a : Option Addr) (n c : Nat) (L : List GP) (w : World) (h : fq w (.slice a n c) L) (hs : ∀ p ∈ L, ∀ j, j < 8 → (p.1.m.st j).length ≤ 10000) (hv : zg ⟨i, l, r, dZ L⟩ = true) (m : Nat) (hm : m ≤ 4096) :
  Calls Tryz.prog 36 #[zZ i l r a n c, .int .i64 (m : Int)] w fun e w' => e = .returned (.bool (decide ((pat L (n - 1)).1.size + ((eM m : Nat) : Int) ≤ l))) ∧ Below w.heap.size w w' := by
 have hV := (zR _).1 hv;have fR : L.length = n := by
  obtain ⟨_, _, e, _⟩ := h.shape;injection e with _ e _; exact e.symm
 have hl : (dZ L).length = n := by rw [zj, fR]
 have hn : 1 ≤ n ∧ n ≤ 8 := by have := hV.len; simp only [hl] at this; exact this
 obtain ⟨j, rfl⟩ : ∃ j, n = j + 1 := ⟨n - 1, by omega⟩
 have hg := hV.vg (i := j) (by show j < (dZ L).length; omega);simp only [yu] at hg;have hz1 := hg.size.1;have hz2 := hg.size.2.1;have gu := zh (fun W (hb : Below w.heap.size w W) => yQ i l r a (j + 1) c L W (h.below hb) hs);rw [hv] at gu;have HZ := zh (fun W => (Kk m W).mono (R' := fun e w' => e = .returned (.int .i64 ((eM m : Nat) : Int)) ∧ Below W.heap.size W w') fun _ _ ⟨he, hw⟩ => ⟨he, hw ▸ aj _ _⟩);have afh : eM m ≤ 4127 := xx m;have CB : j + 1 - 1 = j := by omega
 rw [CB];have HR := zh h;have eE := zh (eT.new w i l r a (j + 1) c 27);have eD := zh (zN w i l r a (j + 1) c 27);have e1 : decide ((m : Int) < 0) = false := by simp
 have e2 : decide ((4096 : Int) < (m : Int)) = false := by simp; omega
 clear hV fR hl hg hv h hs CB;generalize eM m = z at *;obtain ⟨b, off, rfl, hg⟩ := HR.out.at (show j < j + 1 by omega);have HG := zh hg;clear hg HR;generalize pat L j = p at *;obtain ⟨⟨num, rev, md, sz, f, LV, GA⟩, s⟩ := p;dsimp only at *
 go_enter Tryz.func36, Tryz.ntmps36
 go_upto_region 1 with fail;obtain ⟨W, hW⟩ : ∃ W, w.alloc (.cells (zK i l r (some ⟨b, off, none⟩) (j + 1) c) 27) = W := ⟨_, rfl⟩
 change Code.wp _ _ _ _ (w.alloc (.cells (zK i l r (some ⟨b, off, none⟩) (j + 1) c) 27));rw [hW] at eE eD ⊢;clear hW;have rE := eE.out.lt;obtain ⟨k0, k1, k2, k3⟩ := eE.out.q;go_wp2_with fail;refine (gu.out _ eD.out).mono ?_;rintro e w1 ⟨rfl, hb1⟩;clear k0 k1 k2 k3;have eQ := zh (zA eD.out hb1);have fp := zh (eE.out.below hb1);have pX := zh (HG.out.below eQ.out);have pR := fp.out.lt;clear hb1 eD eE HG gu;have j3 : IntKind.i64.wrap (j : Int) = (j : Int) := aH _ (by omega);have i2 : (j : Int) < ((j + 1 : Nat) : Int) := by omega
 have j5 : IntKind.i64.wrap (sz + (z : Int)) = sz + (z : Int) := aH _ (by omega);go_wp2_with fail;have v1 := zB fp.out.c1;have v3 := zB fp.out.c3;have g3 := zB pX.out.n3;dsimp only at g3;refine zC (by kernel_rfl) (by kernel_rfl) ?_
 repeat (go_big_quiet_step ((exact zG (HZ.out _))))
 refine aC ?_;intro _ hw';obtain ⟨q, hw'⟩ := hw';subst hw';have HQ := zh (zA eQ.out q.h);clear v1 v3 g3;go_wp2_with fail;go_ret;exact ⟨rfl, HQ.out⟩
end Go.Proofs.YtcgfilmmokmdjaaGreat
namespace Go.Proofs.YtcgfilmmokmdjaaGreat
open Go.RowKit Go.Shelf
attribute [local go_sem] Oper.semAt_some
def yv (len k : Nat) : List Nat := (List.range k).map fun j => len - 1 - j
theorem vz (len k : Nat) : yv len (k + 1) = yv len k ++ [len - 1 - k] := by simp [yv, List.range_succ]
theorem wk (len k : Nat) : (yv len k).length = k := by simp [yv]
def Bt (n₀ Bs : Nat) (W W' : World) : Prop := Below n₀ W W' ∧ ∀ v, W.cell? ⟨Bs, 0, none⟩ = some v → W'.cell? ⟨Bs, 0, none⟩ = some v
theorem Bt.refl (n₀ Bs : Nat) (W : World) : Bt n₀ Bs W W := ⟨aj _ _, fun _ h => h⟩
theorem Bt.trans {n₀ Bs : Nat} {A B C : World} (h : Bt n₀ Bs A B) (k : Bt n₀ Bs B C) : Bt n₀ Bs A C := ⟨h.1.trans k.1, fun v hv => k.2 v (h.2 v hv)⟩
theorem Bt.put {n₀ Bs : Nat} {w : World} (hn : n₀ ≤ w.heap.size) (hB : Bs < w.heap.size) (W : World) (l : Nat) (o o' : Obj) (hl : w.heap.size ≤ l) (h : W.heap[l]? = some o) (h1 : o.isCells = false) (h2 : o.isWalk = false) : Bt n₀ Bs W (W.putObj l o') :=
 ⟨belowK_b hn W l o o' hl h h1 h2, fun v hv => ((belowK_b (n₀ := Bs + 1) (w := w) (by omega) W l o o' hl h h1 h2).cell (p := ⟨Bs, 0, none⟩) (dA _)).trans hv⟩
theorem zIF (F : Fence) (n : Nat) (hf : F.fn 143) (hro : F.round = none) (hn : 1 ≤ n) (l Bs n₀ b off len cap : Nat) (L : List GP) (hlen : len ≤ 8) (hb : b < n₀) (J Jx : List Nat → World → Prop)
  (hY : ∀ pre (x : Nat) W, J pre W → pre.length < len → YieldAt F (n - 1) Tryz.prog l #[.int .i64 (x : Int), Rl (pat L x)] W fun e W' =>
   (e = .returned (.bool true) ∧ J (pre ++ [x]) W' ∧ Bt n₀ Bs W W') ∨ (e = .returned (.bool false) ∧ Jx (pre ++ [x]) W'))
  (W : World) (D9 : W.cell? ⟨Bs, 0, none⟩ = some (.slice (some ⟨b, off, none⟩) len cap)) (hc : ∀ j, j < len → nw W b (off + j * 14) (pat L j)) (h0 : J [] W) :
  CallsIn F n Tryz.prog 143 #[.func (.yield l) #[] #[], .pointer (some ⟨Bs, 0, none⟩)] W fun e W' => (∃ v, e = .returned v) ∧
   ((∃ ys, ys = yv len len ∧ J ys W') ∨ (∃ pre, (∃ k, k ≤ len ∧ pre = yv len k) ∧ Jx pre W')) := by
 refine callsIn_of_wp Tryz.func143 rfl hf ?_ hro;simp only [Tryz.ntmps143, bZ, aX, dI, Nat.reduceAdd, Nat.reduceSub, Array.replicate_succ, Array.replicate_zero, List.push_toArray, List.append_toArray, bT, List.cons_append]
 gi_wp2
 gi_loopw [3] (fun i wr => ∃ k : Nat, k ≤ len ∧ i = .int .i64 ((len : Int) - 1 - (k : Int)) ∧ J (yv len k) wr ∧ Bt n₀ Bs W wr)
  (fun i _ => (intOf i + 1).toNat)
 case atStart => exact ⟨0, au _, by simp [aH _ (show -9223372036854775808 ≤ (len : Int) - 1 ∧ (len : Int) - 1 ≤ 9223372036854775807 by omega)], h0, Bt.refl _ _ _⟩
 obtain ⟨k, hk, rfl, hJs, ng⟩ := hrel;have hBk := ng.2 _ D9
 by_cases hlt : k < len
 ·
  obtain ⟨j, hj⟩ : ∃ j, k + 1 + j = len := ⟨len - 1 - k, by omega⟩
  have hjk : len - 1 - k = j := by omega
  obtain ⟨fn, tmps, assign, body, hy, hR⟩ := hY _ (len - 1 - k) wr hJs (by rw [wk]; exact hlt);have ej : (len : Int) - 1 - (k : Int) = (j : Int) := by omega
  rw [ej];rw [hjk] at hy hR;have i2 : (j : Int) < (len : Int) := by omega
  have g0 := (ng.1.cell (p := ⟨b, off + j * 14, none⟩) hb).trans (hc j (by omega)).n0;have g1 := (ng.1.cell (p := ⟨b, off + j * 14 + 1, none⟩) hb).trans (hc j (by omega)).n1;have g2 := (ng.1.cell (p := ⟨b, off + j * 14 + 2, none⟩) hb).trans (hc j (by omega)).n2;have g3 := (ng.1.cell (p := ⟨b, off + j * 14 + 3, none⟩) hb).trans (hc j (by omega)).n3;have g4 := (ng.1.cell (p := ⟨b, off + j * 14 + 4, none⟩) hb).trans (hc j (by omega)).c0;have g5 := (ng.1.cell (p := ⟨b, off + j * 14 + 5, none⟩) hb).trans (hc j (by omega)).c1;have g6 := (ng.1.cell (p := ⟨b, off + j * 14 + 6, none⟩) hb).trans (hc j (by omega)).c2;have g7 := (ng.1.cell (p := ⟨b, off + j * 14 + 7, none⟩) hb).trans (hc j (by omega)).c3;have g8 := (ng.1.cell (p := ⟨b, off + j * 14 + 8, none⟩) hb).trans (hc j (by omega)).c4;have g9 := (ng.1.cell (p := ⟨b, off + j * 14 + 9, none⟩) hb).trans (hc j (by omega)).c5
  have g10 := (ng.1.cell (p := ⟨b, off + j * 14 + 10, none⟩) hb).trans (hc j (by omega)).c6;have g11 := (ng.1.cell (p := ⟨b, off + j * 14 + 11, none⟩) hb).trans (hc j (by omega)).c7;have g12 := (ng.1.cell (p := ⟨b, off + j * 14 + 12, none⟩) hb).trans (hc j (by omega)).cl;have g13 := (ng.1.cell (p := ⟨b, off + j * 14 + 13, none⟩) hb).trans (hc j (by omega)).cg
  gi_wp2
  refine hR.mono ?_;rintro e W3 (⟨rfl, hJ3, hk3⟩ | ⟨rfl, hJx3⟩)
  ·
   gi_wp2
   go_roundw
   case rel => exact ⟨k + 1, by omega, by first | (simp; done) | (simp; omega), by rw [vz, hjk]; exact hJ3, ng.trans hk3⟩
   case measure => first | (simp [intOf]; done) | (simp [intOf]; omega)
  gi_wp2
  refine aw (results_none rfl _ _ _) rfl ?_;exact ⟨⟨_, rfl⟩, .inr ⟨_, ⟨k + 1, by omega, by rw [vz, hjk]⟩, hJx3⟩⟩
 obtain rfl : k = len := by omega
 have ej : (k : Int) - 1 - (k : Int) = -1 := by omega
 rw [ej]
 gi_wp2
 go_end0;exact ⟨⟨_, rfl⟩, .inl ⟨_, rfl, hJs⟩⟩
end Go.Proofs.YtcgfilmmokmdjaaGreat
namespace Go.Proofs.YtcgfilmmokmdjaaGreat
open Go.RowKit Go.Shelf
theorem zDC (a : Option Addr) (n c : Nat) (w : World) : Calls Tryz.prog 105 #[.slice a n c] w fun e w' => e = .returned (.func (.func 143) #[] #[.pointer (some ⟨w.heap.size, 0, none⟩)]) ∧ w' = w.alloc (.cells #[.slice a n c] 25) := by
 go_enter Tryz.func105, Tryz.ntmps105
 go_wp2_with fail;go_ret;exact ⟨rfl, rfl⟩
theorem zFh (F : Fence) (n : Nat) (hf : F.fn 143) (hro : F.round = none) (hn : 1 ≤ n) (Bs n₀ b off len cap : Nat) (L : List GP) (hlen : len ≤ 8) (hb : b < n₀) (w : World)
  (D9 : w.cell? ⟨Bs, 0, none⟩ = some (.slice (some ⟨b, off, none⟩) len cap)) (hc : ∀ j, j < len → nw w b (off + j * 14) (pat L j)) :
  SeqStopsK F n Tryz.prog 143 #[.pointer (some ⟨Bs, 0, none⟩)] (fun x : Nat => #[.int .i64 (x : Int), Rl (pat L x)]) (Bt n₀ Bs) (fun ys => ys = yv len len) (fun pre => ∃ k, k ≤ len ∧ pre = yv len k) len w := fun l J Jx W hW _ _ hY h0 =>
 zIF F n hf hro hn l Bs n₀ b off len cap L hlen hb J Jx hY W (hW.keeps' D9) (fun j hj => (hc j hj).below hW) h0
end Go.Proofs.YtcgfilmmokmdjaaGreat
namespace Go.Proofs.YtcgfilmmokmdjaaGreat
open Go.RowKit
def B9 (x : jT) : List Value := [.int .i64 x.gen, .int .i64 x.mode, .int .i64 x.rev, .int .u64 x.it.key, .int .u32 x.it.ck, .int .i64 x.it.off, .int .i64 x.it.size, .int .i64 (x.at_ : Int)]
theorem zKp (x : jT) : (B9 x).length = 8 := rfl
theorem zLZ : (Tryz.prog.info? 138).map (fun i => (i.zero, i.size, i.bytes)) = some (some (.agg #[.int .i64 0, .int .i64 0, .int .i64 0, .int .u64 0, .int .u32 0, .int .i64 0, .int .i64 0, .int .i64 0]), 8, 64) := by kernel_rfl
abbrev EU (w : World) (v : Value) (l : List jT) : Prop := iy 8 B9 w v l
abbrev Bu (w : World) (base : Nat) (v : Value) (l : List jT) : Prop := w.ownsRow base 138 8 v l.length (l.flatMap B9)
theorem zLN (i l : Int) (r : Bool) (a : Option Addr) (n c : Nat) (L : List GP) (w : World) (h : fq w (.slice a n c) L) (hs : ∀ p ∈ L, ∀ j, j < 8 → (p.1.m.st j).length ≤ 10000) (hv : zg ⟨i, l, r, dZ L⟩ = false) (key : Int) :
  Calls Tryz.prog 62 #[zZ i l r a n c, .int .u64 key] w fun e w' => e = .returned (.slice none 0 0) ∧ Below w.heap.size w w' := by
 have gu := zh (fun W (hb : Below w.heap.size w W) => yQ i l r a n c L W (h.below hb) hs);rw [hv] at gu;have eE := zh (eT.new w i l r a n c 27);have eD := zh (zN w i l r a n c 27);clear hv h hs
 go_enter Tryz.func62, Tryz.ntmps62
 go_upto_region 1 with fail;obtain ⟨W, hW⟩ : ∃ W, w.alloc (.cells (zK i l r a n c) 27) = W := ⟨_, rfl⟩
 change Code.wp _ _ _ _ ((w.alloc (.cells (zK i l r a n c) 27)).alloc (.cells #[.int .u64 key] 24));rw [hW] at eE eD ⊢;clear hW;have rE := eE.out.lt;have eQ := zh (eD.out.alloc eD.out.size (.cells #[.int .u64 key] 24));have fp := zh (eE.out.below ((aj _ W).alloc (ai _) (.cells #[.int .u64 key] 24)));obtain ⟨k0, k1, k2, k3⟩ := fp.out.q;go_wp2_with fail;refine (gu.out _ eQ.out).mono ?_;rintro e w1 ⟨rfl, hb1⟩;have eP := zh (zA eQ.out hb1);clear hb1 k0 k1 k2 k3;go_wp2_with fail;go_ret;exact ⟨rfl, eP.out⟩
end Go.Proofs.YtcgfilmmokmdjaaGreat
namespace Go.Proofs.YtcgfilmmokmdjaaGreat
open Go.RowKit Go.Shelf
attribute [local go_sem] Oper.semAt_some
def qQ (l : List Gn) (key : Int) (pre : List Nat) : List jT := pre.flatMap fun n => match ze (eN l n).m key with | some x => [⟨(eN l n).num, (eN l n).mode, (eN l n).rev, x, n⟩] | none => []
theorem zIB {l : List Gn} {key : Int} (pre : List Nat) {n : Nat} {x : It} (h : ze (eN l n).m key = some x) : qQ l key (pre ++ [n]) = qQ l key pre ++ [⟨(eN l n).num, (eN l n).mode, (eN l n).rev, x, n⟩] := by simp [qQ, h]
theorem zHe {l : List Gn} {key : Int} (pre : List Nat) {n : Nat} (h : ze (eN l n).m key = none) : qQ l key (pre ++ [n]) = qQ l key pre := by simp [qQ, h]
theorem zJH (l : List Gn) (key : Int) (pre : List Nat) : (qQ l key pre).length ≤ pre.length := by
 induction pre with
 | nil => exact ai _
 | cons n pre ih =>
  have e : qQ l key (n :: pre) = (match ze (eN l n).m key with | some x => [⟨(eN l n).num, (eN l n).mode, (eN l n).rev, x, n⟩] | none => []) ++ qQ l key pre := rfl;rw [e, aA, aX];have : (match ze (eN l n).m key with | some x => [(⟨(eN l n).num, (eN l n).mode, (eN l n).rev, x, n⟩ : jT)] | none => []).length ≤ 1 := by
   cases ze (eN l n).m key <;> simp
  omega
theorem zEz (n : Nat) : yv (n + 1) (n + 1) = n :: yv n n := by
 unfold yv;rw [List.range_succ_eq_map, List.map_cons, List.map_map, List.cons.injEq];refine ⟨by omega, List.map_congr_left fun j _ => ?_⟩;simp only [Function.comp_apply]; omega
theorem XA (l : List Gn) (key : Int) : ∀ n, qQ l key (yv n n) = xu l key n
 | 0 => rfl
 | n + 1 => by
  have ih := XA l key n;rw [zEz, xu, ← ih]
  rfl
theorem XB {l : List Gn} {key : Int} : ∀ n, ∀ x ∈ xu l key n, x.at_ < n
 | 0, x, h => by cases h
 | n + 1, x, h => by
  rw [xu] at h;rcases List.mem_append.1 h with h | h
  ·
   cases e : ze (eN l n).m key with
   | none => rw [e] at h; cases h
   | some y => rw [e] at h; rw [List.mem_singleton.1 h]; exact dA n
  exact Nat.lt_succ_of_lt (XB n x h)
theorem XC {W W' : World} (h : Below W.heap.size W W') : KeepsOthers W W' := ⟨h.size, fun k o hk _ => (h.block k (Array.getElem?_eq_some_iff.1 hk).1).trans hk⟩
theorem zHD {W W' : World} {b : Nat} {n r md z : Int} {s : Sl} {l g : Int} {row : Option Nat} (h : eA W b n r md z s l g) (hg : W.grownBy W' row) (hrow : ∀ r, row = some r → ∃ o : Obj, W.heap[r]? = some o ∧ o.isCells = false) : eA W' b n r md z s l g :=
 ⟨cell_kept h.n0 hg hrow, cell_kept h.n1 hg hrow, cell_kept h.n2 hg hrow, cell_kept h.n3 hg hrow, fun j hj => cell_kept (h.c j hj) hg hrow, cell_kept h.cl hg hrow, cell_kept h.cg hg hrow, fun i => by
  obtain ⟨o, ho, hc⟩ := cells_of_cell h.n0
  have e := grownBy_keeps_cells hg hrow ho hc
  have e2 := h.f i
  unfold World.frozen? at e2 ⊢
  rw [e]; exact e2⟩
theorem _root_.Go.Boxed.below {W W' : World} {B : Nat} {t : TypeId} {v : Value} (h : Boxed W B t v) (hb : Below W.heap.size W W') : Boxed W' B t v := (hb.block _ h.lt).trans h
theorem XD (W : World) (cs : List Value) (e : TypeId) : ∀ j u, cs[j]? = some u → (W.alloc (.cells cs.toArray e)).cell? ((⟨W.heap.size, 0, none⟩ : Addr).add j) = some u := fun j u h => by
 rw [yP, aJ];have h0 := World.alloc_heap_new W (.cells cs.toArray e);simp only [World.cell?, h0, List.getElem?_toArray];exact h
theorem zJq (W : World) (k : Nat) (hk : W.heap.size = k) (cs : List Value) (e : TypeId) : ∀ j u, cs[j]? = some u → (W.alloc (.cells cs.toArray e)).cell? ((⟨k, 0, none⟩ : Addr).add j) = some u := by subst hk; exact XD W cs e
theorem zLh (x : jT) : ∀ u ∈ B9 x, u.oneCell' = true := by
 intro u hu;simp only [B9, cB, cC, or_false] at hu;rcases hu with h | h | h | h | h | h | h | h <;> rw [h] <;> rfl
theorem zLK {w : World} {v : Value} {L : List GP} (h : fq w v L) (x : Nat) : fw w (pat L x).2 (pat L x).1.m.st := by
 by_cases hx : x < L.length
 ·
  exact h.m _ (yd hx)
 have e : pat L x = H4 := by unfold pat; rw [ax, List.getElem?_eq_none (by omega)]; rfl
 rw [e]; exact kA w
theorem zK0 {L : List GP} (hs : ∀ p ∈ L, ∀ j, j < 8 → (p.1.m.st j).length ≤ 10000) (x : Nat) : ∀ j, j < 8 → ((pat L x).1.m.st j).length ≤ 10000 := by
 by_cases hx : x < L.length
 ·
  exact hs _ (yd hx)
 have e : pat L x = H4 := by unfold pat; rw [ax, List.getElem?_eq_none (by omega)]; rfl
 rw [e]; intro j _; exact au _
theorem zKU (i l : Int) (r : Bool) (a : Option Addr) (n c : Nat) (L : List GP) (w : World) (h : fq w (.slice a n c) L) (hs : ∀ p ∈ L, ∀ j, j < 8 → (p.1.m.st j).length ≤ 10000) (hv : zg ⟨i, l, r, dZ L⟩ = true) (key : Int) :
  Calls Tryz.prog 62 #[zZ i l r a n c, .int .u64 key] w fun e w' => ∃ v, e = .returned v ∧ Bu w' w.heap.size v (xu (dZ L) key n) ∧ Below w.heap.size w w' := by
 obtain ⟨Ae, mZ⟩ := ((zR _).1 hv).len;dsimp only at Ae mZ;rw [zj] at Ae mZ;obtain rfl : n = L.length := by obtain ⟨a', cap', e, _⟩ := h.shape; injection e
 obtain ⟨b, off, rfl, hg0⟩ := h.at (show 0 < L.length by omega);have HG := zh (fun j (hj : j < L.length) => h.Lj hj);have hb := cI w _ hg0.n0;have Rw := fun W (hb : Below w.heap.size w W) => yQ i l r (some ⟨b, off, none⟩) L.length c L W (h.below hb) hs
 have H6 := zh (fun W (hb : Below w.heap.size w W) (x : Nat) => VP (pat L x).2 (pat L x).1.m key W ((zLK h x).below hb) (zK0 hs x));rw [hv] at Rw;clear hg0 h hs;obtain ⟨i0, hi, hz0, hz1, hz2⟩ := cn zLZ;refine (callsIn_wide (n := 20)).1 (callsIn_of_wp_marks Tryz.func62 rfl trivial ?_ rfl);simp only [Tryz.ntmps62, bZ, aX, dI, Nat.reduceAdd, Nat.reduceSub, Array.replicate_succ, Array.replicate_zero, List.push_toArray, List.append_toArray, bT, List.cons_append];have Dh := eT.new w i l r (some ⟨b, off, none⟩) L.length c 27;have nE := zN w i l r (some ⟨b, off, none⟩) L.length c 27;have N0 := Boxed.new (w.alloc (.cells (zK i l r (some ⟨b, off, none⟩) L.length c) 27)) 24 (.int .u64 key);rw [cH] at N0
 gi_wp2_with (first | (refine ⟨trivial, ?_⟩; gi_at_call 47; refine (callsIn_wide.2 (Rw _ (nE.alloc (by simp) _))).mono ?_; rintro e w1 ⟨rfl, hb1⟩; have hB1 := zA (nE.alloc (by simp) (.cells #[.int .u64 key] 24)) hb1; have k3 := (((Dh.below ((aj _ _).alloc (ai _) (.cells #[.int .u64 key] 24))).below hb1).below ((aj _ w1).alloc (ai _) (.cells #[.slice none 0 0] 135))).c3; have H7 : Boxed w1 (w.heap.size + 1) 24 (.int .u64 key) := (hb1.block _ N0.lt).trans N0; clear hb1 Dh nE N0) | (refine ⟨trivial, ?_⟩; gi_at_call 105; refine (callsIn_wide.2 (zDC _ _ _ _)).mono ?_; rintro e w' ⟨rfl, rfl⟩; clear k3))
 clear Rw;have bO := (Boxed.new w1 135 (.slice none 0 0)).alloc (.cells #[.slice (some ⟨b, off, none⟩) L.length c] 25);have bS := Boxed.new (w1.alloc (.cells #[.slice none 0 0] 135)) 25 (.slice (some ⟨b, off, none⟩) L.length c);have bK := (H7.alloc (.cells #[.slice none 0 0] 135)).alloc (.cells #[.slice (some ⟨b, off, none⟩) L.length c] 25);have pR := H7.lt;simp only [cH] at bS;have hB2 : Below w.heap.size w ((w1.alloc (.cells #[.slice none 0 0] 135)).alloc (.cells #[.slice (some ⟨b, off, none⟩) L.length c] 25)) := (hB1.alloc hB1.size _).alloc (by have := hB1.size; simp; omega) _;have hsz : ((w1.alloc (.cells #[.slice none 0 0] 135)).alloc (.cells #[.slice (some ⟨b, off, none⟩) L.length c] 25)).heap.size = w1.heap.size + 2 := by simp
 obtain ⟨Bo, N1⟩ : ∃ Bo, w1.heap.size = Bo := ⟨_, rfl⟩
 obtain ⟨W0, hW0⟩ : ∃ W0, (w1.alloc (.cells #[.slice none 0 0] 135)).alloc (.cells #[.slice (some ⟨b, off, none⟩) L.length c] 25) = W0 := ⟨_, rfl⟩
 rw [N1] at bO bS hsz pR ⊢;rw [hW0] at bO bS bK hB2 hsz ⊢;clear hW0 H7 N1 hB1;clear w1;have hsB := hB2.size;refine wpIn_rangeFunc_ownH rfl (by decide) (gf := 143) (lb := #[.pointer (some ⟨Bo + 1, 0, none⟩)]) rfl trivial (enters_of Tryz.func143 (by kernel_rfl) rfl)
  (zFh Fence.wide (20 - 1) trivial rfl (by decide) (Bo + 1) w.heap.size b off L.length c L mZ hb W0 bS.cell (fun j hj => (HG.out j hj).below hB2)) Bt.trans (Bt.put (by omega) (by omega)) (aj _ _) (fun _ => rfl)
  (fun pre W => ((∃ v, Boxed W Bo 135 v ∧ W.ownsRow w.heap.size 138 8 v (qQ (dZ L) key pre).length ((qQ (dZ L) key pre).flatMap B9) ∧ True) ∧ Boxed W (w.heap.size + 1) 24 (.int .u64 key) ∧ Boxed W (Bo + 1) 25 (.slice (some ⟨b, off, none⟩) L.length c)) ∧ Below w.heap.size w W)
  (fun _ _ _ => False)
  (OwnFrom.and (OwnFrom.and (Own.from (holdsRow_own w.heap.size Bo 135 138 8 (fun pre => (qQ (dZ L) key pre).length) (fun pre => (qQ (dZ L) key pre).flatMap B9) (fun _ _ => True)) _) (OwnFrom.and (Own.from (boxed_own _ _ _) _) (Own.from (boxed_own _ _ _) _))) (ownFrom_below (ai _) (by omega)))
  (fun _ _ _ _ _ hs _ _ => hs)
  ⟨⟨⟨_, bO, aU _ _ _ _, trivial⟩, bK, bS⟩, hB2⟩
  (fun x a' W => ∃ Bx, w.heap.size + 1 < Bx ∧ Bo + 1 < Bx ∧ eA W Bx (pat L x).1.num (pat L x).1.rev (pat L x).1.mode (pat L x).1.size (pat L x).2 (pat L x).1.m.live (pat L x).1.m.dW ∧ a' = { tmps := #[zZ i l r (some ⟨b, off, none⟩) L.length c, .int .u64 key, .pointer (some ⟨w.heap.size, 0, none⟩), .pointer (some ⟨w.heap.size + 1, 0, none⟩), .slice none 0 0, .pointer (some ⟨Bo, 0, none⟩), .int .i64 (x : Int), .pointer (some ⟨Bx, 0, none⟩), undef, undef, zZ i l r (some ⟨b, off, none⟩) L.length c, .bool true, .bool false, .pointer (some ⟨w.heap.size, 3, none⟩), .slice (some ⟨b, off, none⟩) L.length c, .func (.func 143) #[] #[.pointer (some ⟨Bo + 1, 0, none⟩)], .int .i64 (x : Int), Rl (pat L x), undef, undef, undef, undef, undef, undef, undef, undef, undef, undef, undef, undef, undef, undef, undef, undef, undef, undef, undef, undef, undef, undef], defers := [] })
  (fun x a' _ X Y row hs hg hr => by obtain ⟨Bx, h1, h2, h3, h4⟩ := hs; exact ⟨Bx, h1, h2, zHD h3 hg (fun r e => (hr r e).2), h4⟩)
  ?assign ?body ?done ?stop
 case assign =>
  rintro l pre x W K hI hK;obtain ⟨⟨⟨v, hv, hrow, _⟩, EV, sU⟩, hB1⟩ := hI;have hlt := sU.lt
  gi_wp2
  exact hK _ _ ((KeepsOthers.alloc _ _).from _) ⟨(aj _ W).alloc hB1.size _, fun v hv => ((aj (Bo + 1 + 1) W).alloc hlt _).cell (p := ⟨Bo + 1, 0, none⟩) (dA _) |>.trans hv⟩
   ⟨⟨⟨v, hv.alloc _, hrow.alloc _, trivial⟩, EV.alloc _, sU.alloc _⟩, hB1.alloc hB1.size _⟩ ⟨W.heap.size, by have := EV.lt; omega, by omega, eA.new W _ _ _ _ _ _ _ _, rfl⟩
 case body =>
  rintro l pre x a' W hl ⟨rr, hr⟩ ⟨⟨⟨v, hv, hrow, _⟩, EV, sU⟩, hB1⟩ ⟨Bx, hx1, hx2, bX, rfl⟩ hlt;have hn0 := (H6.out W hB1 x)
  have nH := zJH (dZ L) key pre;have EW := fun (y : It) (h : ze (pat L x).1.m key = some y) => zIB (l := dZ L) pre (n := x) (by rw [yu]; exact h)
  have Di := fun (h : ze (pat L x).1.m key = none) => zHe (l := dZ L) pre (n := x) (by rw [yu]; exact h)
  rw [yu] at EW;have g0 := bX.n0;have g1 := bX.n1;have g2 := bX.n2;obtain ⟨c0, c1, c2, c3, c4, c5, c6, c7, c8, c9⟩ := bX.q;have cK := EV.cell;have hXl := bX.lt;have XE := EV.lt;have hOl := hv.lt;have Lm := hB1.size
  cases Jz : ze (pat L x).1.m key with
  | none =>
   rw [Jz] at hn0;have hm := Di Jz;clear EW Di Jz H6 HG
   gi_wp2_with (refine ⟨trivial, ?_⟩; gi_at_call 95; refine (CallsIn.inRound l (callsIn_wide.2 hn0)).mono ?_; rintro e w2 ⟨rfl, hb2⟩)
   have hb3 := hb2.alloc hb2.size (xF fJ);exact ⟨(XC hb3).from _, ⟨hb3.mono Lm, fun u hu => hb3.keeps' hu⟩, ⟨⟨v, hv.below hb3, by rw [hm]; exact zH hrow hb3, trivial⟩, EV.below hb3, sU.below hb3⟩, hB1.trans (hb3.mono Lm)⟩
  | some y =>
   rw [Jz] at hn0;have hm := EW y Jz;clear EW Di Jz H6 HG
   gi_wp2_with (first | (refine ⟨trivial, ?_⟩; gi_at_call 95; refine (CallsIn.inRound l (callsIn_wide.2 hn0)).mono ?_; rintro e w2 ⟨rfl, hb2⟩; have hb3 := hb2.alloc hb2.size (xF y); have q0 := hb3.keeps' g0; have q1 := hb3.keeps' g1; have q2 := hb3.keeps' g2; have hv3 := hv.below hb3; have qO := hv3.cell; have hrow3 := zH hrow hb3; have Rx : (w2.alloc (xF y)).heap.size = w2.heap.size + 1 := (by simp); have afA := hb2.size) | (gi_at_builtin; refine wpListIn_append_own _ rfl _ _ 135 rfl w.heap.size 138 i0 _ 8 64 Tryz.underlying135 hi hz0 hz1 hz2 rfl (by decide) _ _ _ rfl (hrow3.alloc _) ⟨w2.heap.size + 1, 0, none⟩ 1 1 (B9 ⟨(pat L x).1.num, (pat L x).1.mode, (pat L x).1.rev, y, x⟩) rfl rfl (zJq _ (w2.heap.size + 1) Rx (B9 ⟨(pat L x).1.num, (pat L x).1.mode, (pat L x).1.rev, y, x⟩) 138) (zLh _) (by unfold maxLen; omega) (by omega) (by simp; omega) ?_; intro v' w4 hown' hgrow _; obtain ⟨g', cap', rfl⟩ := ownsRow_succ hown'; obtain ⟨rB, hv2, hr2, hk2, hb4⟩ := hv3.appended (by decide) hrow3 (by omega) (by omega) hown' hgrow; have hc1 := rB.cell; have hf1 := rB.frozen))
   have N2 := (((sU.below hb3).alloc _).kept hgrow ((sU.below hb3).not_row (by decide) hrow3)).other (B' := Bo) (by omega) (.slice (some ⟨g', 0, none⟩) ((qQ (dZ L) key pre).length + 1) cap');have bK5 := (((EV.below hb3).alloc _).kept hgrow ((EV.below hb3).not_row (by decide) hrow3)).other (B' := Bo) (by omega) (.slice (some ⟨g', 0, none⟩) ((qQ (dZ L) key pre).length + 1) cap');exact ⟨((XC hb3).trans hk2).from _, ⟨(hb3.mono Lm).trans hb4, fun u hu => by rw [sU.cell] at hu; cases hu; exact N2.cell⟩, ⟨⟨_, hv2, by rw [hm, aA, b_]; simpa using hr2, trivial⟩, bK5, N2⟩, hB1.trans ((hb3.mono Lm).trans hb4)⟩
 case done =>
  rintro D ys W hD rfl ⟨⟨⟨v, hv, hrow, _⟩, EV, sU⟩, hB1⟩ hK;have hc := hv.cell;rw [XA] at hrow
  gi_wp2
  refine ⟨by simp, .inl ⟨_, _, rfl, run_takeDeferred hK, ?_⟩⟩;exact ⟨_, results_tmp rfl _ _ _, v, rfl, ownsRow_putObj hrow _ hK rfl, hB1.trans (belowK_b (w := w) (ai _) W D _ _ (by omega) hK rfl rfl)⟩
 rintro D c pre W _ _ h _;exact h.elim
end Go.Proofs.YtcgfilmmokmdjaaGreat
namespace Go.Proofs.YtcgfilmmokmdjaaGreat
open Go.RowKit
def us : jT := ⟨0, 0, 0, fJ, 0⟩
abbrev N3 (x : jT) : Array Value := #[.int .i64 x.gen, .int .i64 x.mode, .int .i64 x.rev, .int .u64 x.it.key, .int .u32 x.it.ck, .int .i64 x.it.off, .int .i64 x.it.size]
abbrev JA (x : jT) : Value := .agg (N3 x)
theorem XH (l : List Gn) (key : Int) : ∀ n, (xu l key n).length ≤ n
 | 0 => ai _
 | n + 1 => by
  have h := XH l key n;rw [xu, aA]
  cases ze (eN l n).m key <;> simp <;> omega
theorem zIi {i l : Int} {r : Bool} {L : List GP} {n : Nat} (hn : n = L.length) (hv : zg ⟨i, l, r, dZ L⟩ = true) (key : Int) : yM ⟨i, l, r, dZ L⟩ key = xu (dZ L) key n := by
 unfold yM; rw [ag hv, hn]; show xu (dZ L) key (dZ L).length = _; rw [zj]
theorem Ry {s : eL} (hv : zg s = false) (key : Int) : yM s key = [] := by unfold yM; rw [ah (by rw [hv]; decide)]
theorem Bu.rd {w : World} {B : Nat} {v : Value} {l : List jT} (h : Bu w B v l) : EU w v l := O4 (fun x _ => zKp x) (by decide) h
theorem XI (i l : Int) (r : Bool) (a : Option Addr) (n c : Nat) (L : List GP) (w : World) (h : fq w (.slice a n c) L) (hs : ∀ p ∈ L, ∀ j, j < 8 → (p.1.m.st j).length ≤ 10000) (key : Int) :
  Calls Tryz.prog 62 #[zZ i l r a n c, .int .u64 key] w fun e w' => ∃ v, e = .returned v ∧ Bu w' w.heap.size v (yM ⟨i, l, r, dZ L⟩ key) ∧ Below w.heap.size w w' := by
 cases hv : zg ⟨i, l, r, dZ L⟩ with
 | true =>
  rw [zIi (by obtain ⟨a', cap', e, _⟩ := h.shape; injection e) hv];exact zKU i l r a n c L w h hs hv key
 | false =>
  rw [Ry hv];refine (zLN i l r a n c L w h hs hv key).mono ?_;rintro e w' ⟨rfl, hb⟩;exact ⟨_, rfl, aU _ _ _ _, hb⟩
structure nI (W : World) (b : Nat) (x : jT) : Prop where
 c0 : W.cell? ⟨b, 0, none⟩ = some (.int .i64 x.gen)
 c1 : W.cell? ⟨b, 1, none⟩ = some (.int .i64 x.mode)
 c2 : W.cell? ⟨b, 2, none⟩ = some (.int .i64 x.rev)
 c3 : W.cell? ⟨b, 3, none⟩ = some (.int .u64 x.it.key)
 c4 : W.cell? ⟨b, 4, none⟩ = some (.int .u32 x.it.ck)
 c5 : W.cell? ⟨b, 5, none⟩ = some (.int .i64 x.it.off)
 c6 : W.cell? ⟨b, 6, none⟩ = some (.int .i64 x.it.size)
 f : ∀ i, W.frozen? ⟨b, i, none⟩ = false
theorem nI.new (W : World) (x : jT) : nI (W.alloc (.cells (N3 x) 51)) W.heap.size x := ⟨by simp, by simp, by simp, by simp, by simp, by simp, by simp, fun i => by simp⟩
theorem nI.lt {W : World} {b : Nat} {x : jT} (h : nI W b x) : b < W.heap.size := cI W _ h.c0
theorem nI.below {W W' : World} {b : Nat} {x : jT} (h : nI W b x) (hB : Below W.heap.size W W') : nI W' b x := ⟨hB.keeps' h.c0, hB.keeps' h.c1, hB.keeps' h.c2, hB.keeps' h.c3, hB.keeps' h.c4, hB.keeps' h.c5, hB.keeps' h.c6, fun i => (hB.frozen (p := ⟨b, i, none⟩) h.lt).trans (h.f i)⟩
abbrev H8 (x : jT) : List (Nat × Value) := [(0, .int .i64 x.gen), (1, .int .i64 x.mode), (2, .int .i64 x.rev), (3, .int .u64 x.it.key), (4, .int .u32 x.it.ck), (5, .int .i64 x.it.off), (6, .int .i64 x.it.size)]
theorem nI.all {W : World} {b : Nat} {x : jT} (h : nI W b x) (y : jT) : nI (pts W b (H8 y)) b y := by
 have c0 := h.c0;have c1 := h.c1;have c2 := h.c2;have c3 := h.c3;have c4 := h.c4;have c5 := h.c5;have c6 := h.c6;refine ⟨?_, ?_, ?_, ?_, ?_, ?_, ?_, fun i => (xT _ _ W).trans (h.f i)⟩
 ·
  simp [pts, go_sem, c0]
 ·
  simp [pts, go_sem, c1]
 ·
  simp [pts, go_sem, c2]
 ·
  simp [pts, go_sem, c3]
 ·
  simp [pts, go_sem, c4]
 ·
  simp [pts, go_sem, c5]
 simp [pts, go_sem, c6]
theorem zGt (i l : Int) (r : Bool) (a : Option Addr) (n c : Nat) (L : List GP) (w : World) (h : fq w (.slice a n c) L) (hs : ∀ p ∈ L, ∀ j, j < 8 → (p.1.m.st j).length ≤ 10000) (key : Int) :
  Calls Tryz.prog 16 #[zZ i l r a n c, .int .u64 key] w fun e w' => e = .returned (.tuple #[JA ((yM ⟨i, l, r, dZ L⟩ key).headD us), .bool (!(yM ⟨i, l, r, dZ L⟩ key).isEmpty)]) ∧ Below w.heap.size w w' := by
 have nA := zh (fun W (hb : Below w.heap.size w W) => XI i l r a n c L W (h.below hb) hs key);have eE := zh (eT.new w i l r a n c 27);have eD := zh (zN w i l r a n c 27);obtain ⟨F, hF⟩ : ∃ F, yM ⟨i, l, r, dZ L⟩ key = F := ⟨_, rfl⟩
 rw [hF] at nA ⊢;clear h hs hF
 go_enter Tryz.func16, Tryz.ntmps16
 go_upto_region 1 with fail;obtain ⟨W, hW⟩ : ∃ W, w.alloc (.cells (zK i l r a n c) 27) = W := ⟨_, rfl⟩
 change Code.wp _ _ _ _ ((w.alloc (.cells (zK i l r a n c) 27)).alloc _);have hsz : W.heap.size = w.heap.size + 1 := by rw [← hW]; simp
 rw [hW] at eE eD ⊢;clear hW;have rE := eE.out.lt;have eQ := zh (eD.out.alloc eD.out.size (.cells #[.int .i64 0, .int .i64 0, .int .i64 0, .int .u64 0, .int .u32 0, .int .i64 0, .int .i64 0] 51));have fp := zh (eE.out.below ((aj _ W).alloc (ai _) (.cells #[.int .i64 0, .int .i64 0, .int .i64 0, .int .u64 0, .int .u32 0, .int .i64 0, .int .i64 0] 51)));obtain ⟨k0, k1, k2, k3⟩ := fp.out.q;go_wp2_with fail;refine (nA.out _ eQ.out).mono ?_;rintro e w1 ⟨v, rfl, ho, hb1⟩;clear k0 k1 k2 k3;have hR := ho.rd;obtain ⟨a', cap', rfl, h2, h3, h4, h5⟩ := iy.shape hR (by decide) us;have hlz : w.heap.size + 1 < w1.heap.size := by have := hb1.size; simp at this; omega
 have HP : nI w1 (w.heap.size + 1) us := by rw [← hsz]; exact (nI.new W us).below hb1
 have z0 := HP.c0;have z1 := HP.c1;have z2 := HP.c2;have z3 := HP.c3;have z4 := HP.c4;have z5 := HP.c5;have z6 := HP.c6;have hf := HP.f;have JB := zh (zA eQ.out hb1);clear hb1 hR ho
 cases F with
 | nil =>
  go_wp2_with fail;change bodyPost _ _ _ _ _ (pts w1 (w.heap.size + 1) (H8 us));have hby := HP.all us;have ek := zh (zD (B := w.heap.size) (b := w.heap.size + 1) (by omega) (H8 us) JB.out);generalize pts w1 (w.heap.size + 1) (H8 us) = V at *;exact aw (v := .tuple #[JA us, .bool false]) (by simp [results, Tryz.results16, go_sem, hby.c0, hby.c1, hby.c2, hby.c3, hby.c4, hby.c5, hby.c6]) rfl ⟨rfl, ek.out⟩
 | cons x F =>
  obtain ⟨b, off, rfl, hc⟩ := h5 (by simp);have e0 : decide ((((x :: F).length : Nat) : Int) = 0) = false := by simp; omega
  have c0 : w1.cell? ⟨b, off, none⟩ = some (.int .i64 x.gen) := by simpa using hc 0 (by simp) 0 _ rfl
  have c1 : w1.cell? ⟨b, off + 1, none⟩ = some (.int .i64 x.mode) := by simpa using hc 0 (by simp) 1 _ rfl
  have c2 : w1.cell? ⟨b, off + 2, none⟩ = some (.int .i64 x.rev) := by simpa using hc 0 (by simp) 2 _ rfl
  have c3 : w1.cell? ⟨b, off + 3, none⟩ = some (.int .u64 x.it.key) := by simpa using hc 0 (by simp) 3 _ rfl
  have c4 : w1.cell? ⟨b, off + 4, none⟩ = some (.int .u32 x.it.ck) := by simpa using hc 0 (by simp) 4 _ rfl
  have c5 : w1.cell? ⟨b, off + 5, none⟩ = some (.int .i64 x.it.off) := by simpa using hc 0 (by simp) 5 _ rfl
  have c6 : w1.cell? ⟨b, off + 6, none⟩ = some (.int .i64 x.it.size) := by simpa using hc 0 (by simp) 6 _ rfl
  have hpos : 0 < (x :: F).length := by simp
  clear hc;generalize (x :: F).length = m at *;go_wp2_with fail;change bodyPost _ _ _ _ _ (pts w1 (w.heap.size + 1) (H8 x));have hby := HP.all x;have ek := zh (zD (B := w.heap.size) (b := w.heap.size + 1) (by omega) (H8 x) JB.out);generalize pts w1 (w.heap.size + 1) (H8 x) = V at *;exact aw (v := .tuple #[JA x, .bool true]) (by simp [results, Tryz.results16, go_sem, hby.c0, hby.c1, hby.c2, hby.c3, hby.c4, hby.c5, hby.c6]) rfl ⟨rfl, ek.out⟩
end Go.Proofs.YtcgfilmmokmdjaaGreat
