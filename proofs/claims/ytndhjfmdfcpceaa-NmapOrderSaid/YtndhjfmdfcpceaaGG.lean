/- Several texts in one, each over the last: A needle map made out of items; puts and drops as the reference has them; when two maps are the same: plain laws. An item appended to a stripe of a map: where the new slice lies, and what becomes of the other stripes. The needle map's From: the walk. The law's given, told, light; the reference's Same of needle maps: walks. -/
import Derived.Test.YtndhjfmdfcpceaaGD
import Derived.Test.YtndhjfmdfcpceaaGB
import Derived.Maps.AppendAt
import Derived.RegionTactic
import Derived.Deep.RegionLaw
namespace Go.Proofs.Ytndhjfmdfcpceaa

def fromM (l : List It) (g : Int) : Mp :=
  if l.all okB = true ∧ 0 ≤ g ∧ g ≤ 1099511627776 then ⟨fun i => inS i (srt l), (sumI (srt l) : Int), g⟩ else M0
theorem fromM_of {l : List It} {g : Int} (h : l.all okB = true) (h0 : 0 ≤ g) (h1 : g ≤ 1099511627776) : fromM l g = ⟨fun i => inS i (srt l), (sumI (srt l) : Int), g⟩ := if_pos ⟨h, h0, h1⟩
theorem fromM_no {l : List It} {g : Int} (h : ¬ (l.all okB = true ∧ 0 ≤ g ∧ g ≤ 1099511627776)) : fromM l g = M0 := if_neg h
theorem all_okP {l : List It} (h : l.all okB = true) : ∀ x ∈ l, okP x := fun x hx => by
  have := List.all_eq_true.1 h x hx
  unfold okB at this
  exact of_decide_eq_true this
theorem okP_all {l : List It} (h : ∀ x ∈ l, okP x) : l.all okB = true := List.all_eq_true.2 fun x hx => by
  unfold okB
  exact decide_eq_true (h x hx)
/-- What the stripes of a list hold together is the list. -/
theorem srt_cat_inS {T : List It} (h : Asc T) : srt (cat (fun i => inS i T) 8) = T := by
  refine asc_ext _ _ (pw_of (srt_asc _)) (pw_of h) fun k => ?_
  rw [fnd_cat _ k 8 fun i _ => ⟨(ascR_iff _).1 (pw_ascR (inS_asc i h)), inS_ok i T⟩, if_pos (strp_lt k), fnd_inS, if_pos rfl]
theorem sumI_cat_inS {T : List It} (h : Asc T) : sumI (cat (fun i => inS i T) 8) = sumI T := by
  rw [← sumI_cat _ 8 fun i _ => ⟨(ascR_iff _).1 (pw_ascR (inS_asc i h)), inS_ok i T⟩, srt_cat_inS h]
theorem inS_all {T : List It} (h : ∀ x ∈ T, okP x) (i : Nat) : ∀ x ∈ inS i T, okP x := fun x hx => h x (List.mem_filter.1 hx).1
theorem inS_len (i : Nat) (T : List It) : (inS i T).length ≤ T.length := List.length_filter_le _ _
theorem fromM_vld (l : List It) (g : Int) : VldM (fromM l g) := by
  by_cases h : l.all okB = true ∧ 0 ≤ g ∧ g ≤ 1099511627776
  · obtain ⟨h, h0, h1⟩ := h
    rw [fromM_of h h0 h1]
    refine ⟨fun i _ => ?_, fun i _ => inS_ok i _, ?_, h0, h1⟩
    · rw [vldB_iff]
      exact ⟨(ascR_iff _).1 (pw_ascR (inS_asc i (srt_asc l))), inS_all (srt_all (all_okP h)) i⟩
    · show (sumI (srt l) : Int) = (sumI (cat (fun i => inS i (srt l)) 8) : Int)
      rw [sumI_cat_inS (srt_asc l)]
  · rw [fromM_no h]; exact VldM.nil
theorem fromM_items {l : List It} {g : Int} (h : l.all okB = true) (h0 : 0 ≤ g) (h1 : g ≤ 1099511627776) : itemsM (fromM l g) = srt l := by
  rw [itemsM_of (fromM_vld l g), fromM_of h h0 h1]
  exact srt_cat_inS (srt_asc l)
theorem fromM_len (l : List It) (g : Int) (i : Nat) : ((fromM l g).st i).length ≤ l.length := by
  unfold fromM
  split
  · exact Nat.le_trans (inS_len _ _) (srt_length l)
  · exact Nat.zero_le _
/-! ### The reference's Put and Delete -/
def rputM (M : Mp) (x : It) : Mp :=
  if vldM M = true ∧ okB x = true ∧ M.garb + (szO (getM M x.key) : Int) ≤ 1099511627776 then fromM (ins (itemsM M) x) (M.garb + (szO (getM M x.key) : Int)) else M
def rdelM (M : Mp) (key : Int) : Mp :=
  match getM M key with
  | none => M
  | some y => if M.garb + (lenO y : Int) ≤ 1099511627776 then fromM (drp (itemsM M) key) (M.garb + (lenO y : Int)) else M
/-! ### Sameness -/
structure EqM (M N : Mp) : Prop where
  st : ∀ i, i < 8 → M.st i = N.st i
  l : M.live = N.live
  g : M.garb = N.garb
theorem EqM.refl (M : Mp) : EqM M M := ⟨fun _ _ => rfl, rfl, rfl⟩
theorem EqM.symm {M N : Mp} (h : EqM M N) : EqM N M := ⟨fun i hi => (h.st i hi).symm, h.l.symm, h.g.symm⟩
theorem EqM.trans {M N O : Mp} (h : EqM M N) (h' : EqM N O) : EqM M O := ⟨fun i hi => (h.st i hi).trans (h'.st i hi), h.l.trans h'.l, h.g.trans h'.g⟩
def sameM (M N : Mp) : Bool := (List.range 8).all (fun i => decide (M.st i = N.st i)) && (M.live == N.live) && (M.garb == N.garb)
theorem sameM_iff {M N : Mp} : sameM M N = true ↔ EqM M N := by
  unfold sameM
  rw [Bool.and_eq_true, Bool.and_eq_true, List.all_eq_true, beq_iff_eq, beq_iff_eq]
  exact ⟨fun ⟨⟨h1, h2⟩, h3⟩ => ⟨fun i hi => of_decide_eq_true (h1 i (List.mem_range.2 hi)), h2, h3⟩, fun h => ⟨⟨fun i hi => decide_eq_true (h.st i (List.mem_range.1 hi)), h.l⟩, h.g⟩⟩
theorem EqM.cat {M N : Mp} (h : EqM M N) : ∀ n, n ≤ 8 → cat M.st n = cat N.st n
  | 0, _ => rfl
  | n + 1, hn => by
    show Go.Proofs.Ytndhjfmdfcpceaa.cat M.st n ++ M.st n = Go.Proofs.Ytndhjfmdfcpceaa.cat N.st n ++ N.st n
    rw [h.cat n (by omega), h.st n (by omega)]
theorem EqM.all {M N : Mp} (h : EqM M N) : allM M = allM N := h.cat 8 (Nat.le_refl _)
theorem EqM.vld {M N : Mp} (h : EqM M N) (v : VldM M) : VldM N :=
  ⟨fun i hi => by rw [← h.st i hi]; exact v.ok i hi, fun i hi => by rw [← h.st i hi]; exact v.sp i hi, by rw [← h.l, ← h.all]; exact v.lv, by rw [← h.g]; exact v.g0, by rw [← h.g]; exact v.g1⟩
theorem EqM.vldM {M N : Mp} (h : EqM M N) : vldM M = vldM N := by
  rw [Bool.eq_iff_iff, vldM_iff, vldM_iff]
  exact ⟨h.vld, h.symm.vld⟩
theorem EqM.items {M N : Mp} (h : EqM M N) : itemsM M = itemsM N := by
  unfold itemsM
  rw [h.vldM, h.all]
theorem EqM.get {M N : Mp} (h : EqM M N) (key : Int) : getM M key = getM N key := by
  unfold getM
  rw [h.vldM, h.st _ (strp_lt key)]
theorem fromM_again {M : Mp} (h : VldM M) : EqM (fromM (itemsM M) M.garb) M := by
  rw [fromM_of (okP_all (itemsM_ok h)) h.g0 h.g1, srt_of_asc (itemsM_asc M)]
  refine ⟨fun i hi => ?_, itemsM_sum h, rfl⟩
  show Go.Proofs.Ytndhjfmdfcpceaa.inS i (itemsM M) = M.st i
  rw [itemsM_of h]
  exact h.inS hi
theorem put_same (M : Mp) (x : It) : EqM (insM M x) (rputM M x) := by
  by_cases hv : VldM M
  · have hv' := (vldM_iff M).2 hv
    by_cases hx : okB x = true
    · by_cases hg : M.garb + (szO (getM M x.key) : Int) ≤ 1099511627776
      · have hp := itemsM_ok hv
        have ha := itemsM_asc M
        have hfn : fnd (itemsM M) x.key = getM M x.key := by
          have := fnd_itemsM M x.key
          rwa [srt_of_asc ha] at this
        unfold rputM
        rw [if_pos ⟨hv', hx, hg⟩, insM_of hv hx hg]
        have h0 : 0 ≤ M.garb + (szO (getM M x.key) : Int) := by have := hv.g0; omega
        rw [fromM_of (okP_all (ins_all x (of_decide_eq_true hx) _ hp)) h0 hg, srt_of_asc (ins_ascA ha x)]
        refine ⟨fun i hi => ?_, ?_, rfl⟩
        · show updM M.st (strp x.key) (ins (M.st (strp x.key)) x) i = Go.Proofs.Ytndhjfmdfcpceaa.inS i (ins (itemsM M) x)
          rw [inS_ins ha, itemsM_of hv, hv.inS hi]
          unfold updM
          by_cases e : i = strp x.key
          · rw [if_pos e, if_pos e.symm, e]
          · rw [if_neg e, if_neg (Ne.symm e)]
        · show M.live + (lenO x : Int) - (szO (getM M x.key) : Int) = (sumI (ins (itemsM M) x) : Int)
          have h1 := sumI_put x (itemsM M) ha
          rw [hfn] at h1
          have h2 := itemsM_sum hv
          unfold lenO
          omega
      · unfold rputM insM
        rw [if_neg (fun h => hg (by rw [getM_of hv]; exact h.2.2)), if_neg (fun h => hg h.2.2)]
        exact .refl M
    · unfold rputM insM
      rw [if_neg (fun h => hx h.2.1), if_neg (fun h => hx h.2.1)]
      exact .refl M
  · unfold rputM insM
    rw [if_neg (fun h => hv ((vldM_iff M).1 h.1)), if_neg (fun h => hv ((vldM_iff M).1 h.1))]
    exact .refl M
theorem del_same (M : Mp) (key : Int) : EqM (delM M key) (rdelM M key) := by
  unfold delM rdelM
  cases hgo : getM M key with
  | none => exact .refl M
  | some y =>
    have hv : VldM M := (vldM_iff M).1 (getM_some hgo).1
    show EqM (if M.garb + (lenO y : Int) ≤ 1099511627776 then _ else M) (if M.garb + (lenO y : Int) ≤ 1099511627776 then _ else M)
    by_cases hg : M.garb + (lenO y : Int) ≤ 1099511627776
    · rw [if_pos hg, if_pos hg]
      have ha := itemsM_asc M
      have hfn : fnd (itemsM M) key = getM M key := by
        have := fnd_itemsM M key
        rwa [srt_of_asc ha] at this
      have h0 : 0 ≤ M.garb + (lenO y : Int) := by have := hv.g0; omega
      rw [fromM_of (l := drp (itemsM M) key) (okP_all fun x hx => itemsM_ok hv x (List.mem_filter.1 hx).1) h0 hg, srt_of_asc (drp_asc ha key)]
      refine ⟨fun i hi => ?_, ?_, rfl⟩
      · show (if i = strp key then drp (M.st i) key else M.st i) = Go.Proofs.Ytndhjfmdfcpceaa.inS i (drp (itemsM M) key)
        rw [inS_drp ha, itemsM_of hv, hv.inS hi]
        by_cases e : i = strp key
        · rw [if_pos e, if_pos e.symm]
        · rw [if_neg e, if_neg (Ne.symm e)]
      · show M.live - (lenO y : Int) = (sumI (drp (itemsM M) key) : Int)
        have h1 := sumI_drp key (itemsM M) ha
        rw [hfn, hgo] at h1
        have h2 := itemsM_sum hv
        have h3 : szO (some y) = lenO y := rfl
        omega
    · rw [if_neg hg, if_neg hg]
      exact .refl M
end Go.Proofs.Ytndhjfmdfcpceaa

namespace Go.Proofs.Ytndhjfmdfcpceaa
open Go.RowKit

theorem step_appAt {P : Program} {w : World} {ops : Array Oper} {o : Oper} {a : Act} {K : Act → World → Prop} {Q : Exit → Act → World → Prop} {E : Prop} (hgd : o.guard = none) (s x : Operand) (t : TypeId)
    (ho : o.op = .call { callee := .builtin .append, args := #[s, x], argTypes := #[t, t] })
    {e : TypeId} {sz bytes : Nat} (hE : ElemT P t e sz bytes) (base : Nat)
    {v : Value} {n : Nat} {xs : List Value} (hs : a.eval s = v) (hown : w.ownsRow base e sz v n xs) {ad : Addr} {m c : Nat} {news : List Value} (hx : a.eval x = .slice (some ad) m c)
    (hl : news.length = m * sz) (hnews : ∀ j u, news[j]? = some u → w.cell? (ad.add j) = some u)
    (h1 : ∀ u ∈ news, u.oneCell' = true) (h63 : n + m ≤ maxLen) (hbytes : (n + m) * bytes ≤ 140737488355328) (hbase : base ≤ w.heap.size)
    (h : ∀ v' w', w'.ownsRow base e sz v' (n + m) (xs ++ news) → w.grownBy w' v.ownBlock → (v'.ownBlock = v.ownBlock ∨ v'.ownBlock = some w.heap.size) → K (a.put o.dst v') w') :
    if Region.wanted o (yielded ops a.tmps) = true then Oper.wp P o a w K Q else E := by
  have hw : Region.wanted o (yielded ops a.tmps) = true := by simp [Region.wanted, hgd]
  rw [if_pos hw]
  obtain ⟨ht, hsz, i, z, hi, hz, hs', hby, hzs⟩ := hE
  obtain ⟨v', w', hrun, r1, r2, _, r4⟩ := run_append_own_at (P := P) w base t o.type e i z sz bytes ht hi hz hs' hby hzs hsz v n xs hown ad m c news hl hnews h1 h63 hbytes hbase
  unfold Oper.wp
  simp [execOp, ho, resolve, invoke, builtin, hs, hx, hrun, Result.andThen]
  exact h v' w' r1 r2 r4
theorem news_box (W : World) (x : It) (k : Nat) (hk : W.heap.size = k) : ∀ j u, (itC x)[j]? = some u → (W.alloc (boxC x)).drew.cell? ((⟨k, 0, none⟩ : Addr).add j) = some u := by
  subst hk
  intro j u hj
  rw [addr_add, Nat.zero_add]
  show (W.alloc (boxC x)).cell? _ = some u
  rw [cell_of_row _ _ j _ _ (0, 0) (heap_alloc_new W _)]
  rw [← Array.getElem?_toList]; exact hj
/-- No two stripes share a block. -/
def ApM (s : Sl) : Prop := ∀ i j, i < 8 → j < 8 → i ≠ j → (s.v i).ownBlock = none ∨ (s.v i).ownBlock ≠ (s.v j).ownBlock
theorem ApM.nil : ApM Sl.nil := fun _ _ _ _ _ => .inl rfl
theorem BoxM.grown {W W' : World} {b : Nat} {s : Sl} {l g : Int} {row : Option Nat} (h : BoxM W b s l g) (hg : W.grownBy W' row) (hne : row ≠ some b) : BoxM W' b s l g := by
  have hn : ∀ i, some (⟨b, i, none⟩ : Addr).block ≠ row := fun i e => hne e.symm
  refine ⟨fun j hj => hg.cell (h.c j hj) (hn j), hg.cell h.cl (hn 8), hg.cell h.cg (hn 9), fun i => ?_⟩
  rw [World.frozen?_of_block (w := W) (hg.block b h.lt (hn 0))]
  exact h.f i
theorem own_row_ge {w : World} {B : Nat} {e : TypeId} {sz n : Nat} {v : Value} {xs : List Value} (h : w.ownsRow B e sz v n xs) {b : Nat} (hb : b < B) : v.ownBlock ≠ some b := fun e => by
  have := (h.lt b e).1; omega
theorem appM {w w4 : World} {bm B k : Nat} {s : Sl} {f : Nat → List It} {x : It} {va : Option Addr} {n vc : Nat} (ho : OwnM w B s f) (hd : ApM s) (hk : k < 8) (hbm : bm < B)
    (hown : w4.ownsRow B 29 4 (.slice va n vc) n (itsC (f k ++ [x]))) (hg : w.grownBy w4 (s.v k).ownBlock) (hat : (Value.slice va n vc).ownBlock = (s.v k).ownBlock ∨ (Value.slice va n vc).ownBlock = some w.heap.size) :
    OwnM (w4.setCell ⟨bm, k, none⟩ (.slice va n vc)) B (s.set k va n vc) (fun i => if i = k then f k ++ [x] else f i) ∧ ApM (s.set k va n vc) := by
  have hlt : ∀ i, i < 8 → ∀ g, (s.v i).ownBlock = some g → g < w.heap.size := fun i hi g hg => ((ho i hi).lt g hg).2
  constructor
  · intro i hi
    show OwnT _ B ((s.set k va n vc).v i) (if i = k then f k ++ [x] else f i)
    rw [Sl.set_v]
    by_cases e : i = k
    · rw [if_pos e, if_pos e]
      exact ownT_of (own_set_lo hown (p := ⟨bm, k, none⟩) hbm _) rfl
    · rw [if_neg e, if_neg e]
      exact own_set_lo (World.ownsRow.kept (ho i hi) hg (hd i k hi hk e)) (p := ⟨bm, k, none⟩) hbm _
  · intro i j hi hj hij
    rw [Sl.set_v, Sl.set_v]
    by_cases e : i = k
    · subst e
      rw [if_pos rfl, if_neg (Ne.symm hij)]
      rcases hat with hat | hat
      · rw [hat]; exact hd i j hi hj hij
      · rw [hat]
        refine .inr fun h2 => ?_
        have := hlt j hj _ h2.symm
        omega
    · rw [if_neg e]
      by_cases e2 : j = k
      · subst e2
        rw [if_pos rfl]
        rcases hat with hat | hat
        · rw [hat]; exact hd i j hi hj hij
        · rw [hat]
          cases hv : (s.v i).ownBlock with
          | none => exact .inl rfl
          | some g =>
            refine .inr fun h2 => ?_
            injection h2 with h2
            have := hlt i hi g hv
            omega
      · rw [if_neg e2]; exact hd i j hi hj hij
/-- One round of making a map: what it does to all that the round carries. -/
theorem fromStep {w0 w w4 : World} {B0 bR bm B2 B3 k : Nat} {s : Sl} {f : Nat → List It} {x : It} {va : Option Addr} {n vc : Nat} {v3 : Value} {T : List It} {L G : Int}
    (hR : BoxM w bR Sl.nil 0 0) (hM : BoxM w bm s L G) (hO : OwnM w B3 s f) (hA : ApM s) (hT : OwnT w B2 v3 T) (hb : Below B0 w0 w) (h0 : B0 ≤ bm) (h1 : bR < bm) (h2 : bm < B2) (h3 : B2 ≤ B3) (hB3 : B3 ≤ w.heap.size)
    (hTl : ∀ g, v3.ownBlock = some g → g < B3) (hk : k < 8) (hown : w4.ownsRow B3 29 4 (.slice va n vc) n (itsC (f k ++ [x]))) (hg : w.grownBy w4 (s.v k).ownBlock)
    (hat : (Value.slice va n vc).ownBlock = (s.v k).ownBlock ∨ (Value.slice va n vc).ownBlock = some w.heap.size) :
    BoxM (w4.setCell ⟨bm, k, none⟩ (.slice va n vc)) bR Sl.nil 0 0 ∧ BoxM (w4.setCell ⟨bm, k, none⟩ (.slice va n vc)) bm (s.set k va n vc) L G ∧
      OwnM (w4.setCell ⟨bm, k, none⟩ (.slice va n vc)) B3 (s.set k va n vc) (fun i => if i = k then f k ++ [x] else f i) ∧ ApM (s.set k va n vc) ∧
      OwnT (w4.setCell ⟨bm, k, none⟩ (.slice va n vc)) B2 v3 T ∧ Below B0 w0 (w4.setCell ⟨bm, k, none⟩ (.slice va n vc)) := by
  have hok := hO k hk
  have hap := appM hO hA hk (show bm < B3 by omega) hown hg hat
  refine ⟨(hR.grown hg (own_row_ge hok (by omega))).set_ne (p := ⟨bm, k, none⟩) (show bm ≠ bR by omega) _, (hM.grown hg (own_row_ge hok (by omega))).setS hk _ _ _, hap.1, hap.2, ?_, ?_⟩
  · refine own_set_lo (World.ownsRow.kept hT hg ?_) (p := ⟨bm, k, none⟩) h2 _
    cases hv : v3.ownBlock with
    | none => exact .inl rfl
    | some g =>
      refine .inr fun e => ?_
      have h4 := hTl g hv
      have h5 := (World.ownsRow.lt hok g e.symm).1
      omega
  · exact (own_below hb (World.ownsRow.mono hok (show B0 ≤ B3 by omega)) (by omega) hg).setCell (p := ⟨bm, k, none⟩) h0 _
end Go.Proofs.Ytndhjfmdfcpceaa

namespace Go.Proofs.Ytndhjfmdfcpceaa
open Go.RowKit

set_option maxHeartbeats 400000 in
theorem fromf_any (x : It) (w : World) :
    Calls Try.prog 53 #[itV x] w fun e w' => e = .returned (.bool (!okB x)) ∧ Below w.heap.size w w' := by
  obtain ⟨W0, hW0⟩ : ∃ W0, w.alloc (boxC x) = W0 := ⟨_, rfl⟩
  have HI := Lib.hid (show BoxI W0 w.heap.size x from hW0 ▸ BoxI.new w x)
  have HB := Lib.hid (show Below w.heap.size w W0 from hW0 ▸ below_box w x)
  have HW0 := Lib.hid hW0
  clear hW0
  have HV := Lib.hid (fun v W h => vld_any v [x] W h)
  rw [vldB_one] at HV
  generalize okB x = r at *
  go_enter Try.func53, Try.ntmps53
  go_upto_region 1 with fail
  have hW0 := HW0.out
  rw [show w.alloc (.cells #[.int .u64 x.key, .int .u32 x.ck, .int .i64 x.off, .int .i64 x.size] 29) = W0 from hW0]
  clear hW0 HW0
  have i0 := HI.out.t.c0
  have i1 := HI.out.t.c1
  have i2 := HI.out.t.c2
  have i3 := HI.out.t.c3
  have iF := HI.out.f
  go_wp2_with fail
  refine (HV.out _ _ (rd_lit1 W0 x _ rfl)).mono ?_; rintro e w1 ⟨rfl, hb⟩
  have HB1 := Lib.hid (bstep HB.out (bstep (below_box W0 x) hb))
  clear hb
  go_wp2_with fail
  go_ret
  exact ⟨rfl, HB1.out⟩
set_option maxHeartbeats 400000 in
theorem idxf_any (v : Value) (l : List It) (w : World) (h : RdT w v l) :
    Calls Try.prog 68 #[v, .func (.func 53) #[] #[]] w fun e w' => (∃ k : Int, e = .returned (.int .i64 k) ∧ decide (0 ≤ k) = !l.all okB) ∧ Below w.heap.size w w' := by
  obtain ⟨a, cap, rfl, h1, h2⟩ := h.shape
  have HT := Lib.hid (show (∀ j, j < l.length → _) → _ from all_true (l := l) (p := okB))
  have HF := Lib.hid (show ∀ j, j < l.length → _ → _ from fun j => all_false (l := l) (p := okB) (j := j))
  have hm := lt63 h1 h2
  generalize hn : l.length = n at *
  have Hr := Lib.hid h
  clear h h1 h2 hn
  go_enter Try.func68, Try.ntmps68
  go_wp2_with fail
  go_loopw [8] (fun i wr => ∃ k : Nat, k ≤ n ∧ i = .int .i64 (k : Int) ∧ (∀ j, j < k → okB (iat l j) = true) ∧ Below w.heap.size w wr) (fun i _ => n - (intOf i).toNat)
  case atStart => exact ⟨0, Nat.zero_le _, rfl, fun j hj => absurd hj (by omega), Below.refl _ _⟩
  case round =>
    obtain ⟨k, hk, rfl, hok, hb⟩ := hrel
    have Hok := Lib.hid hok
    have Hb := Lib.hid hb
    have hB := hb.size
    clear hok hb
    by_cases hlt : k < n
    · have hr := Hr.out.below Hb.out
      obtain ⟨b, off, rfl, c0, c1, c2, c3⟩ := hr.at hlt
      have HV := Lib.hid fun w => fromf_any (iat l k) w
      generalize hx : iat l k = x at *
      have EX := Lib.hid hx
      clear hx
      clear hr
      go_wp2_with fail
      refine (HV.out _).mono ?_; rintro e w1 ⟨rfl, hb1⟩
      have Hb1 := Lib.hid (bstep Hb.out hb1)
      cases hx : okB x
      · have HX := Lib.hid hx
        clear hb1 hx
        go_wp2_with fail
        go_ret
        refine ⟨⟨k, rfl, ?_⟩, Hb1.out⟩
        rw [HF.out k hlt (by rw [EX.out]; exact HX.out)]; simp
      · have HX := Lib.hid hx
        clear hb1 hx
        go_wp2_with fail
        refine ⟨⟨k + 1, by omega, by go_num, fun j hj => ?_, Hb1.out⟩, by simp [intOf]; omega⟩
        by_cases e : j = k
        · rw [e, EX.out]; exact HX.out
        · exact Hok.out j (by omega)
    · obtain rfl : k = n := by omega
      go_wp2_with fail
      go_ret
      refine ⟨⟨-1, rfl, ?_⟩, Hb.out⟩
      rw [HT.out Hok.out]; rfl
theorem contf_any (v : Value) (l : List It) (w : World) (h : RdT w v l) :
    Calls Try.prog 52 #[v, .func (.func 53) #[] #[]] w fun e w' => e = .returned (.bool (!l.all okB)) ∧ Below w.heap.size w w' := by
  have HA := Lib.hid (idxf_any v l w h)
  obtain ⟨a, cap, rfl, h1, h2⟩ := h.shape
  clear h h1 h2
  go_enter Try.func52, Try.ntmps52
  go_wp2_with fail
  refine HA.out.mono ?_; rintro e w1 ⟨⟨k, rfl, hk⟩, hb1⟩
  have Hk := Lib.hid hk
  have Hb1 := Lib.hid hb1
  clear hk hb1
  go_wp2_with fail
  go_ret
  exact ⟨ret_bool Hk.out, Hb1.out⟩
/-! ### From -/
def accM (T : List It) (j : Nat) (i : Nat) : List It := inS i (T.take j)
theorem accM_self {T : List It} {j : Nat} (h : j < T.length) : accM T (j + 1) (strp (iat T j).key) = accM T j (strp (iat T j).key) ++ [iat T j] := by
  unfold accM inS
  rw [take_snoc h, List.filter_append]
  simp
theorem accM_ne {T : List It} {j i : Nat} (h : j < T.length) (hi : i ≠ strp (iat T j).key) : accM T (j + 1) i = accM T j i := by
  unfold accM inS
  rw [take_snoc h, List.filter_append]
  simp [Ne.symm hi]
theorem accM_step {T : List It} {j : Nat} (h : j < T.length) : accM T (j + 1) = fun i => if i = strp (iat T j).key then accM T j (strp (iat T j).key) ++ [iat T j] else accM T j i := funext fun i => by
  by_cases e : i = strp (iat T j).key
  · rw [if_pos e, e, accM_self h]
  · rw [if_neg e, accM_ne h e]
theorem accM_len (T : List It) (j i : Nat) : (accM T j i).length ≤ j := by
  unfold accM
  exact Nat.le_trans (inS_len _ _) (by rw [List.length_take]; omega)
theorem accM_zero (T : List It) : accM T 0 = fun _ => [] := funext fun i => rfl
theorem accM_all (T : List It) : accM T T.length = fun i => inS i T := funext fun i => by unfold accM; rw [List.take_length]
set_option maxRecDepth 100000 in
set_option maxHeartbeats 8000000 in
theorem fromM_any (v : Value) (l : List It) (g : Int) (w : World) (h : RdT w v l) (hs : l.length ≤ 80000) :
    Calls Try.prog 22 #[v, .int .i64 g] w fun e w' => (∃ s', e = .returned (mapV s' (fromM l g).live (fromM l g).garb) ∧ OwnM w' w.heap.size s' (fromM l g).st) ∧ Below w.heap.size w w' := by
  have Hr := Lib.hid h
  have HMg := Lib.hid (fun v W h => merge_nil v l W h hs)
  have HC := Lib.hid (fun W h => contf_any v l W h)
  have HBx := Lib.hid (BoxM.new w Sl.nil 0 0 37)
  have HB0 := Lib.hid (below_map w Sl.nil 0 0 37)
  have HNo := Lib.hid (fun h => fromM_no (l := l) (g := g) h)
  have HYes := Lib.hid (fun h h0 h1 => fromM_of (l := l) (g := g) h h0 h1)
  have HOk := Lib.hid (fun h : l.all okB = true => fun x (hx : x ∈ srt l) => (srt_all (all_okP h) x hx).2.2.2.1)
  have hl := srt_length l
  clear h
  generalize fromM l g = FM at *
  generalize l.all okB = ob at *
  generalize srt l = T at *
  obtain ⟨a, cap, rfl, h1, h2⟩ := Hr.out.shape
  generalize hn : l.length = n at *
  clear hn
  go_enter Try.func22, Try.ntmps22
  go_upto_region 1 with fail
  obtain ⟨W0, hW0⟩ : ∃ W0, w.alloc (.cells (mapC Sl.nil 0 0) 37) = W0 := ⟨_, rfl⟩
  rw [hW0] at HBx HB0
  rw [show w.alloc (.cells #[.slice none 0 0, .slice none 0 0, .slice none 0 0, .slice none 0 0, .slice none 0 0, .slice none 0 0, .slice none 0 0, .slice none 0 0, .int .i64 0, .int .i64 0] 37) = W0 from hW0]
  clear hW0
  by_cases hg : 0 ≤ g ∧ g ≤ 1099511627776
  · obtain ⟨hg0, hg1⟩ := hg
    have g1 : decide (g < 0) = false := by simp; omega
    have g2 : decide (1099511627776 < g) = false := by simp; omega
    go_wp2_with fail
    refine (new_any _).mono ?_; rintro e w1 ⟨rfl, hb1⟩
    have HX1 := Lib.hid (HBx.out.below hb1)
    have HB1 := Lib.hid (bstep HB0.out hb1)
    clear hb1 HBx HB0
    go_upto_region 4 with fail
    obtain ⟨W3, hW3⟩ : ∃ W3, w1.alloc (.cells (mapC Sl.nil 0 0) 37) = W3 := ⟨_, rfl⟩
    have HX3 := Lib.hid (show BoxM W3 w.heap.size Sl.nil 0 0 from hW3 ▸ HX1.out.below (below_map w1 Sl.nil 0 0 37))
    have HY3 := Lib.hid (show BoxM W3 w1.heap.size Sl.nil 0 0 from hW3 ▸ BoxM.new w1 Sl.nil 0 0 37)
    have HB3 := Lib.hid (show Below w.heap.size w W3 from hW3 ▸ bstep HB1.out (below_map w1 Sl.nil 0 0 37))
    have hm0 : w.heap.size < w1.heap.size := HX1.out.lt
    have hm1 : w1.heap.size < W3.heap.size := HY3.out.lt
    rw [hW3]
    clear hW3 HX1 HB1
    generalize w1.heap.size = bm at *
    have hfn : floatOfInt .f64 g = Fx.fb g := rfl
    have HM3 := Lib.hid (HMg.out _ W3 (Hr.out.below HB3.out))
    go_wp2_with fail
    refine HM3.out.mono ?_; rintro e w4 ⟨v4, rfl, hown4, hb4⟩
    have HX4 := Lib.hid (HX3.out.below hb4)
    have HY4 := Lib.hid (HY3.out.below hb4)
    have HB4 := Lib.hid (bstep HB3.out hb4)
    have HT4 := Lib.hid hown4
    have HTl := Lib.hid (fun g hg => (World.ownsRow.lt hown4 g hg).2)
    have hm2 : W3.heap.size ≤ w4.heap.size := hb4.size
    obtain ⟨ta, tc, rfl, ht1, ht2⟩ := (OwnT.rd hown4).shape
    clear hown4 hb4 HX3 HY3 HB3 HM3 hfn
    have HS := Lib.hid (fun j (h : j < T.length) => sumI_take h)
    have HAs := Lib.hid (fun j (h : j < T.length) => accM_step h)
    have HAl := Lib.hid (fun j i => accM_len T j i)
    have HA0 := Lib.hid (accM_zero T)
    have HAz := Lib.hid (accM_all T)
    have HSe := Lib.hid (show sumI (T.take T.length) = sumI T by rw [List.take_length])
    have HOk2 := Lib.hid (fun h j (hj : j < T.length) => HOk.out h _ (iat_mem hj))
    generalize htn : T.length = tn at *
    generalize W3.heap.size = B2 at *
    generalize hB3 : w4.heap.size = B3 at *
    clear htn
    have HBe := Lib.hid hB3
    clear hB3
    go_wp2_with fail
    go_loopw [6, 24] (fun cv iv W => ∃ (j p : Nat) (s : Sl), cv = .complex .f64 (Fx.fb (p : Int)) (Fx.fb g) ∧ iv = .int .i64 (j : Int) ∧ j ≤ tn ∧ p ≤ j * 4127 ∧ Hid (ob = true → p = sumI (T.take j)) ∧ Hid (BoxM W w.heap.size Sl.nil 0 0) ∧ Hid (BoxM W bm s 0 0) ∧ Hid (OwnM W B3 s (accM T j)) ∧ Hid (ApM s) ∧ Hid (OwnT W B2 (.slice ta tn tc) T) ∧ Hid (Below w.heap.size w W) ∧ Hid (B3 ≤ W.heap.size)) (fun _ iv _ => tn - (intOf iv).toNat)
    case atStart => exact ⟨0, 0, Sl.nil, rfl, rfl, Nat.zero_le _, Nat.zero_le _, Lib.hid (fun _ => rfl), HX4, HY4, Lib.hid (by rw [HA0.out]; exact OwnM.nil _ _), Lib.hid ApM.nil, HT4, HB4, Lib.hid (Nat.le_of_eq HBe.out.symm)⟩
    case round =>
      obtain ⟨j, p, s, rfl, rfl, hj, hp, Hp, HX, HY, HO, HA, HT, HB, HL⟩ := hrel
      by_cases hjt : j < tn
      · have jj1 : (j : Int) < (tn : Int) := by omega
        obtain ⟨qb, qoff, e, q0, q1, q2, q3⟩ := (OwnT.rd HT.out).at hjt
        subst e
        have HSj := Lib.hid (HS.out j hjt)
        have HAj := Lib.hid (HAs.out j hjt)
        have HZj := Lib.hid (fun h => HOk2.out h j hjt)
        have hk8 := strp_lt (iat T j).key
        have hal := HAl.out j (strp (iat T j).key)
        generalize iat T j = x at *
        have HSt := Lib.hid (fun W => stripe_any x.key W)
        generalize strp x.key = k at *
        go_upto_region 8 with fail
        obtain ⟨W6, hW6⟩ : ∃ W6, wr.alloc (boxC x) = W6 := ⟨_, rfl⟩
        have hbb := below_box wr x
        rw [hW6] at hbb
        have HI6 := Lib.hid (show BoxI W6 wr.heap.size x from hW6 ▸ BoxI.new wr x)
        have HX6 := Lib.hid (HX.out.below hbb)
        have HY6 := Lib.hid (HY.out.below hbb)
        have HO6 := Lib.hid (HO.out.keep hbb)
        have HT6 := Lib.hid (own_keep HT.out hbb)
        have HB6 := Lib.hid (bstep HB.out hbb)
        have HL6 := Lib.hid (Nat.le_trans HL.out hbb.size)
        rw [show wr.alloc (.cells #[.int .u64 x.key, .int .u32 x.ck, .int .i64 x.off, .int .i64 x.size] 29) = W6 from hW6]
        clear hW6 q0 q1 q2 q3 HX HY HO HT HB HL hbb
        generalize wr.heap.size = bx at *
        have HLn := Lib.hid (length_any x W6)
        have i0 := HI6.out.t.c0
        have i1 := HI6.out.t.c1
        have i2 := HI6.out.t.c2
        have i3 := HI6.out.t.c3
        have iF := HI6.out.f
        go_wp2_with fail
        refine HLn.out.mono ?_; rintro e w7 ⟨⟨z, rfl, hz, hz2⟩, hb7⟩
        have HI7 := Lib.hid (HI6.out.below hb7)
        have HX7 := Lib.hid (HX6.out.below hb7)
        have HY7 := Lib.hid (HY6.out.below hb7)
        have HO7 := Lib.hid (HO6.out.keep hb7)
        have HT7 := Lib.hid (own_keep HT6.out hb7)
        have HB7 := Lib.hid (bstep HB6.out hb7)
        have HL7 := Lib.hid (Nat.le_trans HL6.out hb7.size)
        have HP7 := Lib.hid (show ob = true → p + z = sumI (T.take (j + 1)) from fun h => by rw [HSj.out, ← Hp.out h, hz2 (HZj.out h)])
        clear i0 i1 i2 i3 iF hb7 hz2 HI6 HX6 HY6 HO6 HT6 HB6 HL6 HLn Hp
        have hadd := fun W => csum_fb (a := (p : Int)) (b := g) (c := (z : Int)) (d := 0) (small_of (by omega) (by omega)) (small_of (by omega) (by omega)) (small_of (by omega) (by omega)) (small_of (by omega) (by omega)) (small_of (by omega) (by omega)) (small_of (by omega) (by omega)) 71 W
        have hfz : Fx.fb 0 = 0 := rfl
        rw [Int.add_zero, hfz] at hadd
        have hfn : floatOfInt .f64 (z : Int) = Fx.fb (z : Int) := rfl
        have i0 := HI7.out.t.c0
        have i1 := HI7.out.t.c1
        have i2 := HI7.out.t.c2
        have i3 := HI7.out.t.c3
        have iF := HI7.out.f
        go_wp2_with fail
        refine (HSt.out _).mono ?_; rintro e w8 ⟨rfl, rfl⟩
        clear hadd hfz hfn
        have ck := HY7.out.c k hk8
        rw [show s.v k = .slice (s.a k) (s.n k) (s.c k) from rfl] at ck
        have HOk7 := Lib.hid (show w7.ownsRow B3 29 4 (.slice (s.a k) (s.n k) (s.c k)) (accM T j k).length (itsC (accM T j k)) from HO7.out k hk8)
        have hbw := Lib.hid (show Below w7.heap.size w7 (w7.alloc (boxC x)).drew from below_drew (below_box w7 x))
        have HL8 := Lib.hid (Nat.le_trans HL7.out hbw.out.size)
        have HSt8 := Lib.hid (fun w9 va n vc (hown : World.ownsRow w9 B3 29 4 (.slice va n vc) n (itsC (accM T j k ++ [x]))) hg hat => fromStep (w := (w7.alloc (boxC x)).drew) (HX7.out.below hbw.out) (HY7.out.below hbw.out) (HO7.out.keep hbw.out) HA.out (own_keep HT7.out hbw.out) (bstep HB7.out hbw.out) (Nat.le_of_lt hm0) hm0 hm1 hm2 HL8.out HTl.out hk8 hown hg hat)
        have HYg := Lib.hid (fun W (hg : (w7.alloc (boxC x)).drew.grownBy W (s.v k).ownBlock) => ((HY7.out.below hbw.out).grown hg (own_row_ge (HO7.out k hk8) (show bm < B3 by omega))))
        have HOne := Lib.hid (show ∀ u ∈ itC x, u.oneCell' = true from by have := itsC_one' [x]; rwa [itsC_one] at this)
        have HCu := Lib.hid (show itsC (accM T j k ++ [x]) = itsC (accM T j k) ++ itC x by rw [itsC_append, itsC_one])
        have ik8 : (k : Int) < 8 := by omega
        have hbm7 : bm < w7.heap.size := HY7.out.lt
        go_wp2_with fail
        go_region_law ((refine step_appAt (by rfl) (.tmp 41) (.tmp 43) 22 (by rfl) elemT B3 (by rfl) ((HOk7.out.alloc _).drew) (ad := ⟨w7.heap.size, 0, none⟩) (m := 1) (c := 1) (news := itC x) (by rfl) (by rfl) (news_box w7 x _ rfl) HOne.out (by unfold maxLen; omega) (by omega) HL8.out ?_; intro v2 w9 hown2 hgr2 hat2; obtain ⟨oa2, oc2, hv2, _, _, _⟩ := own_form hown2; subst hv2; have hy9 := HYg.out _ hgr2; have c2 := hy9.c k hk8; have f2 := hy9.f k; rw [show s.v k = .slice (s.a k) (s.n k) (s.c k) from rfl] at c2))
        all_goals
          obtain ⟨r1, r2, r3, r4, r5, r6⟩ := HSt8.out _ _ _ _ (by rw [HCu.out]; exact hown2) hgr2 hat2
          have hsz9 : B3 ≤ w9.heap.size := Nat.le_trans HL8.out hgr2.size
          clear c2 f2 hy9 hown2 hgr2 hat2 ck HSt8 HYg HOk7 HX7 HY7 HO7 HT7 HB7 HI7
          have HR := Lib.hid (show _ ∧ _ ∧ _ ∧ _ ∧ _ ∧ _ from ⟨r1, r2, r3, r4, r5, r6⟩)
          clear r1 r2 r3 r4 r5 r6
          go_wp2_with fail
          obtain ⟨r1, r2, r3, r4, r5, r6⟩ := HR.out
          exact ⟨⟨j + 1, p + z, s.set k oa2 ((accM T j k).length + 1) oc2, by go_num, by go_num, by omega, by omega, HP7, Lib.hid r1, Lib.hid r2, Lib.hid (by rw [HAj.out]; exact r3), Lib.hid r4, Lib.hid r5, Lib.hid r6, Lib.hid (by simpa using hsz9)⟩, by simp [intOf]; omega⟩
      · have jj1 : ¬ (j : Int) < (tn : Int) := by omega
        obtain rfl : j = tn := by omega
        have HRr := Lib.hid (HC.out wr (Hr.out.below HB.out))
        have hLz := HL.out
        go_wp2_with fail
        refine HRr.out.mono ?_; rintro e w7 ⟨rfl, hb7⟩
        have HX7 := Lib.hid (HX.out.below hb7)
        have HY7 := Lib.hid (HY.out.below hb7)
        have HO7 := Lib.hid (HO.out.keep hb7)
        have HB7 := Lib.hid (bstep HB.out hb7)
        clear hb7 HX HY HO HB HT HA
        cases ob
        · have HF := Lib.hid (HNo.out (fun h => by cases h.1))
          clear HNo HYes
          go_wp2_with fail
          refine (new_any _).mono ?_; rintro e w8 ⟨rfl, hb8⟩
          have HXz := Lib.hid (HX7.out.below hb8)
          have HBz := Lib.hid (bstep HB7.out hb8)
          clear hb8
          have c0 := HXz.out.c0
          have c1 := HXz.out.c1
          have c2 := HXz.out.c2
          have c3 := HXz.out.c3
          have c4 := HXz.out.c4
          have c5 := HXz.out.c5
          have c6 := HXz.out.c6
          have c7 := HXz.out.c7
          have c8 := HXz.out.cl
          have c9 := HXz.out.cg
          have cF := HXz.out.f
          go_wp2_with fail
          change bodyPost _ _ _ _ _ (putM w8 w.heap.size Sl.nil 0 0)
          have hby := HXz.out.all Sl.nil 0 0
          have HBq := Lib.hid (putM_below HBz.out (Nat.le_refl _) Sl.nil 0 0)
          generalize putM w8 w.heap.size Sl.nil 0 0 = V9 at *
          exact bodyPost_ret (v := mapV Sl.nil 0 0) (by simp [results, Try.results22, go_sem, hby.c0, hby.c1, hby.c2, hby.c3, hby.c4, hby.c5, hby.c6, hby.c7, hby.cl, hby.cg]) rfl ⟨⟨Sl.nil, by rw [HF.out]; rfl, by rw [HF.out]; exact OwnM.nil _ _⟩, HBq.out⟩
        · have HF := Lib.hid (HYes.out rfl hg0 hg1)
          have HP := Lib.hid (show (p : Int) = (sumI T : Int) from by rw [Hp.out rfl, HSe.out])
          clear HNo HYes
          have HWi := Lib.hid (fun W => with_any s 0 0 (p : Int) g (small_of (by omega) (by omega)) (small_of (by omega) (by omega)) W)
          have c0 := HY7.out.c0
          have c1 := HY7.out.c1
          have c2 := HY7.out.c2
          have c3 := HY7.out.c3
          have c4 := HY7.out.c4
          have c5 := HY7.out.c5
          have c6 := HY7.out.c6
          have c7 := HY7.out.c7
          have c8 := HY7.out.cl
          have c9 := HY7.out.cg
          have cF := HY7.out.f
          go_wp2_with fail
          refine (HWi.out _).mono ?_; rintro e w8 ⟨rfl, hb8⟩
          have HXz := Lib.hid (HX7.out.below hb8)
          have HOz := Lib.hid (HO7.out.keep hb8)
          have HBz := Lib.hid (bstep HB7.out hb8)
          clear hb8 c0 c1 c2 c3 c4 c5 c6 c7 c8 c9 cF
          have c0 := HXz.out.c0
          have c1 := HXz.out.c1
          have c2 := HXz.out.c2
          have c3 := HXz.out.c3
          have c4 := HXz.out.c4
          have c5 := HXz.out.c5
          have c6 := HXz.out.c6
          have c7 := HXz.out.c7
          have c8 := HXz.out.cl
          have c9 := HXz.out.cg
          have cF := HXz.out.f
          go_wp2_with fail
          change bodyPost _ _ _ _ _ (putM w8 w.heap.size s (p : Int) g)
          have hby := HXz.out.all s (p : Int) g
          have HRq := Lib.hid ((HOz.out.putM (b := w.heap.size) (by omega) s (p : Int) g).mono (show w.heap.size ≤ B3 by omega))
          have HBq := Lib.hid (putM_below HBz.out (Nat.le_refl _) s (p : Int) g)
          generalize putM w8 w.heap.size s (p : Int) g = V9 at *
          exact bodyPost_ret (v := mapV s (p : Int) g) (by simp [results, Try.results22, go_sem, hby.c0, hby.c1, hby.c2, hby.c3, hby.c4, hby.c5, hby.c6, hby.c7, hby.cl, hby.cg]) rfl ⟨⟨s, by rw [HF.out]; show Ending.returned (mapV s (p : Int) g) = Ending.returned (mapV s (sumI T : Int) g); rw [HP.out], by rw [HF.out]; show OwnM _ _ _ (fun i => inS i T); rw [← HAz.out]; exact HRq.out⟩, HBq.out⟩
  · have HF := Lib.hid (HNo.out (fun h => hg h.2))
    have hcs : g < 0 ∨ (0 ≤ g ∧ 1099511627776 < g) := by omega
    clear HNo HYes hg
    rcases hcs with h0 | ⟨h0, h1'⟩
    · have g1 : decide (g < 0) = true := by simp; omega
      go_wp2_with fail
      refine (new_any _).mono ?_; rintro e w8 ⟨rfl, hb8⟩
      have HXz := Lib.hid (HBx.out.below hb8)
      have HBz := Lib.hid (bstep HB0.out hb8)
      clear hb8
      have c0 := HXz.out.c0
      have c1 := HXz.out.c1
      have c2 := HXz.out.c2
      have c3 := HXz.out.c3
      have c4 := HXz.out.c4
      have c5 := HXz.out.c5
      have c6 := HXz.out.c6
      have c7 := HXz.out.c7
      have c8 := HXz.out.cl
      have c9 := HXz.out.cg
      have cF := HXz.out.f
      go_wp2_with fail
      change bodyPost _ _ _ _ _ (putM w8 w.heap.size Sl.nil 0 0)
      have hby := HXz.out.all Sl.nil 0 0
      have HBq := Lib.hid (putM_below HBz.out (Nat.le_refl _) Sl.nil 0 0)
      generalize putM w8 w.heap.size Sl.nil 0 0 = V9 at *
      exact bodyPost_ret (v := mapV Sl.nil 0 0) (by simp [results, Try.results22, go_sem, hby.c0, hby.c1, hby.c2, hby.c3, hby.c4, hby.c5, hby.c6, hby.c7, hby.cl, hby.cg]) rfl ⟨⟨Sl.nil, by rw [HF.out]; rfl, by rw [HF.out]; exact OwnM.nil _ _⟩, HBq.out⟩
    · have g1 : decide (g < 0) = false := by simp; omega
      have g2 : decide (1099511627776 < g) = true := by simp; omega
      go_wp2_with fail
      refine (new_any _).mono ?_; rintro e w8 ⟨rfl, hb8⟩
      have HXz := Lib.hid (HBx.out.below hb8)
      have HBz := Lib.hid (bstep HB0.out hb8)
      clear hb8
      have c0 := HXz.out.c0
      have c1 := HXz.out.c1
      have c2 := HXz.out.c2
      have c3 := HXz.out.c3
      have c4 := HXz.out.c4
      have c5 := HXz.out.c5
      have c6 := HXz.out.c6
      have c7 := HXz.out.c7
      have c8 := HXz.out.cl
      have c9 := HXz.out.cg
      have cF := HXz.out.f
      go_wp2_with fail
      change bodyPost _ _ _ _ _ (putM w8 w.heap.size Sl.nil 0 0)
      have hby := HXz.out.all Sl.nil 0 0
      have HBq := Lib.hid (putM_below HBz.out (Nat.le_refl _) Sl.nil 0 0)
      generalize putM w8 w.heap.size Sl.nil 0 0 = V9 at *
      exact bodyPost_ret (v := mapV Sl.nil 0 0) (by simp [results, Try.results22, go_sem, hby.c0, hby.c1, hby.c2, hby.c3, hby.c4, hby.c5, hby.c6, hby.c7, hby.cl, hby.cg]) rfl ⟨⟨Sl.nil, by rw [HF.out]; rfl, by rw [HF.out]; exact OwnM.nil _ _⟩, HBq.out⟩
end Go.Proofs.Ytndhjfmdfcpceaa

namespace Go.Proofs.Ytndhjfmdfcpceaa
open Go.RowKit

set_option maxRecDepth 100000 in
theorem given_any (s : Sl) (L G : Int) (w : World) : Calls Try.prog 16 #[mapV s L G] w fun e w' => e = .returned (mapV s L G) ∧ Below w.heap.size w w' := by
  obtain ⟨W0, hW0⟩ : ∃ W0, (w.alloc (.cells (mapC s L G) 25)).alloc (.cells (mapC Sl.nil 0 0) 37) = W0 := ⟨_, rfl⟩
  have HX := Lib.hid (show BoxM W0 w.heap.size s L G from hW0 ▸ ((BoxM.new w s L G 25).below (below_map _ Sl.nil 0 0 37)))
  have HY := Lib.hid (show BoxM W0 (w.heap.size + 1) Sl.nil 0 0 from hW0 ▸ (by have := BoxM.new (w.alloc (.cells (mapC s L G) 25)) Sl.nil 0 0 37; simpa using this))
  have HB := Lib.hid (show Below w.heap.size w W0 from hW0 ▸ bstep (below_map w s L G 25) (below_map _ Sl.nil 0 0 37))
  have HW0 := Lib.hid hW0
  clear hW0
  go_enter Try.func16, Try.ntmps16
  go_upto_region 1 with fail
  have hW0 := HW0.out
  rw [show (w.alloc (.cells (mapC s L G) 25)).alloc (.cells #[.slice none 0 0, .slice none 0 0, .slice none 0 0, .slice none 0 0, .slice none 0 0, .slice none 0 0, .slice none 0 0, .slice none 0 0, .int .i64 0, .int .i64 0] 37) = W0 from hW0]
  clear hW0 HW0
  have c0 := HX.out.c0
  have c1 := HX.out.c1
  have c2 := HX.out.c2
  have c3 := HX.out.c3
  have c4 := HX.out.c4
  have c5 := HX.out.c5
  have c6 := HX.out.c6
  have c7 := HX.out.c7
  have c8 := HX.out.cl
  have c9 := HX.out.cg
  have cF := HX.out.f
  have d0 := HY.out.c0
  have d1 := HY.out.c1
  have d2 := HY.out.c2
  have d3 := HY.out.c3
  have d4 := HY.out.c4
  have d5 := HY.out.c5
  have d6 := HY.out.c6
  have d7 := HY.out.c7
  have d8 := HY.out.cl
  have d9 := HY.out.cg
  have dF := HY.out.f
  go_wp2_with fail
  change bodyPost _ _ _ _ _ (putM W0 (w.heap.size + 1) s L G)
  have hby := HY.out.all s L G
  have HBz := Lib.hid (putM_below HB.out (show w.heap.size ≤ w.heap.size + 1 by omega) s L G)
  generalize putM W0 (w.heap.size + 1) s L G = V9 at *
  exact bodyPost_ret (v := mapV s L G) (by simp [results, Try.results16, go_sem, hby.c0, hby.c1, hby.c2, hby.c3, hby.c4, hby.c5, hby.c6, hby.c7, hby.cl, hby.cg]) rfl ⟨rfl, HBz.out⟩
set_option maxRecDepth 100000 in
theorem told_any (s : Sl) (L G : Int) (w : World) : Calls Try.prog 14 #[mapV s L G] w fun e w' => e = .returned (mapV s L G) ∧ Below w.heap.size w w' := by
  obtain ⟨W0, hW0⟩ : ∃ W0, (w.alloc (.cells (mapC s L G) 37)).alloc (.cells (mapC Sl.nil 0 0) 25) = W0 := ⟨_, rfl⟩
  have HX := Lib.hid (show BoxM W0 w.heap.size s L G from hW0 ▸ ((BoxM.new w s L G 37).below (below_map _ Sl.nil 0 0 25)))
  have HY := Lib.hid (show BoxM W0 (w.heap.size + 1) Sl.nil 0 0 from hW0 ▸ (by have := BoxM.new (w.alloc (.cells (mapC s L G) 37)) Sl.nil 0 0 25; simpa using this))
  have HB := Lib.hid (show Below w.heap.size w W0 from hW0 ▸ bstep (below_map w s L G 37) (below_map _ Sl.nil 0 0 25))
  have HW0 := Lib.hid hW0
  clear hW0
  go_enter Try.func14, Try.ntmps14
  go_upto_region 1 with fail
  have hW0 := HW0.out
  rw [show (w.alloc (.cells (mapC s L G) 37)).alloc (.cells #[.slice none 0 0, .slice none 0 0, .slice none 0 0, .slice none 0 0, .slice none 0 0, .slice none 0 0, .slice none 0 0, .slice none 0 0, .int .i64 0, .int .i64 0] 25) = W0 from hW0]
  clear hW0 HW0
  have c0 := HX.out.c0
  have c1 := HX.out.c1
  have c2 := HX.out.c2
  have c3 := HX.out.c3
  have c4 := HX.out.c4
  have c5 := HX.out.c5
  have c6 := HX.out.c6
  have c7 := HX.out.c7
  have c8 := HX.out.cl
  have c9 := HX.out.cg
  have cF := HX.out.f
  have d0 := HY.out.c0
  have d1 := HY.out.c1
  have d2 := HY.out.c2
  have d3 := HY.out.c3
  have d4 := HY.out.c4
  have d5 := HY.out.c5
  have d6 := HY.out.c6
  have d7 := HY.out.c7
  have d8 := HY.out.cl
  have d9 := HY.out.cg
  have dF := HY.out.f
  go_wp2_with fail
  change bodyPost _ _ _ _ _ (putM W0 (w.heap.size + 1) s L G)
  have hby := HY.out.all s L G
  have HBz := Lib.hid (putM_below HB.out (show w.heap.size ≤ w.heap.size + 1 by omega) s L G)
  generalize putM W0 (w.heap.size + 1) s L G = V9 at *
  exact bodyPost_ret (v := mapV s L G) (by simp [results, Try.results14, go_sem, hby.c0, hby.c1, hby.c2, hby.c3, hby.c4, hby.c5, hby.c6, hby.c7, hby.cl, hby.cg]) rfl ⟨rfl, HBz.out⟩
def lightM (f : Nat → List It) : Bool := (List.range 8).all fun i => decide ((f i).length ≤ 10)
theorem lightM_no {f : Nat → List It} {i : Nat} (hi : i < 8) (h : ¬ (f i).length ≤ 10) : lightM f = false := by
  unfold lightM
  rw [List.all_eq_false]
  exact ⟨i, List.mem_range.2 hi, by simpa using h⟩
theorem lightM_yes {f : Nat → List It} (h : ∀ i, i < 8 → (f i).length ≤ 10) : lightM f = true := List.all_eq_true.2 fun i hi => decide_eq_true (h i (List.mem_range.1 hi))
theorem lightM_iff {f : Nat → List It} (h : lightM f = true) : ∀ i, i < 8 → (f i).length ≤ 10 := fun i hi => of_decide_eq_true (List.all_eq_true.1 h i (List.mem_range.2 hi))
set_option maxRecDepth 100000 in
theorem light_any (s : Sl) (L G : Int) (f : Nat → List It) (w : World) (h : RdM w s f) : Calls Try.prog 9 #[mapV s L G] w fun e w' => e = .returned (.bool (lightM f)) ∧ Below w.heap.size w w' := by
  have HL := Lib.hid (fun i (hi : i < 8) => h.n hi)
  have HX := Lib.hid (BoxM.new w s L G 25)
  have HB := Lib.hid (below_map w s L G 25)
  have HNo := Lib.hid (fun i (hi : i < 8) (h : ¬ (f i).length ≤ 10) => lightM_no hi h)
  have HYes := Lib.hid (fun h => lightM_yes (f := f) h)
  clear h
  go_enter Try.func9, Try.ntmps9
  go_wp2_with fail
  obtain ⟨W0, hW0⟩ : ∃ W0, w.alloc (.cells (mapC s L G) 25) = W0 := ⟨_, rfl⟩
  rw [hW0] at HX HB
  try rw [hW0]
  clear hW0
  go_loop [4] (fun iv => ∃ i : Nat, iv = .int .i64 (i : Int) ∧ i ≤ 8 ∧ Hid (∀ j, j < i → (f j).length ≤ 10)) (fun iv => 8 - (intOf iv).toNat)
  case atStart => exact ⟨0, rfl, Nat.zero_le _, Lib.hid (fun j hj => by omega)⟩
  case round =>
    obtain ⟨i, rfl, hi, Hok⟩ := hrel
    by_cases hin : i < 8
    · have i1 : (i : Int) < 8 := by omega
      have ci := HX.out.c i hin
      rw [show s.v i = .slice (s.a i) (s.n i) (s.c i) from rfl, HL.out i hin] at ci
      have HNi := Lib.hid (HNo.out i hin)
      by_cases hl : (f i).length ≤ 10
      · have hl1 : ((f i).length : Int) ≤ 10 := by omega
        have HOk2 := Lib.hid (show ∀ j, j < i + 1 → (f j).length ≤ 10 from fun j hj => by
          by_cases e : j = i
          · rw [e]; exact hl
          · exact Hok.out j (by omega))
        generalize (f i).length = n at *
        go_wp2_with fail
        exact ⟨⟨i + 1, by go_num, by omega, HOk2⟩, by simp [intOf]; omega⟩
      · have hl1 : ¬ ((f i).length : Int) ≤ 10 := by omega
        have HF := Lib.hid (HNi.out hl)
        generalize (f i).length = n at *
        go_wp2_with fail
        go_ret
        exact ⟨ret_bool HF.out.symm, HB.out⟩
    · obtain rfl : i = 8 := by omega
      have HF := Lib.hid (HYes.out Hok.out)
      go_wp2_with fail
      go_ret
      exact ⟨ret_bool HF.out.symm, HB.out⟩
/-! ### Same -/
theorem sameM_no {M N : Mp} {i : Nat} (hi : i < 8) (h : M.st i ≠ N.st i) : sameM M N = false := by
  unfold sameM
  have : (List.range 8).all (fun i => decide (M.st i = N.st i)) = false := by
    rw [List.all_eq_false]
    exact ⟨i, List.mem_range.2 hi, by simpa using h⟩
  rw [this]; rfl
theorem sameM_st {M N : Mp} (h : ∀ i, i < 8 → M.st i = N.st i) : sameM M N = ((M.live == N.live) && (M.garb == N.garb)) := by
  unfold sameM
  have : (List.range 8).all (fun i => decide (M.st i = N.st i)) = true := List.all_eq_true.2 fun i hi => decide_eq_true (h i (List.mem_range.1 hi))
  rw [this, Bool.true_and]
set_option maxRecDepth 100000 in
set_option maxHeartbeats 4000000 in
theorem sameM_any (s t : Sl) (M N : Mp) (w : World) (h : RdM w s M.st) (h2 : RdM w t N.st) :
    Calls Try.prog 13 #[mapV s M.live M.garb, mapV t N.live N.garb] w fun e w' => e = .returned (.bool (sameM M N)) ∧ Below w.heap.size w w' := by
  obtain ⟨W0, hW0⟩ : ∃ W0, (w.alloc (.cells (mapC s M.live M.garb) 25)).alloc (.cells (mapC t N.live N.garb) 25) = W0 := ⟨_, rfl⟩
  have HX := Lib.hid (show BoxM W0 w.heap.size s M.live M.garb from hW0 ▸ ((BoxM.new w s M.live M.garb 25).below (below_map _ t N.live N.garb 25)))
  have HY := Lib.hid (show BoxM W0 (w.heap.size + 1) t N.live N.garb from hW0 ▸ (by have := BoxM.new (w.alloc (.cells (mapC s M.live M.garb) 25)) t N.live N.garb 25; simpa using this))
  have HB := Lib.hid (show Below w.heap.size w W0 from hW0 ▸ bstep (below_map w s M.live M.garb 25) (below_map _ t N.live N.garb 25))
  have HW0 := Lib.hid hW0
  clear hW0
  have HSa := Lib.hid (fun i (hi : i < 8) W (hb : Below w.heap.size w W) => same_any (s.v i) (t.v i) (M.st i) (N.st i) W ((h i hi).below hb) ((h2 i hi).below hb))
  have HNo := Lib.hid (fun i (hi : i < 8) (h : M.st i ≠ N.st i) => sameM_no hi h)
  have HYes := Lib.hid (fun h => sameM_st (M := M) (N := N) h)
  clear h h2
  generalize sameM M N = r at *
  obtain ⟨f, L, G⟩ := M
  obtain ⟨g, L2, G2⟩ := N
  dsimp only at *
  go_enter Try.func13, Try.ntmps13
  go_upto_region 1 with fail
  have hW0 := HW0.out
  rw [show (w.alloc (.cells (mapC s L G) 25)).alloc (.cells (mapC t L2 G2) 25) = W0 from hW0]
  clear hW0 HW0
  go_wp2_with fail
  go_loopw [5] (fun iv W => ∃ i : Nat, iv = .int .i64 (i : Int) ∧ i ≤ 8 ∧ Hid (∀ j, j < i → f j = g j) ∧ Hid (Below W0.heap.size W0 W)) (fun iv _ => 8 - (intOf iv).toNat)
  case atStart => exact ⟨0, rfl, Nat.zero_le _, Lib.hid (fun j hj => by omega), Lib.hid (Below.refl _ _)⟩
  case round =>
    obtain ⟨i, rfl, hi, Hok, HBi⟩ := hrel
    by_cases hin : i < 8
    · have i1 : (i : Int) < 8 := by omega
      have ci := (HX.out.below HBi.out).c i hin
      have di := (HY.out.below HBi.out).c i hin
      rw [show s.v i = .slice (s.a i) (s.n i) (s.c i) from rfl] at ci
      rw [show t.v i = .slice (t.a i) (t.n i) (t.c i) from rfl] at di
      have HSi := Lib.hid (fun u : BelowBy wr => show Calls Try.prog 30 #[.slice (s.a i) (s.n i) (s.c i), .slice (t.a i) (t.n i) (t.c i)] u.w' fun e w' => e = .returned (.bool (decide (f i = g i))) ∧ Below u.w'.heap.size u.w' w' from HSa.out i hin u.w' (bstep HB.out (bstep HBi.out u.h)))
      have fi := cell_by ci
      have gi := cell_by di
      have HNi := Lib.hid (HNo.out i hin)
      clear ci di
      have HEq := Lib.hid (show decide (f i = g i) = true → ∀ j, j < i + 1 → f j = g j from fun h j hj => by
        by_cases e : j = i
        · rw [e]; exact of_decide_eq_true h
        · exact Hok.out j (by omega))
      have HNe := Lib.hid (show decide (f i = g i) = false → r = false from fun h => HNi.out (of_decide_eq_false h))
      generalize decide (f i = g i) = b at *
      go_wp2_with fail
      refine wp_region_below (by kernel_rfl) (by kernel_rfl) ?_
      repeat (go_big_quiet_step (exact calls_by (HSi.out _)))
      refine wpQuiet_nil ?_
      intro _ hw'
      obtain ⟨u, hw'⟩ := hw'
      subst hw'
      have HBu := Lib.hid (bstep HBi.out u.h)
      have HBz := Lib.hid (bstep HB.out HBu.out)
      generalize u.w' = V at *
      cases b
      · have HF := Lib.hid (HNe.out rfl)
        go_wp2_with fail
        go_ret
        exact ⟨ret_bool HF.out.symm, HBz.out⟩
      · have HE2 := Lib.hid (HEq.out rfl)
        go_wp2_with fail
        exact ⟨⟨i + 1, by go_num, by omega, HE2, HBu⟩, by simp [intOf]; omega⟩
    · obtain rfl : i = 8 := by omega
      have HF := Lib.hid (HYes.out Hok.out)
      have HXe := Lib.hid (HX.out.below HBi.out)
      have HYe := Lib.hid (HY.out.below HBi.out)
      have HBz := Lib.hid (bstep HB.out HBi.out)
      have c8 := HXe.out.cl
      have c9 := HXe.out.cg
      have d8 := HYe.out.cl
      have d9 := HYe.out.cg
      have HF2 := Lib.hid (show r = ((L == L2) && (G == G2)) from HF.out)
      generalize hl : (L == L2) = b1 at *
      cases b1
      · go_wp2_with fail
        go_ret
        exact ⟨ret_bool HF2.out.symm, HBz.out⟩
      · go_wp2_with fail
        go_ret
        exact ⟨ret_bool HF2.out.symm, HBz.out⟩
end Go.Proofs.Ytndhjfmdfcpceaa
