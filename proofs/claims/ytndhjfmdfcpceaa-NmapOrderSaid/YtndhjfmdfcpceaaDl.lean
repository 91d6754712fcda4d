/- slices.Delete of one item: the walk. -/
import Derived.Test.YtndhjfmdfcpceaaIw
namespace Go.Proofs.Ytndhjfmdfcpceaa
open Go.RowKit

theorem step_append_run {P : Program} {w : World} {ops : Array Oper} {o : Oper} {a : Act} {K : Act → World → Prop} {Q : Exit → Act → World → Prop} {E : Prop} (hgd : o.guard = none) (s x : Operand) (t tn : TypeId)
    (ho : o.op = .call { callee := .builtin .append, args := #[s, x], argTypes := #[t, tn] }) (vs vx : Value) (hs : a.eval s = vs) (hx : a.eval x = vx)
    (v' : Value) (w' : World) (hr : (Builtin.append_ #[t, tn] o.type #[vs, vx]).run P w = .ok v' w') (h : K (a.put o.dst v') w') :
    if Region.wanted o (yielded ops a.tmps) = true then Oper.wp P o a w K Q else E := by
  have hw : Region.wanted o (yielded ops a.tmps) = true := by simp [Region.wanted, hgd]
  rw [if_pos hw]
  exact Lib.wp_append_run w s x t tn ho vs vx hs hx v' w' hr h
theorem slice_tail {w : World} {B g n cap : Nat} {xs : List Value} (h : w.ownsRow B 29 4 (.slice (some ⟨g, 0, none⟩) n cap) n xs) (k : Nat) (hk : k + 1 ≤ n) :
    ∃ p c', (∀ W kl, (Instr.slice 22 (.slice (some ⟨g, 0, none⟩) n cap) (some (.int kl ((k : Int) + 1))) none none).run Try.prog W = .ok (.slice (some p) (n - (k + 1)) c') W) ∧
      Rd w 4 (.slice (some p) (n - (k + 1)) c') (n - (k + 1)) (xs.drop ((k + 1) * 4)) := by
  obtain ⟨_, _, _, hnc⟩ := own_obj h
  by_cases hq : k + 1 < cap
  · exact ⟨_, _, slice_own1 g n cap k hk hq, own_from h (k + 1) hk hq⟩
  · obtain rfl : cap = k + 1 := by omega
    obtain rfl : n = k + 1 := by omega
    refine ⟨⟨g, 0, none⟩, 0, fun W kl => ?_, ?_⟩
    · obtain ⟨h1, h2⟩ := elem_of (P := Try.prog) elemT
      rw [run_slice_l W 22 (some ⟨g, 0, none⟩) (k + 1) (k + 1) h1 kl ((k : Int) + 1) (by omega) (by omega), h2]
      have : ((k : Int) + 1).toNat = k + 1 := by omega
      simp [Result.andThen, sliced, this]
    · have hx := h.1
      rw [List.drop_of_length_le (by omega), Nat.sub_self]
      exact ⟨rfl, some ⟨g, 0, none⟩, 0, rfl, Nat.le_refl _, Nat.zero_le _, fun h => (by cases h), fun h => absurd h (by simp)⟩
theorem slice_last (g p cap : Nat) (hc : p + 1 ≤ cap) :
    ∀ W kl kh, (Instr.slice 22 (.slice (some ⟨g, 0, none⟩) p cap) (some (.int kl (p : Int))) (some (.int kh ((p : Int) + 1))) none).run Try.prog W = .ok (.slice (some ⟨g, p * 4, none⟩) 1 (cap - p)) W := fun W kl kh => by
  obtain ⟨h1, h2⟩ := elem_of (P := Try.prog) elemT
  rw [run_slice_lh W 22 (some ⟨g, 0, none⟩) p cap h1 kl kh (p : Int) ((p : Int) + 1) (by omega) (by omega) (by omega), h2]
  have h3 : ((p : Int) + 1).toNat = p + 1 := by omega
  have h4 : cap ≠ p := by omega
  simp [Result.andThen, sliced, h3, h4, addr_add]
theorem slice_three (a : Option Addr) (n cap i : Nat) (hi : i + 1 ≤ n) (hn : n ≤ cap) :
    ∃ u, ∀ W kl kh km, (Instr.slice 22 (.slice a n cap) (some (.int kl (i : Int))) (some (.int kh ((i : Int) + 1))) (some (.int km (n : Int)))).run Try.prog W = .ok u W := by
  obtain ⟨h1, h2⟩ := elem_of (P := Try.prog) elemT
  refine ⟨sliced a (i : Int).toNat ((i : Int) + 1).toNat (n : Int).toNat 4, fun W kl kh km => ?_⟩
  rw [run_slice_lhm W 22 a n cap h1 kl kh km (i : Int) ((i : Int) + 1) (n : Int) (by omega) (by omega) (by omega) (by omega), h2]
  rfl
set_option maxHeartbeats 1000000 in
theorem del_any (v : Value) (l : List It) (i B : Nat) (w : World) (hown : OwnT w B v l) (hB : B ≤ w.heap.size) (hi : i < l.length) (hs : l.length ≤ 1000000) :
    Calls Try.prog 64 #[v, .int .i64 (i : Int), .int .i64 ((i : Int) + 1)] w fun e w' => ∃ v', e = .returned v' ∧ OwnT w' B v' (l.take i ++ l.drop (i + 1)) ∧ Below B w w' := by
  obtain ⟨oa, oc, rfl, ho1, ho2, ho3⟩ := own_form hown
  have hfin : itsC (l.take i ++ l.drop (i + 1)) = (itsC l).take (i * 4) ++ (itsC l).drop ((i + 1) * 4) := by
    rw [itsC_append, itsC_take, itsC_drop]
  have HF := Lib.hid hfin
  have Hone := Lib.hid (itsC_one' l)
  have hl := itsC_length l
  obtain ⟨p, hp⟩ : ∃ p, l.length = p + 1 := ⟨l.length - 1, by omega⟩
  have hown' : w.ownsRow B 29 4 _ l.length (itsC l) := hown
  clear hown
  have hown := hown'
  clear hown'
  have hlen2 : (l.take i ++ l.drop (i + 1)).length = p := by rw [List.length_append, List.length_take, List.length_drop]; omega
  rw [hp] at hown ho1 hl hs hi ⊢
  generalize itsC l = xs at *
  obtain ⟨g, rfl⟩ : ∃ g, oa = some ⟨g, 0, none⟩ := by
    rcases hown.2 with ⟨e, h0⟩ | ⟨g, _, _, e, _⟩
    · omega
    · injection e with e; exact ⟨g, e⟩
  have gto := slice_to (P := Try.prog) elemT (a := some ⟨g, 0, none⟩) (n := p + 1) (cap := oc) (fun x hx => ⟨g, 0, by injection hx with hx; exact hx.symm⟩) i (by omega)
  obtain ⟨q, qc, g1, hrd⟩ := slice_tail hown i hi
  obtain ⟨w3, hap, hown3, hgr3⟩ := app_room (own_take hown i (by omega)).drew hrd.drew (fun u hu => Hone.out u (List.mem_of_mem_drop hu)) (by omega)
  have e1 : i + (p + 1 - (i + 1)) = p := by omega
  rw [e1] at hap hown3
  have hgB := (hown.lt g rfl).1
  have hb3 : Below B w w3 := ((Below.refl B w).drew).grown hgr3 hB (by intro r hr; injection hr with hr; omega)
  obtain ⟨ys, hy, hown4⟩ := own_more hown3 1 (by omega)
  obtain ⟨w5, hcl, hown5, hgr5⟩ := clear_raw hown4 p (by omega)
  have e2 : p + 1 - p = 1 := by omega
  rw [e2] at hcl
  have hb5 : Below B w w5 := hb3.grown hgr5 (Nat.le_trans hB hb3.size) (by intro r hr; injection hr with hr; omega)
  obtain ⟨u3, g3⟩ := slice_three (some ⟨g, 0, none⟩) (p + 1) oc i hi ho1
  simp only [Int.natCast_add] at g3
  rw [show ((1 : Nat) : Int) = 1 from rfl] at g3
  have g2 := slice_last g p oc (by omega)
  have hl3 := hown3.1
  have hown6 := own_take hown5 p (by omega)
  rw [List.take_append_of_le_length (by rw [List.length_take, List.length_append, hl3]; omega), List.take_take, Nat.min_self, List.take_left' hl3] at hown6
  have HR := Lib.hid hown6
  have HB5 := Lib.hid hb5
  have HL2 := Lib.hid hlen2
  have hneq : ((i : Int) == (i : Int) + 1) = false := beq_eq_false_iff_ne.2 (by omega)
  have j1 : IntKind.i64.wrap ((i : Int) + 1) = (i : Int) + 1 := IntWalk.i64_in _ (by omega)
  have hm : oc ≤ 9223372036854775807 := by unfold maxLen at ho2; omega
  clear hown hown3 hown4 hown5 hown6 hgr3 hgr5 hb3 hb5 hrd hl hl3 hlen2 hfin ho3 hp e1 e2 hy
  go_enter Try.func64, Try.ntmps64
  go_wp2_with fail
  have j2 : (0 : Int) ≤ (i : Int) + 1 := by omega
  have j3 : (i : Int) + 1 ≤ (p : Int) + 1 := by omega
  have j4 : ((i : Int) + 1).toNat = i + 1 := by omega
  have j5 : (i : Int) ≤ (p : Int) + 1 := by omega
  have j6 : (i : Int) ≤ (oc : Int) := by omega
  go_region_held3 (fun _ => True) (trivial) (refine step_append_run rfl (.tmp 22) (.tmp 25) 22 22 rfl _ _ (by simp [Act.eval]) (by simp [Act.eval]) _ _ (hap _) ?_)
  go_wp2_with fail
  go_ret
  exact ⟨_, rfl, ownT_of HR.out HF.out.symm, HB5.out⟩
end Go.Proofs.Ytndhjfmdfcpceaa
