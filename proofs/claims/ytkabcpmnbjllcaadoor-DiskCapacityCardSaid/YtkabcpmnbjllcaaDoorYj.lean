/- Keeps in memory; slices.IndexFunc over them, with the closure of Crash: the walks. -/
import Derived.Test.YtkabcpmnbjllcaaDoorYi
namespace Go.Proofs.YtkabcpmnbjllcaaDoor
open Go.RowKit

def kpC (k : Kp) : List Value := [.string (strB k.name), .int .i64 k.wri, .int .i64 k.torn]
/-- v reads as the keeps l. -/
def RdK (w : World) (v : Value) (l : List Kp) : Prop := RdS 3 kpC w v l
theorem RdK.below {w w' : World} {v : Value} {l : List Kp} (h : RdK w v l) (hb : Below w.heap.size w w') : RdK w' v l := RdS.below h hb
def kpW (l : List Kp) (j : Nat) : Kp := l.getD j kp0
theorem RdK.shape {w : World} {v : Value} {l : List Kp} (h : RdK w v l) : ∃ a cap, v = .slice a l.length cap ∧ l.length ≤ cap ∧ cap ≤ maxLen ∧ (a = none → cap = 0) := by
  obtain ⟨a, c, e, h1, h2, h3, _⟩ := RdS.shape h (by decide) kp0
  exact ⟨a, c, e, h1, h2, h3⟩
theorem RdK.at {w : World} {a : Option Addr} {n cap : Nat} {l : List Kp} (h : RdK w (.slice a n cap) l) {j : Nat} (hj : j < n) : ∃ b off, a = some ⟨b, off, none⟩ ∧
    w.cell? ⟨b, off + j * 3, none⟩ = some (.string (strB (kpW l j).name)) ∧ w.cell? ⟨b, off + j * 3 + 1, none⟩ = some (.int .i64 (kpW l j).wri) ∧ w.cell? ⟨b, off + j * 3 + 2, none⟩ = some (.int .i64 (kpW l j).torn) := by
  obtain ⟨a', cap', e, h1, h2, h3, h4⟩ := RdS.shape h (by decide) kp0
  injection e with e1 e2 e3
  subst e1 e2 e3
  obtain ⟨b, off, e4, hc⟩ := h4 (by omega)
  have c := hc j hj
  exact ⟨b, off, e4, c 0 _ rfl, c 1 _ rfl, c 2 _ rfl⟩
theorem keepOf_at : ∀ (l : List Kp) (i : Nat) (s : List UInt8), i < l.length → (kpW l i).name = s → (∀ j, j < i → (kpW l j).name ≠ s) → keepOf l s = kpW l i
  | [], _, _, h, _, _ => by simp at h
  | x :: r, 0, s, _, h, _ => by
    have h : x.name = s := h
    show ((x :: r).find? _).getD kp0 = x
    rw [List.find?_cons_of_pos (by simpa using h)]
    rfl
  | x :: r, i + 1, s, hi, h, hn => by
    have h0 : x.name ≠ s := hn 0 (by omega)
    show ((x :: r).find? _).getD kp0 = kpW r i
    rw [List.find?_cons_of_neg (by simpa using h0)]
    exact keepOf_at r i s (by simpa using hi) h (fun j hj => hn (j + 1) (by omega))
theorem keepOf_no : ∀ (l : List Kp) (s : List UInt8), (∀ j, j < l.length → (kpW l j).name ≠ s) → keepOf l s = kp0
  | [], _, _ => rfl
  | x :: r, s, hn => by
    have h0 : x.name ≠ s := hn 0 (by simp)
    show ((x :: r).find? _).getD kp0 = kp0
    rw [List.find?_cons_of_neg (by simpa using h0)]
    exact keepOf_no r s (fun j hj => hn (j + 1) (by simpa using hj))
set_option maxRecDepth 100000 in
theorem crash1_any (k : Kp) (nm : List UInt8) (b : Nat) (w : World) (h : w.cell? ⟨b, 0, none⟩ = some (.string (strB nm))) :
    Calls Tryd.prog 56 #[keepVal k, .pointer (some ⟨b, 0, none⟩)] w fun e w' => e = .returned (.bool (k.name == nm)) ∧ Below w.heap.size w w' := by
  obtain ⟨kn, kw, kt⟩ := k
  have hb : b < w.heap.size := World.block_lt_of_cell? w _ h
  have h2 : (w.alloc (.cells #[.string (strB kn), .int .i64 kw, .int .i64 kt] 52)).cell? ⟨b, 0, none⟩ = some (.string (strB nm)) := Below.keeps ((Below.refl _ _).alloc (Nat.le_refl _) _) _ _ h
  have HQ := Lib.hid (same_str kn nm)
  change Calls Tryd.prog 56 #[.agg #[.string (strB kn), .int .i64 kw, .int .i64 kt], .pointer (some ⟨b, 0, none⟩)] w _
  go_enter Tryd.func56, Tryd.ntmps56
  go_wp2_with fail
  go_ret
  exact ⟨by rw [← HQ.out]; rfl, (Below.refl _ _).alloc (Nat.le_refl _) _⟩
set_option maxHeartbeats 800000 in
theorem kidx_any (v : Value) (l : List Kp) (nm : List UInt8) (b : Nat) (w : World) (h : RdK w v l) (hc : w.cell? ⟨b, 0, none⟩ = some (.string (strB nm))) (hs : l.length ≤ 1000000) :
    Calls Tryd.prog 55 #[v, .func (.func 56) #[] #[.pointer (some ⟨b, 0, none⟩)]] w fun e w' =>
      ((∃ i : Nat, e = .returned (.int .i64 (i : Int)) ∧ i < l.length ∧ keepOf l nm = kpW l i) ∨ (e = .returned (.int .i64 (-1)) ∧ keepOf l nm = kp0)) ∧ Below w.heap.size w w' := by
  obtain ⟨a, cap, rfl, h1, h2, h3⟩ := h.shape
  have HR := Lib.hid h
  have HC := Lib.hid (fun k W (hW : Below w.heap.size w W) => crash1_any k nm b W (Below.keeps hW _ _ hc))
  have HAt := Lib.hid (fun i => keepOf_at l i nm)
  have HNo := Lib.hid (keepOf_no l nm)
  clear h hc h3
  generalize keepOf l nm = KO at *
  generalize l.length = n at *
  go_enter Tryd.func55, Tryd.ntmps55
  go_wp2_with fail
  go_loopw [8] (fun iv W => ∃ i : Nat, iv = .int .i64 (i : Int) ∧ i ≤ n ∧ Hid (∀ j, j < i → (kpW l j).name ≠ nm) ∧ Hid (Below w.heap.size w W)) (fun iv _ => n - (intOf iv).toNat)
  case atStart => exact ⟨0, rfl, Nat.zero_le _, Lib.hid (fun j hj => by omega), Lib.hid (Below.refl _ _)⟩
  case round =>
    obtain ⟨i, rfl, hi, HNe, HB⟩ := hrel
    by_cases hlt : i < n
    · have i1 : (i : Int) < (n : Int) := by omega
      obtain ⟨bb, off, rfl, c0, c1, c2⟩ := (HR.out.below HB.out).at hlt
      have HCi := Lib.hid (HC.out (kpW l i) wr HB.out)
      have HF := Lib.hid (fun h => HAt.out i hlt h HNe.out)
      have HN := Lib.hid (show (kpW l i).name ≠ nm → ∀ j, j < i + 1 → (kpW l j).name ≠ nm from fun h j hj => by
        by_cases e : j = i
        · rw [e]; exact h
        · exact HNe.out j (by omega))
      have hq : ((kpW l i).name == nm) = true ∨ ((kpW l i).name == nm) = false := by cases (kpW l i).name == nm <;> simp
      rcases hq with hq | hq
      · have HF2 := Lib.hid (HF.out (by simpa using hq))
        rw [hq] at HCi
        clear HF HN HNe hq
        generalize hk : kpW l i = k at *
        have Hk := Lib.hid hk
        clear hk
        obtain ⟨kn, kw, kt⟩ := k
        go_wp2_with fail
        refine HCi.out.mono ?_
        rintro e w2 ⟨rfl, hb⟩
        have HB2 := Lib.hid (bstep HB.out hb)
        clear hb
        go_wp2_with fail
        go_ret
        exact ⟨.inl ⟨i, rfl, hlt, by rw [Hk.out]; exact HF2.out⟩, HB2.out⟩
      · have HN2 := Lib.hid (HN.out (by simpa using hq))
        rw [hq] at HCi
        clear HF HN HNe hq
        generalize kpW l i = k at *
        obtain ⟨kn, kw, kt⟩ := k
        go_wp2_with fail
        refine HCi.out.mono ?_
        rintro e w2 ⟨rfl, hb⟩
        have HB2 := Lib.hid (bstep HB.out hb)
        clear hb
        go_wp2_with fail
        exact ⟨⟨i + 1, by go_num, by omega, HN2, HB2⟩, by simp [intOf]; omega⟩
    · have i1 : ¬ (i : Int) < (n : Int) := by omega
      have HE := Lib.hid (HNo.out (fun j hj => HNe.out j (by omega)))
      go_wp2_with fail
      go_ret
      exact ⟨.inr ⟨rfl, HE.out⟩, HB.out⟩
end Go.Proofs.YtkabcpmnbjllcaaDoor
