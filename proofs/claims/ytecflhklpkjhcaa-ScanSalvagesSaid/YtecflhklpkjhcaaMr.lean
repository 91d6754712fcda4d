/- Records in memory: each in five cells, its data in a row of bytes of the call's own. -/
import Derived.Test.YtecflhklpkjhcaaNr
import Derived.Test.YtecflhklpkjhcaaSf
import Derived.Test.YtecflhklpkjhcaaBx
namespace Go.Proofs.Ytecflhklpkjhcaa
open Go.RowKit

def recC (p : Rec × Value) : List Value := [.int .i64 p.1.off, .int .u64 (p.1.nd.key : Int), .int .u32 (p.1.nd.ck : Int), .bool p.1.nd.del, p.2]
theorem recC_len (p : Rec × Value) : (recC p).length = 5 := rfl
def recsC (es : List (Rec × Value)) : List Value := es.flatMap recC
theorem recsC_length (es : List (Rec × Value)) : (recsC es).length = es.length * 5 := flat_length 5 recC es fun x _ => recC_len x
theorem recsC_snoc (es : List (Rec × Value)) (p : Rec × Value) : recsC (es ++ [p]) = recsC es ++ recC p := by simp [recsC]
/-- Each item's data is a row of the call's own. -/
def Datas (w : World) (B : Nat) (es : List (Rec × Value)) : Prop := ∀ p ∈ es, w.ownsRow B 5 1 p.2 p.1.nd.data.length (p.1.nd.data.map byteV)
theorem Datas.keep {w w' : World} {B : Nat} {es : List (Rec × Value)} (h : Datas w B es) (hb : Below w.heap.size w w') : Datas w' B es := fun p hp => own_keep (h p hp) hb
theorem Datas.app {w w' : World} {B : Nat} {es : List (Rec × Value)} {e : TypeId} {B' sz n : Nat} {v : Value} {xs : List Value} (h : Datas w B es) (ho : w.ownsRow B' e sz v n xs) (hne : 5 ≠ e) (hg : w.grownBy w' v.ownBlock) : Datas w' B es :=
  fun p hp => (h p hp).kept hg (own_ne (h p hp) ho hne)
theorem Datas.snoc {w : World} {B : Nat} {es : List (Rec × Value)} {p : Rec × Value} (h : Datas w B es) (hp : w.ownsRow B 5 1 p.2 p.1.nd.data.length (p.1.nd.data.map byteV)) : Datas w B (es ++ [p]) := fun q hq => by
  rcases List.mem_append.1 hq with hq | hq
  · exact h q hq
  · rw [List.mem_singleton.1 hq]; exact hp
theorem Datas.nil (w : World) (B : Nat) : Datas w B [] := fun p hp => by cases hp
theorem Datas.lower {w : World} {B B' : Nat} {es : List (Rec × Value)} (h : Datas w B es) (hb : B' ≤ B) : Datas w B' es := fun p hp => World.ownsRow.mono (h p hp) hb
/-- v is a slice of records of type e of the call's own. -/
structure OwnR (w : World) (B : Nat) (e : TypeId) (v : Value) (es : List (Rec × Value)) : Prop where
  row : w.ownsRow B e 5 v es.length (recsC es)
  dat : Datas w B es
theorem OwnR.keep {w w' : World} {B : Nat} {e : TypeId} {v : Value} {es : List (Rec × Value)} (h : OwnR w B e v es) (hb : Below w.heap.size w w') : OwnR w' B e v es := ⟨own_keep h.row hb, h.dat.keep hb⟩
theorem OwnR.nil (w : World) (B : Nat) (e : TypeId) : OwnR w B e (.slice none 0 0) [] := ⟨World.ownsRow_nil _ _ _ _, Datas.nil w B⟩
theorem OwnR.lower {w : World} {B B' : Nat} {e : TypeId} {v : Value} {es : List (Rec × Value)} (h : OwnR w B e v es) (hb : B' ≤ B) : OwnR w B' e v es := ⟨World.ownsRow.mono h.row hb, h.dat.lower hb⟩
/-- Reading of records: the cells, each item's data. -/
structure RdR (w : World) (v : Value) (es : List (Rec × Value)) : Prop where
  row : Rd w 5 v es.length (recsC es)
  dat : ∀ p ∈ es, RdB w p.2 p.1.nd.data
theorem OwnR.rd {w : World} {B : Nat} {e : TypeId} {v : Value} {es : List (Rec × Value)} (h : OwnR w B e v es) : RdR w v es := ⟨own_rd h.row, fun p hp => own_rdl (h.dat p hp)⟩
theorem RdR.below {w w' : World} {v : Value} {es : List (Rec × Value)} (h : RdR w v es) (hb : Below w.heap.size w w') : RdR w' v es := ⟨h.row.below hb, fun p hp => RdL.below (h.dat p hp) hb⟩
def rat (es : List (Rec × Value)) (j : Nat) : Rec × Value := es.getD j (⟨0, nd0⟩, .slice none 0 0)
theorem rat_mem {es : List (Rec × Value)} {j : Nat} (h : j < es.length) : rat es j ∈ es := by
  unfold rat; rw [List.getD_eq_getElem?_getD, List.getElem?_eq_getElem h]; exact List.getElem_mem h
theorem RdR.shape {w : World} {v : Value} {es : List (Rec × Value)} (h : RdR w v es) : ∃ a cap, v = .slice a es.length cap ∧ es.length ≤ cap ∧ cap ≤ maxLen := by
  obtain ⟨_, a, cap, h1, h2, h3, _⟩ := h.row
  exact ⟨a, cap, h1, h2, h3⟩
theorem RdR.at {w : World} {a : Option Addr} {n cap : Nat} {es : List (Rec × Value)} (h : RdR w (.slice a n cap) es) {j : Nat} (hj : j < n) : ∃ b off, a = some ⟨b, off, none⟩ ∧ RdB w (rat es j).2 (rat es j).1.nd.data ∧
    w.cell? ⟨b, off + j * 5, none⟩ = some (.int .i64 (rat es j).1.off) ∧ w.cell? ⟨b, off + j * 5 + 1, none⟩ = some (.int .u64 ((rat es j).1.nd.key : Int)) ∧ w.cell? ⟨b, off + j * 5 + 2, none⟩ = some (.int .u32 ((rat es j).1.nd.ck : Int)) ∧
    w.cell? ⟨b, off + j * 5 + 3, none⟩ = some (.bool (rat es j).1.nd.del) ∧ w.cell? ⟨b, off + j * 5 + 4, none⟩ = some (rat es j).2 := by
  have hn : n = es.length := by
    obtain ⟨_, _, _, e, _⟩ := h.row
    injection e
  subst hn
  obtain ⟨_, a', cap', e, _, _, _, hc⟩ := h.row
  injection e with e1
  obtain ⟨b, off, e2, hc⟩ := hc (by rw [recsC_length]; omega)
  refine ⟨b, off, e1.trans e2, h.dat _ (rat_mem hj), ?_⟩
  have hat : ∀ i, i < 5 → ∀ u, (recC (rat es j))[i]? = some u → w.cell? ⟨b, off + (j * 5 + i), none⟩ = some u := fun i hi u hu => hc (j * 5 + i) u (by
    rw [show recsC es = es.flatMap recC from rfl, flat_at 5 recC (⟨0, nd0⟩, .slice none 0 0) es (fun _ _ => rfl) j i hj hi]; exact hu)
  exact ⟨hat 0 (by omega) _ rfl, hat 1 (by omega) _ rfl, hat 2 (by omega) _ rfl, hat 3 (by omega) _ rfl, hat 4 (by omega) _ rfl⟩
theorem elemR : ElemT Try.prog 38 43 5 48 := by
  obtain ⟨i, hi, hz, hs, hb⟩ := info_parts (P := Try.prog) (e := 43) (z := .agg #[.int .i64 0, .int .u64 0, .int .u32 0, .bool false, .slice none 0 0]) (size := 5) (bytes := 48) (by kernel_rfl)
  exact ⟨Try.underlying38, by decide, i, _, hi, hz, hs, hb, rfl⟩
theorem elemRR : ElemT Try.prog 52 88 5 48 := by
  obtain ⟨i, hi, hz, hs, hb⟩ := info_parts (P := Try.prog) (e := 88) (z := .agg #[.int .i64 0, .int .u64 0, .int .u32 0, .bool false, .slice none 0 0]) (size := 5) (bytes := 48) (by kernel_rfl)
  exact ⟨Try.underlying52, by decide, i, _, hi, hz, hs, hb, rfl⟩
end Go.Proofs.Ytecflhklpkjhcaa
