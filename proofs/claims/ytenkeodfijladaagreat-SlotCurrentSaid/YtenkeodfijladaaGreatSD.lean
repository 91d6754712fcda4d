/- Several texts in one, each over the last: What the laws of slots look at. slices.Clone of generations, clone, IndexFunc and Change of the program's slots: the walks. Printed by mkSkg.py. Change and Rotate of the program's slots: the walks. Printed by mkSkh.py. Rotate of the program's slots: the walk. Printed by mkSki.py. -/
import Derived.Test.YtenkeodfijladaaGreatSkb
import Derived.Test.YtenkeodfijladaaGreatSB
import Derived.Test.YtenkeodfijladaaGreatVB
import Derived.Test.YtenkeodfijladaaGreatGR
import Derived.Test.YtenkeodfijladaaGreatSC
import Derived.Test.YtenkeodfijladaaGreatSA
namespace Go.Proofs.YtenkeodfijladaaGreat
open Go.RowKit

/-- A slot in four cells. -/
structure SAt (w : World) (b o : Nat) (i l : Int) (r : Bool) (a : Option Addr) (n c : Nat) : Prop where
  c0 : w.cell? ⟨b, o, none⟩ = some (.int .i64 i)
  c1 : w.cell? ⟨b, o + 1, none⟩ = some (.int .i64 l)
  c2 : w.cell? ⟨b, o + 2, none⟩ = some (.bool r)
  c3 : w.cell? ⟨b, o + 3, none⟩ = some (.slice a n c)
theorem SAt.below {w w' : World} {b o : Nat} {i l : Int} {r : Bool} {a : Option Addr} {n c : Nat} (h : SAt w b o i l r a n c) (hb : Below w.heap.size w w') : SAt w' b o i l r a n c := ⟨hb.keeps' h.c0, hb.keeps' h.c1, hb.keeps' h.c2, hb.keeps' h.c3⟩
/-- The slot that the law looks at, in a row of two. -/
def SlIn (w : World) (b k : Nat) : Prop := ∃ (i l : Int) (r : Bool) (a : Option Addr) (n c : Nat) (L : List GP), SAt w b (k * 4) i l r a n c ∧ RdG w (.slice a n c) L ∧ (∀ p ∈ L, ∀ j, j < 8 → (p.1.m.st j).length ≤ 48) ∧ n ≤ 12
theorem SlIn.below {w w' : World} {b k : Nat} (h : SlIn w b k) (hb : Below w.heap.size w w') : SlIn w' b k := by
  obtain ⟨i, l, r, a, n, c, L, h1, h2, h3, h4⟩ := h
  exact ⟨i, l, r, a, n, c, L, h1.below hb, h2.below hb, h3, h4⟩
theorem RdG.len {w : World} {a : Option Addr} {n c : Nat} {L : List GP} (h : RdG w (.slice a n c) L) : L.length = n := by
  obtain ⟨_, _, e, _⟩ := h.shape
  injection e with _ e _; exact e.symm
end Go.Proofs.YtenkeodfijladaaGreat

namespace Go.Proofs.YtenkeodfijladaaGreat
open Go.RowKit

set_option maxHeartbeats 400000 in
theorem gclone_any (a : Option Addr) (n c : Nat) (xs : List Value) (w : World) (h : Rd w 14 (.slice a n c) n xs) (h1 : ∀ u ∈ xs, u.oneCell' = true) (hs : n ≤ 1000000) :
    Calls Tryz.prog 122 #[.slice a n c] w fun e w' => ∃ a' c', e = .returned (.slice a' n c') ∧ w'.ownsRow w.heap.size 58 14 (.slice a' n c') n xs ∧ Below w.heap.size w w' := by
  have q22 : ∀ (w : World) (a : Option Addr) (n c n' c' : Nat), (binOp .eql 39 (.slice a n c) (.slice none n' c')).run Tryz.prog w = .ok (.bool a.isNone) w := fun w a n c n' c' => Lib.run_eql_slice_nil w _ _ a n c n' c' Tryz.underlying39
  cases a with
  | none =>
    have h0 : n = 0 := by
      obtain ⟨_, a', cap', e, h2, _, h5, _⟩ := h
      injection e with e1 e2 e3
      have := h5 e1.symm
      omega
    subst h0
    have hx : xs = [] := List.length_eq_zero_iff.1 (by have := h.1; omega)
    subst hx
    clear h
    go_enter Tryz.func122, Tryz.ntmps122
    go_wp2_with fail
    go_ret
    exact ⟨_, _, rfl, World.ownsRow_nil _ _ _ _, Below.refl _ _⟩
  | some p =>
    have Hr := Lib.hid h
    have H1 := Lib.hid h1
    clear h h1
    go_enter Tryz.func122, Tryz.ntmps122
    go_wp2_with (at_builtin; go_must (refine wpList_app rfl (.tmp 5) (.tmp 6) 39 rfl elemGp w.heap.size rfl (World.ownsRow_made (size := 14) _ #[] 0 (Nat.le_refl _) (by decide) rfl) rfl (Hr.out.alloc _) H1.out (by unfold maxLen; omega) (by omega) (by simp) ?_); intro v3 w3 hown3 hgr3 hv3; clear hv3)
    have HB := Lib.hid (own_below ((Below.refl w.heap.size w).alloc (Nat.le_refl _) _) (World.ownsRow_made (e := 58) (size := 14) w #[] 0 (Nat.le_refl _) (by decide) rfl) (by simp) hgr3)
    rw [Nat.zero_add, List.nil_append] at hown3
    obtain ⟨ra, rc, rfl, _⟩ := own_form hown3
    have HO := Lib.hid hown3
    clear hown3 hgr3
    go_wp2_with fail
    go_ret
    exact ⟨_, _, rfl, HO.out, HB.out⟩
/-- A row of generations of the call's own, their maps, too. -/
structure OwnGs (W : World) (B : Nat) (v : Value) (n : Nat) (L : List GP) : Prop where
  row : W.ownsRow B 58 14 v n (L.flatMap gpC)
  len : n = L.length
  m : ∀ p ∈ L, OwnM W B p.2 p.1.m.st
theorem OwnGs.rd {W : World} {B n : Nat} {v : Value} {L : List GP} (h : OwnGs W B v n L) : RdG W v L := own_rdG h.row h.len fun p hp => (h.m p hp).rd
theorem OwnGs.keep {W W' : World} {B n : Nat} {v : Value} {L : List GP} (h : OwnGs W B v n L) (hb : Below W.heap.size W W') : OwnGs W' B v n L := ⟨own_keep h.row hb, h.len, fun p hp => (h.m p hp).keep hb⟩
theorem OwnGs.pts {W : World} {B n b : Nat} {v : Value} {L : List GP} (h : OwnGs W B v n L) (hb : b < B) (vs : List (Nat × Value)) : OwnGs (Go.Proofs.YtenkeodfijladaaGreat.pts W b vs) B v n L := ⟨pts_own hb h.row vs, h.len, fun p hp => (h.m p hp).pts hb vs⟩
theorem OwnGs.lower {W : World} {B B' n : Nat} {v : Value} {L : List GP} (h : OwnGs W B v n L) (hB : B' ≤ B) : OwnGs W B' v n L := ⟨World.ownsRow.mono h.row hB, h.len, fun p hp => (h.m p hp).mono hB⟩
theorem gen_ne {W : World} {B B' g n c : Nat} {xs : List Value} {s : Sl} {f : Nat → List It} (h : W.ownsRow B 58 14 (.slice (some ⟨g, 0, none⟩) n c) n xs) (ho : OwnM W B' s f) : ∀ i, i < 8 → (s.v i).ownBlock ≠ some g := fun i hi e => by
  obtain ⟨c1, f1, h1⟩ := Lib.ownsRow_kind h g rfl
  obtain ⟨c2, f2, h2⟩ := Lib.ownsRow_kind (ho i hi) g e
  rw [h1] at h2
  injection h2 with h2
  injection h2 with _ h3
  exact absurd h3 (by decide)
theorem OwnM.genpts {W : World} {B B' g n c : Nat} {xs : List Value} {s : Sl} {f : Nat → List It} (ho : OwnM W B' s f) (h : W.ownsRow B 58 14 (.slice (some ⟨g, 0, none⟩) n c) n xs) (vs : List (Nat × Value)) : OwnM (Go.Proofs.YtenkeodfijladaaGreat.pts W g vs) B' s f := fun i hi => pts_own_ne (gen_ne h ho i hi) vs (ho i hi)
/-- A generation stored into the row. -/
theorem OwnGs.set {W : World} {B n c g : Nat} {L : List GP} (h : OwnGs W B (.slice (some ⟨g, 0, none⟩) n c) n L) (k : Nat) (hk : k < n) (y : GP) (hy : OwnM W B y.2 y.1.m.st) :
    OwnGs (Go.Proofs.YtenkeodfijladaaGreat.pts W g (gpL (k * 14) y.1.num y.1.rev y.1.mode y.1.size y.2 y.1.m.live y.1.m.garb)) B (.slice (some ⟨g, 0, none⟩) n c) n (L.set k y) := by
  have hl := h.len
  refine ⟨(own_set14 h.row k (by omega) y).1, by rw [List.length_set]; exact hl, fun p hp => ?_⟩
  rcases List.mem_or_eq_of_mem_set hp with hp | rfl
  · exact (h.m p hp).genpts h.row _
  · exact hy.genpts h.row _
/-- The first k generations are copied, the others as they were. -/
structure ClO (W : World) (B : Nat) (v : Value) (n : Nat) (L M : List GP) (k : Nat) : Prop where
  row : W.ownsRow B 58 14 v n (M.flatMap gpC)
  len : n = M.length
  fst : gns M = gns L
  own : ∀ j, j < k → OwnM W B (pat M j).2 (pat M j).1.m.st
  old : ∀ j, k ≤ j → pat M j = pat L j
theorem ClO.keep {W W' : World} {B n k : Nat} {v : Value} {L M : List GP} (h : ClO W B v n L M k) (hb : Below W.heap.size W W') : ClO W' B v n L M k := ⟨own_keep h.row hb, h.len, h.fst, fun j hj => (h.own j hj).keep hb, h.old⟩
theorem ClO.pts {W : World} {B n k b : Nat} {v : Value} {L M : List GP} (h : ClO W B v n L M k) (hb : b < B) (vs : List (Nat × Value)) : ClO (Go.Proofs.YtenkeodfijladaaGreat.pts W b vs) B v n L M k := ⟨pts_own hb h.row vs, h.len, h.fst, fun j hj => (h.own j hj).pts hb vs, h.old⟩
theorem gns_set (L : List GP) (k : Nat) (y : GP) : gns (L.set k y) = (gns L).set k y.1 := List.map_set ..
theorem ClO.step {W : World} {B n c g k : Nat} {L M : List GP} (h : ClO W B (.slice (some ⟨g, 0, none⟩) n c) n L M k) (hk : k < n) (y : GP) (hy : OwnM W B y.2 y.1.m.st) (hf : y.1 = (pat L k).1) :
    ClO (Go.Proofs.YtenkeodfijladaaGreat.pts W g (gpL (k * 14) y.1.num y.1.rev y.1.mode y.1.size y.2 y.1.m.live y.1.m.garb)) B (.slice (some ⟨g, 0, none⟩) n c) n L (M.set k y) (k + 1) := by
  have hl := h.len
  have hM := congrArg List.length h.fst
  rw [gns_len, gns_len] at hM
  refine ⟨(own_set14 h.row k (by omega) y).1, by rw [List.length_set]; exact hl, ?_, fun j hj => ?_, fun j hj => ?_⟩
  · rw [gns_set, h.fst]
    refine List.ext_getElem? fun i => ?_
    rw [List.getElem?_set]
    by_cases e : k = i
    · subst e
      have hk' : k < (gns L).length := by rw [gns_len]; omega
      rw [if_pos rfl, if_pos hk', List.getElem?_eq_getElem hk', hf]
      have h9 := gat_gns (l := L) (i := k)
      unfold gat at h9
      rw [List.getD_eq_getElem?_getD, List.getElem?_eq_getElem hk'] at h9
      rw [← h9]; rfl
    · rw [if_neg e]
  · rw [pat_set (by omega)]
    by_cases e : j = k
    · rw [if_pos e]; exact hy.genpts h.row _
    · rw [if_neg e]; exact (h.own j (by omega)).genpts h.row _
  · rw [pat_set (by omega), if_neg (by omega)]; exact h.old j (by omega)
theorem ClO.all {W : World} {B n : Nat} {v : Value} {L M : List GP} (h : ClO W B v n L M n) : OwnGs W B v n M := ⟨h.row, h.len, fun p hp => by
  obtain ⟨j, hj, rfl⟩ := List.getElem_of_mem hp
  have h1 := h.own j (by rw [h.len]; exact hj)
  have e : pat M j = M[j] := by unfold pat; rw [List.getD_eq_getElem?_getD, List.getElem?_eq_getElem hj]; rfl
  rw [e] at h1; exact h1⟩
def ClR (w : World) (i l : Int) (r : Bool) (n : Nat) (L : List GP) (e : Ending) (w' : World) : Prop := (∃ a' c' M, e = .returned (sloV i l r a' n c') ∧ OwnGs w' w.heap.size (.slice a' n c') n M ∧ gns M = gns L) ∧ Below w.heap.size w w'
def genO (B : Nat) (g : Gn) : Sta := ⟨fun v w => ∃ s, v = genV g.num g.rev g.mode g.size s g.m.live g.m.garb ∧ OwnM w B s g.m.st, fun _ _ _ hb ⟨s, h1, h2⟩ => ⟨s, h1, h2.keep hb⟩⟩
set_option maxRecDepth 100000 in
set_option maxHeartbeats 8000000 in
theorem sclone_any (i l : Int) (r : Bool) (a : Option Addr) (n c : Nat) (L : List GP) (w : World) (h : RdG w (.slice a n c) L) (hs : ∀ p ∈ L, ∀ j, j < 8 → (p.1.m.st j).length ≤ 10000) (hn : n ≤ 1000000) :
    Calls Tryz.prog 72 #[sloV i l r a n c] w (ClR w i l r n L) := by
  have hLn : L.length = n := by
    obtain ⟨_, _, e, _⟩ := h.shape
    injection e with _ e _; exact e.symm
  have HRw := Lib.hid (fun W (hb : Below w.heap.size w W) => show Rd W 14 (.slice a n c) n (L.flatMap gpC) from by
    have h1 := (RdS.below h.r hb).2
    rwa [hLn] at h1)
  have HOne := Lib.hid (gps_one L)
  have HMp := Lib.hid (show ∀ k, k < n → RdM w (pat L k).2 (pat L k).1.m.st ∧ ∀ j, j < 8 → ((pat L k).1.m.st j).length ≤ 10000 from fun k hk => ⟨h.m _ (pat_mem (by omega)), hs _ (pat_mem (by omega))⟩)
  have HLn := Lib.hid hLn
  have hcap : n ≤ 9223372036854775807 := by omega
  clear h hs hLn
  go_enter Tryz.func72, Tryz.ntmps72
  go_upto_region 1 with fail
  change Code.wp _ _ _ _ ((w.alloc (.cells (sloC i l r a n c) 41)).alloc (.cells (sloC 0 0 false none 0 0) 41))
  obtain ⟨W, hW, hbx, hbr, hbw⟩ := two_slo w i l r a n c 41
  rw [hW]
  have HX := Lib.hid hbx
  have HR := Lib.hid hbr
  have HB := Lib.hid hbw
  clear hW hbx hbr hbw
  have hlt0 := HR.out.lt
  have k3 := HX.out.c3
  go_wp2_with fail
  refine (gclone_any a n c (L.flatMap gpC) W (HRw.out W HB.out) HOne.out hn).mono ?_
  rintro e w1 ⟨a1, c1, rfl, ho, hb⟩
  have hz0 := hb.size
  replace HX := Lib.hid (HX.out.below hb)
  replace HR := Lib.hid (HR.out.below hb)
  replace HB := Lib.hid (bstep HB.out hb)
  clear hb k3 HRw HOne
  have k3 := HX.out.c3
  have kf := HX.out.f
  go_upto_region 2 with fail
  clear k3 kf
  have HSz4 := Lib.hid (show W.heap.size ≤ (pts w1 w.heap.size [(3, .slice a1 n c1)]).heap.size by rw [pts_size]; exact hz0)
  have HX4 := Lib.hid (show BoxV (pts w1 w.heap.size [(3, .slice a1 n c1)]) w.heap.size i l r a1 n c1 from HX.out.set3 a1 n c1)
  have HR4 := Lib.hid (HR.out.pts_ne (d := w.heap.size) (by omega) [(3, .slice a1 n c1)])
  have HB4 := Lib.hid (pts_below (B := w.heap.size) (b := w.heap.size) (Nat.le_refl _) [(3, .slice a1 n c1)] HB.out)
  have HC4 := Lib.hid (show ClO (pts w1 w.heap.size [(3, .slice a1 n c1)]) W.heap.size (.slice a1 n c1) n L L 0 from ⟨pts_own (b := w.heap.size) (by omega) ho _, HLn.out.symm, rfl, fun j hj => by omega, fun j _ => rfl⟩)
  clear ho HX HR HB
  change Code.wp _ _ _ _ (pts w1 w.heap.size [(3, .slice a1 n c1)])
  generalize pts w1 w.heap.size [(3, .slice a1 n c1)] = w2 at *
  have k3 := HX4.out.c3
  go_wp2_with fail
  clear k3
  go_loopw [12] (fun iv V => ∃ (k : Nat) (M : List GP), iv = .int .i64 (k : Int) ∧ k ≤ n ∧ Hid (ClO V W.heap.size (.slice a1 n c1) n L M k) ∧ Hid (BoxV V w.heap.size i l r a1 n c1) ∧ Hid (BoxV V (w.heap.size + 1) 0 0 false none 0 0) ∧ Hid (Below w.heap.size w V) ∧ Hid (W.heap.size ≤ V.heap.size)) (fun iv _ => n - (intOf iv).toNat)
  case atStart => exact ⟨0, L, rfl, Nat.zero_le _, HC4, HX4, HR4, HB4, HSz4⟩
  case round =>
    clear HC4 HX4 HR4 HB4 HSz4
    obtain ⟨k, M, rfl, hk, HC, HX, HR, HB, HSz⟩ := hrel
    by_cases hlt : k < n
    · have i1 : (k : Int) < (n : Int) := by omega
      obtain ⟨g, rfl, hgB, hgl⟩ := rowG_some HC.out.row (by omega)
      have hat := rowG_at HC.out.row HC.out.len hlt
      rw [HC.out.old k (Nat.le_refl _)] at hat
      obtain ⟨hm1, hm2⟩ := HMp.out k hlt
      have HMk := Lib.hid hm1
      have HLk := Lib.hid hm2
      have HFr := Lib.hid (rowG_frozen HC.out.row)
      have HTh := Lib.hid (fun W' (hb : Below wr.heap.size wr W') => (hat.below hb).there (rowG_frozen (own_keep HC.out.row hb)))
      clear hm1 hm2
      have HSt := Lib.hid (fun W' (s' : Sl) (hb : Below wr.heap.size wr W') (ho : OwnM W' W.heap.size s' (pat L k).1.m.st) => (HC.out.keep hb).step hlt ((pat L k).1, s') ho rfl)
      generalize pat L k = p at *
      obtain ⟨⟨num, rev, md, sz, ⟨fs, LV, GA⟩⟩, s⟩ := p
      dsimp only at HMk HLk HSt
      obtain ⟨g0, g1, g2, g3, g4, g5, g6, g7, g8, g9, g10, g11, g12, g13⟩ := hat
      dsimp only at g0 g1 g2 g3 g4 g5 g6 g7 g8 g9 g10 g11 g12 g13
      go_upto_region 5 with fail
      clear g0 g1 g2 g3 g4 g5 g6 g7 g8 g9 g10 g11 g12 g13
      change Code.wp _ _ _ _ (wr.alloc (.cells (genC num rev md sz s LV GA) 58))
      have hbq := below_gen wr num rev md sz s LV GA 58
      have HG := Lib.hid (BoxG.new wr num rev md sz s LV GA 58)
      have HBq := Lib.hid hbq
      replace HX := Lib.hid (HX.out.below hbq)
      replace HR := Lib.hid (HR.out.below hbq)
      replace HB := Lib.hid (bstep HB.out hbq)
      replace HSz := Lib.hid (Nat.le_trans HSz.out hbq.size)
      clear hbq HC
      generalize wr.alloc (.cells (genC num rev md sz s LV GA) 58) = v0 at *
      generalize wr.heap.size = bg at HG ⊢
      have hsz0 := HSz.out
      refine wp_region_rel [eqS (.pointer (some ⟨w.heap.size, 3, none⟩)), eqS (.slice (some ⟨g, 0, none⟩) n c1), eqS (.int .i64 (k : Int)), eqS (genV num rev md sz s LV GA), genO W.heap.size ⟨num, rev, md, sz, ⟨fs, LV, GA⟩⟩] [] 25 (by kernel_rfl) (by kernel_rfl) (by rfl) (by kernel_rfl) (fun f => by simp [frm, dstOf, Act.put]; exact rfl) ?_ ?_
      · refine ⟨?_, ?_, ?_, ?_, ?_, trivial⟩
        · intro f w1 hb hd
          clear hd
          dsimp only
          go_wp2_with fail
          exact ⟨rfl, Below.refl _ _, fun t ht => by injection ht with ht; subst ht; exact ⟨rfl, fun h => by simp at h⟩⟩
        · intro f w1 hb hd
          have d0 : f 0 = (.pointer (some ⟨w.heap.size, 3, none⟩)) := hd 0 (by kernel_rfl)
          clear hd
          dsimp only
          rw [d0]
          have q3 := (HX.out.below hb).c3
          go_wp2_with fail
          exact ⟨rfl, Below.refl _ _, fun t ht => by injection ht with ht; subst ht; exact ⟨rfl, fun h => by simp at h⟩⟩
        · intro f w1 hb hd
          clear hd
          dsimp only
          go_wp2_with fail
          exact ⟨rfl, Below.refl _ _, fun t ht => by injection ht with ht; subst ht; exact ⟨rfl, fun h => by simp at h⟩⟩
        · intro f w1 hb hd
          clear hd
          dsimp only
          have zo := HG.out.below hb
          have q0 := zo.n0
          have q1 := zo.n1
          have q2 := zo.n2
          have q3 := zo.n3
          have q4 := zo.c0
          have q5 := zo.c1
          have q6 := zo.c2
          have q7 := zo.c3
          have q8 := zo.c4
          have q9 := zo.c5
          have q10 := zo.c6
          have q11 := zo.c7
          have q12 := zo.cl
          have q13 := zo.cg
          clear zo
          go_wp2_with fail
          exact ⟨rfl, Below.refl _ _, fun t ht => by injection ht with ht; subst ht; exact ⟨rfl, fun h => by simp at h⟩⟩
        · intro f w1 hb hd
          have d3 : f 3 = (genV num rev md sz s LV GA) := hd 3 (by kernel_rfl)
          clear hd
          dsimp only
          rw [d3]
          go_wp2_with fail
          refine (copied_any ⟨num, rev, md, sz, ⟨fs, LV, GA⟩⟩ s w1 (HMk.out.below (bstep HB.out hb)) HLk.out).mono ?_
          rintro e w9 ⟨⟨s9, rfl, ho9⟩, hb9⟩
          have HO9 := Lib.hid (ho9.mono (Nat.le_trans hsz0 hb.size))
          clear ho9
          go_wp2_with fail
          exact ⟨rfl, hb9, fun t ht => by injection ht with ht; subst ht; exact ⟨⟨s9, rfl, HO9.out⟩, fun h => by simp at h⟩⟩
      · intro f w5 hb hd hff
        clear hff
        have d1 : f 1 = .slice (some ⟨g, 0, none⟩) n c1 := hd 1 (show 1 < 5 by decide)
        have d2 : f 2 = .int .i64 (k : Int) := hd 2 (show 2 < 5 by decide)
        obtain ⟨s4, d4, ho4⟩ := show ∃ s, f 4 = genV num rev md sz s LV GA ∧ OwnM w5 W.heap.size s fs from hd 4 (show 4 < 5 by decide)
        clear hd
        try dsimp only
        rw [d1, d2, d4]
        clear d1 d2 d4
        generalize f 0 = z0
        generalize f 3 = z3
        clear f
        have hb5 := bstep HBq.out hb
        have HS5 := Lib.hid (HSt.out w5 s4 hb5 ho4)
        have HT5 := Lib.hid (HTh.out w5 hb5)
        try dsimp only at HS5
        have HX5 := Lib.hid ((HX.out.below hb).pts_ne (d := g) (by omega) (gpL (k * 14) num rev md sz s4 LV GA))
        have HR5 := Lib.hid ((HR.out.below hb).pts_ne (d := g) (by omega) (gpL (k * 14) num rev md sz s4 LV GA))
        have HB5 := Lib.hid (pts_below (B := w.heap.size) (b := g) (by omega) (gpL (k * 14) num rev md sz s4 LV GA) (bstep HB.out hb))
        have HZ5 := Lib.hid (show W.heap.size ≤ (pts w5 g (gpL (k * 14) num rev md sz s4 LV GA)).heap.size by rw [pts_size]; exact Nat.le_trans hsz0 hb.size)
        clear ho4 hb hb5 HSt HTh
        change wpList _ _ _ (_ :: _ :: []) _ _
        go_wp2_with ((with_reducible refine wpList_store_mid ?_ 58 (.tmp 22) (.tmp 21) ?_ g (k * 14) (genC num rev md sz s4 LV GA) ?_ ?_ ?_ ?_ ?_ ?_); rfl; rfl; rfl; rfl; exact HT5.out; exact info14p; exact genC_all _ _ _ _ _ _ _; rw [store_gp])
        exact ⟨⟨k + 1, _, by go_num, by omega, HS5, HX5, HR5, HB5, HZ5⟩, by simp [intOf]; omega⟩
    · have i1 : ¬ (k : Int) < (n : Int) := by omega
      obtain rfl : k = n := by omega
      have HO := Lib.hid HC.out.all
      have HF := Lib.hid HC.out.fst
      clear HC
      have k0 := HX.out.c0
      have k1 := HX.out.c1
      have k2 := HX.out.c2
      have k3 := HX.out.c3
      have hsz9 := HSz.out
      have z0 := HR.out.c0
      have z1 := HR.out.c1
      have z2 := HR.out.c2
      have z3 := HR.out.c3
      have zf := HR.out.f
      go_wp2_with fail
      change bodyPost _ _ _ _ _ (pts wr (w.heap.size + 1) (sloL i l r a1 k c1))
      have HOz := Lib.hid ((HO.out.pts (b := w.heap.size + 1) (by omega) (sloL i l r a1 k c1)).lower (show w.heap.size ≤ W.heap.size by omega))
      have hby := HR.out.all i l r a1 k c1
      have HBz := Lib.hid (pts_below (B := w.heap.size) (b := (w.heap.size + 1)) (by omega) (sloL i l r a1 k c1) HB.out)
      generalize pts wr (w.heap.size + 1) (sloL i l r a1 k c1) = V at *
      exact bodyPost_ret (v := sloV i l r a1 k c1) (by simp [results, Tryz.results72, go_sem, hby.c0, hby.c1, hby.c2, hby.c3]) rfl (⟨⟨a1, c1, M, rfl, HOz.out, HF.out⟩, HBz.out⟩)
theorem chg1_any (y : GP) (bg : Nat) (num rev md sz : Int) (s : Sl) (LV GA : Int) (w : World) (hg : BoxG w bg num rev md sz s LV GA) :
    Calls Tryz.prog 71 #[genV y.1.num y.1.rev y.1.mode y.1.size y.2 y.1.m.live y.1.m.garb, .pointer (some ⟨bg, 0, none⟩)] w fun e w' => e = .returned (.bool (y.1.num == num)) ∧ Below w.heap.size w w' := by
  obtain ⟨⟨yn, yr, ym, yz, ⟨yf, yL, yG⟩⟩, ys⟩ := y
  dsimp only
  have hbq := below_gen w yn yr ym yz ys yL yG 58
  have HY := Lib.hid (BoxG.new w yn yr ym yz ys yL yG 58)
  have HG := Lib.hid (hg.below hbq)
  have HB := Lib.hid hbq
  clear hg hbq
  go_enter Tryz.func71, Tryz.ntmps71
  go_upto_region 1 with fail
  change Code.wp _ _ _ _ (w.alloc (.cells (genC yn yr ym yz ys yL yG) 58))
  generalize w.alloc (.cells (genC yn yr ym yz ys yL yG) 58) = w1 at *
  have q0 := HY.out.n0
  have q1 := HG.out.n0
  go_wp2_with fail
  go_ret
  exact ⟨rfl, HB.out⟩
/-- The first generation with a number. -/
def FirstG (L : List GP) (num : Int) (z : Int) : Prop := (∃ k, k < L.length ∧ z = (k : Int) ∧ (pat L k).1.num = num ∧ ∀ j, j < k → (pat L j).1.num ≠ num) ∨ (z = -1 ∧ ∀ j, j < L.length → (pat L j).1.num ≠ num)
set_option maxRecDepth 100000 in
set_option maxHeartbeats 4000000 in
theorem gindex_any (a : Option Addr) (n c : Nat) (L : List GP) (bg : Nat) (num rev md sz : Int) (s : Sl) (LV GA : Int) (w : World) (h : RdG w (.slice a n c) L) (hn : n ≤ 1000000) (hg : BoxG w bg num rev md sz s LV GA) :
    Calls Tryz.prog 70 #[.slice a n c, .func (.func 71) #[] #[.pointer (some ⟨bg, 0, none⟩)]] w fun e w' => (∃ z, e = .returned (.int .i64 z) ∧ FirstG L num z) ∧ Below w.heap.size w w' := by
  have hLn : L.length = n := by
    obtain ⟨_, _, e, _⟩ := h.shape
    injection e with _ e _; exact e.symm
  have Hr := Lib.hid h
  have Hg := Lib.hid hg
  have HLn := Lib.hid hLn
  clear h hg hLn
  go_enter Tryz.func70, Tryz.ntmps70
  go_wp2_with fail
  go_loopw [8] (fun i wr => ∃ k : Nat, k ≤ n ∧ i = .int .i64 (k : Int) ∧ Hid (∀ j, j < k → (pat L j).1.num ≠ num) ∧ Hid (Below w.heap.size w wr)) (fun i _ => n - (intOf i).toNat)
  case atStart => exact ⟨0, Nat.zero_le _, rfl, Lib.hid (fun j hj => absurd hj (by omega)), Lib.hid (Below.refl _ _)⟩
  case round =>
    obtain ⟨k, hk, rfl, Hok, Hb⟩ := hrel
    by_cases hlt : k < n
    · have hr := Hr.out.below Hb.out
      obtain ⟨b, off, rfl, hat⟩ := hr.at hlt
      have HV := Lib.hid (fun W (hb : Below wr.heap.size wr W) => chg1_any (pat L k) bg num rev md sz s LV GA W ((Hg.out.below Hb.out).below hb))
      have HOs := Lib.hid (show (pat L k).1.num ≠ num → ∀ j, j < k + 1 → (pat L j).1.num ≠ num from fun ho j hj => by
        by_cases e : j = k
        · subst e; exact ho
        · exact Hok.out j (by omega))
      have HYs := Lib.hid (show (pat L k).1.num = num → FirstG L num (k : Int) from fun e => .inl ⟨k, by rw [HLn.out]; exact hlt, rfl, e, Hok.out⟩)
      clear hr
      generalize pat L k = p at *
      obtain ⟨⟨xn, xr, xm, xz, ⟨xf, xL, xG⟩⟩, xs⟩ := p
      obtain ⟨g0, g1, g2, g3, g4, g5, g6, g7, g8, g9, g10, g11, g12, g13⟩ := hat
      dsimp only at g0 g1 g2 g3 g4 g5 g6 g7 g8 g9 g10 g11 g12 g13 HV HOs HYs
      have i1 : (k : Int) < (n : Int) := by omega
      go_wp2_with fail
      refine (HV.out _ (Below.refl _ _)).mono ?_; rintro e w1 ⟨rfl, hb1⟩
      have Hb1 := Lib.hid (bstep Hb.out hb1)
      by_cases hx : xn = num
      · have HF := Lib.hid (HYs.out hx)
        have hx1 : (xn == num) = true := by simp [hx]
        clear hb1 hx HOs HYs HV
        go_wp2_with fail
        go_ret
        exact ⟨⟨_, rfl, HF.out⟩, Hb1.out⟩
      · have HF := Lib.hid (HOs.out hx)
        have hx1 : (xn == num) = false := by simp [hx]
        clear hb1 hx HOs HYs HV
        go_wp2_with fail
        exact ⟨⟨k + 1, by omega, by go_num, HF, Hb1⟩, by simp [intOf]; omega⟩
    · obtain rfl : k = n := by omega
      have i1 : ¬ (k : Int) < (k : Int) := by omega
      have HF := Lib.hid (show FirstG L num (-1) from .inr ⟨rfl, by rw [HLn.out]; exact Hok.out⟩)
      go_wp2_with fail
      go_ret
      exact ⟨⟨_, rfl, HF.out⟩, Hb.out⟩
end Go.Proofs.YtenkeodfijladaaGreat

namespace Go.Proofs.YtenkeodfijladaaGreat
open Go.RowKit

/-- A slot's numbers differ: the generation with the number of y is the only one. -/
theorem put_first {s : Slt} (hV : VldSl s) {k : Nat} (hk : k < s.gens.length) {y : Gn} (h : (gat s.gens k).num = y.num) : putG s.gens y = s.gens.set k y := by
  have hasc : ∀ i j, i < j → j < s.gens.length → (gat s.gens i).num < (gat s.gens j).num := by
    intro i j hij
    induction j with
    | zero => omega
    | succ j ih =>
      intro hj
      have h1 := (hV.g (j + 1) hj).2.1 (by omega)
      rw [show j + 1 - 1 = j by omega] at h1
      by_cases e : i = j
      · subst e; exact h1
      · have := ih (by omega) (by omega); omega
  refine List.ext_getElem? fun i => ?_
  unfold putG
  rw [List.getElem?_map, List.getElem?_set]
  by_cases hi : i < s.gens.length
  · have eg : gat s.gens i = s.gens[i] := by unfold gat; rw [List.getD_eq_getElem?_getD, List.getElem?_eq_getElem hi]; rfl
    rw [List.getElem?_eq_getElem hi, ← eg]
    by_cases e : k = i
    · subst e
      simp [h, hi]
    · rw [if_neg e]
      have hne : (gat s.gens i).num ≠ y.num := by
        rw [← h]
        rcases Nat.lt_or_gt_of_ne e with h1 | h1
        · have := hasc k i h1 hi; omega
        · have := hasc i k h1 hk; omega
      simp [hne]
  · rw [List.getElem?_eq_none (by omega)]
    by_cases e : k = i
    · omega
    · rw [if_neg e]; rfl
set_option maxRecDepth 100000 in
set_option maxHeartbeats 4000000 in
theorem freeze_any (g : Gn) (s : Sl) (w : World) (h : RdM w s g.m.st) (hs : ∀ i, i < 8 → (g.m.st i).length ≤ 10000) :
    Calls Tryz.prog 80 #[genV g.num g.rev g.mode g.size s g.m.live g.m.garb] w (GOwn w (turnG g 1)) := by
  have HT := Lib.hid (fun W (hb : Below w.heap.size w W) => turn_any g s 1 W (h.below hb) hs)
  clear hs
  generalize turnG g 1 = TG at *
  obtain ⟨n, r, md, z, ⟨f, L, G⟩⟩ := g
  dsimp only at *
  obtain ⟨W, hW, hbx, hbr, hbw⟩ := two_box w n r md z s L G 58
  have HX := Lib.hid hbx
  have HR := Lib.hid hbr
  have HB := Lib.hid hbw
  clear hbx hbr hbw h
  go_enter Tryz.func80, Tryz.ntmps80
  go_upto_region 1 with fail
  change Code.wp _ _ _ _ ((w.alloc (.cells (genC n r md z s L G) 58)).alloc (.cells (genC 0 0 0 0 Sl.nil 0 0) 58))
  rw [hW]
  clear hW
  have x0 := HX.out.n0
  have x1 := HX.out.n1
  have x2 := HX.out.n2
  have x3 := HX.out.n3
  have x4 := HX.out.c0
  have x5 := HX.out.c1
  have x6 := HX.out.c2
  have x7 := HX.out.c3
  have x8 := HX.out.c4
  have x9 := HX.out.c5
  have x10 := HX.out.c6
  have x11 := HX.out.c7
  have x12 := HX.out.cl
  have x13 := HX.out.cg
  go_wp2_with fail
  refine (HT.out _ HB.out).mono ?_
  rintro e w1 ⟨⟨t, rfl, hr⟩, hb⟩
  have HRd := Lib.hid (hr.mono (show w.heap.size + 2 ≤ W.heap.size by have := HR.out.lt; omega))
  have HR1 := Lib.hid (HR.out.below hb)
  have HB1 := Lib.hid (bstep HB.out hb)
  have hlr := HR.out.lt
  clear x0 x1 x2 x3 x4 x5 x6 x7 x8 x9 x10 x11 x12 x13
  clear hr HX HT HR HB
  obtain ⟨er, ⟨n', r', md', z', ⟨f', L', G'⟩⟩⟩ := TG
  dsimp only at *
  have r0 := HR1.out.n0
  have r1 := HR1.out.n1
  have r2 := HR1.out.n2
  have r3 := HR1.out.n3
  have r4 := HR1.out.c0
  have r5 := HR1.out.c1
  have r6 := HR1.out.c2
  have r7 := HR1.out.c3
  have r8 := HR1.out.c4
  have r9 := HR1.out.c5
  have r10 := HR1.out.c6
  have r11 := HR1.out.c7
  have r12 := HR1.out.cl
  have r13 := HR1.out.cg
  have rf := HR1.out.f
  go_wp2_with fail
  change bodyPost _ _ _ _ _ (pts w1 (w.heap.size + 1) (genL n' r' md' z' t L' G'))
  have hby := HR1.out.all n' r' md' z' t L' G'
  have HBz := Lib.hid (pts_below (B := w.heap.size) (b := (w.heap.size + 1)) (by omega) (genL n' r' md' z' t L' G') HB1.out)
  have hrd := (HRd.out.pts (show w.heap.size + 1 < w.heap.size + 2 by omega) (genL n' r' md' z' t L' G')).mono (show w.heap.size ≤ w.heap.size + 2 by omega)
  generalize pts w1 (w.heap.size + 1) (genL n' r' md' z' t L' G') = V at *
  exact bodyPost_ret (v := .tuple #[genV n' r' md' z' t L' G', .int .i64 er]) (by simp [results, Tryz.results80, go_sem, hby.n0, hby.n1, hby.n2, hby.n3, hby.c0, hby.c1, hby.c2, hby.c3, hby.c4, hby.c5, hby.c6, hby.c7, hby.cl, hby.cg]) rfl ⟨⟨_, rfl, hrd⟩, HBz.out⟩
set_option maxRecDepth 100000 in
set_option maxHeartbeats 8000000 in
theorem schg_no (i l : Int) (r : Bool) (a : Option Addr) (n c : Nat) (L : List GP) (w : World) (h : RdG w (.slice a n c) L) (hs : ∀ p ∈ L, ∀ j, j < 8 → (p.1.m.st j).length ≤ 10000) (y : GP) (hy : RdM w y.2 y.1.m.st) (hyl : ∀ j, j < 8 → (y.1.m.st j).length ≤ 10000) (hv : vldSl ⟨i, l, r, gns L⟩ = false) :
    Calls Tryz.prog 23 #[sloV i l r a n c, genV y.1.num y.1.rev y.1.mode y.1.size y.2 y.1.m.live y.1.m.garb] w (SRes w (chgS ⟨i, l, r, gns L⟩ y.1)) := by
  have HSv := Lib.hid (fun W (hb : Below w.heap.size w W) => svalid_any i l r a n c L W (h.below hb) hs)
  have HC := Lib.hid (show chgS ⟨i, l, r, gns L⟩ y.1 = (slt0, 1) by unfold chgS; rw [hv]; rfl)
  rw [hv] at HSv
  clear h hs hv hy hyl
  go_enter Tryz.func23, Tryz.ntmps23
  go_upto_region 1 with fail
  change Code.wp _ _ _ _ (((w.alloc (.cells (sloC i l r a n c) 41)).alloc (.cells (genC y.1.num y.1.rev y.1.mode y.1.size y.2 y.1.m.live y.1.m.garb) 58)).alloc (.cells (sloC 0 0 false none 0 0) 41))
  obtain ⟨W, hW, hbx, hbg, hbr, hbw⟩ := three_slo w i l r a n c y 41 58
  rw [hW]
  have HX := Lib.hid hbx
  have HG := Lib.hid hbg
  have HR := Lib.hid hbr
  have HB := Lib.hid hbw
  clear hW hbx hbg hbr hbw
  have k0 := HX.out.c0
  have k1 := HX.out.c1
  have k2 := HX.out.c2
  have k3 := HX.out.c3
  go_wp2_with fail
  refine (HSv.out _ HB.out).mono ?_
  rintro e w1 ⟨rfl, hb⟩
  replace HX := Lib.hid (HX.out.below hb)
  replace HR := Lib.hid (HR.out.below hb)
  replace HB := Lib.hid (bstep HB.out hb)
  clear hb
  clear k0 k1 k2 k3
  have z0 := HR.out.c0
  have z1 := HR.out.c1
  have z2 := HR.out.c2
  have z3 := HR.out.c3
  have zf := HR.out.f
  go_wp2_with fail
  change bodyPost _ _ _ _ _ (pts w1 (w.heap.size + 2) (sloL 0 0 false none 0 0))
  have hby := HR.out.all 0 0 false none 0 0
  have HBz := Lib.hid (pts_below (B := w.heap.size) (b := (w.heap.size + 2)) (by omega) (sloL 0 0 false none 0 0) HB.out)
  generalize pts w1 (w.heap.size + 2) (sloL 0 0 false none 0 0) = V at *
  exact bodyPost_ret (v := .tuple #[sloV 0 0 false none 0 0, .int .i64 1]) (by simp [results, Tryz.results23, go_sem, hby.c0, hby.c1, hby.c2, hby.c3]) rfl (by rw [HC.out]; exact SRes.no HBz.out)
set_option maxRecDepth 100000 in
set_option maxHeartbeats 16000000 in
theorem schg_yes (i l : Int) (r : Bool) (a : Option Addr) (n c : Nat) (L : List GP) (w : World) (h : RdG w (.slice a n c) L) (hs : ∀ p ∈ L, ∀ j, j < 8 → (p.1.m.st j).length ≤ 10000) (y : GP) (hy : RdM w y.2 y.1.m.st) (hyl : ∀ j, j < 8 → (y.1.m.st j).length ≤ 10000) (hv : vldSl ⟨i, l, r, gns L⟩ = true) :
    Calls Tryz.prog 23 #[sloV i l r a n c, genV y.1.num y.1.rev y.1.mode y.1.size y.2 y.1.m.live y.1.m.garb] w (SRes w (chgS ⟨i, l, r, gns L⟩ y.1)) := by
  have HSv := Lib.hid (fun W (hb : Below w.heap.size w W) => svalid_any i l r a n c L W (h.below hb) hs)
  have hV := (vldSl_iff _).1 hv
  have hLn : L.length = n := by
    obtain ⟨_, _, e, _⟩ := h.shape
    injection e with _ e _; exact e.symm
  have hl : (gns L).length = n := by rw [gns_len, hLn]
  have hn : 1 ≤ n ∧ n ≤ 8 := by have := hV.len; simp only [hl] at this; exact this
  have HC := Lib.hid (show chgS ⟨i, l, r, gns L⟩ y.1 = (if metK L y.1.num n = true then (if vldSl ⟨i, l, r, putG (gns L) y.1⟩ = true then (⟨i, l, r, putG (gns L) y.1⟩, 0) else (slt0, 1)) else (slt0, 6)) by
    unfold chgS; rw [if_pos hv, metK_all L y.1.num n hLn.symm])
  have HPf := Lib.hid (fun k (hk : k < n) (e : (pat L k).1.num = y.1.num) => show putG (gns L) y.1 = (gns L).set k y.1 from put_first hV (k := k) (by rw [hl]; exact hk) (by rw [gat_gns]; exact e))
  have HMy := Lib.hid (show ∀ k, k < n → (pat L k).1.num = y.1.num → metK L y.1.num n = true from fun k hk e => by
    unfold metK
    rw [List.any_eq_true]
    refine ⟨pat L k, ?_, by simp [e]⟩
    rw [List.take_of_length_le (by omega)]
    exact pat_mem (by omega))
  have HMn := Lib.hid (show (∀ j, j < L.length → (pat L j).1.num ≠ y.1.num) → metK L y.1.num n = false from fun hh => by
    unfold metK
    rw [Bool.eq_false_iff]
    intro ht
    rw [List.any_eq_true] at ht
    obtain ⟨x, hx, e⟩ := ht
    obtain ⟨j, hj, rfl⟩ := List.getElem_of_mem (List.mem_of_mem_take hx)
    have h1 := hh j hj
    unfold pat at h1
    rw [List.getD_eq_getElem?_getD, List.getElem?_eq_getElem hj] at h1
    exact h1 (of_decide_eq_true e))
  rw [hv] at HSv
  have HRw := Lib.hid h
  have HSs := Lib.hid hs
  have HMp := Lib.hid hy
  have HLp := Lib.hid hyl
  have HLn := Lib.hid hLn
  clear h hs hv hV hLn hl hy hyl
  obtain ⟨⟨num, rev, md, sz, ⟨fs, LV, GA⟩⟩, s⟩ := y
  dsimp only at *
  go_enter Tryz.func23, Tryz.ntmps23
  go_upto_region 1 with fail
  change Code.wp _ _ _ _ (((w.alloc (.cells (sloC i l r a n c) 41)).alloc (.cells (genC num rev md sz s LV GA) 58)).alloc (.cells (sloC 0 0 false none 0 0) 41))
  obtain ⟨W, hW, hbx, hbg, hbr, hbw⟩ := three_slo w i l r a n c (⟨num, rev, md, sz, ⟨fs, LV, GA⟩⟩, s) 41 58
  rw [hW]
  have HX := Lib.hid hbx
  have HG := Lib.hid hbg
  have HR := Lib.hid hbr
  have HB := Lib.hid hbw
  clear hW hbx hbg hbr hbw
  have hB0 : w.heap.size + 3 ≤ W.heap.size := by have := HR.out.lt; omega
  dsimp only at HG
  have k0 := HX.out.c0
  have k1 := HX.out.c1
  have k2 := HX.out.c2
  have k3 := HX.out.c3
  go_wp2_with fail
  refine (HSv.out _ HB.out).mono ?_
  rintro e w1 ⟨rfl, hb⟩
  replace HX := Lib.hid (HX.out.below hb)
  replace HG := Lib.hid (HG.out.below hb)
  replace HR := Lib.hid (HR.out.below hb)
  replace HB := Lib.hid (bstep HB.out hb)
  have hB1 := Nat.le_trans hB0 hb.size
  clear hb HSv
  clear k0 k1 k2 k3
  have HIx := Lib.hid (gindex_any a n c L (w.heap.size + 1) num rev md sz s LV GA w1 (HRw.out.below HB.out) (by omega) HG.out)
  have k3 := HX.out.c3
  go_wp2_with fail
  refine HIx.out.mono ?_
  rintro e w2 ⟨⟨z, rfl, hF⟩, hb⟩
  replace HX := Lib.hid (HX.out.below hb)
  replace HG := Lib.hid (HG.out.below hb)
  replace HR := Lib.hid (HR.out.below hb)
  replace HB := Lib.hid (bstep HB.out hb)
  have hB2 := Nat.le_trans hB1 hb.size
  clear hb k3 HIx
  rcases hF with ⟨k, hk, rfl, hkn, _⟩ | ⟨rfl, hF⟩
  · have hk' : k < n := by rw [← HLn.out]; exact hk
    have HC2 := Lib.hid (HC.out.trans (if_pos (HMy.out k hk' hkn)))
    have hpf := HPf.out k hk' hkn
    rw [hpf] at HC2
    clear HC HMy HMn HPf hpf hk hkn
    have i1 : ¬ (k : Int) < 0 := by omega
    have k0 := HX.out.c0
    have k1 := HX.out.c1
    have k2 := HX.out.c2
    have k3 := HX.out.c3
    go_wp2_with fail
    refine (sclone_any i l r a n c L w2 (HRw.out.below HB.out) HSs.out (by omega)).mono ?_
    rintro e w3 hq
    obtain ⟨⟨a1, c1, M, rfl, ho, hg⟩, hb⟩ := hq
    have HOw := Lib.hid (ho.lower hB2)
    have HGn := Lib.hid hg
    clear k0 k1 k2 k3 ho hg
    replace HX := Lib.hid (HX.out.below hb)
    replace HG := Lib.hid (HG.out.below hb)
    replace HR := Lib.hid (HR.out.below hb)
    replace HB := Lib.hid (bstep HB.out hb)
    have hB3 := Nat.le_trans hB2 hb.size
    clear hb
    have k0 := HX.out.c0
    have k1 := HX.out.c1
    have k2 := HX.out.c2
    have k3 := HX.out.c3
    have kf := HX.out.f
    go_upto_region 7 with fail
    clear k0 k1 k2 k3 kf
    obtain ⟨g, rfl, hgB, hgl⟩ := rowG_some HOw.out.row (by omega)
    have HX4 := Lib.hid (HX.out.all i l r (some ⟨g, 0, none⟩) n c1)
    have HG4 := Lib.hid (HG.out.pts_ne (c := w.heap.size) (by omega) (sloL i l r (some ⟨g, 0, none⟩) n c1))
    have HR4 := Lib.hid (HR.out.pts_ne (d := w.heap.size) (by omega) (sloL i l r (some ⟨g, 0, none⟩) n c1))
    have HB4 := Lib.hid (pts_below (B := w.heap.size) (b := w.heap.size) (Nat.le_refl _) (sloL i l r (some ⟨g, 0, none⟩) n c1) HB.out)
    have HO4 := Lib.hid (HOw.out.pts (b := w.heap.size) (by omega) (sloL i l r (some ⟨g, 0, none⟩) n c1))
    have hB4 : w.heap.size + 3 ≤ (pts w3 w.heap.size (sloL i l r (some ⟨g, 0, none⟩) n c1)).heap.size := by rw [pts_size]; exact hB3
    clear HX HG HR HB HOw
    change Code.wp _ _ _ _ (pts w3 w.heap.size (sloL i l r (some ⟨g, 0, none⟩) n c1))
    generalize pts w3 w.heap.size (sloL i l r (some ⟨g, 0, none⟩) n c1) = w4 at *
    have HCp := Lib.hid (fun W (hb : Below w4.heap.size w4 W) => copied_any ⟨num, rev, md, sz, ⟨fs, LV, GA⟩⟩ s W (HMp.out.below (bstep HB4.out hb)) HLp.out)
    dsimp only at HCp
    refine wp_region_rel [eqS (.pointer (some ⟨w.heap.size, 3, none⟩)), eqS (.slice (some ⟨g, 0, none⟩) n c1), eqS (.int .i64 (k : Int)), eqS (genV num rev md sz s LV GA), genO (w.heap.size + 3) ⟨num, rev, md, sz, ⟨fs, LV, GA⟩⟩] [] 31 (by kernel_rfl) (by kernel_rfl) (by rfl) (by kernel_rfl) (fun f => by simp [frm, dstOf, Act.put]; exact rfl) ?_ ?_
    · refine ⟨?_, ?_, ?_, ?_, ?_, trivial⟩
      · intro f w1 hb hd
        clear hd
        dsimp only
        go_wp2_with fail
        exact ⟨rfl, Below.refl _ _, fun t ht => by injection ht with ht; subst ht; exact ⟨rfl, fun h => by simp at h⟩⟩
      · intro f w1 hb hd
        have d0 : f 0 = (.pointer (some ⟨w.heap.size, 3, none⟩)) := hd 0 (by kernel_rfl)
        clear hd
        dsimp only
        rw [d0]
        have q3 := (HX4.out.below hb).c3
        go_wp2_with fail
        exact ⟨rfl, Below.refl _ _, fun t ht => by injection ht with ht; subst ht; exact ⟨rfl, fun h => by simp at h⟩⟩
      · intro f w1 hb hd
        clear hd
        dsimp only
        go_wp2_with fail
        exact ⟨rfl, Below.refl _ _, fun t ht => by injection ht with ht; subst ht; exact ⟨rfl, fun h => by simp at h⟩⟩
      · intro f w1 hb hd
        clear hd
        dsimp only
        have zo := HG4.out.below hb
        have q0 := zo.n0
        have q1 := zo.n1
        have q2 := zo.n2
        have q3 := zo.n3
        have q4 := zo.c0
        have q5 := zo.c1
        have q6 := zo.c2
        have q7 := zo.c3
        have q8 := zo.c4
        have q9 := zo.c5
        have q10 := zo.c6
        have q11 := zo.c7
        have q12 := zo.cl
        have q13 := zo.cg
        clear zo
        go_wp2_with fail
        exact ⟨rfl, Below.refl _ _, fun t ht => by injection ht with ht; subst ht; exact ⟨rfl, fun h => by simp at h⟩⟩
      · intro f w1 hb hd
        have d3 : f 3 = (genV num rev md sz s LV GA) := hd 3 (by kernel_rfl)
        clear hd
        dsimp only
        rw [d3]
        go_wp2_with fail
        refine (HCp.out w1 hb).mono ?_
        rintro e w9 ⟨⟨s9, rfl, ho9⟩, hb9⟩
        have HO9 := Lib.hid (ho9.mono (Nat.le_trans hB4 hb.size))
        clear ho9
        go_wp2_with fail
        exact ⟨rfl, hb9, fun t ht => by injection ht with ht; subst ht; exact ⟨⟨s9, rfl, HO9.out⟩, fun h => by simp at h⟩⟩
    · intro f w5 hb hd hff
      clear hff
      have d1 : f 1 = .slice (some ⟨g, 0, none⟩) n c1 := hd 1 (show 1 < 5 by decide)
      have d2 : f 2 = .int .i64 (k : Int) := hd 2 (show 2 < 5 by decide)
      obtain ⟨s4, d4, ho4⟩ := show ∃ s, f 4 = genV num rev md sz s LV GA ∧ OwnM w5 (w.heap.size + 3) s fs from hd 4 (show 4 < 5 by decide)
      clear hd
      try dsimp only
      rw [d1, d2, d4]
      clear d1 d2 d4
      generalize f 0 = z0
      generalize f 3 = z3
      clear f
      have ho5 := HO4.out.keep hb
      have HT5 := Lib.hid ((rowG_at ho5.row ho5.len hk').there (rowG_frozen ho5.row))
      have HO5 := Lib.hid (ho5.set k hk' ((⟨num, rev, md, sz, ⟨fs, LV, GA⟩⟩ : Gn), s4) ho4)
      dsimp only at HO5
      have HX5 := Lib.hid ((HX4.out.below hb).pts_ne (d := g) (by omega) (gpL (k * 14) num rev md sz s4 LV GA))
      have HR5 := Lib.hid ((HR4.out.below hb).pts_ne (d := g) (by omega) (gpL (k * 14) num rev md sz s4 LV GA))
      have HB5 := Lib.hid (pts_below (B := w.heap.size) (b := g) (by omega) (gpL (k * 14) num rev md sz s4 LV GA) (bstep HB4.out hb))
      have HGs := Lib.hid (show gns (M.set k ((⟨num, rev, md, sz, ⟨fs, LV, GA⟩⟩ : Gn), s4)) = (gns L).set k (⟨num, rev, md, sz, ⟨fs, LV, GA⟩⟩ : Gn) from by rw [gns_set, HGn.out])
      have HLs := Lib.hid (show ∀ p ∈ M.set k ((⟨num, rev, md, sz, ⟨fs, LV, GA⟩⟩ : Gn), s4), ∀ j, j < 8 → (p.1.m.st j).length ≤ 10000 from fun p hp j hj => by
        rcases List.mem_or_eq_of_mem_set hp with hp | rfl
        · have h1 : p.1 ∈ gns L := HGn.out ▸ List.mem_map_of_mem hp
          obtain ⟨q, hq, e⟩ := List.mem_map.1 h1
          rw [← e]; exact HSs.out q hq j hj
        · exact HLp.out j hj)
      clear ho5 ho4 hb HCp HX4 HG4 HR4 HB4 HO4 HGn
      change wpList _ _ _ (_ :: _ :: []) _ _
      go_wp2_with (first | ((with_reducible refine wpList_store_mid ?_ 58 (.tmp 25) (.tmp 24) ?_ g (k * 14) (genC num rev md sz s4 LV GA) ?_ ?_ ?_ ?_ ?_ ?_); rfl; rfl; rfl; rfl; exact HT5.out; exact info14p; exact genC_all _ _ _ _ _ _ _; rw [store_gp]; generalize (pts w5 g (gpL (k * 14) num rev md sz s4 LV GA)) = w6 at *; have k0 := HX5.out.c0; have k1 := HX5.out.c1; have k2 := HX5.out.c2; have k3 := HX5.out.c3))
      refine (svalid_any i l r (some ⟨g, 0, none⟩) n c1 _ w6 HO5.out.rd HLs.out).mono ?_
      rintro e w7 ⟨rfl, hb⟩
      rw [HGs.out]
      replace HX5 := Lib.hid (HX5.out.below hb)
      replace HR5 := Lib.hid (HR5.out.below hb)
      replace HB5 := Lib.hid (bstep HB5.out hb)
      replace HO5 := Lib.hid (HO5.out.keep hb)
      clear hb k0 k1 k2 k3 HLs
      generalize hvn : vldSl ⟨i, l, r, (gns L).set k (⟨num, rev, md, sz, ⟨fs, LV, GA⟩⟩ : Gn)⟩ = bv at *
      cases bv
      · have HC := Lib.hid (HC2.out.trans (if_neg (by decide)))
        clear HC2 hvn
        have z0 := HR5.out.c0
        have z1 := HR5.out.c1
        have z2 := HR5.out.c2
        have z3 := HR5.out.c3
        have zf := HR5.out.f
        go_wp2_with fail
        change bodyPost _ _ _ _ _ (pts w7 (w.heap.size + 2) (sloL 0 0 false none 0 0))
        have hby := HR5.out.all 0 0 false none 0 0
        have HBz := Lib.hid (pts_below (B := w.heap.size) (b := (w.heap.size + 2)) (by omega) (sloL 0 0 false none 0 0) HB5.out)
        generalize pts w7 (w.heap.size + 2) (sloL 0 0 false none 0 0) = V at *
        exact bodyPost_ret (v := .tuple #[sloV 0 0 false none 0 0, .int .i64 1]) (by simp [results, Tryz.results23, go_sem, hby.c0, hby.c1, hby.c2, hby.c3]) rfl (by rw [HC.out]; exact SRes.no HBz.out)
      · have HC := Lib.hid (HC2.out.trans (if_pos rfl))
        clear HC2 hvn
        have k0 := HX5.out.c0
        have k1 := HX5.out.c1
        have k2 := HX5.out.c2
        have k3 := HX5.out.c3
        have z0 := HR5.out.c0
        have z1 := HR5.out.c1
        have z2 := HR5.out.c2
        have z3 := HR5.out.c3
        have zf := HR5.out.f
        go_wp2_with fail
        change bodyPost _ _ _ _ _ (pts w7 (w.heap.size + 2) (sloL i l r (some ⟨g, 0, none⟩) n c1))
        have HOz := Lib.hid (HO5.out.pts (b := w.heap.size + 2) (by omega) (sloL i l r (some ⟨g, 0, none⟩) n c1))
        have hby := HR5.out.all i l r (some ⟨g, 0, none⟩) n c1
        have HBz := Lib.hid (pts_below (B := w.heap.size) (b := (w.heap.size + 2)) (by omega) (sloL i l r (some ⟨g, 0, none⟩) n c1) HB5.out)
        generalize pts w7 (w.heap.size + 2) (sloL i l r (some ⟨g, 0, none⟩) n c1) = V at *
        exact bodyPost_ret (v := .tuple #[sloV i l r (some ⟨g, 0, none⟩) n c1, .int .i64 0]) (by simp [results, Tryz.results23, go_sem, hby.c0, hby.c1, hby.c2, hby.c3]) rfl (by rw [HC.out]; exact ⟨⟨_, n, c1, _, rfl, HOz.out.rd, HGs.out⟩, HBz.out⟩)
  · have HC2 := Lib.hid (HC.out.trans (if_neg (by rw [HMn.out hF]; decide)))
    clear HC HMy HMn HPf hF
    have z0 := HR.out.c0
    have z1 := HR.out.c1
    have z2 := HR.out.c2
    have z3 := HR.out.c3
    have zf := HR.out.f
    go_wp2_with fail
    change bodyPost _ _ _ _ _ (pts w2 (w.heap.size + 2) (sloL 0 0 false none 0 0))
    have hby := HR.out.all 0 0 false none 0 0
    have HBz := Lib.hid (pts_below (B := w.heap.size) (b := (w.heap.size + 2)) (by omega) (sloL 0 0 false none 0 0) HB.out)
    generalize pts w2 (w.heap.size + 2) (sloL 0 0 false none 0 0) = V at *
    exact bodyPost_ret (v := .tuple #[sloV 0 0 false none 0 0, .int .i64 6]) (by simp [results, Tryz.results23, go_sem, hby.c0, hby.c1, hby.c2, hby.c3]) rfl (by rw [HC2.out]; exact SRes.no HBz.out)
theorem schg_any (i l : Int) (r : Bool) (a : Option Addr) (n c : Nat) (L : List GP) (w : World) (h : RdG w (.slice a n c) L) (hs : ∀ p ∈ L, ∀ j, j < 8 → (p.1.m.st j).length ≤ 10000) (y : GP) (hy : RdM w y.2 y.1.m.st) (hyl : ∀ j, j < 8 → (y.1.m.st j).length ≤ 10000) : Calls Tryz.prog 23 #[sloV i l r a n c, genV y.1.num y.1.rev y.1.mode y.1.size y.2 y.1.m.live y.1.m.garb] w (SRes w (chgS ⟨i, l, r, gns L⟩ y.1)) := by
  cases hv : vldSl ⟨i, l, r, gns L⟩
  · exact schg_no i l r a n c L w h hs y hy hyl hv
  · exact schg_yes i l r a n c L w h hs y hy hyl hv
end Go.Proofs.YtenkeodfijladaaGreat

namespace Go.Proofs.YtenkeodfijladaaGreat
open Go.RowKit

theorem OwnM.genGrown {W W' : World} {B B' g n c : Nat} {xs : List Value} {s : Sl} {f : Nat → List It} (ho : OwnM W B' s f) (h : W.ownsRow B 58 14 (.slice (some ⟨g, 0, none⟩) n c) n xs) (hg : W.grownBy W' (some g)) : OwnM W' B' s f := fun i hi =>
  (ho i hi).kept hg (by
    have h1 := gen_ne h ho i hi
    cases hv : (s.v i).ownBlock with
    | none => exact .inl rfl
    | some b => exact .inr fun e => h1 (by rw [hv]; exact e))
set_option maxRecDepth 100000 in
set_option maxHeartbeats 8000000 in
theorem srot_no (i l : Int) (r : Bool) (a : Option Addr) (n c : Nat) (L : List GP) (w : World) (h : RdG w (.slice a n c) L) (hs : ∀ p ∈ L, ∀ j, j < 8 → (p.1.m.st j).length ≤ 10000) (hv : vldSl ⟨i, l, r, gns L⟩ = false) :
    Calls Tryz.prog 27 #[sloV i l r a n c] w (SRes w (rotS ⟨i, l, r, gns L⟩)) := by
  have HSv := Lib.hid (fun W (hb : Below w.heap.size w W) => svalid_any i l r a n c L W (h.below hb) hs)
  have HC := Lib.hid (show rotS ⟨i, l, r, gns L⟩ = (slt0, 1) by unfold rotS; rw [hv]; rfl)
  rw [hv] at HSv
  clear h hs hv
  go_enter Tryz.func27, Tryz.ntmps27
  go_upto_region 1 with fail
  change Code.wp _ _ _ _ ((w.alloc (.cells (sloC i l r a n c) 41)).alloc (.cells (sloC 0 0 false none 0 0) 41))
  obtain ⟨W, hW, hbx, hbr, hbw⟩ := two_slo w i l r a n c 41
  rw [hW]
  have HX := Lib.hid hbx
  have HR := Lib.hid hbr
  have HB := Lib.hid hbw
  clear hW hbx hbr hbw
  have k0 := HX.out.c0
  have k1 := HX.out.c1
  have k2 := HX.out.c2
  have k3 := HX.out.c3
  go_wp2_with fail
  refine (HSv.out _ HB.out).mono ?_
  rintro e w1 ⟨rfl, hb⟩
  replace HX := Lib.hid (HX.out.below hb)
  replace HR := Lib.hid (HR.out.below hb)
  replace HB := Lib.hid (bstep HB.out hb)
  clear hb
  clear k0 k1 k2 k3
  have z0 := HR.out.c0
  have z1 := HR.out.c1
  have z2 := HR.out.c2
  have z3 := HR.out.c3
  have zf := HR.out.f
  go_wp2_with fail
  change bodyPost _ _ _ _ _ (pts w1 (w.heap.size + 1) (sloL 0 0 false none 0 0))
  have hby := HR.out.all 0 0 false none 0 0
  have HBz := Lib.hid (pts_below (B := w.heap.size) (b := (w.heap.size + 1)) (by omega) (sloL 0 0 false none 0 0) HB.out)
  generalize pts w1 (w.heap.size + 1) (sloL 0 0 false none 0 0) = V at *
  exact bodyPost_ret (v := .tuple #[sloV 0 0 false none 0 0, .int .i64 1]) (by simp [results, Tryz.results27, go_sem, hby.c0, hby.c1, hby.c2, hby.c3]) rfl (by rw [HC.out]; exact SRes.no HBz.out)
set_option maxRecDepth 100000 in
set_option maxHeartbeats 8000000 in
theorem srot_full (i l : Int) (r : Bool) (a : Option Addr) (n c : Nat) (L : List GP) (w : World) (h : RdG w (.slice a n c) L) (hs : ∀ p ∈ L, ∀ j, j < 8 → (p.1.m.st j).length ≤ 10000) (hv : vldSl ⟨i, l, r, gns L⟩ = true) (hn8 : ¬ (topG ⟨i, l, r, gns L⟩).num < 8) :
    Calls Tryz.prog 27 #[sloV i l r a n c] w (SRes w (rotS ⟨i, l, r, gns L⟩)) := by
  have HSv := Lib.hid (fun W (hb : Below w.heap.size w W) => svalid_any i l r a n c L W (h.below hb) hs)
  have HCr := Lib.hid (fun W (hb : Below w.heap.size w W) => canrot_any i l r a n c L W (h.below hb) hs)
  have HC := Lib.hid (show rotS ⟨i, l, r, gns L⟩ = (slt0, 9) by unfold rotS; rw [if_pos hv, if_neg hn8])
  rw [hv] at HSv
  rw [show canS ⟨i, l, r, gns L⟩ = false by unfold canS; rw [hv]; simpa using hn8] at HCr
  clear h hs hv hn8
  go_enter Tryz.func27, Tryz.ntmps27
  go_upto_region 1 with fail
  change Code.wp _ _ _ _ ((w.alloc (.cells (sloC i l r a n c) 41)).alloc (.cells (sloC 0 0 false none 0 0) 41))
  obtain ⟨W, hW, hbx, hbr, hbw⟩ := two_slo w i l r a n c 41
  rw [hW]
  have HX := Lib.hid hbx
  have HR := Lib.hid hbr
  have HB := Lib.hid hbw
  clear hW hbx hbr hbw
  have k0 := HX.out.c0
  have k1 := HX.out.c1
  have k2 := HX.out.c2
  have k3 := HX.out.c3
  go_wp2_with fail
  refine (HSv.out _ HB.out).mono ?_
  rintro e w1 ⟨rfl, hb⟩
  replace HX := Lib.hid (HX.out.below hb)
  replace HR := Lib.hid (HR.out.below hb)
  replace HB := Lib.hid (bstep HB.out hb)
  clear hb
  clear k0 k1 k2 k3
  have k0 := HX.out.c0
  have k1 := HX.out.c1
  have k2 := HX.out.c2
  have k3 := HX.out.c3
  go_wp2_with fail
  refine (HCr.out _ HB.out).mono ?_
  rintro e w2 ⟨rfl, hb⟩
  replace HX := Lib.hid (HX.out.below hb)
  replace HR := Lib.hid (HR.out.below hb)
  replace HB := Lib.hid (bstep HB.out hb)
  clear hb
  clear k0 k1 k2 k3
  have z0 := HR.out.c0
  have z1 := HR.out.c1
  have z2 := HR.out.c2
  have z3 := HR.out.c3
  have zf := HR.out.f
  go_wp2_with fail
  change bodyPost _ _ _ _ _ (pts w2 (w.heap.size + 1) (sloL 0 0 false none 0 0))
  have hby := HR.out.all 0 0 false none 0 0
  have HBz := Lib.hid (pts_below (B := w.heap.size) (b := (w.heap.size + 1)) (by omega) (sloL 0 0 false none 0 0) HB.out)
  generalize pts w2 (w.heap.size + 1) (sloL 0 0 false none 0 0) = V at *
  exact bodyPost_ret (v := .tuple #[sloV 0 0 false none 0 0, .int .i64 9]) (by simp [results, Tryz.results27, go_sem, hby.c0, hby.c1, hby.c2, hby.c3]) rfl (by rw [HC.out]; exact SRes.no HBz.out)
set_option maxRecDepth 100000 in
set_option maxHeartbeats 16000000 in
theorem srot_yes (i l : Int) (r : Bool) (a : Option Addr) (n c : Nat) (L : List GP) (w : World) (h : RdG w (.slice a n c) L) (hs : ∀ p ∈ L, ∀ j, j < 8 → (p.1.m.st j).length ≤ 10000) (hv : vldSl ⟨i, l, r, gns L⟩ = true) (hn8 : (topG ⟨i, l, r, gns L⟩).num < 8) :
    Calls Tryz.prog 27 #[sloV i l r a n c] w (SRes w (rotS ⟨i, l, r, gns L⟩)) := by
  have HSv := Lib.hid (fun W (hb : Below w.heap.size w W) => svalid_any i l r a n c L W (h.below hb) hs)
  have HCr := Lib.hid (fun W (hb : Below w.heap.size w W) => canrot_any i l r a n c L W (h.below hb) hs)
  have hV := (vldSl_iff _).1 hv
  obtain ⟨htv, htm, _⟩ := hV.topv
  have hLn : L.length = n := by
    obtain ⟨_, _, e, _⟩ := h.shape
    injection e with _ e _; exact e.symm
  have hl : (gns L).length = n := by rw [gns_len, hLn]
  have hn : 1 ≤ n ∧ n ≤ 8 := by have := hV.len; simp only [hl] at this; exact this
  obtain ⟨j, rfl⟩ : ∃ j, n = j + 1 := ⟨n - 1, by omega⟩
  have hC : rotS ⟨i, l, r, gns L⟩ = (⟨i, l, r, (gns L).take j ++ [{ topG ⟨i, l, r, gns L⟩ with mode := 2 }, fresh ((topG ⟨i, l, r, gns L⟩).num + 1)]⟩, 0) := by
    unfold rotS; rw [if_pos hv, if_pos hn8]
    show ((⟨i, l, r, (gns L).take ((gns L).length - 1) ++ _⟩ : Slt), (0 : Int)) = _
    rw [hl]; rfl
  rw [hv] at HSv
  rw [show canS ⟨i, l, r, gns L⟩ = true by unfold canS; rw [hv]; simpa using hn8] at HCr
  have hnum := htv.num
  have hls := hs _ (pat_mem (l := L) (i := j) (by omega))
  rw [topG_pat hLn] at hC htv htm hn8 hnum
  have HTg := Lib.hid (show turnG (pat L j).1 1 = (0, { (pat L j).1 with mode := 1 + 1 }) from by unfold turnG; rw [if_pos ((vldG_iff _).2 htv), if_pos htm])
  have HC := Lib.hid hC
  have HRw := Lib.hid h
  have HSs := Lib.hid hs
  have HGL := Lib.hid (show (gns L).length = j + 1 from hl)
  have HPt := Lib.hid (fun M (e : gns M = gns L) => show (pat M j).1 = (pat L j).1 by rw [← gat_gns, ← gat_gns, e])
  clear hV hLn hl hv hs hC htv h
  generalize (pat L j).1 = tg at *
  obtain ⟨num, rev, md, sz, ⟨f, LV, GA⟩⟩ := tg
  dsimp only at *
  subst htm
  have HLt := Lib.hid hls
  clear hls
  go_enter Tryz.func27, Tryz.ntmps27
  go_upto_region 1 with fail
  change Code.wp _ _ _ _ ((w.alloc (.cells (sloC i l r a (j + 1) c) 41)).alloc (.cells (sloC 0 0 false none 0 0) 41))
  obtain ⟨W, hW, hbx, hbr, hbw⟩ := two_slo w i l r a (j + 1) c 41
  rw [hW]
  have HX := Lib.hid hbx
  have HR := Lib.hid hbr
  have HB := Lib.hid hbw
  clear hW hbx hbr hbw
  have hB0 : w.heap.size + 2 ≤ W.heap.size := by have := HR.out.lt; omega
  have k0 := HX.out.c0
  have k1 := HX.out.c1
  have k2 := HX.out.c2
  have k3 := HX.out.c3
  go_wp2_with fail
  refine (HSv.out _ HB.out).mono ?_
  rintro e w1 ⟨rfl, hb⟩
  replace HX := Lib.hid (HX.out.below hb)
  replace HR := Lib.hid (HR.out.below hb)
  replace HB := Lib.hid (bstep HB.out hb)
  have hB1 := Nat.le_trans hB0 hb.size
  clear hb HSv
  clear k0 k1 k2 k3
  have k0 := HX.out.c0
  have k1 := HX.out.c1
  have k2 := HX.out.c2
  have k3 := HX.out.c3
  go_wp2_with fail
  refine (HCr.out _ HB.out).mono ?_
  rintro e w2 ⟨rfl, hb⟩
  replace HX := Lib.hid (HX.out.below hb)
  replace HR := Lib.hid (HR.out.below hb)
  replace HB := Lib.hid (bstep HB.out hb)
  have hB2 := Nat.le_trans hB1 hb.size
  clear hb HCr
  clear k0 k1 k2 k3
  have k0 := HX.out.c0
  have k1 := HX.out.c1
  have k2 := HX.out.c2
  have k3 := HX.out.c3
  go_wp2_with fail
  refine (sclone_any i l r a (j + 1) c L w2 (HRw.out.below HB.out) HSs.out (by omega)).mono ?_
  rintro e w3 hq
  obtain ⟨⟨a1, c1, M, rfl, ho, hg⟩, hb⟩ := hq
  have HOw := Lib.hid (ho.lower hB2)
  have HGn := Lib.hid hg
  clear k0 k1 k2 k3 ho hg
  replace HX := Lib.hid (HX.out.below hb)
  replace HR := Lib.hid (HR.out.below hb)
  replace HB := Lib.hid (bstep HB.out hb)
  have hB3 := Nat.le_trans hB2 hb.size
  clear hb
  have k0 := HX.out.c0
  have k1 := HX.out.c1
  have k2 := HX.out.c2
  have k3 := HX.out.c3
  have kf := HX.out.f
  go_upto_region 6 with fail
  clear k0 k1 k2 k3 kf
  obtain ⟨g, rfl, hgB, hgl⟩ := rowG_some HOw.out.row (by omega)
  have HX4 := Lib.hid (HX.out.all i l r (some ⟨g, 0, none⟩) (j + 1) c1)
  have HR4 := Lib.hid (HR.out.pts_ne (d := w.heap.size) (by omega) (sloL i l r (some ⟨g, 0, none⟩) (j + 1) c1))
  have HB4 := Lib.hid (pts_below (B := w.heap.size) (b := w.heap.size) (Nat.le_refl _) (sloL i l r (some ⟨g, 0, none⟩) (j + 1) c1) HB.out)
  have HO4 := Lib.hid (HOw.out.pts (b := w.heap.size) (by omega) (sloL i l r (some ⟨g, 0, none⟩) (j + 1) c1))
  have hB4 : w.heap.size + 2 ≤ (pts w3 w.heap.size (sloL i l r (some ⟨g, 0, none⟩) (j + 1) c1)).heap.size := by rw [pts_size]; exact hB3
  have hgl4 : g < (pts w3 w.heap.size (sloL i l r (some ⟨g, 0, none⟩) (j + 1) c1)).heap.size := by rw [pts_size]; exact hgl
  clear HX HR HB HOw hgl
  change Code.wp _ _ _ _ (pts w3 w.heap.size (sloL i l r (some ⟨g, 0, none⟩) (j + 1) c1))
  generalize pts w3 w.heap.size (sloL i l r (some ⟨g, 0, none⟩) (j + 1) c1) = w4 at *
  have hat := rowG_at HO4.out.row HO4.out.len (show j < j + 1 by omega)
  have hpt := HPt.out M HGn.out
  have hmr := HO4.out.m _ (pat_mem (l := M) (i := j) (by have := HO4.out.len; omega))
  generalize pat M j = q at *
  obtain ⟨qg, qs⟩ := q
  dsimp only at hpt hmr
  subst hpt
  have HGA := Lib.hid hat
  have HMr := Lib.hid hmr
  clear hat hmr HPt
  dsimp only at HMr
  have j3 : IntKind.i64.wrap (j : Int) = (j : Int) := IntWalk.i64_in _ (by omega)
  have i2 : (j : Int) < ((j + 1 : Nat) : Int) := by omega
  have k3 := HX4.out.c3
  have g0 := HGA.out.n0
  dsimp only at g0
  go_wp2_with fail
  refine (fresh_any (num + 1) (by omega) w4).mono ?_
  rintro e w5 ⟨rfl, hb⟩
  clear k3 g0
  replace HX4 := Lib.hid (HX4.out.below hb)
  replace HR4 := Lib.hid (HR4.out.below hb)
  replace HB4 := Lib.hid (bstep HB4.out hb)
  replace HO4 := Lib.hid (HO4.out.keep hb)
  replace HGA := Lib.hid (HGA.out.below hb)
  replace HMr := Lib.hid (HMr.out.keep hb)
  have hB5 := Nat.le_trans hB4 hb.size
  have hgl5 : g < w5.heap.size := Nat.lt_of_lt_of_le hgl4 hb.size
  clear hb
  go_upto_region 8 with fail
  change Code.wp _ _ _ _ (w5.alloc (.cells (genC (num + 1) 0 1 16 Sl.nil 0 0) 58))
  have hbq := below_gen w5 (num + 1) 0 1 16 Sl.nil 0 0 58
  have HF := Lib.hid (BoxG.new w5 (num + 1) 0 1 16 Sl.nil 0 0 58)
  replace HX4 := Lib.hid (HX4.out.below hbq)
  replace HR4 := Lib.hid (HR4.out.below hbq)
  replace HB4 := Lib.hid (bstep HB4.out hbq)
  replace HO4 := Lib.hid (HO4.out.keep hbq)
  replace HGA := Lib.hid (HGA.out.below hbq)
  replace HMr := Lib.hid (HMr.out.keep hbq)
  have hB6 := Nat.le_trans hB5 hbq.size
  clear hbq
  generalize w5.alloc (.cells (genC (num + 1) 0 1 16 Sl.nil 0 0) 58) = w6 at *
  generalize w5.heap.size = bF at *
  have HFz := Lib.hid (freeze_any ⟨num, rev, 1, sz, ⟨f, LV, GA⟩⟩ qs w6 HMr.out.rd HLt.out)
  rw [HTg.out] at HFz
  dsimp only at HFz
  have g0 := HGA.out.n0
  have g1 := HGA.out.n1
  have g2 := HGA.out.n2
  have g3 := HGA.out.n3
  have g4 := HGA.out.c0
  have g5 := HGA.out.c1
  have g6 := HGA.out.c2
  have g7 := HGA.out.c3
  have g8 := HGA.out.c4
  have g9 := HGA.out.c5
  have g10 := HGA.out.c6
  have g11 := HGA.out.c7
  have g12 := HGA.out.cl
  have g13 := HGA.out.cg
  try dsimp only at g0 g1 g2 g3 g4 g5 g6 g7 g8 g9 g10 g11 g12 g13
  have HTh7 := Lib.hid (fun W' (hb : Below w6.heap.size w6 W') => (HGA.out.below hb).there (rowG_frozen (own_keep HO4.out.row hb)))
  go_wp2_with fail
  refine HFz.out.mono ?_
  rintro e w7 ⟨⟨t, rfl, hto⟩, hb⟩
  dsimp only at hto ⊢
  replace HX4 := Lib.hid (HX4.out.below hb)
  replace HR4 := Lib.hid (HR4.out.below hb)
  replace HB4 := Lib.hid (bstep HB4.out hb)
  replace HO4 := Lib.hid (HO4.out.keep hb)
  replace HF := Lib.hid (HF.out.below hb)
  have HT7 := Lib.hid (HTh7.out w7 hb)
  have hB7 := Nat.le_trans hB6 hb.size
  have HTo := Lib.hid (hto.mono hB6)
  clear hto hb HFz HTh7 g0 g1 g2 g3 g4 g5 g6 g7 g8 g9 g10 g11 g12 g13
  go_upto_region 10 with (first | ((with_reducible refine wpList_store_mid ?_ 58 (.tmp 43) (.tmp 41) ?_ g (j * 14) (genC num rev 2 sz t LV GA) ?_ ?_ ?_ ?_ ?_ ?_); rfl; rfl; rfl; rfl; exact HT7.out; exact info14p; exact genC_all _ _ _ _ _ _ _; rw [store_gp]; have HO8 := Lib.hid (HO4.out.set j (by omega) ((⟨num, rev, 2, sz, ⟨f, LV, GA⟩⟩ : Gn), t) HTo.out); dsimp only at HO8; have HX8 := Lib.hid (HX4.out.pts_ne (d := g) (by omega) (gpL (j * 14) num rev 2 sz t LV GA)); have HR8 := Lib.hid (HR4.out.pts_ne (d := g) (by omega) (gpL (j * 14) num rev 2 sz t LV GA)); have HF8 := Lib.hid (HF.out.pts_ne (c := g) (by omega) (gpL (j * 14) num rev 2 sz t LV GA)); have HB8 := Lib.hid (pts_below (B := w.heap.size) (b := g) (by omega) (gpL (j * 14) num rev 2 sz t LV GA) HB4.out); have hB8 : w.heap.size + 2 ≤ (pts w7 g (gpL (j * 14) num rev 2 sz t LV GA)).heap.size := (by rw [pts_size]; exact hB7); clear HX4 HR4 HB4 HO4 HF HTo; generalize pts w7 g (gpL (j * 14) num rev 2 sz t LV GA) = w8 at *; have k3 := HX8.out.c3; have u0 := HF8.out.n0; have u1 := HF8.out.n1; have u2 := HF8.out.n2; have u3 := HF8.out.n3; have u4 := HF8.out.c0; have u5 := HF8.out.c1; have u6 := HF8.out.c2; have u7 := HF8.out.c3; have u8 := HF8.out.c4; have u9 := HF8.out.c5; have u10 := HF8.out.c6; have u11 := HF8.out.c7; have u12 := HF8.out.cl; have u13 := HF8.out.cg; obtain ⟨w9, hw9⟩ : ∃ w9, w8.alloc (.cells (gpC ((fresh (num + 1), Sl.nil) : GP)).toArray 58) = w9 := ⟨_, rfl⟩; have hb9 : Below w8.heap.size w8 w9 := hw9 ▸ (Below.refl _ _).alloc (Nat.le_refl _) _; have HRn := Lib.hid (show Rd w9 14 (.slice (some ⟨w8.heap.size, 0, none⟩) 1 1) 1 (gpC ((fresh (num + 1), Sl.nil) : GP)) from hw9 ▸ Rd.newK' w8.heap.size w8 rfl 14 (gpC ((fresh (num + 1), Sl.nil) : GP)) 58 1 rfl (by decide)); have HO9 := Lib.hid (HO8.out.keep hb9); have hB9 := Nat.le_trans hB8 hb9.size; have HH9 := Lib.hid hw9; clear hw9) | (at_builtin; go_must (change wpList _ _ _ _ _ (w8.alloc (.cells (gpC ((fresh (num + 1), Sl.nil) : GP)).toArray 58)); rw [HH9.out]; refine wpList_app rfl (.tmp 45) (.tmp 47) 39 rfl elemGp (w.heap.size + 2) rfl HO9.out.row rfl HRn.out (gp_one _) (by unfold maxLen; omega) (by omega) hB9 ?_; intro v10 w10 hown10 hgr10 hv10; clear hv10; obtain ⟨ra, rc, rfl, _⟩ := own_form hown10; replace hgr10 : w9.grownBy w10 (some g) := hgr10; have HX10 := Lib.hid ((HX8.out.below hb9).grownR hgr10 (by omega)); have HR10 := Lib.hid ((HR8.out.below hb9).grownR hgr10 (by omega)); have HB10 := Lib.hid ((bstep HB8.out hb9).trans ((own_below (Below.refl (w.heap.size + 2) w9) HO9.out.row hB9 hgr10).mono (by omega))); have HO10 := Lib.hid hown10; have HM10 := Lib.hid (fun p hp => (HO9.out.m p hp).genGrown HO9.out.row hgr10); have k3 := HX10.out.c3; have kf := HX10.out.f)))
  clear k3 kf u0 u1 u2 u3 u4 u5 u6 u7 u8 u9 u10 u11 u12 u13
  have HX11 := Lib.hid (show BoxV (pts w10 w.heap.size [(3, .slice ra (j + 1 + 1) rc)]) w.heap.size i l r ra (j + 1 + 1) rc from HX10.out.set3 ra (j + 1 + 1) rc)
  have HR11 := Lib.hid (HR10.out.pts_ne (d := w.heap.size) (by omega) [(3, .slice ra (j + 1 + 1) rc)])
  have HB11 := Lib.hid (pts_below (B := w.heap.size) (b := w.heap.size) (Nat.le_refl _) [(3, .slice ra (j + 1 + 1) rc)] HB10.out)
  have HO11 := Lib.hid (pts_own (b := w.heap.size) (by omega) HO10.out [(3, .slice ra (j + 1 + 1) rc)])
  have HM11 := Lib.hid (fun p hp => (HM10.out p hp).pts (b := w.heap.size) (by omega) [(3, .slice ra (j + 1 + 1) rc)])
  clear HX10 HR10 HB10 HO10 HM10
  change Code.wp _ _ _ _ (pts w10 w.heap.size [(3, .slice ra (j + 1 + 1) rc)])
  generalize pts w10 w.heap.size [(3, .slice ra (j + 1 + 1) rc)] = w11 at *
  have hlM : M.length = j + 1 := (gns_len M).symm.trans ((congrArg List.length HGn.out).trans HGL.out)
  have k0 := HX11.out.c0
  have k1 := HX11.out.c1
  have k2 := HX11.out.c2
  have k3 := HX11.out.c3
  have z0 := HR11.out.c0
  have z1 := HR11.out.c1
  have z2 := HR11.out.c2
  have z3 := HR11.out.c3
  have zf := HR11.out.f
  go_wp2_with fail
  change bodyPost _ _ _ _ _ (pts w11 (w.heap.size + 1) (sloL i l r ra (j + 1 + 1) rc))
  have HGz := Lib.hid (show RdG (pts w11 (w.heap.size + 1) (sloL i l r ra (j + 1 + 1) rc)) (.slice ra (j + 1 + 1) rc) (M.set j ((⟨num, rev, 2, sz, ⟨f, LV, GA⟩⟩ : Gn), t) ++ [(fresh (num + 1), Sl.nil)]) from own_rdG (B := w.heap.size + 2) (T := 58) (by
    rw [List.flatMap_append, show [((fresh (num + 1), Sl.nil) : GP)].flatMap gpC = gpC ((fresh (num + 1), Sl.nil) : GP) from List.append_nil _]
    exact pts_own (b := w.heap.size + 1) (by omega) HO11.out _) (by rw [List.length_append, List.length_set, hlM]; rfl) (fun p hp => by
    rcases List.mem_append.1 hp with hp | hp
    · exact ((HM11.out p hp).pts (b := w.heap.size + 1) (by omega) _).rd
    · rw [List.mem_singleton.1 hp]; exact rdM_nil _))
  have HGf := Lib.hid (show gns (M.set j ((⟨num, rev, 2, sz, ⟨f, LV, GA⟩⟩ : Gn), t) ++ [(fresh (num + 1), Sl.nil)]) = (gns L).take j ++ [⟨num, rev, 2, sz, ⟨f, LV, GA⟩⟩, fresh (num + 1)] from by
    rw [gns_append, gns_set, HGn.out, List.set_eq_take_append_cons_drop, if_pos (by rw [HGL.out]; omega), List.drop_of_length_le (by rw [HGL.out]; omega)]
    simp [gns])
  have hby := HR11.out.all i l r ra (j + 1 + 1) rc
  have HBz := Lib.hid (pts_below (B := w.heap.size) (b := (w.heap.size + 1)) (by omega) (sloL i l r ra (j + 1 + 1) rc) HB11.out)
  generalize pts w11 (w.heap.size + 1) (sloL i l r ra (j + 1 + 1) rc) = V at *
  exact bodyPost_ret (v := .tuple #[sloV i l r ra (j + 1 + 1) rc, .int .i64 0]) (by simp [results, Tryz.results27, go_sem, hby.c0, hby.c1, hby.c2, hby.c3]) rfl (by rw [HC.out]; exact ⟨⟨ra, j + 1 + 1, rc, M.set j ((⟨num, rev, 2, sz, ⟨f, LV, GA⟩⟩ : Gn), t) ++ [(fresh (num + 1), Sl.nil)], rfl, HGz.out, HGf.out⟩, HBz.out⟩)
theorem srot_any (i l : Int) (r : Bool) (a : Option Addr) (n c : Nat) (L : List GP) (w : World) (h : RdG w (.slice a n c) L) (hs : ∀ p ∈ L, ∀ j, j < 8 → (p.1.m.st j).length ≤ 10000) : Calls Tryz.prog 27 #[sloV i l r a n c] w (SRes w (rotS ⟨i, l, r, gns L⟩)) := by
  cases hv : vldSl ⟨i, l, r, gns L⟩
  · exact srot_no i l r a n c L w h hs hv
  · by_cases hn8 : (topG ⟨i, l, r, gns L⟩).num < 8
    · exact srot_yes i l r a n c L w h hs hv hn8
    · exact srot_full i l r a n c L w h hs hv hn8
end Go.Proofs.YtenkeodfijladaaGreat
