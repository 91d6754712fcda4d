/- GenerationChanges: its great regions, each for itself. Printed by genJd.py. -/
import Derived.Test.YtenkeodfijladaaGreatDoorJu
import Derived.Test.YtenkeodfijladaaGreatDoorGS
import Derived.Test.YtenkeodfijladaaGreatDoorGO
import Derived.Test.YtenkeodfijladaaGreatDoorGU
namespace Go.Proofs.YtenkeodfijladaaGreatDoor
open Go.RowKit

/-- The whole block b: its cells and its type. -/
def BlkW (W : World) (b : Nat) (cs : Array Value) (t : TypeId) : Prop := W.heap[b]? = some (.cells cs t (0, 0))
section
variable {W W' : World} {b : Nat} {cs : Array Value} {t : TypeId}
theorem BlkW.lt (h : BlkW W b cs t) : b < W.heap.size := (Array.getElem?_eq_some_iff.1 h).1
theorem BlkW.below (h : BlkW W b cs t) (hb : Below W.heap.size W W') : BlkW W' b cs t := by
  unfold BlkW
  rw [hb.block b h.lt]; exact h
theorem BlkW.new (W : World) (cs : Array Value) (t : TypeId) : BlkW (W.alloc (.cells cs t)) W.heap.size cs t := heap_alloc_new W _
theorem BlkW.cell_eq (h : BlkW W b cs t) (i : Nat) : W.cell? ⟨b, i, none⟩ = cs[i]? := by
  have h : W.heap[b]? = some (.cells cs t (0, 0)) := h
  simp [World.cell?, h]
theorem BlkW.cell (h : BlkW W b cs t) {i : Nat} {u : Value} (hu : cs[i]? = some u) : W.cell? ⟨b, i, none⟩ = some u := (h.cell_eq i).trans hu
theorem BlkW.frozen (h : BlkW W b cs t) (i : Nat) : W.frozen? ⟨b, i, none⟩ = false := by
  have h : W.heap[b]? = some (.cells cs t (0, 0)) := h
  unfold World.frozen?
  rw [h]
  simp
theorem BlkW.set (h : BlkW W b cs t) (i : Nat) (u : Value) : BlkW (W.setCell ⟨b, i, none⟩ u) b (cs.setIfInBounds i u) t := by
  have hl := h.lt
  have hk := (Array.getElem?_eq_some_iff.1 h).2
  show (W.heap.modify b _)[b]? = _
  rw [Array.getElem?_eq_getElem (by rw [Array.size_modify]; exact hl), Array.getElem_modify_self, hk]
  rfl
theorem BlkW.sets : ∀ (vs : List (Nat × Value)) {W : World} {cs : Array Value}, BlkW W b cs t → BlkW (pts W b vs) b (vs.foldl (fun cs p => cs.setIfInBounds p.1 p.2) cs) t
  | [], _, _, h => h
  | (i, u) :: r, _, _, h => BlkW.sets r (h.set i u)
theorem BlkW.pts_ne {c : Nat} (hne : b ≠ c) : ∀ (vs : List (Nat × Value)) {W : World}, BlkW W b cs t → BlkW (pts W c vs) b cs t
  | [], _, h => h
  | (i, u) :: r, W, h => BlkW.pts_ne hne r (show (W.setCell ⟨c, i, none⟩ u).heap[b]? = _ by rw [Below.heap_setCell W ⟨c, i, none⟩ u b hne]; exact h)
theorem pts_rows {sz n : Nat} {v : Value} {xs : List Value} (hr : Rd W sz v n xs) (h : BlkW W b cs t) (ha : 0 < xs.length → ∀ off : Nat, ∃ (j : Nat) (u : Value), xs[j]? = some u ∧ cs[off + j]? ≠ some u) (vs : List (Nat × Value)) : Rd (pts W b vs) sz v n xs := by
  obtain ⟨h0, a, cap, e, h1, h2, h3, h4⟩ := hr
  refine ⟨h0, a, cap, e, h1, h2, h3, fun hp => ?_⟩
  obtain ⟨b', off, e2, hc⟩ := h4 hp
  refine ⟨b', off, e2, fun j u hj => ?_⟩
  have hne : b' ≠ b := by
    rintro rfl
    obtain ⟨j', u', h5, h6⟩ := ha hp off
    have h7 := hc j' u' h5
    rw [h.cell_eq] at h7
    exact h6 h7
  exact (pts_cell (p := ⟨b', off + j, none⟩) hne vs W).trans (hc j u hj)
theorem pts_maps {s : Sl} {f : Nat → List It} {n' r' md z : Int} {s' : Sl} {l' g : Int} (h : RdM W s f) (hb : BlkW W b (genC n' r' md z s' l' g) t) (vs : List (Nat × Value)) : RdM (pts W b vs) s f := fun j hj =>
  rd_rdT (n := (f j).length) (pts_rows (rdT_rd (h j hj)) hb (fun hp off => by
    match f j, hp with
    | p :: q, _ =>
      refine ⟨0, .int .u64 p.key, rfl, fun h => ?_⟩
      match off with
      | 0 => cases h
      | 1 => cases h
      | 2 => cases h
      | 3 => cases h
      | 4 => cases h
      | 5 => cases h
      | 6 => cases h
      | 7 => cases h
      | 8 => cases h
      | 9 => cases h
      | 10 => cases h
      | 11 => cases h
      | 12 => cases h
      | 13 => cases h
      | k + 14 => rw [Array.getElem?_eq_none (by show 14 ≤ k + 14 + 0; omega)] at h; cases h) vs)
variable {n r md z : Int} {s : Sl} {l g : Int}
theorem BlkW.gen (h : BlkW W b (genC n r md z s l g) t) : BoxG W b n r md z s l g := by
  refine ⟨h.cell rfl, h.cell rfl, h.cell rfl, h.cell rfl, fun j hj => ?_, h.cell rfl, h.cell rfl, h.frozen⟩
  rcases lt8 hj with e | e | e | e | e | e | e | e <;> subst e <;> exact h.cell rfl
theorem BlkW.genAll (h : BlkW W b (genC n r md z s l g) t) (n' r' md' z' : Int) (s' : Sl) (l' g' : Int) : BlkW (pts W b (genL n' r' md' z' s' l' g')) b (genC n' r' md' z' s' l' g') t := by
  have h1 := BlkW.sets (genL n' r' md' z' s' l' g') h
  have e : (genL n' r' md' z' s' l' g').foldl (fun cs p => cs.setIfInBounds p.1 p.2) (genC n r md z s l g) = genC n' r' md' z' s' l' g' := by
    simp only [List.foldl_cons, List.foldl_nil, List.setIfInBounds_toArray, List.set_cons_zero, List.set_cons_succ]
  rw [e] at h1
  exact h1
end
/-- What a change hands back: the map reads. -/
def GRd (w0 : World) (c a b md z : Int) (f : Nat → List It) (L G : Int) (e : Ending) (w' : World) : Prop := (∃ s, e = .returned (.tuple #[genV a b md z s L G, .int .i64 c]) ∧ RdM w' s f) ∧ Below w0.heap.size w0 w'
set_option maxRecDepth 100000 in
theorem field_map (n r md z : Int) (s : Sl) (L G : Int) (W : World) : Sem.run Tryz.prog (Instr.field 43 (genV n r md z s L G) 4) W = Result.ok (mapV s L G) W := by
  exact rfl
/-- The pairs of the third loop; one pair in a box. -/
structure Row2 (W : World) (b : Nat) (p s : Int) : Prop where
  c0 : W.cell? ⟨b, 0, none⟩ = some (.int .i64 p)
  c1 : W.cell? ⟨b, 1, none⟩ = some (.int .i64 s)
theorem Row2.below {W W' : World} {b : Nat} {p s : Int} (h : Row2 W b p s) (hb : Below W.heap.size W W') : Row2 W' b p s := ⟨Below.keeps hb _ _ h.c0, Below.keeps hb _ _ h.c1⟩
theorem pts_othr {b c i : Nat} (hne : b ≠ c) (u : Value) : ∀ (vs : List (Nat × Value)) (W : World), W.cell? ⟨b, i, none⟩ = some u → (Go.Proofs.YtenkeodfijladaaGreatDoor.pts W c vs).cell? ⟨b, i, none⟩ = some u
  | [], _, h => h
  | (j, v) :: r, W, h => pts_othr hne u r _ ((World.cell?_setCell_other (h := fun e => hne (by injection e with e _ _; exact e.symm)) ..).trans h)
theorem Row2.pts_ne {W : World} {b c : Nat} {p s : Int} (h : Row2 W b p s) (hne : b ≠ c) (vs : List (Nat × Value)) : Row2 (Go.Proofs.YtenkeodfijladaaGreatDoor.pts W c vs) b p s := ⟨pts_othr hne _ vs W h.c0, pts_othr hne _ vs W h.c1⟩
def Row3 (W : World) (b : Nat) : Prop := ∀ k, k < 3 → ∃ p s, W.cell? ⟨b, k * 2, none⟩ = some (.int .i64 p) ∧ W.cell? ⟨b, k * 2 + 1, none⟩ = some (.int .i64 s)
theorem Row3.below {W W' : World} {b : Nat} (h : Row3 W b) (hb : Below W.heap.size W W') : Row3 W' b := fun k hk => by
  obtain ⟨p, s, h1, h2⟩ := h k hk
  exact ⟨p, s, Below.keeps hb _ _ h1, Below.keeps hb _ _ h2⟩
theorem Row3.pts_ne {W : World} {b c : Nat} (h : Row3 W b) (hne : b ≠ c) (vs : List (Nat × Value)) : Row3 (Go.Proofs.YtenkeodfijladaaGreatDoor.pts W c vs) b := fun k hk => by
  obtain ⟨p, s, h1, h2⟩ := h k hk
  exact ⟨p, s, pts_othr hne _ vs W h1, pts_othr hne _ vs W h2⟩
def tupW (c a b md z : Int) (f : Nat → List It) (L G : Int) : Sta := ⟨fun v w => ∃ s, v = .tuple #[genV a b md z s L G, .int .i64 c] ∧ RdM w s f, fun _ _ _ hb ⟨s, h1, h2⟩ => ⟨s, h1, h2.below hb⟩⟩
def genW (a b md z : Int) (f : Nat → List It) (L G : Int) : Sta := ⟨fun v w => ∃ s, v = genV a b md z s L G ∧ RdM w s f, fun _ _ _ hb ⟨s, h1, h2⟩ => ⟨s, h1, h2.below hb⟩⟩
def findReg (n : Nat) : Code → Option Code
  | .region k ops d => if k = n then some (.region k ops d) else none
  | .seq a b => match findReg n a with
    | some c => some c
    | none => findReg n b
  | .cond _ a b => match findReg n a with
    | some c => some c
    | none => findReg n b
  | .block _ c => findReg n c
  | .loop c => findReg n c
  | .scope c => findReg n c
  | _ => none
noncomputable def gcReg (n : Nat) : Code := (Tryz.f3.body.bind (findReg n)).getD .skip
set_option maxRecDepth 100000 in
set_option maxHeartbeats 16000000 in
theorem gc22 {u0 u1 u2 u3 u5 u6 u7 u8 u9 u10 u11 u12 u13 u14 u15 u16 u17 u18 u20 u21 u22 u23 u24 u25 u26 u27 u28 u29 u30 u31 u32 u33 u34 u35 u36 u37 u38 u39 u40 u41 u42 u43 u44 u45 u46 u47 u48 u49 u50 u51 u52 u53 u54 u55 u56 u57 u58 u59 u60 u61 u62 u63 u64 u65 u66 u67 u68 u69 u70 u71 u72 u73 u74 u75 u76 u77 u78 u79 u80 u81 u82 u83 u84 u85 u86 u87 u88 u89 u90 u91 u92 u93 u94 u95 u96 u97 u98 u99 u100 u101 u102 u103 u104 u105 u106 u107 u108 u109 u110 u111 u112 u113 u114 u115 u116 u117 u118 u119 u120 u121 u122 u123 u124 u125 u126 u127 u128 u129 u130 u131 u132 u133 u134 u135 u136 u137 u138 u139 u140 u141 u142 u143 u144 u145 u146 u147 u148 u149 u150 u151 u152 u153 u154 u155 u156 u157 u158 u159 u160 u161 u162 u163 u164 u165 u166 u167 u168 u169 u170 u171 u172 u173 u174 u175 u176 u177 u178 u179 u180 u181 u182 u183 u184 u185 u186 u187 u188 u189 u190 u191 u192 u193 u194 u195 u196 u197 u198 u199 u200 u201 u202 u203 u204 u205 u206 u207 u208 u209 u210 u211 u212 u213 u214 u215 u216 u217 u218 u219 u220 u221 u222 u223 u224 u225 u226 u227 : Value} {K : Act → World → Prop} {Q : Exit → Act → World → Prop} {w6 W : World} {b19 : Nat} {xn xr xm xz xL xG : Int} {sX : Sl} {er tn tr tm tz tL tG : Int} {tf : Nat → List It} {ka : Option Addr} {kn kc : Nat}
    (HGi : Hid (∀ (a b c d : Int) (s : Sl) (L G : Int) (W : World), Calls Tryz.prog 9 #[genV a b c d s L G] W fun e w' => e = .returned (genV a b c d s L G) ∧ Below W.heap.size W w'))
    (HCp : Hid (∀ W, Below w6.heap.size w6 W → Calls Tryz.prog 13 #[genV xn xr xm xz sX xL xG, .slice ka kn kc] W (GRd W er tn tr tm tz tf tL tG)))
    (X19 : Hid (BlkW W b19 (genC xn xr xm xz sX xL xG) 27)) (HBj : Hid (Below w6.heap.size w6 W))
    (HK : Hid (∀ (v106 v107 v108 v109 v110 v111 v112 : Value) (b26 : Nat) (s26 : Sl) (W' : World), w6.heap.size ≤ b26 → b19 < b26 → Hid (BlkW W' b19 (genC xn xr xm xz sX xL xG) 27) → Hid (BlkW W' b26 (genC tn tr tm tz s26 tL tG) 43) → Hid (RdM W' s26 tf) → Hid (Below w6.heap.size w6 W') → K ⟨#[u0, u1, u2, u3, .slice ka kn kc, u5, u6, u7, u8, u9, u10, u11, u12, u13, u14, u15, u16, u17, u18, .pointer (some ⟨b19, 0, none⟩), u20, u21, u22, u23, u24, u25, .pointer (some ⟨b26, 0, none⟩), .int .i64 er, u28, u29, u30, u31, u32, u33, u34, u35, u36, u37, u38, u39, u40, u41, u42, u43, u44, u45, u46, u47, u48, u49, u50, u51, u52, u53, u54, u55, u56, u57, u58, u59, u60, u61, u62, u63, u64, u65, u66, u67, u68, u69, u70, u71, u72, u73, u74, u75, u76, u77, u78, u79, u80, u81, u82, u83, u84, u85, u86, u87, u88, u89, u90, u91, u92, u93, u94, u95, u96, u97, u98, u99, u100, u101, u102, u103, u104, u105, v106, v107, v108, v109, v110, v111, v112, u113, u114, u115, u116, u117, u118, u119, u120, u121, u122, u123, u124, u125, u126, u127, u128, u129, u130, u131, u132, u133, u134, u135, u136, u137, u138, u139, u140, u141, u142, u143, u144, u145, u146, u147, u148, u149, u150, u151, u152, u153, u154, u155, u156, u157, u158, u159, u160, u161, u162, u163, u164, u165, u166, u167, u168, u169, u170, u171, u172, u173, u174, u175, u176, u177, u178, u179, u180, u181, u182, u183, u184, u185, u186, u187, u188, u189, u190, u191, u192, u193, u194, u195, u196, u197, u198, u199, u200, u201, u202, u203, u204, u205, u206, u207, u208, u209, u210, u211, u212, u213, u214, u215, u216, u217, u218, u219, u220, u221, u222, u223, u224, u225, u226, u227], []⟩ W')) :
    Code.wp Tryz.prog (gcReg 22) (Exit.then K Q) ⟨#[u0, u1, u2, u3, .slice ka kn kc, u5, u6, u7, u8, u9, u10, u11, u12, u13, u14, u15, u16, u17, u18, .pointer (some ⟨b19, 0, none⟩), u20, u21, u22, u23, u24, u25, u26, u27, u28, u29, u30, u31, u32, u33, u34, u35, u36, u37, u38, u39, u40, u41, u42, u43, u44, u45, u46, u47, u48, u49, u50, u51, u52, u53, u54, u55, u56, u57, u58, u59, u60, u61, u62, u63, u64, u65, u66, u67, u68, u69, u70, u71, u72, u73, u74, u75, u76, u77, u78, u79, u80, u81, u82, u83, u84, u85, u86, u87, u88, u89, u90, u91, u92, u93, u94, u95, u96, u97, u98, u99, u100, u101, u102, u103, u104, u105, u106, u107, u108, u109, u110, u111, u112, u113, u114, u115, u116, u117, u118, u119, u120, u121, u122, u123, u124, u125, u126, u127, u128, u129, u130, u131, u132, u133, u134, u135, u136, u137, u138, u139, u140, u141, u142, u143, u144, u145, u146, u147, u148, u149, u150, u151, u152, u153, u154, u155, u156, u157, u158, u159, u160, u161, u162, u163, u164, u165, u166, u167, u168, u169, u170, u171, u172, u173, u174, u175, u176, u177, u178, u179, u180, u181, u182, u183, u184, u185, u186, u187, u188, u189, u190, u191, u192, u193, u194, u195, u196, u197, u198, u199, u200, u201, u202, u203, u204, u205, u206, u207, u208, u209, u210, u211, u212, u213, u214, u215, u216, u217, u218, u219, u220, u221, u222, u223, u224, u225, u226, u227], []⟩ W := by
  conv => arg 2; whnf
  have x0 := X19.out.gen.n0
  have x1 := X19.out.gen.n1
  have x2 := X19.out.gen.n2
  have x3 := X19.out.gen.n3
  have x4 := X19.out.gen.c0
  have x5 := X19.out.gen.c1
  have x6 := X19.out.gen.c2
  have x7 := X19.out.gen.c3
  have x8 := X19.out.gen.c4
  have x9 := X19.out.gen.c5
  have x10 := X19.out.gen.c6
  have x11 := X19.out.gen.c7
  have x12 := X19.out.gen.cl
  have x13 := X19.out.gen.cg
  go_wp2_with fail
  refine (HGi.out xn xr xm xz sX xL xG _).mono ?_
  rintro e p1 ⟨rfl, hb⟩
  clear x0 x1 x2 x3 x4 x5 x6 x7 x8 x9 x10 x11 x12 x13
  replace X19 := Lib.hid (X19.out.below hb)
  replace HBj := Lib.hid (bstep HBj.out hb)
  clear hb HGi
  go_wp2_with fail
  refine (HCp.out p1 HBj.out).mono ?_
  rintro e p2 ⟨⟨s26, rfl, hr⟩, hb⟩
  replace X19 := Lib.hid (X19.out.below hb)
  replace HBj := Lib.hid (bstep HBj.out hb)
  clear hb HCp
  have hlo := HBj.out.size
  have h19 := X19.out.lt
  have hba := below_gen p2 tn tr tm tz s26 tL tG 43
  have X26 := Lib.hid (BlkW.new p2 (genC tn tr tm tz s26 tL tG) 43)
  have R26 := Lib.hid (hr.below hba)
  replace X19 := Lib.hid (X19.out.below hba)
  replace HBj := Lib.hid (bstep HBj.out hba)
  clear hr hba
  go_wp2_with fail
  exact HK.out _ _ _ _ _ _ _ p2.heap.size s26 _ hlo h19 X19 X26 R26 HBj
set_option maxRecDepth 100000 in
set_option maxHeartbeats 16000000 in
theorem gc23 {u0 u1 u2 u3 u5 u6 u7 u8 u9 u10 u11 u12 u13 u14 u15 u16 u17 u18 u20 u21 u22 u23 u24 u25 u26 u27 u28 u29 u30 u31 u32 u33 u34 u35 u36 u37 u38 u39 u40 u41 u42 u43 u44 u45 u46 u47 u48 u49 u50 u51 u52 u53 u54 u55 u56 u57 u58 u59 u60 u61 u62 u63 u64 u65 u66 u67 u68 u69 u70 u71 u72 u73 u74 u75 u76 u77 u78 u79 u80 u81 u82 u83 u84 u85 u86 u87 u88 u89 u90 u91 u92 u93 u94 u95 u96 u97 u98 u99 u100 u101 u102 u103 u104 u105 u106 u107 u108 u109 u110 u111 u112 u113 u114 u115 u116 u117 u118 u119 u120 u121 u122 u123 u124 u125 u126 u127 u128 u129 u130 u131 u132 u133 u134 u135 u136 u137 u138 u139 u140 u141 u142 u143 u144 u145 u146 u147 u148 u149 u150 u151 u152 u153 u154 u155 u156 u157 u158 u159 u160 u161 u162 u163 u164 u165 u166 u167 u168 u169 u170 u171 u172 u173 u174 u175 u176 u177 u178 u179 u180 u181 u182 u183 u184 u185 u186 u187 u188 u189 u190 u191 u192 u193 u194 u195 u196 u197 u198 u199 u200 u201 u202 u203 u204 u205 u206 u207 u208 u209 u210 u211 u212 u213 u214 u215 u216 u217 u218 u219 u220 u221 u222 u223 u224 u225 u226 u227 : Value} {K : Act → World → Prop} {Q : Exit → Act → World → Prop} {w6 W : World} {b19 b26 : Nat} {xn xr xm xz xL xG : Int} {sX : Sl} {er tn tr tm tz tL tG : Int} {tf : Nat → List It} {s26 : Sl} {ka : Option Addr} {kn kc : Nat}
    (HCr : Hid (∀ W, Below w6.heap.size w6 W → Calls Tryz.prog 14 #[genV xn xr xm xz sX xL xG, .slice ka kn kc] W (GRd W er tn tr tm tz tf tL tG)))
    (X19 : Hid (BlkW W b19 (genC xn xr xm xz sX xL xG) 27)) (X26 : Hid (BlkW W b26 (genC tn tr tm tz s26 tL tG) 43)) (R26 : Hid (RdM W s26 tf)) (HBj : Hid (Below w6.heap.size w6 W))
    (HK : Hid (∀ (v113 v114 v115 v116 v117 v118 : Value) (b28 : Nat) (s28 : Sl) (W' : World), b26 < b28 → Hid (BlkW W' b19 (genC xn xr xm xz sX xL xG) 27) → Hid (BlkW W' b26 (genC tn tr tm tz s26 tL tG) 43) → Hid (BlkW W' b28 (genC tn tr tm tz s28 tL tG) 27) → Hid (RdM W' s26 tf) → Hid (RdM W' s28 tf) → Hid (Below w6.heap.size w6 W') → K ⟨#[u0, u1, u2, u3, .slice ka kn kc, u5, u6, u7, u8, u9, u10, u11, u12, u13, u14, u15, u16, u17, u18, .pointer (some ⟨b19, 0, none⟩), u20, u21, u22, u23, u24, u25, u26, u27, .pointer (some ⟨b28, 0, none⟩), .int .i64 er, u30, u31, u32, u33, u34, u35, u36, u37, u38, u39, u40, u41, u42, u43, u44, u45, u46, u47, u48, u49, u50, u51, u52, u53, u54, u55, u56, u57, u58, u59, u60, u61, u62, u63, u64, u65, u66, u67, u68, u69, u70, u71, u72, u73, u74, u75, u76, u77, u78, u79, u80, u81, u82, u83, u84, u85, u86, u87, u88, u89, u90, u91, u92, u93, u94, u95, u96, u97, u98, u99, u100, u101, u102, u103, u104, u105, u106, u107, u108, u109, u110, u111, u112, v113, v114, v115, v116, v117, v118, u119, u120, u121, u122, u123, u124, u125, u126, u127, u128, u129, u130, u131, u132, u133, u134, u135, u136, u137, u138, u139, u140, u141, u142, u143, u144, u145, u146, u147, u148, u149, u150, u151, u152, u153, u154, u155, u156, u157, u158, u159, u160, u161, u162, u163, u164, u165, u166, u167, u168, u169, u170, u171, u172, u173, u174, u175, u176, u177, u178, u179, u180, u181, u182, u183, u184, u185, u186, u187, u188, u189, u190, u191, u192, u193, u194, u195, u196, u197, u198, u199, u200, u201, u202, u203, u204, u205, u206, u207, u208, u209, u210, u211, u212, u213, u214, u215, u216, u217, u218, u219, u220, u221, u222, u223, u224, u225, u226, u227], []⟩ W')) :
    Code.wp Tryz.prog (gcReg 23) (Exit.then K Q) ⟨#[u0, u1, u2, u3, .slice ka kn kc, u5, u6, u7, u8, u9, u10, u11, u12, u13, u14, u15, u16, u17, u18, .pointer (some ⟨b19, 0, none⟩), u20, u21, u22, u23, u24, u25, u26, u27, u28, u29, u30, u31, u32, u33, u34, u35, u36, u37, u38, u39, u40, u41, u42, u43, u44, u45, u46, u47, u48, u49, u50, u51, u52, u53, u54, u55, u56, u57, u58, u59, u60, u61, u62, u63, u64, u65, u66, u67, u68, u69, u70, u71, u72, u73, u74, u75, u76, u77, u78, u79, u80, u81, u82, u83, u84, u85, u86, u87, u88, u89, u90, u91, u92, u93, u94, u95, u96, u97, u98, u99, u100, u101, u102, u103, u104, u105, u106, u107, u108, u109, u110, u111, u112, u113, u114, u115, u116, u117, u118, u119, u120, u121, u122, u123, u124, u125, u126, u127, u128, u129, u130, u131, u132, u133, u134, u135, u136, u137, u138, u139, u140, u141, u142, u143, u144, u145, u146, u147, u148, u149, u150, u151, u152, u153, u154, u155, u156, u157, u158, u159, u160, u161, u162, u163, u164, u165, u166, u167, u168, u169, u170, u171, u172, u173, u174, u175, u176, u177, u178, u179, u180, u181, u182, u183, u184, u185, u186, u187, u188, u189, u190, u191, u192, u193, u194, u195, u196, u197, u198, u199, u200, u201, u202, u203, u204, u205, u206, u207, u208, u209, u210, u211, u212, u213, u214, u215, u216, u217, u218, u219, u220, u221, u222, u223, u224, u225, u226, u227], []⟩ W := by
  conv => arg 2; whnf
  have x0 := X19.out.gen.n0
  have x1 := X19.out.gen.n1
  have x2 := X19.out.gen.n2
  have x3 := X19.out.gen.n3
  have x4 := X19.out.gen.c0
  have x5 := X19.out.gen.c1
  have x6 := X19.out.gen.c2
  have x7 := X19.out.gen.c3
  have x8 := X19.out.gen.c4
  have x9 := X19.out.gen.c5
  have x10 := X19.out.gen.c6
  have x11 := X19.out.gen.c7
  have x12 := X19.out.gen.cl
  have x13 := X19.out.gen.cg
  go_wp2_with fail
  refine (HCr.out W HBj.out).mono ?_
  rintro e p2 ⟨⟨s28, rfl, hr⟩, hb⟩
  clear x0 x1 x2 x3 x4 x5 x6 x7 x8 x9 x10 x11 x12 x13
  replace X19 := Lib.hid (X19.out.below hb)
  replace X26 := Lib.hid (X26.out.below hb)
  replace R26 := Lib.hid (R26.out.below hb)
  replace HBj := Lib.hid (bstep HBj.out hb)
  clear hb HCr
  have h26 := X26.out.lt
  have hba := below_gen p2 tn tr tm tz s28 tL tG 27
  have X28 := Lib.hid (BlkW.new p2 (genC tn tr tm tz s28 tL tG) 27)
  have R28 := Lib.hid (hr.below hba)
  replace X19 := Lib.hid (X19.out.below hba)
  replace X26 := Lib.hid (X26.out.below hba)
  replace R26 := Lib.hid (R26.out.below hba)
  replace HBj := Lib.hid (bstep HBj.out hba)
  clear hr hba
  go_wp2_with fail
  exact HK.out _ _ _ _ _ _ p2.heap.size s28 _ h26 X19 X26 X28 R26 R28 HBj
set_option maxRecDepth 100000 in
set_option maxHeartbeats 16000000 in
theorem gc24 {u0 u1 u2 u3 u4 u5 u6 u7 u8 u9 u10 u11 u12 u13 u14 u15 u16 u17 u18 u19 u20 u21 u22 u23 u24 u25 u30 u31 u32 u33 u34 u35 u36 u37 u38 u39 u40 u41 u42 u43 u44 u45 u46 u47 u48 u49 u50 u51 u52 u53 u54 u55 u56 u57 u58 u59 u60 u61 u62 u63 u64 u65 u66 u67 u68 u69 u70 u71 u72 u73 u74 u75 u76 u77 u78 u79 u80 u81 u82 u83 u84 u85 u86 u87 u88 u89 u90 u91 u92 u93 u94 u95 u96 u97 u98 u99 u100 u101 u102 u103 u104 u105 u106 u107 u108 u109 u110 u111 u112 u113 u114 u115 u116 u117 u118 u119 u120 u121 u122 u123 u124 u125 u126 u127 u128 u129 u130 u131 u132 u133 u134 u135 u136 u137 u138 u139 u140 u141 u142 u143 u144 u145 u146 u147 u148 u149 u150 u151 u152 u153 u154 u155 u156 u157 u158 u159 u160 u161 u162 u163 u164 u165 u166 u167 u168 u169 u170 u171 u172 u173 u174 u175 u176 u177 u178 u179 u180 u181 u182 u183 u184 u185 u186 u187 u188 u189 u190 u191 u192 u193 u194 u195 u196 u197 u198 u199 u200 u201 u202 u203 u204 u205 u206 u207 u208 u209 u210 u211 u212 u213 u214 u215 u216 u217 u218 u219 u220 u221 u222 u223 u224 u225 u226 u227 : Value} {K : Act → World → Prop} {Q : Exit → Act → World → Prop} {w6 W : World} {b19 b26 b28 : Nat} {xn xr xm xz xL xG : Int} {sX : Sl} {er tn tr tm tz tL tG : Int} {tf : Nat → List It} {s26 s28 : Sl}
    (HTo : Hid (∀ (a b c d : Int) (s : Sl) (L G : Int) (W : World), Calls Tryz.prog 12 #[genV a b c d s L G] W fun e w' => e = .returned (genV a b c d s L G) ∧ Below W.heap.size W w'))
    (HSa : Hid (∀ (g : Gn) (s t : Sl) (W : World), RdM W s g.m.st → RdM W t g.m.st → Calls Tryz.prog 11 #[genV g.num g.rev g.mode g.size s g.m.live g.m.garb, genV g.num g.rev g.mode g.size t g.m.live g.m.garb] W fun e w' => e = .returned (.bool true) ∧ Below W.heap.size W w'))
    (X19 : Hid (BlkW W b19 (genC xn xr xm xz sX xL xG) 27)) (X26 : Hid (BlkW W b26 (genC tn tr tm tz s26 tL tG) 43)) (X28 : Hid (BlkW W b28 (genC tn tr tm tz s28 tL tG) 27)) (R26 : Hid (RdM W s26 tf)) (R28 : Hid (RdM W s28 tf)) (HBj : Hid (Below w6.heap.size w6 W))
    (HK : Hid (∀ (v119 v120 v121 v122 v123 v124 v125 v126 v127 : Value) (W' : World), Hid (BlkW W' b19 (genC xn xr xm xz sX xL xG) 27) → Hid (BlkW W' b26 (genC tn tr tm tz s26 tL tG) 43) → Hid (BlkW W' b28 (genC tn tr tm tz s28 tL tG) 27) → Hid (Below w6.heap.size w6 W') → K ⟨#[u0, u1, u2, u3, u4, u5, u6, u7, u8, u9, u10, u11, u12, u13, u14, u15, u16, u17, u18, u19, u20, u21, u22, u23, u24, u25, .pointer (some ⟨b26, 0, none⟩), .int .i64 er, .pointer (some ⟨b28, 0, none⟩), .int .i64 er, u30, u31, u32, u33, u34, u35, u36, u37, u38, u39, u40, u41, u42, u43, u44, u45, u46, u47, u48, u49, u50, u51, u52, u53, u54, u55, u56, u57, u58, u59, u60, u61, u62, u63, u64, u65, u66, u67, u68, u69, u70, u71, u72, u73, u74, u75, u76, u77, u78, u79, u80, u81, u82, u83, u84, u85, u86, u87, u88, u89, u90, u91, u92, u93, u94, u95, u96, u97, u98, u99, u100, u101, u102, u103, u104, u105, u106, u107, u108, u109, u110, u111, u112, u113, u114, u115, u116, u117, u118, v119, v120, v121, v122, v123, v124, v125, v126, v127, .bool false, u129, u130, u131, u132, u133, u134, u135, u136, u137, u138, u139, u140, u141, u142, u143, u144, u145, u146, u147, u148, u149, u150, u151, u152, u153, u154, u155, u156, u157, u158, u159, u160, u161, u162, u163, u164, u165, u166, u167, u168, u169, u170, u171, u172, u173, u174, u175, u176, u177, u178, u179, u180, u181, u182, u183, u184, u185, u186, u187, u188, u189, u190, u191, u192, u193, u194, u195, u196, u197, u198, u199, u200, u201, u202, u203, u204, u205, u206, u207, u208, u209, u210, u211, u212, u213, u214, u215, u216, u217, u218, u219, u220, u221, u222, u223, u224, u225, u226, u227], []⟩ W')) :
    Code.wp Tryz.prog (gcReg 24) (Exit.then K Q) ⟨#[u0, u1, u2, u3, u4, u5, u6, u7, u8, u9, u10, u11, u12, u13, u14, u15, u16, u17, u18, u19, u20, u21, u22, u23, u24, u25, .pointer (some ⟨b26, 0, none⟩), .int .i64 er, .pointer (some ⟨b28, 0, none⟩), .int .i64 er, u30, u31, u32, u33, u34, u35, u36, u37, u38, u39, u40, u41, u42, u43, u44, u45, u46, u47, u48, u49, u50, u51, u52, u53, u54, u55, u56, u57, u58, u59, u60, u61, u62, u63, u64, u65, u66, u67, u68, u69, u70, u71, u72, u73, u74, u75, u76, u77, u78, u79, u80, u81, u82, u83, u84, u85, u86, u87, u88, u89, u90, u91, u92, u93, u94, u95, u96, u97, u98, u99, u100, u101, u102, u103, u104, u105, u106, u107, u108, u109, u110, u111, u112, u113, u114, u115, u116, u117, u118, u119, u120, u121, u122, u123, u124, u125, u126, u127, u128, u129, u130, u131, u132, u133, u134, u135, u136, u137, u138, u139, u140, u141, u142, u143, u144, u145, u146, u147, u148, u149, u150, u151, u152, u153, u154, u155, u156, u157, u158, u159, u160, u161, u162, u163, u164, u165, u166, u167, u168, u169, u170, u171, u172, u173, u174, u175, u176, u177, u178, u179, u180, u181, u182, u183, u184, u185, u186, u187, u188, u189, u190, u191, u192, u193, u194, u195, u196, u197, u198, u199, u200, u201, u202, u203, u204, u205, u206, u207, u208, u209, u210, u211, u212, u213, u214, u215, u216, u217, u218, u219, u220, u221, u222, u223, u224, u225, u226, u227], []⟩ W := by
  conv => arg 2; whnf
  have c0 := cell_by X26.out.gen.n0
  have c1 := cell_by X26.out.gen.n1
  have c2 := cell_by X26.out.gen.n2
  have c3 := cell_by X26.out.gen.n3
  have c4 := cell_by X26.out.gen.c0
  have c5 := cell_by X26.out.gen.c1
  have c6 := cell_by X26.out.gen.c2
  have c7 := cell_by X26.out.gen.c3
  have c8 := cell_by X26.out.gen.c4
  have c9 := cell_by X26.out.gen.c5
  have c10 := cell_by X26.out.gen.c6
  have c11 := cell_by X26.out.gen.c7
  have c12 := cell_by X26.out.gen.cl
  have c13 := cell_by X26.out.gen.cg
  have d0 := cell_by X28.out.gen.n0
  have d1 := cell_by X28.out.gen.n1
  have d2 := cell_by X28.out.gen.n2
  have d3 := cell_by X28.out.gen.n3
  have d4 := cell_by X28.out.gen.c0
  have d5 := cell_by X28.out.gen.c1
  have d6 := cell_by X28.out.gen.c2
  have d7 := cell_by X28.out.gen.c3
  have d8 := cell_by X28.out.gen.c4
  have d9 := cell_by X28.out.gen.c5
  have d10 := cell_by X28.out.gen.c6
  have d11 := cell_by X28.out.gen.c7
  have d12 := cell_by X28.out.gen.cl
  have d13 := cell_by X28.out.gen.cg
  have C1 := Lib.hid (fun u : BelowBy W => HTo.out tn tr tm tz s26 tL tG u.w')
  have C2 := Lib.hid (show ∀ u : BelowBy W, Calls Tryz.prog 11 #[genV tn tr tm tz s26 tL tG, genV tn tr tm tz s28 tL tG] u.w' (fun e w' => e = .returned (.bool true) ∧ Below u.w'.heap.size u.w' w') from fun u => HSa.out ⟨tn, tr, tm, tz, ⟨tf, tL, tG⟩⟩ s26 s28 u.w' (R26.out.below u.h) (R28.out.below u.h))
  go_wp2_with fail
  refine wp_region_below (by kernel_rfl) (by kernel_rfl) ?_
  repeat (go_big_quiet_step (first | with_reducible exact calls_by (C1.out _) | with_reducible exact calls_by (C2.out _)))
  refine wpQuiet_nil ?_
  intro _ hw'
  obtain ⟨u, hw'⟩ := hw'
  subst hw'
  clear C1 C2 c0 d0 c1 d1 c2 d2 c3 d3 c4 d4 c5 d5 c6 d6 c7 d7 c8 d8 c9 d9 c10 d10 c11 d11 c12 d12 c13 d13
  replace X19 := Lib.hid (X19.out.below u.h)
  replace X26 := Lib.hid (X26.out.below u.h)
  replace X28 := Lib.hid (X28.out.below u.h)
  replace HBj := Lib.hid (bstep HBj.out u.h)
  generalize u.w' = W9 at *
  go_wp2_with fail
  exact HK.out _ _ _ _ _ _ _ _ _ _ X19 X26 X28 HBj
set_option maxRecDepth 100000 in
set_option maxHeartbeats 16000000 in
theorem gc28 {u0 u1 u2 u3 u4 u5 u6 u7 u8 u9 u10 u11 u12 u13 u14 u15 u16 u17 u18 u19 u20 u21 u22 u23 u24 u25 u30 u31 u32 u33 u34 u35 u36 u37 u38 u39 u40 u41 u42 u43 u44 u45 u46 u47 u48 u49 u50 u51 u52 u53 u54 u55 u56 u57 u58 u59 u60 u61 u62 u63 u64 u65 u66 u67 u68 u69 u70 u71 u72 u73 u74 u75 u76 u77 u78 u79 u80 u81 u82 u83 u84 u85 u86 u87 u88 u89 u90 u91 u92 u93 u94 u95 u96 u97 u98 u99 u100 u101 u102 u103 u104 u105 u106 u107 u108 u109 u110 u111 u112 u113 u114 u115 u116 u117 u118 u119 u120 u121 u122 u123 u124 u125 u126 u127 u128 u129 u130 u131 u132 u133 u134 u135 u136 u137 u138 u139 u140 u141 u142 u143 u144 u145 u146 u147 u148 u149 u150 u151 u152 u153 u154 u155 u156 u157 u158 u159 u160 u161 u162 u163 u164 u165 u166 u167 u168 u169 u170 u171 u172 u173 u174 u175 u176 u177 u178 u179 u180 u181 u182 u183 u184 u185 u186 u187 u188 u189 u190 u191 u192 u193 u194 u195 u196 u197 u198 u199 u200 u201 u202 u203 u204 u205 u206 u207 u208 u209 u210 u211 u212 u213 u214 u215 u216 u217 u218 u219 u220 u221 u222 u223 u224 u225 u226 u227 : Value} {K : Act → World → Prop} {Q : Exit → Act → World → Prop} {w6 W : World} {b19 b26 b28 : Nat} {xn xr xm xz xL xG : Int} {sX : Sl} {er tn tr tm tz tL tG : Int} {tf : Nat → List It} {s26 s28 : Sl}
    (HTo : Hid (∀ (a b c d : Int) (s : Sl) (L G : Int) (W : World), Calls Tryz.prog 12 #[genV a b c d s L G] W fun e w' => e = .returned (genV a b c d s L G) ∧ Below W.heap.size W w'))
    (HSa : Hid (∀ (g : Gn) (s t : Sl) (W : World), RdM W s g.m.st → RdM W t g.m.st → Calls Tryz.prog 11 #[genV g.num g.rev g.mode g.size s g.m.live g.m.garb, genV g.num g.rev g.mode g.size t g.m.live g.m.garb] W fun e w' => e = .returned (.bool true) ∧ Below W.heap.size W w'))
    (X19 : Hid (BlkW W b19 (genC xn xr xm xz sX xL xG) 27)) (X26 : Hid (BlkW W b26 (genC tn tr tm tz s26 tL tG) 43)) (X28 : Hid (BlkW W b28 (genC tn tr tm tz s28 tL tG) 27)) (R26 : Hid (RdM W s26 tf)) (R28 : Hid (RdM W s28 tf)) (HBj : Hid (Below w6.heap.size w6 W))
    (HK : Hid (∀ (v140 v141 v142 v143 v144 v145 v146 v147 v148 : Value) (W' : World), Hid (BlkW W' b19 (genC xn xr xm xz sX xL xG) 27) → Hid (BlkW W' b26 (genC tn tr tm tz s26 tL tG) 43) → Hid (BlkW W' b28 (genC tn tr tm tz s28 tL tG) 27) → Hid (Below w6.heap.size w6 W') → K ⟨#[u0, u1, u2, u3, u4, u5, u6, u7, u8, u9, u10, u11, u12, u13, u14, u15, u16, u17, u18, u19, u20, u21, u22, u23, u24, u25, .pointer (some ⟨b26, 0, none⟩), .int .i64 er, .pointer (some ⟨b28, 0, none⟩), .int .i64 er, u30, u31, u32, u33, u34, u35, u36, u37, u38, u39, u40, u41, u42, u43, u44, u45, u46, u47, u48, u49, u50, u51, u52, u53, u54, u55, u56, u57, u58, u59, u60, u61, u62, u63, u64, u65, u66, u67, u68, u69, u70, u71, u72, u73, u74, u75, u76, u77, u78, u79, u80, u81, u82, u83, u84, u85, u86, u87, u88, u89, u90, u91, u92, u93, u94, u95, u96, u97, u98, u99, u100, u101, u102, u103, u104, u105, u106, u107, u108, u109, u110, u111, u112, u113, u114, u115, u116, u117, u118, u119, u120, u121, u122, u123, u124, u125, u126, u127, u128, u129, u130, u131, u132, u133, u134, u135, u136, u137, u138, u139, v140, v141, v142, v143, v144, v145, v146, v147, v148, .bool false, u150, u151, u152, u153, u154, u155, u156, u157, u158, u159, u160, u161, u162, u163, u164, u165, u166, u167, u168, u169, u170, u171, u172, u173, u174, u175, u176, u177, u178, u179, u180, u181, u182, u183, u184, u185, u186, u187, u188, u189, u190, u191, u192, u193, u194, u195, u196, u197, u198, u199, u200, u201, u202, u203, u204, u205, u206, u207, u208, u209, u210, u211, u212, u213, u214, u215, u216, u217, u218, u219, u220, u221, u222, u223, u224, u225, u226, u227], []⟩ W')) :
    Code.wp Tryz.prog (gcReg 28) (Exit.then K Q) ⟨#[u0, u1, u2, u3, u4, u5, u6, u7, u8, u9, u10, u11, u12, u13, u14, u15, u16, u17, u18, u19, u20, u21, u22, u23, u24, u25, .pointer (some ⟨b26, 0, none⟩), .int .i64 er, .pointer (some ⟨b28, 0, none⟩), .int .i64 er, u30, u31, u32, u33, u34, u35, u36, u37, u38, u39, u40, u41, u42, u43, u44, u45, u46, u47, u48, u49, u50, u51, u52, u53, u54, u55, u56, u57, u58, u59, u60, u61, u62, u63, u64, u65, u66, u67, u68, u69, u70, u71, u72, u73, u74, u75, u76, u77, u78, u79, u80, u81, u82, u83, u84, u85, u86, u87, u88, u89, u90, u91, u92, u93, u94, u95, u96, u97, u98, u99, u100, u101, u102, u103, u104, u105, u106, u107, u108, u109, u110, u111, u112, u113, u114, u115, u116, u117, u118, u119, u120, u121, u122, u123, u124, u125, u126, u127, u128, u129, u130, u131, u132, u133, u134, u135, u136, u137, u138, u139, u140, u141, u142, u143, u144, u145, u146, u147, u148, u149, u150, u151, u152, u153, u154, u155, u156, u157, u158, u159, u160, u161, u162, u163, u164, u165, u166, u167, u168, u169, u170, u171, u172, u173, u174, u175, u176, u177, u178, u179, u180, u181, u182, u183, u184, u185, u186, u187, u188, u189, u190, u191, u192, u193, u194, u195, u196, u197, u198, u199, u200, u201, u202, u203, u204, u205, u206, u207, u208, u209, u210, u211, u212, u213, u214, u215, u216, u217, u218, u219, u220, u221, u222, u223, u224, u225, u226, u227], []⟩ W := by
  conv => arg 2; whnf
  have c0 := cell_by X26.out.gen.n0
  have c1 := cell_by X26.out.gen.n1
  have c2 := cell_by X26.out.gen.n2
  have c3 := cell_by X26.out.gen.n3
  have c4 := cell_by X26.out.gen.c0
  have c5 := cell_by X26.out.gen.c1
  have c6 := cell_by X26.out.gen.c2
  have c7 := cell_by X26.out.gen.c3
  have c8 := cell_by X26.out.gen.c4
  have c9 := cell_by X26.out.gen.c5
  have c10 := cell_by X26.out.gen.c6
  have c11 := cell_by X26.out.gen.c7
  have c12 := cell_by X26.out.gen.cl
  have c13 := cell_by X26.out.gen.cg
  have d0 := cell_by X28.out.gen.n0
  have d1 := cell_by X28.out.gen.n1
  have d2 := cell_by X28.out.gen.n2
  have d3 := cell_by X28.out.gen.n3
  have d4 := cell_by X28.out.gen.c0
  have d5 := cell_by X28.out.gen.c1
  have d6 := cell_by X28.out.gen.c2
  have d7 := cell_by X28.out.gen.c3
  have d8 := cell_by X28.out.gen.c4
  have d9 := cell_by X28.out.gen.c5
  have d10 := cell_by X28.out.gen.c6
  have d11 := cell_by X28.out.gen.c7
  have d12 := cell_by X28.out.gen.cl
  have d13 := cell_by X28.out.gen.cg
  have C1 := Lib.hid (fun u : BelowBy W => HTo.out tn tr tm tz s26 tL tG u.w')
  have C2 := Lib.hid (show ∀ u : BelowBy W, Calls Tryz.prog 11 #[genV tn tr tm tz s26 tL tG, genV tn tr tm tz s28 tL tG] u.w' (fun e w' => e = .returned (.bool true) ∧ Below u.w'.heap.size u.w' w') from fun u => HSa.out ⟨tn, tr, tm, tz, ⟨tf, tL, tG⟩⟩ s26 s28 u.w' (R26.out.below u.h) (R28.out.below u.h))
  go_wp2_with fail
  refine wp_region_below (by kernel_rfl) (by kernel_rfl) ?_
  repeat (go_big_quiet_step (first | with_reducible exact calls_by (C1.out _) | with_reducible exact calls_by (C2.out _)))
  refine wpQuiet_nil ?_
  intro _ hw'
  obtain ⟨u, hw'⟩ := hw'
  subst hw'
  clear C1 C2 c0 d0 c1 d1 c2 d2 c3 d3 c4 d4 c5 d5 c6 d6 c7 d7 c8 d8 c9 d9 c10 d10 c11 d11 c12 d12 c13 d13
  replace X19 := Lib.hid (X19.out.below u.h)
  replace X26 := Lib.hid (X26.out.below u.h)
  replace X28 := Lib.hid (X28.out.below u.h)
  replace HBj := Lib.hid (bstep HBj.out u.h)
  generalize u.w' = W9 at *
  go_wp2_with fail
  exact HK.out _ _ _ _ _ _ _ _ _ _ X19 X26 X28 HBj
set_option maxRecDepth 100000 in
set_option maxHeartbeats 16000000 in
theorem gc32 {u0 u1 u2 u3 u4 u5 u6 u7 u8 u9 u10 u11 u12 u13 u14 u15 u16 u17 u18 u19 u20 u21 u22 u23 u24 u25 u30 u31 u32 u33 u34 u35 u36 u37 u38 u39 u40 u41 u42 u43 u44 u45 u46 u47 u48 u49 u50 u51 u52 u53 u54 u55 u56 u57 u58 u59 u60 u61 u62 u63 u64 u65 u66 u67 u68 u69 u70 u71 u72 u73 u74 u75 u76 u77 u78 u79 u80 u81 u82 u83 u84 u85 u86 u87 u88 u89 u90 u91 u92 u93 u94 u95 u96 u97 u98 u99 u100 u101 u102 u103 u104 u105 u106 u107 u108 u109 u110 u111 u112 u113 u114 u115 u116 u117 u118 u119 u120 u121 u122 u123 u124 u125 u126 u127 u128 u129 u130 u131 u132 u133 u134 u135 u136 u137 u138 u139 u140 u141 u142 u143 u144 u145 u146 u147 u148 u149 u150 u151 u152 u153 u154 u155 u156 u157 u158 u159 u160 u161 u162 u163 u164 u165 u166 u167 u168 u169 u170 u171 u172 u173 u174 u175 u176 u177 u178 u179 u180 u181 u182 u183 u184 u185 u186 u187 u188 u189 u190 u191 u192 u193 u194 u195 u196 u197 u198 u199 u200 u201 u202 u203 u204 u205 u206 u207 u208 u209 u210 u211 u212 u213 u214 u215 u216 u217 u218 u219 u220 u221 u222 u223 u224 u225 u226 u227 : Value} {K : Act → World → Prop} {Q : Exit → Act → World → Prop} {w6 W : World} {b19 b26 b28 : Nat} {xn xr xm xz xL xG : Int} {sX : Sl} {er tn tr tm tz tL tG : Int} {tf : Nat → List It} {s26 s28 : Sl}
    (HTo : Hid (∀ (a b c d : Int) (s : Sl) (L G : Int) (W : World), Calls Tryz.prog 12 #[genV a b c d s L G] W fun e w' => e = .returned (genV a b c d s L G) ∧ Below W.heap.size W w'))
    (HSa : Hid (∀ (g : Gn) (s t : Sl) (W : World), RdM W s g.m.st → RdM W t g.m.st → Calls Tryz.prog 11 #[genV g.num g.rev g.mode g.size s g.m.live g.m.garb, genV g.num g.rev g.mode g.size t g.m.live g.m.garb] W fun e w' => e = .returned (.bool true) ∧ Below W.heap.size W w'))
    (X19 : Hid (BlkW W b19 (genC xn xr xm xz sX xL xG) 27)) (X26 : Hid (BlkW W b26 (genC tn tr tm tz s26 tL tG) 43)) (X28 : Hid (BlkW W b28 (genC tn tr tm tz s28 tL tG) 27)) (R26 : Hid (RdM W s26 tf)) (R28 : Hid (RdM W s28 tf)) (HBj : Hid (Below w6.heap.size w6 W))
    (HK : Hid (∀ (v161 v162 v163 v164 v165 v166 v167 v168 v169 : Value) (W' : World), Hid (BlkW W' b19 (genC xn xr xm xz sX xL xG) 27) → Hid (BlkW W' b26 (genC tn tr tm tz s26 tL tG) 43) → Hid (BlkW W' b28 (genC tn tr tm tz s28 tL tG) 27) → Hid (Below w6.heap.size w6 W') → K ⟨#[u0, u1, u2, u3, u4, u5, u6, u7, u8, u9, u10, u11, u12, u13, u14, u15, u16, u17, u18, u19, u20, u21, u22, u23, u24, u25, .pointer (some ⟨b26, 0, none⟩), .int .i64 er, .pointer (some ⟨b28, 0, none⟩), .int .i64 er, u30, u31, u32, u33, u34, u35, u36, u37, u38, u39, u40, u41, u42, u43, u44, u45, u46, u47, u48, u49, u50, u51, u52, u53, u54, u55, u56, u57, u58, u59, u60, u61, u62, u63, u64, u65, u66, u67, u68, u69, u70, u71, u72, u73, u74, u75, u76, u77, u78, u79, u80, u81, u82, u83, u84, u85, u86, u87, u88, u89, u90, u91, u92, u93, u94, u95, u96, u97, u98, u99, u100, u101, u102, u103, u104, u105, u106, u107, u108, u109, u110, u111, u112, u113, u114, u115, u116, u117, u118, u119, u120, u121, u122, u123, u124, u125, u126, u127, u128, u129, u130, u131, u132, u133, u134, u135, u136, u137, u138, u139, u140, u141, u142, u143, u144, u145, u146, u147, u148, u149, u150, u151, u152, u153, u154, u155, u156, u157, u158, u159, u160, v161, v162, v163, v164, v165, v166, v167, v168, v169, .bool false, u171, u172, u173, u174, u175, u176, u177, u178, u179, u180, u181, u182, u183, u184, u185, u186, u187, u188, u189, u190, u191, u192, u193, u194, u195, u196, u197, u198, u199, u200, u201, u202, u203, u204, u205, u206, u207, u208, u209, u210, u211, u212, u213, u214, u215, u216, u217, u218, u219, u220, u221, u222, u223, u224, u225, u226, u227], []⟩ W')) :
    Code.wp Tryz.prog (gcReg 32) (Exit.then K Q) ⟨#[u0, u1, u2, u3, u4, u5, u6, u7, u8, u9, u10, u11, u12, u13, u14, u15, u16, u17, u18, u19, u20, u21, u22, u23, u24, u25, .pointer (some ⟨b26, 0, none⟩), .int .i64 er, .pointer (some ⟨b28, 0, none⟩), .int .i64 er, u30, u31, u32, u33, u34, u35, u36, u37, u38, u39, u40, u41, u42, u43, u44, u45, u46, u47, u48, u49, u50, u51, u52, u53, u54, u55, u56, u57, u58, u59, u60, u61, u62, u63, u64, u65, u66, u67, u68, u69, u70, u71, u72, u73, u74, u75, u76, u77, u78, u79, u80, u81, u82, u83, u84, u85, u86, u87, u88, u89, u90, u91, u92, u93, u94, u95, u96, u97, u98, u99, u100, u101, u102, u103, u104, u105, u106, u107, u108, u109, u110, u111, u112, u113, u114, u115, u116, u117, u118, u119, u120, u121, u122, u123, u124, u125, u126, u127, u128, u129, u130, u131, u132, u133, u134, u135, u136, u137, u138, u139, u140, u141, u142, u143, u144, u145, u146, u147, u148, u149, u150, u151, u152, u153, u154, u155, u156, u157, u158, u159, u160, u161, u162, u163, u164, u165, u166, u167, u168, u169, u170, u171, u172, u173, u174, u175, u176, u177, u178, u179, u180, u181, u182, u183, u184, u185, u186, u187, u188, u189, u190, u191, u192, u193, u194, u195, u196, u197, u198, u199, u200, u201, u202, u203, u204, u205, u206, u207, u208, u209, u210, u211, u212, u213, u214, u215, u216, u217, u218, u219, u220, u221, u222, u223, u224, u225, u226, u227], []⟩ W := by
  conv => arg 2; whnf
  have c0 := cell_by X26.out.gen.n0
  have c1 := cell_by X26.out.gen.n1
  have c2 := cell_by X26.out.gen.n2
  have c3 := cell_by X26.out.gen.n3
  have c4 := cell_by X26.out.gen.c0
  have c5 := cell_by X26.out.gen.c1
  have c6 := cell_by X26.out.gen.c2
  have c7 := cell_by X26.out.gen.c3
  have c8 := cell_by X26.out.gen.c4
  have c9 := cell_by X26.out.gen.c5
  have c10 := cell_by X26.out.gen.c6
  have c11 := cell_by X26.out.gen.c7
  have c12 := cell_by X26.out.gen.cl
  have c13 := cell_by X26.out.gen.cg
  have d0 := cell_by X28.out.gen.n0
  have d1 := cell_by X28.out.gen.n1
  have d2 := cell_by X28.out.gen.n2
  have d3 := cell_by X28.out.gen.n3
  have d4 := cell_by X28.out.gen.c0
  have d5 := cell_by X28.out.gen.c1
  have d6 := cell_by X28.out.gen.c2
  have d7 := cell_by X28.out.gen.c3
  have d8 := cell_by X28.out.gen.c4
  have d9 := cell_by X28.out.gen.c5
  have d10 := cell_by X28.out.gen.c6
  have d11 := cell_by X28.out.gen.c7
  have d12 := cell_by X28.out.gen.cl
  have d13 := cell_by X28.out.gen.cg
  have C1 := Lib.hid (fun u : BelowBy W => HTo.out tn tr tm tz s26 tL tG u.w')
  have C2 := Lib.hid (show ∀ u : BelowBy W, Calls Tryz.prog 11 #[genV tn tr tm tz s26 tL tG, genV tn tr tm tz s28 tL tG] u.w' (fun e w' => e = .returned (.bool true) ∧ Below u.w'.heap.size u.w' w') from fun u => HSa.out ⟨tn, tr, tm, tz, ⟨tf, tL, tG⟩⟩ s26 s28 u.w' (R26.out.below u.h) (R28.out.below u.h))
  go_wp2_with fail
  refine wp_region_below (by kernel_rfl) (by kernel_rfl) ?_
  repeat (go_big_quiet_step (first | with_reducible exact calls_by (C1.out _) | with_reducible exact calls_by (C2.out _)))
  refine wpQuiet_nil ?_
  intro _ hw'
  obtain ⟨u, hw'⟩ := hw'
  subst hw'
  clear C1 C2 c0 d0 c1 d1 c2 d2 c3 d3 c4 d4 c5 d5 c6 d6 c7 d7 c8 d8 c9 d9 c10 d10 c11 d11 c12 d12 c13 d13
  replace X19 := Lib.hid (X19.out.below u.h)
  replace X26 := Lib.hid (X26.out.below u.h)
  replace X28 := Lib.hid (X28.out.below u.h)
  replace HBj := Lib.hid (bstep HBj.out u.h)
  generalize u.w' = W9 at *
  go_wp2_with fail
  exact HK.out _ _ _ _ _ _ _ _ _ _ X19 X26 X28 HBj
set_option maxRecDepth 100000 in
set_option maxHeartbeats 16000000 in
theorem gc39 {u0 u1 u2 u3 u4 u5 u6 u7 u8 u9 u10 u11 u12 u13 u14 u15 u16 u17 u18 u19 u20 u21 u22 u23 u24 u25 u30 u31 u32 u33 u34 u35 u36 u37 u38 u39 u40 u41 u42 u43 u44 u45 u46 u47 u48 u49 u50 u51 u52 u53 u54 u55 u56 u57 u58 u59 u60 u61 u62 u63 u64 u65 u66 u67 u68 u69 u70 u71 u72 u73 u74 u75 u76 u77 u78 u79 u80 u81 u82 u83 u84 u85 u86 u87 u88 u89 u90 u91 u92 u93 u94 u95 u96 u97 u98 u99 u100 u101 u102 u103 u104 u105 u106 u107 u108 u109 u110 u111 u112 u113 u114 u115 u116 u117 u118 u119 u120 u121 u122 u123 u124 u125 u126 u127 u128 u129 u130 u131 u132 u133 u134 u135 u136 u137 u138 u139 u140 u141 u142 u143 u144 u145 u146 u147 u148 u149 u150 u151 u152 u153 u154 u155 u156 u157 u158 u159 u160 u161 u162 u163 u164 u165 u166 u167 u168 u169 u170 u171 u172 u173 u174 u175 u176 u177 u178 u179 u180 u181 u182 u183 u184 u185 u186 u187 u188 u189 u190 u191 u192 u193 u194 u195 u196 u197 u198 u199 u200 u201 u202 u203 u204 u205 u206 u207 u208 u209 u210 u211 u212 u213 u214 u215 u216 u217 u218 u219 u220 u221 u222 u223 u224 u225 u226 u227 : Value} {K : Act → World → Prop} {Q : Exit → Act → World → Prop} {w6 W : World} {b19 b26 b28 : Nat} {xn xr xm xz xL xG : Int} {sX : Sl} {er tn tr tm tz tL tG : Int} {tf : Nat → List It} {s26 s28 : Sl} {b185 : Nat}
    (Row : Hid (Row3 W b185))
    (HTo : Hid (∀ (a b c d : Int) (s : Sl) (L G : Int) (W : World), Calls Tryz.prog 12 #[genV a b c d s L G] W fun e w' => e = .returned (genV a b c d s L G) ∧ Below W.heap.size W w'))
    (HSa : Hid (∀ (g : Gn) (s t : Sl) (W : World), RdM W s g.m.st → RdM W t g.m.st → Calls Tryz.prog 11 #[genV g.num g.rev g.mode g.size s g.m.live g.m.garb, genV g.num g.rev g.mode g.size t g.m.live g.m.garb] W fun e w' => e = .returned (.bool true) ∧ Below W.heap.size W w'))
    (X19 : Hid (BlkW W b19 (genC xn xr xm xz sX xL xG) 27)) (X26 : Hid (BlkW W b26 (genC tn tr tm tz s26 tL tG) 43)) (X28 : Hid (BlkW W b28 (genC tn tr tm tz s28 tL tG) 27)) (R26 : Hid (RdM W s26 tf)) (R28 : Hid (RdM W s28 tf)) (HBj : Hid (Below w6.heap.size w6 W))
    (HK : Hid (∀ (v215 v216 v217 v218 v219 v220 v221 v222 v223 : Value) (W' : World), Hid (Row3 W' b185) → Hid (BlkW W' b19 (genC xn xr xm xz sX xL xG) 27) → Hid (BlkW W' b26 (genC tn tr tm tz s26 tL tG) 43) → Hid (BlkW W' b28 (genC tn tr tm tz s28 tL tG) 27) → Hid (Below w6.heap.size w6 W') → K ⟨#[u0, u1, u2, u3, u4, u5, u6, u7, u8, u9, u10, u11, u12, u13, u14, u15, u16, u17, u18, u19, u20, u21, u22, u23, u24, u25, .pointer (some ⟨b26, 0, none⟩), .int .i64 er, .pointer (some ⟨b28, 0, none⟩), .int .i64 er, u30, u31, u32, u33, u34, u35, u36, u37, u38, u39, u40, u41, u42, u43, u44, u45, u46, u47, u48, u49, u50, u51, u52, u53, u54, u55, u56, u57, u58, u59, u60, u61, u62, u63, u64, u65, u66, u67, u68, u69, u70, u71, u72, u73, u74, u75, u76, u77, u78, u79, u80, u81, u82, u83, u84, u85, u86, u87, u88, u89, u90, u91, u92, u93, u94, u95, u96, u97, u98, u99, u100, u101, u102, u103, u104, u105, u106, u107, u108, u109, u110, u111, u112, u113, u114, u115, u116, u117, u118, u119, u120, u121, u122, u123, u124, u125, u126, u127, u128, u129, u130, u131, u132, u133, u134, u135, u136, u137, u138, u139, u140, u141, u142, u143, u144, u145, u146, u147, u148, u149, u150, u151, u152, u153, u154, u155, u156, u157, u158, u159, u160, u161, u162, u163, u164, u165, u166, u167, u168, u169, u170, u171, u172, u173, u174, u175, u176, u177, u178, u179, u180, u181, u182, u183, u184, u185, u186, u187, u188, u189, u190, u191, u192, u193, u194, u195, u196, u197, u198, u199, u200, u201, u202, u203, u204, u205, u206, u207, u208, u209, u210, u211, u212, u213, u214, v215, v216, v217, v218, v219, v220, v221, v222, v223, .bool false, u225, u226, u227], []⟩ W')) :
    Code.wp Tryz.prog (gcReg 39) (Exit.then K Q) ⟨#[u0, u1, u2, u3, u4, u5, u6, u7, u8, u9, u10, u11, u12, u13, u14, u15, u16, u17, u18, u19, u20, u21, u22, u23, u24, u25, .pointer (some ⟨b26, 0, none⟩), .int .i64 er, .pointer (some ⟨b28, 0, none⟩), .int .i64 er, u30, u31, u32, u33, u34, u35, u36, u37, u38, u39, u40, u41, u42, u43, u44, u45, u46, u47, u48, u49, u50, u51, u52, u53, u54, u55, u56, u57, u58, u59, u60, u61, u62, u63, u64, u65, u66, u67, u68, u69, u70, u71, u72, u73, u74, u75, u76, u77, u78, u79, u80, u81, u82, u83, u84, u85, u86, u87, u88, u89, u90, u91, u92, u93, u94, u95, u96, u97, u98, u99, u100, u101, u102, u103, u104, u105, u106, u107, u108, u109, u110, u111, u112, u113, u114, u115, u116, u117, u118, u119, u120, u121, u122, u123, u124, u125, u126, u127, u128, u129, u130, u131, u132, u133, u134, u135, u136, u137, u138, u139, u140, u141, u142, u143, u144, u145, u146, u147, u148, u149, u150, u151, u152, u153, u154, u155, u156, u157, u158, u159, u160, u161, u162, u163, u164, u165, u166, u167, u168, u169, u170, u171, u172, u173, u174, u175, u176, u177, u178, u179, u180, u181, u182, u183, u184, u185, u186, u187, u188, u189, u190, u191, u192, u193, u194, u195, u196, u197, u198, u199, u200, u201, u202, u203, u204, u205, u206, u207, u208, u209, u210, u211, u212, u213, u214, u215, u216, u217, u218, u219, u220, u221, u222, u223, u224, u225, u226, u227], []⟩ W := by
  conv => arg 2; whnf
  have c0 := cell_by X26.out.gen.n0
  have c1 := cell_by X26.out.gen.n1
  have c2 := cell_by X26.out.gen.n2
  have c3 := cell_by X26.out.gen.n3
  have c4 := cell_by X26.out.gen.c0
  have c5 := cell_by X26.out.gen.c1
  have c6 := cell_by X26.out.gen.c2
  have c7 := cell_by X26.out.gen.c3
  have c8 := cell_by X26.out.gen.c4
  have c9 := cell_by X26.out.gen.c5
  have c10 := cell_by X26.out.gen.c6
  have c11 := cell_by X26.out.gen.c7
  have c12 := cell_by X26.out.gen.cl
  have c13 := cell_by X26.out.gen.cg
  have d0 := cell_by X28.out.gen.n0
  have d1 := cell_by X28.out.gen.n1
  have d2 := cell_by X28.out.gen.n2
  have d3 := cell_by X28.out.gen.n3
  have d4 := cell_by X28.out.gen.c0
  have d5 := cell_by X28.out.gen.c1
  have d6 := cell_by X28.out.gen.c2
  have d7 := cell_by X28.out.gen.c3
  have d8 := cell_by X28.out.gen.c4
  have d9 := cell_by X28.out.gen.c5
  have d10 := cell_by X28.out.gen.c6
  have d11 := cell_by X28.out.gen.c7
  have d12 := cell_by X28.out.gen.cl
  have d13 := cell_by X28.out.gen.cg
  have C1 := Lib.hid (fun u : BelowBy W => HTo.out tn tr tm tz s26 tL tG u.w')
  have C2 := Lib.hid (show ∀ u : BelowBy W, Calls Tryz.prog 11 #[genV tn tr tm tz s26 tL tG, genV tn tr tm tz s28 tL tG] u.w' (fun e w' => e = .returned (.bool true) ∧ Below u.w'.heap.size u.w' w') from fun u => HSa.out ⟨tn, tr, tm, tz, ⟨tf, tL, tG⟩⟩ s26 s28 u.w' (R26.out.below u.h) (R28.out.below u.h))
  go_wp2_with fail
  refine wp_region_below (by kernel_rfl) (by kernel_rfl) ?_
  repeat (go_big_quiet_step (first | with_reducible exact calls_by (C1.out _) | with_reducible exact calls_by (C2.out _)))
  refine wpQuiet_nil ?_
  intro _ hw'
  obtain ⟨u, hw'⟩ := hw'
  subst hw'
  clear C1 C2 c0 d0 c1 d1 c2 d2 c3 d3 c4 d4 c5 d5 c6 d6 c7 d7 c8 d8 c9 d9 c10 d10 c11 d11 c12 d12 c13 d13
  replace Row := Lib.hid (Row.out.below u.h)
  replace X19 := Lib.hid (X19.out.below u.h)
  replace X26 := Lib.hid (X26.out.below u.h)
  replace X28 := Lib.hid (X28.out.below u.h)
  replace HBj := Lib.hid (bstep HBj.out u.h)
  generalize u.w' = W9 at *
  go_wp2_with fail
  exact HK.out _ _ _ _ _ _ _ _ _ _ Row X19 X26 X28 HBj
set_option maxRecDepth 100000 in
set_option maxHeartbeats 16000000 in
theorem gc26 {u0 u1 u2 u3 u4 u5 u6 u7 u8 u9 u10 u11 u12 u13 u14 u15 u16 u17 u18 u20 u21 u22 u23 u24 u25 u27 u28 u29 u30 u31 u32 u33 u34 u35 u36 u37 u38 u39 u40 u41 u42 u43 u44 u45 u46 u47 u48 u49 u50 u51 u52 u53 u54 u55 u56 u57 u58 u59 u60 u61 u62 u63 u64 u65 u66 u67 u68 u69 u70 u71 u72 u73 u74 u75 u76 u77 u78 u79 u80 u81 u82 u83 u84 u85 u86 u87 u88 u89 u90 u91 u92 u93 u94 u95 u96 u97 u98 u99 u100 u101 u102 u103 u104 u105 u106 u107 u108 u109 u110 u111 u112 u113 u114 u115 u116 u117 u118 u119 u120 u121 u122 u123 u124 u125 u126 u127 u128 u129 u130 u131 u132 u133 u134 u135 u136 u137 u138 u139 u140 u141 u142 u143 u144 u145 u146 u147 u148 u149 u150 u151 u152 u153 u154 u155 u156 u157 u158 u159 u160 u161 u162 u163 u164 u165 u166 u167 u168 u169 u170 u171 u172 u173 u174 u175 u176 u177 u178 u179 u180 u181 u182 u183 u184 u185 u186 u187 u188 u189 u190 u191 u192 u193 u194 u195 u196 u197 u198 u199 u200 u201 u202 u203 u204 u205 u206 u207 u208 u209 u210 u211 u212 u213 u214 u215 u216 u217 u218 u219 u220 u221 u222 u223 u224 u225 u226 u227 : Value} {K : Act → World → Prop} {Q : Exit → Act → World → Prop} {w6 W : World} {b19 b26 b28 : Nat} {xn xr xm xz xL xG : Int} {sX : Sl} {er tn tr tm tz tL tG : Int} {tf : Nat → List It} {n26 r26 m26 z26 L26 G26 : Int} {q26 : Sl} {n28 r28 m28 z28 L28 G28 : Int} {q28 : Sl}
    (HGi : Hid (∀ (a b c d : Int) (s : Sl) (L G : Int) (W : World), Calls Tryz.prog 9 #[genV a b c d s L G] W fun e w' => e = .returned (genV a b c d s L G) ∧ Below W.heap.size W w'))
    (HCp : Hid (∀ W, Below w6.heap.size w6 W → Calls Tryz.prog 15 #[genV xn xr xm xz sX xL xG] W (GRd W er tn tr tm tz tf tL tG)))
    (hlo : w6.heap.size ≤ b26) (h19 : b19 < b26) (h28 : b26 < b28)
    (X19 : Hid (BlkW W b19 (genC xn xr xm xz sX xL xG) 27)) (X26 : Hid (BlkW W b26 (genC n26 r26 m26 z26 q26 L26 G26) 43)) (X28 : Hid (BlkW W b28 (genC n28 r28 m28 z28 q28 L28 G28) 27)) (HBj : Hid (Below w6.heap.size w6 W))
    (HK : Hid (∀ (v129 v130 v131 v132 v133 v134 : Value) (s26 : Sl) (W' : World), Hid (BlkW W' b19 (genC xn xr xm xz sX xL xG) 27) → Hid (BlkW W' b26 (genC tn tr tm tz s26 tL tG) 43) → Hid (BlkW W' b28 (genC n28 r28 m28 z28 q28 L28 G28) 27) → Hid (RdM W' s26 tf) → Hid (Below w6.heap.size w6 W') → K ⟨#[u0, u1, u2, u3, u4, u5, u6, u7, u8, u9, u10, u11, u12, u13, u14, u15, u16, u17, u18, .pointer (some ⟨b19, 0, none⟩), u20, u21, u22, u23, u24, u25, .pointer (some ⟨b26, 0, none⟩), .int .i64 er, u28, u29, u30, u31, u32, u33, u34, u35, u36, u37, u38, u39, u40, u41, u42, u43, u44, u45, u46, u47, u48, u49, u50, u51, u52, u53, u54, u55, u56, u57, u58, u59, u60, u61, u62, u63, u64, u65, u66, u67, u68, u69, u70, u71, u72, u73, u74, u75, u76, u77, u78, u79, u80, u81, u82, u83, u84, u85, u86, u87, u88, u89, u90, u91, u92, u93, u94, u95, u96, u97, u98, u99, u100, u101, u102, u103, u104, u105, u106, u107, u108, u109, u110, u111, u112, u113, u114, u115, u116, u117, u118, u119, u120, u121, u122, u123, u124, u125, u126, u127, u128, v129, v130, v131, v132, v133, v134, u135, u136, u137, u138, u139, u140, u141, u142, u143, u144, u145, u146, u147, u148, u149, u150, u151, u152, u153, u154, u155, u156, u157, u158, u159, u160, u161, u162, u163, u164, u165, u166, u167, u168, u169, u170, u171, u172, u173, u174, u175, u176, u177, u178, u179, u180, u181, u182, u183, u184, u185, u186, u187, u188, u189, u190, u191, u192, u193, u194, u195, u196, u197, u198, u199, u200, u201, u202, u203, u204, u205, u206, u207, u208, u209, u210, u211, u212, u213, u214, u215, u216, u217, u218, u219, u220, u221, u222, u223, u224, u225, u226, u227], []⟩ W')) :
    Code.wp Tryz.prog (gcReg 26) (Exit.then K Q) ⟨#[u0, u1, u2, u3, u4, u5, u6, u7, u8, u9, u10, u11, u12, u13, u14, u15, u16, u17, u18, .pointer (some ⟨b19, 0, none⟩), u20, u21, u22, u23, u24, u25, .pointer (some ⟨b26, 0, none⟩), u27, u28, u29, u30, u31, u32, u33, u34, u35, u36, u37, u38, u39, u40, u41, u42, u43, u44, u45, u46, u47, u48, u49, u50, u51, u52, u53, u54, u55, u56, u57, u58, u59, u60, u61, u62, u63, u64, u65, u66, u67, u68, u69, u70, u71, u72, u73, u74, u75, u76, u77, u78, u79, u80, u81, u82, u83, u84, u85, u86, u87, u88, u89, u90, u91, u92, u93, u94, u95, u96, u97, u98, u99, u100, u101, u102, u103, u104, u105, u106, u107, u108, u109, u110, u111, u112, u113, u114, u115, u116, u117, u118, u119, u120, u121, u122, u123, u124, u125, u126, u127, u128, u129, u130, u131, u132, u133, u134, u135, u136, u137, u138, u139, u140, u141, u142, u143, u144, u145, u146, u147, u148, u149, u150, u151, u152, u153, u154, u155, u156, u157, u158, u159, u160, u161, u162, u163, u164, u165, u166, u167, u168, u169, u170, u171, u172, u173, u174, u175, u176, u177, u178, u179, u180, u181, u182, u183, u184, u185, u186, u187, u188, u189, u190, u191, u192, u193, u194, u195, u196, u197, u198, u199, u200, u201, u202, u203, u204, u205, u206, u207, u208, u209, u210, u211, u212, u213, u214, u215, u216, u217, u218, u219, u220, u221, u222, u223, u224, u225, u226, u227], []⟩ W := by
  conv => arg 2; whnf
  have x0 := X19.out.gen.n0
  have x1 := X19.out.gen.n1
  have x2 := X19.out.gen.n2
  have x3 := X19.out.gen.n3
  have x4 := X19.out.gen.c0
  have x5 := X19.out.gen.c1
  have x6 := X19.out.gen.c2
  have x7 := X19.out.gen.c3
  have x8 := X19.out.gen.c4
  have x9 := X19.out.gen.c5
  have x10 := X19.out.gen.c6
  have x11 := X19.out.gen.c7
  have x12 := X19.out.gen.cl
  have x13 := X19.out.gen.cg
  go_wp2_with fail
  refine (HGi.out xn xr xm xz sX xL xG _).mono ?_
  rintro e p1 ⟨rfl, hb⟩
  clear x0 x1 x2 x3 x4 x5 x6 x7 x8 x9 x10 x11 x12 x13
  replace X19 := Lib.hid (X19.out.below hb)
  replace X26 := Lib.hid (X26.out.below hb)
  replace X28 := Lib.hid (X28.out.below hb)
  replace HBj := Lib.hid (bstep HBj.out hb)
  clear hb HGi
  go_wp2_with fail
  refine (HCp.out p1 HBj.out).mono ?_
  rintro e p2 ⟨⟨s26, rfl, hr⟩, hb⟩
  replace X19 := Lib.hid (X19.out.below hb)
  replace X26 := Lib.hid (X26.out.below hb)
  replace X28 := Lib.hid (X28.out.below hb)
  replace HBj := Lib.hid (bstep HBj.out hb)
  clear hb HCp
  have y0 := X26.out.gen.n0
  have y1 := X26.out.gen.n1
  have y2 := X26.out.gen.n2
  have y3 := X26.out.gen.n3
  have y4 := X26.out.gen.c0
  have y5 := X26.out.gen.c1
  have y6 := X26.out.gen.c2
  have y7 := X26.out.gen.c3
  have y8 := X26.out.gen.c4
  have y9 := X26.out.gen.c5
  have y10 := X26.out.gen.c6
  have y11 := X26.out.gen.c7
  have y12 := X26.out.gen.cl
  have y13 := X26.out.gen.cg
  have yf := X26.out.gen.f
  have Y19 := Lib.hid (X19.out.pts_ne (show b19 ≠ b26 by omega) (genL tn tr tm tz s26 tL tG))
  have Y26 := Lib.hid (X26.out.genAll tn tr tm tz s26 tL tG)
  have Y28 := Lib.hid (X28.out.pts_ne (show b28 ≠ b26 by omega) (genL tn tr tm tz s26 tL tG))
  have R26 := Lib.hid (pts_maps hr X26.out (genL tn tr tm tz s26 tL tG))
  have Yj := Lib.hid (pts_below (B := w6.heap.size) (b := b26) hlo (genL tn tr tm tz s26 tL tG) HBj.out)
  clear hr
  go_wp2_with fail
  exact HK.out _ _ _ _ _ _ s26 _ Y19 Y26 Y28 R26 Yj
set_option maxRecDepth 100000 in
set_option maxHeartbeats 16000000 in
theorem gc27 {u0 u1 u2 u3 u4 u5 u6 u7 u8 u9 u10 u11 u12 u13 u14 u15 u16 u17 u18 u20 u21 u22 u23 u24 u25 u26 u27 u29 u30 u31 u32 u33 u34 u35 u36 u37 u38 u39 u40 u41 u42 u43 u44 u45 u46 u47 u48 u49 u50 u51 u52 u53 u54 u55 u56 u57 u58 u59 u60 u61 u62 u63 u64 u65 u66 u67 u68 u69 u70 u71 u72 u73 u74 u75 u76 u77 u78 u79 u80 u81 u82 u83 u84 u85 u86 u87 u88 u89 u90 u91 u92 u93 u94 u95 u96 u97 u98 u99 u100 u101 u102 u103 u104 u105 u106 u107 u108 u109 u110 u111 u112 u113 u114 u115 u116 u117 u118 u119 u120 u121 u122 u123 u124 u125 u126 u127 u128 u129 u130 u131 u132 u133 u134 u135 u136 u137 u138 u139 u140 u141 u142 u143 u144 u145 u146 u147 u148 u149 u150 u151 u152 u153 u154 u155 u156 u157 u158 u159 u160 u161 u162 u163 u164 u165 u166 u167 u168 u169 u170 u171 u172 u173 u174 u175 u176 u177 u178 u179 u180 u181 u182 u183 u184 u185 u186 u187 u188 u189 u190 u191 u192 u193 u194 u195 u196 u197 u198 u199 u200 u201 u202 u203 u204 u205 u206 u207 u208 u209 u210 u211 u212 u213 u214 u215 u216 u217 u218 u219 u220 u221 u222 u223 u224 u225 u226 u227 : Value} {K : Act → World → Prop} {Q : Exit → Act → World → Prop} {w6 W : World} {b19 b26 b28 : Nat} {xn xr xm xz xL xG : Int} {sX : Sl} {er tn tr tm tz tL tG : Int} {tf : Nat → List It} {s26 : Sl} {n28 r28 m28 z28 L28 G28 : Int} {q28 : Sl}
    (HCr : Hid (∀ W, Below w6.heap.size w6 W → Calls Tryz.prog 16 #[genV xn xr xm xz sX xL xG] W (GRd W er tn tr tm tz tf tL tG)))
    (hlo : w6.heap.size ≤ b26) (h19 : b19 < b26) (h28 : b26 < b28)
    (X19 : Hid (BlkW W b19 (genC xn xr xm xz sX xL xG) 27)) (X26 : Hid (BlkW W b26 (genC tn tr tm tz s26 tL tG) 43)) (X28 : Hid (BlkW W b28 (genC n28 r28 m28 z28 q28 L28 G28) 27)) (R26 : Hid (RdM W s26 tf)) (HBj : Hid (Below w6.heap.size w6 W))
    (HK : Hid (∀ (v135 v136 v137 v138 v139 : Value) (s28 : Sl) (W' : World), Hid (BlkW W' b19 (genC xn xr xm xz sX xL xG) 27) → Hid (BlkW W' b26 (genC tn tr tm tz s26 tL tG) 43) → Hid (BlkW W' b28 (genC tn tr tm tz s28 tL tG) 27) → Hid (RdM W' s26 tf) → Hid (RdM W' s28 tf) → Hid (Below w6.heap.size w6 W') → K ⟨#[u0, u1, u2, u3, u4, u5, u6, u7, u8, u9, u10, u11, u12, u13, u14, u15, u16, u17, u18, .pointer (some ⟨b19, 0, none⟩), u20, u21, u22, u23, u24, u25, u26, u27, .pointer (some ⟨b28, 0, none⟩), .int .i64 er, u30, u31, u32, u33, u34, u35, u36, u37, u38, u39, u40, u41, u42, u43, u44, u45, u46, u47, u48, u49, u50, u51, u52, u53, u54, u55, u56, u57, u58, u59, u60, u61, u62, u63, u64, u65, u66, u67, u68, u69, u70, u71, u72, u73, u74, u75, u76, u77, u78, u79, u80, u81, u82, u83, u84, u85, u86, u87, u88, u89, u90, u91, u92, u93, u94, u95, u96, u97, u98, u99, u100, u101, u102, u103, u104, u105, u106, u107, u108, u109, u110, u111, u112, u113, u114, u115, u116, u117, u118, u119, u120, u121, u122, u123, u124, u125, u126, u127, u128, u129, u130, u131, u132, u133, u134, v135, v136, v137, v138, v139, u140, u141, u142, u143, u144, u145, u146, u147, u148, u149, u150, u151, u152, u153, u154, u155, u156, u157, u158, u159, u160, u161, u162, u163, u164, u165, u166, u167, u168, u169, u170, u171, u172, u173, u174, u175, u176, u177, u178, u179, u180, u181, u182, u183, u184, u185, u186, u187, u188, u189, u190, u191, u192, u193, u194, u195, u196, u197, u198, u199, u200, u201, u202, u203, u204, u205, u206, u207, u208, u209, u210, u211, u212, u213, u214, u215, u216, u217, u218, u219, u220, u221, u222, u223, u224, u225, u226, u227], []⟩ W')) :
    Code.wp Tryz.prog (gcReg 27) (Exit.then K Q) ⟨#[u0, u1, u2, u3, u4, u5, u6, u7, u8, u9, u10, u11, u12, u13, u14, u15, u16, u17, u18, .pointer (some ⟨b19, 0, none⟩), u20, u21, u22, u23, u24, u25, u26, u27, .pointer (some ⟨b28, 0, none⟩), u29, u30, u31, u32, u33, u34, u35, u36, u37, u38, u39, u40, u41, u42, u43, u44, u45, u46, u47, u48, u49, u50, u51, u52, u53, u54, u55, u56, u57, u58, u59, u60, u61, u62, u63, u64, u65, u66, u67, u68, u69, u70, u71, u72, u73, u74, u75, u76, u77, u78, u79, u80, u81, u82, u83, u84, u85, u86, u87, u88, u89, u90, u91, u92, u93, u94, u95, u96, u97, u98, u99, u100, u101, u102, u103, u104, u105, u106, u107, u108, u109, u110, u111, u112, u113, u114, u115, u116, u117, u118, u119, u120, u121, u122, u123, u124, u125, u126, u127, u128, u129, u130, u131, u132, u133, u134, u135, u136, u137, u138, u139, u140, u141, u142, u143, u144, u145, u146, u147, u148, u149, u150, u151, u152, u153, u154, u155, u156, u157, u158, u159, u160, u161, u162, u163, u164, u165, u166, u167, u168, u169, u170, u171, u172, u173, u174, u175, u176, u177, u178, u179, u180, u181, u182, u183, u184, u185, u186, u187, u188, u189, u190, u191, u192, u193, u194, u195, u196, u197, u198, u199, u200, u201, u202, u203, u204, u205, u206, u207, u208, u209, u210, u211, u212, u213, u214, u215, u216, u217, u218, u219, u220, u221, u222, u223, u224, u225, u226, u227], []⟩ W := by
  conv => arg 2; whnf
  have x0 := X19.out.gen.n0
  have x1 := X19.out.gen.n1
  have x2 := X19.out.gen.n2
  have x3 := X19.out.gen.n3
  have x4 := X19.out.gen.c0
  have x5 := X19.out.gen.c1
  have x6 := X19.out.gen.c2
  have x7 := X19.out.gen.c3
  have x8 := X19.out.gen.c4
  have x9 := X19.out.gen.c5
  have x10 := X19.out.gen.c6
  have x11 := X19.out.gen.c7
  have x12 := X19.out.gen.cl
  have x13 := X19.out.gen.cg
  go_wp2_with fail
  refine (HCr.out W HBj.out).mono ?_
  rintro e p2 ⟨⟨s28, rfl, hr⟩, hb⟩
  clear x0 x1 x2 x3 x4 x5 x6 x7 x8 x9 x10 x11 x12 x13
  replace X19 := Lib.hid (X19.out.below hb)
  replace X26 := Lib.hid (X26.out.below hb)
  replace X28 := Lib.hid (X28.out.below hb)
  replace R26 := Lib.hid (R26.out.below hb)
  replace HBj := Lib.hid (bstep HBj.out hb)
  clear hb HCr
  have y0 := X28.out.gen.n0
  have y1 := X28.out.gen.n1
  have y2 := X28.out.gen.n2
  have y3 := X28.out.gen.n3
  have y4 := X28.out.gen.c0
  have y5 := X28.out.gen.c1
  have y6 := X28.out.gen.c2
  have y7 := X28.out.gen.c3
  have y8 := X28.out.gen.c4
  have y9 := X28.out.gen.c5
  have y10 := X28.out.gen.c6
  have y11 := X28.out.gen.c7
  have y12 := X28.out.gen.cl
  have y13 := X28.out.gen.cg
  have yf := X28.out.gen.f
  have Y19 := Lib.hid (X19.out.pts_ne (show b19 ≠ b28 by omega) (genL tn tr tm tz s28 tL tG))
  have Y26 := Lib.hid (X26.out.pts_ne (show b26 ≠ b28 by omega) (genL tn tr tm tz s28 tL tG))
  have Y28 := Lib.hid (X28.out.genAll tn tr tm tz s28 tL tG)
  have Y26r := Lib.hid (pts_maps R26.out X28.out (genL tn tr tm tz s28 tL tG))
  have R28 := Lib.hid (pts_maps hr X28.out (genL tn tr tm tz s28 tL tG))
  have Yj := Lib.hid (pts_below (B := w6.heap.size) (b := b28) (by omega) (genL tn tr tm tz s28 tL tG) HBj.out)
  clear hr
  go_wp2_with fail
  exact HK.out _ _ _ _ _ s28 _ Y19 Y26 Y28 Y26r R28 Yj
set_option maxRecDepth 100000 in
set_option maxHeartbeats 16000000 in
theorem gc30 {u0 u1 u2 u3 u4 u5 u6 u7 u8 u9 u10 u11 u12 u13 u14 u15 u16 u17 u18 u20 u21 u22 u23 u24 u25 u27 u28 u29 u30 u31 u32 u33 u34 u35 u36 u37 u38 u39 u40 u41 u42 u43 u44 u45 u46 u47 u48 u49 u50 u51 u52 u53 u54 u55 u56 u57 u58 u59 u60 u61 u62 u63 u64 u65 u66 u67 u68 u69 u70 u71 u72 u73 u74 u75 u76 u77 u78 u79 u80 u81 u82 u83 u84 u85 u86 u87 u88 u89 u90 u91 u92 u93 u94 u95 u96 u97 u98 u99 u100 u101 u102 u103 u104 u105 u106 u107 u108 u109 u110 u111 u112 u113 u114 u115 u116 u117 u118 u119 u120 u121 u122 u123 u124 u125 u126 u127 u128 u129 u130 u131 u132 u133 u134 u135 u136 u137 u138 u139 u140 u141 u142 u143 u144 u145 u146 u147 u148 u149 u150 u151 u152 u153 u154 u155 u156 u157 u158 u159 u160 u161 u162 u163 u164 u165 u166 u167 u168 u169 u170 u171 u172 u173 u174 u175 u176 u177 u178 u179 u180 u181 u182 u183 u184 u185 u186 u187 u188 u189 u190 u191 u192 u193 u194 u195 u196 u197 u198 u199 u200 u201 u202 u203 u204 u205 u206 u207 u208 u209 u210 u211 u212 u213 u214 u215 u216 u217 u218 u219 u220 u221 u222 u223 u224 u225 u226 u227 : Value} {K : Act → World → Prop} {Q : Exit → Act → World → Prop} {w6 W : World} {b19 b26 b28 : Nat} {xn xr xm xz xL xG : Int} {sX : Sl} {er tn tr tm tz tL tG : Int} {tf : Nat → List It} {n26 r26 m26 z26 L26 G26 : Int} {q26 : Sl} {n28 r28 m28 z28 L28 G28 : Int} {q28 : Sl}
    (HGi : Hid (∀ (a b c d : Int) (s : Sl) (L G : Int) (W : World), Calls Tryz.prog 9 #[genV a b c d s L G] W fun e w' => e = .returned (genV a b c d s L G) ∧ Below W.heap.size W w'))
    (HCp : Hid (∀ W, Below w6.heap.size w6 W → Calls Tryz.prog 17 #[genV xn xr xm xz sX xL xG] W (GRd W er tn tr tm tz tf tL tG)))
    (hlo : w6.heap.size ≤ b26) (h19 : b19 < b26) (h28 : b26 < b28)
    (X19 : Hid (BlkW W b19 (genC xn xr xm xz sX xL xG) 27)) (X26 : Hid (BlkW W b26 (genC n26 r26 m26 z26 q26 L26 G26) 43)) (X28 : Hid (BlkW W b28 (genC n28 r28 m28 z28 q28 L28 G28) 27)) (HBj : Hid (Below w6.heap.size w6 W))
    (HK : Hid (∀ (v150 v151 v152 v153 v154 v155 : Value) (s26 : Sl) (W' : World), Hid (BlkW W' b19 (genC xn xr xm xz sX xL xG) 27) → Hid (BlkW W' b26 (genC tn tr tm tz s26 tL tG) 43) → Hid (BlkW W' b28 (genC n28 r28 m28 z28 q28 L28 G28) 27) → Hid (RdM W' s26 tf) → Hid (Below w6.heap.size w6 W') → K ⟨#[u0, u1, u2, u3, u4, u5, u6, u7, u8, u9, u10, u11, u12, u13, u14, u15, u16, u17, u18, .pointer (some ⟨b19, 0, none⟩), u20, u21, u22, u23, u24, u25, .pointer (some ⟨b26, 0, none⟩), .int .i64 er, u28, u29, u30, u31, u32, u33, u34, u35, u36, u37, u38, u39, u40, u41, u42, u43, u44, u45, u46, u47, u48, u49, u50, u51, u52, u53, u54, u55, u56, u57, u58, u59, u60, u61, u62, u63, u64, u65, u66, u67, u68, u69, u70, u71, u72, u73, u74, u75, u76, u77, u78, u79, u80, u81, u82, u83, u84, u85, u86, u87, u88, u89, u90, u91, u92, u93, u94, u95, u96, u97, u98, u99, u100, u101, u102, u103, u104, u105, u106, u107, u108, u109, u110, u111, u112, u113, u114, u115, u116, u117, u118, u119, u120, u121, u122, u123, u124, u125, u126, u127, u128, u129, u130, u131, u132, u133, u134, u135, u136, u137, u138, u139, u140, u141, u142, u143, u144, u145, u146, u147, u148, u149, v150, v151, v152, v153, v154, v155, u156, u157, u158, u159, u160, u161, u162, u163, u164, u165, u166, u167, u168, u169, u170, u171, u172, u173, u174, u175, u176, u177, u178, u179, u180, u181, u182, u183, u184, u185, u186, u187, u188, u189, u190, u191, u192, u193, u194, u195, u196, u197, u198, u199, u200, u201, u202, u203, u204, u205, u206, u207, u208, u209, u210, u211, u212, u213, u214, u215, u216, u217, u218, u219, u220, u221, u222, u223, u224, u225, u226, u227], []⟩ W')) :
    Code.wp Tryz.prog (gcReg 30) (Exit.then K Q) ⟨#[u0, u1, u2, u3, u4, u5, u6, u7, u8, u9, u10, u11, u12, u13, u14, u15, u16, u17, u18, .pointer (some ⟨b19, 0, none⟩), u20, u21, u22, u23, u24, u25, .pointer (some ⟨b26, 0, none⟩), u27, u28, u29, u30, u31, u32, u33, u34, u35, u36, u37, u38, u39, u40, u41, u42, u43, u44, u45, u46, u47, u48, u49, u50, u51, u52, u53, u54, u55, u56, u57, u58, u59, u60, u61, u62, u63, u64, u65, u66, u67, u68, u69, u70, u71, u72, u73, u74, u75, u76, u77, u78, u79, u80, u81, u82, u83, u84, u85, u86, u87, u88, u89, u90, u91, u92, u93, u94, u95, u96, u97, u98, u99, u100, u101, u102, u103, u104, u105, u106, u107, u108, u109, u110, u111, u112, u113, u114, u115, u116, u117, u118, u119, u120, u121, u122, u123, u124, u125, u126, u127, u128, u129, u130, u131, u132, u133, u134, u135, u136, u137, u138, u139, u140, u141, u142, u143, u144, u145, u146, u147, u148, u149, u150, u151, u152, u153, u154, u155, u156, u157, u158, u159, u160, u161, u162, u163, u164, u165, u166, u167, u168, u169, u170, u171, u172, u173, u174, u175, u176, u177, u178, u179, u180, u181, u182, u183, u184, u185, u186, u187, u188, u189, u190, u191, u192, u193, u194, u195, u196, u197, u198, u199, u200, u201, u202, u203, u204, u205, u206, u207, u208, u209, u210, u211, u212, u213, u214, u215, u216, u217, u218, u219, u220, u221, u222, u223, u224, u225, u226, u227], []⟩ W := by
  conv => arg 2; whnf
  have x0 := X19.out.gen.n0
  have x1 := X19.out.gen.n1
  have x2 := X19.out.gen.n2
  have x3 := X19.out.gen.n3
  have x4 := X19.out.gen.c0
  have x5 := X19.out.gen.c1
  have x6 := X19.out.gen.c2
  have x7 := X19.out.gen.c3
  have x8 := X19.out.gen.c4
  have x9 := X19.out.gen.c5
  have x10 := X19.out.gen.c6
  have x11 := X19.out.gen.c7
  have x12 := X19.out.gen.cl
  have x13 := X19.out.gen.cg
  go_wp2_with fail
  refine (HGi.out xn xr xm xz sX xL xG _).mono ?_
  rintro e p1 ⟨rfl, hb⟩
  clear x0 x1 x2 x3 x4 x5 x6 x7 x8 x9 x10 x11 x12 x13
  replace X19 := Lib.hid (X19.out.below hb)
  replace X26 := Lib.hid (X26.out.below hb)
  replace X28 := Lib.hid (X28.out.below hb)
  replace HBj := Lib.hid (bstep HBj.out hb)
  clear hb HGi
  go_wp2_with fail
  refine (HCp.out p1 HBj.out).mono ?_
  rintro e p2 ⟨⟨s26, rfl, hr⟩, hb⟩
  replace X19 := Lib.hid (X19.out.below hb)
  replace X26 := Lib.hid (X26.out.below hb)
  replace X28 := Lib.hid (X28.out.below hb)
  replace HBj := Lib.hid (bstep HBj.out hb)
  clear hb HCp
  have y0 := X26.out.gen.n0
  have y1 := X26.out.gen.n1
  have y2 := X26.out.gen.n2
  have y3 := X26.out.gen.n3
  have y4 := X26.out.gen.c0
  have y5 := X26.out.gen.c1
  have y6 := X26.out.gen.c2
  have y7 := X26.out.gen.c3
  have y8 := X26.out.gen.c4
  have y9 := X26.out.gen.c5
  have y10 := X26.out.gen.c6
  have y11 := X26.out.gen.c7
  have y12 := X26.out.gen.cl
  have y13 := X26.out.gen.cg
  have yf := X26.out.gen.f
  have Y19 := Lib.hid (X19.out.pts_ne (show b19 ≠ b26 by omega) (genL tn tr tm tz s26 tL tG))
  have Y26 := Lib.hid (X26.out.genAll tn tr tm tz s26 tL tG)
  have Y28 := Lib.hid (X28.out.pts_ne (show b28 ≠ b26 by omega) (genL tn tr tm tz s26 tL tG))
  have R26 := Lib.hid (pts_maps hr X26.out (genL tn tr tm tz s26 tL tG))
  have Yj := Lib.hid (pts_below (B := w6.heap.size) (b := b26) hlo (genL tn tr tm tz s26 tL tG) HBj.out)
  clear hr
  go_wp2_with fail
  exact HK.out _ _ _ _ _ _ s26 _ Y19 Y26 Y28 R26 Yj
set_option maxRecDepth 100000 in
set_option maxHeartbeats 16000000 in
theorem gc31 {u0 u1 u2 u3 u4 u5 u6 u7 u8 u9 u10 u11 u12 u13 u14 u15 u16 u17 u18 u20 u21 u22 u23 u24 u25 u26 u27 u29 u30 u31 u32 u33 u34 u35 u36 u37 u38 u39 u40 u41 u42 u43 u44 u45 u46 u47 u48 u49 u50 u51 u52 u53 u54 u55 u56 u57 u58 u59 u60 u61 u62 u63 u64 u65 u66 u67 u68 u69 u70 u71 u72 u73 u74 u75 u76 u77 u78 u79 u80 u81 u82 u83 u84 u85 u86 u87 u88 u89 u90 u91 u92 u93 u94 u95 u96 u97 u98 u99 u100 u101 u102 u103 u104 u105 u106 u107 u108 u109 u110 u111 u112 u113 u114 u115 u116 u117 u118 u119 u120 u121 u122 u123 u124 u125 u126 u127 u128 u129 u130 u131 u132 u133 u134 u135 u136 u137 u138 u139 u140 u141 u142 u143 u144 u145 u146 u147 u148 u149 u150 u151 u152 u153 u154 u155 u156 u157 u158 u159 u160 u161 u162 u163 u164 u165 u166 u167 u168 u169 u170 u171 u172 u173 u174 u175 u176 u177 u178 u179 u180 u181 u182 u183 u184 u185 u186 u187 u188 u189 u190 u191 u192 u193 u194 u195 u196 u197 u198 u199 u200 u201 u202 u203 u204 u205 u206 u207 u208 u209 u210 u211 u212 u213 u214 u215 u216 u217 u218 u219 u220 u221 u222 u223 u224 u225 u226 u227 : Value} {K : Act → World → Prop} {Q : Exit → Act → World → Prop} {w6 W : World} {b19 b26 b28 : Nat} {xn xr xm xz xL xG : Int} {sX : Sl} {er tn tr tm tz tL tG : Int} {tf : Nat → List It} {s26 : Sl} {n28 r28 m28 z28 L28 G28 : Int} {q28 : Sl}
    (HCr : Hid (∀ W, Below w6.heap.size w6 W → Calls Tryz.prog 18 #[genV xn xr xm xz sX xL xG] W (GRd W er tn tr tm tz tf tL tG)))
    (hlo : w6.heap.size ≤ b26) (h19 : b19 < b26) (h28 : b26 < b28)
    (X19 : Hid (BlkW W b19 (genC xn xr xm xz sX xL xG) 27)) (X26 : Hid (BlkW W b26 (genC tn tr tm tz s26 tL tG) 43)) (X28 : Hid (BlkW W b28 (genC n28 r28 m28 z28 q28 L28 G28) 27)) (R26 : Hid (RdM W s26 tf)) (HBj : Hid (Below w6.heap.size w6 W))
    (HK : Hid (∀ (v156 v157 v158 v159 v160 : Value) (s28 : Sl) (W' : World), Hid (BlkW W' b19 (genC xn xr xm xz sX xL xG) 27) → Hid (BlkW W' b26 (genC tn tr tm tz s26 tL tG) 43) → Hid (BlkW W' b28 (genC tn tr tm tz s28 tL tG) 27) → Hid (RdM W' s26 tf) → Hid (RdM W' s28 tf) → Hid (Below w6.heap.size w6 W') → K ⟨#[u0, u1, u2, u3, u4, u5, u6, u7, u8, u9, u10, u11, u12, u13, u14, u15, u16, u17, u18, .pointer (some ⟨b19, 0, none⟩), u20, u21, u22, u23, u24, u25, u26, u27, .pointer (some ⟨b28, 0, none⟩), .int .i64 er, u30, u31, u32, u33, u34, u35, u36, u37, u38, u39, u40, u41, u42, u43, u44, u45, u46, u47, u48, u49, u50, u51, u52, u53, u54, u55, u56, u57, u58, u59, u60, u61, u62, u63, u64, u65, u66, u67, u68, u69, u70, u71, u72, u73, u74, u75, u76, u77, u78, u79, u80, u81, u82, u83, u84, u85, u86, u87, u88, u89, u90, u91, u92, u93, u94, u95, u96, u97, u98, u99, u100, u101, u102, u103, u104, u105, u106, u107, u108, u109, u110, u111, u112, u113, u114, u115, u116, u117, u118, u119, u120, u121, u122, u123, u124, u125, u126, u127, u128, u129, u130, u131, u132, u133, u134, u135, u136, u137, u138, u139, u140, u141, u142, u143, u144, u145, u146, u147, u148, u149, u150, u151, u152, u153, u154, u155, v156, v157, v158, v159, v160, u161, u162, u163, u164, u165, u166, u167, u168, u169, u170, u171, u172, u173, u174, u175, u176, u177, u178, u179, u180, u181, u182, u183, u184, u185, u186, u187, u188, u189, u190, u191, u192, u193, u194, u195, u196, u197, u198, u199, u200, u201, u202, u203, u204, u205, u206, u207, u208, u209, u210, u211, u212, u213, u214, u215, u216, u217, u218, u219, u220, u221, u222, u223, u224, u225, u226, u227], []⟩ W')) :
    Code.wp Tryz.prog (gcReg 31) (Exit.then K Q) ⟨#[u0, u1, u2, u3, u4, u5, u6, u7, u8, u9, u10, u11, u12, u13, u14, u15, u16, u17, u18, .pointer (some ⟨b19, 0, none⟩), u20, u21, u22, u23, u24, u25, u26, u27, .pointer (some ⟨b28, 0, none⟩), u29, u30, u31, u32, u33, u34, u35, u36, u37, u38, u39, u40, u41, u42, u43, u44, u45, u46, u47, u48, u49, u50, u51, u52, u53, u54, u55, u56, u57, u58, u59, u60, u61, u62, u63, u64, u65, u66, u67, u68, u69, u70, u71, u72, u73, u74, u75, u76, u77, u78, u79, u80, u81, u82, u83, u84, u85, u86, u87, u88, u89, u90, u91, u92, u93, u94, u95, u96, u97, u98, u99, u100, u101, u102, u103, u104, u105, u106, u107, u108, u109, u110, u111, u112, u113, u114, u115, u116, u117, u118, u119, u120, u121, u122, u123, u124, u125, u126, u127, u128, u129, u130, u131, u132, u133, u134, u135, u136, u137, u138, u139, u140, u141, u142, u143, u144, u145, u146, u147, u148, u149, u150, u151, u152, u153, u154, u155, u156, u157, u158, u159, u160, u161, u162, u163, u164, u165, u166, u167, u168, u169, u170, u171, u172, u173, u174, u175, u176, u177, u178, u179, u180, u181, u182, u183, u184, u185, u186, u187, u188, u189, u190, u191, u192, u193, u194, u195, u196, u197, u198, u199, u200, u201, u202, u203, u204, u205, u206, u207, u208, u209, u210, u211, u212, u213, u214, u215, u216, u217, u218, u219, u220, u221, u222, u223, u224, u225, u226, u227], []⟩ W := by
  conv => arg 2; whnf
  have x0 := X19.out.gen.n0
  have x1 := X19.out.gen.n1
  have x2 := X19.out.gen.n2
  have x3 := X19.out.gen.n3
  have x4 := X19.out.gen.c0
  have x5 := X19.out.gen.c1
  have x6 := X19.out.gen.c2
  have x7 := X19.out.gen.c3
  have x8 := X19.out.gen.c4
  have x9 := X19.out.gen.c5
  have x10 := X19.out.gen.c6
  have x11 := X19.out.gen.c7
  have x12 := X19.out.gen.cl
  have x13 := X19.out.gen.cg
  go_wp2_with fail
  refine (HCr.out W HBj.out).mono ?_
  rintro e p2 ⟨⟨s28, rfl, hr⟩, hb⟩
  clear x0 x1 x2 x3 x4 x5 x6 x7 x8 x9 x10 x11 x12 x13
  replace X19 := Lib.hid (X19.out.below hb)
  replace X26 := Lib.hid (X26.out.below hb)
  replace X28 := Lib.hid (X28.out.below hb)
  replace R26 := Lib.hid (R26.out.below hb)
  replace HBj := Lib.hid (bstep HBj.out hb)
  clear hb HCr
  have y0 := X28.out.gen.n0
  have y1 := X28.out.gen.n1
  have y2 := X28.out.gen.n2
  have y3 := X28.out.gen.n3
  have y4 := X28.out.gen.c0
  have y5 := X28.out.gen.c1
  have y6 := X28.out.gen.c2
  have y7 := X28.out.gen.c3
  have y8 := X28.out.gen.c4
  have y9 := X28.out.gen.c5
  have y10 := X28.out.gen.c6
  have y11 := X28.out.gen.c7
  have y12 := X28.out.gen.cl
  have y13 := X28.out.gen.cg
  have yf := X28.out.gen.f
  have Y19 := Lib.hid (X19.out.pts_ne (show b19 ≠ b28 by omega) (genL tn tr tm tz s28 tL tG))
  have Y26 := Lib.hid (X26.out.pts_ne (show b26 ≠ b28 by omega) (genL tn tr tm tz s28 tL tG))
  have Y28 := Lib.hid (X28.out.genAll tn tr tm tz s28 tL tG)
  have Y26r := Lib.hid (pts_maps R26.out X28.out (genL tn tr tm tz s28 tL tG))
  have R28 := Lib.hid (pts_maps hr X28.out (genL tn tr tm tz s28 tL tG))
  have Yj := Lib.hid (pts_below (B := w6.heap.size) (b := b28) (by omega) (genL tn tr tm tz s28 tL tG) HBj.out)
  clear hr
  go_wp2_with fail
  exact HK.out _ _ _ _ _ s28 _ Y19 Y26 Y28 Y26r R28 Yj
set_option maxRecDepth 100000 in
set_option maxHeartbeats 16000000 in
theorem gc37 {u0 u1 u2 u3 u4 u5 u6 u7 u8 u9 u10 u11 u12 u13 u14 u15 u16 u18 u20 u21 u22 u23 u24 u25 u27 u28 u29 u30 u32 u33 u34 u35 u36 u37 u38 u39 u40 u41 u42 u43 u44 u45 u46 u47 u48 u49 u50 u51 u52 u53 u54 u55 u56 u57 u58 u59 u60 u61 u62 u63 u64 u65 u66 u67 u68 u69 u70 u71 u72 u73 u74 u75 u76 u77 u78 u79 u80 u81 u82 u83 u84 u85 u86 u87 u88 u89 u90 u91 u92 u93 u94 u95 u96 u97 u98 u99 u100 u101 u102 u103 u104 u105 u106 u107 u108 u109 u110 u111 u112 u113 u114 u115 u116 u117 u118 u119 u120 u121 u122 u123 u124 u125 u126 u127 u128 u129 u130 u131 u132 u133 u134 u135 u136 u137 u138 u139 u140 u141 u142 u143 u144 u145 u146 u147 u148 u149 u150 u151 u152 u153 u154 u155 u156 u157 u158 u159 u160 u161 u162 u163 u164 u165 u166 u167 u168 u169 u170 u171 u172 u173 u174 u175 u176 u177 u178 u179 u180 u181 u182 u183 u184 u185 u186 u187 u188 u189 u190 u191 u192 u193 u194 u195 u196 u197 u198 u199 u200 u201 u202 u203 u204 u205 u206 u207 u208 u209 u210 u211 u212 u213 u214 u215 u216 u217 u218 u219 u220 u221 u222 u223 u224 u225 u226 u227 : Value} {K : Act → World → Prop} {Q : Exit → Act → World → Prop} {w6 W : World} {b17 b19 b26 b28 b31 b185 : Nat} {xn xr xm xz xL xG : Int} {sX : Sl} {er tn tr tm tz tL tG : Int} {tf : Nat → List It} {n26 r26 m26 z26 L26 G26 : Int} {q26 : Sl} {n28 r28 m28 z28 L28 G28 : Int} {q28 : Sl} {on_ or_ om oz oL oG pk zk : Int} {sO : Sl}
    (HGi : Hid (∀ (a b c d : Int) (s : Sl) (L G : Int) (W : World), Calls Tryz.prog 9 #[genV a b c d s L G] W fun e w' => e = .returned (genV a b c d s L G) ∧ Below W.heap.size W w'))
    (HCp : Hid (∀ W, Below w6.heap.size w6 W → Calls Tryz.prog 19 #[genV xn xr xm xz sX xL xG, .int .i64 pk, .int .i64 zk, mapV sO oL oG] W (GRd W er tn tr tm tz tf tL tG)))
    (hlo : w6.heap.size ≤ b26) (h19 : b19 < b26) (h28 : b26 < b28)
    (hbr : b28 < b185) (Row : Hid (Row3 W b185)) (h31 : b28 < b31) (X17 : Hid (BoxG w6 b17 on_ or_ om oz sO oL oG)) (B31 : Hid (Row2 W b31 pk zk))
    (X19 : Hid (BlkW W b19 (genC xn xr xm xz sX xL xG) 27)) (X26 : Hid (BlkW W b26 (genC n26 r26 m26 z26 q26 L26 G26) 43)) (X28 : Hid (BlkW W b28 (genC n28 r28 m28 z28 q28 L28 G28) 27)) (HBj : Hid (Below w6.heap.size w6 W))
    (HK : Hid (∀ (v191 v192 v193 v194 v195 v196 v197 v198 v199 v200 v201 v202 v203 : Value) (s26 : Sl) (W' : World), Hid (Row3 W' b185) → Hid (BlkW W' b19 (genC xn xr xm xz sX xL xG) 27) → Hid (BlkW W' b26 (genC tn tr tm tz s26 tL tG) 43) → Hid (BlkW W' b28 (genC n28 r28 m28 z28 q28 L28 G28) 27) → Hid (Row2 W' b31 pk zk) → Hid (RdM W' s26 tf) → Hid (Below w6.heap.size w6 W') → K ⟨#[u0, u1, u2, u3, u4, u5, u6, u7, u8, u9, u10, u11, u12, u13, u14, u15, u16, .pointer (some ⟨b17, 0, none⟩), u18, .pointer (some ⟨b19, 0, none⟩), u20, u21, u22, u23, u24, u25, .pointer (some ⟨b26, 0, none⟩), .int .i64 er, u28, u29, u30, .pointer (some ⟨b31, 0, none⟩), u32, u33, u34, u35, u36, u37, u38, u39, u40, u41, u42, u43, u44, u45, u46, u47, u48, u49, u50, u51, u52, u53, u54, u55, u56, u57, u58, u59, u60, u61, u62, u63, u64, u65, u66, u67, u68, u69, u70, u71, u72, u73, u74, u75, u76, u77, u78, u79, u80, u81, u82, u83, u84, u85, u86, u87, u88, u89, u90, u91, u92, u93, u94, u95, u96, u97, u98, u99, u100, u101, u102, u103, u104, u105, u106, u107, u108, u109, u110, u111, u112, u113, u114, u115, u116, u117, u118, u119, u120, u121, u122, u123, u124, u125, u126, u127, u128, u129, u130, u131, u132, u133, u134, u135, u136, u137, u138, u139, u140, u141, u142, u143, u144, u145, u146, u147, u148, u149, u150, u151, u152, u153, u154, u155, u156, u157, u158, u159, u160, u161, u162, u163, u164, u165, u166, u167, u168, u169, u170, u171, u172, u173, u174, u175, u176, u177, u178, u179, u180, u181, u182, u183, u184, u185, u186, u187, u188, u189, u190, v191, v192, v193, v194, v195, v196, v197, v198, v199, v200, v201, v202, v203, u204, u205, u206, u207, u208, u209, u210, u211, u212, u213, u214, u215, u216, u217, u218, u219, u220, u221, u222, u223, u224, u225, u226, u227], []⟩ W')) :
    Code.wp Tryz.prog (gcReg 37) (Exit.then K Q) ⟨#[u0, u1, u2, u3, u4, u5, u6, u7, u8, u9, u10, u11, u12, u13, u14, u15, u16, .pointer (some ⟨b17, 0, none⟩), u18, .pointer (some ⟨b19, 0, none⟩), u20, u21, u22, u23, u24, u25, .pointer (some ⟨b26, 0, none⟩), u27, u28, u29, u30, .pointer (some ⟨b31, 0, none⟩), u32, u33, u34, u35, u36, u37, u38, u39, u40, u41, u42, u43, u44, u45, u46, u47, u48, u49, u50, u51, u52, u53, u54, u55, u56, u57, u58, u59, u60, u61, u62, u63, u64, u65, u66, u67, u68, u69, u70, u71, u72, u73, u74, u75, u76, u77, u78, u79, u80, u81, u82, u83, u84, u85, u86, u87, u88, u89, u90, u91, u92, u93, u94, u95, u96, u97, u98, u99, u100, u101, u102, u103, u104, u105, u106, u107, u108, u109, u110, u111, u112, u113, u114, u115, u116, u117, u118, u119, u120, u121, u122, u123, u124, u125, u126, u127, u128, u129, u130, u131, u132, u133, u134, u135, u136, u137, u138, u139, u140, u141, u142, u143, u144, u145, u146, u147, u148, u149, u150, u151, u152, u153, u154, u155, u156, u157, u158, u159, u160, u161, u162, u163, u164, u165, u166, u167, u168, u169, u170, u171, u172, u173, u174, u175, u176, u177, u178, u179, u180, u181, u182, u183, u184, u185, u186, u187, u188, u189, u190, u191, u192, u193, u194, u195, u196, u197, u198, u199, u200, u201, u202, u203, u204, u205, u206, u207, u208, u209, u210, u211, u212, u213, u214, u215, u216, u217, u218, u219, u220, u221, u222, u223, u224, u225, u226, u227], []⟩ W := by
  conv => arg 2; whnf
  refine wp_region_late [eqS (genV xn xr xm xz sX xL xG), eqS (genV xn xr xm xz sX xL xG), eqS (.pointer (some ⟨b31, 0, none⟩)), eqS (.int .i64 pk), eqS (.pointer (some ⟨b31, 1, none⟩)), eqS (.int .i64 zk), eqS (genV on_ or_ om oz sO oL oG), eqS (genV on_ or_ om oz sO oL oG), eqS (mapV sO oL oG), tupW er tn tr tm tz tf tL tG, tupW er tn tr tm tz tf tL tG, genW tn tr tm tz tf tL tG, eqS (.int .i64 er)] [] 228 12 (by kernel_rfl) (by kernel_rfl) rfl rfl (by decide) (by rfl) (by kernel_rfl) (fun f => by simp [frm, dstOf, Act.put]; exact rfl) ?_ ?_ ?_
  · refine ⟨?_, ?_, ?_, ?_, ?_, ?_, ?_, ?_, ?_, ?_, ?_, ?_, ?_, trivial⟩
    · intro f w1 hb hd
      clear hd
      dsimp only
      have hx := X19.out.gen.below hb
      have q0 := hx.n0
      have q1 := hx.n1
      have q2 := hx.n2
      have q3 := hx.n3
      have q4 := hx.c0
      have q5 := hx.c1
      have q6 := hx.c2
      have q7 := hx.c3
      have q8 := hx.c4
      have q9 := hx.c5
      have q10 := hx.c6
      have q11 := hx.c7
      have q12 := hx.cl
      have q13 := hx.cg
      clear hx
      go_wp2_with fail
      exact ⟨rfl, Below.refl _ _, fun t ht => by injection ht with ht; subst ht; exact ⟨rfl, fun h => by simp at h⟩⟩
    · intro f w1 hb hd
      have d0 : f 0 = (genV xn xr xm xz sX xL xG) := hd 0 (by kernel_rfl)
      clear hd
      dsimp only
      rw [d0]
      go_wp2_with fail
      refine (HGi.out xn xr xm xz sX xL xG w1).mono ?_
      rintro e w9 ⟨rfl, hb9⟩
      go_wp2_with fail
      exact ⟨rfl, hb9, fun t ht => by injection ht with ht; subst ht; exact ⟨rfl, fun h => by simp at h⟩⟩
    · intro f w1 hb hd
      clear hd
      dsimp only
      go_wp2_with fail
      exact ⟨rfl, Below.refl _ _, fun t ht => by injection ht with ht; subst ht; exact ⟨rfl, fun h => by simp at h⟩⟩
    · intro f w1 hb hd
      have d2 : f 2 = (.pointer (some ⟨b31, 0, none⟩)) := hd 2 (by kernel_rfl)
      clear hd
      dsimp only
      rw [d2]
      have hx := B31.out.below hb
      have q0 := hx.c0
      have q1 := hx.c1
      clear hx
      go_wp2_with fail
      exact ⟨rfl, Below.refl _ _, fun t ht => by injection ht with ht; subst ht; exact ⟨rfl, fun h => by simp at h⟩⟩
    · intro f w1 hb hd
      clear hd
      dsimp only
      go_wp2_with fail
      exact ⟨rfl, Below.refl _ _, fun t ht => by injection ht with ht; subst ht; exact ⟨rfl, fun h => by simp at h⟩⟩
    · intro f w1 hb hd
      have d4 : f 4 = (.pointer (some ⟨b31, 1, none⟩)) := hd 4 (by kernel_rfl)
      clear hd
      dsimp only
      rw [d4]
      have hx := B31.out.below hb
      have q0 := hx.c0
      have q1 := hx.c1
      clear hx
      go_wp2_with fail
      exact ⟨rfl, Below.refl _ _, fun t ht => by injection ht with ht; subst ht; exact ⟨rfl, fun h => by simp at h⟩⟩
    · intro f w1 hb hd
      clear hd
      dsimp only
      have hx := X17.out.below (bstep HBj.out hb)
      have q0 := hx.n0
      have q1 := hx.n1
      have q2 := hx.n2
      have q3 := hx.n3
      have q4 := hx.c0
      have q5 := hx.c1
      have q6 := hx.c2
      have q7 := hx.c3
      have q8 := hx.c4
      have q9 := hx.c5
      have q10 := hx.c6
      have q11 := hx.c7
      have q12 := hx.cl
      have q13 := hx.cg
      clear hx
      go_wp2_with fail
      exact ⟨rfl, Below.refl _ _, fun t ht => by injection ht with ht; subst ht; exact ⟨rfl, fun h => by simp at h⟩⟩
    · intro f w1 hb hd
      have d6 : f 6 = (genV on_ or_ om oz sO oL oG) := hd 6 (by kernel_rfl)
      clear hd
      dsimp only
      rw [d6]
      go_wp2_with fail
      refine (HGi.out on_ or_ om oz sO oL oG w1).mono ?_
      rintro e w9 ⟨rfl, hb9⟩
      go_wp2_with fail
      exact ⟨rfl, hb9, fun t ht => by injection ht with ht; subst ht; exact ⟨rfl, fun h => by simp at h⟩⟩
    · intro f w1 hb hd
      have d7 : f 7 = (genV on_ or_ om oz sO oL oG) := hd 7 (by kernel_rfl)
      clear hd
      dsimp only
      rw [d7]
      have hfm := field_map on_ or_ om oz sO oL oG w1
      go_wp2_with fail
      exact ⟨rfl, Below.refl _ _, fun t ht => by injection ht with ht; subst ht; exact ⟨rfl, fun h => by simp at h⟩⟩
    · intro f w1 hb hd
      have d1 : f 1 = (genV xn xr xm xz sX xL xG) := hd 1 (by kernel_rfl)
      have d3 : f 3 = (.int .i64 pk) := hd 3 (by kernel_rfl)
      have d5 : f 5 = (.int .i64 zk) := hd 5 (by kernel_rfl)
      have d8 : f 8 = (mapV sO oL oG) := hd 8 (by kernel_rfl)
      clear hd
      dsimp only
      rw [d1]
      rw [d3]
      rw [d5]
      rw [d8]
      go_wp2_with fail
      refine (HCp.out w1 (bstep HBj.out hb)).mono ?_
      rintro e w9 ⟨⟨s9, rfl, ho9⟩, hb9⟩
      go_wp2_with fail
      exact ⟨rfl, hb9, fun t ht => by injection ht with ht; subst ht; exact ⟨⟨s9, rfl, ho9⟩, fun h => by simp at h⟩⟩
    · intro f w1 hb hd
      obtain ⟨s9, d9, r9⟩ := show ∃ s, f 9 = .tuple #[genV tn tr tm tz s tL tG, .int .i64 er] ∧ RdM w1 s tf from hd 9 (by kernel_rfl)
      clear hd
      dsimp only
      rw [d9]
      go_wp2_with fail
      exact ⟨rfl, Below.refl _ _, fun t ht => by injection ht with ht; subst ht; exact ⟨⟨s9, rfl, r9⟩, fun h => by simp at h⟩⟩
    · intro f w1 hb hd
      obtain ⟨s10, d10, r10⟩ := show ∃ s, f 10 = .tuple #[genV tn tr tm tz s tL tG, .int .i64 er] ∧ RdM w1 s tf from hd 10 (by kernel_rfl)
      clear hd
      dsimp only
      rw [d10]
      go_wp2_with fail
      exact ⟨rfl, Below.refl _ _, fun t ht => by injection ht with ht; subst ht; exact ⟨⟨s10, rfl, r10⟩, fun h => by simp at h⟩⟩
    · intro f w1 hb hd
      obtain ⟨s10, d10, r10⟩ := show ∃ s, f 10 = .tuple #[genV tn tr tm tz s tL tG, .int .i64 er] ∧ RdM w1 s tf from hd 10 (by kernel_rfl)
      clear hd
      dsimp only
      rw [d10]
      go_wp2_with fail
      exact ⟨rfl, Below.refl _ _, fun t ht => by injection ht with ht; subst ht; exact ⟨rfl, fun h => by simp at h⟩⟩
  · intro f w5 hb hd hff
    clear hff
    obtain ⟨s5, d11, r5⟩ := show ∃ s, f 11 = genV tn tr tm tz s tL tG ∧ RdM w5 s tf from hd 11 (show 11 < 13 by decide)
    have d12 : f 12 = .int .i64 er := hd 12 (show 12 < 13 by decide)
    try dsimp only
    rw [d11, d12]
    clear hd d11 d12
    replace Row := Lib.hid (Row.out.below hb)
    replace X19 := Lib.hid (X19.out.below hb)
    replace X26 := Lib.hid (X26.out.below hb)
    replace X28 := Lib.hid (X28.out.below hb)
    replace B31 := Lib.hid (B31.out.below hb)
    replace HBj := Lib.hid (bstep HBj.out hb)
    have Y19 := Lib.hid (X19.out.pts_ne (show b19 ≠ b26 by omega) (genL tn tr tm tz s5 tL tG))
    have Y26 := Lib.hid (X26.out.genAll tn tr tm tz s5 tL tG)
    have Y28 := Lib.hid (X28.out.pts_ne (show b28 ≠ b26 by omega) (genL tn tr tm tz s5 tL tG))
    have Y31 := Lib.hid (B31.out.pts_ne (show b31 ≠ b26 by omega) (genL tn tr tm tz s5 tL tG))
    have YRow := Lib.hid (Row.out.pts_ne (show b185 ≠ b26 by omega) (genL tn tr tm tz s5 tL tG))
    have R26 := Lib.hid (pts_maps r5 X26.out (genL tn tr tm tz s5 tL tG))
    have Yj := Lib.hid (pts_below (B := w6.heap.size) (b := b26) hlo (genL tn tr tm tz s5 tL tG) HBj.out)
    clear r5 hb
    generalize f 0 = zq0, f 1 = zq1, f 2 = zq2, f 3 = zq3, f 4 = zq4, f 5 = zq5, f 6 = zq6, f 7 = zq7, f 8 = zq8, f 9 = zq9, f 10 = zq10
    clear f
    have x0 := X26.out.gen.n0
    have x1 := X26.out.gen.n1
    have x2 := X26.out.gen.n2
    have x3 := X26.out.gen.n3
    have x4 := X26.out.gen.c0
    have x5 := X26.out.gen.c1
    have x6 := X26.out.gen.c2
    have x7 := X26.out.gen.c3
    have x8 := X26.out.gen.c4
    have x9 := X26.out.gen.c5
    have x10 := X26.out.gen.c6
    have x11 := X26.out.gen.c7
    have x12 := X26.out.gen.cl
    have x13 := X26.out.gen.cg
    have xf := X26.out.gen.f
    change wpList _ _ _ (_ :: _ :: []) _ _
    go_wp2_with fail
    exact HK.out _ _ _ _ _ _ _ _ _ _ _ _ _ s5 _ YRow Y19 Y26 Y28 Y31 R26 Yj
  · intro f w5 hb hd hff
    clear hff
    obtain ⟨s5, d11, r5⟩ := show ∃ s, f 11 = genV tn tr tm tz s tL tG ∧ RdM w5 s tf from hd 11 (show 11 < 13 by decide) (show 11 ≠ 12 by decide)
    obtain ⟨s4, d10, r4⟩ := show ∃ s, f 10 = .tuple #[genV tn tr tm tz s tL tG, .int .i64 er] ∧ RdM w5 s tf from hd 10 (show 10 < 13 by decide) (show 10 ≠ 12 by decide)
    clear r4
    try dsimp only
    rw [d10, d11]
    clear hd d10 d11
    replace Row := Lib.hid (Row.out.below hb)
    replace X19 := Lib.hid (X19.out.below hb)
    replace X26 := Lib.hid (X26.out.below hb)
    replace X28 := Lib.hid (X28.out.below hb)
    replace B31 := Lib.hid (B31.out.below hb)
    replace HBj := Lib.hid (bstep HBj.out hb)
    have Y19 := Lib.hid (X19.out.pts_ne (show b19 ≠ b26 by omega) (genL tn tr tm tz s5 tL tG))
    have Y26 := Lib.hid (X26.out.genAll tn tr tm tz s5 tL tG)
    have Y28 := Lib.hid (X28.out.pts_ne (show b28 ≠ b26 by omega) (genL tn tr tm tz s5 tL tG))
    have Y31 := Lib.hid (B31.out.pts_ne (show b31 ≠ b26 by omega) (genL tn tr tm tz s5 tL tG))
    have YRow := Lib.hid (Row.out.pts_ne (show b185 ≠ b26 by omega) (genL tn tr tm tz s5 tL tG))
    have R26 := Lib.hid (pts_maps r5 X26.out (genL tn tr tm tz s5 tL tG))
    have Yj := Lib.hid (pts_below (B := w6.heap.size) (b := b26) hlo (genL tn tr tm tz s5 tL tG) HBj.out)
    clear r5 hb
    generalize f 0 = zq0, f 1 = zq1, f 2 = zq2, f 3 = zq3, f 4 = zq4, f 5 = zq5, f 6 = zq6, f 7 = zq7, f 8 = zq8, f 9 = zq9, f 12 = zq12
    clear f
    have x0 := X26.out.gen.n0
    have x1 := X26.out.gen.n1
    have x2 := X26.out.gen.n2
    have x3 := X26.out.gen.n3
    have x4 := X26.out.gen.c0
    have x5 := X26.out.gen.c1
    have x6 := X26.out.gen.c2
    have x7 := X26.out.gen.c3
    have x8 := X26.out.gen.c4
    have x9 := X26.out.gen.c5
    have x10 := X26.out.gen.c6
    have x11 := X26.out.gen.c7
    have x12 := X26.out.gen.cl
    have x13 := X26.out.gen.cg
    have xf := X26.out.gen.f
    change wpList _ _ _ (_ :: _ :: _ :: []) _ _
    go_wp2_with fail
    exact HK.out _ _ _ _ _ _ _ _ _ _ _ _ _ s5 _ YRow Y19 Y26 Y28 Y31 R26 Yj
set_option maxRecDepth 100000 in
set_option maxHeartbeats 16000000 in
theorem gc38 {u0 u1 u2 u3 u4 u5 u6 u7 u8 u9 u10 u11 u12 u13 u14 u15 u16 u18 u20 u21 u22 u23 u24 u25 u26 u27 u29 u30 u32 u33 u34 u35 u36 u37 u38 u39 u40 u41 u42 u43 u44 u45 u46 u47 u48 u49 u50 u51 u52 u53 u54 u55 u56 u57 u58 u59 u60 u61 u62 u63 u64 u65 u66 u67 u68 u69 u70 u71 u72 u73 u74 u75 u76 u77 u78 u79 u80 u81 u82 u83 u84 u85 u86 u87 u88 u89 u90 u91 u92 u93 u94 u95 u96 u97 u98 u99 u100 u101 u102 u103 u104 u105 u106 u107 u108 u109 u110 u111 u112 u113 u114 u115 u116 u117 u118 u119 u120 u121 u122 u123 u124 u125 u126 u127 u128 u129 u130 u131 u132 u133 u134 u135 u136 u137 u138 u139 u140 u141 u142 u143 u144 u145 u146 u147 u148 u149 u150 u151 u152 u153 u154 u155 u156 u157 u158 u159 u160 u161 u162 u163 u164 u165 u166 u167 u168 u169 u170 u171 u172 u173 u174 u175 u176 u177 u178 u179 u180 u181 u182 u183 u184 u185 u186 u187 u188 u189 u190 u191 u192 u193 u194 u195 u196 u197 u198 u199 u200 u201 u202 u203 u204 u205 u206 u207 u208 u209 u210 u211 u212 u213 u214 u215 u216 u217 u218 u219 u220 u221 u222 u223 u224 u225 u226 u227 : Value} {K : Act → World → Prop} {Q : Exit → Act → World → Prop} {w6 W : World} {b17 b19 b26 b28 b31 b185 : Nat} {xn xr xm xz xL xG : Int} {sX : Sl} {er tn tr tm tz tL tG : Int} {tf : Nat → List It} {s26 : Sl} {n28 r28 m28 z28 L28 G28 : Int} {q28 : Sl} {on_ or_ om oz oL oG pk zk : Int} {sO : Sl}
    (HCr : Hid (∀ W, Below w6.heap.size w6 W → Calls Tryz.prog 20 #[genV xn xr xm xz sX xL xG, .int .i64 pk, .int .i64 zk, mapV sO oL oG] W (GRd W er tn tr tm tz tf tL tG)))
    (hlo : w6.heap.size ≤ b26) (h19 : b19 < b26) (h28 : b26 < b28)
    (hbr : b28 < b185) (Row : Hid (Row3 W b185)) (X17 : Hid (BoxG w6 b17 on_ or_ om oz sO oL oG)) (B31 : Hid (Row2 W b31 pk zk))
    (X19 : Hid (BlkW W b19 (genC xn xr xm xz sX xL xG) 27)) (X26 : Hid (BlkW W b26 (genC tn tr tm tz s26 tL tG) 43)) (X28 : Hid (BlkW W b28 (genC n28 r28 m28 z28 q28 L28 G28) 27)) (R26 : Hid (RdM W s26 tf)) (HBj : Hid (Below w6.heap.size w6 W))
    (HK : Hid (∀ (v204 v205 v206 v207 v208 v209 v210 v211 v212 v213 v214 : Value) (s28 : Sl) (W' : World), Hid (Row3 W' b185) → Hid (BlkW W' b19 (genC xn xr xm xz sX xL xG) 27) → Hid (BlkW W' b26 (genC tn tr tm tz s26 tL tG) 43) → Hid (BlkW W' b28 (genC tn tr tm tz s28 tL tG) 27) → Hid (RdM W' s26 tf) → Hid (RdM W' s28 tf) → Hid (Below w6.heap.size w6 W') → K ⟨#[u0, u1, u2, u3, u4, u5, u6, u7, u8, u9, u10, u11, u12, u13, u14, u15, u16, .pointer (some ⟨b17, 0, none⟩), u18, .pointer (some ⟨b19, 0, none⟩), u20, u21, u22, u23, u24, u25, u26, u27, .pointer (some ⟨b28, 0, none⟩), .int .i64 er, u30, .pointer (some ⟨b31, 0, none⟩), u32, u33, u34, u35, u36, u37, u38, u39, u40, u41, u42, u43, u44, u45, u46, u47, u48, u49, u50, u51, u52, u53, u54, u55, u56, u57, u58, u59, u60, u61, u62, u63, u64, u65, u66, u67, u68, u69, u70, u71, u72, u73, u74, u75, u76, u77, u78, u79, u80, u81, u82, u83, u84, u85, u86, u87, u88, u89, u90, u91, u92, u93, u94, u95, u96, u97, u98, u99, u100, u101, u102, u103, u104, u105, u106, u107, u108, u109, u110, u111, u112, u113, u114, u115, u116, u117, u118, u119, u120, u121, u122, u123, u124, u125, u126, u127, u128, u129, u130, u131, u132, u133, u134, u135, u136, u137, u138, u139, u140, u141, u142, u143, u144, u145, u146, u147, u148, u149, u150, u151, u152, u153, u154, u155, u156, u157, u158, u159, u160, u161, u162, u163, u164, u165, u166, u167, u168, u169, u170, u171, u172, u173, u174, u175, u176, u177, u178, u179, u180, u181, u182, u183, u184, u185, u186, u187, u188, u189, u190, u191, u192, u193, u194, u195, u196, u197, u198, u199, u200, u201, u202, u203, v204, v205, v206, v207, v208, v209, v210, v211, v212, v213, v214, u215, u216, u217, u218, u219, u220, u221, u222, u223, u224, u225, u226, u227], []⟩ W')) :
    Code.wp Tryz.prog (gcReg 38) (Exit.then K Q) ⟨#[u0, u1, u2, u3, u4, u5, u6, u7, u8, u9, u10, u11, u12, u13, u14, u15, u16, .pointer (some ⟨b17, 0, none⟩), u18, .pointer (some ⟨b19, 0, none⟩), u20, u21, u22, u23, u24, u25, u26, u27, .pointer (some ⟨b28, 0, none⟩), u29, u30, .pointer (some ⟨b31, 0, none⟩), u32, u33, u34, u35, u36, u37, u38, u39, u40, u41, u42, u43, u44, u45, u46, u47, u48, u49, u50, u51, u52, u53, u54, u55, u56, u57, u58, u59, u60, u61, u62, u63, u64, u65, u66, u67, u68, u69, u70, u71, u72, u73, u74, u75, u76, u77, u78, u79, u80, u81, u82, u83, u84, u85, u86, u87, u88, u89, u90, u91, u92, u93, u94, u95, u96, u97, u98, u99, u100, u101, u102, u103, u104, u105, u106, u107, u108, u109, u110, u111, u112, u113, u114, u115, u116, u117, u118, u119, u120, u121, u122, u123, u124, u125, u126, u127, u128, u129, u130, u131, u132, u133, u134, u135, u136, u137, u138, u139, u140, u141, u142, u143, u144, u145, u146, u147, u148, u149, u150, u151, u152, u153, u154, u155, u156, u157, u158, u159, u160, u161, u162, u163, u164, u165, u166, u167, u168, u169, u170, u171, u172, u173, u174, u175, u176, u177, u178, u179, u180, u181, u182, u183, u184, u185, u186, u187, u188, u189, u190, u191, u192, u193, u194, u195, u196, u197, u198, u199, u200, u201, u202, u203, u204, u205, u206, u207, u208, u209, u210, u211, u212, u213, u214, u215, u216, u217, u218, u219, u220, u221, u222, u223, u224, u225, u226, u227], []⟩ W := by
  conv => arg 2; whnf
  have X17j := X17.out.below HBj.out
  have q0 := B31.out.c0
  have q1' := B31.out.c1
  have x0 := X19.out.gen.n0
  have x1 := X19.out.gen.n1
  have x2 := X19.out.gen.n2
  have x3 := X19.out.gen.n3
  have x4 := X19.out.gen.c0
  have x5 := X19.out.gen.c1
  have x6 := X19.out.gen.c2
  have x7 := X19.out.gen.c3
  have x8 := X19.out.gen.c4
  have x9 := X19.out.gen.c5
  have x10 := X19.out.gen.c6
  have x11 := X19.out.gen.c7
  have x12 := X19.out.gen.cl
  have x13 := X19.out.gen.cg
  have y4 := X17j.c0
  have y5 := X17j.c1
  have y6 := X17j.c2
  have y7 := X17j.c3
  have y8 := X17j.c4
  have y9 := X17j.c5
  have y10 := X17j.c6
  have y11 := X17j.c7
  have y12 := X17j.cl
  have y13 := X17j.cg
  go_wp2_with fail
  refine (HCr.out W HBj.out).mono ?_
  rintro e p2 ⟨⟨s28, rfl, hr⟩, hb⟩
  clear x0 x1 x2 x3 x4 x5 x6 x7 x8 x9 x10 x11 x12 x13
  clear X17j q0 q1' y4 y5 y6 y7 y8 y9 y10 y11 y12 y13
  replace Row := Lib.hid (Row.out.below hb)
  replace X19 := Lib.hid (X19.out.below hb)
  replace X26 := Lib.hid (X26.out.below hb)
  replace X28 := Lib.hid (X28.out.below hb)
  replace R26 := Lib.hid (R26.out.below hb)
  replace HBj := Lib.hid (bstep HBj.out hb)
  clear hb HCr
  have y0 := X28.out.gen.n0
  have y1 := X28.out.gen.n1
  have y2 := X28.out.gen.n2
  have y3 := X28.out.gen.n3
  have y4 := X28.out.gen.c0
  have y5 := X28.out.gen.c1
  have y6 := X28.out.gen.c2
  have y7 := X28.out.gen.c3
  have y8 := X28.out.gen.c4
  have y9 := X28.out.gen.c5
  have y10 := X28.out.gen.c6
  have y11 := X28.out.gen.c7
  have y12 := X28.out.gen.cl
  have y13 := X28.out.gen.cg
  have yf := X28.out.gen.f
  have Y19 := Lib.hid (X19.out.pts_ne (show b19 ≠ b28 by omega) (genL tn tr tm tz s28 tL tG))
  have Y26 := Lib.hid (X26.out.pts_ne (show b26 ≠ b28 by omega) (genL tn tr tm tz s28 tL tG))
  have Y28 := Lib.hid (X28.out.genAll tn tr tm tz s28 tL tG)
  have Y26r := Lib.hid (pts_maps R26.out X28.out (genL tn tr tm tz s28 tL tG))
  have R28 := Lib.hid (pts_maps hr X28.out (genL tn tr tm tz s28 tL tG))
  have YRow := Lib.hid (Row.out.pts_ne (show b185 ≠ b28 by omega) (genL tn tr tm tz s28 tL tG))
  have Yj := Lib.hid (pts_below (B := w6.heap.size) (b := b28) (by omega) (genL tn tr tm tz s28 tL tG) HBj.out)
  clear hr
  go_wp2_with fail
  exact HK.out _ _ _ _ _ _ _ _ _ _ _ s28 _ YRow Y19 Y26 Y28 Y26r R28 Yj
end Go.Proofs.YtenkeodfijladaaGreatDoor
