/- The contract of made: it makes some valid schedule of at most 40 entries. -/
import Derived.Test.YtffmdhloplindaaWk
import Derived.Lib.SmallJoins
import Derived.Lib.OwnKind
import Derived.OneCell
import Derived.StillTailTactics
namespace Go.Proofs.Ytffmdhloplindaa
open Go.RowKit Go.Maps

/-- What is known of the list of runnable tasks after t rounds. -/
structure RunOk (rl : List Int) (t : Nat) : Prop where
  asc : Pl.Asc rl
  bnd : ∀ x ∈ rl, 0 ≤ x ∧ x < (t : Int)
  pos : 0 < t → 0 < rl.length
  len : rl.length ≤ t
theorem RunOk.nil : RunOk [] 0 := ⟨fun _ h => by simp at h, fun _ h => (by cases h), fun h => absurd h (by decide), Nat.le_refl _⟩
theorem RunOk.skip {rl : List Int} {t : Nat} (h : RunOk rl t) (ht : 0 < t) : RunOk rl (t + 1) :=
  ⟨h.asc, fun x hx => by have := h.bnd x hx; omega, fun _ => h.pos ht, by have := h.len; omega⟩
theorem at0_mem {l : List Int} {j : Nat} (h : j < l.length) : Pl.at0 l j ∈ l := by
  unfold Pl.at0; rw [List.getD_eq_getElem?_getD, List.getElem?_eq_getElem h]; exact List.getElem_mem h
theorem RunOk.snoc {rl : List Int} {t : Nat} (h : RunOk rl t) : RunOk (rl ++ [(t : Int)]) (t + 1) := by
  refine ⟨fun j hj => ?_, fun x hx => ?_, fun _ => by simp, by have := h.len; simp; omega⟩
  · rw [List.length_append] at hj
    simp at hj
    have e1 : Pl.at0 (rl ++ [(t : Int)]) j = Pl.at0 rl j := by
      unfold Pl.at0; rw [List.getD_eq_getElem?_getD, List.getD_eq_getElem?_getD, List.getElem?_append_left (by omega)]
    rw [e1]
    by_cases hl : j + 1 < rl.length
    · have e2 : Pl.at0 (rl ++ [(t : Int)]) (j + 1) = Pl.at0 rl (j + 1) := by
        unfold Pl.at0; rw [List.getD_eq_getElem?_getD, List.getD_eq_getElem?_getD, List.getElem?_append_left hl]
      rw [e2]; exact h.asc j hl
    · have e2 : Pl.at0 (rl ++ [(t : Int)]) (j + 1) = (t : Int) := by
        unfold Pl.at0; rw [List.getD_eq_getElem?_getD, List.getElem?_append_right (by omega), show j + 1 - rl.length = 0 by omega]; rfl
      rw [e2]; exact (h.bnd _ (at0_mem (by omega))).2
  · rcases List.mem_append.1 hx with hx | hx
    · have := h.bnd x hx; omega
    · rw [List.mem_singleton] at hx; subst hx; omega
/-- An entry that made makes. -/
def MadeEn (e : En) : Prop := enOk e = true ∧ e.run.length ≤ 5 ∧ ∀ x ∈ e.run, 0 ≤ x ∧ x < 5
theorem RunOk.made {rl : List Int} (h : RunOk rl 5) {j : Nat} (hj : j < rl.length) : MadeEn ⟨rl, Pl.at0 rl j⟩ := by
  refine ⟨?_, h.len, fun x hx => by have := h.bnd x hx; omega⟩
  unfold enOk
  rw [Bool.and_eq_true]
  exact ⟨(Pl.asc_iff _).2 h.asc, List.contains_iff_mem.2 (at0_mem hj)⟩
def Made (es : List En) : Prop := es.length ≤ 40 ∧ ∀ e ∈ es, MadeEn e
theorem Made.valid {es : List En} (h : Made es) : validB es = true := List.all_eq_true.2 fun e he => (h.2 e he).1
theorem Made.tiny {es : List En} (h : Made es) : Tiny es := ⟨by have := h.1; omega, fun j hj => by have := (h.2 _ (enAt_mem hj)).2.1; omega⟩
theorem Made.wf {es : List En} (h : Made es) : AllWf es := fun e he x hx => by
  have := (h.2 e he).2.2 x hx
  exact WalkArith.wf_i64 (by omega)

/-- What the call owns stays while only new memory is touched. -/
theorem own_keep {w w' : World} {base : Nat} {e : TypeId} {sz : Nat} {v : Value} {n : Nat} {xs : List Value} (h : w.ownsRow base e sz v n xs) (hb : Below w.heap.size w w') : w'.ownsRow base e sz v n xs := by
  refine ⟨h.1, ?_⟩
  rcases h.2 with hn | ⟨g, cap, cur, rfl, hg, hh, rest⟩
  · exact .inl hn
  · exact .inr ⟨g, cap, cur, rfl, hg, by rw [hb.block g (Array.getElem?_eq_some_iff.1 hh).1]; exact hh, rest⟩
theorem own_lower {w : World} {base base' : Nat} {e : TypeId} {sz : Nat} {v : Value} {n : Nat} {xs : List Value} (h : w.ownsRow base e sz v n xs) (hb : base' ≤ base) : w.ownsRow base' e sz v n xs := by
  refine ⟨h.1, ?_⟩
  rcases h.2 with hn | ⟨g, cap, cur, rfl, hg, hh, rest⟩
  · exact .inl hn
  · exact .inr ⟨g, cap, cur, rfl, by omega, hh, rest⟩
theorem own_ne {w : World} {B B' : Nat} {e e' : TypeId} {size size' n n' : Nat} {v v' : Value} {xs xs' : List Value} (h : w.ownsRow B e size v n xs) (h' : w.ownsRow B' e' size' v' n' xs') (hne : e ≠ e') : v.ownBlock = none ∨ v.ownBlock ≠ v'.ownBlock := by
  cases hv : v.ownBlock with
  | none => exact .inl rfl
  | some g =>
    refine .inr fun he => ?_
    obtain ⟨c, fz, h1⟩ := Lib.ownsRow_kind h g hv
    obtain ⟨c', fz', h2⟩ := Lib.ownsRow_kind h' g he.symm
    rw [h1] at h2
    injection h2 with h2
    injection h2 with _ h3
    exact hne h3
/-- The runs of the entries made so far, each in a block of its own. -/
def Runs (w : World) (B : Nat) (ps : List (Value × En)) : Prop := ∀ p ∈ ps, w.ownsRow B 3 1 p.1 p.2.run.length (p.2.run.map intV) ∧ MadeEn p.2
theorem Runs.keep {w w' : World} {B : Nat} {ps : List (Value × En)} (h : Runs w B ps) (hb : Below w.heap.size w w') : Runs w' B ps := fun p hp => ⟨own_keep (h p hp).1 hb, (h p hp).2⟩
theorem Runs.app {w w' : World} {B : Nat} {ps : List (Value × En)} {v : Value} {n : Nat} {xs : List Value} (h : Runs w B ps) (ho : w.ownsRow B 55 2 v n xs) (hg : w.grownBy w' v.ownBlock) : Runs w' B ps :=
  fun p hp => ⟨(h p hp).1.kept hg (own_ne (h p hp).1 ho (by decide)), (h p hp).2⟩
theorem Runs.snoc {w : World} {B : Nat} {ps : List (Value × En)} {p : Value × En} (h : Runs w B ps) (h1 : w.ownsRow B 3 1 p.1 p.2.run.length (p.2.run.map intV)) (h2 : MadeEn p.2) : Runs w B (ps ++ [p]) := by
  intro q hq
  rcases List.mem_append.1 hq with hq | hq
  · exact h q hq
  · rw [List.mem_singleton] at hq; subst hq; exact ⟨h1, h2⟩
/-- The variable e: a block of two cells. -/
def Box2 (w : World) (b : Nat) (u v : Value) : Prop := w.heap[b]? = some (.cells #[u, v] 55 (0, 0))
theorem Box2.c0 {w : World} {b : Nat} {u v : Value} (h : Box2 w b u v) : w.cell? ⟨b, 0, none⟩ = some u := by rw [cell_of_row w b 0 _ _ _ h]; rfl
theorem Box2.c1 {w : World} {b : Nat} {u v : Value} (h : Box2 w b u v) : w.cell? ⟨b, 1, none⟩ = some v := by rw [cell_of_row w b 1 _ _ _ h]; rfl
theorem Box2.free {w : World} {b : Nat} {u v : Value} (h : Box2 w b u v) (j : Nat) : w.frozen? ⟨b, j, none⟩ = false := frozen_of_row w b j _ _ h
theorem Box2.set0 {w : World} {b : Nat} {u v : Value} (h : Box2 w b u v) (x : Value) : Box2 (w.setCell ⟨b, 0, none⟩ x) b x v := by unfold Box2; rw [Joins.block_setCell h]; rfl
theorem Box2.set1 {w : World} {b : Nat} {u v : Value} (h : Box2 w b u v) (x : Value) : Box2 (w.setCell ⟨b, 1, none⟩ x) b u x := by unfold Box2; rw [Joins.block_setCell h]; rfl
theorem Box2.kept {w w' : World} {b : Nat} {u v : Value} (h : Box2 w b u v) {row : Option Nat} (hg : w.grownBy w' row) (hr : some b ≠ row) : Box2 w' b u v := by
  unfold Box2; rw [hg.block b (lt_of_block h) hr]; exact h
theorem Box2.alloc {w : World} {b : Nat} {u v : Value} (h : Box2 w b u v) (o : Obj) : Box2 (w.alloc o) b u v := h.kept (World.grownBy_alloc w o none) (by simp)
theorem Box2.new (w : World) (u v : Value) : Box2 (w.alloc (.cells #[u, v] 55)) w.heap.size u v := by unfold Box2; simpa using heap_alloc_new w _
theorem Box2.drew {w : World} {b : Nat} {u v : Value} (h : Box2 w b u v) : Box2 w.drew b u v := h
theorem made_step {w wo ws w2 : World} {ps : List (Value × En)} {vo : Value} {k : Nat} {r : Value} {e : En} {B : Nat} (o : Obj) (hb : Below w.heap.size w wo) (hbs : Below wo.heap.size wo ws)
    (ho : ws.ownsRow w.heap.size 55 2 vo k (ps.flatMap enCells)) (hrs : Runs ws w.heap.size ps) (hrn : ws.ownsRow B 3 1 r e.run.length (e.run.map intV)) (hB : w.heap.size ≤ B) (hm : MadeEn e)
    (hg : (ws.alloc o).drew.grownBy w2 vo.ownBlock) : Runs w2 w.heap.size (ps ++ [(r, e)]) ∧ Below w.heap.size w w2 := by
  have h1 : Below ws.heap.size ws (ws.alloc o).drew := ((Below.refl _ _).alloc (Nat.le_refl _) _).drew
  have h2 : (ws.alloc o).drew.ownsRow w.heap.size 55 2 vo k (ps.flatMap enCells) := own_keep ho h1
  have h3 : (ws.alloc o).drew.ownsRow w.heap.size 3 1 r e.run.length (e.run.map intV) := own_keep (own_lower hrn hB) h1
  have hbb : Below w.heap.size w ws := bup hb hb.size hbs
  exact ⟨((hrs.keep h1).app h2 hg).snoc (h3.kept hg (own_ne h3 h2 (by decide))) hm, own_below (bup hbb hbb.size h1) h2 (Nat.le_trans hbb.size h1.size) hg⟩
theorem box_app {w w2 : World} {b : Nat} {x : Value} {v : Value} {n : Nat} {xs : List Value} {o : Obj} (h : Box2 w b v x) (ho : w.ownsRow (b + 1) 3 1 v n xs) (hg : (w.alloc o).grownBy w2 v.ownBlock) : Box2 w2 b v x :=
  (h.alloc o).kept hg fun e => by have := (ho.lt b e.symm).1; omega
theorem bit_zero (m : Nat) (h : m < 256) : bits .and .u8 (bits .or .u8 (m : Int) 1) 1 = 1 := by
  have X : ∀ m : Fin 256, bits .and .u8 (bits .or .u8 (m.val : Int) 1) 1 = 1 := by decide +kernel
  exact X ⟨m, h⟩

set_option maxHeartbeats 4000000 in
theorem made_any (vm vp : Value) (ms qs : List UInt8) (w : World) (hm : RdB w vm ms) (hp : RdB w vp qs) :
    Calls Try.prog 14 #[vm, vp] w fun e w' => ∃ v' es, e = .returned v' ∧ RdE w' v' es ∧ Made es ∧ Below w.heap.size w w' := by
  obtain ⟨a, cap, rfl, a1, a2, a3, a4⟩ := hm.shape 0
  obtain ⟨a', cap', rfl, b1, b2, b3, b4⟩ := hp.shape 0
  have HM := Lib.hid a4
  have HP := Lib.hid b4
  clear hm hp a4 b4
  unfold maxLen at a2 b2
  generalize hn : ms.length = n at *
  generalize hq : qs.length = q at *
  go_enter Try.func14, Try.ntmps14
  go_wp2_with fail
  go_loopw [5, 6] (fun v iv wr => ∃ k : Nat, ∃ ps : List (Value × En), iv = .int .i64 (k : Int) ∧ k ≤ n ∧ k ≤ 40 ∧ ps.length = k ∧ wr.ownsRow w.heap.size 55 2 v k (ps.flatMap enCells) ∧ Runs wr w.heap.size ps ∧ Below w.heap.size w wr) (fun _ iv _ => 40 - (intOf iv).toNat)
  case atStart => exact ⟨0, [], rfl, Nat.zero_le _, by decide, rfl, World.ownsRow_nil _ _ _ _, fun _ h => (by cases h), Below.refl _ _⟩
  case round =>
    obtain ⟨k, ps, rfl, hk, hk40, hpl, hown, hall, hbel⟩ := hrel
    have Hown := Lib.hid hown
    have Hall := Lib.hid hall
    have Hb := Lib.hid hbel
    have hB := hbel.size
    clear hown hall hbel
    by_cases hlt : k < n
    · by_cases h40 : k < 40
      · obtain ⟨b, off, rfl, hc⟩ := HM.out (by omega)
        have hm0 := (ms.getD k 0).toNat_lt
        have HC := Lib.hid (hc k hlt)
        clear hc
        generalize ms.getD k 0 = mb at *
        go_wp2_with fail
        obtain ⟨wo, ewo⟩ : ∃ wo : World, wo = wr := ⟨_, rfl⟩
        subst ewo
        have HX := Lib.hid (Box2.new wo (.slice none 0 0) (.int .i64 0))
        have HY := Lib.hid ((Below.refl wo.heap.size wo).alloc (Nat.le_refl _) (.cells #[.slice none 0 0, .int .i64 0] 55))
        have hY := HY.out.size
        have hZ : (wo.alloc (.cells #[.slice none 0 0, .int .i64 0] 55)).heap.size = wo.heap.size + 1 := by simp
        generalize (wo.alloc (.cells #[.slice none 0 0, .int .i64 0] 55)) = wa at *
        generalize hbe : wo.heap.size = be at *
        go_loopw [8] (fun tv wi => ∃ t : Nat, ∃ rl : List Int, ∃ v : Value, tv = .int .i64 (t : Int) ∧ t ≤ 5 ∧ RunOk rl t ∧ Box2 wi be v (.int .i64 0) ∧ wi.ownsRow (be + 1) 3 1 v rl.length (rl.map intV) ∧ Below be wo wi) (fun tv _ => 5 - (intOf tv).toNat)
        case atStart => exact ⟨0, [], _, rfl, by decide, RunOk.nil, HX.out, World.ownsRow_nil _ _ _ _, HY.out⟩
        case round =>
          obtain ⟨t, rl, v, rfl, ht, hrun, hbox, hrow, hbi⟩ := hrel
          have Hrun := Lib.hid hrun
          have Hbox := Lib.hid hbox
          have Hrow := Lib.hid hrow
          have Hbi := Lib.hid hbi
          have hsz := hbi.size
          have hszb := lt_of_block hbox
          clear hrun hrow hbi
          by_cases ht5 : t < 5
          · have hcell := Below.keeps ((hbe ▸ Hbi.out : Below wo.heap.size wo wr)) _ _ (Below.keeps Hb.out _ _ HC.out)
            have hb0 := hbox.c0
            clear hbox
            by_cases hbit : (bits .and .u8 (bits .or .u8 (mb.toNat : Int) 1 / 2 ^ t) 1 == 1) = true
            · go_wp2_with (at_builtin; refine wpList_app rfl (.tmp 35) (.tmp 37) 22 rfl elem22 (be + 1) rfl (Hrow.out.alloc _) rfl (rd_one _ _ _) (one_map intV (fun _ => rfl) [(t : Int)]) (by have := Hrun.out.len; unfold maxLen; omega) (by have := Hrun.out.len; omega) (by simp; omega) ?_; intro v2 w2 hown2 hgr2 hv2; clear hv2; obtain ⟨_, a9, c9, ev9, _⟩ := own_rd hown2; subst ev9; have hbx := box_app Hbox.out Hrow.out hgr2; have HBX := Lib.hid hbx; have hd0 := hbx.c0; have hf0 := hbx.free 0; clear hbx)
              have hO : w2.ownsRow (be + 1) 3 1 (.slice a9 (rl.length + 1) c9) (rl ++ [(t : Int)]).length ((rl ++ [(t : Int)]).map intV) := by rw [List.length_append, map_snoc]; exact hown2
              have hBB : Below be wo (w2.setCell ⟨be, 0, none⟩ (.slice a9 (rl.length + 1) c9)) := (own_below (Hbi.out.alloc (by omega) _) ((own_lower Hrow.out (by omega)).alloc _) (by simp; omega) hgr2).setCell (Nat.le_refl _) _
              have hdec : decide ((k : Int) < 40) = true := by simp; omega
              rw [hdec]
              go_roundw
              case rel => exact ⟨t + 1, rl ++ [(t : Int)], _, by go_num, by omega, Hrun.out.snoc, HBX.out.set0 _, ownsRow_setCell_below hO (by simp) _, hBB⟩
              case measure => simp [intOf]; omega
            · have ht0 : 0 < t := by
                rcases Nat.eq_zero_or_pos t with h0 | h0
                · subst h0
                  exact absurd (by rw [show (bits .or .u8 (mb.toNat : Int) 1 / 2 ^ 0) = bits .or .u8 (mb.toNat : Int) 1 by simp, bit_zero _ hm0]; rfl) hbit
                · exact h0
              go_wp2_with fail
              exact ⟨⟨t + 1, rl, v, by go_num, by omega, Hrun.out.skip ht0, Hbox.out, Hrow.out, Hbi.out⟩, by simp [intOf]; omega⟩
          · obtain rfl : t = 5 := by omega
            obtain ⟨_, ar, cr, rfl, _⟩ := own_rd Hrow.out
            have hb0 := hbox.c0
            have hrp := Hrun.out.pos (by decide)
            have hrl := Hrun.out.len
            obtain ⟨_, _, e9, _, _, _, hsh⟩ := (own_rdl (f := intV) Hrow.out).shape 0
            injection e9 with e9 _ e9c
            subst e9
            subst e9c
            obtain ⟨br, offr, rfl, hcr⟩ := hsh hrp
            have hf0 := hbox.free 1
            have hb1 := hbox.c1
            clear hbox hsh
            by_cases hkq : k < q
            · obtain ⟨b5, off5, rfl, hcq⟩ := HP.out (by omega)
              have hcell := Below.keeps ((hbe ▸ Hbi.out : Below wo.heap.size wo wr)) _ _ (Below.keeps Hb.out _ _ (hcq k hkq))
              clear hcq
              generalize qs.getD k 0 = pb at *
              have hpb := pb.toNat_lt
              have hrne : rl ≠ [] := by intro h; subst h; simp at hrp
              have hj : pb.toNat % rl.length < rl.length := Nat.mod_lt _ hrp
              have hcell2 := hcr _ hj
              have htm : Int.tmod (pb.toNat : Int) (rl.length : Int) = ((pb.toNat % rl.length : Nat) : Int) := rfl
              clear hcr
              generalize pb.toNat % rl.length = j at *
              have HMd := Lib.hid (Hrun.out.made hj)
              unfold Pl.at0 at HMd
              generalize rl.getD j 0 = x at *
              have hBs : Below be wo (wr.setCell ⟨be, 1, none⟩ (.int .i64 x)) := Hbi.out.setCell (Nat.le_refl _) _
              have HBs := Lib.hid hBs
              have hBt : Below wo.heap.size wo (wr.setCell ⟨be, 1, none⟩ (.int .i64 x)) := by rw [hbe]; exact hBs
              have HOs := Lib.hid (own_keep Hown.out hBt)
              have HRs := Lib.hid (Hall.out.keep hBt)
              have HBt := Lib.hid hBt
              clear hBt
              have HRn : Hid ((wr.setCell ⟨be, 1, none⟩ (.int .i64 x)).ownsRow (be + 1) 3 1 _ rl.length (rl.map intV)) := Lib.hid (ownsRow_setCell_below Hrow.out (by simp) _)
              have hs0 := (Hbox.out.set1 (.int .i64 x)).c0
              have hs1 := (Hbox.out.set1 (.int .i64 x)).c1
              clear hBs
              go_wp2_with fail
              refine wp_region_still_tail 10 (by kernel_rfl) (by kernel_rfl) ?_
              simp only [List.take_succ_cons, List.take_zero, List.drop_succ_cons, List.drop_zero]
              change wpStill Try.prog _ wr.drew _ _ _
              repeat still_step
              refine wpStill_nil ?_
              change wpList _ _ _ _ _ wr.drew
              go_wp2_with (at_builtin; refine wpList_app rfl (.tmp 59) (.tmp 61) 33 rfl elem33 w.heap.size rfl (HOs.out.alloc _).drew rfl (rd_two _ _ _ _ _ (by simp)).drew (by intro u hu; simp at hu; rcases hu with rfl | rfl <;> rfl) (by unfold maxLen; omega) (by omega) (by simp; omega) ?_; intro v2 w2 hown2 hgr2 hv2; clear hv2)
              have hms := made_step _ Hb.out HBt.out HOs.out HRs.out HRn.out (by omega) HMd.out hgr2
              exact ⟨⟨k + 1, ps ++ [(_, ⟨rl, x⟩)], by go_num, by omega, by omega, by simp; omega, by rw [flat_snoc]; exact hown2, hms.1, hms.2⟩, by simp [intOf]; omega⟩
            · have hrne : rl ≠ [] := by intro h; subst h; simp at hrp
              have hj : 0 % rl.length < rl.length := Nat.mod_lt _ hrp
              have hcell2 := hcr _ hj
              have htm : Int.tmod (0 : Int) (rl.length : Int) = ((0 % rl.length : Nat) : Int) := by simp
              clear hcr
              rw [Nat.zero_mod] at hj hcell2 htm
              rw [Nat.add_zero] at hcell2
              have HMd := Lib.hid (Hrun.out.made hj)
              unfold Pl.at0 at HMd
              generalize rl.getD 0 0 = x at *
              have hBs : Below be wo (wr.setCell ⟨be, 1, none⟩ (.int .i64 x)) := Hbi.out.setCell (Nat.le_refl _) _
              have HBs := Lib.hid hBs
              have hBt : Below wo.heap.size wo (wr.setCell ⟨be, 1, none⟩ (.int .i64 x)) := by rw [hbe]; exact hBs
              have HOs := Lib.hid (own_keep Hown.out hBt)
              have HRs := Lib.hid (Hall.out.keep hBt)
              have HBt := Lib.hid hBt
              clear hBt
              have HRn : Hid ((wr.setCell ⟨be, 1, none⟩ (.int .i64 x)).ownsRow (be + 1) 3 1 _ rl.length (rl.map intV)) := Lib.hid (ownsRow_setCell_below Hrow.out (by simp) _)
              have hs0 := (Hbox.out.set1 (.int .i64 x)).c0
              have hs1 := (Hbox.out.set1 (.int .i64 x)).c1
              clear hBs
              go_wp2_with fail
              refine wp_region_still_tail 10 (by kernel_rfl) (by kernel_rfl) ?_
              simp only [List.take_succ_cons, List.take_zero, List.drop_succ_cons, List.drop_zero]
              change wpStill Try.prog _ wr.drew _ _ _
              repeat still_step
              refine wpStill_nil ?_
              change wpList _ _ _ _ _ wr.drew
              go_wp2_with (at_builtin; refine wpList_app rfl (.tmp 59) (.tmp 61) 33 rfl elem33 w.heap.size rfl (HOs.out.alloc _).drew rfl (rd_two _ _ _ _ _ (by simp)).drew (by intro u hu; simp at hu; rcases hu with rfl | rfl <;> rfl) (by unfold maxLen; omega) (by omega) (by simp; omega) ?_; intro v2 w2 hown2 hgr2 hv2; clear hv2)
              have hms := made_step _ Hb.out HBt.out HOs.out HRs.out HRn.out (by omega) HMd.out hgr2
              exact ⟨⟨k + 1, ps ++ [(_, ⟨rl, x⟩)], by go_num, by omega, by omega, by simp; omega, by rw [flat_snoc]; exact hown2, hms.1, hms.2⟩, by simp [intOf]; omega⟩
      · go_wp2_with fail
        go_ret
        exact ⟨_, _, rfl, own_rde Hown.out (fun p hp => own_rdl (Hall.out p hp).1), ⟨by simp; omega, fun e he => by obtain ⟨p, hp, rfl⟩ := List.mem_map.1 he; exact (Hall.out p hp).2⟩, Hb.out⟩
    · go_wp2_with fail
      go_ret
      exact ⟨_, _, rfl, own_rde Hown.out (fun p hp => own_rdl (Hall.out p hp).1), ⟨by simp; omega, fun e he => by obtain ⟨p, hp, rfl⟩ := List.mem_map.1 he; exact (Hall.out p hp).2⟩, Hb.out⟩
end Go.Proofs.Ytffmdhloplindaa
