/- Several texts in one, each over the last: slices.Backward over places: its closure's contract, the function, what it hands back. Printed by mkSkv.py after XVb and XVc. Older of the program's slots: the walk (after XVg). Printed by mkSkw.py. Items of the program's slots: the walk; what both Items answer, in plain Lean. Printed by mkSkx.py. Items of the reference's slots: the walk. Printed by mkSky.py. -/
import Derived.Test.YtenkeodfijladaaGreatVB
import Derived.RangeFuncNested
import Derived.Test.YtenkeodfijladaaGreatSB
import Derived.Test.YtenkeodfijladaaGreatSC
import Derived.Test.YtenkeodfijladaaGreatSD
import Derived.Test.YtenkeodfijladaaGreatGA
import Derived.Test.YtenkeodfijladaaGreatPm
import Derived.Test.YtenkeodfijladaaGreatGL
namespace Go.Proofs.YtenkeodfijladaaGreat
open Go.RowKit Go.Shelf

attribute [local go_sem] Oper.semAt_some

abbrev fdV (x : Fnd) : Value := .agg #[.int .i64 x.gen, .int .i64 x.mode, .int .i64 x.rev, .int .u64 x.it.key, .int .u32 x.it.ck, .int .i64 x.it.off, .int .i64 x.it.size, .int .i64 (x.at_ : Int)]
/-- A place with its index in eight cells. -/
structure FAt (W : World) (b o : Nat) (x : Fnd) : Prop where
  c0 : W.cell? ⟨b, o, none⟩ = some (.int .i64 x.gen)
  c1 : W.cell? ⟨b, o + 1, none⟩ = some (.int .i64 x.mode)
  c2 : W.cell? ⟨b, o + 2, none⟩ = some (.int .i64 x.rev)
  c3 : W.cell? ⟨b, o + 3, none⟩ = some (.int .u64 x.it.key)
  c4 : W.cell? ⟨b, o + 4, none⟩ = some (.int .u32 x.it.ck)
  c5 : W.cell? ⟨b, o + 5, none⟩ = some (.int .i64 x.it.off)
  c6 : W.cell? ⟨b, o + 6, none⟩ = some (.int .i64 x.it.size)
  c7 : W.cell? ⟨b, o + 7, none⟩ = some (.int .i64 (x.at_ : Int))
theorem FAt.below {W W' : World} {b o : Nat} {x : Fnd} (h : FAt W b o x) (hb : Below W.heap.size W W') : FAt W' b o x := ⟨hb.keeps' h.c0, hb.keeps' h.c1, hb.keeps' h.c2, hb.keeps' h.c3, hb.keeps' h.c4, hb.keeps' h.c5, hb.keeps' h.c6, hb.keeps' h.c7⟩
def fat (l : List Fnd) (i : Nat) : Fnd := l.getD i fnd0
theorem RdFd.at {w : World} {a : Option Addr} {n c : Nat} {l : List Fnd} (h : RdFd w (.slice a n c) l) : n = l.length ∧ (0 < n → ∃ b off, a = some ⟨b, off, none⟩ ∧ ∀ j, j < n → FAt w b (off + j * 8) (fat l j)) := by
  obtain ⟨a', cap', e, _, _, _, h5⟩ := RdS.shape h (by decide) fnd0
  injection e with e1 e2 e3
  subst e1 e2 e3
  refine ⟨rfl, fun hp => ?_⟩
  obtain ⟨b, off, e, hc⟩ := h5 hp
  refine ⟨b, off, e, fun j hj => ?_⟩
  have g := fun i u hu => hc j hj i u hu
  exact ⟨by have := g 0 _ rfl; simpa [Nat.add_assoc, fat] using this, by have := g 1 _ rfl; simpa [Nat.add_assoc, fat] using this, by have := g 2 _ rfl; simpa [Nat.add_assoc, fat] using this, by have := g 3 _ rfl; simpa [Nat.add_assoc, fat] using this, by have := g 4 _ rfl; simpa [Nat.add_assoc, fat] using this, by have := g 5 _ rfl; simpa [Nat.add_assoc, fat] using this, by have := g 6 _ rfl; simpa [Nat.add_assoc, fat] using this, by have := g 7 _ rfl; simpa [Nat.add_assoc, fat] using this⟩
/-- What a round keeps: the places' block and the iterator's box. -/
def KpF (b Bs : Nat) (W W' : World) : Prop := ∀ p : Addr, (p.block = b ∨ p.block = Bs) → ∀ v, W.cell? p = some v → W'.cell? p = some v
theorem KpF.refl (b Bs : Nat) (W : World) : KpF b Bs W W := fun _ _ _ h => h
theorem KpF.trans {b Bs : Nat} {A B C : World} (h : KpF b Bs A B) (k : KpF b Bs B C) : KpF b Bs A C := fun p hp v hv => k p hp v (h p hp v hv)
theorem KpF.put {b Bs : Nat} {w : World} (hb : b < w.heap.size) (hB : Bs < w.heap.size) (W : World) (l : Nat) (o o' : Obj) (hl : w.heap.size ≤ l) (h : W.heap[l]? = some o) (h1 : o.isCells = false) (h2 : o.isWalk = false) : KpF b Bs W (W.putObj l o') := fun p hp v hv =>
  ((belowK_b (n₀ := p.block + 1) (w := w) (by rcases hp with e | e <;> omega) W l o o' hl h h1 h2).cell (p := p) (Nat.lt_succ_self _)).trans hv
theorem KpF.below {b Bs : Nat} {W W' : World} (h : Below W.heap.size W W') : KpF b Bs W W' := fun _ _ _ hv => h.keeps' hv
set_option maxRecDepth 100000 in
set_option maxHeartbeats 4000000 in
theorem back1f_in (F : Fence) (n : Nat) (hf : F.fn 105) (hro : F.round = none) (hn : 1 ≤ n) (l Bs b off len cap : Nat) (a : Option Addr) (ha : 0 < len → a = some ⟨b, off, none⟩) (L : List Fnd) (hlen : len ≤ 8) (J Jx : List Nat → World → Prop)
    (hY : ∀ pre (x : Nat) W, J pre W → pre.length < len → YieldAt F (n - 1) Tryz.prog l #[.int .i64 (x : Int), fdV (fat L x)] W fun e W' =>
      (e = .returned (.bool true) ∧ J (pre ++ [x]) W' ∧ KpF b Bs W W') ∨ (e = .returned (.bool false) ∧ Jx (pre ++ [x]) W'))
    (W : World) (hBs : W.cell? ⟨Bs, 0, none⟩ = some (.slice a len cap)) (hc : ∀ j, j < len → FAt W b (off + j * 8) (fat L j)) (h0 : J [] W) :
    CallsIn F n Tryz.prog 105 #[.func (.yield l) #[] #[], .pointer (some ⟨Bs, 0, none⟩)] W fun e W' => (∃ v, e = .returned v) ∧
      ((∃ ys, ys = downto len len ∧ J ys W') ∨ (∃ pre, (∃ k, k ≤ len ∧ pre = downto len k) ∧ Jx pre W')) := by
  refine callsIn_of_wp Tryz.func105 rfl hf ?_ hro
  simp only [Tryz.ntmps105, List.size_toArray, List.length_cons, List.length_nil, Nat.reduceAdd, Nat.reduceSub, Array.replicate_succ, Array.replicate_zero, List.push_toArray, List.append_toArray, List.nil_append, List.cons_append]
  gi_wp2
  gi_loopw [3] (fun i wr => ∃ k : Nat, k ≤ len ∧ i = .int .i64 ((len : Int) - 1 - (k : Int)) ∧ J (downto len k) wr ∧ KpF b Bs W wr)
    (fun i _ => (intOf i + 1).toNat)
  case atStart => exact ⟨0, Nat.zero_le _, by simp [IntWalk.i64_in _ (show -9223372036854775808 ≤ (len : Int) - 1 ∧ (len : Int) - 1 ≤ 9223372036854775807 by omega)], h0, KpF.refl _ _ _⟩
  case round =>
    obtain ⟨k, hk, rfl, hJs, hnx⟩ := hrel
    have hBk := hnx ⟨Bs, 0, none⟩ (.inr rfl) _ hBs
    by_cases hlt : k < len
    · obtain ⟨j, hj⟩ : ∃ j, k + 1 + j = len := ⟨len - 1 - k, by omega⟩
      have hjk : len - 1 - k = j := by omega
      obtain ⟨fn, tmps, assign, body, hy, hR⟩ := hY _ (len - 1 - k) wr hJs (by rw [downto_length]; exact hlt)
      have ej : (len : Int) - 1 - (k : Int) = (j : Int) := by omega
      rw [ej]
      rw [hjk] at hy hR
      have i2 : (j : Int) < (len : Int) := by omega
      have ha' := ha (by omega)
      subst ha'
      have g0 := hnx ⟨b, off + j * 8, none⟩ (.inl rfl) _ (hc j (by omega)).c0
      have g1 := hnx ⟨b, off + j * 8 + 1, none⟩ (.inl rfl) _ (hc j (by omega)).c1
      have g2 := hnx ⟨b, off + j * 8 + 2, none⟩ (.inl rfl) _ (hc j (by omega)).c2
      have g3 := hnx ⟨b, off + j * 8 + 3, none⟩ (.inl rfl) _ (hc j (by omega)).c3
      have g4 := hnx ⟨b, off + j * 8 + 4, none⟩ (.inl rfl) _ (hc j (by omega)).c4
      have g5 := hnx ⟨b, off + j * 8 + 5, none⟩ (.inl rfl) _ (hc j (by omega)).c5
      have g6 := hnx ⟨b, off + j * 8 + 6, none⟩ (.inl rfl) _ (hc j (by omega)).c6
      have g7 := hnx ⟨b, off + j * 8 + 7, none⟩ (.inl rfl) _ (hc j (by omega)).c7
      gi_wp2
      refine hR.mono ?_
      rintro e W3 (⟨rfl, hJ3, hk3⟩ | ⟨rfl, hJx3⟩)
      · gi_wp2
        go_roundw
        case rel => exact ⟨k + 1, by omega, by first | (simp; done) | (simp; omega), by rw [downto_succ, hjk]; exact hJ3, hnx.trans hk3⟩
        case measure => first | (simp [intOf]; done) | (simp [intOf]; omega)
      · gi_wp2
        refine bodyPost_ret (results_none rfl _ _ _) rfl ?_
        exact ⟨⟨_, rfl⟩, .inr ⟨_, ⟨k + 1, by omega, by rw [downto_succ, hjk]⟩, hJx3⟩⟩
    · obtain rfl : k = len := by omega
      have ej : (k : Int) - 1 - (k : Int) = -1 := by omega
      rw [ej]
      gi_wp2
      go_end0
      exact ⟨⟨_, rfl⟩, .inl ⟨_, rfl, hJs⟩⟩
theorem backwardf_any (a : Option Addr) (n c : Nat) (w : World) : Calls Tryz.prog 61 #[.slice a n c] w fun e w' => e = .returned (.func (.func 105) #[] #[.pointer (some ⟨w.heap.size, 0, none⟩)]) ∧ w' = w.alloc (.cells #[.slice a n c] 135) := by
  go_enter Tryz.func61, Tryz.ntmps61
  go_wp2_with fail
  go_ret
  exact ⟨rfl, rfl⟩
theorem backf_stops (F : Fence) (n : Nat) (hf : F.fn 105) (hro : F.round = none) (hn : 1 ≤ n) (Bs b off len cap : Nat) (a : Option Addr) (ha : 0 < len → a = some ⟨b, off, none⟩) (L : List Fnd) (hlen : len ≤ 8) (w : World)
    (hBs : w.cell? ⟨Bs, 0, none⟩ = some (.slice a len cap)) (hc : ∀ j, j < len → FAt w b (off + j * 8) (fat L j)) :
    SeqStopsK F n Tryz.prog 105 #[.pointer (some ⟨Bs, 0, none⟩)] (fun x : Nat => #[.int .i64 (x : Int), fdV (fat L x)]) (KpF b Bs) (fun ys => ys = downto len len) (fun pre => ∃ k, k ≤ len ∧ pre = downto len k) len w := fun l J Jx W hW _ _ hY h0 =>
  back1f_in F n hf hro hn l Bs b off len cap a ha L hlen J Jx hY W (hW.keeps' hBs) (fun j hj => (hc j hj).below hW) h0
end Go.Proofs.YtenkeodfijladaaGreat

namespace Go.Proofs.YtenkeodfijladaaGreat
open Go.RowKit Go.Shelf

attribute [local go_sem] Oper.semAt_some

/-- The numbers of places that are not the last generation's, of those at the indexes. -/
def outO (F : List Fnd) (n : Nat) (pre : List Nat) : List Int := pre.flatMap fun x => if ((fat F x).at_ : Int) ≠ (n : Int) - 1 then [(fat F x).gen] else []
theorem outO_hit {F : List Fnd} {n : Nat} (pre : List Nat) {x : Nat} (h : ((fat F x).at_ : Int) ≠ (n : Int) - 1) : outO F n (pre ++ [x]) = outO F n pre ++ [(fat F x).gen] := by simp [outO, h]
theorem outO_miss {F : List Fnd} {n : Nat} (pre : List Nat) {x : Nat} (h : ((fat F x).at_ : Int) = (n : Int) - 1) : outO F n (pre ++ [x]) = outO F n pre := by simp [outO, h]
theorem outO_len (F : List Fnd) (n : Nat) (pre : List Nat) : (outO F n pre).length ≤ pre.length := by
  induction pre with
  | nil => exact Nat.le_refl _
  | cons x pre ih =>
    have e : outO F n (x :: pre) = (if ((fat F x).at_ : Int) ≠ (n : Int) - 1 then [(fat F x).gen] else []) ++ outO F n pre := rfl
    rw [e, List.length_append, List.length_cons]
    split <;> simp <;> omega
theorem downto_map (F : List Fnd) : (downto F.length F.length).map (fat F) = F.reverse := by
  refine List.ext_getElem (by simp [downto_length]) fun j h1 h2 => ?_
  simp only [List.length_map, downto_length] at h1
  simp [downto, fat, List.getElem_reverse, List.getD_eq_getElem?_getD]
  rw [List.getElem?_eq_getElem (by omega)]
  rfl
theorem outO_all {s : Slt} (key : Int) : outO (allSl s key) s.gens.length (downto (allSl s key).length (allSl s key).length) = olderS s key := by
  have e1 : outO (allSl s key) s.gens.length (downto (allSl s key).length (allSl s key).length) = ((downto (allSl s key).length (allSl s key).length).map (fat (allSl s key))).flatMap fun x => if (x.at_ : Int) ≠ (s.gens.length : Int) - 1 then [x.gen] else [] := by
    unfold outO; rw [List.flatMap_map]
  rw [e1, downto_map]
  unfold olderS
  cases hv : vldSl s with
  | false => rw [allSl_no hv]; rfl
  | true =>
    rw [if_pos rfl]
    have hn := ((vldSl_iff _).1 hv).len.1
    have e2 : allSl s key = allF s.gens key s.gens.length := by unfold allSl; rw [if_pos hv]
    rw [e2, ← allF_old s.gens key s.gens.length (s.gens.length - 1) (by omega)]
    have hb := gotF_bound (l := s.gens) (key := key) s.gens.length
    have hq : ∀ M : List Fnd, (∀ x ∈ M, x.at_ < s.gens.length) → (M.flatMap fun x => if (x.at_ : Int) ≠ (s.gens.length : Int) - 1 then [x.gen] else []) = (M.filter fun x => decide (x.at_ < s.gens.length - 1)).map (·.gen) := by
      intro M
      induction M with
      | nil => intro _; rfl
      | cons x M ih =>
        intro hM
        have hx := hM x (List.mem_cons_self ..)
        rw [List.flatMap_cons, ih fun y hy => hM y (List.mem_cons_of_mem _ hy)]
        by_cases hc : x.at_ < s.gens.length - 1
        · rw [if_pos (by omega), List.filter_cons_of_pos (by simpa using hc)]; rfl
        · rw [if_neg (by omega), List.filter_cons_of_neg (by simpa using hc)]; rfl
    exact hq _ fun x hx => hb x (List.mem_reverse.1 hx)
theorem allSl_len (s : Slt) (key : Int) : (allSl s key).length ≤ 8 := by
  cases hv : vldSl s with
  | false => rw [allSl_no hv]; exact Nat.zero_le _
  | true =>
    have e2 : allSl s key = allF s.gens key s.gens.length := by unfold allSl; rw [if_pos hv]
    rw [e2]
    exact Nat.le_trans (allF_len _ _ _) ((vldSl_iff _).1 hv).len.2
theorem blk_own {β : Type} (B : Nat) (t : TypeId) (cs : β → Array Value) : Own (fun s W => BlkE W B (cs s) t) := fun s X Y row hs hg hrow => by
  have hs' : X.heap[B]? = some (.cells (cs s) t (0, 0)) := hs
  exact (hg.block B (Array.getElem?_eq_some_iff.1 hs').1 (fun e' => by obtain ⟨o, ho, hc⟩ := hrow B e'.symm; rw [hs'] at ho; cases ho; cases hc)).trans hs'
theorem row_own {β : Type} (n₀ : Nat) (e : TypeId) (size : Nat) (v : β → Value) (k : β → Nat) (f : β → List Value) : Own (fun s W => W.ownsRow n₀ e size (v s) (k s) (f s)) := by
  rintro s X Y row hr hg hrow
  refine hr.kept hg ?_
  rcases hr.2 with ⟨h1, _⟩ | ⟨g, cap, cur, h1, _, hgb, _⟩
  · exact .inl (by rw [h1]; rfl)
  · refine .inr fun e' => ?_
    obtain ⟨o, ho, hc⟩ := hrow g (by rw [h1] at e'; simpa [Value.ownBlock] using e'.symm)
    rw [hgb] at ho; cases ho; cases hc
theorem rows_apart {W : World} {n n' sz sz' k k' : Nat} {e e' : TypeId} {v v' : Value} {xs xs' : List Value} (h : W.ownsRow n e sz v k xs) (h' : W.ownsRow n' e' sz' v' k' xs') (he : e ≠ e') : v.ownBlock = none ∨ v.ownBlock ≠ v'.ownBlock := by
  rcases h.2 with ⟨h1, _⟩ | ⟨g, cap, cur, rfl, _, hgb, _⟩
  · exact .inl (by rw [h1]; rfl)
  · refine .inr ?_
    rcases h'.2 with ⟨rfl, _⟩ | ⟨g2, cap2, cur2, rfl, _, hgb2, _⟩
    · simp [Value.ownBlock]
    · intro e3
      obtain rfl : g = g2 := by simpa [Value.ownBlock] using e3
      rw [hgb] at hgb2
      simp at hgb2
      exact he hgb2.2
theorem BlkE.not_row {W : World} {B : Nat} {cs : Array Value} {t e : TypeId} (h : BlkE W B cs t) (hte : t ≠ e) {base size k : Nat} {v : Value} {xs : List Value} (hr : W.ownsRow base e size v k xs) : some B ≠ v.ownBlock := by
  rcases hr.2 with ⟨rfl, _⟩ | ⟨g, cap, cur, rfl, _, hgb, _⟩
  · simp [Value.ownBlock]
  · intro e'
    obtain rfl : B = g := by simpa [Value.ownBlock] using e'
    have := (show W.heap[B]? = _ from h).symm.trans hgb
    simp at this
    exact hte this.2
set_option maxRecDepth 100000 in
set_option maxHeartbeats 8000000 in
theorem solder_any (i l : Int) (r : Bool) (a : Option Addr) (n c : Nat) (L : List GP) (w : World) (h : RdG w (.slice a n c) L) (hs : ∀ p ∈ L, ∀ j, j < 8 → (p.1.m.st j).length ≤ 10000) (key : Int) :
    Calls Tryz.prog 17 #[sloV i l r a n c, .int .u64 key] w fun e w' => ∃ v', e = .returned v' ∧ OwnI w' w.heap.size v' (olderS ⟨i, l, r, gns L⟩ key) ∧ Below w.heap.size w w' := by
  have hSl := fun W (hb : Below w.heap.size w W) => all_any i l r a n c L W (h.below hb) hs key
  have hres := outO_all (s := ⟨i, l, r, gns L⟩) key
  have hF8 := allSl_len ⟨i, l, r, gns L⟩ key
  have hnL : (gns L).length = n := by
    rw [gns_len]; obtain ⟨_, _, e, _⟩ := h.shape; injection e with _ e _; exact e.symm
  have hcap : n ≤ 9223372036854775807 := by
    show n ≤ maxLen
    obtain ⟨_, _, e, h1, h2⟩ := h.shape
    injection e with _ e _
    rw [e]; exact Nat.le_trans h1 h2
  dsimp only at hres
  rw [hnL] at hres
  generalize hF : allSl ⟨i, l, r, gns L⟩ key = F at *
  clear hF h hs hnL
  rw [← hres]
  clear hres
  obtain ⟨i0, hi, hz0, hz1, hz2⟩ := info_parts (P := Tryz.prog) (e := 3) (z := .int .i64 0) (size := 1) (bytes := 8) (by kernel_rfl)
  refine (callsIn_wide (n := 20)).1 (callsIn_of_wp_marks Tryz.func17 rfl trivial ?_ rfl)
  simp only [Tryz.ntmps17, List.size_toArray, List.length_cons, List.length_nil, Nat.reduceAdd, Nat.reduceSub, Array.replicate_succ, Array.replicate_zero, List.push_toArray, List.append_toArray, List.nil_append, List.cons_append]
  have hbox := BoxV.new w i l r a n c 41
  have hbel := below_slo w i l r a n c 41
  have hO := Boxed.new (w.alloc (.cells (sloC i l r a n c) 41)) 46 (.slice none 0 0)
  rw [World.size_alloc] at hO
  have hX := hbox.below ((Below.refl _ _).alloc (Nat.le_refl _) (.cells #[.slice none 0 0] 46))
  have hB1 := hbel.alloc (by simp) (.cells #[.slice none 0 0] 46)
  have k0 := hX.c0
  have k1 := hX.c1
  have k2 := hX.c2
  have k3 := hX.c3
  gi_wp2_with (first | (refine ⟨trivial, ?_⟩; gi_at_call 57; refine (callsIn_wide.2 (hSl _ hB1)).mono ?_; rintro e w1 ⟨v, rfl, hown, hb1⟩; obtain ⟨av, cv, rfl, -, -, -, -⟩ := RdS.shape hown.rd (by decide) fnd0) | (refine ⟨trivial, ?_⟩; gi_at_call 61; refine (callsIn_wide.2 (backwardf_any _ _ _ _)).mono ?_; rintro e w' ⟨rfl, rfl⟩; clear k0 k1 k2 k3))
  clear hSl
  have hpos := fun hp => rowG_some hown hp
  obtain ⟨b, off, hav, hbl, hbb, hrows⟩ : ∃ b off, (0 < F.length → av = some ⟨b, off, none⟩) ∧ b < w1.heap.size + 1 ∧ w.heap.size + 2 ≤ b ∧ ∀ j, j < F.length → FAt w1 b (off + j * 8) (fat F j) := by
    by_cases hp : 0 < F.length
    · obtain ⟨g, hg1, hg2, hg3⟩ := hpos hp
      obtain ⟨_, hq⟩ := RdFd.at hown.rd
      obtain ⟨b, off, e1, hr⟩ := hq hp
      rw [hg1] at e1
      obtain ⟨rfl, rfl⟩ : b = g ∧ off = 0 := by injection e1 with e1; injection e1 with e1 e2; exact ⟨e1.symm, e2.symm⟩
      exact ⟨b, 0, fun _ => hg1, by omega, by simpa using hg2, hr⟩
    · exact ⟨w1.heap.size, 0, fun h => absurd h hp, by omega, by have := hb1.size; simpa using this, fun j hj => absurd (Nat.lt_of_le_of_lt (Nat.zero_le _) hj) hp⟩
  have hS1 : BlkE w1 w.heap.size (sloC i l r a n c) 41 := ((BlkE.new w _ _).below ((Below.refl _ _).alloc (Nat.le_refl _) _)).below hb1
  have hO1 := hO.below hb1
  have hB2 := bstep hB1 hb1
  have hF1 := hown
  clear hb1 hX hbox hbel hB1 hO hown hpos
  have hlz : w.heap.size + 2 ≤ w1.heap.size := by have := hO1.lt; omega
  obtain ⟨W0, hW0⟩ : ∃ W0, w1.alloc (.cells #[.slice av F.length cv] 135) = W0 := ⟨_, rfl⟩
  have bS : Boxed W0 w1.heap.size 135 (.slice av F.length cv) := by rw [← hW0]; exact Boxed.new w1 _ _
  have bO : Boxed W0 (w.heap.size + 1) 46 (.slice none 0 0) := by rw [← hW0]; exact hO1.alloc _
  have bX : BlkE W0 w.heap.size (sloC i l r a n c) 41 := by rw [← hW0]; exact hS1.below ((Below.refl _ _).alloc (Nat.le_refl _) _)
  have bF : W0.ownsRow (w.heap.size + 2) 138 8 (.slice av F.length cv) F.length (F.flatMap fdC) := by
    rw [← hW0]
    have := hF1.alloc (.cells #[.slice av F.length cv] 135)
    simpa using this
  have hB3 : Below w.heap.size w W0 := by rw [← hW0]; exact hB2.alloc hB2.size _
  have hsz : W0.heap.size = w1.heap.size + 1 := by rw [← hW0]; simp
  have hrows0 : ∀ j, j < F.length → FAt W0 b (off + j * 8) (fat F j) := by rw [← hW0]; exact fun j hj => (hrows j hj).below ((Below.refl _ _).alloc (Nat.le_refl _) _)
  rw [hW0]
  clear hW0 hS1 hO1 hF1 hB2 hrows
  generalize w1.heap.size = Bs at *
  clear w1
  refine wpIn_rangeFunc_ownH rfl (by decide) (gf := 105) (lb := #[.pointer (some ⟨Bs, 0, none⟩)]) rfl trivial (enters_of Tryz.func105 (by kernel_rfl) rfl)
    (backf_stops Fence.wide (20 - 1) trivial rfl (by decide) Bs b off F.length cv av hav F hF8 W0 bS.cell hrows0) KpF.trans (KpF.put (by omega) (by omega)) (Below.refl _ _) (fun _ => rfl)
    (fun pre W => (((∃ v, Boxed W (w.heap.size + 1) 46 v ∧ W.ownsRow w.heap.size 3 1 v (outO F n pre).length ((outO F n pre).map intC) ∧ True) ∧ W.ownsRow (w.heap.size + 2) 138 8 (.slice av F.length cv) F.length (F.flatMap fdC)) ∧ BlkE W w.heap.size (sloC i l r a n c) 41 ∧ Boxed W Bs 135 (.slice av F.length cv)) ∧ Below w.heap.size w W)
    (fun _ _ _ => False)
    (OwnFrom.and (OwnFrom.and (OwnFrom.and (Own.from (holdsRow_own w.heap.size (w.heap.size + 1) 46 3 1 (fun pre => (outO F n pre).length) (fun pre => (outO F n pre).map intC) (fun _ _ => True)) _) (Own.from (row_own (w.heap.size + 2) 138 8 (fun _ => .slice av F.length cv) (fun _ => F.length) (fun _ => F.flatMap fdC)) _)) (OwnFrom.and (Own.from (blk_own _ _ _) _) (Own.from (boxed_own _ _ _) _))) (ownFrom_below (Nat.le_refl _) (by omega)))
    (fun _ _ _ _ _ hs _ _ => hs)
    ⟨⟨⟨⟨_, bO, World.ownsRow_nil _ _ _ _, trivial⟩, bF⟩, bX, bS⟩, hB3⟩
    (fun x a' W => ∃ Bx, Bs < Bx ∧ b < Bx ∧ BlkE W Bx (fdC (fat F x)).toArray 138 ∧ a' = { tmps := #[sloV i l r a n c, .int .u64 key, .pointer (some ⟨w.heap.size, 0, none⟩), undef, .slice none 0 0, .pointer (some ⟨w.heap.size + 1, 0, none⟩), undef, .pointer (some ⟨Bx, 0, none⟩), sloV i l r a n c, .int .u64 key, .slice av F.length cv, .func (.func 105) #[] #[.pointer (some ⟨Bs, 0, none⟩)], .int .i64 (x : Int), fdV (fat F x), undef, undef, undef, undef, undef, undef, undef, undef, undef, undef, undef, undef, undef, undef], defers := [] })
    (fun x a' _ X Y row hs hg hr => by obtain ⟨Bx, h1, h2, h3, h4⟩ := hs; exact ⟨Bx, h1, h2, (blk_own Bx _ (fun _ : Unit => _)) () X Y row h3 hg (fun r e => (hr r e).2), h4⟩)
    ?assign ?body ?done ?stop
  case assign =>
    rintro lp pre x W K hI hK
    obtain ⟨⟨⟨⟨v, hv, hrow, _⟩, hfd⟩, bX1, bS1⟩, hB1⟩ := hI
    have hlt := bS1.lt
    gi_wp2
    exact hK _ _ ((KeepsOthers.alloc _ _).from _) (KpF.below ((Below.refl _ W).alloc (Nat.le_refl _) _))
      ⟨⟨⟨⟨v, hv.alloc _, hrow.alloc _, trivial⟩, hfd.alloc _⟩, bX1.below ((Below.refl _ W).alloc (Nat.le_refl _) _), bS1.alloc _⟩, hB1.alloc hB1.size _⟩ ⟨W.heap.size, by omega, by omega, BlkE.new W _ _, rfl⟩
  case body =>
    rintro lp pre x a' W hl ⟨rr, hr⟩ ⟨⟨⟨⟨v, hv, hrow, _⟩, hfd⟩, bX1, bS1⟩, hB1⟩ ⟨Bx, hx1, hx2, bx, rfl⟩ hlt
    have hgl := outO_len F n pre
    have c0 := bx.cell (i := 0) (u := .int .i64 (fat F x).gen) rfl
    have c7 := bx.cell (i := 7) (u := .int .i64 ((fat F x).at_ : Int)) rfl
    have k3 := bX1.cell (i := 3) (u := .slice a n c) rfl
    have hsW := hB1.size
    have hOl := hv.lt
    have hBl := bS1.lt
    have hav1 := hav (by omega)
    by_cases hc : ((fat F x).at_ : Int) = (n : Int) - 1
    · have hm := outO_miss pre hc
      rw [hc] at c7
      gi_wp2
      exact ⟨(KeepsOthers.refl W).from _, KpF.refl _ _ _, ⟨⟨⟨v, hv, by rw [hm]; exact hrow, trivial⟩, hfd⟩, bX1, bS1⟩, hB1⟩
    · have hm := outO_hit pre hc
      have hci := hv.cell
      generalize hq : ((fat F x).at_ : Int) = q at *
      gi_wp2_with (gi_at_builtin; refine wpListIn_append_own _ rfl _ _ 46 rfl w.heap.size 3 i0 _ 1 8 Tryz.underlying46 hi hz0 hz1 hz2 rfl (by decide) _ _ _ rfl (hrow.alloc _) ⟨W.heap.size, 0, none⟩ 1 1 [.int .i64 (fat F x).gen] rfl rfl (news_at W [.int .i64 (fat F x).gen] 3) (by intro u hu; simp at hu; subst hu; rfl) (by unfold maxLen; omega) (by omega) (by simp; omega) ?_; intro v' w4 hown' hgrow _; obtain ⟨g', cap', rfl⟩ := ownsRow_succ hown'; obtain ⟨hv1, hv2, hr2, hk2, hb4⟩ := hv.appended (by decide) hrow (by omega) (by omega) hown' hgrow; have hc1 := hv1.cell; have hf1 := hv1.frozen)
      have hf4 := (hfd.alloc (.cells #[.int .i64 (fat F x).gen] 3)).kept hgrow (rows_apart hfd hrow (by decide))
      have hf5 := hf4.kept (grownBy_setCell' w4 (w.heap.size + 1) (.slice (some ⟨g', 0, none⟩) ((outO F n pre).length + 1) cap')) (.inr (hv1.not_row (by decide) hf4).symm)
      have bS5 := ((bS1.alloc _).kept hgrow (bS1.not_row (by decide) hrow)).other (B' := w.heap.size + 1) (by omega) (.slice (some ⟨g', 0, none⟩) ((outO F n pre).length + 1) cap')
      have bX5 := ((bX1.below ((Below.refl _ W).alloc (Nat.le_refl _) _)).grown hgrow (bX1.not_row (by decide) hrow)).grown (grownBy_setCell' w4 (w.heap.size + 1) (.slice (some ⟨g', 0, none⟩) ((outO F n pre).length + 1) cap')) (by simp)
      have hkk : ∀ k, k < W.heap.size → some k ≠ v.ownBlock → k ≠ w.heap.size + 1 → (w4.setCell ⟨w.heap.size + 1, 0, none⟩ (.slice (some ⟨g', 0, none⟩) ((outO F n pre).length + 1) cap')).heap[k]? = W.heap[k]? := fun k h1 h2 h3 =>
        (Below.heap_setCell _ _ _ k h3).trans ((hgrow.block k (by simp; omega) h2).trans (Below.heap_alloc _ _ _ (by omega)))
      have hKp : KpF b Bs W (w4.setCell ⟨w.heap.size + 1, 0, none⟩ (.slice (some ⟨g', 0, none⟩) ((outO F n pre).length + 1) cap')) := fun p hp u hu => by
        have e : (w4.setCell ⟨w.heap.size + 1, 0, none⟩ (.slice (some ⟨g', 0, none⟩) ((outO F n pre).length + 1) cap')).heap[p.block]? = W.heap[p.block]? := by
          rcases hp with e | e
          · rw [e]
            refine hkk b (by omega) ?_ (by omega)
            rcases rows_apart hfd hrow (by decide) with h1 | h1
            · rw [hav1] at h1; simp [Value.ownBlock] at h1
            · rw [hav1] at h1; simpa [Value.ownBlock] using h1
          · rw [e]
            exact hkk Bs (by omega) (bS1.not_row (by decide) hrow) (by omega)
        unfold World.cell? at hu ⊢
        rw [e]
        exact hu
      exact ⟨hk2.from _, hKp, ⟨⟨⟨_, hv2, by rw [hm, List.length_append, List.map_append]; exact hr2, trivial⟩, hf5⟩, bX5, bS5⟩, hB1.trans hb4⟩
  case done =>
    rintro D ys W hD rfl ⟨⟨⟨⟨v, hv, hrow, _⟩, _⟩, _, _⟩, hB1⟩ hK
    have hc := hv.cell
    gi_wp2
    refine ⟨by simp, .inl ⟨_, _, rfl, run_takeDeferred hK, ?_⟩⟩
    exact ⟨_, results_tmp rfl _ _ _, v, rfl, ownsRow_putObj hrow _ hK rfl, hB1.trans (belowK_b (w := w) (Nat.le_refl _) W D _ _ (by omega) hK rfl rfl)⟩
  case stop =>
    rintro D c' pre W _ _ h _
    exact h.elim
end Go.Proofs.YtenkeodfijladaaGreat

namespace Go.Proofs.YtenkeodfijladaaGreat
open Go.RowKit

/-- The items of the first generations, one behind the other. -/
def catI (l : List Gn) : Nat → List It
  | 0 => []
  | k + 1 => catI l k ++ itemsM (gat l k).m
noncomputable def itemsS (s : Slt) : List It := if vldSl s = true then srt (catI s.gens s.gens.length) else []
theorem srt_srt (a b : List It) : srt (srt a ++ b) = srt (a ++ b) := by
  rw [srt_append, srt_append, srt_of_asc (srt_asc a)]
theorem kept_no (x : List It) : kept [] x = x := List.filter_eq_self.2 fun y _ => by simp
theorem mrg_step (x : List It) (M : Mp) : mrg (srt x) (itemsM M) [] = srt (x ++ itemsM M) := by
  unfold mrg
  rw [kept_no, srt_of_asc (srt_asc x), srt_of_asc (itemsM_asc M), srt_srt]
theorem items48 {M : Mp} (h : ∀ i, i < 8 → (M.st i).length ≤ 48) : (itemsM M).length ≤ 384 := by
  unfold itemsM
  split
  · exact Nat.le_trans (srt_length _) (cat_le (M := M) (B := 48) h 8 (Nat.le_refl _))
  · exact Nat.zero_le _
theorem catI_len {l : List Gn} (h : ∀ i, i < l.length → ∀ j, j < 8 → ((gat l i).m.st j).length ≤ 48) : ∀ k, k ≤ l.length → (catI l k).length ≤ 384 * k
  | 0, _ => Nat.le_refl _
  | k + 1, hk => by
    have h1 := catI_len h k (by omega)
    have h2 := items48 (h k (by omega))
    unfold catI
    rw [List.length_append]
    omega
set_option maxRecDepth 100000 in
set_option maxHeartbeats 8000000 in
theorem sitems_any (i l : Int) (r : Bool) (a : Option Addr) (n c : Nat) (L : List GP) (w : World) (h : RdG w (.slice a n c) L) (hs : ∀ p ∈ L, ∀ j, j < 8 → (p.1.m.st j).length ≤ 48) :
    Calls Tryz.prog 20 #[sloV i l r a n c] w fun e w' => ∃ v', e = .returned v' ∧ OwnT w' w.heap.size v' (itemsS ⟨i, l, r, gns L⟩) ∧ Below w.heap.size w w' := by
  have HSv := Lib.hid (fun W (hb : Below w.heap.size w W) => svalid_any i l r a n c L W (h.below hb) (le48 hs))
  have hLn : L.length = n := h.len
  have HR := Lib.hid h
  have HMm := Lib.hid (show ∀ k, k < n → pat L k ∈ L from fun k hk => pat_mem (by omega))
  have HSs := Lib.hid hs
  have HBx := Lib.hid (BoxV.new w i l r a n c 41)
  have HB0 := Lib.hid (below_slo w i l r a n c 41)
  have HCl := Lib.hid (catI_len (l := gns L) (fun i hi j hj => by rw [gns_len] at hi; rw [gat_gns]; exact hs _ (pat_mem hi) j hj))
  have HCs := Lib.hid (show ∀ k, catI (gns L) (k + 1) = catI (gns L) k ++ itemsM (pat L k).1.m from fun k => by rw [← gat_gns]; rfl)
  have hlen := gns_len L
  cases hv : vldSl ⟨i, l, r, gns L⟩ with
  | false =>
    rw [hv] at HSv
    have HI := Lib.hid (show itemsS ⟨i, l, r, gns L⟩ = [] by unfold itemsS; rw [hv]; rfl)
    clear h hs hv hLn HR HMm HSs HCl HCs hlen
    go_enter Tryz.func20, Tryz.ntmps20
    go_upto_region 1 with fail
    obtain ⟨W, hW⟩ : ∃ W, w.alloc (.cells (sloC i l r a n c) 41) = W := ⟨_, rfl⟩
    change Code.wp _ _ _ _ (w.alloc (.cells (sloC i l r a n c) 41))
    rw [hW] at HBx HB0 ⊢
    clear hW
    have k0 := HBx.out.c0
    have k1 := HBx.out.c1
    have k2 := HBx.out.c2
    have k3 := HBx.out.c3
    go_wp2_with fail
    refine (HSv.out _ HB0.out).mono ?_
    rintro e w1 ⟨rfl, hb1⟩
    have HB1 := Lib.hid (bstep HB0.out hb1)
    clear k0 k1 k2 k3 hb1
    go_wp2_with fail
    go_ret
    exact ⟨_, rfl, by rw [HI.out]; exact World.ownsRow_nil _ _ _ _, HB1.out⟩
  | true =>
    rw [hv] at HSv
    have HI := Lib.hid (show itemsS ⟨i, l, r, gns L⟩ = srt (catI (gns L) n) by unfold itemsS; rw [hv, if_pos rfl]; show srt (catI (gns L) (gns L).length) = _; rw [hlen, hLn])
    have hn8 : n ≤ 8 := by have := ((vldSl_iff _).1 hv).len.2; dsimp only at this; omega
    rw [hlen, hLn] at HCl
    clear h hs hv hLn hlen
    go_enter Tryz.func20, Tryz.ntmps20
    go_upto_region 1 with fail
    obtain ⟨W, hW⟩ : ∃ W, w.alloc (.cells (sloC i l r a n c) 41) = W := ⟨_, rfl⟩
    change Code.wp _ _ _ _ (w.alloc (.cells (sloC i l r a n c) 41))
    rw [hW] at HBx HB0 ⊢
    clear hW
    have k0 := HBx.out.c0
    have k1 := HBx.out.c1
    have k2 := HBx.out.c2
    have k3 := HBx.out.c3
    go_wp2_with fail
    refine (HSv.out _ HB0.out).mono ?_
    rintro e w1 ⟨rfl, hb1⟩
    have HB1 := Lib.hid (bstep HB0.out hb1)
    have k3' := (HBx.out.below hb1).c3
    clear k0 k1 k2 k3 hb1 HSv
    go_wp2_with fail
    go_loopw [3, 12] (fun ov iv V => ∃ k : Nat, iv = .int .i64 (k : Int) ∧ k ≤ n ∧ Hid (OwnT V w1.heap.size ov (srt (catI (gns L) k))) ∧ Hid (Below w1.heap.size w1 V)) (fun _ iv _ => n - (intOf iv).toNat)
    case atStart => exact ⟨0, rfl, Nat.zero_le _, Lib.hid (World.ownsRow_nil _ _ _ _), Lib.hid (Below.refl _ _)⟩
    case round =>
      clear k3'
      obtain ⟨k, rfl, hk, HO, HB⟩ := hrel
      by_cases hlt : k < n
      · have i1 : (k : Int) < (n : Int) := by omega
        have HBv := Lib.hid (bstep HB1.out HB.out)
        have hR := HR.out.below HBv.out
        obtain ⟨b, off, rfl, hg⟩ := hR.at hlt
        have HMp := Lib.hid (hR.m _ (HMm.out k hlt))
        have hcs := HCs.out k
        have hcl := HCl.out k (by omega)
        have HS48 := Lib.hid (HSs.out _ (HMm.out k hlt))
        clear hR HBv
        generalize pat L k = p at *
        obtain ⟨⟨num, rev, md, sz, ⟨fs, LV, GA⟩⟩, s⟩ := p
        try dsimp only at hcs
        obtain ⟨g0, g1, g2, g3, g4, g5, g6, g7, g8, g9, g10, g11, g12, g13⟩ := hg
        try dsimp only at g0 g1 g2 g3 g4 g5 g6 g7 g8 g9 g10 g11 g12 g13
        generalize hX : catI (gns L) k = X at *
        have HCk := Lib.hid hcs
        have HXl := Lib.hid (show X.length ≤ 3072 by omega)
        clear hcs hX hcl
        go_upto_region 7 with fail
        clear g0 g1 g2 g3 g4 g5 g6 g7 g8 g9 g10 g11 g12 g13
        change Code.wp _ _ _ _ (wr.alloc (.cells (genC num rev md sz s LV GA) 58))
        have hbq := below_gen wr num rev md sz s LV GA 58
        have HG := Lib.hid (BoxG.new wr num rev md sz s LV GA 58)
        replace HO := Lib.hid (own_keep HO.out hbq)
        replace HMp := Lib.hid (HMp.out.below hbq)
        replace HB := Lib.hid (HB.out.trans (hbq.mono HB.out.size))
        clear hbq
        generalize wr.alloc (.cells (genC num rev md sz s LV GA) 58) = v0 at *
        generalize wr.heap.size = bg at *
        have q0 := HG.out.n0
        have q1 := HG.out.n1
        have q2 := HG.out.n2
        have q3 := HG.out.n3
        have q4 := HG.out.c0
        have q5 := HG.out.c1
        have q6 := HG.out.c2
        have q7 := HG.out.c3
        have q8 := HG.out.c4
        have q9 := HG.out.c5
        have q10 := HG.out.c6
        have q11 := HG.out.c7
        have q12 := HG.out.cl
        have q13 := HG.out.cg
        have HIt := Lib.hid (itemsM_any s ⟨fs, LV, GA⟩ v0 HMp.out (fun i hi => Nat.le_trans (HS48.out i hi) (by decide)))
        have HIl := Lib.hid (items48 (M := ⟨fs, LV, GA⟩) HS48.out)
        have HMs := Lib.hid (mrg_step X ⟨fs, LV, GA⟩)
        clear HMp HS48
        generalize itemsM ⟨fs, LV, GA⟩ = I at *
        go_wp2_with fail
        refine HIt.out.mono ?_
        rintro e w2 ⟨v2, rfl, ho2, hb2⟩
        replace HO := Lib.hid (own_keep HO.out hb2)
        replace HB := Lib.hid (HB.out.trans (hb2.mono HB.out.size))
        have HI2 := Lib.hid ho2
        clear ho2 hb2 HIt
        clear q0 q1 q2 q3 q4 q5 q6 q7 q8 q9 q10 q11 q12 q13 HG
        have hsX := srt_length X
        have hXl := HXl.out
        have hIl := HIl.out
        have HMg := Lib.hid (fun u (hu : OwnT w2 w1.heap.size u (srt X)) => merge_any u v2 (.slice none 0 0) (srt X) I [] w2 hu.rd HI2.out.rd (own_rdl (World.ownsRow_nil w2 0 26 1)) (sorted_all _ (by omega)) (sorted_all _ (by omega)) (sorted_all _ (by have h1 := srt_length I; have h2 := srt_length (srt X); rw [kept_no, List.length_append]; omega)) (by omega) (by omega))
        rw [HMs.out] at HMg
        clear hsX hXl hIl
        go_wp2_with fail
        refine (HMg.out _ HO.out).mono ?_
        rintro e w3 ⟨v3, rfl, ho3, hb3⟩
        have HO3 := Lib.hid (show OwnT w3 w1.heap.size v3 (srt (catI (gns L) (k + 1))) by rw [HCk.out]; exact ho3.mono HB.out.size)
        replace HB := Lib.hid (HB.out.trans (hb3.mono HB.out.size))
        clear ho3 hb3 HMg HO
        go_wp2_with fail
        exact ⟨⟨k + 1, by go_num, by omega, HO3, HB⟩, by simp [intOf]; omega⟩
      · have i1 : ¬ (k : Int) < (n : Int) := by omega
        obtain rfl : k = n := by omega
        have hle := HB1.out.size
        go_wp2_with fail
        go_ret
        exact ⟨_, rfl, by rw [HI.out]; exact HO.out.mono hle, bstep HB1.out HB.out⟩
end Go.Proofs.YtenkeodfijladaaGreat

namespace Go.Proofs.YtenkeodfijladaaGreat
open Go.RowKit

set_option maxRecDepth 100000 in
set_option maxHeartbeats 8000000 in
theorem sritems_no (i l : Int) (r : Bool) (a : Option Addr) (n c : Nat) (L : List GP) (w : World) (h : RdG w (.slice a n c) L) (hs : ∀ p ∈ L, ∀ j, j < 8 → (p.1.m.st j).length ≤ 48) (hv : vldSl ⟨i, l, r, gns L⟩ = false) :
    Calls Tryz.prog 21 #[sloV i l r a n c] w fun e w' => ∃ v', e = .returned v' ∧ OwnT w' w.heap.size v' (itemsS ⟨i, l, r, gns L⟩) ∧ Below w.heap.size w w' := by
  have HSv := Lib.hid (fun W (hb : Below w.heap.size w W) => rsvalid_any i l r a n c L W (h.below hb) (le48 hs))
  rw [hv] at HSv
  have HF := Lib.hid (show itemsS ⟨i, l, r, gns L⟩ = [] by unfold itemsS; rw [hv]; rfl)
  have hcap : n ≤ 9223372036854775807 := by
    show n ≤ maxLen
    obtain ⟨_, _, e, h1, h2⟩ := h.shape
    injection e with _ e _
    rw [e]; exact Nat.le_trans h1 h2
  have HBx := Lib.hid (BoxV.new w i l r a n c 24)
  have HB0 := Lib.hid (below_slo w i l r a n c 24)
  clear h hs hv
  go_enter Tryz.func21, Tryz.ntmps21
  go_upto_region 1 with fail
  obtain ⟨W, hW⟩ : ∃ W, w.alloc (.cells (sloC i l r a n c) 24) = W := ⟨_, rfl⟩
  change Code.wp _ _ _ _ (w.alloc (.cells (sloC i l r a n c) 24))
  rw [hW] at HBx HB0 ⊢
  clear hW
  have k0 := HBx.out.c0
  have k1 := HBx.out.c1
  have k2 := HBx.out.c2
  have k3 := HBx.out.c3
  by_cases h1 : 0 < n
  · have i1 : (0 : Int) < (n : Int) := by omega
    go_wp2_with fail
    go_loopw [3, 4] (fun ov iv V => ov = .slice none 0 0 ∧ iv = .int .i64 0 ∧ V = W) (fun _ _ _ => 0)
    case atStart => exact ⟨rfl, rfl, rfl⟩
    case round =>
      obtain ⟨rfl, rfl, rfl⟩ := hrel
      go_wp2_with fail
      refine (HSv.out _ HB0.out).mono ?_
      rintro e w1 ⟨rfl, hb1⟩
      have HB1 := Lib.hid (bstep HB0.out hb1)
      clear k0 k1 k2 k3 hb1
      go_wp2_with fail
      refine (rsort_any _ [] _ (rd_rdT (own_rd (World.ownsRow_nil _ 0 34 4))) (by simp)).mono ?_
      rintro e w2 ⟨v2, rfl, ho2, hb2⟩
      have HO2 := Lib.hid (show OwnT w2 w.heap.size v2 [] from ho2.mono (HB1).out.size)
      have HB2 := Lib.hid (bstep (HB1).out hb2)
      clear ho2 hb2
      go_wp2_with fail
      go_ret
      exact ⟨_, rfl, by rw [HF.out]; exact HO2.out, HB2.out⟩
  · have i1 : ¬ (0 : Int) < (n : Int) := by omega
    go_wp2_with fail
    go_loopw [3, 4] (fun ov iv V => ov = .slice none 0 0 ∧ iv = .int .i64 0 ∧ V = W) (fun _ _ _ => 0)
    case atStart => exact ⟨rfl, rfl, rfl⟩
    case round =>
      obtain ⟨rfl, rfl, rfl⟩ := hrel
      go_wp2_with fail
      refine (rsort_any _ [] _ (rd_rdT (own_rd (World.ownsRow_nil _ 0 34 4))) (by simp)).mono ?_
      rintro e w2 ⟨v2, rfl, ho2, hb2⟩
      have HO2 := Lib.hid (show OwnT w2 w.heap.size v2 [] from ho2.mono (HB0).out.size)
      have HB2 := Lib.hid (bstep (HB0).out hb2)
      clear ho2 hb2
      go_wp2_with fail
      go_ret
      exact ⟨_, rfl, by rw [HF.out]; exact HO2.out, HB2.out⟩
set_option maxRecDepth 100000 in
set_option maxHeartbeats 8000000 in
theorem sritems_yes (i l : Int) (r : Bool) (a : Option Addr) (n c : Nat) (L : List GP) (w : World) (h : RdG w (.slice a n c) L) (hs : ∀ p ∈ L, ∀ j, j < 8 → (p.1.m.st j).length ≤ 48) (hv : vldSl ⟨i, l, r, gns L⟩ = true) :
    Calls Tryz.prog 21 #[sloV i l r a n c] w fun e w' => ∃ v', e = .returned v' ∧ OwnT w' w.heap.size v' (itemsS ⟨i, l, r, gns L⟩) ∧ Below w.heap.size w w' := by
  have HSv := Lib.hid (fun W (hb : Below w.heap.size w W) => rsvalid_any i l r a n c L W (h.below hb) (le48 hs))
  rw [hv] at HSv
  have hLn : L.length = n := h.len
  have hlen := gns_len L
  have HR := Lib.hid h
  have HMm := Lib.hid (show ∀ k, k < n → pat L k ∈ L from fun k hk => pat_mem (by omega))
  have HSs := Lib.hid hs
  have HCl := Lib.hid (catI_len (l := gns L) (fun i hi j hj => by rw [gns_len] at hi; rw [gat_gns]; exact hs _ (pat_mem hi) j hj))
  have HCs := Lib.hid (show ∀ k, catI (gns L) (k + 1) = catI (gns L) k ++ itemsM (pat L k).1.m from fun k => by rw [← gat_gns]; rfl)
  have HI := Lib.hid (show itemsS ⟨i, l, r, gns L⟩ = srt (catI (gns L) n) by unfold itemsS; rw [hv, if_pos rfl]; show srt (catI (gns L) (gns L).length) = _; rw [hlen, hLn])
  have hn8 : n ≤ 8 := by have := ((vldSl_iff _).1 hv).len.2; dsimp only at this; omega
  rw [hlen, hLn] at HCl
  have HBx := Lib.hid (BoxV.new w i l r a n c 24)
  have HB0 := Lib.hid (below_slo w i l r a n c 24)
  clear h hs hv hLn hlen
  go_enter Tryz.func21, Tryz.ntmps21
  go_upto_region 1 with fail
  obtain ⟨W, hW⟩ : ∃ W, w.alloc (.cells (sloC i l r a n c) 24) = W := ⟨_, rfl⟩
  change Code.wp _ _ _ _ (w.alloc (.cells (sloC i l r a n c) 24))
  rw [hW] at HBx HB0 ⊢
  clear hW
  go_wp2_with fail
  go_loopw [3, 4] (fun ov iv V => ∃ k : Nat, iv = .int .i64 (k : Int) ∧ k ≤ n ∧ Hid (OwnT V W.heap.size ov (catI (gns L) k)) ∧ Hid (Below W.heap.size W V)) (fun _ iv _ => n - (intOf iv).toNat)
  case atStart => exact ⟨0, rfl, Nat.zero_le _, Lib.hid (World.ownsRow_nil _ _ _ _), Lib.hid (Below.refl _ _)⟩
  case round =>
    obtain ⟨k, rfl, hk, HO, HB⟩ := hrel
    have HBw := Lib.hid (bstep HB0.out HB.out)
    have hx := HBx.out.below HB.out
    have k0 := hx.c0
    have k1 := hx.c1
    have k2 := hx.c2
    have k3 := hx.c3
    clear hx
    by_cases hlk : k < n
    · as_aux_lemma =>
      have i1 : (k : Int) < (n : Int) := by omega
      go_wp2_with fail
      refine (HSv.out _ HBw.out).mono ?_
      rintro e w1 ⟨rfl, hb1⟩
      have HB1 := Lib.hid (HB.out.trans (hb1.mono HB.out.size))
      have HO1 := Lib.hid (own_keep HO.out hb1)
      clear k0 k1 k2 k3 hb1 HO HB HBw
      have HBv := Lib.hid (bstep HB0.out HB1.out)
      have k3 := (HBx.out.below HB1.out).c3
      have hR := HR.out.below HBv.out
      obtain ⟨b, off, rfl, hg⟩ := hR.at hlk
      have HMp := Lib.hid (hR.m _ (HMm.out k hlk))
      have hcs := HCs.out k
      have hcl := HCl.out k (by omega)
      have HS48 := Lib.hid (HSs.out _ (HMm.out k hlk))
      clear hR HBv
      generalize pat L k = p at *
      obtain ⟨⟨num, rev, md, sz, ⟨fs, LV, GA⟩⟩, s⟩ := p
      try dsimp only at hcs
      obtain ⟨g0, g1, g2, g3, g4, g5, g6, g7, g8, g9, g10, g11, g12, g13⟩ := hg
      try dsimp only at g0 g1 g2 g3 g4 g5 g6 g7 g8 g9 g10 g11 g12 g13
      have HIt := Lib.hid (ritemsM_any s ⟨fs, LV, GA⟩ w1 HMp.out (fun i hi => Nat.le_trans (HS48.out i hi) (by decide)))
      have HIl := Lib.hid (items48 (M := ⟨fs, LV, GA⟩) HS48.out)
      generalize hX : catI (gns L) k = X at *
      generalize itemsM ⟨fs, LV, GA⟩ = I at *
      have HCk := Lib.hid hcs
      have hXl : X.length ≤ 3072 := by omega
      clear hcs hX hcl HMp HS48
      have ho := HO1.out
      obtain ⟨oa, oc, hov, _⟩ := own_form ho
      subst hov
      clear ho
      go_wp2_with fail
      refine HIt.out.mono ?_
      rintro e w2 ⟨v2, rfl, ho2, hb2⟩
      have HO2 := Lib.hid (show w2.ownsRow W.heap.size 34 4 _ X.length (itsC X) from own_keep HO1.out hb2)
      have HR2 := Lib.hid (rdT_rd ho2.rd)
      have HB2 := Lib.hid (HB1.out.trans (hb2.mono HB1.out.size))
      obtain ⟨ia, ic, hiv, _⟩ := own_form ho2
      subst hiv
      have HOne := Lib.hid (itsC_one' I)
      have hIl := HIl.out
      have hsz := HB2.out.size
      clear ho2 hb2 HIt g0 g1 g2 g3 g4 g5 g6 g7 g8 g9 g10 g11 g12 g13 k3
      go_wp2_with (at_builtin; refine wpList_app (n := X.length) (m := I.length) rfl (.tmp 16) (.tmp 23) 50 rfl elemT W.heap.size rfl HO2.out rfl HR2.out HOne.out (by unfold maxLen; omega) (by omega) hsz ?_; intro v4 w4 hown4 hgr4 hv4; clear hv4; have HO4 := Lib.hid (show OwnT w4 W.heap.size v4 (X ++ I) from ownT_of hown4 (by rw [itsC_append])); have HB4 := Lib.hid (own_below HB2.out HO2.out hsz hgr4); clear hown4 hgr4)
      exact ⟨⟨k + 1, by go_num, by omega, Lib.hid (by rw [HCk.out]; exact HO4.out), HB4⟩, by simp [intOf]; omega⟩
    · have i1 : ¬ (k : Int) < (n : Int) := by omega
      obtain rfl : k = n := by omega
      have hcl := HCl.out k (Nat.le_refl _)
      have hov := HO.out.rd
      go_wp2_with fail
      refine (rsort_any _ (catI (gns L) k) _ hov (by omega)).mono ?_
      rintro e w2 ⟨v2, rfl, ho2, hb2⟩
      have HO2 := Lib.hid (show OwnT w2 w.heap.size v2 _ from ho2.mono HBw.out.size)
      have HB2 := Lib.hid (bstep HBw.out hb2)
      clear ho2 hb2 k0 k1 k2 k3
      go_wp2_with fail
      go_ret
      exact ⟨_, rfl, by rw [HI.out]; exact HO2.out, HB2.out⟩
theorem sritems_any (i l : Int) (r : Bool) (a : Option Addr) (n c : Nat) (L : List GP) (w : World) (h : RdG w (.slice a n c) L) (hs : ∀ p ∈ L, ∀ j, j < 8 → (p.1.m.st j).length ≤ 48) :
    Calls Tryz.prog 21 #[sloV i l r a n c] w fun e w' => ∃ v', e = .returned v' ∧ OwnT w' w.heap.size v' (itemsS ⟨i, l, r, gns L⟩) ∧ Below w.heap.size w w' := by
  cases hv : vldSl ⟨i, l, r, gns L⟩
  · exact sritems_no i l r a n c L w h hs hv
  · exact sritems_yes i l r a n c L w h hs hv
end Go.Proofs.YtenkeodfijladaaGreat
