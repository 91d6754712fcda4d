/- scan.Open: the walk. -/
import Derived.Test.YtecflhklpkjhcaaMr
import Derived.WalkMore
import Derived.ScopeJumps
namespace Go.Proofs.Ytecflhklpkjhcaa
open Go.RowKit

/-- What opening a file gives. -/
def openF (b : List UInt8) : Int × Sup × List Rec × Nat :=
  if (sdec b).1 = 0 then (0, (sdec b).2, (recs (b.length + 1) b 16).1, (recs (b.length + 1) b 16).2) else ((sdec b).1, sup0, [], 0)
theorem sdec_bad {b : List UInt8} (h : (sdec b).1 ≠ 0) : (sdec b).2 = sup0 := by
  unfold sdec at h ⊢
  split
  · rfl
  · split
    · rfl
    · split
      · rfl
      · split
        · rename_i h1 h2 h3 h4
          rw [if_neg h1, if_neg h2, if_neg h3, if_pos h4] at h
          exact absurd rfl h
        · rfl
theorem sdec_long {b : List UInt8} (h : (sdec b).1 = 0) : 16 ≤ b.length := by
  unfold sdec at h
  split at h
  · cases h
  · omega
/-- The search under way: what is found, what is to come. -/
structure Acc (b : List UInt8) (L : List Rec) (E : Nat) (es : List (Rec × Value)) (p : Nat) : Prop where
  ex : ∃ f, b.length < p + f ∧ es.map (·.1) ++ (recs f b p).1 = L ∧ (recs f b p).2 = E
  le : p ≤ b.length
  n : es.length * 24 ≤ p
theorem Acc.start {b : List UInt8} (h : 16 ≤ b.length) : Acc b (recs (b.length + 1) b 16).1 (recs (b.length + 1) b 16).2 [] 16 := ⟨⟨b.length + 1, by omega, rfl, rfl⟩, h, by simp⟩
theorem Acc.done {b : List UInt8} {L : List Rec} {E p : Nat} {es : List (Rec × Value)} (h : Acc b L E es p) (hd : (ndec (b.drop p)).1 ≠ 0) : es.map (·.1) = L ∧ p = E := by
  obtain ⟨f, _, h1, h2⟩ := h.ex
  rw [recs_stop hd] at h1 h2
  exact ⟨by simpa using h1, h2⟩
theorem Acc.step {b : List UInt8} {L : List Rec} {E p : Nat} {es : List (Rec × Value)} (h : Acc b L E es p) (hd : (ndec (b.drop p)).1 = 0) (v : Value) : Acc b L E (es ++ [(⟨p, (ndec (b.drop p)).2.1⟩, v)]) (p + (ndec (b.drop p)).2.2) := by
  obtain ⟨f, h0, h1, h2⟩ := h.ex
  have hs := ndec_size hd
  rw [List.length_drop] at hs
  have hle := h.le
  have hn := h.n
  obtain ⟨g, rfl⟩ : ∃ g, f = g + 1 := ⟨f - 1, by omega⟩
  rw [recs_step hd] at h1 h2
  refine ⟨⟨g, by omega, ?_, h2⟩, by omega, by rw [List.length_append]; simp; omega⟩
  rw [← h1]; simp

/-- A way out by a return alone. -/
def onlyRet (Q : Exit → Act → World → Prop) : Exit → Act → World → Prop
  | .ret, a, w => Q .ret a w
  | _, _, _ => False
section
variable {Q : Exit → Act → World → Prop} {J : Act → World → Prop} {a : Act} {w : World}
@[go_sem] theorem onlyRet_ret : onlyRet Q .ret a w = Q .ret a w := rfl
@[go_sem] theorem jump_normal (l : Nat) : Exit.jump l J Q .normal a w = Q .normal a w := rfl
@[go_sem] theorem jump_exit (l id : Nat) : Exit.jump l J Q (.exit id) a w = Q (.exit id) a w := rfl
@[go_sem] theorem jump_ret (l : Nat) : Exit.jump l J Q .ret a w = Q .ret a w := rfl
@[go_sem] theorem jump_panic (l : Nat) (ch : List PanicEntry) : Exit.jump l J Q (.panic ch) a w = Q (.panic ch) a w := rfl
theorem jump_goto (l : Nat) : Exit.jump l J Q (.goto l) a w = J a w := by simp [Exit.jump]
/-- A scope whose label is come to by jumps forward, and whose end returns. -/
theorem wp_scope_done {P : Program} {c rest : Code} (l : Nat) (hf : findLabel c l = some rest) (h : c.wp P (Exit.jump l (fun a w => rest.wp P (onlyRet Q) a w) Q) a w) : (Code.scope c).wp P Q a w :=
  wp_scope_jumps l _ (fun _ _ => 0) hf h fun a w hJ => wp_mono hJ fun e a w hq => by
    cases e <;> first | exact hq | exact hq.elim
end
theorem Rd.newK (k : Nat) (w : World) (hk : w.heap.size = k) (sz : Nat) (cs : List Value) (e : TypeId) (n : Nat) (hn : cs.length = n * sz) (hm : n ≤ maxLen) : Rd (w.alloc (.cells cs.toArray e)) sz (.slice (some ⟨k, 0, none⟩) n n) n cs := by
  subst hk; exact Rd.new w sz cs e n hn hm
theorem rec_one (r : Rec) (a : Option Addr) (n c : Nat) : ∀ u ∈ recC (r, .slice a n c), u.oneCell' = true := by
  intro u hu; simp only [recC, List.mem_cons, List.not_mem_nil, or_false] at hu; rcases hu with h | h | h | h | h <;> rw [h] <;> rfl
theorem OwnR.snoc {W W' : World} {B : Nat} {e : TypeId} {v v' : Value} {es : List (Rec × Value)} {q : Rec × Value} (h : OwnR W B e v es) (hd : W.ownsRow B 5 1 q.2 q.1.nd.data.length (q.1.nd.data.map byteV)) (hne : 5 ≠ e)
    (hr : W'.ownsRow B e 5 v' (es.length + 1) (recsC es ++ recC q)) (hg : W.grownBy W' v.ownBlock) : OwnR W' B e v' (es ++ [q]) :=
  ⟨by rw [recsC_snoc, List.length_append]; exact hr, (h.dat.snoc hd).app h.row hne hg⟩
theorem own_set_lt {W : World} {B : Nat} {e : TypeId} {sz n : Nat} {v : Value} {xs : List Value} (h : W.ownsRow B e sz v n xs) {p : Addr} (hp : p.block < B) (u : Value) : (W.setCell p u).ownsRow B e sz v n xs :=
  own_set_ne h (fun e => by have := (World.ownsRow.lt h _ e).1; omega) u
theorem OwnR.set {W : World} {B : Nat} {e : TypeId} {v : Value} {es : List (Rec × Value)} (h : OwnR W B e v es) {p : Addr} (hp : p.block < B) (u : Value) : OwnR (W.setCell p u) B e v es :=
  ⟨own_set_lt h.row hp u, fun q hq => own_set_lt (h.dat q hq) hp u⟩
/-- A superblock in a block of its own. -/
structure BoxS (W : World) (k : Nat) (s : Sup) : Prop where
  c0 : W.cell? ⟨k, 0, none⟩ = some (.int .i64 (s.slot : Int))
  c1 : W.cell? ⟨k, 1, none⟩ = some (.int .i64 (s.gen : Int))
  c2 : W.cell? ⟨k, 2, none⟩ = some (.int .i64 (s.rev : Int))
  f : ∀ i, W.frozen? ⟨k, i, none⟩ = false
theorem BoxS.keep {W W' : World} {k B : Nat} {s : Sup} (h : BoxS W k s) (hk : k < B) (hb : Below B W W') (_hB : B ≤ W.heap.size) : BoxS W' k s :=
  ⟨(hb.cell (p := ⟨k, 0, none⟩) hk).trans h.c0, (hb.cell (p := ⟨k, 1, none⟩) hk).trans h.c1, (hb.cell (p := ⟨k, 2, none⟩) hk).trans h.c2, fun i => (hb.frozen (p := ⟨k, i, none⟩) hk).trans (h.f i)⟩
theorem BoxS.set {W : World} {k : Nat} {s : Sup} (h : BoxS W k s) (s' : Sup) : BoxS (((W.setCell ⟨k, 0, none⟩ (.int .i64 (s'.slot : Int))).setCell ⟨k, 1, none⟩ (.int .i64 (s'.gen : Int))).setCell ⟨k, 2, none⟩ (.int .i64 (s'.rev : Int))) k s' :=
  ⟨by simp [go_sem, h.c0], by simp [go_sem, h.c1], by simp [go_sem, h.c2], fun i => by simp [h.f]⟩
set_option maxRecDepth 100000 in
set_option maxHeartbeats 4000000 in
theorem open_any (v : Value) (b : List UInt8) (w : World) (h : RdB w v b) (hs : b.length ≤ 1000000) : Calls Try.prog 14 #[v] w fun e w' =>
    (∃ lv es, e = .returned (.tuple #[supV (openF b).2.1, lv, .int .i64 ((openF b).2.2.2 : Int), .int .i64 (openF b).1]) ∧ OwnR w' w.heap.size 43 lv es ∧ es.map (·.1) = (openF b).2.2.1) ∧ Below w.heap.size w w' := by
  obtain ⟨a, cap, rfl, h1, h2⟩ := h.shape0
  have h3 := lt63 h1 h2
  have Hw0 := Lib.hid h
  have HBZ := Lib.hid (show Below w.heap.size w (w.alloc zeroS) from (Below.refl _ _).alloc (Nat.le_refl _) _)
  have HD := Lib.hid (fun W h => sdecode_any (.slice a b.length cap) b W h hs)
  clear h
  by_cases h0 : (sdec b).1 = 0
  · have HF := Lib.hid (show openF b = (0, (sdec b).2, (recs (b.length + 1) b 16).1, (recs (b.length + 1) b 16).2) by unfold openF; rw [if_pos h0])
    have HA := Lib.hid (Acc.start (sdec_long h0))
    have hb16 := sdec_long h0
    generalize hL : (recs (b.length + 1) b 16).1 = L at *
    generalize hE : (recs (b.length + 1) b 16).2 = E at *
    clear hL hE
    have hb16 := sdec_long h0
    go_enter Try.func14, Try.ntmps14
    go_wp2_with fail
    refine wp_scope_done 0 rfl ?_
    go_wp2_with fail
    refine (HD.out _ (RdL.below Hw0.out HBZ.out)).mono ?_; rintro e w1 ⟨rfl, hb1⟩
    have Z0 : w1.cell? ⟨w.heap.size, 0, none⟩ = some (.int .i64 0) := Below.keeps hb1 _ _ (by simp)
    have Z1 : w1.cell? ⟨w.heap.size, 1, none⟩ = some (.int .i64 0) := Below.keeps hb1 _ _ (by simp)
    have Z2 : w1.cell? ⟨w.heap.size, 2, none⟩ = some (.int .i64 0) := Below.keeps hb1 _ _ (by simp)
    have ZF := fun i => (hb1.frozen (p := ⟨w.heap.size, i, none⟩) (by simp)).trans (show (w.alloc zeroS).frozen? ⟨w.heap.size, i, none⟩ = false by simp)
    have F0 := ZF 0
    have F1 := ZF 1
    have F2 := ZF 2
    have HB1 := Lib.hid (bstep HBZ.out hb1)
    clear hb1
    generalize sdec b = R at *
    obtain ⟨r, s⟩ := R
    dsimp only at h0 HF
    subst h0
    go_wp2_with fail
    have hk1 : w.heap.size < w1.heap.size := World.block_lt_of_cell? _ _ Z0
    obtain ⟨W1, hW1, hWB, hWx, hWs⟩ : ∃ W1, ((w1.setCell ⟨w.heap.size, 0, none⟩ (.int .i64 (s.slot : Int))).setCell ⟨w.heap.size, 1, none⟩ (.int .i64 (s.gen : Int))).setCell ⟨w.heap.size, 2, none⟩ (.int .i64 (s.rev : Int)) = W1 ∧ Below w.heap.size w W1 ∧ BoxS W1 w.heap.size s ∧ w.heap.size + 1 ≤ W1.heap.size :=
      ⟨_, rfl, ((HB1.out.setCell (Nat.le_refl _) _).setCell (Nat.le_refl _) _).setCell (Nat.le_refl _) _, ⟨by simp [go_sem, Z0], by simp [go_sem, Z1], by simp [go_sem, Z2], fun i => by simp [go_sem, ZF]⟩, by simp [go_sem]; omega⟩
    rw [hW1]
    clear hW1 Z0 Z1 Z2 ZF F0 F1 F2 hk1 HB1 HD HBZ
    have HWB := Lib.hid hWB
    have HWx := Lib.hid hWx
    have HWs := Lib.hid hWs
    clear hWB hWx hWs
    go_loopw [3, 4] (fun lv pv W => ∃ (es : List (Rec × Value)) (p : Nat), pv = .int .i64 (p : Int) ∧ p ≤ b.length ∧ Hid (OwnR W (w.heap.size + 1) 43 lv es) ∧ Hid (Acc b L E es p) ∧ Hid (Below w.heap.size w W) ∧ Hid (BoxS W w.heap.size s) ∧ w.heap.size + 1 ≤ W.heap.size) (fun _ pv _ => b.length + 1 - (intOf pv).toNat)
    case atStart => exact ⟨[], 16, rfl, hb16, Lib.hid (OwnR.nil _ _ _), HA, HWB, HWx, HWs.out⟩
    case round =>
      obtain ⟨es, p, rfl, hp, HO, HAc, HBl, HBx, hsz⟩ := hrel
      obtain ⟨x1, y1, g1, r1⟩ := RdL.from_ (P := Try.prog) elemB (RdL.below Hw0.out HBl.out) p hp
      have HN := Lib.hid (ndecode_any _ _ _ r1 (by rw [List.length_drop]; omega))
      clear r1
      go_wp2_with fail
      refine HN.out.mono ?_; rintro e w2 ⟨⟨dv, rfl, hown⟩, hb2⟩
      have HO2 := Lib.hid (HO.out.keep hb2)
      have HBl2 := Lib.hid (bstep HBl.out hb2)
      have HBx2 := Lib.hid (HBx.out.keep (Nat.lt_of_lt_of_le (Nat.lt_succ_self _) hsz) hb2 (Nat.le_refl _))
      have hs2 : w.heap.size + 1 ≤ w2.heap.size := Nat.le_trans hsz hb2.size
      have HSz := Lib.hid (fun h => ndec_size (b := b.drop p) h)
      clear HN HO HBl HBx hb2
      by_cases hd : (ndec (b.drop p)).1 = 0
      · have HS := Lib.hid (HAc.out.step hd)
        have hz := HSz.out hd
        rw [List.length_drop] at hz
        clear HSz
        have hn := HAc.out.n
        generalize ndec (b.drop p) = D at *
        obtain ⟨r, x, n⟩ := D
        dsimp only at hd hown hz HS
        subst hd
        obtain ⟨oa, oc, hv, _⟩ := own_form hown
        subst hv
        have HDt := Lib.hid (World.ownsRow.mono (show OwnB w2 wr.heap.size (.slice oa x.data.length oc) x.data from hown) hsz)
        have hpn : IntKind.i64.wrap ((p : Int) + (n : Int)) = ((p + n : Nat) : Int) := (IntWalk.i64_in _ (by omega)).trans (by omega)
        obtain ⟨la, lc, hv, _⟩ := own_form HO2.out.row
        subst hv
        clear hown
        have HBV := Lib.hid (show Below w2.heap.size w2 ((w2.alloc (.cells #[.int .u64 (x.key : Int), .int .u32 (x.ck : Int), .bool x.del, .slice oa x.data.length oc] 31)).alloc (.cells (recC (⟨(p : Int), x⟩, .slice oa x.data.length oc)).toArray 43)) from ((Below.refl _ _).alloc (Nat.le_refl _) _).alloc (by simp) _)
        go_wp2_with (at_builtin; go_must (refine wpList_app (m := 1) rfl (.tmp 28) (.tmp 32) 38 rfl elemR (w.heap.size + 1) rfl (own_keep HO2.out.row (((Below.refl _ _).alloc (Nat.le_refl _) _).alloc (by simp) _)) (by rfl) (Rd.newK (w2.heap.size + 1) (w2.alloc (.cells #[.int .u64 (x.key : Int), .int .u32 (x.ck : Int), .bool x.del, .slice oa x.data.length oc] 31)) (by simp) 5 (recC (⟨p, x⟩, .slice oa x.data.length oc)) 43 1 rfl (by decide)) (rec_one _ _ _ _) (by unfold maxLen; omega) (by omega) (by simp; omega) ?_); intro v4 w4 hown4 hgr4 hv4; clear hv4)
        have HG := Lib.hid (show World.grownBy ((w2.alloc (.cells #[.int .u64 (x.key : Int), .int .u32 (x.ck : Int), .bool x.del, .slice oa x.data.length oc] 31)).alloc (.cells (recC (⟨(p : Int), x⟩, .slice oa x.data.length oc)).toArray 43)) w4 (Value.slice la es.length lc).ownBlock from hgr4)
        clear hgr4
        generalize (w2.alloc (.cells #[.int .u64 (x.key : Int), .int .u32 (x.ck : Int), .bool x.del, .slice oa x.data.length oc] 31)).alloc (.cells (recC (⟨(p : Int), x⟩, .slice oa x.data.length oc)).toArray 43) = V at HBV HG
        have hsV : w.heap.size + 1 ≤ V.heap.size := Nat.le_trans hs2 HBV.out.size
        have hb4 := own_below (Below.refl (w.heap.size + 1) V) (HO2.out.keep HBV.out).row hsV HG.out
        have HBl4 := Lib.hid (HBl2.out.trans ((HBV.out.mono (by omega)).trans (hb4.mono (Nat.le_succ _))))
        have HO4 := Lib.hid ((HO2.out.keep HBV.out).snoc (q := (⟨(p : Int), x⟩, .slice oa x.data.length oc)) (own_keep HDt.out HBV.out) (by decide) hown4 HG.out)
        have HBx4 := Lib.hid ((HBx2.out.keep (Nat.lt_of_lt_of_le (Nat.lt_succ_self _) hs2) HBV.out (Nat.le_refl _)).keep (Nat.lt_succ_self _) hb4 hsV)
        have HAc4 := Lib.hid (HS.out (.slice oa x.data.length oc))
        have hs4 := Nat.le_trans hsV hb4.size
        clear hown4
        go_wp2_with fail
        exact ⟨⟨_, p + n, by rw [Int.natCast_add], by omega, HO4, HAc4, HBl4, HBx4, hs4⟩, by simp [intOf]; omega⟩
      · obtain ⟨HL, HE⟩ := HAc.out.done hd
        have hd' : ((ndec (b.drop p)).1 != 0) = true := bne_iff_ne.2 hd
        clear HSz
        generalize ndec (b.drop p) = D at *
        obtain ⟨r, x, n⟩ := D
        dsimp only at hd hown hd'
        obtain ⟨oa, oc, hv, _⟩ := own_form hown
        subst hv
        clear hown
        go_wp2_with fail
        go_step3
        go_wp2_with fail
        rw [jump_goto]
        obtain ⟨W3, hW3, hB3⟩ : ∃ W3, w2.alloc (.cells #[.int .u64 (x.key : Int), .int .u32 (x.ck : Int), .bool x.del, .slice oa x.data.length oc] 31) = W3 ∧ Below w2.heap.size w2 W3 := ⟨_, rfl, (Below.refl _ _).alloc (Nat.le_refl _) _⟩
        rw [hW3]
        have hbx := HBx2.out.keep (Nat.lt_of_lt_of_le (Nat.lt_succ_self _) hs2) hB3 (Nat.le_refl _)
        have HO3 := Lib.hid (HO2.out.keep hB3)
        have HBl3 := Lib.hid (bstep HBl2.out hB3)
        clear hW3 hB3
        have X0 := hbx.c0
        have X1 := hbx.c1
        have X2 := hbx.c2
        have F0 := hbx.f 0
        have F1 := hbx.f 1
        have F2 := hbx.f 2
        go_wp2_with fail
        rw [onlyRet_ret]
        have hby := hbx.set s
        have Y0 := hby.c0
        have Y1 := hby.c1
        have Y2 := hby.c2
        have HR := Lib.hid (((HO3.out.set (p := ⟨w.heap.size, 0, none⟩) (Nat.lt_succ_self _) (.int .i64 (s.slot : Int))).set (p := ⟨w.heap.size, 1, none⟩) (Nat.lt_succ_self _) (.int .i64 (s.gen : Int))).set (p := ⟨w.heap.size, 2, none⟩) (Nat.lt_succ_self _) (.int .i64 (s.rev : Int)))
        exact bodyPost_ret (v := .tuple #[supV s, u3, .int .i64 (E : Int), .int .i64 0]) (by simp [results, Try.results14, go_sem, Y0, Y1, Y2]) rfl ⟨⟨u3, es, by rw [HF.out], HR.out.lower (Nat.le_succ _), HL.trans (by rw [HF.out])⟩, ((HBl3.out.setCell (Nat.le_refl _) _).setCell (Nat.le_refl _) _).setCell (Nat.le_refl _) _⟩
  · have HF := Lib.hid (show openF b = ((sdec b).1, sup0, [], 0) by unfold openF; rw [if_neg h0])
    have HS := Lib.hid (sdec_bad h0)
    generalize openF b = R at *
    have hd : ((sdec b).1 != 0) = true := bne_iff_ne.2 h0
    go_enter Try.func14, Try.ntmps14
    go_wp2_with fail
    refine wp_scope_done 0 rfl ?_
    go_wp2_with fail
    refine (HD.out _ (RdL.below Hw0.out HBZ.out)).mono ?_; rintro e w1 ⟨rfl, hb1⟩
    have Z0 : w1.cell? ⟨w.heap.size, 0, none⟩ = some (.int .i64 0) := Below.keeps hb1 _ _ (by simp)
    have Z1 : w1.cell? ⟨w.heap.size, 1, none⟩ = some (.int .i64 0) := Below.keeps hb1 _ _ (by simp)
    have Z2 : w1.cell? ⟨w.heap.size, 2, none⟩ = some (.int .i64 0) := Below.keeps hb1 _ _ (by simp)
    have ZF := fun i => (hb1.frozen (p := ⟨w.heap.size, i, none⟩) (by simp)).trans (show (w.alloc zeroS).frozen? ⟨w.heap.size, i, none⟩ = false by simp)
    have F0 := ZF 0
    have F1 := ZF 1
    have F2 := ZF 2
    have HB1 := Lib.hid (bstep HBZ.out hb1)
    clear hb1
    go_wp2_with fail
    rw [jump_ret]
    have hbx := (BoxS.set ⟨Z0, Z1, Z2, ZF⟩ (s := sup0) (sdec b).2).set sup0
    have X0 := hbx.c0
    have X1 := hbx.c1
    have X2 := hbx.c2
    simp only [sup0, show ((0 : Nat) : Int) = 0 from rfl] at X0 X1 X2
    exact bodyPost_ret (v := .tuple #[supV sup0, .slice none 0 0, .int .i64 0, .int .i64 (sdec b).1]) (by simp [results, Try.results14, go_sem, sup0, X0, X1, X2]) rfl ⟨⟨.slice none 0 0, [], by rw [HF.out]; rfl, OwnR.nil _ _ _, by rw [HF.out]; rfl⟩, ((((((HB1.out.setCell (Nat.le_refl _) _).setCell (Nat.le_refl _) _).setCell (Nat.le_refl _) _).setCell (Nat.le_refl _) _).setCell (Nat.le_refl _) _).setCell (Nat.le_refl _) _)⟩
end Go.Proofs.Ytecflhklpkjhcaa
