/- The needle map's Items, Len and Get: walks. -/
import Derived.Test.YtndhjfmdfcpceaaGB
import Derived.Test.YtndhjfmdfcpceaaSv
import Derived.Test.YtndhjfmdfcpceaaRf
namespace Go.Proofs.Ytndhjfmdfcpceaa
open Go.RowKit

def itemsM (M : Mp) : List It := if vldM M = true then srt (allM M) else []
def getM (M : Mp) (key : Int) : Option It := if vldM M = true then fnd (M.st (strp key)) key else none
theorem itemsM_asc (M : Mp) : Asc (itemsM M) := by
  unfold itemsM
  split
  · exact srt_asc _
  · exact fun j h => by simp at h
theorem fnd_itemsM (M : Mp) (key : Int) : fnd (srt (itemsM M)) key = getM M key := by
  rw [srt_of_asc (itemsM_asc M)]
  unfold itemsM getM
  split
  · rename_i h; exact ((vldM_iff M).1 h).fnd key
  · rfl
theorem allM_len {M : Mp} (h : ∀ i, i < 8 → (M.st i).length ≤ 10000) : (allM M).length ≤ 80000 := cat_le (M := M) (B := 10000) h 8 (Nat.le_refl _)
theorem itemsM_len {M : Mp} (h : ∀ i, i < 8 → (M.st i).length ≤ 10000) : (itemsM M).length ≤ 80000 := by
  unfold itemsM
  split
  · exact Nat.le_trans (srt_length _) (allM_len h)
  · simp
theorem merge_nil (v : Value) (l : List It) (w : World) (h : RdT w v l) (hs : l.length ≤ 80000) :
    Calls Try.prog 51 #[.slice none 0 0, v, .slice none 0 0] w fun e w' => ∃ v', e = .returned v' ∧ OwnT w' w.heap.size v' (srt l) ∧ Below w.heap.size w w' := by
  have := merge_any (.slice none 0 0) v (.slice none 0 0) [] l [] w (rd_rdT (own_rd (World.ownsRow_nil w 0 29 4))) h (own_rdl (World.ownsRow_nil w 0 26 1)) (sorted_all _ (by simp)) (sorted_all _ (by omega)) (sorted_all _ (by have := srt_length l; rw [List.length_append]; have h0 := kept_length [] (srt []); rw [srt_nil] at h0 ⊢; simp at h0; simp [h0]; omega)) (by simp) (by omega)
  rwa [mrg_nil] at this
set_option maxRecDepth 100000 in
set_option maxHeartbeats 4000000 in
theorem itemsM_any (s : Sl) (M : Mp) (w : World) (h : RdM w s M.st) (hs : ∀ i, i < 8 → (M.st i).length ≤ 10000) :
    Calls Try.prog 31 #[mapV s M.live M.garb] w fun e w' => ∃ v', e = .returned v' ∧ OwnT w' w.heap.size v' (itemsM M) ∧ Below w.heap.size w w' := by
  have HV := Lib.hid (fun W h => validM_any s M W h (fun i hi => Nat.le_trans (hs i hi) (by decide)))
  have HBx := Lib.hid (BoxM.new w s M.live M.garb 37)
  have HB0 := Lib.hid (below_map w s M.live M.garb 37)
  have Hr := Lib.hid h
  have HC := Lib.hid (fun b W hx h => concat_any b s M.live M.garb M.st W hx h (Nat.le_trans (allM_len hs) (by decide)))
  have HM := Lib.hid (fun v W h => merge_nil v (allM M) W h (allM_len hs))
  have HI := Lib.hid (show itemsM M = if vldM M = true then srt (allM M) else [] from rfl)
  rw [show cat M.st 8 = allM M from rfl] at HC
  clear h hs
  generalize vldM M = vb at *
  generalize allM M = A at *
  generalize itemsM M = I at *
  obtain ⟨f, L, G⟩ := M
  dsimp only at *
  go_enter Try.func31, Try.ntmps31
  go_wp2_with fail
  refine (HV.out _ (Hr.out.below HB0.out)).mono ?_; rintro e w1 ⟨rfl, hb1⟩
  have HB1 := Lib.hid (bstep HB0.out hb1)
  have HX1 := Lib.hid (HBx.out.below hb1)
  have HR1 := Lib.hid (Hr.out.below HB1.out)
  clear hb1 HV HBx HB0
  cases vb
  · go_wp2_with fail
    go_ret
    exact ⟨_, rfl, by rw [HI.out, if_neg (by decide)]; exact World.ownsRow_nil _ _ _ _, HB1.out⟩
  · rw [if_pos rfl] at HI
    go_wp2_with fail
    refine (HC.out _ _ HX1.out HR1.out).mono ?_; rintro e w2 ⟨v2, rfl, hown2, hb2⟩
    have HB2 := Lib.hid (bstep HB1.out hb2)
    have HR2 := Lib.hid hown2.rd
    have HMg := Lib.hid (HM.out v2 w2 hown2.rd)
    clear hown2 hb2
    go_wp2_with fail
    refine HMg.out.mono ?_; rintro e w3 ⟨v3, rfl, hown3, hb3⟩
    have HO3 := Lib.hid (hown3.mono HB2.out.size)
    have HB3 := Lib.hid (bstep HB2.out hb3)
    clear hown3 hb3
    go_wp2_with fail
    go_ret
    exact ⟨_, rfl, by rw [HI.out]; exact HO3.out, HB3.out⟩
/-- An item in a block of its own. -/
structure BoxI (W : World) (b : Nat) (x : It) : Prop where
  t : BoxT W b x
  f : ∀ i, W.frozen? ⟨b, i, none⟩ = false
theorem BoxI.new (w : World) (x : It) : BoxI (w.alloc (boxC x)) w.heap.size x := ⟨BoxT.new w x, fun i => by simp⟩
theorem BoxI.lt {W : World} {b : Nat} {x : It} (h : BoxI W b x) : b < W.heap.size := World.block_lt_of_cell? _ ⟨b, 0, none⟩ h.t.c0
theorem BoxI.below {W W' : World} {b : Nat} {x : It} (h : BoxI W b x) (hb : Below W.heap.size W W') : BoxI W' b x := ⟨h.t.below hb, fun i => (hb.frozen (p := ⟨b, i, none⟩) h.lt).trans (h.f i)⟩
theorem BoxI.set_ne {W : World} {b : Nat} {x : It} (h : BoxI W b x) {p : Addr} (hp : p.block ≠ b) (u : Value) : BoxI (W.setCell p u) b x := by
  have ne : ∀ i, p ≠ ⟨b, i, none⟩ := fun i e => hp (by rw [e])
  exact ⟨⟨(World.cell?_setCell_other (h := ne 0) ..).trans h.t.c0, (World.cell?_setCell_other (h := ne 1) ..).trans h.t.c1, (World.cell?_setCell_other (h := ne 2) ..).trans h.t.c2, (World.cell?_setCell_other (h := ne 3) ..).trans h.t.c3⟩, fun i => by simp [h.f]⟩
theorem BoxI.putM_ne {W : World} {b c : Nat} {x : It} (h : BoxI W b x) (hp : c ≠ b) (s' : Sl) (l' g' : Int) : BoxI (putM W c s' l' g') b x :=
  (((((((((h.set_ne (p := ⟨c, 0, none⟩) hp _).set_ne (p := ⟨c, 1, none⟩) hp _).set_ne (p := ⟨c, 2, none⟩) hp _).set_ne (p := ⟨c, 3, none⟩) hp _).set_ne (p := ⟨c, 4, none⟩) hp _).set_ne (p := ⟨c, 5, none⟩) hp _).set_ne (p := ⟨c, 6, none⟩) hp _).set_ne (p := ⟨c, 7, none⟩) hp _).set_ne (p := ⟨c, 8, none⟩) hp _).set_ne (p := ⟨c, 9, none⟩) hp _
def putI (W : World) (b : Nat) (y : It) : World := (((W.setCell ⟨b, 0, none⟩ (.int .u64 y.key)).setCell ⟨b, 1, none⟩ (.int .u32 y.ck)).setCell ⟨b, 2, none⟩ (.int .i64 y.off)).setCell ⟨b, 3, none⟩ (.int .i64 y.size)
theorem BoxI.put {W : World} {b : Nat} {x : It} (h : BoxI W b x) (y : It) : BoxI (putI W b y) b y := ⟨h.t.set y, fun i => by simp [putI, h.f]⟩
theorem putI_below {B b : Nat} {w0 W : World} (h : Below B w0 W) (hb : B ≤ b) (y : It) : Below B w0 (putI W b y) := (((h.setCell hb _).setCell hb _).setCell hb _).setCell hb _
theorem lenM_any (s : Sl) (M : Mp) (w : World) (h : RdM w s M.st) (hs : ∀ i, i < 8 → (M.st i).length ≤ 10000) :
    Calls Try.prog 28 #[mapV s M.live M.garb] w fun e w' => e = .returned (.int .i64 ((itemsM M).length : Int)) ∧ Below w.heap.size w w' := by
  have HB0 := Lib.hid (below_map w s M.live M.garb 37)
  have HI := Lib.hid (itemsM_any s M _ (h.below HB0.out) hs)
  generalize itemsM M = I at *
  clear h hs
  obtain ⟨f, L, G⟩ := M
  dsimp only at *
  go_enter Try.func28, Try.ntmps28
  go_wp2_with fail
  refine HI.out.mono ?_; rintro e w1 ⟨v1, rfl, hown1, hb1⟩
  have HB1 := Lib.hid (bstep HB0.out hb1)
  obtain ⟨a, c, hv, _⟩ := own_form hown1
  subst hv
  clear hown1 hb1
  go_wp2_with fail
  go_ret
  exact ⟨rfl, HB1.out⟩
set_option maxRecDepth 100000 in
set_option maxHeartbeats 4000000 in
theorem getM_any (s : Sl) (M : Mp) (key : Int) (w : World) (h : RdM w s M.st) (hs : ∀ i, i < 8 → (M.st i).length ≤ 10000) :
    Calls Try.prog 24 #[mapV s M.live M.garb, .int .u64 key] w fun e w' => e = .returned (.tuple #[itV ((getM M key).getD it0), .bool (getM M key).isSome]) ∧ Below w.heap.size w w' := by
  have HV := Lib.hid (fun W h => validM_any s M W h (fun i hi => Nat.le_trans (hs i hi) (by decide)))
  have HBx := Lib.hid ((BoxM.new w s M.live M.garb 37).below (below_box (w.alloc (.cells (mapC s M.live M.garb) 37)) it0))
  have HBt := Lib.hid (BoxI.new (w.alloc (.cells (mapC s M.live M.garb) 37)) it0)
  rw [show (w.alloc (.cells (mapC s M.live M.garb) 37)).heap.size = w.heap.size + 1 by simp] at HBt
  have HB0 := Lib.hid (bstep (below_map w s M.live M.garb 37) (below_box (w.alloc (.cells (mapC s M.live M.garb) 37)) it0))
  have Hr := Lib.hid h
  have hk8 := strp_lt key
  have HF := Lib.hid (fun W h => find_any (s.v (strp key)) (M.st (strp key)) key W h (sorted_all _ (Nat.le_trans (hs _ hk8) (by decide))) (Nat.le_trans (hs _ hk8) (by decide)))
  have HS := Lib.hid (fun W => stripe_any key W)
  have HI := Lib.hid (show getM M key = if vldM M = true then fnd (M.st (strp key)) key else none from rfl)
  have HA := Lib.hid (fun h : vldM M = true => srt_of_asc (vld_asc (((vldM_iff M).1 h).ok _ hk8)))
  have HRk := Lib.hid (fun W (hb : Below w.heap.size w W) => (h (strp key) hk8).below hb)
  clear h hs
  generalize getM M key = o at *
  generalize vldM M = vb at *
  generalize strp key = k at *
  obtain ⟨f, L, G⟩ := M
  dsimp only at *
  go_enter Try.func24, Try.ntmps24
  go_wp2_with fail
  refine (HV.out _ (Hr.out.below HB0.out)).mono ?_; rintro e w1 ⟨rfl, hb1⟩
  have HB1 := Lib.hid (bstep HB0.out hb1)
  have HX1 := Lib.hid (HBx.out.below hb1)
  have HT1 := Lib.hid (HBt.out.below hb1)
  clear hb1 HV HBx HB0 HBt
  have d0 := HT1.out.t.c0
  have d1 := HT1.out.t.c1
  have d2 := HT1.out.t.c2
  have d3 := HT1.out.t.c3
  have F1 := HT1.out.f
  cases vb
  · have HI2 := Lib.hid (HI.out.trans (if_neg (by decide)))
    go_wp2_with fail
    change bodyPost _ _ _ _ _ (putI w1 (w.heap.size + 1) it0)
    have hby := HT1.out.put it0
    have HBz := Lib.hid (putI_below HB1.out (Nat.le_succ _) it0)
    generalize putI w1 (w.heap.size + 1) it0 = V at *
    have y0 := hby.t.c0
    have y1 := hby.t.c1
    have y2 := hby.t.c2
    have y3 := hby.t.c3
    exact bodyPost_ret (v := .tuple #[itV it0, .bool false]) (by simp [results, Try.results24, go_sem, y0, y1, y2, y3]) rfl ⟨by rw [HI2.out]; rfl, HBz.out⟩
  · have HI2 := Lib.hid (HI.out.trans (if_pos rfl))
    have hvk : s.v k = .slice (s.a k) (s.n k) (s.c k) := rfl
    have ck := HX1.out.c k hk8
    have HFk := Lib.hid (HF.out w1 (HRk.out w1 HB1.out))
    rw [HA.out rfl, ← HI2.out] at HFk
    rw [hvk] at ck HFk
    generalize s.a k = sa at *
    generalize s.n k = sn at *
    generalize s.c k = sc at *
    clear hvk HF HRk HA
    go_wp2_with fail
    refine (HS.out _).mono ?_; rintro e w2 ⟨rfl, rfl⟩
    go_wp2_with fail
    refine HFk.out.mono ?_; rintro e w3 ⟨rfl, hb3⟩
    have HT3 := Lib.hid (HT1.out.below hb3)
    have HB3 := Lib.hid (bstep HB1.out hb3)
    clear hb3 d0 d1 d2 d3 F1
    have d0 := HT3.out.t.c0
    have d1 := HT3.out.t.c1
    have d2 := HT3.out.t.c2
    have d3 := HT3.out.t.c3
    have F1 := HT3.out.f
    obtain ⟨y, hy⟩ : ∃ y, o.getD it0 = y := ⟨_, rfl⟩
    have Hy := Lib.hid hy
    rw [hy]
    clear hy
    go_wp2_with fail
    change bodyPost _ _ _ _ _ (putI w3 (w.heap.size + 1) y)
    have hby := HT3.out.put y
    have HBz := Lib.hid (putI_below HB3.out (Nat.le_succ _) y)
    generalize putI w3 (w.heap.size + 1) y = V at *
    have y0 := hby.t.c0
    have y1 := hby.t.c1
    have y2 := hby.t.c2
    have y3 := hby.t.c3
    exact bodyPost_ret (v := .tuple #[itV y, .bool o.isSome]) (by simp [results, Try.results24, go_sem, y0, y1, y2, y3]) rfl ⟨by rw [Hy.out], HBz.out⟩
end Go.Proofs.Ytndhjfmdfcpceaa
