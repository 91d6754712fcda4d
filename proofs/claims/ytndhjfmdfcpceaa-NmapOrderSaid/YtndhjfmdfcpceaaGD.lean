/- Several texts in one, each over the last: The needle map's operations keep a valid map valid: plain laws. The law's items: the walk. The law's awake: the walk. What puts, deletes and wastes do to the sums of a needle map: plain laws. -/
import Derived.Test.YtndhjfmdfcpceaaGC
import Derived.Test.YtndhjfmdfcpceaaMp
import Derived.Test.YtndhjfmdfcpceaaMk
namespace Go.Proofs.Ytndhjfmdfcpceaa

def updM (f : Nat → List It) (k : Nat) (v : List It) : Nat → List It := fun i => if i = k then v else f i
theorem updM_self (f : Nat → List It) (k : Nat) (v : List It) : updM f k v k = v := if_pos rfl
theorem updM_ne (f : Nat → List It) {k i : Nat} (h : i ≠ k) (v : List It) : updM f k v i = f i := if_neg h
theorem updM_le (f : Nat → List It) (k : Nat) (v : List It) {n : Nat} (h1 : ∀ i, (f i).length ≤ n) (h2 : v.length ≤ n) (i : Nat) : (updM f k v i).length ≤ n := by
  unfold updM; split
  · exact h2
  · exact h1 i
theorem cat_upd_le (f : Nat → List It) (k : Nat) (v : List It) : ∀ n, n ≤ k → cat (updM f k v) n = cat f n
  | 0, _ => rfl
  | n + 1, h => by
    show cat (updM f k v) n ++ updM f k v n = cat f n ++ f n
    rw [cat_upd_le f k v n (by omega), updM_ne f (by omega)]
theorem sumI_upd (f : Nat → List It) (k : Nat) (v : List It) : ∀ n, k < n → sumI (cat (updM f k v) n) + sumI (f k) = sumI (cat f n) + sumI v
  | 0, h => by omega
  | n + 1, h => by
    show sumI (cat (updM f k v) n ++ updM f k v n) + sumI (f k) = sumI (cat f n ++ f n) + sumI v
    rw [sumI_append, sumI_append]
    by_cases e : k = n
    · subst e
      rw [cat_upd_le f k v k (Nat.le_refl _), updM_self]
      omega
    · have := sumI_upd f k v n (by omega)
      rw [updM_ne f (by omega)]
      omega
theorem len_upd (f : Nat → List It) (k : Nat) (v : List It) : ∀ n, k < n → (cat (updM f k v) n).length + (f k).length = (cat f n).length + v.length
  | 0, h => by omega
  | n + 1, h => by
    show (cat (updM f k v) n ++ updM f k v n).length + (f k).length = (cat f n ++ f n).length + v.length
    rw [List.length_append, List.length_append]
    by_cases e : k = n
    · subst e
      rw [cat_upd_le f k v k (Nat.le_refl _), updM_self]
      omega
    · have := len_upd f k v n (by omega)
      rw [updM_ne f (by omega)]
      omega
theorem VldM.upd {M : Mp} (h : VldM M) {k : Nat} (hk : k < 8) {v : List It} (hv : vldB v = true) (hs : ∀ x ∈ v, strp x.key = k) {L G : Int}
    (hL : L + (sumI (M.st k) : Int) = M.live + (sumI v : Int)) (g0 : 0 ≤ G) (g1 : G ≤ 1099511627776) : VldM ⟨updM M.st k v, L, G⟩ := by
  have hsum := sumI_upd M.st k v 8 hk
  refine ⟨fun i hi => ?_, fun i hi x hx => ?_, ?_, g0, g1⟩
  · by_cases e : i = k
    · show vldB (updM M.st k v i) = true
      rw [e, updM_self]; exact hv
    · show vldB (updM M.st k v i) = true
      rw [updM_ne _ e]; exact h.ok i hi
  · have hx : x ∈ updM M.st k v i := hx
    by_cases e : i = k
    · rw [e, updM_self] at hx; rw [e]; exact hs x hx
    · rw [updM_ne _ e] at hx; exact h.sp i hi x hx
  · show L = (sumI (cat (updM M.st k v) 8) : Int)
    have hl := h.lv
    rw [show allM M = cat M.st 8 from rfl] at hl
    omega
theorem ins_vldB {l : List It} {x : It} (h : vldB l = true) (hx : okB x = true) : vldB (ins l x) = true := by
  rw [vldB_iff] at h ⊢
  exact ⟨ins_ascA h.1 x, ins_all x (of_decide_eq_true hx) l h.2⟩
theorem drp_vldB {l : List It} (h : vldB l = true) (key : Int) : vldB (drp l key) = true := by
  rw [vldB_iff] at h ⊢
  exact ⟨drp_asc h.1 key, fun y hy => h.2 y (List.mem_filter.1 hy).1⟩
theorem getM_of {M : Mp} (h : VldM M) (key : Int) : getM M key = fnd (M.st (strp key)) key := by unfold getM; rw [if_pos ((vldM_iff M).2 h)]
theorem insM_of {M : Mp} (h : VldM M) {x : It} (hx : okB x = true) (hg : M.garb + (szO (getM M x.key) : Int) ≤ 1099511627776) :
    insM M x = ⟨updM M.st (strp x.key) (ins (M.st (strp x.key)) x), M.live + (lenO x : Int) - (szO (getM M x.key) : Int), M.garb + (szO (getM M x.key) : Int)⟩ := by
  rw [getM_of h] at hg ⊢
  unfold insM
  rw [if_pos ⟨(vldM_iff M).2 h, hx, hg⟩]
  congr 1
  funext i
  unfold updM
  by_cases e : i = strp x.key
  · rw [if_pos e, if_pos e, e]
  · rw [if_neg e, if_neg e]
theorem delM_of {M : Mp} (h : VldM M) {key : Int} (hg : M.garb + (szO (getM M key) : Int) ≤ 1099511627776) :
    delM M key = ⟨updM M.st (strp key) (drp (M.st (strp key)) key), M.live - (szO (getM M key) : Int), M.garb + (szO (getM M key) : Int)⟩ := by
  have hd : ∀ l : List It, fnd l key = none → drp l key = l := fun l hl => List.filter_eq_self.2 fun y hy => by
    have := fnd_none_iff hl y hy
    simp [this]
  have hu : (fun i => if i = strp key then drp (M.st i) key else M.st i) = updM M.st (strp key) (drp (M.st (strp key)) key) := funext fun i => by
    unfold updM
    by_cases e : i = strp key
    · rw [if_pos e, if_pos e, e]
    · rw [if_neg e, if_neg e]
  have hgo := getM_of h key
  unfold delM
  generalize getM M key = o at *
  cases o with
  | none =>
    have e : updM M.st (strp key) (drp (M.st (strp key)) key) = M.st := funext fun i => by
      unfold updM
      by_cases e : i = strp key
      · rw [if_pos e, e, hd _ hgo.symm]
      · rw [if_neg e]
    obtain ⟨f, L, G⟩ := M
    show (⟨f, L, G⟩ : Mp) = ⟨_, L - ((0 : Nat) : Int), G + ((0 : Nat) : Int)⟩
    rw [show L - ((0 : Nat) : Int) = L by omega, show G + ((0 : Nat) : Int) = G by omega, e]
  | some y =>
    have hg' : M.garb + (lenO y : Int) ≤ 1099511627776 := hg
    show (if M.garb + (lenO y : Int) ≤ 1099511627776 then _ else M) = _
    rw [if_pos hg', hu]
    rfl
theorem wasteM_of {M : Mp} (h : VldM M) {n : Int} (h0 : 0 ≤ n) (hg : M.garb + n ≤ 1099511627776) : wasteM M n = ⟨M.st, M.live, M.garb + n⟩ := by
  unfold wasteM
  rw [if_pos ⟨(vldM_iff M).2 h, h0, by omega⟩]
theorem VldM.ins {M : Mp} (h : VldM M) {x : It} (hx : okB x = true) (hg : M.garb + (szO (getM M x.key) : Int) ≤ 1099511627776) : VldM (insM M x) := by
  rw [insM_of h hx hg]
  have hk := strp_lt x.key
  have h0 := h.g0
  refine h.upd hk (ins_vldB (h.ok _ hk) hx) (ins_all (p := fun y => strp y.key = strp x.key) x rfl _ (h.sp _ hk)) ?_ (by omega) hg
  have := sumI_put x _ (vld_asc (h.ok _ hk))
  rw [getM_of h]
  unfold lenO
  omega
theorem VldM.del {M : Mp} (h : VldM M) {key : Int} (hg : M.garb + (szO (getM M key) : Int) ≤ 1099511627776) : VldM (delM M key) := by
  rw [delM_of h hg]
  have hk := strp_lt key
  have h0 := h.g0
  refine h.upd hk (drp_vldB (h.ok _ hk) key) (fun y hy => h.sp _ hk y (List.mem_filter.1 hy).1) ?_ (by omega) hg
  have := sumI_drp key _ (vld_asc (h.ok _ hk))
  rw [getM_of h]
  omega
theorem VldM.waste {M : Mp} (h : VldM M) {n : Int} (h0 : 0 ≤ n) (hg : M.garb + n ≤ 1099511627776) : VldM (wasteM M n) := by
  rw [wasteM_of h h0 hg]
  have := h.g0
  exact ⟨h.ok, h.sp, h.lv, by show 0 ≤ M.garb + n; omega, hg⟩
theorem VldM.nil : VldM ⟨fun _ => [], 0, 0⟩ := ⟨fun i _ => rfl, fun i _ x hx => (by cases hx), (by decide), (by decide), (by decide)⟩
theorem szO_le (o : Option It) : szO o ≤ 4127 := by
  cases o with
  | none => exact Nat.zero_le _
  | some y => exact szN_le _
theorem fnd_upd (M : Mp) (k : Nat) (v : List It) (key : Int) : fnd (updM M.st k v (strp key)) key = if strp key = k then fnd v key else fnd (M.st (strp key)) key := by
  unfold updM; split <;> rfl
theorem getM_ins {M : Mp} (h : VldM M) {x : It} (hx : okB x = true) (hg : M.garb + (szO (getM M x.key) : Int) ≤ 1099511627776) (key : Int) :
    getM (insM M x) key = if x.key = key then some x else getM M key := by
  rw [getM_of (h.ins hx hg), insM_of h hx hg, getM_of h key]
  show fnd (updM _ _ _ _) key = _
  rw [fnd_upd]
  by_cases e : x.key = key
  · rw [if_pos e, ← e, if_pos rfl, fnd_ins_self]
  · rw [if_neg e]
    by_cases e2 : strp key = strp x.key
    · rw [if_pos e2, fnd_ins_other x key (fun e3 => e e3.symm), e2]
    · rw [if_neg e2]
theorem getM_del {M : Mp} (h : VldM M) {k : Int} (hg : M.garb + (szO (getM M k) : Int) ≤ 1099511627776) (key : Int) :
    getM (delM M k) key = if k = key then none else getM M key := by
  rw [getM_of (h.del hg), delM_of h hg, getM_of h key]
  show fnd (updM _ _ _ _) key = _
  rw [fnd_upd]
  by_cases e : k = key
  · rw [if_pos e, ← e, if_pos rfl, fnd_drp_self]
  · rw [if_neg e]
    by_cases e2 : strp key = strp k
    · rw [if_pos e2, fnd_drp_other k key (fun e3 => e e3.symm), e2]
    · rw [if_neg e2]
theorem insM_sum {M : Mp} (h : VldM M) {x : It} (hx : okB x = true) (hg : M.garb + (szO (getM M x.key) : Int) ≤ 1099511627776) : (insM M x).live + (insM M x).garb = M.live + M.garb + (lenO x : Int) := by
  rw [insM_of h hx hg]
  show M.live + (lenO x : Int) - (szO (getM M x.key) : Int) + (M.garb + (szO (getM M x.key) : Int)) = _
  omega
theorem delM_sum {M : Mp} (h : VldM M) {k : Int} (hg : M.garb + (szO (getM M k) : Int) ≤ 1099511627776) : (delM M k).live + (delM M k).garb = M.live + M.garb := by
  rw [delM_of h hg]
  show M.live - (szO (getM M k) : Int) + (M.garb + (szO (getM M k) : Int)) = _
  omega
theorem VldM.live0 {M : Mp} (h : VldM M) : 0 ≤ M.live := by
  have := h.lv; omega
theorem insM_len (M : Mp) (x : It) {n : Nat} (h : ∀ i, (M.st i).length ≤ n) (i : Nat) : ((insM M x).st i).length ≤ n + 1 := by
  unfold insM
  split
  · show (if i = strp x.key then ins (M.st i) x else M.st i).length ≤ n + 1
    have h1 := ins_length x (M.st i)
    have h2 := h i
    split <;> omega
  · have h2 := h i; omega
theorem delM_len (M : Mp) (k : Int) {n : Nat} (h : ∀ i, (M.st i).length ≤ n) (i : Nat) : ((delM M k).st i).length ≤ n := by
  unfold delM
  split
  · exact h i
  · split
    · show (if i = strp k then drp (M.st i) k else M.st i).length ≤ n
      have h1 := drp_length (M.st i) k
      have h2 := h i
      split <;> omega
    · exact h i
end Go.Proofs.Ytndhjfmdfcpceaa

namespace Go.Proofs.Ytndhjfmdfcpceaa
open Go.RowKit

def lawI (l : List It) : List It := (l.take 20).map mkIt
theorem lawI_length (l : List It) : (lawI l).length ≤ 20 := by
  unfold lawI; rw [List.length_map, List.length_take]; omega
theorem lawI_ok (l : List It) : ∀ x ∈ lawI l, okB x = true := fun x hx => by
  obtain ⟨y, _, rfl⟩ := List.mem_map.1 hx
  exact decide_eq_true (mkIt_ok y)
theorem lawI_snoc {l : List It} {i : Nat} (h : i < l.length) : (l.take (i + 1)).map mkIt = (l.take i).map mkIt ++ [mkIt (iat l i)] := by
  rw [take_snoc h, List.map_append]; rfl
set_option maxRecDepth 100000 in
set_option maxHeartbeats 8000000 in
theorem lawI_any (v : Value) (l : List It) (w : World) (h : RdT w v l) :
    Calls Try.prog 12 #[v] w fun e w' => ∃ v', e = .returned v' ∧ OwnT w' w.heap.size v' (lawI l) ∧ Below w.heap.size w w' := by
  obtain ⟨a, cap, rfl, h1, h2⟩ := h.shape
  have Hr := Lib.hid h
  have HS := Lib.hid (fun i (hi : i < l.length) => lawI_snoc hi)
  have HL := Lib.hid (fun i (hi : i ≤ l.length) => show ((l.take i).map mkIt).length = i by rw [List.length_map, List.length_take]; omega)
  have HE := Lib.hid (fun i (h : i ≤ l.length) (h1 : i ≤ 20) (h2 : i = l.length ∨ i = 20) => show (l.take i).map mkIt = lawI l by
    unfold lawI
    rcases h2 with h2 | h2
    · rw [List.take_of_length_le (by omega), List.take_of_length_le (by omega)]
    · rw [h2])
  clear h
  generalize hn : l.length = n at *
  have HN := Lib.hid hn
  clear hn
  go_enter Try.func12, Try.ntmps12
  go_wp2_with fail
  go_loopw [3, 4] (fun ov iv W => ∃ i : Nat, iv = .int .i64 (i : Int) ∧ i ≤ n ∧ i ≤ 20 ∧ Hid (OwnT W w.heap.size ov ((l.take i).map mkIt)) ∧ Hid (Below w.heap.size w W)) (fun _ iv _ => n - (intOf iv).toNat)
  case atStart => exact ⟨0, by rfl, Nat.zero_le _, Nat.zero_le _, Lib.hid (World.ownsRow_nil _ _ _ _), Lib.hid (Below.refl _ _)⟩
  case round =>
    obtain ⟨i, rfl, hi, hi2, HO, HB⟩ := hrel
    have hsz := HB.out.size
    by_cases hin : i < n
    · have ii1 : (i : Int) < (n : Int) := by omega
      by_cases hit : i < 20
      · have ii2 : (i : Int) < 20 := by omega
        obtain ⟨pb, poff, rfl, c0, c1, c2, c3⟩ := (Hr.out.below HB.out).at hin
        have HSi := Lib.hid (HS.out i hin)
        have hll := HL.out i hi
        generalize (l.take i).map mkIt = T at *
        have HX := Lib.hid (show mkIt (iat l i) = ⟨(iat l i).key, (iat l i).ck, 16 + 8 * ((iat l i).off % 4096), (iat l i).size % 4096⟩ from rfl)
        generalize mkIt (iat l i) = y at *
        generalize iat l i = x at *
        obtain ⟨xk, xc, xo, xs⟩ := x
        dsimp only at *
        have b1 := i64_and4095 xo
        have b2 := i64_and4095 xs
        have b3 : 0 ≤ xo % 4096 ∧ xo % 4096 < 4096 := by omega
        go_upto_region 7 with fail
        have hBx : boxC y = .cells #[.int .u64 xk, .int .u32 xc, .int .i64 (16 + 8 * (xo % 4096)), .int .i64 (xs % 4096)] 29 := by rw [HX.out]
        rw [← hBx]
        obtain ⟨W, hW⟩ : ∃ W, wr.alloc (boxC y) = W := ⟨_, rfl⟩
        have HWb := Lib.hid (show Below w.heap.size w W from hW ▸ bstep HB.out (below_box wr y))
        have HWo := Lib.hid (show OwnT W w.heap.size u3 T from hW ▸ own_keep HO.out (below_box wr y))
        have HWx := Lib.hid (show BoxI W wr.heap.size y from hW ▸ BoxI.new wr y)
        have hws : w.heap.size ≤ W.heap.size := HWb.out.size
        rw [hW]
        clear hW hBx c0 c1 c2 c3 b1 b2 b3 HX HB HO Hr
        have i0 := HWx.out.t.c0
        have i1 := HWx.out.t.c1
        have i2 := HWx.out.t.c2
        have i3 := HWx.out.t.c3
        have iF := HWx.out.f
        have HSrc := Lib.hid (rd_lit1 W y _ rfl)
        have HSr2 := Lib.hid (rdT_rd HSrc.out)
        rw [show boxC y = .cells #[.int .u64 y.key, .int .u32 y.ck, .int .i64 y.off, .int .i64 y.size] 29 from rfl] at HSr2
        have HBy := Lib.hid (show Below w.heap.size w (W.alloc (.cells #[.int .u64 y.key, .int .u32 y.ck, .int .i64 y.off, .int .i64 y.size] 29)) from bstep HWb.out (below_box W y))
        have HOy := Lib.hid (show OwnT (W.alloc (.cells #[.int .u64 y.key, .int .u32 y.ck, .int .i64 y.off, .int .i64 y.size] 29)) w.heap.size u3 T from own_keep HWo.out (below_box W y))
        go_wp2_with (at_builtin; go_must (refine wpList_app (m := 1) rfl (.tmp 30) (.tmp 32) 22 rfl elemT w.heap.size rfl HOy.out rfl HSr2.out (itsC_one' _) (by unfold maxLen; omega) (by omega) HBy.out.size ?_); intro v4 w4 hown4 hgr4 hv4; clear hv4)
        have HO4 := Lib.hid (ownT_of hown4 (itsC_append T [y]).symm)
        have HB4 := Lib.hid (own_below HBy.out HOy.out HBy.out.size hgr4)
        clear hown4 hgr4
        rw [← HSi.out] at HO4
        go_wp2_with fail
        exact ⟨⟨i + 1, by go_num, by omega, by omega, HO4, HB4⟩, by simp [intOf]; omega⟩
      · have ii2 : ¬ (i : Int) < 20 := by omega
        have HF := Lib.hid (show OwnT wr w.heap.size u3 (lawI l) by have := HO.out; rw [HE.out i hi hi2 (Or.inr (by omega))] at this; exact this)
        go_wp2_with fail
        go_ret
        exact ⟨_, rfl, HF.out, HB.out⟩
    · have ii1 : ¬ (i : Int) < (n : Int) := by omega
      have HF := Lib.hid (show OwnT wr w.heap.size u3 (lawI l) by have := HO.out; rw [HE.out i hi hi2 (Or.inl (by omega))] at this; exact this)
      go_wp2_with fail
      go_ret
      exact ⟨_, rfl, HF.out, HB.out⟩
end Go.Proofs.Ytndhjfmdfcpceaa

namespace Go.Proofs.Ytndhjfmdfcpceaa
open Go.RowKit

def M0 : Mp := ⟨fun _ => [], 0, 0⟩
def x0A : It := ⟨1, 0, 16, 0⟩
theorem d_live : (insM M0 x0A).live = 24 := by decide +kernel
theorem d_garb : (insM M0 x0A).garb = 0 := by decide +kernel
theorem d_live2 : (delM (insM M0 x0A) 1).live = 0 := by decide +kernel
theorem d_garb2 : (delM (insM M0 x0A) 1).garb = 24 := by decide +kernel
theorem d_s0 : strp 0 = 0 := by decide +kernel
theorem d_s1 : strp 1 = 4 := by decide +kernel
theorem putM0 (W : World) : Calls Try.prog 15 #[mapV Sl.nil 0 0, .agg #[.int .u64 1, .int .u32 0, .int .i64 16, .int .i64 0]] W fun e w' => (∃ s', e = .returned (mapV s' 24 0) ∧ OwnM w' W.heap.size s' (insM M0 x0A).st) ∧ Below W.heap.size W w' := by
  have h := putM_any Sl.nil M0 x0A W (OwnM.nil _ 0).rd (fun i _ => Nat.zero_le _)
  rw [d_live, d_garb] at h
  exact h
theorem delM1 (s : Sl) (W : World) (hr : RdM W s (insM M0 x0A).st) : Calls Try.prog 18 #[mapV s 24 0, .int .u64 1] W fun e w' => (∃ s', e = .returned (mapV s' 0 24) ∧ OwnM w' W.heap.size s' (delM (insM M0 x0A) 1).st) ∧ Below W.heap.size W w' := by
  have h := deleteM_any s (insM M0 x0A) 1 W hr (fun i _ => Nat.le_trans (insM_len M0 x0A (n := 0) (fun _ => Nat.le_refl _) i) (by decide))
  rw [d_live, d_garb, d_live2, d_garb2] at h
  exact h
set_option maxRecDepth 100000 in
set_option maxHeartbeats 8000000 in
theorem awakeM_any (w : World) : Calls Try.prog 10 #[] w fun e w' => e = .returned (.bool true) ∧ Below w.heap.size w w' := by
  have HS0 := Lib.hid (fun W => stripe_any 0 W)
  have HS1 := Lib.hid (fun W => stripe_any 1 W)
  rw [d_s0] at HS0
  rw [d_s1] at HS1
  go_enter Try.func10, Try.ntmps10
  go_wp2_with fail
  refine (new_any _).mono ?_; rintro e w1 ⟨rfl, hb1⟩
  have HB1 := Lib.hid hb1
  clear hb1
  go_wp2_with fail
  refine (putM0 _).mono ?_; rintro e w2 ⟨⟨s2, rfl, hown2⟩, hb2⟩
  have HB2 := Lib.hid (bstep HB1.out hb2)
  have HR2 := Lib.hid hown2.rd
  have HD := Lib.hid (fun W hr => delM1 s2 W hr)
  generalize (insM M0 x0A).st = f at *
  generalize (delM (insM M0 x0A) 1).st = f2 at *
  clear hb2 hown2
  go_upto_region 2 with fail
  obtain ⟨W3, hW3⟩ : ∃ W3, w2.alloc (.cells (mapC s2 24 0) 37) = W3 := ⟨_, rfl⟩
  have HX3 := Lib.hid (show BoxM W3 w2.heap.size s2 24 0 from hW3 ▸ BoxM.new w2 s2 24 0 37)
  have HB3 := Lib.hid (show Below w.heap.size w W3 from hW3 ▸ bstep HB2.out (below_map w2 s2 24 0 37))
  have HR3 := Lib.hid (show RdM W3 s2 f from hW3 ▸ HR2.out.below (below_map w2 s2 24 0 37))
  rw [hW3]
  clear hW3 HR2
  generalize w2.heap.size = b at *
  have c0 := HX3.out.c0
  have c1 := HX3.out.c1
  have c2 := HX3.out.c2
  have c3 := HX3.out.c3
  have c4 := HX3.out.c4
  have c5 := HX3.out.c5
  have c6 := HX3.out.c6
  have c7 := HX3.out.c7
  have c8 := HX3.out.cl
  have c9 := HX3.out.cg
  have cF := HX3.out.f
  go_wp2_with fail
  refine (HD.out _ HR3.out).mono ?_; rintro e w4 ⟨⟨s4, rfl, hown4⟩, hb4⟩
  have HX4 := Lib.hid (HX3.out.below hb4)
  have HB4 := Lib.hid (bstep HB3.out hb4)
  clear hown4 hb4 c0 c1 c2 c3 c4 c5 c6 c7 c8 c9 cF HX3 HR3 HD
  go_upto_region 3 with fail
  obtain ⟨W5, hW5⟩ : ∃ W5, w4.alloc (.cells (mapC s4 0 24) 37) = W5 := ⟨_, rfl⟩
  have HX5 := Lib.hid (show BoxM W5 b s2 24 0 from hW5 ▸ HX4.out.below (below_map w4 s4 0 24 37))
  have HY5 := Lib.hid (show BoxM W5 w4.heap.size s4 0 24 from hW5 ▸ BoxM.new w4 s4 0 24 37)
  have HB5 := Lib.hid (show Below w.heap.size w W5 from hW5 ▸ bstep HB4.out (below_map w4 s4 0 24 37))
  rw [hW5]
  clear hW5 HX4
  generalize w4.heap.size = b2 at *
  have c0 := HX5.out.c0
  have c1 := HX5.out.c1
  have c2 := HX5.out.c2
  have c3 := HX5.out.c3
  have c4 := HX5.out.c4
  have c5 := HX5.out.c5
  have c6 := HX5.out.c6
  have c7 := HX5.out.c7
  have c8 := HX5.out.cl
  have c9 := HX5.out.cg
  have cF := HX5.out.f
  have d0 := HY5.out.c0
  have d1 := HY5.out.c1
  have d2 := HY5.out.c2
  have d3 := HY5.out.c3
  have d4 := HY5.out.c4
  have d5 := HY5.out.c5
  have d6 := HY5.out.c6
  have d7 := HY5.out.c7
  have d8 := HY5.out.cl
  have d9 := HY5.out.cg
  have dF := HY5.out.f
  go_wp2_with fail
  refine (HS0.out _).mono ?_; rintro e w6 ⟨rfl, rfl⟩
  go_wp2_with fail
  refine (HS1.out _).mono ?_; rintro e w7 ⟨rfl, rfl⟩
  go_wp2_with fail
  go_ret
  exact ⟨rfl, HB5.out⟩
end Go.Proofs.Ytndhjfmdfcpceaa

namespace Go.Proofs.Ytndhjfmdfcpceaa

structure StM (M : Mp) (k S B : Nat) : Prop where
  v : VldM M
  sum : M.live + M.garb = (S : Int)
  le : S ≤ B
  len : ∀ j, (M.st j).length ≤ k
theorem StM.nil : StM M0 0 0 0 := ⟨VldM.nil, rfl, Nat.le_refl _, fun _ => Nat.le_refl _⟩
theorem StM.mono {M : Mp} {k S B B' : Nat} (h : StM M k S B) (hb : B ≤ B') : StM M k S B' := ⟨h.v, h.sum, Nat.le_trans h.le hb, h.len⟩
theorem StM.garb {M : Mp} {k S B : Nat} (h : StM M k S B) (hb : B ≤ 10000000) (o : Option It) : M.garb + (szO o : Int) ≤ 1099511627776 := by
  have h1 := h.v.live0
  have h2 := h.sum
  have h3 := h.le
  have h4 := szO_le o
  omega
theorem StM.put {M : Mp} {k S B : Nat} (h : StM M k S B) (hb : B ≤ 10000000) {x : It} (hx : okB x = true) : StM (insM M x) (k + 1) (S + lenO x) (B + 4127) := by
  have hg := h.garb hb (getM M x.key)
  refine ⟨h.v.ins hx hg, ?_, ?_, insM_len M x h.len⟩
  · rw [insM_sum h.v hx hg, h.sum]; omega
  · have := h.le
    have : lenO x ≤ 4127 := szN_le _
    omega
theorem StM.del {M : Mp} {k S B : Nat} (h : StM M k S B) (hb : B ≤ 10000000) (key : Int) : StM (delM M key) k S B := by
  have hg := h.garb hb (getM M key)
  exact ⟨h.v.del hg, by rw [delM_sum h.v hg, h.sum], h.le, delM_len M key h.len⟩
theorem StM.waste {M : Mp} {k S B : Nat} (h : StM M k S B) (hb : B ≤ 10000000) {n : Nat} (hn : n ≤ 65535) : StM (wasteM M (n : Int)) k (S + n) (B + 65535) := by
  have hg : M.garb + (n : Int) ≤ 1099511627776 := by
    have h1 := h.v.live0
    have h2 := h.sum
    have h3 := h.le
    omega
  refine ⟨h.v.waste (by omega) hg, ?_, ?_, ?_⟩
  · rw [wasteM_of h.v (by omega) hg]
    have := h.sum
    show M.live + (M.garb + (n : Int)) = _
    omega
  · have := h.le
    omega
  · rw [wasteM_of h.v (by omega) hg]; exact h.len
theorem cat_mem {f : Nat → List It} {x : It} : ∀ {n}, x ∈ cat f n → ∃ i, i < n ∧ x ∈ f i
  | 0, h => by cases h
  | n + 1, h => by
    rcases List.mem_append.1 (show x ∈ cat f n ++ f n from h) with h | h
    · obtain ⟨i, hi, h⟩ := cat_mem h
      exact ⟨i, by omega, h⟩
    · exact ⟨n, by omega, h⟩
theorem itemsM_of {M : Mp} (h : VldM M) : itemsM M = srt (allM M) := by unfold itemsM; rw [if_pos ((vldM_iff M).2 h)]
theorem itemsM_ok {M : Mp} (h : VldM M) : ∀ x ∈ itemsM M, okP x := by
  rw [itemsM_of h]
  refine srt_all fun x hx => ?_
  obtain ⟨i, hi, hx⟩ := cat_mem (show x ∈ cat M.st 8 from hx)
  exact (vldB_iff.1 (h.ok i hi)).2 x hx
theorem itemsM_sum {M : Mp} (h : VldM M) : (sumI (itemsM M) : Int) = M.live := by
  rw [itemsM_of h, h.sum, h.lv]
end Go.Proofs.Ytndhjfmdfcpceaa
