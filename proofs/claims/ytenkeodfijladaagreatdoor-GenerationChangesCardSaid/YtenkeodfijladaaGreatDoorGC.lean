/- Several texts in one, each over the last: The needle map's operations keep a valid map valid: plain laws. The law's items: the walk. The law's awake: the walk. What puts, deletes and wastes do to the sums of a needle map: plain laws. A needle map made out of items; puts and drops as the reference has them; when two maps are the same: plain laws. An item appended to a stripe of a map: where the new slice lies, and what becomes of the other stripes. -/
import Derived.Test.YtenkeodfijladaaGreatDoorGB
import Derived.Test.YtenkeodfijladaaGreatDoorMp
import Derived.Test.YtenkeodfijladaaGreatDoorMk
import Derived.Test.YtenkeodfijladaaGreatDoorGA
import Derived.Maps.AppendAt
namespace Go.Proofs.YtenkeodfijladaaGreatDoor

def updM (f : Nat → List It) (k : Nat) (v : List It) : Nat → List It := fun i => if i = k then v else f i
theorem updM_self (f : Nat → List It) (k : Nat) (v : List It) : updM f k v k = v := if_pos rfl
theorem updM_ne (f : Nat → List It) {k i : Nat} (h : i ≠ k) (v : List It) : updM f k v i = f i := if_neg h
theorem updM_le (f : Nat → List It) (k : Nat) (v : List It) {n : Nat} (h1 : ∀ i, (f i).length ≤ n) (h2 : v.length ≤ n) (i : Nat) : (updM f k v i).length ≤ n := by
  unfold updM; split
  · exact h2
  · exact h1 i
theorem cat_upd_le (f : Nat → List It) (k : Nat) (v : List It) : ∀ n, n ≤ k → cat (updM f k v) n = cat f n
  | 0, _ => rfl
  | n + 1, h => by
    show cat (updM f k v) n ++ updM f k v n = cat f n ++ f n
    rw [cat_upd_le f k v n (by omega), updM_ne f (by omega)]
theorem sumI_upd (f : Nat → List It) (k : Nat) (v : List It) : ∀ n, k < n → sumI (cat (updM f k v) n) + sumI (f k) = sumI (cat f n) + sumI v
  | 0, h => by omega
  | n + 1, h => by
    show sumI (cat (updM f k v) n ++ updM f k v n) + sumI (f k) = sumI (cat f n ++ f n) + sumI v
    rw [sumI_append, sumI_append]
    by_cases e : k = n
    · subst e
      rw [cat_upd_le f k v k (Nat.le_refl _), updM_self]
      omega
    · have := sumI_upd f k v n (by omega)
      rw [updM_ne f (by omega)]
      omega
theorem len_upd (f : Nat → List It) (k : Nat) (v : List It) : ∀ n, k < n → (cat (updM f k v) n).length + (f k).length = (cat f n).length + v.length
  | 0, h => by omega
  | n + 1, h => by
    show (cat (updM f k v) n ++ updM f k v n).length + (f k).length = (cat f n ++ f n).length + v.length
    rw [List.length_append, List.length_append]
    by_cases e : k = n
    · subst e
      rw [cat_upd_le f k v k (Nat.le_refl _), updM_self]
      omega
    · have := len_upd f k v n (by omega)
      rw [updM_ne f (by omega)]
      omega
theorem VldM.upd {M : Mp} (h : VldM M) {k : Nat} (hk : k < 8) {v : List It} (hv : vldB v = true) (hs : ∀ x ∈ v, strp x.key = k) {L G : Int}
    (hL : L + (sumI (M.st k) : Int) = M.live + (sumI v : Int)) (g0 : 0 ≤ G) (g1 : G ≤ 1099511627776) : VldM ⟨updM M.st k v, L, G⟩ := by
  have hsum := sumI_upd M.st k v 8 hk
  refine ⟨fun i hi => ?_, fun i hi x hx => ?_, ?_, g0, g1⟩
  · by_cases e : i = k
    · show vldB (updM M.st k v i) = true
      rw [e, updM_self]; exact hv
    · show vldB (updM M.st k v i) = true
      rw [updM_ne _ e]; exact h.ok i hi
  · have hx : x ∈ updM M.st k v i := hx
    by_cases e : i = k
    · rw [e, updM_self] at hx; rw [e]; exact hs x hx
    · rw [updM_ne _ e] at hx; exact h.sp i hi x hx
  · show L = (sumI (cat (updM M.st k v) 8) : Int)
    have hl := h.lv
    rw [show allM M = cat M.st 8 from rfl] at hl
    omega
theorem ins_vldB {l : List It} {x : It} (h : vldB l = true) (hx : okB x = true) : vldB (ins l x) = true := by
  rw [vldB_iff] at h ⊢
  exact ⟨ins_ascA h.1 x, ins_all x (of_decide_eq_true hx) l h.2⟩
theorem drp_vldB {l : List It} (h : vldB l = true) (key : Int) : vldB (drp l key) = true := by
  rw [vldB_iff] at h ⊢
  exact ⟨drp_asc h.1 key, fun y hy => h.2 y (List.mem_filter.1 hy).1⟩
theorem getM_of {M : Mp} (h : VldM M) (key : Int) : getM M key = fnd (M.st (strp key)) key := by unfold getM; rw [if_pos ((vldM_iff M).2 h)]
theorem insM_of {M : Mp} (h : VldM M) {x : It} (hx : okB x = true) (hg : M.garb + (szO (getM M x.key) : Int) ≤ 1099511627776) :
    insM M x = ⟨updM M.st (strp x.key) (ins (M.st (strp x.key)) x), M.live + (lenO x : Int) - (szO (getM M x.key) : Int), M.garb + (szO (getM M x.key) : Int)⟩ := by
  rw [getM_of h] at hg ⊢
  unfold insM
  rw [if_pos ⟨(vldM_iff M).2 h, hx, hg⟩]
  congr 1
  funext i
  unfold updM
  by_cases e : i = strp x.key
  · rw [if_pos e, if_pos e, e]
  · rw [if_neg e, if_neg e]
theorem delM_of {M : Mp} (h : VldM M) {key : Int} (hg : M.garb + (szO (getM M key) : Int) ≤ 1099511627776) :
    delM M key = ⟨updM M.st (strp key) (drp (M.st (strp key)) key), M.live - (szO (getM M key) : Int), M.garb + (szO (getM M key) : Int)⟩ := by
  have hd : ∀ l : List It, fnd l key = none → drp l key = l := fun l hl => List.filter_eq_self.2 fun y hy => by
    have := fnd_none_iff hl y hy
    simp [this]
  have hu : (fun i => if i = strp key then drp (M.st i) key else M.st i) = updM M.st (strp key) (drp (M.st (strp key)) key) := funext fun i => by
    unfold updM
    by_cases e : i = strp key
    · rw [if_pos e, if_pos e, e]
    · rw [if_neg e, if_neg e]
  have hgo := getM_of h key
  unfold delM
  generalize getM M key = o at *
  cases o with
  | none =>
    have e : updM M.st (strp key) (drp (M.st (strp key)) key) = M.st := funext fun i => by
      unfold updM
      by_cases e : i = strp key
      · rw [if_pos e, e, hd _ hgo.symm]
      · rw [if_neg e]
    obtain ⟨f, L, G⟩ := M
    show (⟨f, L, G⟩ : Mp) = ⟨_, L - ((0 : Nat) : Int), G + ((0 : Nat) : Int)⟩
    rw [show L - ((0 : Nat) : Int) = L by omega, show G + ((0 : Nat) : Int) = G by omega, e]
  | some y =>
    have hg' : M.garb + (lenO y : Int) ≤ 1099511627776 := hg
    show (if M.garb + (lenO y : Int) ≤ 1099511627776 then _ else M) = _
    rw [if_pos hg', hu]
    rfl
theorem wasteM_of {M : Mp} (h : VldM M) {n : Int} (h0 : 0 ≤ n) (hg : M.garb + n ≤ 1099511627776) : wasteM M n = ⟨M.st, M.live, M.garb + n⟩ := by
  unfold wasteM
  rw [if_pos ⟨(vldM_iff M).2 h, h0, by omega⟩]
theorem VldM.ins {M : Mp} (h : VldM M) {x : It} (hx : okB x = true) (hg : M.garb + (szO (getM M x.key) : Int) ≤ 1099511627776) : VldM (insM M x) := by
  rw [insM_of h hx hg]
  have hk := strp_lt x.key
  have h0 := h.g0
  refine h.upd hk (ins_vldB (h.ok _ hk) hx) (ins_all (p := fun y => strp y.key = strp x.key) x rfl _ (h.sp _ hk)) ?_ (by omega) hg
  have := sumI_put x _ (vld_asc (h.ok _ hk))
  rw [getM_of h]
  unfold lenO
  omega
theorem VldM.del {M : Mp} (h : VldM M) {key : Int} (hg : M.garb + (szO (getM M key) : Int) ≤ 1099511627776) : VldM (delM M key) := by
  rw [delM_of h hg]
  have hk := strp_lt key
  have h0 := h.g0
  refine h.upd hk (drp_vldB (h.ok _ hk) key) (fun y hy => h.sp _ hk y (List.mem_filter.1 hy).1) ?_ (by omega) hg
  have := sumI_drp key _ (vld_asc (h.ok _ hk))
  rw [getM_of h]
  omega
theorem VldM.waste {M : Mp} (h : VldM M) {n : Int} (h0 : 0 ≤ n) (hg : M.garb + n ≤ 1099511627776) : VldM (wasteM M n) := by
  rw [wasteM_of h h0 hg]
  have := h.g0
  exact ⟨h.ok, h.sp, h.lv, by show 0 ≤ M.garb + n; omega, hg⟩
theorem VldM.nil : VldM ⟨fun _ => [], 0, 0⟩ := ⟨fun i _ => rfl, fun i _ x hx => (by cases hx), (by decide), (by decide), (by decide)⟩
theorem szO_le (o : Option It) : szO o ≤ 4127 := by
  cases o with
  | none => exact Nat.zero_le _
  | some y => exact szN_le _
theorem fnd_upd (M : Mp) (k : Nat) (v : List It) (key : Int) : fnd (updM M.st k v (strp key)) key = if strp key = k then fnd v key else fnd (M.st (strp key)) key := by
  unfold updM; split <;> rfl
theorem getM_ins {M : Mp} (h : VldM M) {x : It} (hx : okB x = true) (hg : M.garb + (szO (getM M x.key) : Int) ≤ 1099511627776) (key : Int) :
    getM (insM M x) key = if x.key = key then some x else getM M key := by
  rw [getM_of (h.ins hx hg), insM_of h hx hg, getM_of h key]
  show fnd (updM _ _ _ _) key = _
  rw [fnd_upd]
  by_cases e : x.key = key
  · rw [if_pos e, ← e, if_pos rfl, fnd_ins_self]
  · rw [if_neg e]
    by_cases e2 : strp key = strp x.key
    · rw [if_pos e2, fnd_ins_other x key (fun e3 => e e3.symm), e2]
    · rw [if_neg e2]
theorem getM_del {M : Mp} (h : VldM M) {k : Int} (hg : M.garb + (szO (getM M k) : Int) ≤ 1099511627776) (key : Int) :
    getM (delM M k) key = if k = key then none else getM M key := by
  rw [getM_of (h.del hg), delM_of h hg, getM_of h key]
  show fnd (updM _ _ _ _) key = _
  rw [fnd_upd]
  by_cases e : k = key
  · rw [if_pos e, ← e, if_pos rfl, fnd_drp_self]
  · rw [if_neg e]
    by_cases e2 : strp key = strp k
    · rw [if_pos e2, fnd_drp_other k key (fun e3 => e e3.symm), e2]
    · rw [if_neg e2]
theorem insM_sum {M : Mp} (h : VldM M) {x : It} (hx : okB x = true) (hg : M.garb + (szO (getM M x.key) : Int) ≤ 1099511627776) : (insM M x).live + (insM M x).garb = M.live + M.garb + (lenO x : Int) := by
  rw [insM_of h hx hg]
  show M.live + (lenO x : Int) - (szO (getM M x.key) : Int) + (M.garb + (szO (getM M x.key) : Int)) = _
  omega
theorem delM_sum {M : Mp} (h : VldM M) {k : Int} (hg : M.garb + (szO (getM M k) : Int) ≤ 1099511627776) : (delM M k).live + (delM M k).garb = M.live + M.garb := by
  rw [delM_of h hg]
  show M.live - (szO (getM M k) : Int) + (M.garb + (szO (getM M k) : Int)) = _
  omega
theorem VldM.live0 {M : Mp} (h : VldM M) : 0 ≤ M.live := by
  have := h.lv; omega
theorem insM_len (M : Mp) (x : It) {n : Nat} (h : ∀ i, (M.st i).length ≤ n) (i : Nat) : ((insM M x).st i).length ≤ n + 1 := by
  unfold insM
  split
  · show (if i = strp x.key then ins (M.st i) x else M.st i).length ≤ n + 1
    have h1 := ins_length x (M.st i)
    have h2 := h i
    split <;> omega
  · have h2 := h i; omega
theorem delM_len (M : Mp) (k : Int) {n : Nat} (h : ∀ i, (M.st i).length ≤ n) (i : Nat) : ((delM M k).st i).length ≤ n := by
  unfold delM
  split
  · exact h i
  · split
    · show (if i = strp k then drp (M.st i) k else M.st i).length ≤ n
      have h1 := drp_length (M.st i) k
      have h2 := h i
      split <;> omega
    · exact h i
end Go.Proofs.YtenkeodfijladaaGreatDoor

namespace Go.Proofs.YtenkeodfijladaaGreatDoor
open Go.RowKit

def lawI (l : List It) : List It := (l.take 20).map mkIt
theorem lawI_length (l : List It) : (lawI l).length ≤ 20 := by
  unfold lawI; rw [List.length_map, List.length_take]; omega
theorem lawI_ok (l : List It) : ∀ x ∈ lawI l, okB x = true := fun x hx => by
  obtain ⟨y, _, rfl⟩ := List.mem_map.1 hx
  exact decide_eq_true (mkIt_ok y)
theorem lawI_snoc {l : List It} {i : Nat} (h : i < l.length) : (l.take (i + 1)).map mkIt = (l.take i).map mkIt ++ [mkIt (iat l i)] := by
  rw [take_snoc h, List.map_append]; rfl
end Go.Proofs.YtenkeodfijladaaGreatDoor

namespace Go.Proofs.YtenkeodfijladaaGreatDoor
open Go.RowKit

def M0 : Mp := ⟨fun _ => [], 0, 0⟩
def x0A : It := ⟨1, 0, 16, 0⟩
theorem d_live : (insM M0 x0A).live = 24 := by decide +kernel
theorem d_garb : (insM M0 x0A).garb = 0 := by decide +kernel
theorem d_live2 : (delM (insM M0 x0A) 1).live = 0 := by decide +kernel
theorem d_garb2 : (delM (insM M0 x0A) 1).garb = 24 := by decide +kernel
theorem d_s0 : strp 0 = 0 := by decide +kernel
theorem d_s1 : strp 1 = 4 := by decide +kernel
theorem putM0 (W : World) : Calls Tryz.prog 32 #[mapV Sl.nil 0 0, .agg #[.int .u64 1, .int .u32 0, .int .i64 16, .int .i64 0]] W fun e w' => (∃ s', e = .returned (mapV s' 24 0) ∧ OwnM w' W.heap.size s' (insM M0 x0A).st) ∧ Below W.heap.size W w' := by
  have h := putM_any Sl.nil M0 x0A W (OwnM.nil _ 0).rd (fun i _ => Nat.zero_le _)
  rw [d_live, d_garb] at h
  exact h
theorem delM1 (s : Sl) (W : World) (hr : RdM W s (insM M0 x0A).st) : Calls Tryz.prog 31 #[mapV s 24 0, .int .u64 1] W fun e w' => (∃ s', e = .returned (mapV s' 0 24) ∧ OwnM w' W.heap.size s' (delM (insM M0 x0A) 1).st) ∧ Below W.heap.size W w' := by
  have h := deleteM_any s (insM M0 x0A) 1 W hr (fun i _ => Nat.le_trans (insM_len M0 x0A (n := 0) (fun _ => Nat.le_refl _) i) (by decide))
  rw [d_live, d_garb, d_live2, d_garb2] at h
  exact h
end Go.Proofs.YtenkeodfijladaaGreatDoor

namespace Go.Proofs.YtenkeodfijladaaGreatDoor

structure StM (M : Mp) (k S B : Nat) : Prop where
  v : VldM M
  sum : M.live + M.garb = (S : Int)
  le : S ≤ B
  len : ∀ j, (M.st j).length ≤ k
theorem StM.nil : StM M0 0 0 0 := ⟨VldM.nil, rfl, Nat.le_refl _, fun _ => Nat.le_refl _⟩
theorem StM.mono {M : Mp} {k S B B' : Nat} (h : StM M k S B) (hb : B ≤ B') : StM M k S B' := ⟨h.v, h.sum, Nat.le_trans h.le hb, h.len⟩
theorem StM.garb {M : Mp} {k S B : Nat} (h : StM M k S B) (hb : B ≤ 10000000) (o : Option It) : M.garb + (szO o : Int) ≤ 1099511627776 := by
  have h1 := h.v.live0
  have h2 := h.sum
  have h3 := h.le
  have h4 := szO_le o
  omega
theorem StM.put {M : Mp} {k S B : Nat} (h : StM M k S B) (hb : B ≤ 10000000) {x : It} (hx : okB x = true) : StM (insM M x) (k + 1) (S + lenO x) (B + 4127) := by
  have hg := h.garb hb (getM M x.key)
  refine ⟨h.v.ins hx hg, ?_, ?_, insM_len M x h.len⟩
  · rw [insM_sum h.v hx hg, h.sum]; omega
  · have := h.le
    have : lenO x ≤ 4127 := szN_le _
    omega
theorem StM.del {M : Mp} {k S B : Nat} (h : StM M k S B) (hb : B ≤ 10000000) (key : Int) : StM (delM M key) k S B := by
  have hg := h.garb hb (getM M key)
  exact ⟨h.v.del hg, by rw [delM_sum h.v hg, h.sum], h.le, delM_len M key h.len⟩
theorem StM.waste {M : Mp} {k S B : Nat} (h : StM M k S B) (hb : B ≤ 10000000) {n : Nat} (hn : n ≤ 65535) : StM (wasteM M (n : Int)) k (S + n) (B + 65535) := by
  have hg : M.garb + (n : Int) ≤ 1099511627776 := by
    have h1 := h.v.live0
    have h2 := h.sum
    have h3 := h.le
    omega
  refine ⟨h.v.waste (by omega) hg, ?_, ?_, ?_⟩
  · rw [wasteM_of h.v (by omega) hg]
    have := h.sum
    show M.live + (M.garb + (n : Int)) = _
    omega
  · have := h.le
    omega
  · rw [wasteM_of h.v (by omega) hg]; exact h.len
theorem cat_mem {f : Nat → List It} {x : It} : ∀ {n}, x ∈ cat f n → ∃ i, i < n ∧ x ∈ f i
  | 0, h => by cases h
  | n + 1, h => by
    rcases List.mem_append.1 (show x ∈ cat f n ++ f n from h) with h | h
    · obtain ⟨i, hi, h⟩ := cat_mem h
      exact ⟨i, by omega, h⟩
    · exact ⟨n, by omega, h⟩
theorem itemsM_of {M : Mp} (h : VldM M) : itemsM M = srt (allM M) := by unfold itemsM; rw [if_pos ((vldM_iff M).2 h)]
theorem itemsM_ok {M : Mp} (h : VldM M) : ∀ x ∈ itemsM M, okP x := by
  rw [itemsM_of h]
  refine srt_all fun x hx => ?_
  obtain ⟨i, hi, hx⟩ := cat_mem (show x ∈ cat M.st 8 from hx)
  exact (vldB_iff.1 (h.ok i hi)).2 x hx
theorem itemsM_sum {M : Mp} (h : VldM M) : (sumI (itemsM M) : Int) = M.live := by
  rw [itemsM_of h, h.sum, h.lv]
end Go.Proofs.YtenkeodfijladaaGreatDoor

namespace Go.Proofs.YtenkeodfijladaaGreatDoor

def fromM (l : List It) (g : Int) : Mp :=
  if l.all okB = true ∧ 0 ≤ g ∧ g ≤ 1099511627776 then ⟨fun i => inS i (srt l), (sumI (srt l) : Int), g⟩ else M0
theorem fromM_of {l : List It} {g : Int} (h : l.all okB = true) (h0 : 0 ≤ g) (h1 : g ≤ 1099511627776) : fromM l g = ⟨fun i => inS i (srt l), (sumI (srt l) : Int), g⟩ := if_pos ⟨h, h0, h1⟩
theorem fromM_no {l : List It} {g : Int} (h : ¬ (l.all okB = true ∧ 0 ≤ g ∧ g ≤ 1099511627776)) : fromM l g = M0 := if_neg h
theorem all_okP {l : List It} (h : l.all okB = true) : ∀ x ∈ l, okP x := fun x hx => by
  have := List.all_eq_true.1 h x hx
  unfold okB at this
  exact of_decide_eq_true this
theorem okP_all {l : List It} (h : ∀ x ∈ l, okP x) : l.all okB = true := List.all_eq_true.2 fun x hx => by
  unfold okB
  exact decide_eq_true (h x hx)
/-- What the stripes of a list hold together is the list. -/
theorem srt_cat_inS {T : List It} (h : Asc T) : srt (cat (fun i => inS i T) 8) = T := by
  refine asc_ext _ _ (pw_of (srt_asc _)) (pw_of h) fun k => ?_
  rw [fnd_cat _ k 8 fun i _ => ⟨(ascR_iff _).1 (pw_ascR (inS_asc i h)), inS_ok i T⟩, if_pos (strp_lt k), fnd_inS, if_pos rfl]
theorem sumI_cat_inS {T : List It} (h : Asc T) : sumI (cat (fun i => inS i T) 8) = sumI T := by
  rw [← sumI_cat _ 8 fun i _ => ⟨(ascR_iff _).1 (pw_ascR (inS_asc i h)), inS_ok i T⟩, srt_cat_inS h]
theorem inS_all {T : List It} (h : ∀ x ∈ T, okP x) (i : Nat) : ∀ x ∈ inS i T, okP x := fun x hx => h x (List.mem_filter.1 hx).1
theorem inS_len (i : Nat) (T : List It) : (inS i T).length ≤ T.length := List.length_filter_le _ _
theorem fromM_vld (l : List It) (g : Int) : VldM (fromM l g) := by
  by_cases h : l.all okB = true ∧ 0 ≤ g ∧ g ≤ 1099511627776
  · obtain ⟨h, h0, h1⟩ := h
    rw [fromM_of h h0 h1]
    refine ⟨fun i _ => ?_, fun i _ => inS_ok i _, ?_, h0, h1⟩
    · rw [vldB_iff]
      exact ⟨(ascR_iff _).1 (pw_ascR (inS_asc i (srt_asc l))), inS_all (srt_all (all_okP h)) i⟩
    · show (sumI (srt l) : Int) = (sumI (cat (fun i => inS i (srt l)) 8) : Int)
      rw [sumI_cat_inS (srt_asc l)]
  · rw [fromM_no h]; exact VldM.nil
theorem fromM_items {l : List It} {g : Int} (h : l.all okB = true) (h0 : 0 ≤ g) (h1 : g ≤ 1099511627776) : itemsM (fromM l g) = srt l := by
  rw [itemsM_of (fromM_vld l g), fromM_of h h0 h1]
  exact srt_cat_inS (srt_asc l)
theorem fromM_len (l : List It) (g : Int) (i : Nat) : ((fromM l g).st i).length ≤ l.length := by
  unfold fromM
  split
  · exact Nat.le_trans (inS_len _ _) (srt_length l)
  · exact Nat.zero_le _
/-! ### The reference's Put and Delete -/
def rputM (M : Mp) (x : It) : Mp :=
  if vldM M = true ∧ okB x = true ∧ M.garb + (szO (getM M x.key) : Int) ≤ 1099511627776 then fromM (ins (itemsM M) x) (M.garb + (szO (getM M x.key) : Int)) else M
def rdelM (M : Mp) (key : Int) : Mp :=
  match getM M key with
  | none => M
  | some y => if M.garb + (lenO y : Int) ≤ 1099511627776 then fromM (drp (itemsM M) key) (M.garb + (lenO y : Int)) else M
/-! ### Sameness -/
structure EqM (M N : Mp) : Prop where
  st : ∀ i, i < 8 → M.st i = N.st i
  l : M.live = N.live
  g : M.garb = N.garb
theorem EqM.refl (M : Mp) : EqM M M := ⟨fun _ _ => rfl, rfl, rfl⟩
theorem EqM.symm {M N : Mp} (h : EqM M N) : EqM N M := ⟨fun i hi => (h.st i hi).symm, h.l.symm, h.g.symm⟩
theorem EqM.trans {M N O : Mp} (h : EqM M N) (h' : EqM N O) : EqM M O := ⟨fun i hi => (h.st i hi).trans (h'.st i hi), h.l.trans h'.l, h.g.trans h'.g⟩
def sameM (M N : Mp) : Bool := (List.range 8).all (fun i => decide (M.st i = N.st i)) && (M.live == N.live) && (M.garb == N.garb)
theorem sameM_iff {M N : Mp} : sameM M N = true ↔ EqM M N := by
  unfold sameM
  rw [Bool.and_eq_true, Bool.and_eq_true, List.all_eq_true, beq_iff_eq, beq_iff_eq]
  exact ⟨fun ⟨⟨h1, h2⟩, h3⟩ => ⟨fun i hi => of_decide_eq_true (h1 i (List.mem_range.2 hi)), h2, h3⟩, fun h => ⟨⟨fun i hi => decide_eq_true (h.st i (List.mem_range.1 hi)), h.l⟩, h.g⟩⟩
theorem EqM.cat {M N : Mp} (h : EqM M N) : ∀ n, n ≤ 8 → cat M.st n = cat N.st n
  | 0, _ => rfl
  | n + 1, hn => by
    show Go.Proofs.YtenkeodfijladaaGreatDoor.cat M.st n ++ M.st n = Go.Proofs.YtenkeodfijladaaGreatDoor.cat N.st n ++ N.st n
    rw [h.cat n (by omega), h.st n (by omega)]
theorem EqM.all {M N : Mp} (h : EqM M N) : allM M = allM N := h.cat 8 (Nat.le_refl _)
theorem EqM.vld {M N : Mp} (h : EqM M N) (v : VldM M) : VldM N :=
  ⟨fun i hi => by rw [← h.st i hi]; exact v.ok i hi, fun i hi => by rw [← h.st i hi]; exact v.sp i hi, by rw [← h.l, ← h.all]; exact v.lv, by rw [← h.g]; exact v.g0, by rw [← h.g]; exact v.g1⟩
theorem EqM.vldM {M N : Mp} (h : EqM M N) : vldM M = vldM N := by
  rw [Bool.eq_iff_iff, vldM_iff, vldM_iff]
  exact ⟨h.vld, h.symm.vld⟩
theorem EqM.items {M N : Mp} (h : EqM M N) : itemsM M = itemsM N := by
  unfold itemsM
  rw [h.vldM, h.all]
theorem EqM.get {M N : Mp} (h : EqM M N) (key : Int) : getM M key = getM N key := by
  unfold getM
  rw [h.vldM, h.st _ (strp_lt key)]
theorem fromM_again {M : Mp} (h : VldM M) : EqM (fromM (itemsM M) M.garb) M := by
  rw [fromM_of (okP_all (itemsM_ok h)) h.g0 h.g1, srt_of_asc (itemsM_asc M)]
  refine ⟨fun i hi => ?_, itemsM_sum h, rfl⟩
  show Go.Proofs.YtenkeodfijladaaGreatDoor.inS i (itemsM M) = M.st i
  rw [itemsM_of h]
  exact h.inS hi
theorem put_same (M : Mp) (x : It) : EqM (insM M x) (rputM M x) := by
  by_cases hv : VldM M
  · have hv' := (vldM_iff M).2 hv
    by_cases hx : okB x = true
    · by_cases hg : M.garb + (szO (getM M x.key) : Int) ≤ 1099511627776
      · have hp := itemsM_ok hv
        have ha := itemsM_asc M
        have hfn : fnd (itemsM M) x.key = getM M x.key := by
          have := fnd_itemsM M x.key
          rwa [srt_of_asc ha] at this
        unfold rputM
        rw [if_pos ⟨hv', hx, hg⟩, insM_of hv hx hg]
        have h0 : 0 ≤ M.garb + (szO (getM M x.key) : Int) := by have := hv.g0; omega
        rw [fromM_of (okP_all (ins_all x (of_decide_eq_true hx) _ hp)) h0 hg, srt_of_asc (ins_ascA ha x)]
        refine ⟨fun i hi => ?_, ?_, rfl⟩
        · show updM M.st (strp x.key) (ins (M.st (strp x.key)) x) i = Go.Proofs.YtenkeodfijladaaGreatDoor.inS i (ins (itemsM M) x)
          rw [inS_ins ha, itemsM_of hv, hv.inS hi]
          unfold updM
          by_cases e : i = strp x.key
          · rw [if_pos e, if_pos e.symm, e]
          · rw [if_neg e, if_neg (Ne.symm e)]
        · show M.live + (lenO x : Int) - (szO (getM M x.key) : Int) = (sumI (ins (itemsM M) x) : Int)
          have h1 := sumI_put x (itemsM M) ha
          rw [hfn] at h1
          have h2 := itemsM_sum hv
          unfold lenO
          omega
      · unfold rputM insM
        rw [if_neg (fun h => hg (by rw [getM_of hv]; exact h.2.2)), if_neg (fun h => hg h.2.2)]
        exact .refl M
    · unfold rputM insM
      rw [if_neg (fun h => hx h.2.1), if_neg (fun h => hx h.2.1)]
      exact .refl M
  · unfold rputM insM
    rw [if_neg (fun h => hv ((vldM_iff M).1 h.1)), if_neg (fun h => hv ((vldM_iff M).1 h.1))]
    exact .refl M
theorem del_same (M : Mp) (key : Int) : EqM (delM M key) (rdelM M key) := by
  unfold delM rdelM
  cases hgo : getM M key with
  | none => exact .refl M
  | some y =>
    have hv : VldM M := (vldM_iff M).1 (getM_some hgo).1
    show EqM (if M.garb + (lenO y : Int) ≤ 1099511627776 then _ else M) (if M.garb + (lenO y : Int) ≤ 1099511627776 then _ else M)
    by_cases hg : M.garb + (lenO y : Int) ≤ 1099511627776
    · rw [if_pos hg, if_pos hg]
      have ha := itemsM_asc M
      have hfn : fnd (itemsM M) key = getM M key := by
        have := fnd_itemsM M key
        rwa [srt_of_asc ha] at this
      have h0 : 0 ≤ M.garb + (lenO y : Int) := by have := hv.g0; omega
      rw [fromM_of (l := drp (itemsM M) key) (okP_all fun x hx => itemsM_ok hv x (List.mem_filter.1 hx).1) h0 hg, srt_of_asc (drp_asc ha key)]
      refine ⟨fun i hi => ?_, ?_, rfl⟩
      · show (if i = strp key then drp (M.st i) key else M.st i) = Go.Proofs.YtenkeodfijladaaGreatDoor.inS i (drp (itemsM M) key)
        rw [inS_drp ha, itemsM_of hv, hv.inS hi]
        by_cases e : i = strp key
        · rw [if_pos e, if_pos e.symm]
        · rw [if_neg e, if_neg (Ne.symm e)]
      · show M.live - (lenO y : Int) = (sumI (drp (itemsM M) key) : Int)
        have h1 := sumI_drp key (itemsM M) ha
        rw [hfn, hgo] at h1
        have h2 := itemsM_sum hv
        have h3 : szO (some y) = lenO y := rfl
        omega
    · rw [if_neg hg, if_neg hg]
      exact .refl M
end Go.Proofs.YtenkeodfijladaaGreatDoor

namespace Go.Proofs.YtenkeodfijladaaGreatDoor
open Go.RowKit

theorem step_appAt {P : Program} {w : World} {ops : Array Oper} {o : Oper} {a : Act} {K : Act → World → Prop} {Q : Exit → Act → World → Prop} {E : Prop} (hgd : o.guard = none) (s x : Operand) (t : TypeId)
    (ho : o.op = .call { callee := .builtin .append, args := #[s, x], argTypes := #[t, t] })
    {e : TypeId} {sz bytes : Nat} (hE : ElemT P t e sz bytes) (base : Nat)
    {v : Value} {n : Nat} {xs : List Value} (hs : a.eval s = v) (hown : w.ownsRow base e sz v n xs) {ad : Addr} {m c : Nat} {news : List Value} (hx : a.eval x = .slice (some ad) m c)
    (hl : news.length = m * sz) (hnews : ∀ j u, news[j]? = some u → w.cell? (ad.add j) = some u)
    (h1 : ∀ u ∈ news, u.oneCell' = true) (h63 : n + m ≤ maxLen) (hbytes : (n + m) * bytes ≤ 140737488355328) (hbase : base ≤ w.heap.size)
    (h : ∀ v' w', w'.ownsRow base e sz v' (n + m) (xs ++ news) → w.grownBy w' v.ownBlock → (v'.ownBlock = v.ownBlock ∨ v'.ownBlock = some w.heap.size) → K (a.put o.dst v') w') :
    if Region.wanted o (yielded ops a.tmps) = true then Oper.wp P o a w K Q else E := by
  have hw : Region.wanted o (yielded ops a.tmps) = true := by simp [Region.wanted, hgd]
  rw [if_pos hw]
  obtain ⟨ht, hsz, i, z, hi, hz, hs', hby, hzs⟩ := hE
  obtain ⟨v', w', hrun, r1, r2, _, r4⟩ := run_append_own_at (P := P) w base t o.type e i z sz bytes ht hi hz hs' hby hzs hsz v n xs hown ad m c news hl hnews h1 h63 hbytes hbase
  unfold Oper.wp
  simp [execOp, ho, resolve, invoke, builtin, hs, hx, hrun, Result.andThen]
  exact h v' w' r1 r2 r4
theorem news_box (W : World) (x : It) (k : Nat) (hk : W.heap.size = k) : ∀ j u, (itC x)[j]? = some u → (W.alloc (boxC x)).drew.cell? ((⟨k, 0, none⟩ : Addr).add j) = some u := by
  subst hk
  intro j u hj
  rw [addr_add, Nat.zero_add]
  show (W.alloc (boxC x)).cell? _ = some u
  rw [cell_of_row _ _ j _ _ (0, 0) (heap_alloc_new W _)]
  rw [← Array.getElem?_toList]; exact hj
/-- No two stripes share a block. -/
def ApM (s : Sl) : Prop := ∀ i j, i < 8 → j < 8 → i ≠ j → (s.v i).ownBlock = none ∨ (s.v i).ownBlock ≠ (s.v j).ownBlock
theorem ApM.nil : ApM Sl.nil := fun _ _ _ _ _ => .inl rfl
theorem BoxM.grown {W W' : World} {b : Nat} {s : Sl} {l g : Int} {row : Option Nat} (h : BoxM W b s l g) (hg : W.grownBy W' row) (hne : row ≠ some b) : BoxM W' b s l g := by
  have hn : ∀ i, some (⟨b, i, none⟩ : Addr).block ≠ row := fun i e => hne e.symm
  refine ⟨fun j hj => hg.cell (h.c j hj) (hn j), hg.cell h.cl (hn 8), hg.cell h.cg (hn 9), fun i => ?_⟩
  rw [World.frozen?_of_block (w := W) (hg.block b h.lt (hn 0))]
  exact h.f i
theorem own_row_ge {w : World} {B : Nat} {e : TypeId} {sz n : Nat} {v : Value} {xs : List Value} (h : w.ownsRow B e sz v n xs) {b : Nat} (hb : b < B) : v.ownBlock ≠ some b := fun e => by
  have := (h.lt b e).1; omega
theorem appM {w w4 : World} {bm B k : Nat} {s : Sl} {f : Nat → List It} {x : It} {va : Option Addr} {n vc : Nat} (ho : OwnM w B s f) (hd : ApM s) (hk : k < 8) (hbm : bm < B)
    (hown : w4.ownsRow B 77 4 (.slice va n vc) n (itsC (f k ++ [x]))) (hg : w.grownBy w4 (s.v k).ownBlock) (hat : (Value.slice va n vc).ownBlock = (s.v k).ownBlock ∨ (Value.slice va n vc).ownBlock = some w.heap.size) :
    OwnM (w4.setCell ⟨bm, k, none⟩ (.slice va n vc)) B (s.set k va n vc) (fun i => if i = k then f k ++ [x] else f i) ∧ ApM (s.set k va n vc) := by
  have hlt : ∀ i, i < 8 → ∀ g, (s.v i).ownBlock = some g → g < w.heap.size := fun i hi g hg => ((ho i hi).lt g hg).2
  constructor
  · intro i hi
    show OwnT _ B ((s.set k va n vc).v i) (if i = k then f k ++ [x] else f i)
    rw [Sl.set_v]
    by_cases e : i = k
    · rw [if_pos e, if_pos e]
      exact ownT_of (own_set_lo hown (p := ⟨bm, k, none⟩) hbm _) rfl
    · rw [if_neg e, if_neg e]
      exact own_set_lo (World.ownsRow.kept (ho i hi) hg (hd i k hi hk e)) (p := ⟨bm, k, none⟩) hbm _
  · intro i j hi hj hij
    rw [Sl.set_v, Sl.set_v]
    by_cases e : i = k
    · subst e
      rw [if_pos rfl, if_neg (Ne.symm hij)]
      rcases hat with hat | hat
      · rw [hat]; exact hd i j hi hj hij
      · rw [hat]
        refine .inr fun h2 => ?_
        have := hlt j hj _ h2.symm
        omega
    · rw [if_neg e]
      by_cases e2 : j = k
      · subst e2
        rw [if_pos rfl]
        rcases hat with hat | hat
        · rw [hat]; exact hd i j hi hj hij
        · rw [hat]
          cases hv : (s.v i).ownBlock with
          | none => exact .inl rfl
          | some g =>
            refine .inr fun h2 => ?_
            injection h2 with h2
            have := hlt i hi g hv
            omega
      · rw [if_neg e2]; exact hd i j hi hj hij
/-- One round of making a map: what it does to all that the round carries. -/
theorem fromStep {w0 w w4 : World} {B0 bR bm B2 B3 k : Nat} {s : Sl} {f : Nat → List It} {x : It} {va : Option Addr} {n vc : Nat} {v3 : Value} {T : List It} {L G : Int}
    (hR : BoxM w bR Sl.nil 0 0) (hM : BoxM w bm s L G) (hO : OwnM w B3 s f) (hA : ApM s) (hT : OwnT w B2 v3 T) (hb : Below B0 w0 w) (h0 : B0 ≤ bm) (h1 : bR < bm) (h2 : bm < B2) (h3 : B2 ≤ B3) (hB3 : B3 ≤ w.heap.size)
    (hTl : ∀ g, v3.ownBlock = some g → g < B3) (hk : k < 8) (hown : w4.ownsRow B3 77 4 (.slice va n vc) n (itsC (f k ++ [x]))) (hg : w.grownBy w4 (s.v k).ownBlock)
    (hat : (Value.slice va n vc).ownBlock = (s.v k).ownBlock ∨ (Value.slice va n vc).ownBlock = some w.heap.size) :
    BoxM (w4.setCell ⟨bm, k, none⟩ (.slice va n vc)) bR Sl.nil 0 0 ∧ BoxM (w4.setCell ⟨bm, k, none⟩ (.slice va n vc)) bm (s.set k va n vc) L G ∧
      OwnM (w4.setCell ⟨bm, k, none⟩ (.slice va n vc)) B3 (s.set k va n vc) (fun i => if i = k then f k ++ [x] else f i) ∧ ApM (s.set k va n vc) ∧
      OwnT (w4.setCell ⟨bm, k, none⟩ (.slice va n vc)) B2 v3 T ∧ Below B0 w0 (w4.setCell ⟨bm, k, none⟩ (.slice va n vc)) := by
  have hok := hO k hk
  have hap := appM hO hA hk (show bm < B3 by omega) hown hg hat
  refine ⟨(hR.grown hg (own_row_ge hok (by omega))).set_ne (p := ⟨bm, k, none⟩) (show bm ≠ bR by omega) _, (hM.grown hg (own_row_ge hok (by omega))).setS hk _ _ _, hap.1, hap.2, ?_, ?_⟩
  · refine own_set_lo (World.ownsRow.kept hT hg ?_) (p := ⟨bm, k, none⟩) h2 _
    cases hv : v3.ownBlock with
    | none => exact .inl rfl
    | some g =>
      refine .inr fun e => ?_
      have h4 := hTl g hv
      have h5 := (World.ownsRow.lt hok g e.symm).1
      omega
  · exact (own_below hb (World.ownsRow.mono hok (show B0 ≤ B3 by omega)) (by omega) hg).setCell (p := ⟨bm, k, none⟩) h0 _
end Go.Proofs.YtenkeodfijladaaGreatDoor
