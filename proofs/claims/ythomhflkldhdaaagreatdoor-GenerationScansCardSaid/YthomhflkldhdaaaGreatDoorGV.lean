/- Several texts in one, each over the last: The walks over Encode, the program's and the reference's. The walks over slices.Equal of bytes and over Decode, the program's and the reference's. The records of a file, in plain Lean: opened, torn, salvaged; superblocks. No program here. The walks over superblock's small functions. superblock.Decode and its reference: the walks. Arrays of four bytes compared; a slice as an array. superblock.Decode: the walk. needlestoreref07.Encode: the walk. needle.Decode: the walk. The reference's Decode of a needle: the walk. Records in memory: each in five cells, its data in a row of bytes of the call's own. scan.Open: the walk. needlestoreref06.Valid, Encode, Same. needlestoreref06.Encode: the walk. Salvage: the program's and the reference's. The reference's Records and Open. The law's file. scan.last: which record of a key is the last. scan.Items: the walk. The items and the bytes of records, in plain Lean: one record more. No program here. The reference's Items of records: the walk. scan.Bytes: the walk; sizes of any number of bytes. The reference's Bytes of records: the walk. What a generation has is what a scan of its file finds, plain. -/
import Derived.Test.YthomhflkldhdaaaGreatDoorGQ
import Derived.Test.YthomhflkldhdaaaGreatDoorIv
import Derived.Deep.RegionLaw
import Derived.Deep.RegionWith
import Derived.Deep.DeepCutAuto
import Derived.Deep.RegionHeld3
import Derived.Laws.StructEq
import Derived.ChangeKeysEq
import Derived.ArgAppend
import Derived.Lib.SmallJoins
import Derived.Test.YthomhflkldhdaaaGreatDoorGN
import Derived.Deep.Onto
import Derived.Test.YthomhflkldhdaaaGreatDoorBx
import Derived.WalkMore
import Derived.ScopeJumps
import Derived.Maps.OwnOps
import Derived.Maps.Views
import Derived.Maps.OwnSet
import Derived.Test.YthomhflkldhdaaaGreatDoorPm
import Derived.Test.YthomhflkldhdaaaGreatDoorSv
import Derived.Test.YthomhflkldhdaaaGreatDoorPr
import Derived.Test.YthomhflkldhdaaaGreatDoorPz
import Derived.Test.YthomhflkldhdaaaGreatDoorSu
import Derived.Test.YthomhflkldhdaaaGreatDoorRf
import Derived.StillTailTactics
import Derived.Test.YthomhflkldhdaaaGreatDoorNz
import Derived.Test.YthomhflkldhdaaaGreatDoorGR
namespace Go.Proofs.YthomhflkldhdaaaGreatDoor
open Go.RowKit

theorem OwnB.nil (w : World) (B : Nat) : OwnB w B (.slice none 0 0) [] := World.ownsRow_nil _ _ _ _
theorem OwnB.len {w : World} {B : Nat} {v : Value} {l : List UInt8} (h : OwnB w B v l) : ∃ a cap, v = .slice a l.length cap := by
  obtain ⟨a, cap, e, _⟩ := own_form h
  exact ⟨a, cap, e⟩
theorem rnum8 (v : Nat) (h : v < 18446744073709551616) (W : World) : Calls Tryz.prog 76 #[.int .u64 (v : Int), .int .i64 8] W fun e w' => ∃ v', e = .returned v' ∧ OwnB w' W.heap.size v' (be v 8) ∧ Below W.heap.size W w' := rnum_any v 8 W (by omega) h
theorem rnum4 (v : Nat) (h : v < 18446744073709551616) (W : World) : Calls Tryz.prog 76 #[.int .u64 (v : Int), .int .i64 4] W fun e w' => ∃ v', e = .returned v' ∧ OwnB w' W.heap.size v' (be v 4) ∧ Below W.heap.size W w' := rnum_any v 4 W (by omega) h
end Go.Proofs.YthomhflkldhdaaaGreatDoor

namespace Go.Proofs.YthomhflkldhdaaaGreatDoor
open Go.RowKit

theorem bat_ext {l m : List UInt8} (h : l.length = m.length) (h' : ∀ j, j < l.length → bat l j = bat m j) : l = m := by
  refine List.ext_getElem h fun j h1 h2 => ?_
  have := h' j h1
  unfold bat at this
  rwa [List.getD_eq_getElem?_getD, List.getD_eq_getElem?_getD, List.getElem?_eq_getElem h1, List.getElem?_eq_getElem h2] at this
theorem ckl (l : List UInt8) : (ck l).length = 4 := rfl
def slen : Value → Nat
  | .slice _ n _ => n
  | _ => 0
end Go.Proofs.YthomhflkldhdaaaGreatDoor

namespace Go.Proofs.YthomhflkldhdaaaGreatDoor

structure Rec where
  off : Int
  nd : Nd
  deriving DecidableEq
/-- The records from a place on, and the place behind the last one; f bounds their number. -/
def recs : Nat → List UInt8 → Nat → List Rec × Nat
  | 0, _, p => ([], p)
  | f + 1, b, p => if (ndec (b.drop p)).1 = 0 then (⟨p, (ndec (b.drop p)).2.1⟩ :: (recs f b (p + (ndec (b.drop p)).2.2)).1, (recs f b (p + (ndec (b.drop p)).2.2)).2) else ([], p)
theorem recs_stop {b : List UInt8} {p : Nat} (h : (ndec (b.drop p)).1 ≠ 0) : ∀ f, recs f b p = ([], p)
  | 0 => rfl
  | f + 1 => by unfold recs; rw [if_neg h]
theorem recs_step {b : List UInt8} {p : Nat} (h : (ndec (b.drop p)).1 = 0) (f : Nat) : recs (f + 1) b p = (⟨p, (ndec (b.drop p)).2.1⟩ :: (recs f b (p + (ndec (b.drop p)).2.2)).1, (recs f b (p + (ndec (b.drop p)).2.2)).2) := by
  conv => lhs; unfold recs
  rw [if_pos h]
theorem ndec_size {b : List UInt8} (h : (ndec b).1 = 0) : 24 ≤ (ndec b).2.2 ∧ (ndec b).2.2 ≤ b.length ∧ (ndec b).2.2 ≤ 4127 := by
  have h0 := ndec_zero h
  have h1 := ndec_len h0
  rw [ndec_ok h0]
  exact ⟨h1.1, h1.2.1, h1.2.2.1⟩
/-- The records that can be found from a place on. -/
def salv : Nat → List UInt8 → Nat → List Rec
  | 0, _, _ => []
  | f + 1, b, p => if b.length ≤ p then [] else if (ndec (b.drop p)).1 = 0 then ⟨p, (ndec (b.drop p)).2.1⟩ :: salv f b (p + (ndec (b.drop p)).2.2) else salv f b (p + 8)
theorem salv_end {b : List UInt8} {p : Nat} (h : b.length ≤ p) : ∀ f, salv f b p = []
  | 0 => rfl
  | f + 1 => by unfold salv; rw [if_pos h]
theorem salv_hit {b : List UInt8} {p : Nat} (h0 : p < b.length) (h : (ndec (b.drop p)).1 = 0) (f : Nat) : salv (f + 1) b p = ⟨p, (ndec (b.drop p)).2.1⟩ :: salv f b (p + (ndec (b.drop p)).2.2) := by
  conv => lhs; unfold salv
  rw [if_neg (by omega), if_pos h]
theorem salv_miss {b : List UInt8} {p : Nat} (h0 : p < b.length) (h : (ndec (b.drop p)).1 ≠ 0) (f : Nat) : salv (f + 1) b p = salv f b (p + 8) := by
  conv => lhs; unfold salv
  rw [if_neg (by omega), if_neg h]
/-- The superblock. -/
structure Sup where
  slot : Nat
  gen : Nat
  rev : Nat
  deriving DecidableEq
def sup0 : Sup := ⟨0, 0, 0⟩
def svld (s : Sup) : Prop := s.slot < 4 ∧ 1 ≤ s.gen ∧ s.gen ≤ 8 ∧ s.rev ≤ 4294967295
instance (s : Sup) : Decidable (svld s) := by unfold svld; exact inferInstance
def nvol : List UInt8 := [78, 86, 79, 76]
def sread (b : List UInt8) : Sup := ⟨val ((b.drop 4).take 2), val ((b.drop 6).take 2), val ((b.drop 8).take 4)⟩
def sdec (b : List UInt8) : Int × Sup :=
  if b.length < 16 then (4, sup0) else if b.take 4 ≠ nvol then (3, sup0) else if ck (b.take 12) ≠ (b.drop 12).take 4 then (5, sup0) else if svld (sread b) then (0, sread b) else (3, sup0)
def s12 (s : Sup) : List UInt8 := nvol ++ be s.slot 2 ++ be s.gen 2 ++ be s.rev 4
def senc (s : Sup) : List UInt8 := s12 s ++ ck (s12 s)
theorem s12_length (s : Sup) : (s12 s).length = 12 := by simp [s12, nvol, be_length]
theorem senc_length (s : Sup) : (senc s).length = 16 := by simp [senc, s12_length, ck_length]
theorem sdec_enc {s : Sup} (h : svld s) (t : List UInt8) : sdec (senc s ++ t) = (0, s) := by
  obtain ⟨h1, h2, h3, h4⟩ := h
  have hl := senc_length s
  have l1 := be_length s.slot 2
  have l2 := be_length s.gen 2
  have l3 := be_length s.rev 4
  have e12 : (senc s ++ t).take 12 = s12 s := by rw [senc, List.append_assoc, List.take_left' (s12_length s)]
  have e16 : ((senc s ++ t).drop 12).take 4 = ck (s12 s) := by rw [senc, List.append_assoc, List.drop_left' (s12_length s), List.take_left' (ck_length _)]
  have hr : sread (senc s ++ t) = s := by
    have e : senc s ++ t = nvol ++ (be s.slot 2 ++ (be s.gen 2 ++ (be s.rev 4 ++ (ck (s12 s) ++ t)))) := by simp [senc, s12]
    have l0 : nvol.length = 4 := rfl
    unfold sread
    rw [e]
    have d4 : (nvol ++ (be s.slot 2 ++ (be s.gen 2 ++ (be s.rev 4 ++ (ck (s12 s) ++ t))))).drop 4 = be s.slot 2 ++ (be s.gen 2 ++ (be s.rev 4 ++ (ck (s12 s) ++ t))) := List.drop_left' l0
    rw [show 6 = 4 + 2 from rfl, show 8 = 4 + (2 + 2) from rfl, ← List.drop_drop, ← List.drop_drop, ← List.drop_drop, d4, List.drop_left' l1, List.drop_left' l2, List.take_left' l1, List.take_left' l2, List.take_left' l3,
      val_be 2 _ (by omega) (by omega), val_be 2 _ (by omega) (by omega), val_be 4 _ (by omega) (by omega)]
  unfold sdec
  rw [if_neg (by rw [List.length_append, hl]; omega), if_neg (fun e => e (by
    have : (senc s ++ t).take 4 = ((senc s ++ t).take 12).take 4 := by rw [List.take_take, show min 4 12 = 4 from rfl]
    rw [this, e12, s12, List.append_assoc, List.append_assoc]; rfl)), if_neg (fun e => e (by rw [e12, e16])), if_pos (by rw [hr]; exact ⟨h1, h2, h3, h4⟩), hr]
/-- The records of needles that lie one behind the other. -/
def recsOf : Nat → List Nd → List Rec
  | _, [] => []
  | p, x :: k => ⟨p, x⟩ :: recsOf (p + nsz x.data.length) k
def nsum (k : List Nd) : Nat := (k.map fun x => nsz x.data.length).sum
theorem nsum_cons (x : Nd) (k : List Nd) : nsum (x :: k) = nsz x.data.length + nsum k := by simp [nsum]
def nencs (k : List Nd) : List UInt8 := k.flatMap nenc
theorem nencs_length : ∀ k : List Nd, (nencs k).length = nsum k
  | [] => rfl
  | x :: k => by
    have ih := nencs_length k
    show (nenc x ++ nencs k).length = _
    rw [List.length_append, ih, nenc_length, nsum_cons]
theorem recsOf_nd : ∀ (k : List Nd) (p : Nat), (recsOf p k).map (·.nd) = k
  | [], _ => rfl
  | x :: k, p => by
    show x :: (recsOf (p + nsz x.data.length) k).map (·.nd) = _
    rw [recsOf_nd k]
theorem recsOf_length (k : List Nd) (p : Nat) : (recsOf p k).length = k.length := by
  have := congrArg List.length (recsOf_nd k p)
  rwa [List.length_map] at this
/-- What was written is found, if what follows is no record. -/
theorem recs_enc : ∀ (k : List Nd) (f : Nat) (b pre tail : List UInt8), b = pre ++ (nencs k ++ tail) → k.length ≤ f → (∀ x ∈ k, x.ok ∧ x.Wf) → (ndec tail).1 ≠ 0 → recs f b pre.length = (recsOf pre.length k, pre.length + nsum k)
  | [], f, b, pre, tail, hb, _, _, ht => by
    have e : b.drop pre.length = tail := by rw [hb, List.drop_left' rfl]; rfl
    rw [recs_stop (by rw [e]; exact ht)]; rfl
  | x :: k, 0, _, _, _, _, hf, _, _ => by simp at hf
  | x :: k, f + 1, b, pre, tail, hb, hf, hk, ht => by
    have hx := hk x (by simp)
    have e : b.drop pre.length = nenc x ++ (nencs k ++ tail) := by
      rw [hb, List.drop_left' rfl]; show nenc x ++ nencs k ++ tail = _; rw [List.append_assoc]
    have hd := ndec_enc hx.1 hx.2 (nencs k ++ tail)
    have ih := recs_enc k f b (pre ++ nenc x) tail (by rw [hb]; show pre ++ (nenc x ++ nencs k ++ tail) = _; simp) (by simpa using hf) (fun y hy => hk y (by simp [hy])) ht
    rw [List.length_append, nenc_length] at ih
    rw [recs_step (by rw [e, hd]), e, hd]
    show (_ :: (recs f b (pre.length + nsz x.data.length)).1, (recs f b (pre.length + nsz x.data.length)).2) = _
    rw [ih, nsum_cons]
    show (_, _) = ((_ :: recsOf (pre.length + nsz x.data.length) k), _)
    rw [Nat.add_assoc]
/-- How many records lie whole within m bytes. -/
def whole : List Nd → Nat → Nat
  | [], _ => 0
  | x :: k, m => if m < nsz x.data.length then 0 else whole k (m - nsz x.data.length) + 1
theorem whole_le : ∀ (k : List Nd) (m : Nat), whole k m ≤ k.length
  | [], _ => Nat.le_refl _
  | x :: k, m => by
    unfold whole
    split
    · omega
    · have := whole_le k (m - nsz x.data.length); simp; omega
/-- A file of which bytes are missing has the records that are whole. -/
theorem recs_torn : ∀ (k : List Nd) (f : Nat) (b pre : List UInt8) (m : Nat), b = pre ++ (nencs k).take m → k.length ≤ f → (∀ x ∈ k, x.ok ∧ x.Wf) → recs f b pre.length = (recsOf pre.length (k.take (whole k m)), pre.length + nsum (k.take (whole k m)))
  | [], f, b, pre, m, hb, _, _ => by
    have e : b.drop pre.length = [] := by rw [hb, List.drop_left' rfl]; simp [nencs]
    rw [recs_stop (by rw [e]; decide)]; rfl
  | x :: k, 0, _, _, _, _, hf, _ => by simp at hf
  | x :: k, f + 1, b, pre, m, hb, hf, hk => by
    have hx := hk x (by simp)
    have e0 : b.drop pre.length = (nenc x ++ nencs k).take m := by rw [hb, List.drop_left' rfl]; rfl
    unfold whole
    split
    · rename_i hm
      rw [recs_stop (by rw [e0]; exact fun h => ndec_torn hx.1 hm _ (ndec_zero h))]; rfl
    · rename_i hm
      have e : (nenc x ++ nencs k).take m = nenc x ++ (nencs k).take (m - nsz x.data.length) := by
        rw [List.take_append, nenc_length, List.take_of_length_le (by rw [nenc_length]; omega)]
      rw [e] at e0
      have hd := ndec_enc hx.1 hx.2 ((nencs k).take (m - nsz x.data.length))
      have ih := recs_torn k f b (pre ++ nenc x) (m - nsz x.data.length) (by
        rw [hb]; show pre ++ (nenc x ++ nencs k).take m = _; rw [e]; simp) (by simpa using hf) (fun y hy => hk y (by simp [hy]))
      rw [List.length_append, nenc_length] at ih
      rw [recs_step (by rw [e0, hd]), e0, hd]
      show (_ :: (recs f b (pre.length + nsz x.data.length)).1, (recs f b (pre.length + nsz x.data.length)).2) = _
      rw [ih, List.take_succ_cons, nsum_cons]
      show (_, _) = ((_ :: recsOf (pre.length + nsz x.data.length) _), _)
      rw [Nat.add_assoc]
end Go.Proofs.YthomhflkldhdaaaGreatDoor

namespace Go.Proofs.YthomhflkldhdaaaGreatDoor
open Go.RowKit

abbrev supV (s : Sup) : Value := .agg #[.int .i64 (s.slot : Int), .int .i64 (s.gen : Int), .int .i64 (s.rev : Int)]
theorem val_bits64 (q : Nat) (x : UInt8) (h : q < 16777216) : bits .or .i64 ((q : Int) * 256) (x.toNat : Int) = ((q * 256 + x.toNat : Nat) : Int) := by
  have b3 := x.toNat_lt
  have e := val_or q x
  rw [Nat.mod_eq_of_lt (by omega), Nat.mod_eq_of_lt (by omega)] at e
  have hw : (q : Int) * 256 = ((q * 256 : Nat) : Int) := by omega
  rw [hw, ← e]
  have hx : q * 256 ||| x.toNat < 2 ^ 40 := Nat.or_lt_two_pow (by omega) (by omega)
  show IntKind.i64.wrap ((BitVec.ofInt 64 ((q * 256 : Nat) : Int) ||| BitVec.ofInt 64 (x.toNat : Int)).toNat : Int) = _
  rw [BitVec.toNat_or, ofInt_u64 _ (by omega), ofInt_u64 _ (by omega), IntKind.wrap_i64]
  omega
set_option maxHeartbeats 1000000 in
theorem rsvalid_any (s : Sup) (w : World) (h1 : s.slot < 4294967296) (h2 : s.gen < 4294967296) (h3 : s.rev < 4294967296) : Calls Tryz.prog 75 #[supV s] w fun e w' => e = .returned (.bool (decide (svld s))) ∧ Below w.heap.size w w' := by
  have HB := Lib.hid (show Below w.heap.size w (w.alloc (.cells #[.int .i64 (s.slot : Int), .int .i64 (s.gen : Int), .int .i64 (s.rev : Int)] 70)) from (Below.refl _ _).alloc (Nat.le_refl _) _)
  obtain ⟨q, hq⟩ : ∃ q, decide (svld s) = q := ⟨_, rfl⟩
  have HQ := Lib.hid (show q = decide (s.slot < 4 ∧ 1 ≤ s.gen ∧ s.gen ≤ 8 ∧ s.rev ≤ 4294967295) by rw [← hq]; rfl)
  rw [hq]
  clear hq
  obtain ⟨a, b, c⟩ := s
  simp only at *
  have d0 : decide ((0 : Int) ≤ (a : Int)) = true := by simp
  have d4 : decide ((0 : Int) ≤ (c : Int)) = true := by simp
  by_cases c1 : a < 4
  · have d1 : decide ((a : Int) < 4) = true := by simp; omega
    by_cases c2 : 1 ≤ b
    · have d2 : decide ((1 : Int) ≤ (b : Int)) = true := by simp; omega
      by_cases c3 : b ≤ 8
      · have d3 : decide ((b : Int) ≤ 8) = true := by simp; omega
        have d5 : decide ((c : Int) < 4294967296) = true := by simp; omega
        have HV := Lib.hid (show q = true by rw [HQ.out]; exact decide_eq_true (by omega))
        go_enter Tryz.func75, Tryz.ntmps75
        go_wp2_with fail
        go_ret
        exact ⟨by rw [HV.out]; rfl, HB.out⟩
      · have d3 : decide ((b : Int) ≤ 8) = false := by simp; omega
        have HV := Lib.hid (show q = false by rw [HQ.out]; exact decide_eq_false (by omega))
        go_enter Tryz.func75, Tryz.ntmps75
        go_wp2_with fail
        go_ret
        exact ⟨by rw [HV.out]; rfl, HB.out⟩
    · have d2 : decide ((1 : Int) ≤ (b : Int)) = false := by simp; omega
      have HV := Lib.hid (show q = false by rw [HQ.out]; exact decide_eq_false (by omega))
      go_enter Tryz.func75, Tryz.ntmps75
      go_wp2_with fail
      go_ret
      exact ⟨by rw [HV.out]; rfl, HB.out⟩
  · have d1 : decide ((a : Int) < 4) = false := by simp; omega
    have HV := Lib.hid (show q = false by rw [HQ.out]; exact decide_eq_false (by omega))
    go_enter Tryz.func75, Tryz.ntmps75
    go_wp2_with fail
    go_ret
    exact ⟨by rw [HV.out]; rfl, HB.out⟩
abbrev arr4 (l : List UInt8) : Value := .agg (l.map byteV).toArray
end Go.Proofs.YthomhflkldhdaaaGreatDoor

namespace Go.Proofs.YthomhflkldhdaaaGreatDoor
open Go.RowKit

def SRes (w : World) (b : List UInt8) (e : Ending) (w' : World) : Prop := e = .returned (.tuple #[supV (sdec b).2, .int .i64 (sdec b).1]) ∧ Below w.heap.size w w'
abbrev zeroS : Obj := .cells #[.int .i64 0, .int .i64 0, .int .i64 0] 70
set_option maxRecDepth 100000 in
set_option maxHeartbeats 4000000 in
theorem rsdecode_any (v : Value) (b : List UInt8) (w : World) (h : RdB w v b) (hs : b.length ≤ 1000000) : Calls Tryz.prog 79 #[v] w (SRes w b) := by
  obtain ⟨a, cap, rfl, h1, h2⟩ := h.shape0
  have Hw0 := Lib.hid h
  have HBZ := Lib.hid (show Below w.heap.size w (w.alloc zeroS) from (Below.refl _ _).alloc (Nat.le_refl _) _)
  have HRES := Lib.hid (fun (r : Int) (s : Sup) w' (hr : sdec b = (r, s)) (hb : Below w.heap.size w w') => show SRes w b (.returned (.tuple #[supV s, .int .i64 r])) w' from ⟨by rw [hr], hb⟩)
  have Hr := Lib.hid (RdL.below h HBZ.out)
  generalize hR : SRes w b = R at *
  have HR := Lib.hid hR
  clear hR
  by_cases h16 : b.length < 16
  · have HX := Lib.hid (HRES.out 4 sup0 (w.alloc zeroS) (by unfold sdec; rw [if_pos h16]) HBZ.out)
    have hd : decide ((b.length : Int) < 16) = true := by simp; omega
    clear h HRES HBZ Hr HR
    go_enter Tryz.func79, Tryz.ntmps79
    go_wp2_with fail
    exact bodyPost_ret (v := .tuple #[supV sup0, .int .i64 4]) (by simp [results, Tryz.results79, go_sem, sup0]) rfl HX.out
  · have hd : decide ((b.length : Int) < 16) = false := by simp; omega
    have hto4 := slice_to (P := Tryz.prog) elemB (a := a) (n := b.length) (cap := cap) (RdL.spot Hr.out (by omega)) 4 (by omega)
    rw [show ((4 : Nat) : Int) = 4 from rfl] at hto4
    have HST := Lib.hid (fun W v l (h : RdB W v l) => run_to_string (P := Tryz.prog) 66 9 5 Tryz.underlying66 Tryz.underlying5 Tryz.underlying9 h)
    have k4 := HST.out _ _ _ (RdL.take Hr.out 4 (by omega))
    have HV := Lib.hid (show nvol = [78, 86, 79, 76] from rfl)
    obtain ⟨s4, hs4⟩ : ∃ s4, b.take 4 = s4 := ⟨_, rfl⟩
    rw [hs4] at k4
    have HS4 := Lib.hid hs4
    clear h hs4
    by_cases hv : s4 = [78, 86, 79, 76]
    · have hvb : (s4 == [78, 86, 79, 76]) = true := by rw [hv]; rfl
      have HPre := Lib.hid (show ∀ r : Int × Sup, (if ck (b.take 12) ≠ (b.drop 12).take 4 then ((5 : Int), sup0) else if svld (sread b) then (0, sread b) else (3, sup0)) = r → sdec b = r from fun r h => by
        rw [← h]; unfold sdec; rw [if_neg h16, if_neg (fun e => e (by rw [HS4.out, hv]; rfl))])
      clear hv
      obtain ⟨W0, hW0⟩ : ∃ W0, w.alloc zeroS = W0 := ⟨_, rfl⟩
      have HBZ0 := Lib.hid (show Below w.heap.size w W0 by rw [← hW0]; exact HBZ.out)
      rw [hW0] at k4
      have HR0 := Lib.hid (show RdB W0 (.slice a b.length cap) b by rw [← hW0]; exact Hr.out)
      have Z0 : W0.cell? ⟨w.heap.size, 0, none⟩ = some (.int .i64 0) := by rw [← hW0]; simp
      have Z1 : W0.cell? ⟨w.heap.size, 1, none⟩ = some (.int .i64 0) := by rw [← hW0]; simp
      have Z2 : W0.cell? ⟨w.heap.size, 2, none⟩ = some (.int .i64 0) := by rw [← hW0]; simp
      have ZF : ∀ i, W0.frozen? ⟨w.heap.size, i, none⟩ = false := fun i => by rw [← hW0]; simp
      have HZ0 := Lib.hid Z0
      have HZ1 := Lib.hid Z1
      have HZ2 := Lib.hid Z2
      have HZF := Lib.hid ZF
      have hzz : w.heap.size < W0.heap.size := World.block_lt_of_cell? _ _ Z0
      have hto12 := slice_to (P := Tryz.prog) elemB (a := a) (n := b.length) (cap := cap) (RdL.spot Hr.out (by omega)) 12 (by omega)
      rw [show ((12 : Nat) : Int) = 12 from rfl] at hto12
      obtain ⟨x2, y2, g2, r2⟩ := RdL.part (P := Tryz.prog) elemB HR0.out 12 16 (by omega) (by omega)
      rw [show ((12 : Nat) : Int) = 12 from rfl, show ((16 : Nat) : Int) = 16 from rfl, show 16 - 12 = 4 from rfl] at g2
      rw [show 16 - 12 = 4 from rfl] at r2
      have R2 := Lib.hid r2
      have R1 := Lib.hid (show RdB W0 (.slice a 12 cap) (b.take 12) from RdL.take HR0.out 12 (by omega))
      have HCk := Lib.hid (fun W h => rcheck_any (.slice a 12 cap) (b.take 12) W h)
      have HK2 := Lib.hid (fun W (h : Below W0.heap.size W0 W) => HST.out W _ _ (RdL.below R2.out h))
      obtain ⟨q2, hq2⟩ : ∃ q2, decide (ck (b.take 12) = (b.drop 12).take 4) = q2 := ⟨_, rfl⟩
      have HQ3 := Lib.hid hq2
      clear Z0 Z1 Z2 ZF r2 hq2
      generalize hs1 : ck (b.take 12) = s1 at *
      generalize hs2 : (b.drop 12).take 4 = s2 at *
      clear hs1 hs2
      go_enter Tryz.func79, Tryz.ntmps79
      go_upto_region 5 with fail
      clear hW0 k4
      go_cut [21] (fun s wx => s = .bool (!q2) ∧ Below W0.heap.size W0 wx)
      case first =>
        have k3 := HK2.out _ (Below.refl _ _).drew
        rcases Classical.em (s1 = s2) with hss | hss
        · subst hss
          have HQv := Lib.hid (show q2 = true by rw [← HQ3.out]; simp)
          go_region_with ((go_at_call 77; (refine (HCk.out _ (RdL.below R1.out (Below.refl _ _).drew)).mono ?_); rintro e w3 ⟨v3, rfl, hown3, hb3⟩; obtain ⟨a3, c3, rfl, _, _, _⟩ := own_form hown3; have k2 := HST.out _ _ _ hown3.rd; have k4 := HK2.out _ (bstep (Below.refl _ _).drew hb3)))
          all_goals
            have HB3 := bstep (Below.refl W0.heap.size W0).drew hb3
            clear k2 k3 k4 hown3
            go_wp2_with fail
            go_meet
            case rel => exact ⟨by rw [HQv.out]; rfl, HB3⟩
        · have hbe : (s1 == s2) = false := beq_eq_false_iff_ne.2 hss
          have HQv := Lib.hid (show q2 = false by rw [← HQ3.out]; exact decide_eq_false hss)
          clear hss
          go_region_with ((go_at_call 77; (refine (HCk.out _ (RdL.below R1.out (Below.refl _ _).drew)).mono ?_); rintro e w3 ⟨v3, rfl, hown3, hb3⟩; obtain ⟨a3, c3, rfl, _, _, _⟩ := own_form hown3; have k2 := HST.out _ _ _ hown3.rd; have k4 := HK2.out _ (bstep (Below.refl _ _).drew hb3)))
          all_goals
            have HB3 := bstep (Below.refl W0.heap.size W0).drew hb3
            clear k2 k3 k4 hown3
            go_wp2_with fail
            go_meet
            case rel => exact ⟨by rw [HQv.out]; rfl, HB3⟩
      case rest =>
        obtain ⟨rfl, hbw⟩ := hcut
        obtain ⟨W5, rfl⟩ : ∃ W5, W5 = wc := ⟨_, rfl⟩
        have Z0 := Below.keeps hbw _ _ HZ0.out
        have Z1 := Below.keeps hbw _ _ HZ1.out
        have Z2 := Below.keeps hbw _ _ HZ2.out
        have hzl : w.heap.size < W5.heap.size := World.block_lt_of_cell? _ _ Z0
        have ZF5 := fun i => (hbw.frozen (p := ⟨w.heap.size, i, none⟩) hzz).trans (HZF.out i)
        have F0 := ZF5 0
        have F1 := ZF5 1
        have F2 := ZF5 2
        have HB5 := Lib.hid (bstep HBZ0.out hbw)
        have R5 := Lib.hid (RdL.below HR0.out hbw)
        clear ZF5 hbw R1 R2 HCk HST HK2 HZ0 HZ1 HZ2 HZF g2 HR0 HBZ0 hto12 hto4
        cases q2
        · go_wp2_with fail
          exact bodyPost_ret (v := .tuple #[supV sup0, .int .i64 5]) (by simp [results, Tryz.results79, go_sem, sup0, Z0, Z1, Z2]) rfl (HRES.out 5 sup0 _ (HPre.out _ (by rw [if_pos (of_decide_eq_false HQ3.out)])) (((HB5.out.setCell (Nat.le_refl _) _).setCell (Nat.le_refl _) _).setCell (Nat.le_refl _) _))
        · obtain ⟨x4, y4, g4, r4⟩ := RdL.part (P := Tryz.prog) elemB R5.out 4 6 (by omega) (by omega)
          obtain ⟨x6, y6, g6, r6⟩ := RdL.part (P := Tryz.prog) elemB R5.out 6 8 (by omega) (by omega)
          obtain ⟨x8, y8, g8, r8⟩ := RdL.part (P := Tryz.prog) elemB R5.out 8 12 (by omega) (by omega)
          rw [show ((4 : Nat) : Int) = 4 from rfl, show ((6 : Nat) : Int) = 6 from rfl] at g4
          rw [show ((6 : Nat) : Int) = 6 from rfl, show ((8 : Nat) : Int) = 8 from rfl] at g6
          rw [show ((8 : Nat) : Int) = 8 from rfl, show ((12 : Nat) : Int) = 12 from rfl] at g8
          simp only [show 6 - 4 = 2 from rfl, show 12 - 8 = 4 from rfl] at g4 g6 g8 r4 r6 r8
          have R4 := Lib.hid r4
          have R6 := Lib.hid r6
          have R8 := Lib.hid r8
          have HN4 := Lib.hid (fun W (h : Below W5.heap.size W5 W) => rval_any _ _ W (RdL.below R4.out h))
          have HN6 := Lib.hid (fun W (h : Below W5.heap.size W5 W) => rval_any _ _ W (RdL.below R6.out h))
          have HN8 := Lib.hid (fun W (h : Below W5.heap.size W5 W) => rval_any _ _ W (RdL.below R8.out h))
          have HRd := Lib.hid (show sread b = ⟨val ((b.drop 4).take 2), val ((b.drop 6).take 2), val ((b.drop 8).take 4)⟩ from rfl)
          have l4 := val4_lt (l := (b.drop 4).take 2) (by rw [List.length_take]; omega)
          have l6 := val4_lt (l := (b.drop 6).take 2) (by rw [List.length_take]; omega)
          have l8 := val4_lt (l := (b.drop 8).take 4) (by rw [List.length_take]; omega)
          generalize val ((b.drop 4).take 2) = n4 at *
          generalize val ((b.drop 6).take 2) = n6 at *
          generalize val ((b.drop 8).take 4) = n8 at *
          have j4 : IntKind.i64.wrap (n4 : Int) = (n4 : Int) := IntWalk.i64_in _ (by omega)
          have j6 : IntKind.i64.wrap (n6 : Int) = (n6 : Int) := IntWalk.i64_in _ (by omega)
          have j8 : IntKind.i64.wrap (n8 : Int) = (n8 : Int) := IntWalk.i64_in _ (by omega)
          have HZs := Lib.hid (And.intro Z0 (And.intro Z1 (And.intro Z2 (And.intro F0 (And.intro F1 F2)))))
          clear r4 r6 r8 Z0 Z1 Z2 F0 F1 F2
          go_wp2_with fail
          go_region_held3 (fun _ => True) (trivial)
            (first | (go_at_call 115; (with_reducible refine (HN4.out _ (by first | exact below_drew (Below.refl _ _) | exact below_drew ((Below.refl _ _).alloc (Nat.le_refl _) _))).mono ?_); rintro e w6 ⟨rfl, rfl⟩) | (go_at_call 115; (with_reducible refine (HN6.out _ (by first | exact below_drew (Below.refl _ _) | exact below_drew ((Below.refl _ _).alloc (Nat.le_refl _) _))).mono ?_); rintro e w6 ⟨rfl, rfl⟩) | (go_at_call 115; (with_reducible refine (HN8.out _ (by first | exact below_drew (Below.refl _ _) | exact below_drew ((Below.refl _ _).alloc (Nat.le_refl _) _))).mono ?_); rintro e w6 ⟨rfl, rfl⟩) | fail)
          all_goals
            obtain ⟨W6, hW6⟩ : ∃ W6, (W5.alloc (.cells #[.int .i64 (n4 : Int), .int .i64 (n6 : Int), .int .i64 (n8 : Int)] 70)).drew = W6 := ⟨_, rfl⟩
            have HB6 := Lib.hid (show Below W5.heap.size W5 W6 by rw [← hW6]; exact below_drew ((Below.refl _ _).alloc (Nat.le_refl _) _))
            have b0 : W6.cell? ⟨W5.heap.size, 0, none⟩ = some (.int .i64 (n4 : Int)) := by rw [← hW6]; simp
            have b1 : W6.cell? ⟨W5.heap.size, 1, none⟩ = some (.int .i64 (n6 : Int)) := by rw [← hW6]; simp
            have b2 : W6.cell? ⟨W5.heap.size, 2, none⟩ = some (.int .i64 (n8 : Int)) := by rw [← hW6]; simp
            have HVl := Lib.hid (rsvalid_any ⟨n4, n6, n8⟩ W6 l4 l6 l8)
            obtain ⟨q, hq⟩ : ∃ q, decide (svld ⟨n4, n6, n8⟩) = q := ⟨_, rfl⟩
            rw [hq] at HVl
            have HQv := Lib.hid hq
            obtain ⟨Z0, Z1, Z2, F0, F1, F2⟩ := HZs.out
            rw [hW6]
            clear hW6 hq
            go_wp2_with fail
            refine HVl.out.mono ?_; rintro e w7 ⟨rfl, hb7⟩
            have hb57 := bstep HB6.out hb7
            have Z0 := Below.keeps hb57 _ _ Z0
            have Z1 := Below.keeps hb57 _ _ Z1
            have Z2 := Below.keeps hb57 _ _ Z2
            have F0 := (hb57.frozen (p := ⟨w.heap.size, 0, none⟩) hzl).trans F0
            have F1 := (hb57.frozen (p := ⟨w.heap.size, 1, none⟩) hzl).trans F1
            have F2 := (hb57.frozen (p := ⟨w.heap.size, 2, none⟩) hzl).trans F2
            have b0 := Below.keeps hb7 _ _ b0
            have b1 := Below.keeps hb7 _ _ b1
            have b2 := Below.keeps hb7 _ _ b2
            have HB7 := Lib.hid (bstep HB5.out hb57)
            clear hb7 hb57
            cases q
            · go_wp2_with fail
              exact bodyPost_ret (v := .tuple #[supV sup0, .int .i64 3]) (by simp [results, Tryz.results79, go_sem, sup0, Z0, Z1, Z2]) rfl (HRES.out 3 sup0 _ (HPre.out _ (by rw [if_neg (fun e => e (of_decide_eq_true HQ3.out)), HRd.out, if_neg (of_decide_eq_false HQv.out)])) (((HB7.out.setCell (Nat.le_refl _) _).setCell (Nat.le_refl _) _).setCell (Nat.le_refl _) _))
            · go_wp2_with fail
              exact bodyPost_ret (v := .tuple #[supV ⟨n4, n6, n8⟩, .int .i64 0]) (by simp [results, Tryz.results79, go_sem, Z0, Z1, Z2]) rfl (HRES.out 0 ⟨n4, n6, n8⟩ _ (HPre.out _ (by rw [if_neg (fun e => e (of_decide_eq_true HQ3.out)), HRd.out, if_pos (of_decide_eq_true HQv.out)])) (((HB7.out.setCell (Nat.le_refl _) _).setCell (Nat.le_refl _) _).setCell (Nat.le_refl _) _))
    · have hvb : (s4 == [78, 86, 79, 76]) = false := beq_eq_false_iff_ne.2 hv
      have HX := Lib.hid (HRES.out 3 sup0 (w.alloc zeroS) (by unfold sdec; rw [if_neg h16, if_pos (by rw [HS4.out]; exact hv)]) HBZ.out)
      clear hv
      go_enter Tryz.func79, Tryz.ntmps79
      go_wp2_with fail
      exact bodyPost_ret (v := .tuple #[supV sup0, .int .i64 3]) (by simp [results, Tryz.results79, go_sem, sup0]) rfl HX.out
end Go.Proofs.YthomhflkldhdaaaGreatDoor

namespace Go.Proofs.YthomhflkldhdaaaGreatDoor
open Go.RowKit

/-- Four bytes of a slice. -/
theorem four_at {w : World} {a : Option Addr} {cap : Nat} {l : List UInt8} (h : RdB w (.slice a 4 cap) l) (hl : l.length = 4) : ∃ b off, a = some ⟨b, off, none⟩ ∧ arr4 l = .agg #[byteV (bat l 0), byteV (bat l 1), byteV (bat l 2), byteV (bat l 3)] ∧
    w.cell? ⟨b, off, none⟩ = some (byteV (bat l 0)) ∧ w.cell? ⟨b, off + 1, none⟩ = some (byteV (bat l 1)) ∧ w.cell? ⟨b, off + 2, none⟩ = some (byteV (bat l 2)) ∧ w.cell? ⟨b, off + 3, none⟩ = some (byteV (bat l 3)) := by
  obtain ⟨b, off, rfl, c0⟩ := RdB.at h (show 0 < 4 by omega)
  obtain ⟨_, _, e, c1⟩ := RdB.at h (show 1 < 4 by omega)
  injection e with e; injection e with ea eb; subst ea eb
  obtain ⟨_, _, e, c2⟩ := RdB.at h (show 2 < 4 by omega)
  injection e with e; injection e with ea eb; subst ea eb
  obtain ⟨_, _, e, c3⟩ := RdB.at h (show 3 < 4 by omega)
  injection e with e; injection e with ea eb; subst ea eb
  refine ⟨b, off, rfl, ?_, c0, c1, c2, c3⟩
  match l, hl with
  | [x, y, z, u], _ => rfl
end Go.Proofs.YthomhflkldhdaaaGreatDoor

namespace Go.Proofs.YthomhflkldhdaaaGreatDoor
open Go.RowKit

end Go.Proofs.YthomhflkldhdaaaGreatDoor

namespace Go.Proofs.YthomhflkldhdaaaGreatDoor
open Go.RowKit

theorem rnum2 (v : Nat) (h : v < 18446744073709551616) (W : World) : Calls Tryz.prog 76 #[.int .u64 (v : Int), .int .i64 2] W fun e w' => ∃ v', e = .returned v' ∧ OwnB w' W.heap.size v' (be v 2) ∧ Below W.heap.size W w' := rnum_any v 2 W (by omega) h
theorem nvol_own (w : World) : OwnB (w.alloc (.cells #[.int .u8 78, .int .u8 86, .int .u8 79, .int .u8 76] 5)) w.heap.size (.slice (some ⟨w.heap.size, 0, none⟩) 4 4) nvol := World.ownsRow_lit (size := 1) w (#[.int .u8 78, .int .u8 86, .int .u8 79, .int .u8 76] : Array Value) 4 (Nat.le_refl _) (by decide) rfl
set_option maxRecDepth 100000 in
set_option maxHeartbeats 4000000 in
theorem rsenc_any (s : Sup) (w : World) (hv : svld s) :
    Calls Tryz.prog 29 #[supV s] w fun e w' => ∃ v', e = .returned (.tuple #[v', .int .i64 0]) ∧ OwnB w' w.heap.size v' (senc s) ∧ Below w.heap.size w w' := by
  obtain ⟨l1, l2, l3, l4⟩ := hv
  have HV := Lib.hid (fun W => rsvalid_any s W (by omega) (by omega) (by omega))
  rw [show decide (svld s) = true from decide_eq_true ⟨l1, l2, l3, l4⟩] at HV
  have HSE := Lib.hid (show senc s = (nvol ++ be s.slot 2 ++ be s.gen 2 ++ be s.rev 4) ++ ck (nvol ++ be s.slot 2 ++ be s.gen 2 ++ be s.rev 4) from rfl)
  have h12 : (nvol ++ be s.slot 2 ++ be s.gen 2 ++ be s.rev 4).length = 12 := s12_length s
  have h6 : (nvol ++ be s.slot 2).length = 6 := by simp [nvol, be_length]
  obtain ⟨slot, gen, rev⟩ := s
  dsimp only at l1 l2 l3 l4 HSE h12 h6
  have j1 : IntKind.u64.wrap (slot : Int) = (slot : Int) := IntWalk.u64_in _ (by omega)
  have j2 : IntKind.u64.wrap (gen : Int) = (gen : Int) := IntWalk.u64_in _ (by omega)
  have j3 : IntKind.u64.wrap (rev : Int) = (rev : Int) := IntWalk.u64_in _ (by omega)
  have HN1 := Lib.hid (rnum2 slot (by omega))
  have HN3 := Lib.hid (rnum2 gen (by omega))
  have HN4 := Lib.hid (rnum4 rev (by omega))
  go_enter Tryz.func29, Tryz.ntmps29
  go_wp2_with fail
  refine (HV.out _).mono ?_; rintro e wr ⟨rfl, hbr⟩
  have c0 : wr.cell? ⟨w.heap.size, 0, none⟩ = some (.int .i64 (slot : Int)) := Below.keeps hbr _ _ (by simp)
  have c1 : wr.cell? ⟨w.heap.size, 1, none⟩ = some (.int .i64 (gen : Int)) := Below.keeps hbr _ _ (by simp)
  have c2 : wr.cell? ⟨w.heap.size, 2, none⟩ = some (.int .i64 (rev : Int)) := Below.keeps hbr _ _ (by simp)
  have hsr : w.heap.size ≤ wr.heap.size := Nat.le_trans (by simp) hbr.size
  have HBr := Lib.hid (show Below w.heap.size w wr from ((Below.refl _ _).alloc (Nat.le_refl _) _).trans (hbr.mono (by simp)))
  have HS4 := Lib.hid (fun w' (h : Below wr.heap.size wr w') => And.intro (Below.keeps h _ _ c0) (And.intro (Below.keeps h _ _ c1) (Below.keeps h _ _ c2)))
  clear hbr HV
  have hcv := Go.Joins.run_convert_bytes_const_at (P := Tryz.prog) wr 66 5 #[.int .u8 78, .int .u8 86, .int .u8 79, .int .u8 76] 4 4 wr.heap.size rfl Tryz.underlying66 Tryz.underlying5
  simp only [List.size_toArray, List.length_cons, List.length_nil, Nat.zero_add, Nat.reduceAdd] at hcv
  obtain ⟨d0, _, _⟩ := HS4.out (wr.alloc (.cells #[.int .u8 78, .int .u8 86, .int .u8 79, .int .u8 76] 5 (4, 5))) ((Below.refl _ _).alloc (Nat.le_refl _) _)
  clear c0 c1 c2
  have HBa := Lib.hid (show Below wr.heap.size wr (wr.alloc (.cells #[.int .u8 78, .int .u8 86, .int .u8 79, .int .u8 76] 5 (4, 5))) from (Below.refl _ _).alloc (Nat.le_refl _) _)
  have HC := Lib.hid (fun j u (h : (nvol.map byteV)[j]? = some u) => show (wr.alloc (.cells #[.int .u8 78, .int .u8 86, .int .u8 79, .int .u8 76] 5 (4, 5))).cell? ⟨wr.heap.size, j, none⟩ = some u from (Go.Joins.cell_alloc_mark_at wr _ _ _ _ j rfl).trans (by rw [← h]; simp [nvol, byteV]))
  go_wp2_with fail
  refine (HN1.out _).mono ?_; rintro e w1 ⟨v1, rfl, hown1, hb1⟩
  obtain ⟨g1, cap1, hv1⟩ := Go.Joins.ownsRow_form hown1 (by rw [be_length]; decide)
  subst hv1
  have HR1 := Lib.hid hown1.rd
  have HC1 := Lib.hid (fun j u h => Below.keeps hb1 _ _ (HC.out j u h))
  have HB1 := Lib.hid (bstep HBa.out hb1)
  have hs1 := HB1.out.size
  rw [be_length] at HR1 ⊢
  clear hown1 hb1 HBa HC d0 hcv
  obtain ⟨ii, hi, hz, hsz, hby⟩ := info_parts (P := Tryz.prog) (e := 5) (z := .int .u8 0) (size := 1) (bytes := 1) (by kernel_rfl)
  have HRc := Lib.hid (show ∀ j u, ((be slot 2).map byteV)[j]? = some u → w1.cell? (Addr.add ⟨g1, 0, none⟩ j) = some u from fun j u hj => by
    obtain ⟨_, a', cap', e, _, _, _, hc⟩ := HR1.out
    injection e with e1
    obtain ⟨b, off, e2, hc⟩ := hc (by rw [List.length_map, be_length]; decide)
    rw [e2] at e1; injection e1 with e1; rw [e1, Addr.add_lit]; exact hc j u hj)
  go_wp2_with (at_builtin; go_must (refine wpList_append_grows w1 rfl (.tmp 9) (.tmp 13) 66 rfl 5 ii (.int .u8 0) 1 1 Tryz.underlying66 hi hz hsz hby rfl (by decide) (some ⟨wr.heap.size, 0, none⟩) 4 4 (nvol.map byteV) rfl (fun h => by cases h) rfl (fun b hb j u hj => by injection hb with hb; subst hb; rw [Addr.add_lit, Nat.zero_add]; exact HC1.out j u hj) ⟨g1, 0, none⟩ 2 cap1 ((be slot 2).map byteV) rfl (by rw [List.length_map, be_length]) HRc.out (bytes_one _) (by decide) (by decide) (by decide) ?_); intro v3 w3 hown3 hgr3)
  rw [← List.map_append] at hown3
  have HO3 := Lib.hid (Go.Joins.ownsRow_le (show OwnB w3 w1.heap.size v3 (nvol ++ be slot 2) from ownB_of hown3 rfl) hs1)
  have HD3 := Lib.hid (HB1.out.grown hgr3 hs1 (fun k hk => by cases hk))
  clear hown3 hgr3 HR1 HB1 hs1 HC1 HRc
  have hE12 : nvol ++ be slot 2 ++ be gen 2 ++ be rev 4 = nvol ++ be slot 2 ++ be gen 2 ++ be rev 4 := rfl
  generalize nvol ++ be slot 2 = e12 at *
  clear hE12
  go_wp2_with fail
  go_region_held3 (fun w' => w'.cell? ⟨w.heap.size, 0, none⟩ = some (.int .i64 (slot : Int)) ∧ w'.cell? ⟨w.heap.size, 1, none⟩ = some (.int .i64 (gen : Int)) ∧ w'.cell? ⟨w.heap.size, 2, none⟩ = some (.int .i64 (rev : Int)))
        (first | exact HS4.out _ HD3.out.drew | exact HS4.out _ (bstep HD3.out (bstep (Below.refl w3.heap.size w3).drew hb4)) | exact HS4.out _ (own_below (bstep HD3.out (bstep (Below.refl w3.heap.size w3).drew hb4)) (own_keep HO3.out (bstep (Below.refl w3.heap.size w3).drew hb4)) (bstep HD3.out (bstep (Below.refl w3.heap.size w3).drew hb4)).size hgr5) | exact HS4.out _ (bstep (own_below (bstep HD3.out (bstep (Below.refl w3.heap.size w3).drew hb4)) (own_keep HO3.out (bstep (Below.refl w3.heap.size w3).drew hb4)) (bstep HD3.out (bstep (Below.refl w3.heap.size w3).drew hb4)).size hgr5) hb6) | exact HS4.out _ (bstep (bstep HD3.out (bstep (Below.refl w3.heap.size w3).drew hb4)) hb6) | exact HS4.out _ (own_below (bstep (bstep HD3.out (bstep (Below.refl w3.heap.size w3).drew hb4)) hb6) (own_keep (own_keep HO3.out (bstep (Below.refl w3.heap.size w3).drew hb4)) hb6) (bstep (bstep HD3.out (bstep (Below.refl w3.heap.size w3).drew hb4)) hb6).size hgr5) | exact HS4.out _ (own_below (bstep (own_below (bstep HD3.out (bstep (Below.refl w3.heap.size w3).drew hb4)) (own_keep HO3.out (bstep (Below.refl w3.heap.size w3).drew hb4)) (bstep HD3.out (bstep (Below.refl w3.heap.size w3).drew hb4)).size hgr5) hb6) (own_keep hown5 hb6) (bstep (own_below (bstep HD3.out (bstep (Below.refl w3.heap.size w3).drew hb4)) (own_keep HO3.out (bstep (Below.refl w3.heap.size w3).drew hb4)) (bstep HD3.out (bstep (Below.refl w3.heap.size w3).drew hb4)).size hgr5) hb6).size hgr7) | exact HS4.out _ (own_below (own_below (bstep (bstep HD3.out (bstep (Below.refl w3.heap.size w3).drew hb4)) hb6) (own_keep (own_keep HO3.out (bstep (Below.refl w3.heap.size w3).drew hb4)) hb6) (bstep (bstep HD3.out (bstep (Below.refl w3.heap.size w3).drew hb4)) hb6).size hgr5) hown5 (own_below (bstep (bstep HD3.out (bstep (Below.refl w3.heap.size w3).drew hb4)) hb6) (own_keep (own_keep HO3.out (bstep (Below.refl w3.heap.size w3).drew hb4)) hb6) (bstep (bstep HD3.out (bstep (Below.refl w3.heap.size w3).drew hb4)) hb6).size hgr5).size hgr7))
        (first | (go_at_call 76; (with_reducible refine (HN3.out _).mono ?_); rintro e w4 ⟨v4, rfl, hown4, hb4⟩) | (go_at_call 76; (with_reducible refine (HN4.out _).mono ?_); rintro e w6 ⟨v6, rfl, hown6, hb6⟩) | (refine step_app (by rfl) _ _ _ (by rfl) elemB wr.heap.size (by rfl) (own_keep HO3.out (bstep (Below.refl w3.heap.size w3).drew hb4)) (by rfl) hown4.rd (bytes_one _) (by simp [be_length, maxLen]; omega) (by simp [be_length]; omega) (bstep HD3.out (bstep (Below.refl w3.heap.size w3).drew hb4)).size ?_; intro v5 w5 hown5 hgr5 hv5; clear hv5) | (refine step_app (by rfl) _ _ _ (by rfl) elemB wr.heap.size (by rfl) (own_keep (own_keep HO3.out (bstep (Below.refl w3.heap.size w3).drew hb4)) hb6) (by rfl) (hown4.rd.below hb6) (bytes_one _) (by simp [be_length, maxLen]; omega) (by simp [be_length]; omega) (bstep (bstep HD3.out (bstep (Below.refl w3.heap.size w3).drew hb4)) hb6).size ?_; intro v5 w5 hown5 hgr5 hv5; clear hv5) | (refine step_app (by rfl) _ _ _ (by rfl) elemB wr.heap.size (by rfl) (own_keep hown5 hb6) (by rfl) hown6.rd (bytes_one _) (by simp [be_length, maxLen]; omega) (by simp [be_length]; omega) (bstep (own_below (bstep HD3.out (bstep (Below.refl w3.heap.size w3).drew hb4)) (own_keep HO3.out (bstep (Below.refl w3.heap.size w3).drew hb4)) (bstep HD3.out (bstep (Below.refl w3.heap.size w3).drew hb4)).size hgr5) hb6).size ?_; intro v7 w7 hown7 hgr7 hv7; clear hv7) | (refine step_app (by rfl) _ _ _ (by rfl) elemB wr.heap.size (by rfl) hown5 (by rfl) (OwnB.rd (own_apart hown6 hgr5 (fun g hg => Nat.lt_of_lt_of_le (HO3.out.lt g hg).2 hb4.size))) (bytes_one _) (by simp [be_length, maxLen]; omega) (by simp [be_length]; omega) (own_below (bstep (bstep HD3.out (bstep (Below.refl w3.heap.size w3).drew hb4)) hb6) (own_keep (own_keep HO3.out (bstep (Below.refl w3.heap.size w3).drew hb4)) hb6) (bstep (bstep HD3.out (bstep (Below.refl w3.heap.size w3).drew hb4)) hb6).size hgr5).size ?_; intro v7 w7 hown7 hgr7 hv7; clear hv7))
  all_goals
    have HD7 : Hid (Below wr.heap.size wr w7) := by first | exact Lib.hid (own_below (bstep (own_below (bstep HD3.out (bstep (Below.refl w3.heap.size w3).drew hb4)) (own_keep HO3.out (bstep (Below.refl w3.heap.size w3).drew hb4)) (bstep HD3.out (bstep (Below.refl w3.heap.size w3).drew hb4)).size hgr5) hb6) (own_keep hown5 hb6) (bstep (own_below (bstep HD3.out (bstep (Below.refl w3.heap.size w3).drew hb4)) (own_keep HO3.out (bstep (Below.refl w3.heap.size w3).drew hb4)) (bstep HD3.out (bstep (Below.refl w3.heap.size w3).drew hb4)).size hgr5) hb6).size hgr7) | exact Lib.hid (own_below (own_below (bstep (bstep HD3.out (bstep (Below.refl w3.heap.size w3).drew hb4)) hb6) (own_keep (own_keep HO3.out (bstep (Below.refl w3.heap.size w3).drew hb4)) hb6) (bstep (bstep HD3.out (bstep (Below.refl w3.heap.size w3).drew hb4)) hb6).size hgr5) hown5 (own_below (bstep (bstep HD3.out (bstep (Below.refl w3.heap.size w3).drew hb4)) hb6) (own_keep (own_keep HO3.out (bstep (Below.refl w3.heap.size w3).drew hb4)) hb6) (bstep (bstep HD3.out (bstep (Below.refl w3.heap.size w3).drew hb4)) hb6).size hgr5).size hgr7)
    rw [← List.map_append, ← List.map_append] at hown7
    have HO7 := Lib.hid (ownB_of hown7 rfl)
    clear hown4 hown5 hown6 hown7 hb4 hb6 hgr5 hgr7
    generalize hE : e12 ++ be gen 2 ++ be rev 4 = E at *
    clear hE
    have hs7 := HD7.out.size
    have HS7 := Lib.hid hs7
    go_wp2_with fail
    refine (rcheck_any v7 E w7 HO7.out.rd).mono ?_; rintro e w9 ⟨v9, rfl, hown9, hb9⟩
    have HO9 := Lib.hid (show w9.ownsRow wr.heap.size 5 1 v7 12 (E.map byteV) by have := own_keep HO7.out hb9; unfold OwnB at this; rw [h12] at this; exact this)
    have HD9 := Lib.hid (bstep HD7.out hb9)
    have HR9 := Lib.hid (show Rd w9 1 v9 4 ((ck E).map byteV) from hown9.rd)
    have hs9 : wr.heap.size ≤ w9.heap.size := HD9.out.size
    clear hown9 hb9
    go_wp2_with (at_builtin; go_must (refine wpList_app rfl (.tmp 26) (.tmp 28) 66 rfl elemB wr.heap.size rfl HO9.out rfl HR9.out (bytes_one (ck E)) (by decide) (by decide) hs9 ?_); intro v10 w10 hown10 hgr10 hv10; clear hv10)
    rw [← List.map_append] at hown10
    have HO10 := Lib.hid (Go.Joins.ownsRow_le (show OwnB w10 wr.heap.size v10 (E ++ ck E) from ownB_of hown10 rfl) hsr)
    have HG10 := Lib.hid (HBr.out.trans ((own_below HD9.out HO9.out hs9 hgr10).mono hsr))
    clear hown10 hgr10
    go_wp2_with fail
    go_ret2
    exact ⟨_, rfl, by rw [HSE.out]; exact HO10.out, HG10.out⟩
end Go.Proofs.YthomhflkldhdaaaGreatDoor

namespace Go.Proofs.YthomhflkldhdaaaGreatDoor
open Go.RowKit

/-- A needle as a value; v is its data. -/
theorem hform_nat (b : List UInt8) : hform b ↔ (bat b 0).toNat = 78 ∧ (bat b 1).toNat = 165 ∧ (bat b 2).toNat ≤ 1 ∧ (bat b 3).toNat = 0 ∧ nlen b ≤ 4096 ∧ ((bat b 2).toNat = 1 → nlen b = 0) := by
  unfold hform
  have e : ∀ (x : UInt8) (k : Nat), k < 256 → (x = UInt8.ofNat k ↔ x.toNat = k) := fun x k hk => by
    rw [← UInt8.toNat_inj, UInt8.toNat_ofNat', Nat.mod_eq_of_lt hk]
  rw [show (78 : UInt8) = UInt8.ofNat 78 from rfl, show (165 : UInt8) = UInt8.ofNat 165 from rfl, show (0 : UInt8) = UInt8.ofNat 0 from rfl, show (1 : UInt8) = UInt8.ofNat 1 from rfl, e _ 78 (by decide), e _ 165 (by decide), e _ 0 (by decide), e _ 1 (by decide)]
/-- What Decode leaves. -/
def NRes (w : World) (b : List UInt8) (e : Ending) (w' : World) : Prop := (∃ dv, e = .returned (.tuple #[ndV (ndec b).2.1 dv, .int .i64 ((ndec b).2.2 : Int), .int .i64 (ndec b).1]) ∧ OwnB w' w.heap.size dv (ndec b).2.1.data) ∧ Below w.heap.size w w'
abbrev zeroN : Obj := .cells #[.int .u64 0, .int .u32 0, .bool false, .slice none 0 0] 72
end Go.Proofs.YthomhflkldhdaaaGreatDoor

namespace Go.Proofs.YthomhflkldhdaaaGreatDoor
open Go.RowKit

set_option maxRecDepth 100000 in
set_option maxHeartbeats 4000000 in
theorem rdecode_any (v : Value) (b : List UInt8) (w : World) (h : RdB w v b) (hs : b.length ≤ 1000000) : Calls Tryz.prog 116 #[v] w (NRes w b) := by
  obtain ⟨a, cap, rfl, h1, h2⟩ := h.shape0
  have Hw0 := Lib.hid h
  have HBZ := Lib.hid (show Below w.heap.size w (w.alloc zeroN) from (Below.refl _ _).alloc (Nat.le_refl _) _)
  have HBAD := Lib.hid (fun (r : Int) w' (hr : ndec b = (r, nd0, 0)) (hb : Below w.heap.size w w') => show NRes w b (.returned (.tuple #[ndV nd0 (.slice none 0 0), .int .i64 0, .int .i64 r])) w' from
    ⟨⟨.slice none 0 0, by rw [hr]; rfl, by rw [hr]; exact World.ownsRow_nil _ _ _ _⟩, hb⟩)
  have Hr := Lib.hid (RdL.below h HBZ.out)
  generalize hR : NRes w b = R at *
  have HR := Lib.hid hR
  clear hR
  by_cases h20 : b.length < 20
  · have HX := Lib.hid (HBAD.out 4 (w.alloc zeroN) (by unfold ndec; rw [if_pos h20]) HBZ.out)
    have hd : decide ((b.length : Int) < 20) = true := by simp; omega
    clear h HBAD HBZ Hr HR
    go_enter Tryz.func116, Tryz.ntmps116
    go_wp2_with fail
    exact bodyPost_ret (v := .tuple #[ndV nd0 (.slice none 0 0), .int .i64 0, .int .i64 4]) (by simp [results, Tryz.results116, go_sem, nd0]) rfl HX.out
  · have hd : decide ((b.length : Int) < 20) = false := by simp; omega
    obtain ⟨x1, y1, g1, r1⟩ := RdL.part (P := Tryz.prog) elemB Hr.out 16 20 (by omega) (by omega)
    rw [show ((16 : Nat) : Int) = 16 from rfl, show ((20 : Nat) : Int) = 20 from rfl] at g1
    have HN := Lib.hid (rval_any _ _ _ r1)
    have hnl := val4_lt (l := (b.drop 16).take 4) (by rw [List.length_take]; omega)
    have HF := Lib.hid (hform_nat b)
    have HNL := Lib.hid (show val ((b.drop 16).take (20 - 16)) = nlen b from rfl)
    have HNL2 := Lib.hid (show nlen b = nlen b from rfl)
    simp only [show 20 - 16 = 4 from rfl] at HN HNL g1
    rw [HNL.out] at HN
    change nlen b < _ at hnl
    obtain ⟨ab, off, rfl, e0⟩ := RdB.at Hr.out (show 0 < b.length by omega)
    obtain ⟨_, _, e, e1⟩ := RdB.at Hr.out (show 1 < b.length by omega)
    injection e with e; injection e with ea eb; subst ea eb
    obtain ⟨_, _, e, e2⟩ := RdB.at Hr.out (show 2 < b.length by omega)
    injection e with e; injection e with ea eb; subst ea eb
    obtain ⟨_, _, e, e3⟩ := RdB.at Hr.out (show 3 < b.length by omega)
    injection e with e; injection e with ea eb; subst ea eb
    obtain ⟨q, hq⟩ : ∃ q, decide (hform b) = q := ⟨_, rfl⟩
    have HQ := Lib.hid hq
    obtain ⟨n0, hn0⟩ : ∃ n, (bat b 0).toNat = n := ⟨_, rfl⟩
    obtain ⟨n1, hn1⟩ : ∃ n, (bat b 1).toNat = n := ⟨_, rfl⟩
    obtain ⟨n2, hn2, hn2l⟩ : ∃ n, (bat b 2).toNat = n ∧ n < 256 := ⟨_, rfl, (bat b 2).toNat_lt⟩
    obtain ⟨n3, hn3⟩ : ∃ n, (bat b 3).toNat = n := ⟨_, rfl⟩
    obtain ⟨nl, hnl'⟩ : ∃ n, nlen b = n := ⟨_, rfl⟩
    rw [hn0] at e0
    rw [hn1] at e1
    rw [hn2] at e2
    rw [hn3] at e3
    rw [hn0, hn1, hn2, hn3, hnl'] at HF
    rw [hnl'] at HN hnl
    have HN2 := Lib.hid hn2
    have HNl := Lib.hid hnl'
    have HQ2 := Lib.hid (show q = decide (n0 = 78 ∧ n1 = 165 ∧ n2 ≤ 1 ∧ n3 = 0 ∧ nl ≤ 4096 ∧ (n2 = 1 → nl = 0)) by rw [← hq]; exact decide_eq_decide.2 HF.out)
    clear h hq hn0 hn1 hn2 hn3 hnl' HF HNL HNL2 r1
    go_enter Tryz.func116, Tryz.ntmps116
    go_wp2_with fail
    refine HN.out.mono ?_; rintro e w1 ⟨rfl, rfl⟩
    go_upto_region 4 with fail
    go_cut [51] (fun s wx => s = .bool (!q) ∧ w.alloc zeroN = wx)
    case first =>
      simp only [Nat.add_zero] at e0
      by_cases c0 : n0 = 78
      · have t0 : ((n0 : Int) != 78) = false := by rw [bne_eq_false_iff_eq]; omega
        by_cases c1 : n1 = 165
        · have t1 : ((n1 : Int) != 165) = false := by rw [bne_eq_false_iff_eq]; omega
          by_cases c2 : n2 ≤ 1
          · have t2 : decide ((1 : Int) < (n2 : Int)) = false := decide_eq_false (by omega)
            by_cases c3 : n3 = 0
            · have t3 : ((n3 : Int) != 0) = false := by rw [bne_eq_false_iff_eq]; omega
              by_cases c4 : nl ≤ 4096
              · have t4 : decide ((4096 : Int) < (nl : Int)) = false := decide_eq_false (by omega)
                by_cases c5 : n2 = 1
                · have t5 : ((n2 : Int) == 1) = true := beq_iff_eq.2 (by omega)
                  by_cases c6 : nl = 0
                  · have t6 : decide (0 < nl) = false := decide_eq_false (by omega)
                    have HQv := Lib.hid (show q = true by rw [HQ2.out]; exact decide_eq_true (by omega))
                    go_wp2_with fail
                    go_meet
                    case rel => exact ⟨by rw [HQv.out]; rfl, rfl⟩
                  · have t6 : decide (0 < nl) = true := decide_eq_true (by omega)
                    have HQv := Lib.hid (show q = false by rw [HQ2.out]; exact decide_eq_false (by omega))
                    go_wp2_with fail
                    go_meet
                    case rel => exact ⟨by rw [HQv.out]; rfl, rfl⟩
                · have t5 : ((n2 : Int) == 1) = false := beq_eq_false_iff_ne.2 (by omega)
                  have HQv := Lib.hid (show q = true by rw [HQ2.out]; exact decide_eq_true (by omega))
                  go_wp2_with fail
                  go_meet
                  case rel => exact ⟨by rw [HQv.out]; rfl, rfl⟩
              · have t4 : decide ((4096 : Int) < (nl : Int)) = true := decide_eq_true (by omega)
                have HQv := Lib.hid (show q = false by rw [HQ2.out]; exact decide_eq_false (by omega))
                go_wp2_with fail
                go_meet
                case rel => exact ⟨by rw [HQv.out]; rfl, rfl⟩
            · have t3 : ((n3 : Int) != 0) = true := by rw [bne_iff_ne]; omega
              have HQv := Lib.hid (show q = false by rw [HQ2.out]; exact decide_eq_false (by omega))
              go_wp2_with fail
              go_meet
              case rel => exact ⟨by rw [HQv.out]; rfl, rfl⟩
          · have t2 : decide ((1 : Int) < (n2 : Int)) = true := decide_eq_true (by omega)
            have HQv := Lib.hid (show q = false by rw [HQ2.out]; exact decide_eq_false (by omega))
            go_wp2_with fail
            go_meet
            case rel => exact ⟨by rw [HQv.out]; rfl, rfl⟩
        · have t1 : ((n1 : Int) != 165) = true := by rw [bne_iff_ne]; omega
          have HQv := Lib.hid (show q = false by rw [HQ2.out]; exact decide_eq_false (by omega))
          go_wp2_with fail
          go_meet
          case rel => exact ⟨by rw [HQv.out]; rfl, rfl⟩
      · have t0 : ((n0 : Int) != 78) = true := by rw [bne_iff_ne]; omega
        have HQv := Lib.hid (show q = false by rw [HQ2.out]; exact decide_eq_false (by omega))
        go_wp2_with fail
        go_meet
        case rel => exact ⟨by rw [HQv.out]; rfl, rfl⟩
    case rest =>
      obtain ⟨rfl, rfl⟩ := hcut
      cases q with
      | false =>
        have HX := Lib.hid (HBAD.out 3 (w.alloc zeroN) (by unfold ndec; rw [if_neg h20, if_pos (of_decide_eq_false HQ.out)]) HBZ.out)
        go_wp2_with fail
        exact bodyPost_ret (v := .tuple #[ndV nd0 (.slice none 0 0), .int .i64 0, .int .i64 3]) (by simp [results, Tryz.results116, go_sem, nd0]) rfl HX.out
      | true =>
        have hf := of_decide_eq_true HQ.out
        have hnl4 : nl ≤ 4096 := by rw [← HNl.out]; exact hf.2.2.2.2.1
        have HSz := Lib.hid (fun w => rsize_any nl w (by omega))
        rw [szN_of hnl4] at HSz
        have hszb := nsz_bounds nl
        have HPre := Lib.hid (show ∀ r : Int × Nd × Nat, (if b.length < nsz nl then ((4 : Int), nd0, 0) else if ck (b.take (20 + nl)) ≠ (b.drop (20 + nl)).take 4 then (5, nd0, 0) else if ¬ (npad b).all (· == 0) then (3, nd0, 0) else (0, nread b, nsz nl)) = r → ndec b = r from fun r h => by
          rw [← h, ← HNl.out]; unfold ndec; rw [if_neg h20, if_neg (fun e => e hf)])
        generalize hsz : nsz nl = sz at *
        have HSZ := Lib.hid hsz
        have HFo := Lib.hid hf
        clear hsz hf
        go_wp2_with fail
        refine (HSz.out _).mono ?_; rintro e w2 ⟨rfl, rfl⟩
        by_cases hlt : b.length < sz
        · have HX := Lib.hid (HBAD.out 4 (w.alloc zeroN) (HPre.out _ (by rw [if_pos hlt])) HBZ.out)
          have hd2 : decide (b.length < sz) = true := decide_eq_true hlt
          go_wp2_with fail
          exact bodyPost_ret (v := .tuple #[ndV nd0 (.slice none 0 0), .int .i64 0, .int .i64 4]) (by simp [results, Tryz.results116, go_sem, nd0]) rfl HX.out
        · have hd2 : decide (b.length < sz) = false := decide_eq_false hlt
          have hto := slice_to (P := Tryz.prog) elemB (a := some ⟨ab, off, none⟩) (n := b.length) (cap := cap) (RdL.spot Hr.out (by omega)) (20 + nl) (by omega)
          have e20 : ((20 + nl : Nat) : Int) = 20 + (nl : Int) := by omega
          have e24 : ((24 + nl : Nat) : Int) = 20 + (nl : Int) + 4 := by omega
          rw [e20] at hto
          have j1 : IntKind.i64.wrap (20 + (nl : Int) + 4) = 20 + (nl : Int) + 4 := IntWalk.i64_in _ (by omega)
          obtain ⟨W0, hW0⟩ : ∃ W0, w.alloc zeroN = W0 := ⟨_, rfl⟩
          have HBZ0 := Lib.hid (show Below w.heap.size w W0 by rw [← hW0]; exact HBZ.out)
          have HR0 := Lib.hid (show RdB W0 (.slice (some ⟨ab, off, none⟩) b.length cap) b by rw [← hW0]; exact Hr.out)
          have Z0 : W0.cell? ⟨w.heap.size, 0, none⟩ = some (.int .u64 0) := by rw [← hW0]; simp
          have Z1 : W0.cell? ⟨w.heap.size, 1, none⟩ = some (.int .u32 0) := by rw [← hW0]; simp
          have Z2 : W0.cell? ⟨w.heap.size, 2, none⟩ = some (.bool false) := by rw [← hW0]; simp
          have Z3 : W0.cell? ⟨w.heap.size, 3, none⟩ = some (.slice none 0 0) := by rw [← hW0]; simp
          have ZF : ∀ i, W0.frozen? ⟨w.heap.size, i, none⟩ = false := fun i => by rw [← hW0]; simp
          have HZ0 := Lib.hid Z0
          have HZ1 := Lib.hid Z1
          have HZ2 := Lib.hid Z2
          have HZ3 := Lib.hid Z3
          have HZF := Lib.hid ZF
          have hzz : w.heap.size < W0.heap.size := World.block_lt_of_cell? _ _ Z0
          obtain ⟨x2, y2, g2, r2⟩ := RdL.part (P := Tryz.prog) elemB HR0.out (20 + nl) (24 + nl) (by omega) (by omega)
          rw [e20, e24] at g2
          have hl2 : 24 + nl - (20 + nl) = 4 := by omega
          rw [hl2] at g2 r2
          have R2 := Lib.hid r2
          have R1 := Lib.hid (show RdB W0 (.slice (some ⟨ab, off, none⟩) (20 + nl) cap) (b.take (20 + nl)) from RdL.take HR0.out (20 + nl) (by omega))
          have HCk := Lib.hid (fun W h => rcheck_any (.slice (some ⟨ab, off, none⟩) (20 + nl) cap) (b.take (20 + nl)) W h)
          have HST := Lib.hid (fun W v l (h : RdB W v l) => run_to_string (P := Tryz.prog) 66 9 5 Tryz.underlying66 Tryz.underlying5 Tryz.underlying9 h)
          have HK2 := Lib.hid (fun W (h : Below W0.heap.size W0 W) => HST.out W _ _ (RdL.below R2.out h))
          obtain ⟨q2, hq2⟩ : ∃ q2, decide (ck (b.take (20 + nl)) = (b.drop (20 + nl)).take 4) = q2 := ⟨_, rfl⟩
          have HQ3 := Lib.hid hq2
          clear Z0 Z1 Z2 Z3 ZF r2 hq2 e20 e24 hl2
          generalize hs1 : ck (b.take (20 + nl)) = s1 at *
          generalize hs2 : (b.drop (20 + nl)).take 4 = s2 at *
          clear hs1 hs2
          go_upto_region 9 with fail
          clear hW0
          go_cut [75] (fun s wx => s = .bool (!q2) ∧ Below W0.heap.size W0 wx)
          case first =>
            have k3 := HK2.out _ (Below.refl _ _).drew
            rcases Classical.em (s1 = s2) with hss | hss
            · subst hss
              have HQv := Lib.hid (show q2 = true by rw [← HQ3.out]; simp)
              go_region_with ((go_at_call 77; (refine (HCk.out _ (RdL.below R1.out (Below.refl _ _).drew)).mono ?_); rintro e w3 ⟨v3, rfl, hown3, hb3⟩; obtain ⟨a3, c3, rfl, _, _, _⟩ := own_form hown3; have k2 := HST.out _ _ _ hown3.rd; have k4 := HK2.out _ (bstep (Below.refl _ _).drew hb3)))
              all_goals
                have HB3 := bstep (Below.refl W0.heap.size W0).drew hb3
                clear k2 k3 k4 hown3
                go_wp2_with fail
                go_meet
                case rel => exact ⟨by rw [HQv.out]; rfl, HB3⟩
            · have hbe : (s1 == s2) = false := beq_eq_false_iff_ne.2 hss
              have HQv := Lib.hid (show q2 = false by rw [← HQ3.out]; exact decide_eq_false hss)
              clear hss
              go_region_with ((go_at_call 77; (refine (HCk.out _ (RdL.below R1.out (Below.refl _ _).drew)).mono ?_); rintro e w3 ⟨v3, rfl, hown3, hb3⟩; obtain ⟨a3, c3, rfl, _, _, _⟩ := own_form hown3; have k2 := HST.out _ _ _ hown3.rd; have k4 := HK2.out _ (bstep (Below.refl _ _).drew hb3)))
              all_goals
                have HB3 := bstep (Below.refl W0.heap.size W0).drew hb3
                clear k2 k3 k4 hown3
                go_wp2_with fail
                go_meet
                case rel => exact ⟨by rw [HQv.out]; rfl, HB3⟩
          case rest =>
            obtain ⟨rfl, hbw⟩ := hcut
            obtain ⟨W5, rfl⟩ : ∃ W5, W5 = wc := ⟨_, rfl⟩
            have Z0 := Below.keeps hbw _ _ HZ0.out
            have Z1 := Below.keeps hbw _ _ HZ1.out
            have Z2 := Below.keeps hbw _ _ HZ2.out
            have Z3 := Below.keeps hbw _ _ HZ3.out
            have hzl : w.heap.size < W5.heap.size := World.block_lt_of_cell? _ _ Z0
            have ZF5 := fun i => (hbw.frozen (p := ⟨w.heap.size, i, none⟩) hzz).trans (HZF.out i)
            have F0 := ZF5 0
            have F1 := ZF5 1
            have F2 := ZF5 2
            have F3 := ZF5 3
            have HB5 := Lib.hid (bstep HBZ0.out hbw)
            have R5 := Lib.hid (RdL.below HR0.out hbw)
            clear ZF5 hbw R1 R2 HCk HST HK2 HZ0 HZ1 HZ2 HZ3 HZF g2 HR0 HBZ0 hto
            cases q2
            · go_wp2_with fail
              exact bodyPost_ret (v := .tuple #[ndV nd0 (.slice none 0 0), .int .i64 0, .int .i64 5]) (by simp [results, Tryz.results116, go_sem, nd0, Z0, Z1, Z2, Z3]) rfl (HBAD.out 5 _ (HPre.out _ (by rw [if_neg hlt, if_pos (of_decide_eq_false HQ3.out)])) ((((HB5.out.setCell (Nat.le_refl _) _).setCell (Nat.le_refl _) _).setCell (Nat.le_refl _) _).setCell (Nat.le_refl _) _))
            · have HPd := Lib.hid (show npad b = (b.drop (24 + nl)).take (sz - (24 + nl)) by unfold npad; rw [HNl.out, HSZ.out])
              go_wp2_with fail
              go_loop [8] (fun iv => ∃ p : Nat, iv = .int .i64 (p : Int) ∧ 24 + nl ≤ p ∧ p ≤ sz ∧ Hid (∀ j, 24 + nl ≤ j → j < p → bat b j = 0)) (fun iv => sz - (intOf iv).toNat)
              case atStart => exact ⟨24 + nl, by go_num, by omega, by omega, fun j h1 h2 => by omega⟩
              case round =>
                obtain ⟨p, rfl, hp1, hp2, hz⟩ := hrel
                by_cases hlm : p < sz
                · obtain ⟨_, _, e, c0⟩ := RdB.at R5.out (show p < b.length by omega)
                  injection e with e; injection e with ea eb; subst ea eb
                  obtain ⟨z, hzv⟩ : ∃ z, (bat b p).toNat = z := ⟨_, rfl⟩
                  rw [hzv] at c0
                  have HZZ := Lib.hid hzv
                  have ib : (p : Int) < (b.length : Int) := by omega
                  clear hzv
                  by_cases hz0 : z = 0
                  · have hd3 : ((z : Int) != 0) = false := by rw [bne_eq_false_iff_eq]; omega
                    have HZ1 := Lib.hid (show bat b p = 0 from by rw [← UInt8.toNat_inj, HZZ.out, hz0]; rfl)
                    clear hz0
                    go_wp2_with fail
                    exact ⟨⟨p + 1, by go_num, by omega, by omega, fun j h1 h2 => by
                      by_cases e : j = p
                      · rw [e]; exact HZ1.out
                      · exact hz.out j h1 (by omega)⟩, by simp [intOf]; omega⟩
                  · have hd3 : ((z : Int) != 0) = true := by rw [bne_iff_ne]; omega
                    have HX := Lib.hid (show ¬ (npad b).all (· == 0) = true from fun h => by
                      rw [HPd.out, List.all_eq_true] at h
                      have hb := h (bat ((b.drop (24 + nl)).take (sz - (24 + nl))) (p - (24 + nl))) (by unfold bat; rw [List.getD_eq_getElem?_getD, List.getElem?_eq_getElem (by rw [List.length_take, List.length_drop]; omega)]; exact List.getElem_mem _)
                      rw [bat_take (by omega), bat_drop, show 24 + nl + (p - (24 + nl)) = p by omega] at hb
                      simp at hb
                      apply hz0; rw [← HZZ.out, hb]; rfl)
                    clear hz0
                    go_wp2_with fail
                    exact bodyPost_ret (v := .tuple #[ndV nd0 (.slice none 0 0), .int .i64 0, .int .i64 3]) (by simp [results, Tryz.results116, go_sem, nd0, Z0, Z1, Z2, Z3]) rfl (HBAD.out 3 _ (HPre.out _ (by rw [if_neg hlt, if_neg (fun e => e (of_decide_eq_true HQ3.out)), if_pos HX.out])) ((((HB5.out.setCell (Nat.le_refl _) _).setCell (Nat.le_refl _) _).setCell (Nat.le_refl _) _).setCell (Nat.le_refl _) _))
                · obtain rfl : p = sz := by omega
                  have HX := Lib.hid (show (npad b).all (· == 0) = true from by
                    rw [HPd.out, List.all_eq_true]
                    intro x hx
                    obtain ⟨j, hj, rfl⟩ := List.mem_iff_getElem.1 hx
                    have hj2 := hj
                    rw [List.length_take, List.length_drop] at hj2
                    have hb := hz.out (24 + nl + j) (by omega) (by omega)
                    have hbb : bat ((b.drop (24 + nl)).take (p - (24 + nl))) j = 0 := by rw [bat_take (by omega), bat_drop]; exact hb
                    unfold bat at hbb
                    rw [List.getD_eq_getElem?_getD, List.getElem?_eq_getElem hj] at hbb
                    simpa using hbb)
                  have HFin := Lib.hid (show ndec b = (0, nread b, p) from HPre.out _ (by rw [if_neg hlt, if_neg (fun e => e (of_decide_eq_true HQ3.out)), if_neg (fun e => e HX.out)]))
                  clear hz hlm
                  obtain ⟨x8, y8, g8, r8⟩ := RdL.part (P := Tryz.prog) elemB R5.out 8 16 (by omega) (by omega)
                  obtain ⟨x4, y4, g4, r4⟩ := RdL.part (P := Tryz.prog) elemB R5.out 4 8 (by omega) (by omega)
                  obtain ⟨xd, yd, gd, rd⟩ := RdL.part (P := Tryz.prog) elemB R5.out 20 (20 + nl) (by omega) (by omega)
                  have e20 : ((20 + nl : Nat) : Int) = 20 + (nl : Int) := by omega
                  have hsub : 20 + nl - 20 = nl := by omega
                  rw [e20, hsub] at gd
                  rw [hsub] at rd
                  rw [show ((8 : Nat) : Int) = 8 from rfl, show ((16 : Nat) : Int) = 16 from rfl] at g8
                  rw [show ((4 : Nat) : Int) = 4 from rfl, show ((8 : Nat) : Int) = 8 from rfl] at g4
                  rw [show ((20 : Nat) : Int) = 20 from rfl] at gd
                  simp only [show 16 - 8 = 8 from rfl, show 8 - 4 = 4 from rfl] at g8 g4 r8 r4
                  have R8 := Lib.hid r8
                  have HN8 := Lib.hid (fun W (h : Below W5.heap.size W5 W) => rval_any _ _ W (RdL.below R8.out h))
                  have R4 := Lib.hid r4
                  have HN4 := Lib.hid (fun W (h : Below W5.heap.size W5 W) => rval_any _ _ W (RdL.below R4.out h))
                  have hdl : ((b.drop 20).take nl).length = nl := by rw [List.length_take, List.length_drop]; omega
                  have HRdd := Lib.hid (show Rd W5 1 (.slice xd nl yd) nl (((b.drop 20).take nl).map byteV) from by have := rd; unfold RdL at this; rwa [hdl] at this)
                  have HRd := Lib.hid (show nread b = ⟨val ((b.drop 8).take 8), val ((b.drop 4).take 4), bat b 2 == 1, (b.drop 20).take nl⟩ by unfold nread; rw [HNl.out])
                  have HB2 := Lib.hid (show (bat b 2 == 1) = ((n2 : Int) == 1) by
                    rw [Bool.eq_iff_iff, beq_iff_eq, beq_iff_eq, ← UInt8.toNat_inj, HN2.out]
                    show n2 = 1 ↔ _; omega)
                  have v8 := val_lt ((b.drop 8).take 8)
                  have v4 := val4_lt (l := (b.drop 4).take 4) (by rw [List.length_take]; omega)
                  generalize val ((b.drop 8).take 8) = k8 at *
                  generalize val ((b.drop 4).take 4) = k4 at *
                  generalize (b.drop 20).take nl = dl at *
                  have HDl := Lib.hid hdl
                  have j4 : IntKind.u32.wrap (k4 : Int) = (k4 : Int) := IntWalk.u32_in _ (by omega)
                  obtain ⟨_, _, e, c2⟩ := RdB.at R5.out (show 2 < b.length by omega)
                  injection e with e; injection e with ea eb; subst ea eb
                  rw [HN2.out] at c2
                  have ib2 : (2 : Int) < (b.length : Int) := by omega
                  have HSX := Lib.hid (show ∀ w', Below W5.heap.size W5 w' → w'.cell? ⟨ab, off + 2, none⟩ = some (.int .u8 (n2 : Int)) from fun w' hb => Below.keeps hb _ _ c2)
                  have HSZ2 := Lib.hid (show ∀ w', Below W5.heap.size W5 w' → w'.cell? ⟨w.heap.size, 0, none⟩ = some (.int .u64 0) ∧ w'.cell? ⟨w.heap.size, 1, none⟩ = some (.int .u32 0) ∧ w'.cell? ⟨w.heap.size, 2, none⟩ = some (.bool false) ∧ w'.cell? ⟨w.heap.size, 3, none⟩ = some (.slice none 0 0) ∧ w'.frozen? ⟨w.heap.size, 0, none⟩ = false ∧ w'.frozen? ⟨w.heap.size, 1, none⟩ = false ∧ w'.frozen? ⟨w.heap.size, 2, none⟩ = false ∧ w'.frozen? ⟨w.heap.size, 3, none⟩ = false from fun w' hb => ⟨Below.keeps hb _ _ Z0, Below.keeps hb _ _ Z1, Below.keeps hb _ _ Z2, Below.keeps hb _ _ Z3,
                    (hb.frozen (p := ⟨w.heap.size, 0, none⟩) hzl).trans F0, (hb.frozen (p := ⟨w.heap.size, 1, none⟩) hzl).trans F1, (hb.frozen (p := ⟨w.heap.size, 2, none⟩) hzl).trans F2, (hb.frozen (p := ⟨w.heap.size, 3, none⟩) hzl).trans F3⟩)
                  obtain ⟨_, _, e, c2w⟩ := RdB.at Hw0.out (show 2 < b.length by omega)
                  injection e with e; injection e with ea eb; subst ea eb
                  have habw : ab < w.heap.size := World.block_lt_of_cell? _ _ c2w
                  have HSt := Lib.hid (fun (w' : World) (u0 u1 u2 u3 : Value) (h : w'.cell? ⟨ab, off + 2, none⟩ = some (.int .u8 (n2 : Int))) => show ((((w'.setCell ⟨w.heap.size, 0, none⟩ u0).setCell ⟨w.heap.size, 1, none⟩ u1).setCell ⟨w.heap.size, 2, none⟩ u2).setCell ⟨w.heap.size, 3, none⟩ u3).cell? ⟨ab, off + 2, none⟩ = some (.int .u8 (n2 : Int)) from by
                    have hne : ∀ k, (⟨w.heap.size, k, none⟩ : Addr) ≠ ⟨ab, off + 2, none⟩ := fun k e => by injection e with e; omega
                    rw [World.cell?_setCell_other (h := hne 3), World.cell?_setCell_other (h := hne 2), World.cell?_setCell_other (h := hne 1), World.cell?_setCell_other (h := hne 0)]; exact h)
                  have hmade : ∀ W : World, (W.alloc (.cells #[] 5)).ownsRow W.heap.size 5 1 (.slice (some ⟨W.heap.size, 0, none⟩) 0 0) 0 [] := fun W => World.ownsRow_made (e := 5) (size := 1) W #[] 0 (Nat.le_refl _) (by decide) rfl
                  have HMade := Lib.hid hmade
                  have HBk := Lib.hid (fun W v (h : ((W5.alloc (.cells #[] 5)).drew).grownBy W v) (hv : v = (Value.slice (some ⟨W5.heap.size, 0, none⟩) 0 0).ownBlock) => show Below W5.heap.size W5 W from by
                    subst hv
                    exact own_below (below_drew ((Below.refl _ _).alloc (Nat.le_refl _) _)) (World.ownsRow.drew (hmade W5)) (by simp) h)
                  clear e20 hsub r8 r4 rd c2 Z0 Z1 Z2 Z3 F0 F1 F2 F3 c2w hdl hmade
                  go_wp2_with fail
                  go_region_held3 (fun w' => w'.cell? ⟨ab, off + 2, none⟩ = some (.int .u8 (n2 : Int)))
                    (first | exact HSX.out _ (Below.refl _ _).drew | exact HSX.out _ (below_drew ((Below.refl _ _).alloc (Nat.le_refl _) _)) | exact HSX.out _ hbc | exact HSt.out _ _ _ _ _ (HSX.out _ hbc))
                    (first | (go_at_call 115; (with_reducible refine (HN8.out _ (by first | exact below_drew (Below.refl _ _) | exact below_drew ((Below.refl _ _).alloc (Nat.le_refl _) _) | exact hbc)).mono ?_); rintro e w6 ⟨rfl, rfl⟩) | (go_at_call 115; (with_reducible refine (HN4.out _ (by first | exact below_drew (Below.refl _ _) | exact below_drew ((Below.refl _ _).alloc (Nat.le_refl _) _) | exact hbc)).mono ?_); rintro e w6 ⟨rfl, rfl⟩) | (refine step_app (n := 0) (m := nl) (by rfl) (.tmp 101) (.tmp 104) 66 (by rfl) elemB W5.heap.size (by rfl) (World.ownsRow.drew (HMade.out W5)) (by rfl) (Rd.drew (Rd.alloc HRdd.out _)) (bytes_one _) (by unfold maxLen; omega) (by omega) (by simp) ?_; intro v7 w7 hown7 hgr7 hv7; clear hv7; have hbc := HBk.out _ _ hgr7 rfl; obtain ⟨oa7, oc7, hv7, _, _, _⟩ := own_form hown7; subst hv7; obtain ⟨z0, z1, z2, z3, y0, y1, y2, y3⟩ := HSZ2.out _ hbc) | fail)
                  all_goals
                    have hown7' : OwnB w7 W5.heap.size (.slice oa7 dl.length oc7) dl := by
                      have := ownB_of hown7 (List.nil_append _)
                      rw [HDl.out]; simpa using this
                    rw [HDl.out] at hown7'
                    have hnb : (Value.slice oa7 nl oc7).ownBlock ≠ some w.heap.size := fun e => by have := (World.ownsRow.lt hown7' _ e).1; omega
                    have HO7 := Lib.hid (World.ownsRow.mono (own_set_ne (p := ⟨w.heap.size, 3, none⟩) (own_set_ne (p := ⟨w.heap.size, 2, none⟩) (own_set_ne (p := ⟨w.heap.size, 1, none⟩) (own_set_ne (p := ⟨w.heap.size, 0, none⟩) hown7' hnb (.int .u64 (k8 : Int))) hnb (.int .u32 (k4 : Int))) hnb (.bool ((n2 : Int) == 1))) hnb (.slice oa7 nl oc7)) (Nat.le_of_lt hzl))
                    have HB7 := Lib.hid ((((bstep HB5.out hbc).setCell (p := ⟨w.heap.size, 0, none⟩) (Nat.le_refl _) (.int .u64 (k8 : Int))).setCell (p := ⟨w.heap.size, 1, none⟩) (Nat.le_refl _) (.int .u32 (k4 : Int))).setCell (p := ⟨w.heap.size, 2, none⟩) (Nat.le_refl _) (.bool ((n2 : Int) == 1)) |>.setCell (p := ⟨w.heap.size, 3, none⟩) (Nat.le_refl _) (.slice oa7 nl oc7))
                    clear hown7 hown7' hbc y0 y1 y2 y3
                    go_wp2_with fail
                    exact bodyPost_ret (v := .tuple #[.agg #[.int .u64 (k8 : Int), .int .u32 (k4 : Int), .bool ((n2 : Int) == 1), .slice oa7 nl oc7], .int .i64 (p : Int), .int .i64 0]) (by simp [results, Tryz.results116, go_sem, z0, z1, z2, z3]) rfl (by
                      rw [← HR.out]
                      refine ⟨⟨.slice oa7 nl oc7, ?_, ?_⟩, HB7.out⟩
                      · rw [HFin.out, HRd.out, HB2.out]
                      · rw [HFin.out, HRd.out]; exact HO7.out)
end Go.Proofs.YthomhflkldhdaaaGreatDoor

namespace Go.Proofs.YthomhflkldhdaaaGreatDoor
open Go.RowKit

def recC (p : Rec × Value) : List Value := [.int .i64 p.1.off, .int .u64 (p.1.nd.key : Int), .int .u32 (p.1.nd.ck : Int), .bool p.1.nd.del, p.2]
theorem recC_len (p : Rec × Value) : (recC p).length = 5 := rfl
def recsC (es : List (Rec × Value)) : List Value := es.flatMap recC
theorem recsC_length (es : List (Rec × Value)) : (recsC es).length = es.length * 5 := flat_length 5 recC es fun x _ => recC_len x
theorem recsC_snoc (es : List (Rec × Value)) (p : Rec × Value) : recsC (es ++ [p]) = recsC es ++ recC p := by simp [recsC]
/-- Each item's data is a row of the call's own. -/
def Datas (w : World) (B : Nat) (es : List (Rec × Value)) : Prop := ∀ p ∈ es, w.ownsRow B 5 1 p.2 p.1.nd.data.length (p.1.nd.data.map byteV)
theorem Datas.keep {w w' : World} {B : Nat} {es : List (Rec × Value)} (h : Datas w B es) (hb : Below w.heap.size w w') : Datas w' B es := fun p hp => own_keep (h p hp) hb
theorem Datas.app {w w' : World} {B : Nat} {es : List (Rec × Value)} {e : TypeId} {B' sz n : Nat} {v : Value} {xs : List Value} (h : Datas w B es) (ho : w.ownsRow B' e sz v n xs) (hne : 5 ≠ e) (hg : w.grownBy w' v.ownBlock) : Datas w' B es :=
  fun p hp => (h p hp).kept hg (own_ne (h p hp) ho hne)
theorem Datas.snoc {w : World} {B : Nat} {es : List (Rec × Value)} {p : Rec × Value} (h : Datas w B es) (hp : w.ownsRow B 5 1 p.2 p.1.nd.data.length (p.1.nd.data.map byteV)) : Datas w B (es ++ [p]) := fun q hq => by
  rcases List.mem_append.1 hq with hq | hq
  · exact h q hq
  · rw [List.mem_singleton.1 hq]; exact hp
theorem Datas.nil (w : World) (B : Nat) : Datas w B [] := fun p hp => by cases hp
theorem Datas.lower {w : World} {B B' : Nat} {es : List (Rec × Value)} (h : Datas w B es) (hb : B' ≤ B) : Datas w B' es := fun p hp => World.ownsRow.mono (h p hp) hb
/-- v is a slice of records of type e of the call's own. -/
structure OwnR (w : World) (B : Nat) (e : TypeId) (v : Value) (es : List (Rec × Value)) : Prop where
  row : w.ownsRow B e 5 v es.length (recsC es)
  dat : Datas w B es
theorem OwnR.keep {w w' : World} {B : Nat} {e : TypeId} {v : Value} {es : List (Rec × Value)} (h : OwnR w B e v es) (hb : Below w.heap.size w w') : OwnR w' B e v es := ⟨own_keep h.row hb, h.dat.keep hb⟩
theorem OwnR.nil (w : World) (B : Nat) (e : TypeId) : OwnR w B e (.slice none 0 0) [] := ⟨World.ownsRow_nil _ _ _ _, Datas.nil w B⟩
theorem OwnR.lower {w : World} {B B' : Nat} {e : TypeId} {v : Value} {es : List (Rec × Value)} (h : OwnR w B e v es) (hb : B' ≤ B) : OwnR w B' e v es := ⟨World.ownsRow.mono h.row hb, h.dat.lower hb⟩
/-- Reading of records: the cells, each item's data. -/
structure RdR (w : World) (v : Value) (es : List (Rec × Value)) : Prop where
  row : Rd w 5 v es.length (recsC es)
  dat : ∀ p ∈ es, RdB w p.2 p.1.nd.data
theorem OwnR.rd {w : World} {B : Nat} {e : TypeId} {v : Value} {es : List (Rec × Value)} (h : OwnR w B e v es) : RdR w v es := ⟨own_rd h.row, fun p hp => own_rdl (h.dat p hp)⟩
theorem RdR.below {w w' : World} {v : Value} {es : List (Rec × Value)} (h : RdR w v es) (hb : Below w.heap.size w w') : RdR w' v es := ⟨h.row.below hb, fun p hp => RdL.below (h.dat p hp) hb⟩
def rat (es : List (Rec × Value)) (j : Nat) : Rec × Value := es.getD j (⟨0, nd0⟩, .slice none 0 0)
theorem rat_mem {es : List (Rec × Value)} {j : Nat} (h : j < es.length) : rat es j ∈ es := by
  unfold rat; rw [List.getD_eq_getElem?_getD, List.getElem?_eq_getElem h]; exact List.getElem_mem h
theorem RdR.shape {w : World} {v : Value} {es : List (Rec × Value)} (h : RdR w v es) : ∃ a cap, v = .slice a es.length cap ∧ es.length ≤ cap ∧ cap ≤ maxLen := by
  obtain ⟨_, a, cap, h1, h2, h3, _⟩ := h.row
  exact ⟨a, cap, h1, h2, h3⟩
theorem RdR.at {w : World} {a : Option Addr} {n cap : Nat} {es : List (Rec × Value)} (h : RdR w (.slice a n cap) es) {j : Nat} (hj : j < n) : ∃ b off, a = some ⟨b, off, none⟩ ∧ RdB w (rat es j).2 (rat es j).1.nd.data ∧
    w.cell? ⟨b, off + j * 5, none⟩ = some (.int .i64 (rat es j).1.off) ∧ w.cell? ⟨b, off + j * 5 + 1, none⟩ = some (.int .u64 ((rat es j).1.nd.key : Int)) ∧ w.cell? ⟨b, off + j * 5 + 2, none⟩ = some (.int .u32 ((rat es j).1.nd.ck : Int)) ∧
    w.cell? ⟨b, off + j * 5 + 3, none⟩ = some (.bool (rat es j).1.nd.del) ∧ w.cell? ⟨b, off + j * 5 + 4, none⟩ = some (rat es j).2 := by
  have hn : n = es.length := by
    obtain ⟨_, _, _, e, _⟩ := h.row
    injection e
  subst hn
  obtain ⟨_, a', cap', e, _, _, _, hc⟩ := h.row
  injection e with e1
  obtain ⟨b, off, e2, hc⟩ := hc (by rw [recsC_length]; omega)
  refine ⟨b, off, e1.trans e2, h.dat _ (rat_mem hj), ?_⟩
  have hat : ∀ i, i < 5 → ∀ u, (recC (rat es j))[i]? = some u → w.cell? ⟨b, off + (j * 5 + i), none⟩ = some u := fun i hi u hu => hc (j * 5 + i) u (by
    rw [show recsC es = es.flatMap recC from rfl, flat_at 5 recC (⟨0, nd0⟩, .slice none 0 0) es (fun _ _ => rfl) j i hj hi]; exact hu)
  exact ⟨hat 0 (by omega) _ rfl, hat 1 (by omega) _ rfl, hat 2 (by omega) _ rfl, hat 3 (by omega) _ rfl, hat 4 (by omega) _ rfl⟩
theorem elemRR : ElemT Tryz.prog 74 133 5 48 := by
  obtain ⟨i, hi, hz, hs, hb⟩ := info_parts (P := Tryz.prog) (e := 133) (z := .agg #[.int .i64 0, .int .u64 0, .int .u32 0, .bool false, .slice none 0 0]) (size := 5) (bytes := 48) (by kernel_rfl)
  exact ⟨Tryz.underlying74, by decide, i, _, hi, hz, hs, hb, rfl⟩
end Go.Proofs.YthomhflkldhdaaaGreatDoor

namespace Go.Proofs.YthomhflkldhdaaaGreatDoor
open Go.RowKit

/-- What opening a file gives. -/
def openF (b : List UInt8) : Int × Sup × List Rec × Nat :=
  if (sdec b).1 = 0 then (0, (sdec b).2, (recs (b.length + 1) b 16).1, (recs (b.length + 1) b 16).2) else ((sdec b).1, sup0, [], 0)
theorem sdec_bad {b : List UInt8} (h : (sdec b).1 ≠ 0) : (sdec b).2 = sup0 := by
  unfold sdec at h ⊢
  split
  · rfl
  · split
    · rfl
    · split
      · rfl
      · split
        · rename_i h1 h2 h3 h4
          rw [if_neg h1, if_neg h2, if_neg h3, if_pos h4] at h
          exact absurd rfl h
        · rfl
theorem sdec_long {b : List UInt8} (h : (sdec b).1 = 0) : 16 ≤ b.length := by
  unfold sdec at h
  split at h
  · cases h
  · omega
/-- The search under way: what is found, what is to come. -/
structure Acc (b : List UInt8) (L : List Rec) (E : Nat) (es : List (Rec × Value)) (p : Nat) : Prop where
  ex : ∃ f, b.length < p + f ∧ es.map (·.1) ++ (recs f b p).1 = L ∧ (recs f b p).2 = E
  le : p ≤ b.length
  n : es.length * 24 ≤ p
theorem Acc.start {b : List UInt8} (h : 16 ≤ b.length) : Acc b (recs (b.length + 1) b 16).1 (recs (b.length + 1) b 16).2 [] 16 := ⟨⟨b.length + 1, by omega, rfl, rfl⟩, h, by simp⟩
theorem Acc.done {b : List UInt8} {L : List Rec} {E p : Nat} {es : List (Rec × Value)} (h : Acc b L E es p) (hd : (ndec (b.drop p)).1 ≠ 0) : es.map (·.1) = L ∧ p = E := by
  obtain ⟨f, _, h1, h2⟩ := h.ex
  rw [recs_stop hd] at h1 h2
  exact ⟨by simpa using h1, h2⟩
theorem Acc.step {b : List UInt8} {L : List Rec} {E p : Nat} {es : List (Rec × Value)} (h : Acc b L E es p) (hd : (ndec (b.drop p)).1 = 0) (v : Value) : Acc b L E (es ++ [(⟨p, (ndec (b.drop p)).2.1⟩, v)]) (p + (ndec (b.drop p)).2.2) := by
  obtain ⟨f, h0, h1, h2⟩ := h.ex
  have hs := ndec_size hd
  rw [List.length_drop] at hs
  have hle := h.le
  have hn := h.n
  obtain ⟨g, rfl⟩ : ∃ g, f = g + 1 := ⟨f - 1, by omega⟩
  rw [recs_step hd] at h1 h2
  refine ⟨⟨g, by omega, ?_, h2⟩, by omega, by rw [List.length_append]; simp; omega⟩
  rw [← h1]; simp

/-- A way out by a return alone. -/
def onlyRet (Q : Exit → Act → World → Prop) : Exit → Act → World → Prop
  | .ret, a, w => Q .ret a w
  | _, _, _ => False
section
variable {Q : Exit → Act → World → Prop} {J : Act → World → Prop} {a : Act} {w : World}
@[go_sem] theorem onlyRet_ret : onlyRet Q .ret a w = Q .ret a w := rfl
@[go_sem] theorem jump_normal (l : Nat) : Exit.jump l J Q .normal a w = Q .normal a w := rfl
@[go_sem] theorem jump_exit (l id : Nat) : Exit.jump l J Q (.exit id) a w = Q (.exit id) a w := rfl
@[go_sem] theorem jump_ret (l : Nat) : Exit.jump l J Q .ret a w = Q .ret a w := rfl
@[go_sem] theorem jump_panic (l : Nat) (ch : List PanicEntry) : Exit.jump l J Q (.panic ch) a w = Q (.panic ch) a w := rfl
theorem jump_goto (l : Nat) : Exit.jump l J Q (.goto l) a w = J a w := by simp [Exit.jump]
/-- A scope whose label is come to by jumps forward, and whose end returns. -/
theorem wp_scope_done {P : Program} {c rest : Code} (l : Nat) (hf : findLabel c l = some rest) (h : c.wp P (Exit.jump l (fun a w => rest.wp P (onlyRet Q) a w) Q) a w) : (Code.scope c).wp P Q a w :=
  wp_scope_jumps l _ (fun _ _ => 0) hf h fun a w hJ => wp_mono hJ fun e a w hq => by
    cases e <;> first | exact hq | exact hq.elim
end
theorem Rd.newK (k : Nat) (w : World) (hk : w.heap.size = k) (sz : Nat) (cs : List Value) (e : TypeId) (n : Nat) (hn : cs.length = n * sz) (hm : n ≤ maxLen) : Rd (w.alloc (.cells cs.toArray e)) sz (.slice (some ⟨k, 0, none⟩) n n) n cs := by
  subst hk; exact Rd.new w sz cs e n hn hm
theorem rec_one (r : Rec) (a : Option Addr) (n c : Nat) : ∀ u ∈ recC (r, .slice a n c), u.oneCell' = true := by
  intro u hu; simp only [recC, List.mem_cons, List.not_mem_nil, or_false] at hu; rcases hu with h | h | h | h | h <;> rw [h] <;> rfl
theorem OwnR.snoc {W W' : World} {B : Nat} {e : TypeId} {v v' : Value} {es : List (Rec × Value)} {q : Rec × Value} (h : OwnR W B e v es) (hd : W.ownsRow B 5 1 q.2 q.1.nd.data.length (q.1.nd.data.map byteV)) (hne : 5 ≠ e)
    (hr : W'.ownsRow B e 5 v' (es.length + 1) (recsC es ++ recC q)) (hg : W.grownBy W' v.ownBlock) : OwnR W' B e v' (es ++ [q]) :=
  ⟨by rw [recsC_snoc, List.length_append]; exact hr, (h.dat.snoc hd).app h.row hne hg⟩
theorem own_set_lt {W : World} {B : Nat} {e : TypeId} {sz n : Nat} {v : Value} {xs : List Value} (h : W.ownsRow B e sz v n xs) {p : Addr} (hp : p.block < B) (u : Value) : (W.setCell p u).ownsRow B e sz v n xs :=
  own_set_ne h (fun e => by have := (World.ownsRow.lt h _ e).1; omega) u
theorem OwnR.set {W : World} {B : Nat} {e : TypeId} {v : Value} {es : List (Rec × Value)} (h : OwnR W B e v es) {p : Addr} (hp : p.block < B) (u : Value) : OwnR (W.setCell p u) B e v es :=
  ⟨own_set_lt h.row hp u, fun q hq => own_set_lt (h.dat q hq) hp u⟩
/-- A superblock in a block of its own. -/
structure BoxS (W : World) (k : Nat) (s : Sup) : Prop where
  c0 : W.cell? ⟨k, 0, none⟩ = some (.int .i64 (s.slot : Int))
  c1 : W.cell? ⟨k, 1, none⟩ = some (.int .i64 (s.gen : Int))
  c2 : W.cell? ⟨k, 2, none⟩ = some (.int .i64 (s.rev : Int))
  f : ∀ i, W.frozen? ⟨k, i, none⟩ = false
theorem BoxS.keep {W W' : World} {k B : Nat} {s : Sup} (h : BoxS W k s) (hk : k < B) (hb : Below B W W') (_hB : B ≤ W.heap.size) : BoxS W' k s :=
  ⟨(hb.cell (p := ⟨k, 0, none⟩) hk).trans h.c0, (hb.cell (p := ⟨k, 1, none⟩) hk).trans h.c1, (hb.cell (p := ⟨k, 2, none⟩) hk).trans h.c2, fun i => (hb.frozen (p := ⟨k, i, none⟩) hk).trans (h.f i)⟩
theorem BoxS.set {W : World} {k : Nat} {s : Sup} (h : BoxS W k s) (s' : Sup) : BoxS (((W.setCell ⟨k, 0, none⟩ (.int .i64 (s'.slot : Int))).setCell ⟨k, 1, none⟩ (.int .i64 (s'.gen : Int))).setCell ⟨k, 2, none⟩ (.int .i64 (s'.rev : Int))) k s' :=
  ⟨by simp [go_sem, h.c0], by simp [go_sem, h.c1], by simp [go_sem, h.c2], fun i => by simp [h.f]⟩
end Go.Proofs.YthomhflkldhdaaaGreatDoor

namespace Go.Proofs.YthomhflkldhdaaaGreatDoor
open Go.RowKit

set_option maxHeartbeats 1000000 in
theorem rnvalid_ok (x : Nd) (a : Option Addr) (cap : Nat) (w : World) (h : x.ok) : Calls Tryz.prog 78 #[ndV x (.slice a x.data.length cap)] w fun e w' => e = .returned (.bool true) ∧ Below w.heap.size w w' := by
  obtain ⟨k, c, d, l⟩ := x
  obtain ⟨h1, h2⟩ := h
  dsimp only at h1 h2 ⊢
  have HB := Lib.hid (show Below w.heap.size w (w.alloc (.cells #[.int .u64 (k : Int), .int .u32 (c : Int), .bool d, .slice a l.length cap] 72)) from (Below.refl _ _).alloc (Nat.le_refl _) _)
  cases d
  · generalize l.length = n at *
    clear h2
    have d1 : decide ((n : Int) ≤ 4096) = true := by simp; omega
    go_enter Tryz.func78, Tryz.ntmps78
    go_wp2_with fail
    go_ret
    exact ⟨rfl, HB.out⟩
  · have h3 : l.length = 0 := by rw [h2 rfl]; rfl
    clear h2
    rw [h3] at HB ⊢
    go_enter Tryz.func78, Tryz.ntmps78
    go_wp2_with fail
    go_ret
    exact ⟨rfl, HB.out⟩
theorem nd_eq (x y : Nd) : decide (x = y) = (decide (x.key = y.key) && decide (x.ck = y.ck) && (x.del == y.del) && decide (x.data = y.data)) := by
  obtain ⟨a, b, c, d⟩ := x; obtain ⟨a', b', c', d'⟩ := y
  rw [Bool.eq_iff_iff]; simp [and_assoc]
end Go.Proofs.YthomhflkldhdaaaGreatDoor

namespace Go.Proofs.YthomhflkldhdaaaGreatDoor
open Go.RowKit

theorem head_own (w : World) : OwnB (w.alloc (.cells #[.int .u8 78, .int .u8 165, .int .u8 0, .int .u8 0] 5)) w.heap.size (.slice (some ⟨w.heap.size, 0, none⟩) 4 4) [78, 165, 0, 0] := World.ownsRow_lit (size := 1) w (#[.int .u8 78, .int .u8 165, .int .u8 0, .int .u8 0] : Array Value) 4 (Nat.le_refl _) (by decide) rfl
theorem head_own1 (w : World) : OwnB (w.alloc (.cells #[.int .u8 78, .int .u8 165, .int .u8 1, .int .u8 0] 5)) w.heap.size (.slice (some ⟨w.heap.size, 0, none⟩) 4 4) [78, 165, 1, 0] := World.ownsRow_lit (size := 1) w (#[.int .u8 78, .int .u8 165, .int .u8 1, .int .u8 0] : Array Value) 4 (Nat.le_refl _) (by decide) rfl
set_option maxRecDepth 100000 in
set_option maxHeartbeats 4000000 in
theorem rnenc_any (x : Nd) (dv : Value) (w : World) (hok : x.ok) (hwf : x.Wf) (h : RdB w dv x.data) :
    Calls Tryz.prog 30 #[ndV x dv] w fun e w' => ∃ v', e = .returned (.tuple #[v', .int .i64 0]) ∧ OwnB w' w.heap.size v' (nenc x) ∧ Below w.heap.size w w' := by
  obtain ⟨a, cap, rfl, h1, h2⟩ := h.shape0
  have HV := Lib.hid (fun W => rnvalid_ok x a cap W hok)
  have HEn := Lib.hid (show nenc x = [78, 165, if x.del then 1 else 0, 0] ++ be x.ck 4 ++ be x.key 8 ++ be x.data.length 4 ++ x.data ++ ck ([78, 165, if x.del then 1 else 0, 0] ++ be x.ck 4 ++ be x.key 8 ++ be x.data.length 4 ++ x.data) ++ zeros (nsz x.data.length - (24 + x.data.length)) from rfl)
  have hszb := nsz_bounds x.data.length
  obtain ⟨k, c, d, l⟩ := x
  obtain ⟨hl, hdl⟩ := hok
  obtain ⟨hk, hc⟩ := hwf
  dsimp only at *
  have HSz := Lib.hid (fun W => rsize_any l.length W (by omega))
  rw [szN_of hl] at HSz
  have j1 : IntKind.u64.wrap (c : Int) = (c : Int) := IntWalk.u64_in _ (by omega)
  have j2 : IntKind.u64.wrap (l.length : Int) = (l.length : Int) := IntWalk.u64_in _ (by omega)
  have d1 : decide ((4096 : Int) < (l.length : Int)) = false := by simp; omega
  have HN1 := Lib.hid (rnum4 c (by omega))
  have HN2 := Lib.hid (rnum8 k (by omega))
  have HN3 := Lib.hid (rnum4 l.length (by omega))
  have Hw0 := Lib.hid h
  have HB0 := Lib.hid (show Below w.heap.size w (w.alloc (.cells #[.int .u64 (k : Int), .int .u32 (c : Int), .bool d, .slice a l.length cap] 72)) from (Below.refl _ _).alloc (Nat.le_refl _) _)
  clear h
  generalize hn : l.length = n at *
  have HL := Lib.hid hn
  clear hn
  cases d
  · have HEn := Lib.hid (show nenc ⟨k, c, false, l⟩ = (([78, 165, 0, 0] ++ be c 4 ++ be k 8 ++ be n 4) ++ l ++ ck (([78, 165, 0, 0] ++ be c 4 ++ be k 8 ++ be n 4) ++ l)) ++ zeros (nsz n - (24 + n)) from HEn.out)
    go_enter Tryz.func30, Tryz.ntmps30
    go_wp2_with fail
    refine (HV.out _).mono ?_; rintro e w1 ⟨rfl, hb1⟩
    have hz1 : w.heap.size + 1 ≤ w1.heap.size := Nat.le_trans (by simp) hb1.size
    have HC := Lib.hid (fun w' (h : Below w1.heap.size w1 w') => show w'.cell? ⟨w.heap.size, 0, none⟩ = some (.int .u64 (k : Int)) ∧ w'.cell? ⟨w.heap.size, 1, none⟩ = some (.int .u32 (c : Int)) ∧ w'.cell? ⟨w.heap.size, 2, none⟩ = some (.bool false) ∧ w'.cell? ⟨w.heap.size, 3, none⟩ = some (.slice a n cap) from
      ⟨Below.keeps h _ _ (Below.keeps hb1 _ _ (by simp)), Below.keeps h _ _ (Below.keeps hb1 _ _ (by simp)), Below.keeps h _ _ (Below.keeps hb1 _ _ (by simp)), Below.keeps h _ _ (Below.keeps hb1 _ _ (by simp))⟩)
    have HB1 := Lib.hid (bstep HB0.out hb1)
    have HBa := Lib.hid (show Below w1.heap.size w1 (w1.alloc (.cells #[.int .u8 78, .int .u8 165, .int .u8 0, .int .u8 0] 5)) from (Below.refl _ _).alloc (Nat.le_refl _) _)
    have HOa := Lib.hid (head_own w1)
    obtain ⟨y0, y1, y2, y3⟩ := HC.out _ HBa.out
    clear hb1 HV HB0
    go_wp2_with fail
    clear y0 y1 y2 y3
    generalize w1.alloc (.cells #[.int .u8 78, .int .u8 165, .int .u8 0, .int .u8 0] 5) = wa at *
    generalize hH : ([78, 165, 0, 0] : List UInt8) = H at *
    have hHl : H.length = 4 := by rw [← hH]; rfl
    clear hH
    have HOa := Lib.hid (show wa.ownsRow w1.heap.size 5 1 (.slice (some ⟨w1.heap.size, 0, none⟩) 4 4) 4 (H.map byteV) by have := HOa.out; unfold OwnB at this; rw [hHl] at this; exact this)
    clear hHl
    refine (HN1.out _).mono ?_; rintro e wb ⟨vb, rfl, hown, hb⟩
    have HOb := Lib.hid (own_keep HOa.out hb)
    have HBb := Lib.hid (bstep HBa.out hb)
    have hsb := HBb.out.size
    have HRb := Lib.hid (show Rd wb 1 vb 4 ((be c 4).map byteV) by have := hown.rd; unfold RdB RdL at this; rw [be_length] at this; exact this)
    clear hown hb HOa HBa
    go_wp2_with (at_builtin; go_must (refine wpList_app (n := 4) (m := 4) rfl (.tmp 17) (.tmp 21) 66 rfl elemB w1.heap.size rfl HOb.out rfl HRb.out (bytes_one _) (by decide) (by decide) hsb ?_); intro v2 w2 hown2 hgr2 hv2; clear hv2; rw [← List.map_append] at hown2; have HO2 := Lib.hid hown2; have HB2 := Lib.hid (own_below HBb.out HOb.out hsb hgr2); obtain ⟨y0, y1, y2, y3⟩ := HC.out _ HB2.out; clear hown2 hgr2 HOb HBb hsb HRb; generalize H ++ be c 4 = H2 at *)
    clear y0 y1 y2 y3
    refine (HN2.out _).mono ?_; rintro e wb ⟨vb, rfl, hown, hb⟩
    have HOb := Lib.hid (own_keep HO2.out hb)
    have HBb := Lib.hid (bstep HB2.out hb)
    have hsb := HBb.out.size
    have HRb := Lib.hid (show Rd wb 1 vb 8 ((be k 8).map byteV) by have := hown.rd; unfold RdB RdL at this; rw [be_length] at this; exact this)
    clear hown hb HO2 HB2
    go_wp2_with (at_builtin; go_must (refine wpList_app (n := 8) (m := 8) rfl (.tmp 23) (.tmp 26) 66 rfl elemB w1.heap.size rfl HOb.out rfl HRb.out (bytes_one _) (by decide) (by decide) hsb ?_); intro v3 w3 hown3 hgr3 hv3; clear hv3; rw [← List.map_append] at hown3; have HO3 := Lib.hid hown3; have HB3 := Lib.hid (own_below HBb.out HOb.out hsb hgr3); obtain ⟨y0, y1, y2, y3⟩ := HC.out _ HB3.out; clear hown3 hgr3 HOb HBb hsb HRb; generalize H2 ++ be k 8 = H3 at *)
    clear y0 y1 y2 y3
    refine (HN3.out _).mono ?_; rintro e wb ⟨vb, rfl, hown, hb⟩
    have HOb := Lib.hid (own_keep HO3.out hb)
    have HBb := Lib.hid (bstep HB3.out hb)
    have hsb := HBb.out.size
    have HRb := Lib.hid (show Rd wb 1 vb 4 ((be n 4).map byteV) by have := hown.rd; unfold RdB RdL at this; rw [be_length] at this; exact this)
    clear hown hb HO3 HB3
    go_wp2_with (first | (at_builtin; refine wpList_app (n := 16) (m := 4) rfl (.tmp 28) (.tmp 33) 66 rfl elemB w1.heap.size rfl HOb.out rfl HRb.out (bytes_one _) (by decide) (by decide) hsb ?_; intro v4 w4 hown4 hgr4 hv4; clear hv4; rw [← List.map_append] at hown4; have HO4 := Lib.hid hown4; have HB4 := Lib.hid (own_below HBb.out HOb.out hsb hgr4); have hs4 := HB4.out.size; obtain ⟨y0, y1, y2, y3⟩ := HC.out _ HB4.out; clear hown4 hgr4 HOb HBb hsb HRb; generalize H3 ++ be n 4 = H4 at *; have HR4 := Lib.hid (show Rd w4 1 (.slice a n cap) n (l.map byteV) by have := RdL.below Hw0.out (HB1.out.trans (HB4.out.mono (by omega))); unfold RdB RdL at this; rw [HL.out] at this; exact this); ) | (at_builtin; refine wpList_app (n := 20) (m := n) rfl (.tmp 35) (.tmp 37) 66 rfl elemB w1.heap.size rfl HO4.out (by rfl) HR4.out (bytes_one _) (by unfold maxLen; omega) (by omega) hs4 ?_; intro v5 w5 hown5 hgr5 hv5; clear hv5; clear y0 y1 y2 y3; rw [← List.map_append] at hown5; have HO5 := Lib.hid hown5; have HB5 := Lib.hid (own_below HB4.out HO4.out hs4 hgr5); have hs5 := HB5.out.size; clear hown5 hgr5 HO4 HB4 hs4 HR4; generalize H4 ++ l = H5 at *))
    refine (rcheck_any v5 H5 w5 (own_rdl HO5.out)).mono ?_; rintro e wb ⟨vb, rfl, hown, hb⟩
    have HOb := Lib.hid (own_keep HO5.out hb)
    have HBb := Lib.hid (bstep HB5.out hb)
    have hsb := HBb.out.size
    have HRb := Lib.hid (show Rd wb 1 vb 4 ((ck H5).map byteV) from hown.rd)
    clear hown hb HO5 HB5
    go_wp2_with (at_builtin; go_must (refine wpList_app (n := 20 + n) (m := 4) rfl (.tmp 39) (.tmp 41) 66 rfl elemB w1.heap.size rfl HOb.out rfl HRb.out (bytes_one _) (by unfold maxLen; omega) (by omega) hsb ?_); intro v6 w6 hown6 hgr6 hv6; clear hv6; rw [← List.map_append] at hown6; have HO6 := Lib.hid hown6; have HB6 := Lib.hid (own_below HBb.out HOb.out hsb hgr6); clear hown6 hgr6 HOb HBb hsb HRb hs5; generalize H5 ++ ck H5 = H6 at *; generalize nsz n = S at *)
    go_loopw [4] (fun ov W => ∃ m : Nat, 24 + n ≤ m ∧ m ≤ S ∧ Hid (W.ownsRow w1.heap.size 5 1 ov m ((H6 ++ zeros (m - (24 + n))).map byteV)) ∧ Hid (Below w1.heap.size w1 W)) (fun ov _ => S - slen ov)
    case atStart => exact ⟨24 + n, Nat.le_refl _, by omega, Lib.hid (by rw [Nat.sub_self, show 24 + n = 20 + n + 4 by omega]; simpa [zeros] using HO6.out), HB6⟩
    case round =>
      obtain ⟨m, hm1, hm2, HO, HB⟩ := hrel
      obtain ⟨oa, oc, hv, _⟩ := own_form HO.out
      subst hv
      obtain ⟨y0, y1, y2, y3⟩ := HC.out _ HB.out
      have hsw := HB.out.size
      go_wp2_with fail
      refine (HSz.out _).mono ?_; rintro e wx ⟨rfl, rfl⟩
      clear y0 y1 y2 y3
      by_cases hlt : m < S
      · have q1 : decide (m < S) = true := decide_eq_true hlt
        go_wp2_with (at_builtin; go_must (refine wpList_app (n := m) (m := 1) rfl (.tmp 50) (.tmp 51) 66 rfl elemB w1.heap.size rfl (own_keep HO.out ((Below.refl _ _).alloc (Nat.le_refl _) _)) rfl (rd_byte _ 0 5) (bytes_one _) (by unfold maxLen; omega) (by omega) (by simp; omega) ?_); intro v7 w7 hown7 hgr7 hv7; clear hv7)
        have HG := Lib.hid (own_below (bstep HB.out ((Below.refl _ _).alloc (Nat.le_refl _) (.cells #[.int .u8 0] 5))) (own_keep HO.out ((Below.refl _ _).alloc (Nat.le_refl _) _)) (by simp; omega) hgr7)
        have HO7 := Lib.hid (show w7.ownsRow w1.heap.size 5 1 v7 (m + 1) ((H6 ++ zeros (m + 1 - (24 + n))).map byteV) by
          rw [show m + 1 - (24 + n) = (m - (24 + n)) + 1 by omega, show zeros ((m - (24 + n)) + 1) = zeros (m - (24 + n)) ++ [0] from List.replicate_succ', ← List.append_assoc, List.map_append]
          exact hown7)
        obtain ⟨oa7, oc7, hv7, _⟩ := own_form HO7.out
        subst hv7
        clear hown7 hgr7
        go_wp2_with fail
        exact ⟨⟨m + 1, by omega, by omega, HO7, HG⟩, by simp [slen]; omega⟩
      · obtain rfl : m = S := by omega
        have q1 : decide (m < m) = false := decide_eq_false hlt
        have HF := Lib.hid (Go.Joins.ownsRow_le HO.out (show w.heap.size ≤ w1.heap.size by omega))
        have HG := Lib.hid (HB1.out.trans (HB.out.mono (by omega)))
        go_wp2_with fail
        go_ret2
        exact ⟨_, rfl, by rw [HEn.out]; exact ownB_of HF.out rfl, HG.out⟩
  · have HEn := Lib.hid (show nenc ⟨k, c, true, l⟩ = (([78, 165, 1, 0] ++ be c 4 ++ be k 8 ++ be n 4) ++ l ++ ck (([78, 165, 1, 0] ++ be c 4 ++ be k 8 ++ be n 4) ++ l)) ++ zeros (nsz n - (24 + n)) from HEn.out)
    go_enter Tryz.func30, Tryz.ntmps30
    go_wp2_with fail
    refine (HV.out _).mono ?_; rintro e w1 ⟨rfl, hb1⟩
    have hz1 : w.heap.size + 1 ≤ w1.heap.size := Nat.le_trans (by simp) hb1.size
    have HC := Lib.hid (fun w' (h : Below w1.heap.size w1 w') => show w'.cell? ⟨w.heap.size, 0, none⟩ = some (.int .u64 (k : Int)) ∧ w'.cell? ⟨w.heap.size, 1, none⟩ = some (.int .u32 (c : Int)) ∧ w'.cell? ⟨w.heap.size, 2, none⟩ = some (.bool true) ∧ w'.cell? ⟨w.heap.size, 3, none⟩ = some (.slice a n cap) from
      ⟨Below.keeps h _ _ (Below.keeps hb1 _ _ (by simp)), Below.keeps h _ _ (Below.keeps hb1 _ _ (by simp)), Below.keeps h _ _ (Below.keeps hb1 _ _ (by simp)), Below.keeps h _ _ (Below.keeps hb1 _ _ (by simp))⟩)
    have HB1 := Lib.hid (bstep HB0.out hb1)
    have HBa := Lib.hid (show Below w1.heap.size w1 (w1.alloc (.cells #[.int .u8 78, .int .u8 165, .int .u8 1, .int .u8 0] 5)) from (Below.refl _ _).alloc (Nat.le_refl _) _)
    have HOa := Lib.hid (head_own1 w1)
    obtain ⟨x0, x1, x2, x3⟩ := HC.out _ ((Below.refl w1.heap.size w1).alloc (Nat.le_refl _) (.cells #[.int .u8 78, .int .u8 165, .int .u8 0, .int .u8 0] 5))
    obtain ⟨y0, y1, y2, y3⟩ := HC.out _ HBa.out
    clear hb1 HV HB0
    go_wp2_with fail
    clear x0 x1 x2 x3 y0 y1 y2 y3
    generalize w1.alloc (.cells #[.int .u8 78, .int .u8 165, .int .u8 1, .int .u8 0] 5) = wa at *
    generalize hH : ([78, 165, 1, 0] : List UInt8) = H at *
    have hHl : H.length = 4 := by rw [← hH]; rfl
    clear hH
    have HOa := Lib.hid (show wa.ownsRow w1.heap.size 5 1 (.slice (some ⟨w1.heap.size, 0, none⟩) 4 4) 4 (H.map byteV) by have := HOa.out; unfold OwnB at this; rw [hHl] at this; exact this)
    clear hHl
    refine (HN1.out _).mono ?_; rintro e wb ⟨vb, rfl, hown, hb⟩
    have HOb := Lib.hid (own_keep HOa.out hb)
    have HBb := Lib.hid (bstep HBa.out hb)
    have hsb := HBb.out.size
    have HRb := Lib.hid (show Rd wb 1 vb 4 ((be c 4).map byteV) by have := hown.rd; unfold RdB RdL at this; rw [be_length] at this; exact this)
    clear hown hb HOa HBa
    go_wp2_with (at_builtin; go_must (refine wpList_app (n := 4) (m := 4) rfl (.tmp 17) (.tmp 21) 66 rfl elemB w1.heap.size rfl HOb.out rfl HRb.out (bytes_one _) (by decide) (by decide) hsb ?_); intro v2 w2 hown2 hgr2 hv2; clear hv2; rw [← List.map_append] at hown2; have HO2 := Lib.hid hown2; have HB2 := Lib.hid (own_below HBb.out HOb.out hsb hgr2); obtain ⟨y0, y1, y2, y3⟩ := HC.out _ HB2.out; clear hown2 hgr2 HOb HBb hsb HRb; generalize H ++ be c 4 = H2 at *)
    clear y0 y1 y2 y3
    refine (HN2.out _).mono ?_; rintro e wb ⟨vb, rfl, hown, hb⟩
    have HOb := Lib.hid (own_keep HO2.out hb)
    have HBb := Lib.hid (bstep HB2.out hb)
    have hsb := HBb.out.size
    have HRb := Lib.hid (show Rd wb 1 vb 8 ((be k 8).map byteV) by have := hown.rd; unfold RdB RdL at this; rw [be_length] at this; exact this)
    clear hown hb HO2 HB2
    go_wp2_with (at_builtin; go_must (refine wpList_app (n := 8) (m := 8) rfl (.tmp 23) (.tmp 26) 66 rfl elemB w1.heap.size rfl HOb.out rfl HRb.out (bytes_one _) (by decide) (by decide) hsb ?_); intro v3 w3 hown3 hgr3 hv3; clear hv3; rw [← List.map_append] at hown3; have HO3 := Lib.hid hown3; have HB3 := Lib.hid (own_below HBb.out HOb.out hsb hgr3); obtain ⟨y0, y1, y2, y3⟩ := HC.out _ HB3.out; clear hown3 hgr3 HOb HBb hsb HRb; generalize H2 ++ be k 8 = H3 at *)
    clear y0 y1 y2 y3
    refine (HN3.out _).mono ?_; rintro e wb ⟨vb, rfl, hown, hb⟩
    have HOb := Lib.hid (own_keep HO3.out hb)
    have HBb := Lib.hid (bstep HB3.out hb)
    have hsb := HBb.out.size
    have HRb := Lib.hid (show Rd wb 1 vb 4 ((be n 4).map byteV) by have := hown.rd; unfold RdB RdL at this; rw [be_length] at this; exact this)
    clear hown hb HO3 HB3
    go_wp2_with (first | (at_builtin; refine wpList_app (n := 16) (m := 4) rfl (.tmp 28) (.tmp 33) 66 rfl elemB w1.heap.size rfl HOb.out rfl HRb.out (bytes_one _) (by decide) (by decide) hsb ?_; intro v4 w4 hown4 hgr4 hv4; clear hv4; rw [← List.map_append] at hown4; have HO4 := Lib.hid hown4; have HB4 := Lib.hid (own_below HBb.out HOb.out hsb hgr4); have hs4 := HB4.out.size; obtain ⟨y0, y1, y2, y3⟩ := HC.out _ HB4.out; clear hown4 hgr4 HOb HBb hsb HRb; generalize H3 ++ be n 4 = H4 at *; have HR4 := Lib.hid (show Rd w4 1 (.slice a n cap) n (l.map byteV) by have := RdL.below Hw0.out (HB1.out.trans (HB4.out.mono (by omega))); unfold RdB RdL at this; rw [HL.out] at this; exact this); ) | (at_builtin; refine wpList_app (n := 20) (m := n) rfl (.tmp 35) (.tmp 37) 66 rfl elemB w1.heap.size rfl HO4.out (by rfl) HR4.out (bytes_one _) (by unfold maxLen; omega) (by omega) hs4 ?_; intro v5 w5 hown5 hgr5 hv5; clear hv5; clear y0 y1 y2 y3; rw [← List.map_append] at hown5; have HO5 := Lib.hid hown5; have HB5 := Lib.hid (own_below HB4.out HO4.out hs4 hgr5); have hs5 := HB5.out.size; clear hown5 hgr5 HO4 HB4 hs4 HR4; generalize H4 ++ l = H5 at *))
    refine (rcheck_any v5 H5 w5 (own_rdl HO5.out)).mono ?_; rintro e wb ⟨vb, rfl, hown, hb⟩
    have HOb := Lib.hid (own_keep HO5.out hb)
    have HBb := Lib.hid (bstep HB5.out hb)
    have hsb := HBb.out.size
    have HRb := Lib.hid (show Rd wb 1 vb 4 ((ck H5).map byteV) from hown.rd)
    clear hown hb HO5 HB5
    go_wp2_with (at_builtin; go_must (refine wpList_app (n := 20 + n) (m := 4) rfl (.tmp 39) (.tmp 41) 66 rfl elemB w1.heap.size rfl HOb.out rfl HRb.out (bytes_one _) (by unfold maxLen; omega) (by omega) hsb ?_); intro v6 w6 hown6 hgr6 hv6; clear hv6; rw [← List.map_append] at hown6; have HO6 := Lib.hid hown6; have HB6 := Lib.hid (own_below HBb.out HOb.out hsb hgr6); clear hown6 hgr6 HOb HBb hsb HRb hs5; generalize H5 ++ ck H5 = H6 at *; generalize nsz n = S at *)
    go_loopw [4] (fun ov W => ∃ m : Nat, 24 + n ≤ m ∧ m ≤ S ∧ Hid (W.ownsRow w1.heap.size 5 1 ov m ((H6 ++ zeros (m - (24 + n))).map byteV)) ∧ Hid (Below w1.heap.size w1 W)) (fun ov _ => S - slen ov)
    case atStart => exact ⟨24 + n, Nat.le_refl _, by omega, Lib.hid (by rw [Nat.sub_self, show 24 + n = 20 + n + 4 by omega]; simpa [zeros] using HO6.out), HB6⟩
    case round =>
      obtain ⟨m, hm1, hm2, HO, HB⟩ := hrel
      obtain ⟨oa, oc, hv, _⟩ := own_form HO.out
      subst hv
      obtain ⟨y0, y1, y2, y3⟩ := HC.out _ HB.out
      have hsw := HB.out.size
      go_wp2_with fail
      refine (HSz.out _).mono ?_; rintro e wx ⟨rfl, rfl⟩
      clear y0 y1 y2 y3
      by_cases hlt : m < S
      · have q1 : decide (m < S) = true := decide_eq_true hlt
        go_wp2_with (at_builtin; go_must (refine wpList_app (n := m) (m := 1) rfl (.tmp 50) (.tmp 51) 66 rfl elemB w1.heap.size rfl (own_keep HO.out ((Below.refl _ _).alloc (Nat.le_refl _) _)) rfl (rd_byte _ 0 5) (bytes_one _) (by unfold maxLen; omega) (by omega) (by simp; omega) ?_); intro v7 w7 hown7 hgr7 hv7; clear hv7)
        have HG := Lib.hid (own_below (bstep HB.out ((Below.refl _ _).alloc (Nat.le_refl _) (.cells #[.int .u8 0] 5))) (own_keep HO.out ((Below.refl _ _).alloc (Nat.le_refl _) _)) (by simp; omega) hgr7)
        have HO7 := Lib.hid (show w7.ownsRow w1.heap.size 5 1 v7 (m + 1) ((H6 ++ zeros (m + 1 - (24 + n))).map byteV) by
          rw [show m + 1 - (24 + n) = (m - (24 + n)) + 1 by omega, show zeros ((m - (24 + n)) + 1) = zeros (m - (24 + n)) ++ [0] from List.replicate_succ', ← List.append_assoc, List.map_append]
          exact hown7)
        obtain ⟨oa7, oc7, hv7, _⟩ := own_form HO7.out
        subst hv7
        clear hown7 hgr7
        go_wp2_with fail
        exact ⟨⟨m + 1, by omega, by omega, HO7, HG⟩, by simp [slen]; omega⟩
      · obtain rfl : m = S := by omega
        have q1 : decide (m < m) = false := decide_eq_false hlt
        have HF := Lib.hid (Go.Joins.ownsRow_le HO.out (show w.heap.size ≤ w1.heap.size by omega))
        have HG := Lib.hid (HB1.out.trans (HB.out.mono (by omega)))
        go_wp2_with fail
        go_ret2
        exact ⟨_, rfl, by rw [HEn.out]; exact ownB_of HF.out rfl, HG.out⟩
end Go.Proofs.YthomhflkldhdaaaGreatDoor

namespace Go.Proofs.YthomhflkldhdaaaGreatDoor
open Go.RowKit

/-- What is salvaged of a file. -/
def salvF (b : List UInt8) : List Rec := salv (b.length + 1) b 16
/-- The search under way. -/
structure AccS (b : List UInt8) (L : List Rec) (es : List (Rec × Value)) (p : Nat) : Prop where
  ex : ∃ f, b.length < p + f ∧ es.map (·.1) ++ salv f b p = L
  le : p ≤ b.length + 16
  n : es.length * 24 ≤ p
theorem AccS.start (b : List UInt8) : AccS b (salvF b) [] 16 := ⟨⟨b.length + 1, by omega, rfl⟩, by omega, by simp⟩
theorem AccS.done {b : List UInt8} {L : List Rec} {p : Nat} {es : List (Rec × Value)} (h : AccS b L es p) (hd : b.length ≤ p) : es.map (·.1) = L := by
  obtain ⟨f, _, h1⟩ := h.ex
  rw [salv_end hd] at h1
  simpa using h1
theorem AccS.miss {b : List UInt8} {L : List Rec} {p : Nat} {es : List (Rec × Value)} (h : AccS b L es p) (hp : p < b.length) (hd : (ndec (b.drop p)).1 ≠ 0) : AccS b L es (p + 8) := by
  obtain ⟨f, h0, h1⟩ := h.ex
  obtain ⟨g, rfl⟩ : ∃ g, f = g + 1 := ⟨f - 1, by omega⟩
  rw [salv_miss hp hd] at h1
  exact ⟨⟨g, by omega, h1⟩, by omega, by have := h.n; omega⟩
theorem AccS.hit {b : List UInt8} {L : List Rec} {p : Nat} {es : List (Rec × Value)} (h : AccS b L es p) (hp : p < b.length) (hd : (ndec (b.drop p)).1 = 0) (v : Value) : AccS b L (es ++ [(⟨p, (ndec (b.drop p)).2.1⟩, v)]) (p + (ndec (b.drop p)).2.2) := by
  obtain ⟨f, h0, h1⟩ := h.ex
  have hs := ndec_size hd
  rw [List.length_drop] at hs
  have hn := h.n
  obtain ⟨g, rfl⟩ : ∃ g, f = g + 1 := ⟨f - 1, by omega⟩
  rw [salv_hit hp hd] at h1
  refine ⟨⟨g, by omega, ?_⟩, by omega, by rw [List.length_append]; simp; omega⟩
  rw [← h1]; simp
end Go.Proofs.YthomhflkldhdaaaGreatDoor

namespace Go.Proofs.YthomhflkldhdaaaGreatDoor
open Go.RowKit

set_option maxRecDepth 100000 in
set_option maxHeartbeats 4000000 in
theorem records_any (v : Value) (b : List UInt8) (w : World) (h : RdB w v b) (hs : b.length ≤ 1000000) (h16 : 16 ≤ b.length) : Calls Tryz.prog 80 #[v, .int .i64 16] w fun e w' =>
    (∃ lv es, e = .returned (.tuple #[lv, .int .i64 ((recs (b.length + 1) b 16).2 : Int)]) ∧ OwnR w' w.heap.size 133 lv es ∧ es.map (·.1) = (recs (b.length + 1) b 16).1) ∧ Below w.heap.size w w' := by
  obtain ⟨a, cap, rfl, h1, h2⟩ := h.shape0
  have h3 := lt63 h1 h2
  have Hw0 := Lib.hid h
  clear h
  have HA := Lib.hid (Acc.start h16)
  generalize (recs (b.length + 1) b 16).1 = L at *
  generalize (recs (b.length + 1) b 16).2 = E at *
  go_enter Tryz.func80, Tryz.ntmps80
  go_wp2_with fail
  go_loopw [6, 1] (fun lv pv W => ∃ (es : List (Rec × Value)) (p : Nat), pv = .int .i64 (p : Int) ∧ Hid (OwnR W w.heap.size 133 lv es) ∧ Hid (Acc b L E es p) ∧ Hid (Below w.heap.size w W)) (fun _ pv _ => b.length + 1 - (intOf pv).toNat)
  case atStart => exact ⟨[], 16, rfl, Lib.hid (OwnR.nil _ _ _), HA, Lib.hid (Below.refl _ _)⟩
  case round =>
    obtain ⟨es, p, rfl, HO, HAc, HBl⟩ := hrel
    have hp := HAc.out.le
    have i1 : (p : Int) ≤ (b.length : Int) := by omega
    obtain ⟨x1, y1, g1, r1⟩ := RdL.from_ (P := Tryz.prog) elemB (RdL.below Hw0.out HBl.out) p (by omega)
    have HN := Lib.hid (rdecode_any _ _ _ r1 (by rw [List.length_drop]; omega))
    clear r1
    go_wp2_with fail
    refine HN.out.mono ?_; rintro e w2 ⟨⟨dv, rfl, hown⟩, hb2⟩
    have HO2 := Lib.hid (HO.out.keep hb2)
    have hs2 : w.heap.size ≤ w2.heap.size := Nat.le_trans HBl.out.size hb2.size
    have hsr : w.heap.size ≤ wr.heap.size := HBl.out.size
    have HBl2 := Lib.hid (bstep HBl.out hb2)
    have HSz := Lib.hid (fun h => ndec_size (b := b.drop p) h)
    clear HN HO HBl hb2
    by_cases hd : (ndec (b.drop p)).1 = 0
    · have HS := Lib.hid (HAc.out.step hd)
      have hz := HSz.out hd
      rw [List.length_drop] at hz
      clear HSz
      have hn := HAc.out.n
      generalize ndec (b.drop p) = D at *
      obtain ⟨r, x, n⟩ := D
      dsimp only at hd hown hz HS
      subst hd
      obtain ⟨oa, oc, hv, _⟩ := own_form hown
      subst hv
      have HDt := Lib.hid (World.ownsRow.mono (show OwnB w2 wr.heap.size (.slice oa x.data.length oc) x.data from hown) hsr)
      have hpn : IntKind.i64.wrap ((p : Int) + (n : Int)) = ((p + n : Nat) : Int) := (IntWalk.i64_in _ (by omega)).trans (by omega)
      obtain ⟨la, lc, hv, _⟩ := own_form HO2.out.row
      subst hv
      clear hown
      have HBV := Lib.hid (show Below w2.heap.size w2 ((w2.alloc (.cells #[.int .u64 (x.key : Int), .int .u32 (x.ck : Int), .bool x.del, .slice oa x.data.length oc] 72)).alloc (.cells (recC (⟨(p : Int), x⟩, .slice oa x.data.length oc)).toArray 133)) from ((Below.refl _ _).alloc (Nat.le_refl _) _).alloc (by simp) _)
      go_wp2_with (at_builtin; go_must (refine wpList_app (m := 1) rfl (.tmp 24) (.tmp 28) 74 rfl elemRR w.heap.size rfl (own_keep HO2.out.row (((Below.refl _ _).alloc (Nat.le_refl _) _).alloc (by simp) _)) (by rfl) (Rd.newK (w2.heap.size + 1) (w2.alloc (.cells #[.int .u64 (x.key : Int), .int .u32 (x.ck : Int), .bool x.del, .slice oa x.data.length oc] 72)) (by simp) 5 (recC (⟨p, x⟩, .slice oa x.data.length oc)) 133 1 rfl (by decide)) (rec_one _ _ _ _) (by unfold maxLen; omega) (by omega) (by simp; omega) ?_); intro v4 w4 hown4 hgr4 hv4; clear hv4)
      have HG := Lib.hid (show World.grownBy ((w2.alloc (.cells #[.int .u64 (x.key : Int), .int .u32 (x.ck : Int), .bool x.del, .slice oa x.data.length oc] 72)).alloc (.cells (recC (⟨(p : Int), x⟩, .slice oa x.data.length oc)).toArray 133)) w4 (Value.slice la es.length lc).ownBlock from hgr4)
      clear hgr4
      generalize (w2.alloc (.cells #[.int .u64 (x.key : Int), .int .u32 (x.ck : Int), .bool x.del, .slice oa x.data.length oc] 72)).alloc (.cells (recC (⟨(p : Int), x⟩, .slice oa x.data.length oc)).toArray 133) = V at HBV HG
      have hsV : w.heap.size ≤ V.heap.size := Nat.le_trans hs2 HBV.out.size
      have hb4 := own_below (Below.refl w.heap.size V) (HO2.out.keep HBV.out).row hsV HG.out
      have HBl4 := Lib.hid (HBl2.out.trans ((HBV.out.mono (by omega)).trans hb4))
      have HO4 := Lib.hid ((HO2.out.keep HBV.out).snoc (q := (⟨(p : Int), x⟩, .slice oa x.data.length oc)) (own_keep HDt.out HBV.out) (by decide) hown4 HG.out)
      have HAc4 := Lib.hid (HS.out (.slice oa x.data.length oc))
      clear hown4
      go_wp2_with fail
      exact ⟨⟨_, p + n, by rw [Int.natCast_add], HO4, HAc4, HBl4⟩, by simp [intOf]; omega⟩
    · obtain ⟨HL, HE⟩ := HAc.out.done hd
      have hd' : ((ndec (b.drop p)).1 != 0) = true := bne_iff_ne.2 hd
      clear HSz
      generalize ndec (b.drop p) = D at *
      obtain ⟨r, x, n⟩ := D
      dsimp only at hd hown hd'
      obtain ⟨oa, oc, hv, _⟩ := own_form hown
      subst hv
      clear hown
      have HBV := Lib.hid (show Below w2.heap.size w2 (w2.alloc (.cells #[.int .u64 (x.key : Int), .int .u32 (x.ck : Int), .bool x.del, .slice oa x.data.length oc] 72)) from (Below.refl _ _).alloc (Nat.le_refl _) _)
      have HL := Lib.hid HL
      subst HE
      go_wp2_with fail
      exact bodyPost_ret (v := .tuple #[u6, .int .i64 (p : Int)]) (by simp [results, Tryz.results80, go_sem]) rfl ⟨⟨_, es, rfl, HO2.out.keep HBV.out, HL.out⟩, bstep HBl2.out HBV.out⟩
set_option maxRecDepth 100000 in
set_option maxHeartbeats 4000000 in
theorem ropen_any (v : Value) (b : List UInt8) (w : World) (h : RdB w v b) (hs : b.length ≤ 1000000) : Calls Tryz.prog 31 #[v] w fun e w' =>
    (∃ lv es, e = .returned (.tuple #[supV (openF b).2.1, lv, .int .i64 ((openF b).2.2.2 : Int), .int .i64 (openF b).1]) ∧ OwnR w' w.heap.size 133 lv es ∧ es.map (·.1) = (openF b).2.2.1) ∧ Below w.heap.size w w' := by
  obtain ⟨a, cap, rfl, h1, h2⟩ := h.shape0
  have h3 := lt63 h1 h2
  have Hw0 := Lib.hid h
  have HBZ := Lib.hid (show Below w.heap.size w (w.alloc zeroS) from (Below.refl _ _).alloc (Nat.le_refl _) _)
  have HD := Lib.hid (fun W h => rsdecode_any (.slice a b.length cap) b W h hs)
  clear h
  by_cases h0 : (sdec b).1 = 0
  · have HF := Lib.hid (show openF b = (0, (sdec b).2, (recs (b.length + 1) b 16).1, (recs (b.length + 1) b 16).2) by unfold openF; rw [if_pos h0])
    have HR := Lib.hid (fun W h => records_any (.slice a b.length cap) b W h hs (sdec_long h0))
    generalize (recs (b.length + 1) b 16).1 = L at *
    generalize (recs (b.length + 1) b 16).2 = E at *
    go_enter Tryz.func31, Tryz.ntmps31
    go_wp2_with fail
    refine (HD.out _ (RdL.below Hw0.out HBZ.out)).mono ?_; rintro e w1 ⟨rfl, hb1⟩
    have Z0 : w1.cell? ⟨w.heap.size, 0, none⟩ = some (.int .i64 0) := Below.keeps hb1 _ _ (by simp)
    have Z1 : w1.cell? ⟨w.heap.size, 1, none⟩ = some (.int .i64 0) := Below.keeps hb1 _ _ (by simp)
    have Z2 : w1.cell? ⟨w.heap.size, 2, none⟩ = some (.int .i64 0) := Below.keeps hb1 _ _ (by simp)
    have ZF := fun i => (hb1.frozen (p := ⟨w.heap.size, i, none⟩) (by simp)).trans (show (w.alloc zeroS).frozen? ⟨w.heap.size, i, none⟩ = false by simp)
    have HBx := Lib.hid (show BoxS w1 w.heap.size sup0 from ⟨Z0, Z1, Z2, ZF⟩)
    have HB1 := Lib.hid (bstep HBZ.out hb1)
    have hk1 : w.heap.size < w1.heap.size := World.block_lt_of_cell? _ _ Z0
    clear hb1 Z0 Z1 Z2 ZF
    generalize sdec b = R at *
    obtain ⟨r, s⟩ := R
    dsimp only at h0 HF
    subst h0
    have HBa := Lib.hid (show Below w1.heap.size w1 (w1.alloc (.cells #[.int .i64 (s.slot : Int), .int .i64 (s.gen : Int), .int .i64 (s.rev : Int)] 70)) from (Below.refl _ _).alloc (Nat.le_refl _) _)
    have HR1 := Lib.hid (RdL.below Hw0.out (bstep HB1.out HBa.out))
    go_wp2_with fail
    refine (HR.out _ HR1.out).mono ?_; rintro e w2 ⟨⟨lv, es, rfl, hown, hes⟩, hb2⟩
    have HB2 := Lib.hid (bstep (bstep HB1.out HBa.out) hb2)
    have HO2 := Lib.hid (hown.lower (show w.heap.size + 1 ≤ _ from Nat.le_trans hk1 HBa.out.size))
    have HBx2 := Lib.hid ((HBx.out.keep hk1 HBa.out (Nat.le_refl _)).keep (Nat.lt_of_lt_of_le hk1 HBa.out.size) hb2 (Nat.le_refl _))
    have S0 : w2.cell? ⟨w1.heap.size, 0, none⟩ = some (.int .i64 (s.slot : Int)) := Below.keeps hb2 _ _ (by simp)
    have S1 : w2.cell? ⟨w1.heap.size, 1, none⟩ = some (.int .i64 (s.gen : Int)) := Below.keeps hb2 _ _ (by simp)
    have S2 : w2.cell? ⟨w1.heap.size, 2, none⟩ = some (.int .i64 (s.rev : Int)) := Below.keeps hb2 _ _ (by simp)
    have X0 := HBx2.out.c0
    have X1 := HBx2.out.c1
    have X2 := HBx2.out.c2
    have F0 := HBx2.out.f 0
    have F1 := HBx2.out.f 1
    have F2 := HBx2.out.f 2
    have Hes := Lib.hid hes
    clear hes hb2 hown HR HD
    obtain ⟨la, lc, hv, _⟩ := own_form HO2.out.row
    subst hv
    go_wp2_with fail
    have hby := HBx2.out.set s
    have Y0 := hby.c0
    have Y1 := hby.c1
    have Y2 := hby.c2
    have HRR := Lib.hid (((HO2.out.set (p := ⟨w.heap.size, 0, none⟩) (Nat.lt_succ_self _) (.int .i64 (s.slot : Int))).set (p := ⟨w.heap.size, 1, none⟩) (Nat.lt_succ_self _) (.int .i64 (s.gen : Int))).set (p := ⟨w.heap.size, 2, none⟩) (Nat.lt_succ_self _) (.int .i64 (s.rev : Int)))
    exact bodyPost_ret (v := .tuple #[supV s, .slice la es.length lc, .int .i64 (E : Int), .int .i64 0]) (by simp [results, Tryz.results31, go_sem, Y0, Y1, Y2]) rfl ⟨⟨_, es, by rw [HF.out], HRR.out.lower (Nat.le_succ _), Hes.out.trans (by rw [HF.out])⟩, ((HB2.out.setCell (Nat.le_refl _) _).setCell (Nat.le_refl _) _).setCell (Nat.le_refl _) _⟩
  · have HF := Lib.hid (show openF b = ((sdec b).1, sup0, [], 0) by unfold openF; rw [if_neg h0])
    have HS := Lib.hid (sdec_bad h0)
    generalize openF b = R at *
    have hd : ((sdec b).1 != 0) = true := bne_iff_ne.2 h0
    go_enter Tryz.func31, Tryz.ntmps31
    go_wp2_with fail
    refine (HD.out _ (RdL.below Hw0.out HBZ.out)).mono ?_; rintro e w1 ⟨rfl, hb1⟩
    have Z0 : w1.cell? ⟨w.heap.size, 0, none⟩ = some (.int .i64 0) := Below.keeps hb1 _ _ (by simp)
    have Z1 : w1.cell? ⟨w.heap.size, 1, none⟩ = some (.int .i64 0) := Below.keeps hb1 _ _ (by simp)
    have Z2 : w1.cell? ⟨w.heap.size, 2, none⟩ = some (.int .i64 0) := Below.keeps hb1 _ _ (by simp)
    have ZF := fun i => (hb1.frozen (p := ⟨w.heap.size, i, none⟩) (by simp)).trans (show (w.alloc zeroS).frozen? ⟨w.heap.size, i, none⟩ = false by simp)
    have HB1 := Lib.hid (bstep HBZ.out hb1)
    have HBx := Lib.hid (show BoxS w1 w.heap.size sup0 from ⟨Z0, Z1, Z2, ZF⟩)
    have hk1 : w.heap.size < w1.heap.size := World.block_lt_of_cell? _ _ Z0
    clear hb1 Z0 Z1 Z2 ZF
    generalize sdec b = R' at *
    obtain ⟨r, s⟩ := R'
    dsimp only at h0 hd HF HS
    obtain ⟨w2, hw2⟩ : ∃ w2, w1.alloc (.cells #[.int .i64 (s.slot : Int), .int .i64 (s.gen : Int), .int .i64 (s.rev : Int)] 70) = w2 := ⟨_, rfl⟩
    have HBa := Lib.hid (show Below w1.heap.size w1 w2 from hw2 ▸ (Below.refl _ _).alloc (Nat.le_refl _) _)
    have HBx2 := Lib.hid (HBx.out.keep hk1 HBa.out (Nat.le_refl _))
    have X0 := HBx2.out.c0
    have X1 := HBx2.out.c1
    have X2 := HBx2.out.c2
    have F0 := HBx2.out.f 0
    have F1 := HBx2.out.f 1
    have F2 := HBx2.out.f 2
    go_wp2_with fail
    have hby := HBx2.out.set sup0
    have Y0 := hby.c0
    have Y1 := hby.c1
    have Y2 := hby.c2
    simp only [sup0, show ((0 : Nat) : Int) = 0 from rfl] at Y0 Y1 Y2
    exact bodyPost_ret (v := .tuple #[supV sup0, .slice none 0 0, .int .i64 0, .int .i64 r]) (by simp [results, Tryz.results31, go_sem, sup0, Y0, Y1, Y2]) rfl ⟨⟨.slice none 0 0, [], by rw [HF.out]; rfl, OwnR.nil _ _ _, by rw [HF.out]; rfl⟩, (((bstep HB1.out HBa.out).setCell (Nat.le_refl _) _).setCell (Nat.le_refl _) _).setCell (Nat.le_refl _) _⟩
end Go.Proofs.YthomhflkldhdaaaGreatDoor

namespace Go.Proofs.YthomhflkldhdaaaGreatDoor
open Go.RowKit

def fsup : Sup := ⟨0, 1, 0⟩
theorem fsup_ok : svld fsup := by unfold svld fsup; decide
/-- The bytes of a file. -/
def fileB (k : List Nd) : List UInt8 := senc fsup ++ nencs k
/-- Where the records end. -/
def endsF (k : List Nd) : List Int := (List.range k.length).map fun i => ((16 + nsum (k.take (i + 1)) : Nat) : Int)
theorem fileB_length (k : List Nd) : (fileB k).length = 16 + nsum k := by rw [fileB, List.length_append, senc_length, nencs_length]
theorem nsum_snoc (k : List Nd) (x : Nd) : nsum (k ++ [x]) = nsum k + nsz x.data.length := by simp [nsum]
theorem nencs_snoc (k : List Nd) (x : Nd) : nencs (k ++ [x]) = nencs k ++ nenc x := by simp [nencs]
theorem nsum_le : ∀ {k : List Nd}, (∀ x ∈ k, x.ok) → nsum k ≤ 4128 * k.length
  | [], _ => by simp [nsum]
  | x :: k, h => by
    have h1 := nsum_le (k := k) fun y hy => h y (by simp [hy])
    have h2 := (h x (by simp)).1
    have h3 := nsz_bounds x.data.length
    rw [nsum_cons, List.length_cons]; omega
theorem endsF_snoc {k : List Nd} {i : Nat} (h : i < k.length) : endsF (k.take (i + 1)) = endsF (k.take i) ++ [((16 + nsum (k.take (i + 1)) : Nat) : Int)] := by
  unfold endsF
  rw [List.length_take, List.length_take, Nat.min_eq_left (by omega), Nat.min_eq_left (by omega), List.range_succ, List.map_append]
  congr 1
  · refine List.map_congr_left fun j hj => ?_
    rw [List.mem_range] at hj
    rw [List.take_take, List.take_take, Nat.min_eq_left (by omega), Nat.min_eq_left (by omega)]
  · simp [List.take_take]
theorem map_snoc' {es : List (Nd × Value)} {i : Nat} (h : i < es.length) : (es.map (·.1)).take (i + 1) = (es.map (·.1)).take i ++ [(nat' es i).1] := by
  unfold nat'
  rw [List.take_add_one, List.getElem?_map, List.getElem?_eq_getElem h, List.getD_eq_getElem?_getD, List.getElem?_eq_getElem h]; rfl
theorem rd_int (w : World) (x : Int) (e : TypeId) : Rd (w.alloc (.cells #[.int .i64 x] e)) 1 (.slice (some ⟨w.heap.size, 0, none⟩) 1 1) 1 ([x].map intV) := Rd.new w 1 _ e 1 rfl (by decide)
end Go.Proofs.YthomhflkldhdaaaGreatDoor

namespace Go.Proofs.YthomhflkldhdaaaGreatDoor
open Go.RowKit Go.Maps

/-- The place of the last that has the key; a, if there is none. -/
def lastA (key : Nat) : List Nat → Nat → Nat → Nat
  | [], _, a => a
  | x :: K, i, a => lastA key K (i + 1) (if x = key then i else a)
theorem lastA_snoc (key : Nat) : ∀ (K : List Nat) (x i a : Nat), lastA key (K ++ [x]) i a = if x = key then i + K.length else lastA key K i a
  | [], x, i, a => by simp [lastA]
  | y :: K, x, i, a => by
    show lastA key (K ++ [x]) (i + 1) _ = _
    rw [lastA_snoc key K x (i + 1)]
    split
    · simp; omega
    · rfl
def lastI (K : List Nat) (key : Nat) : Nat := lastA key K 0 0
theorem lastI_snoc (K : List Nat) (x key : Nat) : lastI (K ++ [x]) key = if x = key then K.length else lastI K key := by
  unfold lastI; rw [lastA_snoc, Nat.zero_add]
def keysR (l : List Rec) : List Nat := l.map fun r => r.nd.key
theorem lawK : Keyed Tryz.prog 38 := int_keyed Tryz.underlying38
theorem zeroI (w : World) : (zeroValue 3).run Tryz.prog w = .ok (.int .i64 0) w := by kernel_rfl
/-- Block B is a map that has f's answers. -/
def LastM (w : World) (B n : Nat) (f : Nat → Nat) : Prop := ∃ D : DataW Unit, w.ownsMap Tryz.prog 38 (plainElem Tryz.prog 3) B n D ∧ ∀ k : Nat, k < 18446744073709551616 → D.atKey (.int .u64 (k : Int)) (.lit (.int .i64 0)) = .lit (.int .i64 (f k : Int))
theorem LastM.below {w w' : World} {B n : Nat} {f : Nat → Nat} {C : Nat} (h : LastM w B n f) (hB : B < C) (hb : Below C w w') : LastM w' B n f := by
  obtain ⟨D, ⟨es, clock, h1, h2, h3, h4⟩, h5⟩ := h
  exact ⟨D, ⟨es, clock, (hb.block B hB).trans h1, h2, h3, h4⟩, h5⟩
theorem wf_key {k : Nat} (h : k < 18446744073709551616) : (Lit.int .u64 (k : Int)).wf = true := by
  exact WalkArith.wf_u64 (by omega)
theorem LastM.put {w : World} {B n : Nat} {f : Nat → Nat} {D : DataW Unit} {x i : Nat} (_hx : x < 18446744073709551616) (h1 : w.ownsMap Tryz.prog 38 (plainElem Tryz.prog 3) B n (D.put (.int .u64 (x : Int)) (.lit (.int .i64 (i : Int))))) (hD : IsMap D)
    (h2 : ∀ k : Nat, k < 18446744073709551616 → D.atKey (.int .u64 (k : Int)) (.lit (.int .i64 0)) = .lit (.int .i64 (f k : Int))) : LastM w B n (fun k => if x = k then i else f k) :=
  ⟨_, h1, fun k hk => by
    by_cases e : x = k
    · subst e
      rw [atKey_put_same hD (show WideAt.IsKeyLit (.int .u64 (x : Int)) from trivial)]; show _ = DataW.lit (.int .i64 ((if x = x then i else f x : Nat) : Int)); rw [if_pos rfl]
    · rw [atKey_put_other (by intro e'; injection e' with e1 e2; omega), h2 k hk]; show _ = DataW.lit (.int .i64 ((if x = k then i else f k : Nat) : Int)); rw [if_neg e]⟩
end Go.Proofs.YthomhflkldhdaaaGreatDoor

namespace Go.Proofs.YthomhflkldhdaaaGreatDoor
open Go.RowKit Go.Maps

def itR (r : Rec) : It := ⟨(r.nd.key : Int), (r.nd.ck : Int), r.off, (r.nd.data.length : Int)⟩
/-- The items of the records that are live, f telling which record of a key is the last. -/
def liveT (f : Nat → Nat) : List Rec → Nat → List It
  | [], _ => []
  | r :: l, i => (if f r.nd.key = i ∧ r.nd.del = false then [itR r] else []) ++ liveT f l (i + 1)
theorem liveT_snoc (f : Nat → Nat) : ∀ (l : List Rec) (r : Rec) (i : Nat), liveT f (l ++ [r]) i = liveT f l i ++ (if f r.nd.key = i + l.length ∧ r.nd.del = false then [itR r] else [])
  | [], r, i => by simp [liveT]
  | x :: l, r, i => by
    show _ ++ liveT f (l ++ [r]) (i + 1) = _
    rw [liveT_snoc f l r (i + 1), List.length_cons, show i + 1 + l.length = i + (l.length + 1) by omega]
    show _ = _ ++ liveT f l (i + 1) ++ _
    rw [List.append_assoc]
theorem liveT_length (f : Nat → Nat) : ∀ (l : List Rec) (i : Nat), (liveT f l i).length ≤ l.length
  | [], _ => Nat.le_refl _
  | x :: l, i => by
    have := liveT_length f l (i + 1)
    show (_ ++ liveT f l (i + 1)).length ≤ _
    rw [List.length_append, List.length_cons]
    split <;> simp <;> omega
/-- The items of records. -/
def itemsP (l : List Rec) : List It := srt (liveT (lastI (keysR l)) l 0)
theorem itsC_of1 (r : Rec) : itsC [itR r] = [.int .u64 (r.nd.key : Int), .int .u32 (r.nd.ck : Int), .int .i64 r.off, .int .i64 (r.nd.data.length : Int)] := rfl
end Go.Proofs.YthomhflkldhdaaaGreatDoor

namespace Go.Proofs.YthomhflkldhdaaaGreatDoor

/-- What a key has, f telling the place of its last record, of the records ahead of place n. -/
def hasF (f : Nat → Nat) (L : List Rec) (n : Nat) (k : Int) : Option It :=
  if f k.toNat < n then (match L[f k.toNat]? with
    | some r => if (r.nd.key : Int) = k ∧ r.nd.del = false then some (itR r) else none
    | none => none) else none
theorem hasF_zero (f : Nat → Nat) (L : List Rec) (k : Int) : hasF f L 0 k = none := by unfold hasF; rw [if_neg (by omega)]
theorem hasF_succ (f : Nat → Nat) (L : List Rec) (n : Nat) (r : Rec) (hr : L[n]? = some r) (k : Int) :
    hasF f L (n + 1) k = if f r.nd.key = n ∧ r.nd.del = false ∧ (r.nd.key : Int) = k then some (itR r) else hasF f L n k := by
  unfold hasF
  by_cases h : f k.toNat = n
  · rw [if_pos (by omega), if_neg (show ¬ f k.toNat < n by omega), h, hr]
    by_cases hk : (r.nd.key : Int) = k
    · have : k.toNat = r.nd.key := by omega
      rw [this] at h
      by_cases hd : r.nd.del = false
      · rw [if_pos ⟨h, hd, hk⟩]; simp [hk, hd]
      · rw [if_neg (fun e => hd e.2.1)]; simp [hd]
    · rw [if_neg (fun e => hk e.2.2)]; simp [hk]
  · rw [if_neg (show ¬ (f r.nd.key = n ∧ r.nd.del = false ∧ (r.nd.key : Int) = k) from fun e => h (by rw [← e.2.2]; exact e.1))]
    by_cases hl : f k.toNat < n
    · rw [if_pos (by omega), if_pos hl]
    · rw [if_neg (by omega), if_neg hl]
theorem take_snocR {L : List Rec} {n : Nat} {r : Rec} (hr : L[n]? = some r) : L.take (n + 1) = L.take n ++ [r] := by
  rw [List.take_add_one, hr]; rfl
theorem liveT_take (f : Nat → Nat) (L : List Rec) (n : Nat) (r : Rec) (hr : L[n]? = some r) : liveT f (L.take (n + 1)) 0 = liveT f (L.take n) 0 ++ if f r.nd.key = n ∧ r.nd.del = false then [itR r] else [] := by
  have hn := (List.getElem?_eq_some_iff.1 hr).1
  rw [take_snocR hr, liveT_snoc, List.length_take, Nat.min_eq_left (by omega), Nat.zero_add]
theorem fnd_live (f : Nat → Nat) (L : List Rec) (k : Int) : ∀ n, n ≤ L.length → fnd (srt (liveT f (L.take n) 0)) k = hasF f L n k
  | 0, _ => by rw [hasF_zero]; rfl
  | n + 1, h => by
    obtain ⟨r, hr⟩ : ∃ r, L[n]? = some r := ⟨_, List.getElem?_eq_getElem (by omega)⟩
    have ih := fnd_live f L k n (by omega)
    rw [liveT_take f L n r hr, hasF_succ f L n r hr, ← ih]
    by_cases hc : f r.nd.key = n ∧ r.nd.del = false
    · rw [if_pos hc, srt_snoc, fnd_ins']
      show (if (r.nd.key : Int) = k then _ else _) = _
      by_cases hk : (r.nd.key : Int) = k
      · rw [if_pos hk, if_pos ⟨hc.1, hc.2, hk⟩]
      · rw [if_neg hk, if_neg (fun e => hk e.2.2)]
    · rw [if_neg hc, List.append_nil, if_neg (fun e => hc ⟨e.1, e.2.1⟩)]
theorem fnd_itemsP (L : List Rec) (k : Int) : fnd (itemsP L) k = hasF (lastI (keysR L)) L L.length k := by
  have := fnd_live (lastI (keysR L)) L k L.length (Nat.le_refl _)
  rwa [List.take_of_length_le (Nat.le_refl _)] at this
theorem hasF_snoc (L : List Rec) (r : Rec) (k : Int) : hasF (lastI (keysR (L ++ [r]))) (L ++ [r]) (L ++ [r]).length k = if (r.nd.key : Int) = k then (if r.nd.del = false then some (itR r) else none) else hasF (lastI (keysR L)) L L.length k := by
  have hl : ∀ key, lastI (keysR (L ++ [r])) key = if r.nd.key = key then L.length else lastI (keysR L) key := fun key => by
    have : keysR (L ++ [r]) = keysR L ++ [r.nd.key] := by simp [keysR]
    rw [this, lastI_snoc]; simp [keysR]
  have hN : (L ++ [r]).length = L.length + 1 := by simp
  rw [hN]
  unfold hasF
  rw [hl]
  by_cases hk : (r.nd.key : Int) = k
  · rw [if_pos hk, if_pos (show r.nd.key = k.toNat by omega), if_pos (by omega), List.getElem?_append_right (Nat.le_refl _)]
    simp [hk]
  · have hk2 : (¬ r.nd.key = k.toNat) ∨ k < 0 := by omega
    rw [if_neg hk]
    rcases hk2 with hk2 | hk2
    · rw [if_neg hk2]
      by_cases h1 : lastI (keysR L) k.toNat < L.length
      · rw [if_pos (by omega), if_pos h1, List.getElem?_append_left h1]
      · rw [if_neg h1]
        by_cases h2 : lastI (keysR L) k.toNat < L.length + 1
        · rw [if_pos h2, show lastI (keysR L) k.toNat = L.length by omega, List.getElem?_append_right (Nat.le_refl _)]
          simp [hk]
        · rw [if_neg h2]
    · have no : ∀ q : Rec, ¬ ((q.nd.key : Int) = k ∧ q.nd.del = false) := fun q e => by have := e.1; omega
      have a1 : ∀ (x : Nat) (M : List Rec) (n : Nat), (if x < n then (match M[x]? with | some r => if (r.nd.key : Int) = k ∧ r.nd.del = false then some (itR r) else none | none => none) else none) = none := fun x M n => by
        split
        · split
          · rw [if_neg (no _)]
          · rfl
        · rfl
      rw [a1, a1]
/-- The reference's Items: one record after the other. -/
def stepI (s : List It) (r : Rec) : List It := if r.nd.del = true then drp s (r.nd.key : Int) else ins s (itR r)
theorem itemsP_asc (L : List Rec) : Asc (itemsP L) := srt_asc _
theorem itemsP_snoc (L : List Rec) (r : Rec) : itemsP (L ++ [r]) = stepI (itemsP L) r := by
  have pw : ∀ {l : List It}, Asc l → l.Pairwise fun a b => a.key < b.key := fun h => ascR_pw ((ascR_iff _).2 h)
  refine asc_ext _ _ (pw (itemsP_asc _)) ?_ fun k => ?_
  · unfold stepI
    split
    · exact pw (drp_asc (itemsP_asc L) _)
    · exact ascR_pw (ins_asc _ _ ((ascR_iff _).2 (itemsP_asc L)))
  · rw [fnd_itemsP, hasF_snoc, ← fnd_itemsP]
    unfold stepI
    cases hd : r.nd.del
    · rw [if_neg (show ¬ (false = true) by decide), fnd_ins']
      show _ = if (r.nd.key : Int) = k then _ else _
      simp
    · rw [if_pos rfl, fnd_drp']
      by_cases hk : (r.nd.key : Int) = k
      · rw [if_pos hk, if_pos hk.symm]; simp
      · rw [if_neg hk, if_neg (Ne.symm hk)]
theorem itemsP_nil : itemsP [] = [] := rfl
theorem itemsP_length (L : List Rec) : (itemsP L).length ≤ L.length := Nat.le_trans (srt_length _) (liveT_length _ L 0)

/-! ### Bytes -/
def szR (r : Rec) : Nat := szN r.nd.data.length
def liveB (f : Nat → Nat) : List Rec → Nat → Nat
  | [], _ => 0
  | r :: l, i => (if f r.nd.key = i ∧ r.nd.del = false then szR r else 0) + liveB f l (i + 1)
def restB (f : Nat → Nat) : List Rec → Nat → Nat
  | [], _ => 0
  | r :: l, i => (if f r.nd.key = i ∧ r.nd.del = false then 0 else szR r) + restB f l (i + 1)
def allB (L : List Rec) : Nat := (L.map szR).sum
theorem liveB_snoc (f : Nat → Nat) : ∀ (l : List Rec) (r : Rec) (i : Nat), liveB f (l ++ [r]) i = liveB f l i + (if f r.nd.key = i + l.length ∧ r.nd.del = false then szR r else 0)
  | [], r, i => by simp [liveB]
  | x :: l, r, i => by
    show _ + liveB f (l ++ [r]) (i + 1) = _ + liveB f l (i + 1) + _
    rw [liveB_snoc f l r (i + 1), List.length_cons, show i + 1 + l.length = i + (l.length + 1) by omega, Nat.add_assoc]
theorem restB_snoc (f : Nat → Nat) : ∀ (l : List Rec) (r : Rec) (i : Nat), restB f (l ++ [r]) i = restB f l i + (if f r.nd.key = i + l.length ∧ r.nd.del = false then 0 else szR r)
  | [], r, i => by simp [restB]
  | x :: l, r, i => by
    show _ + restB f (l ++ [r]) (i + 1) = _ + restB f l (i + 1) + _
    rw [restB_snoc f l r (i + 1), List.length_cons, show i + 1 + l.length = i + (l.length + 1) by omega, Nat.add_assoc]
theorem live_rest (f : Nat → Nat) : ∀ (l : List Rec) (i : Nat), liveB f l i + restB f l i = allB l
  | [], _ => rfl
  | x :: l, i => by
    have ih := live_rest f l (i + 1)
    show (if _ then _ else _) + liveB f l (i + 1) + ((if _ then _ else _) + restB f l (i + 1)) = szR x + allB l
    split <;> omega
theorem allB_le (l : List Rec) : allB l ≤ l.length * 4127 := by
  induction l with
  | nil => exact Nat.le_refl _
  | cons x l ih =>
    have := szN_le x.nd.data.length
    show szR x + allB l ≤ _
    unfold szR
    rw [List.length_cons]; omega
def liveP (L : List Rec) : Nat := liveB (lastI (keysR L)) L 0
def restP (L : List Rec) : Nat := restB (lastI (keysR L)) L 0
theorem live_sum (f : Nat → Nat) (L : List Rec) : ∀ n, n ≤ L.length → sumI (srt (liveT f (L.take n) 0)) = liveB f (L.take n) 0
  | 0, _ => rfl
  | n + 1, h => by
    obtain ⟨r, hr⟩ : ∃ r, L[n]? = some r := ⟨_, List.getElem?_eq_getElem (by omega)⟩
    have ih := live_sum f L n (by omega)
    have hf := fnd_live f L (r.nd.key : Int) n (by omega)
    rw [liveT_take f L n r hr, take_snocR hr, liveB_snoc, List.length_take, Nat.min_eq_left (by omega), Nat.zero_add, ← ih]
    by_cases hc : f r.nd.key = n ∧ r.nd.del = false
    · rw [if_pos hc, if_pos hc, srt_snoc, sumI_ins]
      · rfl
      · show fnd _ (r.nd.key : Int) = none
        rw [hf]; unfold hasF; rw [if_neg (by rw [Int.toNat_natCast]; omega)]
    · rw [if_neg hc, if_neg hc, List.append_nil]; rfl
theorem sum_itemsP (L : List Rec) : sumI (itemsP L) = liveP L := by
  have := live_sum (lastI (keysR L)) L L.length (Nat.le_refl _)
  rwa [List.take_of_length_le (Nat.le_refl _)] at this
theorem live_all (L : List Rec) : liveP L + restP L = allB L := live_rest _ L 0
end Go.Proofs.YthomhflkldhdaaaGreatDoor

namespace Go.Proofs.YthomhflkldhdaaaGreatDoor
open Go.RowKit

theorem stepI_srt {s : List It} (h : Asc s) (r : Rec) : stepI s r = if r.nd.del = true then drp (srt s) (r.nd.key : Int) else ins (srt s) (itR r) := by
  rw [srt_of_asc h]; rfl
set_option maxRecDepth 100000 in
set_option maxHeartbeats 8000000 in
theorem ritems_any (v : Value) (es : List (Rec × Value)) (w : World) (h : RdR w v es) (hs : es.length ≤ 50000) :
    Calls Tryz.prog 35 #[v] w fun e w' => ∃ lv, e = .returned lv ∧ OwnT w' w.heap.size lv (itemsP (es.map (·.1))) ∧ Below w.heap.size w w' := by
  obtain ⟨a, cap, rfl, h1, h2⟩ := h.shape
  have Hw0 := Lib.hid h
  have hat0 : ∀ j, j < es.length → (es.map (·.1))[j]? = some (rat es j).1 := fun j hj => by
    unfold rat
    simp [List.getD_eq_getElem?_getD, List.getElem?_eq_getElem hj]
  have HS := Lib.hid (show ∀ j, j < es.length → itemsP ((es.map (·.1)).take (j + 1)) = if (rat es j).1.nd.del = true then drp (srt (itemsP ((es.map (·.1)).take j))) ((rat es j).1.nd.key : Int) else ins (srt (itemsP ((es.map (·.1)).take j))) (itR (rat es j).1) from fun j hj => by
    rw [take_snocR (hat0 j hj), itemsP_snoc, stepI_srt (itemsP_asc _)])
  have HE := Lib.hid (show (es.map (·.1)).take es.length = es.map (·.1) from List.take_of_length_le (by simp))
  have HLn := Lib.hid (show ∀ j, (itemsP ((es.map (·.1)).take j)).length ≤ j from fun j => Nat.le_trans (itemsP_length _) (by rw [List.length_take]; omega))
  clear hat0
  generalize hn : es.length = n at *
  clear h hn
  generalize es.map (·.1) = L at *
  go_enter Tryz.func35, Tryz.ntmps35
  go_wp2_with fail
  go_loopw [3, 4] (fun ov iv W => ∃ i : Nat, iv = .int .i64 (i : Int) ∧ i ≤ n ∧ Hid (OwnT W w.heap.size ov (itemsP (L.take i))) ∧ Hid (Below w.heap.size w W)) (fun _ iv _ => n - (intOf iv).toNat)
  case atStart => exact ⟨0, by rfl, Nat.zero_le _, Lib.hid (World.ownsRow_nil _ _ _ _), Lib.hid (Below.refl _ _)⟩
  case round =>
    obtain ⟨i, rfl, hi, HO, HB⟩ := hrel
    have hsz := HB.out.size
    by_cases hin : i < n
    · have hr := Hw0.out.below HB.out
      obtain ⟨pb, poff, rfl, hd, c0, c1, c2, c3, c4⟩ := hr.at hin
      have HSi := Lib.hid (HS.out i hin)
      have hll := HLn.out i
      clear hr
      generalize itemsP (L.take i) = T at *
      generalize rat es i = X at *
      obtain ⟨⟨off, x⟩, dv⟩ := X
      dsimp only at *
      obtain ⟨da, dc, hdv, _, _⟩ := hd.shape0
      subst hdv
      have i1 : (i : Int) < (n : Int) := by omega
      clear hd
      obtain ⟨xk, xc, xd, xl⟩ := x
      dsimp only at *
      have HIr := Lib.hid (show itV (itR ⟨off, ⟨xk, xc, xd, xl⟩⟩) = .agg #[.int .u64 (xk : Int), .int .u32 (xc : Int), .int .i64 off, .int .i64 (xl.length : Int)] from rfl)
      have HBa := Lib.hid (show Below wr.heap.size wr (wr.alloc (.cells #[.int .u64 (xk : Int), .int .u32 (xc : Int), .bool xd, .slice da xl.length dc] 72)) from (Below.refl _ _).alloc (Nat.le_refl _) _)
      have HPt := Lib.hid (fun W h => rput_any u3 T (itR ⟨off, ⟨xk, xc, xd, xl⟩⟩) W h (by omega))
      rw [HIr.out] at HPt
      have HDr := Lib.hid (fun W h => rdrop_any u3 T (xk : Int) W h (by omega))
      generalize hl : xl.length = l at *
      cases xd
      · have HSj := Lib.hid (HSi.out.trans (if_neg (by decide)))
        have HR2 := Lib.hid (HO.out.rd.below HBa.out)
        clear HDr HSi hl HIr
        go_wp2_with fail
        obtain ⟨W, hW⟩ : ∃ W, wr.alloc (.cells #[.int .u64 (xk : Int), .int .u32 (xc : Int), .bool false, .slice da l dc] 72) = W := ⟨_, rfl⟩
        have x0 : W.cell? ⟨wr.heap.size, 0, none⟩ = some (.int .u64 (xk : Int)) := by rw [← hW]; simp
        have x1 : W.cell? ⟨wr.heap.size, 1, none⟩ = some (.int .u32 (xc : Int)) := by rw [← hW]; simp
        have x3 : W.cell? ⟨wr.heap.size, 3, none⟩ = some (.slice da l dc) := by rw [← hW]; simp
        have y0 := Below.keeps HBa.out _ _ c0
        rw [hW] at y0 HBa HR2 ⊢
        clear hW
        refine wp_region_still_tail 14 (by kernel_rfl) (by kernel_rfl) ?_
        simp only [List.take_succ_cons, List.take_zero, List.drop_succ_cons, List.drop_zero]
        change wpStill Tryz.prog _ (World.drew _) _ _ _
        repeat still_step
        refine wpStill_nil ?_
        change wpList _ _ _ _ _ (World.drew _)
        go_wp2_with fail
        refine (HPt.out _ HR2.out.drew).mono ?_; rintro e w2 ⟨v2, rfl, hown2, hb2⟩
        have HO2 := Lib.hid (hown2.mono (show w.heap.size ≤ _ from Nat.le_trans hsz HBa.out.size))
        have HB2 := Lib.hid (bstep (below_drew (bstep HB.out HBa.out)) hb2)
        rw [← HSj.out] at HO2
        clear hown2 hb2
        go_wp2_with fail
        exact ⟨⟨i + 1, by go_num, by omega, HO2, HB2⟩, by simp [intOf]; omega⟩
      · have HSj := Lib.hid (HSi.out.trans (if_pos rfl))
        have HR2 := Lib.hid (HO.out.rd.below HBa.out)
        clear HPt HSi hl HIr
        go_wp2_with fail
        refine (HDr.out _ HR2.out).mono ?_; rintro e w2 ⟨v2, rfl, hown2, hb2⟩
        have HO2 := Lib.hid (hown2.mono (show w.heap.size ≤ _ from Nat.le_trans hsz HBa.out.size))
        have HB2 := Lib.hid (bstep (bstep HB.out HBa.out) hb2)
        rw [← HSj.out] at HO2
        clear hown2 hb2
        go_wp2_with fail
        exact ⟨⟨i + 1, by go_num, by omega, HO2, HB2⟩, by simp [intOf]; omega⟩
    · obtain rfl : i = n := by omega
      have HF := Lib.hid (show OwnT wr w.heap.size u3 (itemsP L) by have := HO.out; rw [HE.out] at this; exact this)
      go_wp2_with fail
      go_ret
      exact ⟨_, rfl, HF.out, HB.out⟩
end Go.Proofs.YthomhflkldhdaaaGreatDoor

namespace Go.Proofs.YthomhflkldhdaaaGreatDoor
open Go.RowKit Go.Maps

end Go.Proofs.YthomhflkldhdaaaGreatDoor

namespace Go.Proofs.YthomhflkldhdaaaGreatDoor
open Go.RowKit

theorem liveT_size (f : Nat → Nat) : ∀ (l : List Rec) (i : Nat), ∀ x ∈ liveT f l i, 0 ≤ x.size
  | [], _, _, h => by cases h
  | r :: l, i, x, h => by
    rcases List.mem_append.1 h with h | h
    · split at h
      · rw [List.mem_singleton.1 h]; exact Int.natCast_nonneg _
      · cases h
    · exact liveT_size f l (i + 1) x h
theorem itemsP_size (L : List Rec) : ∀ x ∈ itemsP L, 0 ≤ x.size := srt_all (liveT_size _ L 0)
theorem allB_snoc {L : List Rec} {n : Nat} {r : Rec} (hr : L[n]? = some r) : allB (L.take (n + 1)) = allB (L.take n) + szR r := by
  rw [take_snocR hr]; simp [allB]
theorem sumI_snoc {T : List It} {n : Nat} (h : n < T.length) : sumI (T.take (n + 1)) = sumI (T.take n) + szN (iat T n).size.toNat := by
  rw [take_snoc h, sumI_append]; rfl
set_option maxRecDepth 100000 in
set_option maxHeartbeats 8000000 in
theorem rbytes_any (v : Value) (es : List (Rec × Value)) (w : World) (h : RdR w v es) (hs : es.length ≤ 50000) :
    Calls Tryz.prog 32 #[v] w fun e w' => e = .returned (.tuple #[.int .i64 (liveP (es.map (·.1)) : Int), .int .i64 (restP (es.map (·.1)) : Int)]) ∧ Below w.heap.size w w' := by
  obtain ⟨a, cap, rfl, h1, h2⟩ := h.shape
  have Hw0 := Lib.hid h
  have HIt := Lib.hid (ritems_any _ es w h hs)
  have hat0 : ∀ j, j < es.length → (es.map (·.1))[j]? = some (rat es j).1 := fun j hj => by
    unfold rat
    simp [List.getD_eq_getElem?_getD, List.getElem?_eq_getElem hj]
  have HLP := Lib.hid (show sumI (itemsP (es.map (·.1))) = liveP (es.map (·.1)) ∧ liveP (es.map (·.1)) + restP (es.map (·.1)) = allB (es.map (·.1)) from ⟨sum_itemsP _, live_all _⟩)
  have hTl : (itemsP (es.map (·.1))).length ≤ 50000 := Nat.le_trans (itemsP_length _) (by rw [List.length_map]; exact hs)
  have HTs := Lib.hid (itemsP_size (es.map (·.1)))
  have HS := Lib.hid (show ∀ j, j < es.length → allB ((es.map (·.1)).take (j + 1)) = allB ((es.map (·.1)).take j) + szN (rat es j).1.nd.data.length from fun j hj => allB_snoc (hat0 j hj))
  have HE := Lib.hid (show (es.map (·.1)).take es.length = es.map (·.1) from List.take_of_length_le (by simp))
  have HBd := Lib.hid (show ∀ j, j ≤ es.length → allB ((es.map (·.1)).take j) ≤ 206350000 from fun j hj => by
    have := allB_le ((es.map (·.1)).take j)
    rw [List.length_take] at this
    omega)
  clear hat0
  generalize hn : es.length = n at *
  clear h hn
  generalize liveP (es.map (·.1)) = R1 at *
  generalize restP (es.map (·.1)) = R2 at *
  generalize itemsP (es.map (·.1)) = T at *
  generalize es.map (·.1) = L at *
  have HTB := Lib.hid (show ∀ j, j ≤ T.length → sumI (T.take j) ≤ 206350000 from fun j hj => by
    have := sumI_le (T.take j)
    rw [List.length_take] at this
    omega)
  have HTS := Lib.hid (fun j (h : j < T.length) => sumI_snoc h)
  have HTE := Lib.hid (show sumI (T.take T.length) = sumI T by rw [List.take_length])
  have HTI := Lib.hid (fun j (h : j < T.length) => HTs.out _ (iat_mem h))
  go_enter Tryz.func32, Tryz.ntmps32
  go_wp2_with fail
  refine HIt.out.mono ?_; rintro e w1 ⟨tv, rfl, hown1, hb1⟩
  have HRt := Lib.hid hown1.rd
  obtain ⟨ta, tc, htv, _⟩ := own_form hown1
  subst htv
  have HB1 := Lib.hid hb1
  clear hown1 hb1 HIt
  generalize hm : T.length = m at *
  clear hm
  go_wp2_with fail
  go_loopw [4, 7] (fun lv iv W => ∃ i p : Nat, iv = .int .i64 (i : Int) ∧ lv = .int .i64 (p : Int) ∧ i ≤ m ∧ Hid (p = sumI (T.take i)) ∧ Hid (Below w1.heap.size w1 W)) (fun _ iv _ => m - (intOf iv).toNat)
  case atStart => exact ⟨0, 0, by rfl, rfl, Nat.zero_le _, Lib.hid rfl, Lib.hid (Below.refl _ _)⟩
  case round =>
    obtain ⟨i, p, rfl, rfl, hi, Hm, HB⟩ := hrel
    by_cases hin : i < m
    · have hr := HRt.out.below HB.out
      obtain ⟨pb, poff, rfl, c0, c1, c2, c3⟩ := hr.at hin
      have hS := HTS.out i hin
      have hBd := HTB.out (i + 1) (by omega)
      have hI := HTI.out i hin
      generalize iat T i = x at *
      obtain ⟨x0, x1, x2, x3⟩ := x
      dsimp only at *
      obtain ⟨q, rfl⟩ := Int.eq_ofNat_of_zero_le hI
      rw [Int.toNat_natCast] at hS
      have HZ := Lib.hid (fun W => rsizeB q W)
      generalize szN q = z at *
      rw [hS, ← Hm.out] at hBd
      have HN := Lib.hid (show p + z = sumI (T.take (i + 1)) by rw [hS, Hm.out])
      have hpz : IntKind.i64.wrap ((p : Int) + (z : Int)) = ((p + z : Nat) : Int) := (IntWalk.i64_in _ (by omega)).trans (by omega)
      have i1 : (i : Int) < (m : Int) := by omega
      clear hS hr hI
      go_wp2_with fail
      refine (HZ.out _).mono ?_; rintro e w2 ⟨rfl, rfl⟩
      go_wp2_with fail
      exact ⟨⟨i + 1, p + z, by go_num, rfl, by omega, HN, HB⟩, by simp [intOf]; omega⟩
    · obtain rfl : i = m := by omega
      have hP := Hm.out.trans HTE.out
      have hPb := HTB.out i (Nat.le_refl _)
      rw [← Hm.out] at hPb
      have HB2 := Lib.hid (bstep HB1.out HB.out)
      have HLQ := Lib.hid (show p = R1 ∧ R1 + R2 = allB L from ⟨hP.trans HLP.out.1, HLP.out.2⟩)
      clear HLP hP Hm HRt HTs HTB HTS HTE HTI HB HB1
      generalize hwr : wr = w2 at *
      clear hwr
      go_wp2_with fail
      go_loopw [5, 8] (fun lv iv W => ∃ i q : Nat, iv = .int .i64 (i : Int) ∧ lv = .int .i64 (q : Int) ∧ i ≤ n ∧ Hid (q = allB (L.take i)) ∧ Hid (Below w2.heap.size w2 W)) (fun _ iv _ => n - (intOf iv).toNat)
      case atStart => exact ⟨0, 0, by rfl, rfl, Nat.zero_le _, Lib.hid rfl, Lib.hid (Below.refl _ _)⟩
      case round =>
        obtain ⟨j, q, rfl, rfl, hj, Hm, HB⟩ := hrel
        by_cases hjn : j < n
        · have hr := Hw0.out.below (bstep HB2.out HB.out)
          obtain ⟨pb, poff, rfl, hd, c0, c1, c2, c3, c4⟩ := hr.at hjn
          have hS := HS.out j hjn
          have hBd := HBd.out (j + 1) (by omega)
          clear hr
          generalize rat es j = X at *
          obtain ⟨⟨off, x⟩, dv⟩ := X
          dsimp only at *
          obtain ⟨da, dc, hdv, _, _⟩ := hd.shape0
          subst hdv
          obtain ⟨xk, xc, xd, xl⟩ := x
          dsimp only at *
          clear hd
          generalize hl : xl.length = l at *
          have HZ := Lib.hid (fun W => rsizeB l W)
          generalize szN l = z at *
          rw [hS, ← Hm.out] at hBd
          have HN := Lib.hid (show q + z = allB (L.take (j + 1)) by rw [hS, Hm.out])
          have hpz : IntKind.i64.wrap ((q : Int) + (z : Int)) = ((q + z : Nat) : Int) := (IntWalk.i64_in _ (by omega)).trans (by omega)
          have i1 : (j : Int) < (n : Int) := by omega
          clear hS hl
          go_wp2_with fail
          refine (HZ.out _).mono ?_; rintro e w3 ⟨rfl, rfl⟩
          go_wp2_with fail
          exact ⟨⟨j + 1, q + z, by go_num, rfl, by omega, HN, HB⟩, by simp [intOf]; omega⟩
        · obtain rfl : j = n := by omega
          have hq := Hm.out
          rw [HE.out] at hq
          have hqb := HBd.out j (Nat.le_refl _)
          rw [HE.out, ← hq] at hqb
          obtain ⟨e1, e2⟩ := HLQ.out
          rw [← hq] at e2
          have hpz : IntKind.i64.wrap ((q : Int) - (p : Int)) = (R2 : Int) := (IntWalk.i64_in _ (by omega)).trans (by omega)
          have HBz := Lib.hid (bstep HB2.out HB.out)
          subst e1
          clear hq e2
          go_wp2_with fail
          exact bodyPost_ret (v := .tuple #[.int .i64 (p : Int), .int .i64 (R2 : Int)]) (by simp [results, Tryz.results32, go_sem]) rfl ⟨rfl, HBz.out⟩
end Go.Proofs.YthomhflkldhdaaaGreatDoor

namespace Go.Proofs.YthomhflkldhdaaaGreatDoor

theorem items_ins {M : Mp} (h : VldM M) {x : It} (hx : okB x = true) (hg : M.garb + (szO (getM M x.key) : Int) ≤ 1099511627776) : itemsM (insM M x) = ins (itemsM M) x := by
  have ha := itemsM_asc M
  have hb := itemsM_asc (insM M x)
  refine asc_ext _ _ (pw_of hb) (pw_of (ins_ascA ha x)) fun k => ?_
  have h1 := fnd_itemsM (insM M x) k
  rw [srt_of_asc hb] at h1
  have h2 := fnd_itemsM M k
  rw [srt_of_asc ha] at h2
  rw [h1, fnd_ins', h2, getM_ins h hx hg]
theorem items_del {M : Mp} (h : VldM M) {key : Int} (hg : M.garb + (szO (getM M key) : Int) ≤ 1099511627776) : itemsM (delM M key) = drp (itemsM M) key := by
  have ha := itemsM_asc M
  have hb := itemsM_asc (delM M key)
  refine asc_ext _ _ (pw_of hb) (pw_of (drp_asc ha key)) fun k => ?_
  have h1 := fnd_itemsM (delM M key) k
  rw [srt_of_asc hb] at h1
  have h2 := fnd_itemsM M k
  rw [srt_of_asc ha] at h2
  rw [h1, fnd_drp', h2, getM_del h hg]
  by_cases e : key = k
  · rw [if_pos e, if_pos e.symm]
  · rw [if_neg e, if_neg (fun h => e h.symm)]
theorem items_waste {M : Mp} (h : VldM M) {n : Int} (h0 : 0 ≤ n) (hg : M.garb + n ≤ 1099511627776) : itemsM (wasteM M n) = itemsM M := by
  rw [itemsM_of (h.waste h0 hg), itemsM_of h]
  unfold allM
  rw [wasteM_st]
theorem recsOf_snoc : ∀ (K : List Nd) (p : Nat) (x : Nd), recsOf p (K ++ [x]) = recsOf p K ++ [⟨((p + nsum K : Nat) : Int), x⟩]
  | [], p, x => by simp [recsOf, nsum]
  | y :: K, p, x => by
    have ih := recsOf_snoc K (p + nsz y.data.length) x
    rw [List.cons_append]
    unfold recsOf
    rw [ih, nsum_cons, Nat.add_assoc]
    rfl
theorem szL_nsum : ∀ {K : List Nd}, (∀ x ∈ K, x.ok) → szL K = nsum K
  | [], _ => rfl
  | x :: K, h => by
    rw [szL_cons, nsum_cons, szL_nsum (fun y hy => h y (by simp [hy])), szN_of (h x (by simp)).1]
theorem scan_items (z : Int) (hz : 1 ≤ z ∧ z ≤ 8) : ∀ (n : Nat) (K : List Nd), K.length = n → (∀ x ∈ K, x.ok) → 16 + (szL K : Int) ≤ 1048576 → itemsM (addAll (fresh z) K).m = itemsP (recsOf 16 K)
  | 0, K, h, _, _ => by
    rw [List.length_eq_zero_iff.1 h]
    rfl
  | n + 1, K, h, hok, hs => by
    obtain ⟨u, y, rfl⟩ : ∃ u y, K = u ++ [y] := by
      have hv : K ≠ [] := fun e => by rw [e] at h; cases h
      exact ⟨K.dropLast, K.getLast hv, (List.dropLast_concat_getLast hv).symm⟩
    have hu : ∀ x ∈ u, x.ok := fun x hx => hok x (by simp [hx])
    have hy : y.ok := hok y (by simp)
    have hsu : 16 + (szL u : Int) ≤ 1048576 := by rw [szL_snoc] at hs; omega
    have ih := scan_items z hz n u (by rw [List.length_append] at h; simpa using h) hu hsu
    have hv := addAll_vld u (fresh_vld' hz) hu (by show (16 : Int) + _ ≤ _; exact hsu)
    have hm := (vldM_iff _).1 hv.m
    have hsm := hv.small
    have hsz : (addAll (fresh z) u).size = ((16 + nsum u : Nat) : Int) := by
      rw [addAll_size, szL_nsum hu]
      show (16 : Int) + _ = _
      omega
    rw [addAll_snoc, recsOf_snoc, itemsP_snoc, ← ih]
    generalize addAll (fresh z) u = g at *
    unfold addOne stepI
    dsimp only
    by_cases hd : y.del = true
    · rw [if_pos hd, if_pos hd]
      have h1 : g.m.garb + (szO (getM g.m y.key) : Int) ≤ 1099511627776 := by have := szO_le (getM g.m y.key); omega
      have hds := delM_sum hm h1
      have hl := (hm.del h1).live0
      have := szN_le y.data.length
      rw [items_waste (hm.del h1) (by omega) (by omega), items_del hm h1]
    · rw [if_neg hd, if_neg hd]
      have e : itA g y = itR ⟨((16 + nsum u : Nat) : Int), y⟩ := by unfold itA itR; rw [hsz]
      rw [← e]
      exact items_ins hm (itA_ok hv hy) (by have := szO_le (getM g.m (itA g y).key); omega)
/-- What a scan of a generation's file finds. -/
theorem scan_gen (z : Int) (hz : 1 ≤ z ∧ z ≤ 8) (K : List Nd) (hok : ∀ x ∈ K, x.ok) (hs : 16 + (szL K : Int) ≤ 1048576) :
    (addAll (fresh z) K).size = ((16 + nsum K : Nat) : Int) ∧ itemsM (addAll (fresh z) K).m = itemsP (recsOf 16 K) ∧ (addAll (fresh z) K).m.live = (liveP (recsOf 16 K) : Int) ∧ (addAll (fresh z) K).m.garb = (restP (recsOf 16 K) : Int) := by
  have hi := scan_items z hz _ K rfl hok hs
  have hv := addAll_vld K (fresh_vld' hz) hok (by show (16 : Int) + _ ≤ _; exact hs)
  have hl := itemsM_sum ((vldM_iff _).1 hv.m)
  rw [hi, sum_itemsP] at hl
  have hz' : (addAll (fresh z) K).size = ((16 + nsum K : Nat) : Int) := by
    rw [addAll_size, szL_nsum hok]
    show (16 : Int) + _ = _
    omega
  have ha := live_all (recsOf 16 K)
  have hb : allB (recsOf 16 K) = nsum K := by
    unfold allB
    rw [show (recsOf 16 K).map szR = K.map fun x => szN x.data.length from by
      have := congrArg (List.map fun x : Nd => szN x.data.length) (recsOf_nd K 16)
      rw [List.map_map] at this
      exact this]
    exact szL_nsum hok
  have hsum := hv.sum
  refine ⟨hz', hi, hl.symm, ?_⟩
  omega
end Go.Proofs.YthomhflkldhdaaaGreatDoor
