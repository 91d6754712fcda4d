/- The law's awake, and what opening a written file gives. -/
import Derived.Test.YtecflhklpkjhcaaIq
namespace Go.Proofs.Ytecflhklpkjhcaa
open Go.RowKit

theorem fileB_app (k : List Nd) (t : List UInt8) : fileB k ++ t = senc fsup ++ (nencs k ++ t) := by rw [fileB, List.append_assoc]
theorem nsum_ge : ∀ k : List Nd, 24 * k.length ≤ nsum k
  | [] => by simp [nsum]
  | x :: k => by
    have h1 := nsum_ge k
    have h2 := nsz_bounds x.data.length
    rw [nsum_cons, List.length_cons]; omega
theorem open_file (k : List Nd) (t : List UInt8) (hk : ∀ x ∈ k, x.ok ∧ x.Wf) (ht : (ndec t).1 ≠ 0) : openF (fileB k ++ t) = (0, fsup, recsOf 16 k, 16 + nsum k) := by
  have hd : sdec (fileB k ++ t) = (0, fsup) := by rw [fileB_app]; exact sdec_enc fsup_ok _
  have hr := recs_enc k ((fileB k ++ t).length + 1) (fileB k ++ t) (senc fsup) t (fileB_app k t) (by have := nsum_ge k; rw [List.length_append, fileB_length]; omega) hk ht
  rw [senc_length] at hr
  unfold openF
  rw [hd, if_pos rfl, hr]
theorem ndec_nil : (ndec []).1 ≠ 0 := by
  intro h
  have := (ndec_size h).2.1
  have := (ndec_size h).1
  simp at *; omega
theorem open_empty : openF [] = (4, sup0, [], 0) := by
  have : sdec [] = (4, sup0) := rfl
  unfold openF; rw [this, if_neg (by decide)]
def aw1 : List (Rec × Value) := [(⟨16, ⟨1, 0, false, []⟩⟩, .slice none 0 0), (⟨40, ⟨1, 0, true, []⟩⟩, .slice none 0 0)]
def aw2 : List (Rec × Value) := [(⟨16, ⟨1, 0, false, []⟩⟩, .slice none 0 0)]
theorem aw1_items : (itemsP (aw1.map (·.1))).length = 0 := rfl
theorem aw2_items : (itemsP (aw2.map (·.1))).length = 1 := rfl
theorem aw1_rd (k : Nat) (w : World) (hk : w.heap.size = k) : RdR (w.alloc (.cells #[.int .i64 16, .int .u64 1, .int .u32 0, .bool false, .slice none 0 0, .int .i64 40, .int .u64 1, .int .u32 0, .bool true, .slice none 0 0] 43)) (.slice (some ⟨k, 0, none⟩) 2 2) aw1 :=
  ⟨Rd.newK k w hk 5 [.int .i64 16, .int .u64 1, .int .u32 0, .bool false, .slice none 0 0, .int .i64 40, .int .u64 1, .int .u32 0, .bool true, .slice none 0 0] 43 2 rfl (by decide), fun p hp => by
    simp only [aw1, List.mem_cons, List.not_mem_nil, or_false] at hp
    rcases hp with rfl | rfl <;> exact RdB_nil _⟩
theorem aw2_rd (w : World) : RdR (w.alloc (.cells #[.int .i64 16, .int .u64 1, .int .u32 0, .bool false, .slice none 0 0] 43)) (.slice (some ⟨w.heap.size, 0, none⟩) 1 1) aw2 :=
  ⟨Rd.new w 5 [.int .i64 16, .int .u64 1, .int .u32 0, .bool false, .slice none 0 0] 43 1 rfl (by decide), fun p hp => by
    simp only [aw2, List.mem_cons, List.not_mem_nil, or_false] at hp
    rcases hp with rfl; exact RdB_nil _⟩
theorem rdN_nil (w : World) : RdN w (.slice none 0 0) [] := ⟨own_rd (World.ownsRow_nil w 0 31 4), fun p hp => by cases hp⟩
set_option maxRecDepth 100000 in
set_option maxHeartbeats 1000000 in
theorem awake_any (w : World) : Calls Try.prog 13 #[] w fun e w' => e = .returned (.bool true) ∧ Below w.heap.size w w' := by
  have HFl := Lib.hid (file_any (.slice none 0 0) [] w (rdN_nil w) (fun p hp => by cases hp) (by simp))
  have HO1 := Lib.hid (fun v W (h : RdB W v (fileB [])) => open_any v (fileB []) W h (by rw [fileB_length]; simp [nsum]))
  have HF1 := Lib.hid (show openF (fileB []) = (0, fsup, [], 16) by have := open_file [] [] (fun x hx => by cases hx) ndec_nil; rw [List.append_nil] at this; exact this)
  have HO2 := Lib.hid (fun W => open_any (.slice none 0 0) [] W (RdB_nil W) (by simp))
  have HI1 := Lib.hid (fun k W hk => items_any _ aw1 _ (aw1_rd k W hk) (fun p hp => by simp only [aw1, List.mem_cons, List.not_mem_nil, or_false] at hp; rcases hp with rfl | rfl <;> decide) (by decide))
  have HI2 := Lib.hid (fun W => items_any _ aw2 _ (aw2_rd W) (fun p hp => by simp only [aw2, List.mem_cons, List.not_mem_nil, or_false] at hp; rcases hp with rfl; decide) (by decide))
  go_enter Try.func13, Try.ntmps13
  go_wp2_with fail
  refine HFl.out.mono ?_; rintro e w1 ⟨bv, nv, rfl, hown, _, hb1⟩
  have HB1 := Lib.hid hb1
  have HR1 := Lib.hid (show RdB w1 bv (fileB []) from hown.rd)
  clear hown hb1
  go_wp2_with fail
  refine (HO1.out bv w1 HR1.out).mono ?_; rintro e w2 ⟨⟨lv, es, rfl, hown, hes⟩, hb2⟩
  rw [HF1.out] at hes
  have hes0 : es = [] := List.map_eq_nil_iff.1 hes
  subst hes0
  obtain ⟨oa, oc, hlv, _⟩ := own_form hown.row
  subst hlv
  have HB2 := Lib.hid (bstep HB1.out hb2)
  rw [HF1.out]
  clear hown hes hb2
  go_wp2_with fail
  have HB2a := Lib.hid (show Below w.heap.size w (w2.alloc (.cells #[.int .i64 (fsup.slot : Int), .int .i64 (fsup.gen : Int), .int .i64 (fsup.rev : Int)] 37)) from HB2.out.alloc HB2.out.size _)
  refine (HO2.out _).mono ?_; rintro e w3 ⟨⟨lv, es, rfl, hown, hes⟩, hb3⟩
  have HB3 := Lib.hid (bstep HB2a.out hb3)
  rw [open_empty]
  obtain ⟨oa', oc', hlv, _⟩ := own_form hown.row
  subst hlv
  clear hown hes hb3
  go_wp2_with fail
  have HB3a := Lib.hid (show Below w.heap.size w (w3.alloc (.cells #[.int .i64 (sup0.slot : Int), .int .i64 (sup0.gen : Int), .int .i64 (sup0.rev : Int)] 37)) from HB3.out.alloc HB3.out.size _)
  have hs4 : (w3.alloc (.cells #[.int .i64 (sup0.slot : Int), .int .i64 (sup0.gen : Int), .int .i64 (sup0.rev : Int)] 37)).heap.size = w3.heap.size + 1 := by simp
  generalize hW4 : w3.alloc (.cells #[.int .i64 (sup0.slot : Int), .int .i64 (sup0.gen : Int), .int .i64 (sup0.rev : Int)] 37) = w4 at *
  have HBa := Lib.hid (HB3a.out.alloc HB3a.out.size (.cells #[.int .i64 16, .int .u64 1, .int .u32 0, .bool false, .slice none 0 0, .int .i64 40, .int .u64 1, .int .u32 0, .bool true, .slice none 0 0] 43))
  clear hW4
  refine (HI1.out (w3.heap.size + 1) w4 hs4).mono ?_; rintro e w5 ⟨lv5, rfl, hown5, hb5⟩
  have HB5 := Lib.hid (bstep HBa.out hb5)
  obtain ⟨a5, c5, hlv, _⟩ := own_form hown5
  subst hlv
  rw [aw1_items]
  clear hown5 hb5
  go_wp2_with fail
  have HBb := Lib.hid (HB5.out.alloc HB5.out.size (.cells #[.int .i64 16, .int .u64 1, .int .u32 0, .bool false, .slice none 0 0] 43))
  refine (HI2.out w5).mono ?_; rintro e w6 ⟨lv6, rfl, hown6, hb6⟩
  have HB6 := Lib.hid (bstep HBb.out hb6)
  obtain ⟨a6, c6, hlv, _⟩ := own_form hown6
  subst hlv
  rw [aw2_items]
  clear hown6 hb6
  go_wp2_with fail
  go_ret
  exact ⟨rfl, HB6.out⟩
end Go.Proofs.Ytecflhklpkjhcaa
