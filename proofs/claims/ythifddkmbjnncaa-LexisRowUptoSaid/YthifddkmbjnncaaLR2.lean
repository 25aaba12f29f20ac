/-
  Texts of this claim, joined (by a program of the claim's author): Refer, Undo, NamePlain, ItemPlain, Items, CheckPlain, Starts, Start, Part, Name, REsc, Count, Names.
-/
import Derived.Test.YthifddkmbjnncaaLR1
import Derived.ScopeJumps
import Derived.Below
import Derived.Laws.OwnMore
import Derived.Deep.AppendLies
import Derived.Deep.Draws
import Derived.Laws.Rows
import Derived.Deep.WholeRow
namespace Go.Proofs.Ythifddkmbjnncaa
set_option maxRecDepth 100000
set_option maxHeartbeats 16000000
section
open Go.RowKit
theorem digit_any (x base : Int) (w : World) (h0 : 0 ≤ x) (h1 : x < 256) :
  Calls Try.prog 138 #[.int .u8 x, .int .i32 base] w fun e w' => e = .returned (.int .i32 (digitV base x)) ∧ w = w' := by
 go_enter Try.func138, Try.ntmps138
 go_wp2
 all_goals go_ret
 all_goals (refine ⟨ret_int ?_, rfl⟩)
 all_goals (unfold digitV; repeat (first | omega | split))
theorem digit_as (x base : Int) (w : World) (h0 : 0 ≤ x) (h1 : x < 256) (d : Int) (h : Hid (digitV base x = d)) :
  Calls Try.prog 138 #[.int .u8 x, .int .i32 base] w fun e w' => e = .returned (.int .i32 d) ∧ w = w' := by
 have := digit_any x base w h0 h1
 rw [h.out] at this
 exact this
theorem isPrefixOf_pre : ∀ (p l : List UInt8), p.isPrefixOf l = pre p l
 | [], l => by cases l <;> rfl
 | a :: p, [] => rfl
 | a :: p, b :: l => by
  have ih := isPrefixOf_pre p l
  have e : pre (a :: p) (b :: l) = ((b == a) && pre p l) := by
   unfold pre; rw [List.length_cons, List.take_succ_cons]; exact List.cons_beq_cons
  rw [e, ← ih, List.isPrefixOf]
  congr 1
  rw [Bool.eq_iff_iff, beq_iff_eq, beq_iff_eq]; exact eq_comm
theorem hasPrefix_pre (s : ByteArray) (p : List UInt8) (w : World) :
  Calls Try.prog 69 #[.string s, .string ⟨p.toArray⟩] w fun e w' => e = .returned (.bool (pre p s.data.toList)) ∧ w = w' := by
 refine (Try.strings_HasPrefix s ⟨p.toArray⟩ w).mono ?_
 rintro e w' ⟨rfl, rfl⟩
 exact ⟨ret_bool (isPrefixOf_pre _ _), rfl⟩
theorem reference_0 (s : ByteArray) (w : World) (h0 : pre [38, 97, 109, 112, 59] s.data.toList = true) :
  Calls Try.prog 116 #[.string s] w (Ret w (.tuple #[.int .i32 38, .int .i64 5])) := by
 go_enter Try.func116, Try.ntmps116
 go_wp2
 go_step3
 go_wp2
 refine wp_loop_rounds 6 ?_
 rw [rounds_succ]
 go_wp2_with (first | (go_at_call 69; refine (hasPrefix_pre _ _ _).mono ?_; rintro e w' ⟨rfl, rfl⟩) | go_in)
 rw [Exit.noGoto_ret]
 go_ret2
 exact ⟨rfl, (Below.refl _ _).alloc (Nat.le_refl _) _⟩
theorem reference_1 (s : ByteArray) (w : World) (h0 : pre [38, 97, 109, 112, 59] s.data.toList = false) (h1 : pre [38, 108, 116, 59] s.data.toList = true) :
  Calls Try.prog 116 #[.string s] w (Ret w (.tuple #[.int .i32 60, .int .i64 4])) := by
 go_enter Try.func116, Try.ntmps116
 go_wp2
 go_step3
 go_wp2
 refine wp_loop_rounds 6 ?_
 rw [rounds_succ]
 go_wp2_with (first | (go_at_call 69; refine (hasPrefix_pre _ _ _).mono ?_; rintro e w' ⟨rfl, rfl⟩) | go_in)
 rw [rounds_succ]
 go_wp2_with (first | (go_at_call 69; refine (hasPrefix_pre _ _ _).mono ?_; rintro e w' ⟨rfl, rfl⟩) | go_in)
 rw [Exit.noGoto_ret]
 go_ret2
 exact ⟨rfl, (Below.refl _ _).alloc (Nat.le_refl _) _⟩
theorem reference_2 (s : ByteArray) (w : World) (h0 : pre [38, 97, 109, 112, 59] s.data.toList = false) (h1 : pre [38, 108, 116, 59] s.data.toList = false) (h2 : pre [38, 103, 116, 59] s.data.toList = true) :
  Calls Try.prog 116 #[.string s] w (Ret w (.tuple #[.int .i32 62, .int .i64 4])) := by
 go_enter Try.func116, Try.ntmps116
 go_wp2
 go_step3
 go_wp2
 refine wp_loop_rounds 6 ?_
 rw [rounds_succ]
 go_wp2_with (first | (go_at_call 69; refine (hasPrefix_pre _ _ _).mono ?_; rintro e w' ⟨rfl, rfl⟩) | go_in)
 rw [rounds_succ]
 go_wp2_with (first | (go_at_call 69; refine (hasPrefix_pre _ _ _).mono ?_; rintro e w' ⟨rfl, rfl⟩) | go_in)
 rw [rounds_succ]
 go_wp2_with (first | (go_at_call 69; refine (hasPrefix_pre _ _ _).mono ?_; rintro e w' ⟨rfl, rfl⟩) | go_in)
 rw [Exit.noGoto_ret]
 go_ret2
 exact ⟨rfl, (Below.refl _ _).alloc (Nat.le_refl _) _⟩
theorem reference_3 (s : ByteArray) (w : World) (h0 : pre [38, 97, 109, 112, 59] s.data.toList = false) (h1 : pre [38, 108, 116, 59] s.data.toList = false) (h2 : pre [38, 103, 116, 59] s.data.toList = false) (h3 : pre [38, 113, 117, 111, 116, 59] s.data.toList = true) :
  Calls Try.prog 116 #[.string s] w (Ret w (.tuple #[.int .i32 34, .int .i64 6])) := by
 go_enter Try.func116, Try.ntmps116
 go_wp2
 go_step3
 go_wp2
 refine wp_loop_rounds 6 ?_
 rw [rounds_succ]
 go_wp2_with (first | (go_at_call 69; refine (hasPrefix_pre _ _ _).mono ?_; rintro e w' ⟨rfl, rfl⟩) | go_in)
 rw [rounds_succ]
 go_wp2_with (first | (go_at_call 69; refine (hasPrefix_pre _ _ _).mono ?_; rintro e w' ⟨rfl, rfl⟩) | go_in)
 rw [rounds_succ]
 go_wp2_with (first | (go_at_call 69; refine (hasPrefix_pre _ _ _).mono ?_; rintro e w' ⟨rfl, rfl⟩) | go_in)
 rw [rounds_succ]
 go_wp2_with (first | (go_at_call 69; refine (hasPrefix_pre _ _ _).mono ?_; rintro e w' ⟨rfl, rfl⟩) | go_in)
 rw [Exit.noGoto_ret]
 go_ret2
 exact ⟨rfl, (Below.refl _ _).alloc (Nat.le_refl _) _⟩
theorem reference_4 (s : ByteArray) (w : World) (h0 : pre [38, 97, 109, 112, 59] s.data.toList = false) (h1 : pre [38, 108, 116, 59] s.data.toList = false) (h2 : pre [38, 103, 116, 59] s.data.toList = false) (h3 : pre [38, 113, 117, 111, 116, 59] s.data.toList = false) (h4 : pre [38, 97, 112, 111, 115, 59] s.data.toList = true) :
  Calls Try.prog 116 #[.string s] w (Ret w (.tuple #[.int .i32 39, .int .i64 6])) := by
 go_enter Try.func116, Try.ntmps116
 go_wp2
 go_step3
 go_wp2
 refine wp_loop_rounds 6 ?_
 rw [rounds_succ]
 go_wp2_with (first | (go_at_call 69; refine (hasPrefix_pre _ _ _).mono ?_; rintro e w' ⟨rfl, rfl⟩) | go_in)
 rw [rounds_succ]
 go_wp2_with (first | (go_at_call 69; refine (hasPrefix_pre _ _ _).mono ?_; rintro e w' ⟨rfl, rfl⟩) | go_in)
 rw [rounds_succ]
 go_wp2_with (first | (go_at_call 69; refine (hasPrefix_pre _ _ _).mono ?_; rintro e w' ⟨rfl, rfl⟩) | go_in)
 rw [rounds_succ]
 go_wp2_with (first | (go_at_call 69; refine (hasPrefix_pre _ _ _).mono ?_; rintro e w' ⟨rfl, rfl⟩) | go_in)
 rw [rounds_succ]
 go_wp2_with (first | (go_at_call 69; refine (hasPrefix_pre _ _ _).mono ?_; rintro e w' ⟨rfl, rfl⟩) | go_in)
 rw [Exit.noGoto_ret]
 go_ret2
 exact ⟨rfl, (Below.refl _ _).alloc (Nat.le_refl _) _⟩
theorem reference_none (s : ByteArray) (w : World) (h0 : pre [38, 97, 109, 112, 59] s.data.toList = false) (h1 : pre [38, 108, 116, 59] s.data.toList = false) (h2 : pre [38, 103, 116, 59] s.data.toList = false) (h3 : pre [38, 113, 117, 111, 116, 59] s.data.toList = false) (h4 : pre [38, 97, 112, 111, 115, 59] s.data.toList = false) (h5 : pre [38, 35] s.data.toList = false) :
  Calls Try.prog 116 #[.string s] w (Ret w (.tuple #[.int .i32 0, .int .i64 0])) := by
 go_enter Try.func116, Try.ntmps116
 go_wp2
 refine wp_scope_jumps 0 (fun a' w' => a'.defers = [] ∧ a'.tmps.size = 68 ∧ Below w.heap.size w w') (fun _ _ => 0) rfl ?_ ?_
 ·go_wp2
  refine wp_loop_rounds 6 ?_
  rw [rounds_succ]
  go_wp2_with (first | (go_at_call 69; refine (hasPrefix_pre _ _ _).mono ?_; rintro e w' ⟨rfl, rfl⟩) | go_in)
  rw [rounds_succ]
  go_wp2_with (first | (go_at_call 69; refine (hasPrefix_pre _ _ _).mono ?_; rintro e w' ⟨rfl, rfl⟩) | go_in)
  rw [rounds_succ]
  go_wp2_with (first | (go_at_call 69; refine (hasPrefix_pre _ _ _).mono ?_; rintro e w' ⟨rfl, rfl⟩) | go_in)
  rw [rounds_succ]
  go_wp2_with (first | (go_at_call 69; refine (hasPrefix_pre _ _ _).mono ?_; rintro e w' ⟨rfl, rfl⟩) | go_in)
  rw [rounds_succ]
  go_wp2_with (first | (go_at_call 69; refine (hasPrefix_pre _ _ _).mono ?_; rintro e w' ⟨rfl, rfl⟩) | go_in)
  rw [rounds_succ]
  go_wp2_with (first | (go_at_call 69; refine (hasPrefix_pre _ _ _).mono ?_; rintro e w' ⟨rfl, rfl⟩) | go_in)
  go_step3
  refine ⟨rfl, rfl, rfl, (Below.refl _ _).alloc (Nat.le_refl _) _⟩
 ·rintro ⟨tmps, defers⟩ w' ⟨rfl, hsz, hb⟩
  simp only at hsz
  go_wp2
  simp only [Exit.jump]
  go_ret2
  exact ⟨by simp [hsz], hb⟩
theorem reference_ten (s : ByteArray) (w : World) (_hs : s.size ≤ maxLen) (h0 : pre [38, 97, 109, 112, 59] s.data.toList = false) (h1 : pre [38, 108, 116, 59] s.data.toList = false) (h2 : pre [38, 103, 116, 59] s.data.toList = false) (h3 : pre [38, 113, 117, 111, 116, 59] s.data.toList = false) (h4 : pre [38, 97, 112, 111, 115, 59] s.data.toList = false) (h5 : pre [38, 35] s.data.toList = true) (h6 : pre [38, 35, 120] s.data.toList = false) (hat : 2 ≤ s.size) (V : Int × Nat) (hV : Hid (V = pick 2 (scanL 10 0 0 (s.data.toList.drop 2)))) :
  Calls Try.prog 116 #[.string s] w (Ret w (.tuple #[.int .i32 V.1, .int .i64 (V.2 : Nat)])) := by
 unfold maxLen at _hs
 have hl := size_toList s
 have HL := Lib.hid hl
 clear hl
 have H0 := Lib.hid h0; have H1 := Lib.hid h1
 go_enter Try.func116, Try.ntmps116
 go_wp2
 refine wp_scope_jumps 0 (fun a' w' => a'.defers = [] ∧ a'.tmps.size = 68 ∧ Below w.heap.size w w' ∧ V = (0, 0)) (fun _ _ => 0) rfl ?_ ?_
 ·go_wp2
  refine wp_loop_rounds 6 ?_
  rw [rounds_succ]
  go_wp2_with (first | (go_at_call 69; refine (hasPrefix_pre _ _ _).mono ?_; rintro e w' ⟨rfl, rfl⟩) | go_in)
  rw [rounds_succ]
  go_wp2_with (first | (go_at_call 69; refine (hasPrefix_pre _ _ _).mono ?_; rintro e w' ⟨rfl, rfl⟩) | go_in)
  rw [rounds_succ]
  go_wp2_with (first | (go_at_call 69; refine (hasPrefix_pre _ _ _).mono ?_; rintro e w' ⟨rfl, rfl⟩) | go_in)
  rw [rounds_succ]
  go_wp2_with (first | (go_at_call 69; refine (hasPrefix_pre _ _ _).mono ?_; rintro e w' ⟨rfl, rfl⟩) | go_in)
  rw [rounds_succ]
  go_wp2_with (first | (go_at_call 69; refine (hasPrefix_pre _ _ _).mono ?_; rintro e w' ⟨rfl, rfl⟩) | go_in)
  rw [rounds_succ]
  go_wp2_with (first | (go_at_call 69; refine (hasPrefix_pre _ _ _).mono ?_; rintro e w' ⟨rfl, rfl⟩) | go_in)
  go_loop [4, 10] (fun c i => ∃ (k : Nat) (cv : Int), k ≤ 7 ∧ 2 + k ≤ s.size ∧ i = .int .i64 ((2 + k : Nat) : Int) ∧ c = .int .i32 cv ∧ 0 ≤ cv ∧ cv < 16 ^ k ∧ Hid (V = pick 2 (scanL 10 k cv (s.data.toList.drop (2 + k))))) (fun _ i => s.size - (intOf i).toNat)
  case atStart => exact ⟨0, 0, by omega, by omega, rfl, rfl, by omega, by decide, hV⟩
  case round =>
   obtain ⟨k, cv, hk7, hks, rfl, rfl, hc0, hc1, hsc⟩ := hrel
   have hp16 : (16 : Int) ^ k ≤ 268435456 := by
    rcases (by omega : k = 0 ∨ k = 1 ∨ k = 2 ∨ k = 3 ∨ k = 4 ∨ k = 5 ∨ k = 6 ∨ k = 7) with rfl | rfl | rfl | rfl | rfl | rfl | rfl | rfl <;> decide
   have hp6 : k < 7 → (16 : Int) ^ k ≤ 16777216 := by
    intro h
    rcases (by omega : k = 0 ∨ k = 1 ∨ k = 2 ∨ k = 3 ∨ k = 4 ∨ k = 5 ∨ k = 6) with rfl | rfl | rfl | rfl | rfl | rfl | rfl <;> decide
   have hcv : cv < 268435456 := by omega
   have hcv6 : k < 7 → cv < 16777216 := fun h => by have := hp6 h; omega
   have HC1 := Lib.hid hc1
   have HC6 := Lib.hid hcv6
   clear hc1 hp16 hp6 hcv6
   by_cases hend : s.size ≤ 2 + k
   ·have hv : Hid (V = (0, 0)) := by
     have : s.data.toList.drop (2 + k) = [] := List.drop_eq_nil_of_le (by have := HL.out; omega)
     show _ = _
     rw [hsc.out, this]; rfl
    go_wp2_with fail
    go_step3
    go_wp2_with fail
    simp only [Exit.jump]
    go_ret2
    exact ⟨by rw [hv.out]; rfl, (Below.refl _ _).alloc (Nat.le_refl _) _⟩
   ·have hj : 2 + k < s.size := by omega
    obtain ⟨x, HX⟩ : ∃ x, Hid (s.data.toList[2 + k]? = some x) := ⟨s.data.toList[2 + k]'(by have := HL.out; omega), List.getElem?_eq_getElem _⟩
    have hsx : s[2 + k] = x := getk_of s (2 + k) x HX.out hj
    have hdr : s.data.toList.drop (2 + k) = x :: s.data.toList.drop (2 + k + 1) := by
     have hj' : 2 + k < s.data.toList.length := by have := HL.out; omega
     have hg := HX.out
     rw [List.getElem?_eq_getElem hj'] at hg
     rw [List.drop_eq_getElem_cons hj', Option.some.inj hg]
    have HDR := Lib.hid hdr
    clear hdr
    have hx1 : (x.toNat : Int) < 256 := by have := x.toNat_lt; omega
    have hxe : (x = 59) ↔ (x.toNat : Int) = 59 := by
     constructor
     ·rintro rfl; rfl
     ·intro h; exact UInt8.toNat_inj.1 (by have : (59 : UInt8).toNat = 59 := rfl; omega)
    have HXE := Lib.hid hxe
    clear hxe
    by_cases hA : (x.toNat : Int) = 59 ∧ 0 < k
    ·obtain ⟨hA1, hA2⟩ := hA
     have hv : Hid (V = (cv, 2 + k + 1)) := by
      show _ = _
      rw [hsc.out, HDR.out]
      simp only [scanL]
      rw [if_pos ⟨HXE.out.2 hA1, hA2⟩]; rfl
     have hx59 : ((x.toNat : Int) == 59) = true := by simp [hA1]
     clear hA1
     go_wp2_with fail
     simp only [Exit.jump]
     go_ret2
     exact ⟨by rw [hv.out]; exact ret_ii rfl (by omega), (Below.refl _ _).alloc (Nat.le_refl _) _⟩
    ·have hcond : ¬ (x = 59 ∧ 0 < k) := fun h => hA ⟨HXE.out.1 h.1, h.2⟩
     have hstep : scanL 10 k cv (s.data.toList.drop (2 + k)) = if digitV 10 x.toNat < 0 ∨ 7 ≤ k then none else scanL 10 (k + 1) (cv * 10 + digitV 10 x.toNat) (s.data.toList.drop (2 + k + 1)) := by
      rw [HDR.out]; simp only [scanL]; rw [if_neg hcond]
     have hdb := digitV_bd 10 x.toNat
     have h59d : (x.toNat : Int) = 59 → digitV 10 x.toNat = -1 := fun h => by rw [h]; decide
     generalize hdv : digitV 10 x.toNat = dv at *
     have HDV := Lib.hid hdv
     clear hdv hcond
     obtain ⟨hdb0, hdb1⟩ := hdb
     have HS := Lib.hid hstep
     clear hstep
     by_cases hB : dv < 0 ∨ 7 ≤ k
     ·have hv : Hid (V = (0, 0)) := by
       show _ = _
       rw [hsc.out, HS.out, if_pos hB]; rfl
      by_cases h59 : (x.toNat : Int) = 59
      ·have hk0 : k ≤ 0 := by omega
       have hdv1 := h59d h59
       have hx59 : ((x.toNat : Int) == 59) = true := by simp [h59]
       have hlt0 : dv < 0 := by omega
       clear h59 h59d hA hdv1 hB
       go_wp2_with (go_at_call 138; refine (digit_as _ _ _ (by omega) (by omega) dv HDV).mono ?_; rintro e w' ⟨rfl, rfl⟩)
       go_step3
       exact ⟨rfl, rfl, rfl, (Below.refl _ _).alloc (Nat.le_refl _) _, hv.out⟩
      ·have hx59 : ((x.toNat : Int) == 59) = false := by simp [h59]
       clear h59 h59d hA
       by_cases hlt0 : dv < 0
       ·clear hB
        go_wp2_with (go_at_call 138; refine (digit_as _ _ _ (by omega) (by omega) dv HDV).mono ?_; rintro e w' ⟨rfl, rfl⟩)
        go_step3
        exact ⟨rfl, rfl, rfl, (Below.refl _ _).alloc (Nat.le_refl _) _, hv.out⟩
       ·have h7 : 7 ≤ k := by omega
        clear hB
        go_wp2_with (go_at_call 138; refine (digit_as _ _ _ (by omega) (by omega) dv HDV).mono ?_; rintro e w' ⟨rfl, rfl⟩)
        go_step3
        exact ⟨rfl, rfl, rfl, (Below.refl _ _).alloc (Nat.le_refl _) _, hv.out⟩
     ·have hlt0 : 0 ≤ dv := by omega
      have hk7 : k < 7 := by omega
      have hcv7 := HC6.out hk7
      have hpw : cv * 10 + dv < 16 ^ (k + 1) := by
       have := HC1.out
       rw [Int.pow_succ]; omega
      have HPW := Lib.hid hpw
      have hsn : Hid (V = pick 2 (scanL 10 (k + 1) (cv * 10 + dv) (s.data.toList.drop (2 + k + 1)))) := by
       show _ = _
       rw [hsc.out, HS.out, if_neg hB]
      clear hpw hB
      by_cases h59 : (x.toNat : Int) = 59
      ·have := h59d h59
       omega
      ·have hx59 : ((x.toNat : Int) == 59) = false := by simp [h59]
       clear h59 h59d hA
       go_wp2_with (go_at_call 138; refine (digit_as _ _ _ (by omega) (by omega) dv HDV).mono ?_; rintro e w' ⟨rfl, rfl⟩)
       go_round
       case rel => exact ⟨k + 1, cv * 10 + dv, by omega, by omega, by go_num, rfl, by omega, HPW.out, hsn⟩
       case measure => simp [intOf]; omega
 ·rintro ⟨tmps, defers⟩ w' ⟨rfl, hsz, hb, hv⟩
  simp only at hsz
  subst hv
  go_wp2
  simp only [Exit.jump]
  go_ret2
  exact ⟨by simp [hsz], hb⟩
theorem reference_hex (s : ByteArray) (w : World) (_hs : s.size ≤ maxLen) (h0 : pre [38, 97, 109, 112, 59] s.data.toList = false) (h1 : pre [38, 108, 116, 59] s.data.toList = false) (h2 : pre [38, 103, 116, 59] s.data.toList = false) (h3 : pre [38, 113, 117, 111, 116, 59] s.data.toList = false) (h4 : pre [38, 97, 112, 111, 115, 59] s.data.toList = false) (h5 : pre [38, 35] s.data.toList = true) (h6 : pre [38, 35, 120] s.data.toList = true) (hat : 3 ≤ s.size) (V : Int × Nat) (hV : Hid (V = pick 3 (scanL 16 0 0 (s.data.toList.drop 3)))) :
  Calls Try.prog 116 #[.string s] w (Ret w (.tuple #[.int .i32 V.1, .int .i64 (V.2 : Nat)])) := by
 unfold maxLen at _hs
 have hl := size_toList s
 have HL := Lib.hid hl
 clear hl
 have H0 := Lib.hid h0; have H1 := Lib.hid h1
 go_enter Try.func116, Try.ntmps116
 go_wp2
 refine wp_scope_jumps 0 (fun a' w' => a'.defers = [] ∧ a'.tmps.size = 68 ∧ Below w.heap.size w w' ∧ V = (0, 0)) (fun _ _ => 0) rfl ?_ ?_
 ·go_wp2
  refine wp_loop_rounds 6 ?_
  rw [rounds_succ]
  go_wp2_with (first | (go_at_call 69; refine (hasPrefix_pre _ _ _).mono ?_; rintro e w' ⟨rfl, rfl⟩) | go_in)
  rw [rounds_succ]
  go_wp2_with (first | (go_at_call 69; refine (hasPrefix_pre _ _ _).mono ?_; rintro e w' ⟨rfl, rfl⟩) | go_in)
  rw [rounds_succ]
  go_wp2_with (first | (go_at_call 69; refine (hasPrefix_pre _ _ _).mono ?_; rintro e w' ⟨rfl, rfl⟩) | go_in)
  rw [rounds_succ]
  go_wp2_with (first | (go_at_call 69; refine (hasPrefix_pre _ _ _).mono ?_; rintro e w' ⟨rfl, rfl⟩) | go_in)
  rw [rounds_succ]
  go_wp2_with (first | (go_at_call 69; refine (hasPrefix_pre _ _ _).mono ?_; rintro e w' ⟨rfl, rfl⟩) | go_in)
  rw [rounds_succ]
  go_wp2_with (first | (go_at_call 69; refine (hasPrefix_pre _ _ _).mono ?_; rintro e w' ⟨rfl, rfl⟩) | go_in)
  go_loop [4, 10] (fun c i => ∃ (k : Nat) (cv : Int), k ≤ 7 ∧ 3 + k ≤ s.size ∧ i = .int .i64 ((3 + k : Nat) : Int) ∧ c = .int .i32 cv ∧ 0 ≤ cv ∧ cv < 16 ^ k ∧ Hid (V = pick 3 (scanL 16 k cv (s.data.toList.drop (3 + k))))) (fun _ i => s.size - (intOf i).toNat)
  case atStart => exact ⟨0, 0, by omega, by omega, rfl, rfl, by omega, by decide, hV⟩
  case round =>
   obtain ⟨k, cv, hk7, hks, rfl, rfl, hc0, hc1, hsc⟩ := hrel
   have hp16 : (16 : Int) ^ k ≤ 268435456 := by
    rcases (by omega : k = 0 ∨ k = 1 ∨ k = 2 ∨ k = 3 ∨ k = 4 ∨ k = 5 ∨ k = 6 ∨ k = 7) with rfl | rfl | rfl | rfl | rfl | rfl | rfl | rfl <;> decide
   have hp6 : k < 7 → (16 : Int) ^ k ≤ 16777216 := by
    intro h
    rcases (by omega : k = 0 ∨ k = 1 ∨ k = 2 ∨ k = 3 ∨ k = 4 ∨ k = 5 ∨ k = 6) with rfl | rfl | rfl | rfl | rfl | rfl | rfl <;> decide
   have hcv : cv < 268435456 := by omega
   have hcv6 : k < 7 → cv < 16777216 := fun h => by have := hp6 h; omega
   have HC1 := Lib.hid hc1
   have HC6 := Lib.hid hcv6
   clear hc1 hp16 hp6 hcv6
   by_cases hend : s.size ≤ 3 + k
   ·have hv : Hid (V = (0, 0)) := by
     have : s.data.toList.drop (3 + k) = [] := List.drop_eq_nil_of_le (by have := HL.out; omega)
     show _ = _
     rw [hsc.out, this]; rfl
    go_wp2_with fail
    go_step3
    go_wp2_with fail
    simp only [Exit.jump]
    go_ret2
    exact ⟨by rw [hv.out]; rfl, (Below.refl _ _).alloc (Nat.le_refl _) _⟩
   ·have hj : 3 + k < s.size := by omega
    obtain ⟨x, HX⟩ : ∃ x, Hid (s.data.toList[3 + k]? = some x) := ⟨s.data.toList[3 + k]'(by have := HL.out; omega), List.getElem?_eq_getElem _⟩
    have hsx : s[3 + k] = x := getk_of s (3 + k) x HX.out hj
    have hdr : s.data.toList.drop (3 + k) = x :: s.data.toList.drop (3 + k + 1) := by
     have hj' : 3 + k < s.data.toList.length := by have := HL.out; omega
     have hg := HX.out
     rw [List.getElem?_eq_getElem hj'] at hg
     rw [List.drop_eq_getElem_cons hj', Option.some.inj hg]
    have HDR := Lib.hid hdr
    clear hdr
    have hx1 : (x.toNat : Int) < 256 := by have := x.toNat_lt; omega
    have hxe : (x = 59) ↔ (x.toNat : Int) = 59 := by
     constructor
     ·rintro rfl; rfl
     ·intro h; exact UInt8.toNat_inj.1 (by have : (59 : UInt8).toNat = 59 := rfl; omega)
    have HXE := Lib.hid hxe
    clear hxe
    by_cases hA : (x.toNat : Int) = 59 ∧ 0 < k
    ·obtain ⟨hA1, hA2⟩ := hA
     have hv : Hid (V = (cv, 3 + k + 1)) := by
      show _ = _
      rw [hsc.out, HDR.out]
      simp only [scanL]
      rw [if_pos ⟨HXE.out.2 hA1, hA2⟩]; rfl
     have hx59 : ((x.toNat : Int) == 59) = true := by simp [hA1]
     clear hA1
     go_wp2_with fail
     simp only [Exit.jump]
     go_ret2
     exact ⟨by rw [hv.out]; exact ret_ii rfl (by omega), (Below.refl _ _).alloc (Nat.le_refl _) _⟩
    ·have hcond : ¬ (x = 59 ∧ 0 < k) := fun h => hA ⟨HXE.out.1 h.1, h.2⟩
     have hstep : scanL 16 k cv (s.data.toList.drop (3 + k)) = if digitV 16 x.toNat < 0 ∨ 7 ≤ k then none else scanL 16 (k + 1) (cv * 16 + digitV 16 x.toNat) (s.data.toList.drop (3 + k + 1)) := by
      rw [HDR.out]; simp only [scanL]; rw [if_neg hcond]
     have hdb := digitV_bd 16 x.toNat
     have h59d : (x.toNat : Int) = 59 → digitV 16 x.toNat = -1 := fun h => by rw [h]; decide
     generalize hdv : digitV 16 x.toNat = dv at *
     have HDV := Lib.hid hdv
     clear hdv hcond
     obtain ⟨hdb0, hdb1⟩ := hdb
     have HS := Lib.hid hstep
     clear hstep
     by_cases hB : dv < 0 ∨ 7 ≤ k
     ·have hv : Hid (V = (0, 0)) := by
       show _ = _
       rw [hsc.out, HS.out, if_pos hB]; rfl
      by_cases h59 : (x.toNat : Int) = 59
      ·have hk0 : k ≤ 0 := by omega
       have hdv1 := h59d h59
       have hx59 : ((x.toNat : Int) == 59) = true := by simp [h59]
       have hlt0 : dv < 0 := by omega
       clear h59 h59d hA hdv1 hB
       go_wp2_with (go_at_call 138; refine (digit_as _ _ _ (by omega) (by omega) dv HDV).mono ?_; rintro e w' ⟨rfl, rfl⟩)
       go_step3
       exact ⟨rfl, rfl, rfl, (Below.refl _ _).alloc (Nat.le_refl _) _, hv.out⟩
      ·have hx59 : ((x.toNat : Int) == 59) = false := by simp [h59]
       clear h59 h59d hA
       by_cases hlt0 : dv < 0
       ·clear hB
        go_wp2_with (go_at_call 138; refine (digit_as _ _ _ (by omega) (by omega) dv HDV).mono ?_; rintro e w' ⟨rfl, rfl⟩)
        go_step3
        exact ⟨rfl, rfl, rfl, (Below.refl _ _).alloc (Nat.le_refl _) _, hv.out⟩
       ·have h7 : 7 ≤ k := by omega
        clear hB
        go_wp2_with (go_at_call 138; refine (digit_as _ _ _ (by omega) (by omega) dv HDV).mono ?_; rintro e w' ⟨rfl, rfl⟩)
        go_step3
        exact ⟨rfl, rfl, rfl, (Below.refl _ _).alloc (Nat.le_refl _) _, hv.out⟩
     ·have hlt0 : 0 ≤ dv := by omega
      have hk7 : k < 7 := by omega
      have hcv7 := HC6.out hk7
      have hpw : cv * 16 + dv < 16 ^ (k + 1) := by
       have := HC1.out
       rw [Int.pow_succ]; omega
      have HPW := Lib.hid hpw
      have hsn : Hid (V = pick 3 (scanL 16 (k + 1) (cv * 16 + dv) (s.data.toList.drop (3 + k + 1)))) := by
       show _ = _
       rw [hsc.out, HS.out, if_neg hB]
      clear hpw hB
      by_cases h59 : (x.toNat : Int) = 59
      ·have := h59d h59
       omega
      ·have hx59 : ((x.toNat : Int) == 59) = false := by simp [h59]
       clear h59 h59d hA
       go_wp2_with (go_at_call 138; refine (digit_as _ _ _ (by omega) (by omega) dv HDV).mono ?_; rintro e w' ⟨rfl, rfl⟩)
       go_round
       case rel => exact ⟨k + 1, cv * 16 + dv, by omega, by omega, by go_num, rfl, by omega, HPW.out, hsn⟩
       case measure => simp [intOf]; omega
 ·rintro ⟨tmps, defers⟩ w' ⟨rfl, hsz, hb, hv⟩
  simp only at hsz
  subst hv
  go_wp2
  simp only [Exit.jump]
  go_ret2
  exact ⟨by simp [hsz], hb⟩
theorem reference_any (s : ByteArray) (w : World) (hs : s.size ≤ maxLen) :
  Calls Try.prog 116 #[.string s] w (Ret w (.tuple #[.int .i32 (refL s.data.toList).1, .int .i64 ((refL s.data.toList).2 : Nat)])) := by
 have hl := size_toList s
 unfold refL
 by_cases h0 : pre [38, 97, 109, 112, 59] s.data.toList = true
 ·rw [if_pos h0]; exact reference_0 s w h0
 by_cases h1 : pre [38, 108, 116, 59] s.data.toList = true
 ·rw [if_neg h0, if_pos h1]; exact reference_1 s w (by simpa using h0) h1
 by_cases h2 : pre [38, 103, 116, 59] s.data.toList = true
 ·rw [if_neg h0, if_neg h1, if_pos h2]; exact reference_2 s w (by simpa using h0) (by simpa using h1) h2
 by_cases h3 : pre [38, 113, 117, 111, 116, 59] s.data.toList = true
 ·rw [if_neg h0, if_neg h1, if_neg h2, if_pos h3]; exact reference_3 s w (by simpa using h0) (by simpa using h1) (by simpa using h2) h3
 by_cases h4 : pre [38, 97, 112, 111, 115, 59] s.data.toList = true
 ·rw [if_neg h0, if_neg h1, if_neg h2, if_neg h3, if_pos h4]; exact reference_4 s w (by simpa using h0) (by simpa using h1) (by simpa using h2) (by simpa using h3) h4
 rw [if_neg h0, if_neg h1, if_neg h2, if_neg h3, if_neg h4]
 by_cases h5 : pre [38, 35] s.data.toList = true
 ·rw [if_pos h5]
  have h5l := pre_len h5
  by_cases h6 : pre [38, 35, 120] s.data.toList = true
  ·rw [if_pos h6]
   have h6l := pre_len h6
   exact reference_hex s w hs (by simpa using h0) (by simpa using h1) (by simpa using h2) (by simpa using h3) (by simpa using h4) h5 h6 (by rw [← hl]; exact h6l) _ rfl
  ·rw [if_neg h6]
   exact reference_ten s w hs (by simpa using h0) (by simpa using h1) (by simpa using h2) (by simpa using h3) (by simpa using h4) h5 (by simpa using h6) (by rw [← hl]; exact h5l) _ rfl
 ·rw [if_neg h5]
  exact reference_none s w (by simpa using h0) (by simpa using h1) (by simpa using h2) (by simpa using h3) (by simpa using h4) (by simpa using h5)
end
section
open Go.RowKit
theorem reference_as (s : ByteArray) (w : World) (hs : s.size ≤ maxLen) (c : Int) (n : Nat) (h : Hid (refL s.data.toList = (c, n))) :
  Calls Try.prog 116 #[.string s] w (Ret w (.tuple #[.int .i32 c, .int .i64 (n : Nat)])) := by
 have := reference_any s w hs
 rw [h.out] at this
 exact this
theorem stepL_lt {v : Bool} {l : List UInt8} {c : Int} {n : Nat} (h : nextL l = (c, n)) (hn : 0 < n) (hc : c = 60 ∨ c = 62) : stepL v l = .inl 20 := by
 simp only [stepL, h]; rw [if_pos ⟨hn, hc⟩]
theorem stepL_no {v : Bool} {l : List UInt8} {c : Int} {n : Nat} (h : nextL l = (c, n)) (hn : n = 0) : stepL v l = .inl 21 := by
 simp only [stepL, h]; rw [if_neg (by omega), if_pos (.inl hn)]
theorem stepL_13 {v : Bool} {l : List UInt8} {c : Int} {n : Nat} (h : nextL l = (c, n)) (hc : c = 13 ∨ (v = true ∧ (c = 34 ∨ c = 9 ∨ c = 10))) : stepL v l = .inl 21 := by
 simp only [stepL, h]; rw [if_neg (by omega), if_pos (.inr hc)]
theorem stepL_put {v : Bool} {l : List UInt8} {c : Int} {n : Nat} (h : nextL l = (c, n)) (hn : 0 < n) (h1 : ¬ (c = 60 ∨ c = 62)) (h2 : ¬ (c = 13 ∨ (v = true ∧ (c = 34 ∨ c = 9 ∨ c = 10)))) (h3 : c ≠ 38) :
  stepL v l = if charB c = false then .inl 21 else .inr (putF c, n) := by
 simp only [stepL, h]; rw [if_neg (fun h => h1 h.2), if_neg (by intro h; rcases h with h | h; omega; exact h2 h), if_neg h3, if_neg (by omega)]
theorem stepL_ref {v : Bool} {l : List UInt8} {n : Nat} (h : nextL l = (38, n)) (hn : 0 < n) {c' : Int} {n' : Nat} (hr : refL l = (c', n')) :
  stepL v l = if n' = 0 then .inl 20 else if charB c' = false then .inl 21 else .inr (putF c', n') := by
 simp only [stepL, h, hr]; rw [if_neg (by omega), if_neg (by omega)]; simp only [if_true]
theorem joinU_bad (acc : List UInt8) (k : Nat) (e : Int) (h : e ≠ 0) : joinU acc k ([], 0, e) = ([], k, e) := by simp [joinU, h]
theorem Undo_true (s : ByteArray) (w : World) (hs : s.size ≤ 1099511627776) (V : List UInt8 × Nat × Int) (hV : Hid (V = undoL true s.data.toList)) :
  Calls Try.prog 96 #[.string s, .bool true] w (Ret w (.tuple #[.string ⟨V.1.toArray⟩, .int .i64 (V.2.1 : Nat), .int .i64 V.2.2])) := by
 go_enter Try.func96, Try.ntmps96
 go_wp2_with fail
 go_loopw [8] (fun av wr => ∃ (k : Nat) (acc : List UInt8), av = .int .i64 k ∧ k ≤ s.size ∧ Hid (V = joinU acc k (undoL true (s.data.toList.drop k))) ∧ acc.length ≤ 4 * k ∧
   Lib.IsBuilder 80 5 w.heap.size w.heap.size (Lib.byteCells acc) wr ∧ Below w.heap.size w wr ∧ w.heap.size < wr.heap.size) (fun av _ => s.size - (intOf av).toNat)
 case atStart =>
  refine ⟨0, [], rfl, Nat.zero_le _, ?_, by simp, builder_new _ _ _, (Below.refl _ _).alloc (Nat.le_refl _) _, by simp⟩
  show _ = _
  rw [hV.out, List.drop_zero, joinU_nil _ (undoL_shape _ _)]
 case round =>
  obtain ⟨k, acc, rfl, hks, hjo, hal, hB, hbel, hlt⟩ := hrel
  have HL := Lib.hid (size_toList s)
  by_cases hend : k < s.size
  ·have hx : Hid ((s.extract k s.size).data.toList = s.data.toList.drop k) := Lib.extract_to_end s k
   have hxs : (s.extract k s.size).size = s.size - k := by simp
   have hnn : Hid (s.data.toList.drop k ≠ []) := by
    intro h
    have := congrArg List.length h
    rw [List.length_drop, HL.out] at this
    simp at this; omega
   have hszl : (s.extract k s.size).size ≤ 1099511627776 := by omega
   have HXS := Lib.hid hxs
   clear hxs
   obtain ⟨c, n, hq⟩ : ∃ c n, Hid (nextL (s.extract k s.size).data.toList = (c, n)) := ⟨_, _, rfl⟩
   have hle := nextL_le (s.extract k s.size).data.toList
   rw [hq.out, hx.out, List.length_drop, HL.out] at hle
   obtain ⟨hn1, hn4⟩ := hle
   simp only at hn1 hn4
   by_cases hn : n = 0
   ·have hv : Hid (V = ([], k, 21)) := by
     have := stepL_no (v := true) hq.out hn
     rw [hx.out] at this
     show _ = _
     rw [hjo.out, undoL_bad _ _ hnn.out _ this, joinU_bad _ _ _ (by decide)]
    have hn0 : ((n : Int) == 0) = true := by simp [hn]
    have hnz : n ≤ 0 := by omega
    clear hn
    go_wp2_with (go_at_call 77; refine (Next_as (s.extract k s.size) wr (by unfold maxLen; omega) c n hq).mono ?_; rintro e w2 ⟨rfl, hb2⟩)
    go_ret3
    exact ⟨by rw [hv.out]; rfl, hbel.trans (hb2.mono (by omega))⟩
   have hnp : 0 < n := by omega
   have hn0 : ((n : Int) == 0) = false := by simp [hn]
   clear hn
   by_cases hc60 : c = 60
   ·subst hc60
    have hv : Hid (V = ([], k, 20)) := by
     have := stepL_lt (v := true) hq.out hnp (.inl rfl)
     rw [hx.out] at this
     show _ = _
     rw [hjo.out, undoL_bad _ _ hnn.out _ this, joinU_bad _ _ _ (by decide)]
    go_wp2_with (go_at_call 77; refine (Next_as (s.extract k s.size) wr (by unfold maxLen; omega) 60 n hq).mono ?_; rintro e w2 ⟨rfl, hb2⟩)
    go_ret3
    exact ⟨by rw [hv.out]; rfl, hbel.trans (hb2.mono (by omega))⟩
   by_cases hc62 : c = 62
   ·subst hc62
    have hv : Hid (V = ([], k, 20)) := by
     have := stepL_lt (v := true) hq.out hnp (.inr rfl)
     rw [hx.out] at this
     show _ = _
     rw [hjo.out, undoL_bad _ _ hnn.out _ this, joinU_bad _ _ _ (by decide)]
    go_wp2_with (go_at_call 77; refine (Next_as (s.extract k s.size) wr (by unfold maxLen; omega) 62 n hq).mono ?_; rintro e w2 ⟨rfl, hb2⟩)
    go_ret3
    exact ⟨by rw [hv.out]; rfl, hbel.trans (hb2.mono (by omega))⟩
   by_cases hc13 : c = 13
   ·subst hc13
    have hv : Hid (V = ([], k, 21)) := by
     have := stepL_13 (v := true) hq.out (.inl rfl)
     rw [hx.out] at this
     show _ = _
     rw [hjo.out, undoL_bad _ _ hnn.out _ this, joinU_bad _ _ _ (by decide)]
    go_wp2_with (go_at_call 77; refine (Next_as (s.extract k s.size) wr (by unfold maxLen; omega) 13 n hq).mono ?_; rintro e w2 ⟨rfl, hb2⟩)
    go_ret3
    exact ⟨by rw [hv.out]; rfl, hbel.trans (hb2.mono (by omega))⟩
   by_cases hc34 : c = 34
   ·subst hc34
    have hv : Hid (V = ([], k, 21)) := by
     have := stepL_13 (v := true) hq.out (.inr ⟨rfl, .inl rfl⟩)
     rw [hx.out] at this
     show _ = _
     rw [hjo.out, undoL_bad _ _ hnn.out _ this, joinU_bad _ _ _ (by decide)]
    go_wp2_with (go_at_call 77; refine (Next_as (s.extract k s.size) wr (by unfold maxLen; omega) 34 n hq).mono ?_; rintro e w2 ⟨rfl, hb2⟩)
    go_ret3
    exact ⟨by rw [hv.out]; rfl, hbel.trans (hb2.mono (by omega))⟩
   by_cases hc9 : c = 9
   ·subst hc9
    have hv : Hid (V = ([], k, 21)) := by
     have := stepL_13 (v := true) hq.out (.inr ⟨rfl, .inr (.inl rfl)⟩)
     rw [hx.out] at this
     show _ = _
     rw [hjo.out, undoL_bad _ _ hnn.out _ this, joinU_bad _ _ _ (by decide)]
    go_wp2_with (go_at_call 77; refine (Next_as (s.extract k s.size) wr (by unfold maxLen; omega) 9 n hq).mono ?_; rintro e w2 ⟨rfl, hb2⟩)
    go_ret3
    exact ⟨by rw [hv.out]; rfl, hbel.trans (hb2.mono (by omega))⟩
   by_cases hc10 : c = 10
   ·subst hc10
    have hv : Hid (V = ([], k, 21)) := by
     have := stepL_13 (v := true) hq.out (.inr ⟨rfl, .inr (.inr rfl)⟩)
     rw [hx.out] at this
     show _ = _
     rw [hjo.out, undoL_bad _ _ hnn.out _ this, joinU_bad _ _ _ (by decide)]
    go_wp2_with (go_at_call 77; refine (Next_as (s.extract k s.size) wr (by unfold maxLen; omega) 10 n hq).mono ?_; rintro e w2 ⟨rfl, hb2⟩)
    go_ret3
    exact ⟨by rw [hv.out]; rfl, hbel.trans (hb2.mono (by omega))⟩
   by_cases hc38 : c = 38
   ·subst hc38
    obtain ⟨c', n', hr⟩ : ∃ c' n', Hid (refL (s.extract k s.size).data.toList = (c', n')) := ⟨_, _, rfl⟩
    have hrl := refL_le (s.extract k s.size).data.toList
    rw [hr.out, hx.out, List.length_drop, HL.out] at hrl
    simp only at hrl
    have hstep := stepL_ref (v := true) hq.out hnp hr.out
    rw [hx.out] at hstep
    by_cases hn' : n' = 0
    ·rw [if_pos hn'] at hstep
     have hv : Hid (V = ([], k, 20)) := by
      show _ = _
      rw [hjo.out, undoL_bad _ _ hnn.out _ hstep, joinU_bad _ _ _ (by decide)]
     have hn0' : ((n' : Int) == 0) = true := by simp [hn']
     clear hn' hstep
     go_wp2_with (first | (go_at_call 77; refine (Next_as (s.extract k s.size) wr (by unfold maxLen; omega) 38 n hq).mono ?_; rintro e w2 ⟨rfl, hb2⟩) | (go_at_call 116; refine (reference_as (s.extract k s.size) _ (by unfold maxLen; omega) c' n' hr).mono ?_; rintro e w3 ⟨rfl, hb3⟩) | (go_at_call 103; refine (Put_any _ _).mono ?_; rintro e w4 ⟨rfl, hb4⟩))
     go_ret3
     have hz2 := hb2.size; have hz3 := hb3.size
     exact ⟨by rw [hv.out]; rfl, ((hbel.trans (hb2.mono (by omega))).trans (hb3.mono (by omega))).trans (hb4.mono (by omega))⟩
    rw [if_neg hn'] at hstep
    have hn0' : ((n' : Int) == 0) = false := by simp [hn']
    have hnp' : 0 < n' := by omega
    clear hn'
    by_cases hch : charB c' = false
    ·rw [if_pos hch] at hstep
     have hv : Hid (V = ([], k, 21)) := by
      show _ = _
      rw [hjo.out, undoL_bad _ _ hnn.out _ hstep, joinU_bad _ _ _ (by decide)]
     clear hstep
     go_wp2_with (first | (go_at_call 77; refine (Next_as (s.extract k s.size) wr (by unfold maxLen; omega) 38 n hq).mono ?_; rintro e w2 ⟨rfl, hb2⟩) | (go_at_call 116; refine (reference_as (s.extract k s.size) _ (by unfold maxLen; omega) c' n' hr).mono ?_; rintro e w3 ⟨rfl, hb3⟩) | (go_at_call 103; refine (Put_any _ _).mono ?_; rintro e w4 ⟨rfl, hb4⟩))
     go_ret3
     have hz2 := hb2.size; have hz3 := hb3.size
     exact ⟨by rw [hv.out]; rfl, ((hbel.trans (hb2.mono (by omega))).trans (hb3.mono (by omega))).trans (hb4.mono (by omega))⟩
    ·rw [if_neg hch] at hstep
     have hch' : charB c' = true := by simpa using hch
     have HS := Lib.hid hstep
     have hpl := putF_len c'
     clear hstep hch
     go_wp2_with (first | (go_at_call 77; refine (Next_as (s.extract k s.size) wr (by unfold maxLen; omega) 38 n hq).mono ?_; rintro e w2 ⟨rfl, hb2⟩) | (go_at_call 116; refine (reference_as (s.extract k s.size) _ (by unfold maxLen; omega) c' n' hr).mono ?_; rintro e w3 ⟨rfl, hb3⟩) | (go_at_call 103; refine (Put_any _ _).mono ?_; rintro e w4 ⟨rfl, hb4⟩))
     have hz2 := hb2.size; have hz4 := hb4.size; have hz3 := hb3.size
     have hB4 := builder_below (builder_below (builder_below hB hb2) hb3) hb4
     go_wp2_with (go_at_call 53; refine (Try.Builder_WriteString _ _ _ _ _ hB4 ?hlen1 (by omega)).mono ?_)
     case hlen1 => rw [Lib.byteCells_length]; show acc.length + (putF c').toArray.size ≤ _; simp; omega
     rintro e w5 ⟨rfl, hB5, hb5⟩
     have hz5 := hb5.size
     go_wp2
     go_roundw
     case rel =>
      refine ⟨k + n', acc ++ putF c', by go_num, by omega, ?_, ?_, ?_, ?_, by omega⟩
      ·show _ = _
       rw [hjo.out, undoL_step _ _ hnn.out _ _ HS.out, joinU_join, List.drop_drop]
      ·rw [List.length_append]; omega
      ·rw [Lib.byteCells_append]; exact .inr hB5
      ·exact (((hbel.trans (hb2.mono (by omega))).trans (hb3.mono (by omega))).trans (hb4.mono (by omega))).trans hb5
     case measure => simp [intOf]; omega
   have hstep := stepL_put (v := true) hq.out hnp (by omega) (by simp; omega) hc38
   rw [hx.out] at hstep
   have hb60 : (c == 60) = false := by simp; omega
   have hb62 : (c == 62) = false := by simp; omega
   have hb13 : (c == 13) = false := by simp; omega
   have hb34 : (c == 34) = false := by simp; omega
   have hb9 : (c == 9) = false := by simp; omega
   have hb10 : (c == 10) = false := by simp; omega
   have hb38 : (c == 38) = false := by simp; omega
   clear hc60 hc62 hc13 hc34 hc9 hc10 hc38
   by_cases hch : charB c = false
   ·rw [if_pos hch] at hstep
    have hv : Hid (V = ([], k, 21)) := by
     show _ = _
     rw [hjo.out, undoL_bad _ _ hnn.out _ hstep, joinU_bad _ _ _ (by decide)]
    clear hstep
    go_wp2_with (first | (go_at_call 77; refine (Next_as (s.extract k s.size) wr (by unfold maxLen; omega) c n hq).mono ?_; rintro e w2 ⟨rfl, hb2⟩) | (go_at_call 103; refine (Put_any _ _).mono ?_; rintro e w4 ⟨rfl, hb4⟩))
    go_ret3
    have hz2 := hb2.size
    exact ⟨by rw [hv.out]; rfl, (hbel.trans (hb2.mono (by omega))).trans (hb4.mono (by omega))⟩
   ·rw [if_neg hch] at hstep
    have hch' : charB c = true := by simpa using hch
    have HS := Lib.hid hstep
    have hpl := putF_len c
    clear hstep hch
    go_wp2_with (first | (go_at_call 77; refine (Next_as (s.extract k s.size) wr (by unfold maxLen; omega) c n hq).mono ?_; rintro e w2 ⟨rfl, hb2⟩) | (go_at_call 103; refine (Put_any _ _).mono ?_; rintro e w4 ⟨rfl, hb4⟩))
    have hz2 := hb2.size; have hz4 := hb4.size; skip
    have hB4 := builder_below (builder_below hB hb2) hb4
    go_wp2_with (go_at_call 53; refine (Try.Builder_WriteString _ _ _ _ _ hB4 ?hlen2 (by omega)).mono ?_)
    case hlen2 => rw [Lib.byteCells_length]; show acc.length + (putF c).toArray.size ≤ _; simp; omega
    rintro e w5 ⟨rfl, hB5, hb5⟩
    have hz5 := hb5.size
    go_wp2
    go_roundw
    case rel =>
     refine ⟨k + n, acc ++ putF c, by go_num, by omega, ?_, ?_, ?_, ?_, by omega⟩
     ·show _ = _
      rw [hjo.out, undoL_step _ _ hnn.out _ _ HS.out, joinU_join, List.drop_drop]
     ·rw [List.length_append]; omega
     ·rw [Lib.byteCells_append]; exact .inr hB5
     ·exact ((hbel.trans (hb2.mono (by omega))).trans (hb4.mono (by omega))).trans hb5
    case measure => simp [intOf]; omega
  ·have hk : k = s.size := by omega
   have hv : Hid (V = (acc, s.size, 0)) := by
    have : s.data.toList.drop k = [] := List.drop_eq_nil_of_le (by rw [HL.out]; omega)
    show _ = _
    rw [hjo.out, this, undoL_nil, hk]; simp [joinU]
   clear hk
   go_wp2_with (go_at_call 57; refine (Try.Builder_String _ _ _ _ hB (by omega)).mono ?_; rintro e w2 ⟨rfl, hb2⟩)
   go_ret3
   exact ⟨by rw [hv.out]; rfl, hbel.trans hb2⟩
theorem Undo_false (s : ByteArray) (w : World) (hs : s.size ≤ 1099511627776) (V : List UInt8 × Nat × Int) (hV : Hid (V = undoL false s.data.toList)) :
  Calls Try.prog 96 #[.string s, .bool false] w (Ret w (.tuple #[.string ⟨V.1.toArray⟩, .int .i64 (V.2.1 : Nat), .int .i64 V.2.2])) := by
 go_enter Try.func96, Try.ntmps96
 go_wp2_with fail
 go_loopw [8] (fun av wr => ∃ (k : Nat) (acc : List UInt8), av = .int .i64 k ∧ k ≤ s.size ∧ Hid (V = joinU acc k (undoL false (s.data.toList.drop k))) ∧ acc.length ≤ 4 * k ∧
   Lib.IsBuilder 80 5 w.heap.size w.heap.size (Lib.byteCells acc) wr ∧ Below w.heap.size w wr ∧ w.heap.size < wr.heap.size) (fun av _ => s.size - (intOf av).toNat)
 case atStart =>
  refine ⟨0, [], rfl, Nat.zero_le _, ?_, by simp, builder_new _ _ _, (Below.refl _ _).alloc (Nat.le_refl _) _, by simp⟩
  show _ = _
  rw [hV.out, List.drop_zero, joinU_nil _ (undoL_shape _ _)]
 case round =>
  obtain ⟨k, acc, rfl, hks, hjo, hal, hB, hbel, hlt⟩ := hrel
  have HL := Lib.hid (size_toList s)
  by_cases hend : k < s.size
  ·have hx : Hid ((s.extract k s.size).data.toList = s.data.toList.drop k) := Lib.extract_to_end s k
   have hxs : (s.extract k s.size).size = s.size - k := by simp
   have hnn : Hid (s.data.toList.drop k ≠ []) := by
    intro h
    have := congrArg List.length h
    rw [List.length_drop, HL.out] at this
    simp at this; omega
   have hszl : (s.extract k s.size).size ≤ 1099511627776 := by omega
   have HXS := Lib.hid hxs
   clear hxs
   obtain ⟨c, n, hq⟩ : ∃ c n, Hid (nextL (s.extract k s.size).data.toList = (c, n)) := ⟨_, _, rfl⟩
   have hle := nextL_le (s.extract k s.size).data.toList
   rw [hq.out, hx.out, List.length_drop, HL.out] at hle
   obtain ⟨hn1, hn4⟩ := hle
   simp only at hn1 hn4
   by_cases hn : n = 0
   ·have hv : Hid (V = ([], k, 21)) := by
     have := stepL_no (v := false) hq.out hn
     rw [hx.out] at this
     show _ = _
     rw [hjo.out, undoL_bad _ _ hnn.out _ this, joinU_bad _ _ _ (by decide)]
    have hn0 : ((n : Int) == 0) = true := by simp [hn]
    have hnz : n ≤ 0 := by omega
    clear hn
    go_wp2_with (go_at_call 77; refine (Next_as (s.extract k s.size) wr (by unfold maxLen; omega) c n hq).mono ?_; rintro e w2 ⟨rfl, hb2⟩)
    go_ret3
    exact ⟨by rw [hv.out]; rfl, hbel.trans (hb2.mono (by omega))⟩
   have hnp : 0 < n := by omega
   have hn0 : ((n : Int) == 0) = false := by simp [hn]
   clear hn
   by_cases hc60 : c = 60
   ·subst hc60
    have hv : Hid (V = ([], k, 20)) := by
     have := stepL_lt (v := false) hq.out hnp (.inl rfl)
     rw [hx.out] at this
     show _ = _
     rw [hjo.out, undoL_bad _ _ hnn.out _ this, joinU_bad _ _ _ (by decide)]
    go_wp2_with (go_at_call 77; refine (Next_as (s.extract k s.size) wr (by unfold maxLen; omega) 60 n hq).mono ?_; rintro e w2 ⟨rfl, hb2⟩)
    go_ret3
    exact ⟨by rw [hv.out]; rfl, hbel.trans (hb2.mono (by omega))⟩
   by_cases hc62 : c = 62
   ·subst hc62
    have hv : Hid (V = ([], k, 20)) := by
     have := stepL_lt (v := false) hq.out hnp (.inr rfl)
     rw [hx.out] at this
     show _ = _
     rw [hjo.out, undoL_bad _ _ hnn.out _ this, joinU_bad _ _ _ (by decide)]
    go_wp2_with (go_at_call 77; refine (Next_as (s.extract k s.size) wr (by unfold maxLen; omega) 62 n hq).mono ?_; rintro e w2 ⟨rfl, hb2⟩)
    go_ret3
    exact ⟨by rw [hv.out]; rfl, hbel.trans (hb2.mono (by omega))⟩
   by_cases hc13 : c = 13
   ·subst hc13
    have hv : Hid (V = ([], k, 21)) := by
     have := stepL_13 (v := false) hq.out (.inl rfl)
     rw [hx.out] at this
     show _ = _
     rw [hjo.out, undoL_bad _ _ hnn.out _ this, joinU_bad _ _ _ (by decide)]
    go_wp2_with (go_at_call 77; refine (Next_as (s.extract k s.size) wr (by unfold maxLen; omega) 13 n hq).mono ?_; rintro e w2 ⟨rfl, hb2⟩)
    go_ret3
    exact ⟨by rw [hv.out]; rfl, hbel.trans (hb2.mono (by omega))⟩
   by_cases hc38 : c = 38
   ·subst hc38
    obtain ⟨c', n', hr⟩ : ∃ c' n', Hid (refL (s.extract k s.size).data.toList = (c', n')) := ⟨_, _, rfl⟩
    have hrl := refL_le (s.extract k s.size).data.toList
    rw [hr.out, hx.out, List.length_drop, HL.out] at hrl
    simp only at hrl
    have hstep := stepL_ref (v := false) hq.out hnp hr.out
    rw [hx.out] at hstep
    by_cases hn' : n' = 0
    ·rw [if_pos hn'] at hstep
     have hv : Hid (V = ([], k, 20)) := by
      show _ = _
      rw [hjo.out, undoL_bad _ _ hnn.out _ hstep, joinU_bad _ _ _ (by decide)]
     have hn0' : ((n' : Int) == 0) = true := by simp [hn']
     clear hn' hstep
     go_wp2_with (first | (go_at_call 77; refine (Next_as (s.extract k s.size) wr (by unfold maxLen; omega) 38 n hq).mono ?_; rintro e w2 ⟨rfl, hb2⟩) | (go_at_call 116; refine (reference_as (s.extract k s.size) _ (by unfold maxLen; omega) c' n' hr).mono ?_; rintro e w3 ⟨rfl, hb3⟩) | (go_at_call 103; refine (Put_any _ _).mono ?_; rintro e w4 ⟨rfl, hb4⟩))
     go_ret3
     have hz2 := hb2.size; have hz3 := hb3.size
     exact ⟨by rw [hv.out]; rfl, ((hbel.trans (hb2.mono (by omega))).trans (hb3.mono (by omega))).trans (hb4.mono (by omega))⟩
    rw [if_neg hn'] at hstep
    have hn0' : ((n' : Int) == 0) = false := by simp [hn']
    have hnp' : 0 < n' := by omega
    clear hn'
    by_cases hch : charB c' = false
    ·rw [if_pos hch] at hstep
     have hv : Hid (V = ([], k, 21)) := by
      show _ = _
      rw [hjo.out, undoL_bad _ _ hnn.out _ hstep, joinU_bad _ _ _ (by decide)]
     clear hstep
     go_wp2_with (first | (go_at_call 77; refine (Next_as (s.extract k s.size) wr (by unfold maxLen; omega) 38 n hq).mono ?_; rintro e w2 ⟨rfl, hb2⟩) | (go_at_call 116; refine (reference_as (s.extract k s.size) _ (by unfold maxLen; omega) c' n' hr).mono ?_; rintro e w3 ⟨rfl, hb3⟩) | (go_at_call 103; refine (Put_any _ _).mono ?_; rintro e w4 ⟨rfl, hb4⟩))
     go_ret3
     have hz2 := hb2.size; have hz3 := hb3.size
     exact ⟨by rw [hv.out]; rfl, ((hbel.trans (hb2.mono (by omega))).trans (hb3.mono (by omega))).trans (hb4.mono (by omega))⟩
    ·rw [if_neg hch] at hstep
     have hch' : charB c' = true := by simpa using hch
     have HS := Lib.hid hstep
     have hpl := putF_len c'
     clear hstep hch
     go_wp2_with (first | (go_at_call 77; refine (Next_as (s.extract k s.size) wr (by unfold maxLen; omega) 38 n hq).mono ?_; rintro e w2 ⟨rfl, hb2⟩) | (go_at_call 116; refine (reference_as (s.extract k s.size) _ (by unfold maxLen; omega) c' n' hr).mono ?_; rintro e w3 ⟨rfl, hb3⟩) | (go_at_call 103; refine (Put_any _ _).mono ?_; rintro e w4 ⟨rfl, hb4⟩))
     have hz2 := hb2.size; have hz4 := hb4.size; have hz3 := hb3.size
     have hB4 := builder_below (builder_below (builder_below hB hb2) hb3) hb4
     go_wp2_with (go_at_call 53; refine (Try.Builder_WriteString _ _ _ _ _ hB4 ?hlen1 (by omega)).mono ?_)
     case hlen1 => rw [Lib.byteCells_length]; show acc.length + (putF c').toArray.size ≤ _; simp; omega
     rintro e w5 ⟨rfl, hB5, hb5⟩
     have hz5 := hb5.size
     go_wp2
     go_roundw
     case rel =>
      refine ⟨k + n', acc ++ putF c', by go_num, by omega, ?_, ?_, ?_, ?_, by omega⟩
      ·show _ = _
       rw [hjo.out, undoL_step _ _ hnn.out _ _ HS.out, joinU_join, List.drop_drop]
      ·rw [List.length_append]; omega
      ·rw [Lib.byteCells_append]; exact .inr hB5
      ·exact (((hbel.trans (hb2.mono (by omega))).trans (hb3.mono (by omega))).trans (hb4.mono (by omega))).trans hb5
     case measure => simp [intOf]; omega
   have hstep := stepL_put (v := false) hq.out hnp (by omega) (by simp; omega) hc38
   rw [hx.out] at hstep
   have hb60 : (c == 60) = false := by simp; omega
   have hb62 : (c == 62) = false := by simp; omega
   have hb13 : (c == 13) = false := by simp; omega
   have hb38 : (c == 38) = false := by simp; omega
   clear hc60 hc62 hc13 hc38
   by_cases hch : charB c = false
   ·rw [if_pos hch] at hstep
    have hv : Hid (V = ([], k, 21)) := by
     show _ = _
     rw [hjo.out, undoL_bad _ _ hnn.out _ hstep, joinU_bad _ _ _ (by decide)]
    clear hstep
    go_wp2_with (first | (go_at_call 77; refine (Next_as (s.extract k s.size) wr (by unfold maxLen; omega) c n hq).mono ?_; rintro e w2 ⟨rfl, hb2⟩) | (go_at_call 103; refine (Put_any _ _).mono ?_; rintro e w4 ⟨rfl, hb4⟩))
    go_ret3
    have hz2 := hb2.size
    exact ⟨by rw [hv.out]; rfl, (hbel.trans (hb2.mono (by omega))).trans (hb4.mono (by omega))⟩
   ·rw [if_neg hch] at hstep
    have hch' : charB c = true := by simpa using hch
    have HS := Lib.hid hstep
    have hpl := putF_len c
    clear hstep hch
    go_wp2_with (first | (go_at_call 77; refine (Next_as (s.extract k s.size) wr (by unfold maxLen; omega) c n hq).mono ?_; rintro e w2 ⟨rfl, hb2⟩) | (go_at_call 103; refine (Put_any _ _).mono ?_; rintro e w4 ⟨rfl, hb4⟩))
    have hz2 := hb2.size; have hz4 := hb4.size; skip
    have hB4 := builder_below (builder_below hB hb2) hb4
    go_wp2_with (go_at_call 53; refine (Try.Builder_WriteString _ _ _ _ _ hB4 ?hlen2 (by omega)).mono ?_)
    case hlen2 => rw [Lib.byteCells_length]; show acc.length + (putF c).toArray.size ≤ _; simp; omega
    rintro e w5 ⟨rfl, hB5, hb5⟩
    have hz5 := hb5.size
    go_wp2
    go_roundw
    case rel =>
     refine ⟨k + n, acc ++ putF c, by go_num, by omega, ?_, ?_, ?_, ?_, by omega⟩
     ·show _ = _
      rw [hjo.out, undoL_step _ _ hnn.out _ _ HS.out, joinU_join, List.drop_drop]
     ·rw [List.length_append]; omega
     ·rw [Lib.byteCells_append]; exact .inr hB5
     ·exact ((hbel.trans (hb2.mono (by omega))).trans (hb4.mono (by omega))).trans hb5
    case measure => simp [intOf]; omega
  ·have hk : k = s.size := by omega
   have hv : Hid (V = (acc, s.size, 0)) := by
    have : s.data.toList.drop k = [] := List.drop_eq_nil_of_le (by rw [HL.out]; omega)
    show _ = _
    rw [hjo.out, this, undoL_nil, hk]; simp [joinU]
   clear hk
   go_wp2_with (go_at_call 57; refine (Try.Builder_String _ _ _ _ hB (by omega)).mono ?_; rintro e w2 ⟨rfl, hb2⟩)
   go_ret3
   exact ⟨by rw [hv.out]; rfl, hbel.trans hb2⟩
theorem Undo_any (s : ByteArray) (v : Bool) (w : World) (hs : s.size ≤ 1099511627776) :
  Calls Try.prog 96 #[.string s, .bool v] w (Ret w (.tuple #[.string ⟨(undoL v s.data.toList).1.toArray⟩, .int .i64 ((undoL v s.data.toList).2.1 : Nat), .int .i64 (undoL v s.data.toList).2.2])) := by
 cases v
 ·exact Undo_false s w hs _ rfl
 ·exact Undo_true s w hs _ rfl
end
section
def startB (c : Int) : Bool := decide ((65 ≤ c ∧ c ≤ 90) ∨ c = 95 ∨ (97 ≤ c ∧ c ≤ 122) ∨ (192 ≤ c ∧ c ≤ 214) ∨ (216 ≤ c ∧ c ≤ 246) ∨ (248 ≤ c ∧ c ≤ 767) ∨ (880 ≤ c ∧ c ≤ 893) ∨ (895 ≤ c ∧ c ≤ 8191) ∨ (8204 ≤ c ∧ c ≤ 8205) ∨ (8304 ≤ c ∧ c ≤ 8591) ∨ (11264 ≤ c ∧ c ≤ 12271) ∨ (12289 ≤ c ∧ c ≤ 55295) ∨ (63744 ≤ c ∧ c ≤ 64975) ∨ (65008 ≤ c ∧ c ≤ 65533) ∨ (65536 ≤ c ∧ c ≤ 983039))
def partB (c : Int) : Bool := startB c || decide ((45 ≤ c ∧ c ≤ 46) ∨ (48 ≤ c ∧ c ≤ 57) ∨ c = 183 ∨ (768 ≤ c ∧ c ≤ 879) ∨ (8255 ≤ c ∧ c ≤ 8256))
def nameL (l : List UInt8) : Bool := match charsL l with
 | some (c :: cs) => decide (l.length ≤ 60) && (startB c && (partB c && cs.all partB))
 | _ => false
def okF : Bool → List Int → Bool
 | _, [] => true
 | first, c :: cs => (partB c && (!first || startB c)) && okF false cs
def eachI (k : Nat) (l : List UInt8) : Int := match charsL l with
 | some cs => if okF (k == 0) cs then ((k + cs.length : Nat) : Int) else -1
 | none => -1
theorem eachI_nil (k : Nat) : eachI k [] = k := by unfold eachI; rw [charsL_nil]; simp [okF]
theorem eachI_bad (k : Nat) (l : List UInt8) (h : l ≠ []) (hn : (nextL l).2 = 0) : eachI k l = -1 := by
 unfold eachI; rw [charsL_bad l h hn]
theorem eachI_no (k : Nat) (l : List UInt8) (h : l ≠ []) (hn : (nextL l).2 ≠ 0) (hr : (partB (nextL l).1 && (!(k == 0) || startB (nextL l).1)) = false) : eachI k l = -1 := by
 unfold eachI; rw [charsL_step l h hn]
 cases charsL (l.drop (nextL l).2) with
 | none => rfl
 | some cs => simp only [Option.map_some, okF, hr, Bool.false_and]; rfl
theorem eachI_step (k : Nat) (l : List UInt8) (h : l ≠ []) (hn : (nextL l).2 ≠ 0) (hr : (partB (nextL l).1 && (!(k == 0) || startB (nextL l).1)) = true) : eachI k l = eachI (k + 1) (l.drop (nextL l).2) := by
 unfold eachI; rw [charsL_step l h hn]
 cases charsL (l.drop (nextL l).2) with
 | none => rfl
 | some cs =>
  have : (k + 1 == 0) = false := by simp
  simp only [Option.map_some, okF, hr, Bool.true_and, this, List.length_cons]
  have : k + (cs.length + 1) = k + 1 + cs.length := by omega
  rw [this]
theorem okF_false (cs : List Int) : okF false cs = cs.all partB := by
 induction cs with
 | nil => rfl
 | cons c cs ih => simp [okF, ih]
theorem nameL_each (l : List UInt8) : nameL l = (decide (l.length ≤ 60) && decide (l ≠ [] ∧ 0 < eachI 0 l)) := by
 unfold nameL eachI
 by_cases hl : l = []
 ·subst hl; rw [charsL_nil]; rfl
 ·cases hc : charsL l with
  | none => simp
  | some cs =>
   cases cs with
   | nil =>
    exfalso
    by_cases hn : (nextL l).2 = 0
    ·rw [charsL_bad l hl hn] at hc; cases hc
    ·rw [charsL_step l hl hn] at hc
     cases hd : charsL (l.drop (nextL l).2) <;> rw [hd] at hc <;> simp at hc
   | cons c cs =>
    simp only [okF, okF_false]
    have e0 : ((0 : Nat) == 0) = true := rfl
    rw [e0]
    cases partB c <;> cases startB c <;> cases cs.all partB <;> simp [hl]
end
section
structure AttrD where
 name : List UInt8
 value : List UInt8
deriving DecidableEq
structure ItemD where
 level : Int
 kind : Int
 name : List UInt8
 text : List UInt8
 attrs : List AttrD
deriving DecidableEq
def countL (l : List UInt8) : Int := match charsL l with
 | some cs => cs.length
 | none => -1
def charsE (l : List UInt8) : Int := if countL l < 0 then 64 else if 1500 < l.length then 67 else 0
def leB (a b : List UInt8) : Bool := Op.bytesLess a b || a == b
def attrNames (last : List UInt8) : List AttrD → Bool
 | [] => true
 | a :: r => nameL a.name && !(leB a.name last) && attrNames a.name r
def namesE (x : ItemD) : Int := if nameL x.name && attrNames [] x.attrs then (if 20 < x.attrs.length then 67 else 0) else 63
def valuesE : List AttrD → Int
 | [] => 0
 | a :: r => if charsE a.value = 0 then valuesE r else charsE a.value
def partsE (x : ItemD) : Int :=
 if x.kind = 2 ∧ x.name = [] ∧ x.attrs = [] then charsE x.text
 else if x.kind ≠ 1 ∨ x.text ≠ [] then 68
 else if namesE x = 0 then valuesE x.attrs else namesE x
def placeE (prev : Option ItemD) (k : Nat) (x : ItemD) : Int := match prev with
 | none => if x.level ≠ 0 ∨ x.kind ≠ 1 then 69 else 0
 | some p => if x.level < 1 ∨ p.level + 1 < x.level ∨ (p.level < x.level ∧ p.kind = 2) then 69 else if 40 ≤ x.level then 42 else if 1000 ≤ k then 43 else 0
def oneE (prev : Option ItemD) (k : Nat) (x : ItemD) : Int := if placeE prev k x = 0 then partsE x else placeE prev k x
def checkF (prev : Option ItemD) (k : Nat) : List ItemD → Int × Int
 | [] => (0, 0)
 | x :: r => if oneE prev k x = 0 then checkF (some x) (k + 1) r else (k, oneE prev k x)
def checkL (l : List ItemD) : Int × Int := if l = [] then (0, 40) else checkF none 0 l
end
section
open Go.RowKit
def strV (l : List UInt8) : Value := .string ⟨l.toArray⟩
def AttrsAt (w : World) (B : Nat) (A : Option Addr) (l : List AttrD) : Prop :=
 0 < l.length → ∃ ad, A = some ad ∧ ad.block < B ∧ ∀ k a, l[k]? = some a → w.cell? (ad.add (k * 2)) = some (strV a.name) ∧ w.cell? ⟨(ad.add (k * 2)).block, (ad.add (k * 2)).off + 1, none⟩ = some (strV a.value)
def itemVal (x : ItemD) (A : Option Addr) (c : Nat) : Array Value := #[.int .i64 x.level, .int .i64 x.kind, strV x.name, strV x.text, .slice A x.attrs.length c]
def ItemsAt (w : World) (B : Nat) (A : Option Addr) (l : List ItemD) : Prop :=
 0 < l.length → ∃ ad, A = some ad ∧ ad.block < B ∧ ∀ k x, l[k]? = some x → ∃ A' c, AttrsAt w B A' x.attrs ∧ x.attrs.length ≤ c ∧
  w.cell? (ad.add (k * 5)) = some (.int .i64 x.level) ∧ w.cell? ⟨(ad.add (k * 5)).block, (ad.add (k * 5)).off + 1, none⟩ = some (.int .i64 x.kind) ∧ w.cell? ⟨(ad.add (k * 5)).block, (ad.add (k * 5)).off + 2, none⟩ = some (strV x.name) ∧
  w.cell? ⟨(ad.add (k * 5)).block, (ad.add (k * 5)).off + 3, none⟩ = some (strV x.text) ∧ w.cell? ⟨(ad.add (k * 5)).block, (ad.add (k * 5)).off + 4, none⟩ = some (.slice A' x.attrs.length c)
theorem block_of_add (a : Addr) (n : Nat) : (a.add n).block = a.block := by unfold Addr.add; split <;> rfl
theorem add_of_add (a : Addr) (i j : Nat) : (a.add i).add j = a.add (i + j) := by
 unfold Addr.add
 by_cases hi : i = 0 <;> by_cases hj : j = 0 <;> simp [hi, hj, Nat.add_assoc]
section
variable {w w' : World} {B B' : Nat} {A : Option Addr}
theorem AttrsAt.keep {l : List AttrD} (h : AttrsAt w B A l) (hk : ∀ p : Addr, p.block < B → w'.cell? p = w.cell? p) : AttrsAt w' B A l := fun hn => by
 obtain ⟨ad, e, hb, hc⟩ := h hn
 exact ⟨ad, e, hb, fun k a ha => ⟨(hk _ (by rw [block_of_add]; exact hb)).trans (hc k a ha).1, (hk _ (by show (ad.add _).block < B; rw [block_of_add]; exact hb)).trans (hc k a ha).2⟩⟩
theorem AttrsAt.below {l : List AttrD} (h : AttrsAt w B A l) (hb : Below B w w') : AttrsAt w' B A l := h.keep fun _ hp => hb.cell hp
theorem ItemsAt.keep {l : List ItemD} (h : ItemsAt w B A l) (hk : ∀ p : Addr, p.block < B → w'.cell? p = w.cell? p) : ItemsAt w' B A l := fun hn => by
 obtain ⟨ad, e, hb, hc⟩ := h hn
 refine ⟨ad, e, hb, fun k x hx => ?_⟩
 obtain ⟨A', c, ha, hac, h0, h1, h2, h3, h4⟩ := hc k x hx
 have hk' : ∀ n, w'.cell? ⟨(ad.add (k * 5)).block, (ad.add (k * 5)).off + n, none⟩ = w.cell? ⟨(ad.add (k * 5)).block, (ad.add (k * 5)).off + n, none⟩ := fun n => hk _ (by show (ad.add _).block < B; rw [block_of_add]; exact hb)
 exact ⟨A', c, ha.keep hk, hac, (hk _ (by rw [block_of_add]; exact hb)).trans h0, (hk' _).trans h1, (hk' _).trans h2, (hk' _).trans h3, (hk' _).trans h4⟩
theorem ItemsAt.below {l : List ItemD} (h : ItemsAt w B A l) (hb : Below B w w') : ItemsAt w' B A l := h.keep fun _ hp => hb.cell hp
end
end
section
def prevOf (l : List ItemD) (k : Nat) : Option ItemD := if k = 0 then none else l[k - 1]?
def SmallItem (x : ItemD) : Prop := x.name.length ≤ 1000000000 ∧ x.text.length ≤ 1000000000 ∧ x.attrs.length ≤ 1000000000 ∧ (∀ (k : Nat) (a : AttrD), x.attrs[k]? = some a → a.name.length ≤ 1000000000 ∧ a.value.length ≤ 1000000000) ∧ (-9223372036854775808 ≤ x.level ∧ x.level ≤ 9223372036854775807)
theorem drop_cons {α : Type} {l : List α} {k : Nat} {a : α} (h : l[k]? = some a) : l.drop k = a :: l.drop (k + 1) := by
 have hl : k < l.length := (List.getElem?_eq_some_iff.1 h).1
 rw [List.drop_eq_getElem_cons hl]
 rw [List.getElem?_eq_getElem hl] at h
 injection h with h; rw [h]
theorem placeE_zero {prev : Option ItemD} {k : Nat} {x : ItemD} (h : placeE prev k x = 0) : 0 ≤ x.level ∧ x.level < 40 := by
 unfold placeE at h
 cases prev with
 | none =>
  simp only at h
  split at h
  ·omega
  ·omega
 | some p =>
  simp only at h
  split at h
  ·omega
  split at h
  ·omega
  ·omega
theorem oneE_zero {prev : Option ItemD} {k : Nat} {x : ItemD} (h : oneE prev k x = 0) : placeE prev k x = 0 ∧ partsE x = 0 := by
 unfold oneE at h
 by_cases hp : placeE prev k x = 0
 ·rw [if_pos hp] at h; exact ⟨hp, h⟩
 ·rw [if_neg hp] at h; exact absurd h hp
theorem prevOf_succ {l : List ItemD} {k : Nat} {x : ItemD} (hx : l[k]? = some x) : prevOf l (k + 1) = some x := by
 unfold prevOf; rw [if_neg (by omega)]; exact hx
def SmallItems (l : List ItemD) : Prop := l.length ≤ 1000000000 ∧ ∀ (k : Nat) (x : ItemD), l[k]? = some x → SmallItem x
end
section
open Go.RowKit
theorem has_any (a b c : Int) (w : World) (r : Bool) (hr : Hid ((decide (a ≤ c) && decide (c ≤ b)) = r)) :
  Calls Try.prog 78 #[.agg #[.int .i32 a, .int .i32 b], .int .i32 c] w (Ret w (.bool r)) := by
 rw [← hr.out]
 go_enter Try.func78, Try.ntmps78
 go_wp2
 all_goals go_ret
 all_goals (refine ⟨ret_bool ?_, (Below.refl _ _).alloc (Nat.le_refl _) _⟩)
 all_goals (rw [Bool.eq_iff_iff]; simp; try omega)
def startsTab : Array Value := #[.int .i32 65, .int .i32 90, .int .i32 95, .int .i32 95, .int .i32 97, .int .i32 122, .int .i32 192, .int .i32 214, .int .i32 216, .int .i32 246, .int .i32 248, .int .i32 767, .int .i32 880, .int .i32 893, .int .i32 895, .int .i32 8191, .int .i32 8204, .int .i32 8205, .int .i32 8304, .int .i32 8591, .int .i32 11264, .int .i32 12271, .int .i32 12289, .int .i32 55295, .int .i32 63744, .int .i32 64975, .int .i32 65008, .int .i32 65533, .int .i32 65536, .int .i32 983039]
def partsTab : Array Value := #[.int .i32 45, .int .i32 46, .int .i32 48, .int .i32 57, .int .i32 183, .int .i32 183, .int .i32 768, .int .i32 879, .int .i32 8255, .int .i32 8256]
theorem wpList_store_starts {ops : Array Oper} {rest : List Oper} {op : Oper} {a : Act} {w : World} {Q : Exit → Act → World → Prop} (z : Array Value) (hz : z.size = 30) (hgd : op.guard = none) (ho : op.op = .store 109 (.tmp 0) (.tmp 16))
  (hx : a.eval (.tmp 0) = .pointer (some ⟨w.heap.size, 0, none⟩)) (hy : a.eval (.tmp 16) = .agg startsTab)
  (h : wpList Try.prog ops Q rest (a.put op.dst undef) (w.alloc (.cells startsTab 109))) : wpList Try.prog ops Q (op :: rest) a (w.alloc (.cells z 109)) :=
 wpList_plain hgd fun _ hK => by
  unfold Oper.wp execOp
  simp only [ho, hx, hy]
  have := run_storeAt_new (P := Try.prog) w 109 z startsTab (by kernel_rfl) hz (by kernel_rfl)
  simp only [Sem.run_bind, this, Result.andThen_ok]
  exact hK _ _ h
theorem starts_any (w : World) : Calls Try.prog 79 #[] w (Ret w (.agg startsTab)) := by
 go_enter Try.func79, Try.ntmps79
 go_wp2_with (refine wpList_store_starts _ rfl rfl rfl rfl rfl ?_)
 exact bodyPost_ret (v := .agg startsTab) (results_cell_row Try.results79 _ _ w.heap.size 109 startsTab (0, 0) _ rfl (heap_alloc_new w _) Try.underlying109 rfl (by kernel_rfl)) rfl ⟨rfl, (Below.refl _ _).alloc (Nat.le_refl _) _⟩
theorem st_0 (w : World) : (Instr.index 109 (.agg startsTab) (.int .i64 0)).run Try.prog w = .ok (.agg #[.int .i32 65, .int .i32 90]) w := by kernel_rfl
theorem st_1 (w : World) : (Instr.index 109 (.agg startsTab) (.int .i64 1)).run Try.prog w = .ok (.agg #[.int .i32 95, .int .i32 95]) w := by kernel_rfl
theorem st_2 (w : World) : (Instr.index 109 (.agg startsTab) (.int .i64 2)).run Try.prog w = .ok (.agg #[.int .i32 97, .int .i32 122]) w := by kernel_rfl
theorem st_3 (w : World) : (Instr.index 109 (.agg startsTab) (.int .i64 3)).run Try.prog w = .ok (.agg #[.int .i32 192, .int .i32 214]) w := by kernel_rfl
theorem st_4 (w : World) : (Instr.index 109 (.agg startsTab) (.int .i64 4)).run Try.prog w = .ok (.agg #[.int .i32 216, .int .i32 246]) w := by kernel_rfl
theorem st_5 (w : World) : (Instr.index 109 (.agg startsTab) (.int .i64 5)).run Try.prog w = .ok (.agg #[.int .i32 248, .int .i32 767]) w := by kernel_rfl
theorem st_6 (w : World) : (Instr.index 109 (.agg startsTab) (.int .i64 6)).run Try.prog w = .ok (.agg #[.int .i32 880, .int .i32 893]) w := by kernel_rfl
theorem st_7 (w : World) : (Instr.index 109 (.agg startsTab) (.int .i64 7)).run Try.prog w = .ok (.agg #[.int .i32 895, .int .i32 8191]) w := by kernel_rfl
theorem st_8 (w : World) : (Instr.index 109 (.agg startsTab) (.int .i64 8)).run Try.prog w = .ok (.agg #[.int .i32 8204, .int .i32 8205]) w := by kernel_rfl
theorem st_9 (w : World) : (Instr.index 109 (.agg startsTab) (.int .i64 9)).run Try.prog w = .ok (.agg #[.int .i32 8304, .int .i32 8591]) w := by kernel_rfl
theorem st_10 (w : World) : (Instr.index 109 (.agg startsTab) (.int .i64 10)).run Try.prog w = .ok (.agg #[.int .i32 11264, .int .i32 12271]) w := by kernel_rfl
theorem st_11 (w : World) : (Instr.index 109 (.agg startsTab) (.int .i64 11)).run Try.prog w = .ok (.agg #[.int .i32 12289, .int .i32 55295]) w := by kernel_rfl
theorem st_12 (w : World) : (Instr.index 109 (.agg startsTab) (.int .i64 12)).run Try.prog w = .ok (.agg #[.int .i32 63744, .int .i32 64975]) w := by kernel_rfl
theorem st_13 (w : World) : (Instr.index 109 (.agg startsTab) (.int .i64 13)).run Try.prog w = .ok (.agg #[.int .i32 65008, .int .i32 65533]) w := by kernel_rfl
theorem st_14 (w : World) : (Instr.index 109 (.agg startsTab) (.int .i64 14)).run Try.prog w = .ok (.agg #[.int .i32 65536, .int .i32 983039]) w := by kernel_rfl
theorem pt_0 (w : World) : (Instr.index 108 (.agg partsTab) (.int .i64 0)).run Try.prog w = .ok (.agg #[.int .i32 45, .int .i32 46]) w := by kernel_rfl
theorem pt_1 (w : World) : (Instr.index 108 (.agg partsTab) (.int .i64 1)).run Try.prog w = .ok (.agg #[.int .i32 48, .int .i32 57]) w := by kernel_rfl
theorem pt_2 (w : World) : (Instr.index 108 (.agg partsTab) (.int .i64 2)).run Try.prog w = .ok (.agg #[.int .i32 183, .int .i32 183]) w := by kernel_rfl
theorem pt_3 (w : World) : (Instr.index 108 (.agg partsTab) (.int .i64 3)).run Try.prog w = .ok (.agg #[.int .i32 768, .int .i32 879]) w := by kernel_rfl
theorem pt_4 (w : World) : (Instr.index 108 (.agg partsTab) (.int .i64 4)).run Try.prog w = .ok (.agg #[.int .i32 8255, .int .i32 8256]) w := by kernel_rfl
end
section
open Go.RowKit
theorem has_two (a b c : Int) (w : World) :
  Calls Try.prog 78 #[.agg #[.int .i32 a, .int .i32 b], .int .i32 c] w (fun e w' => (e = .returned (.bool true) ∧ (a ≤ c ∧ c ≤ b) ∨ e = .returned (.bool false) ∧ ¬(a ≤ c ∧ c ≤ b)) ∧ Below w.heap.size w w') := by
 refine (has_any a b c w _ (Lib.hid rfl)).mono ?_
 rintro e w1 ⟨rfl, h⟩
 refine ⟨?_, h⟩
 by_cases k : a ≤ c ∧ c ≤ b
 ·exact .inl ⟨by simp [k], k⟩
 ·exact .inr ⟨by congr 2; simp; omega, k⟩
theorem Start_any (c : Int) (w : World) :
  Calls Try.prog 47 #[.int .i32 c] w (Ret w (.bool (startB c))) := by
 have q0 := st_0
 have q1 := st_1
 have q2 := st_2
 have q3 := st_3
 have q4 := st_4
 have q5 := st_5
 have q6 := st_6
 have q7 := st_7
 have q8 := st_8
 have q9 := st_9
 have q10 := st_10
 have q11 := st_11
 have q12 := st_12
 have q13 := st_13
 have q14 := st_14
 go_enter Try.func47, Try.ntmps47
 go_wp2_with fail
 refine (starts_any _).mono ?_; rintro e w0 ⟨rfl, hb⟩
 have hz := hb.size
 go_wp2_with fail
 refine wp_loop_rounds 16 ?_
 iterate 15
  rw [rounds_succ]
  go_wp2_with fail
  refine (has_two _ _ _ _).mono ?_
  rintro e w1 ⟨⟨rfl, h⟩ | ⟨rfl, h⟩, hb1⟩
  ·replace hb := (hb.alloc hz _).trans (hb1.mono (by simp; omega))
   have hv : Hid (startB c = true) := by show _ = _; unfold startB; simp; omega
   clear h hb1
   go_wp2_with fail
   go_ret
   exact ⟨by rw [hv.out]; rfl, hb⟩
  replace hb := (hb.alloc hz _).trans (hb1.mono (by simp; omega))
  replace hz := hb.size
  clear hb1
  go_wp2_with fail
 rw [rounds_succ]
 have hv : Hid (startB c = false) := by show _ = _; unfold startB; simp; omega
 go_wp2_with fail
 go_ret
 exact ⟨by rw [hv.out]; rfl, hb⟩
end
section
open Go.RowKit
theorem Part_any (c : Int) (w : World) :
  Calls Try.prog 46 #[.int .i32 c] w (Ret w (.bool (partB c))) := by
 have q0 := pt_0
 have q1 := pt_1
 have q2 := pt_2
 have q3 := pt_3
 have q4 := pt_4
 have ht : (#[Value.int .i32 45, Value.int .i32 46, Value.int .i32 48, Value.int .i32 57, Value.int .i32 183, Value.int .i32 183, Value.int .i32 768, Value.int .i32 879, Value.int .i32 8255, Value.int .i32 8256] : Array Value) = partsTab := rfl
 go_enter Try.func46, Try.ntmps46
 go_wp2_with fail
 refine wp_loop_rounds 6 ?_
 rw [rounds_succ]
 by_cases h0 : 45 ≤ c ∧ c ≤ 46
 ·have H0 : Hid ((decide ((45 : Int) ≤ c) && decide (c ≤ 46)) = true) := by show _ = _; simp [h0]
  have hv : Hid (partB c = true) := by show _ = _; unfold partB; simp; right; omega
  clear h0
  go_wp2_with fail
  refine (has_any 45 46 _ _ true H0).mono ?_; rintro e w1 ⟨rfl, hb1⟩
  have hz1 := hb1.size
  simp only [World.size_alloc] at hz1
  go_wp2_with fail
  go_ret
  exact ⟨by rw [hv.out]; rfl, ((((Below.refl w.heap.size w)).alloc (by omega) _).trans (hb1.mono (by first | omega | (simp; done) | (simp; omega))))⟩
 have H0 : Hid ((decide ((45 : Int) ≤ c) && decide (c ≤ 46)) = false) := by show _ = _; simp; omega
 go_wp2_with fail
 refine (has_any 45 46 _ _ false H0).mono ?_; rintro e w1 ⟨rfl, hb1⟩
 have hz1 := hb1.size
 simp only [World.size_alloc] at hz1
 go_wp2_with fail
 rw [rounds_succ]
 by_cases h1 : 48 ≤ c ∧ c ≤ 57
 ·have H1 : Hid ((decide ((48 : Int) ≤ c) && decide (c ≤ 57)) = true) := by show _ = _; simp [h1]
  have hv : Hid (partB c = true) := by show _ = _; unfold partB; simp; right; omega
  clear h1
  go_wp2_with fail
  refine (has_any 48 57 _ _ true H1).mono ?_; rintro e w2 ⟨rfl, hb2⟩
  have hz2 := hb2.size
  simp only [World.size_alloc] at hz2
  go_wp2_with fail
  go_ret
  exact ⟨by rw [hv.out]; rfl, (((((((Below.refl w.heap.size w)).alloc (by omega) _).trans (hb1.mono (by first | omega | (simp; done) | (simp; omega))))).alloc (by omega) _).trans (hb2.mono (by first | omega | (simp; done) | (simp; omega))))⟩
 have H1 : Hid ((decide ((48 : Int) ≤ c) && decide (c ≤ 57)) = false) := by show _ = _; simp; omega
 go_wp2_with fail
 refine (has_any 48 57 _ _ false H1).mono ?_; rintro e w2 ⟨rfl, hb2⟩
 have hz2 := hb2.size
 simp only [World.size_alloc] at hz2
 go_wp2_with fail
 rw [rounds_succ]
 by_cases h2 : 183 ≤ c ∧ c ≤ 183
 ·have H2 : Hid ((decide ((183 : Int) ≤ c) && decide (c ≤ 183)) = true) := by show _ = _; simp [h2]
  have hv : Hid (partB c = true) := by show _ = _; unfold partB; simp; right; omega
  clear h2
  go_wp2_with fail
  refine (has_any 183 183 _ _ true H2).mono ?_; rintro e w3 ⟨rfl, hb3⟩
  have hz3 := hb3.size
  simp only [World.size_alloc] at hz3
  go_wp2_with fail
  go_ret
  exact ⟨by rw [hv.out]; rfl, ((((((((((Below.refl w.heap.size w)).alloc (by omega) _).trans (hb1.mono (by first | omega | (simp; done) | (simp; omega))))).alloc (by omega) _).trans (hb2.mono (by first | omega | (simp; done) | (simp; omega))))).alloc (by omega) _).trans (hb3.mono (by first | omega | (simp; done) | (simp; omega))))⟩
 have H2 : Hid ((decide ((183 : Int) ≤ c) && decide (c ≤ 183)) = false) := by show _ = _; simp; omega
 go_wp2_with fail
 refine (has_any 183 183 _ _ false H2).mono ?_; rintro e w3 ⟨rfl, hb3⟩
 have hz3 := hb3.size
 simp only [World.size_alloc] at hz3
 go_wp2_with fail
 rw [rounds_succ]
 by_cases h3 : 768 ≤ c ∧ c ≤ 879
 ·have H3 : Hid ((decide ((768 : Int) ≤ c) && decide (c ≤ 879)) = true) := by show _ = _; simp [h3]
  have hv : Hid (partB c = true) := by show _ = _; unfold partB; simp; right; omega
  clear h3
  go_wp2_with fail
  refine (has_any 768 879 _ _ true H3).mono ?_; rintro e w4 ⟨rfl, hb4⟩
  have hz4 := hb4.size
  simp only [World.size_alloc] at hz4
  go_wp2_with fail
  go_ret
  exact ⟨by rw [hv.out]; rfl, (((((((((((((Below.refl w.heap.size w)).alloc (by omega) _).trans (hb1.mono (by first | omega | (simp; done) | (simp; omega))))).alloc (by omega) _).trans (hb2.mono (by first | omega | (simp; done) | (simp; omega))))).alloc (by omega) _).trans (hb3.mono (by first | omega | (simp; done) | (simp; omega))))).alloc (by omega) _).trans (hb4.mono (by first | omega | (simp; done) | (simp; omega))))⟩
 have H3 : Hid ((decide ((768 : Int) ≤ c) && decide (c ≤ 879)) = false) := by show _ = _; simp; omega
 go_wp2_with fail
 refine (has_any 768 879 _ _ false H3).mono ?_; rintro e w4 ⟨rfl, hb4⟩
 have hz4 := hb4.size
 simp only [World.size_alloc] at hz4
 go_wp2_with fail
 rw [rounds_succ]
 by_cases h4 : 8255 ≤ c ∧ c ≤ 8256
 ·have H4 : Hid ((decide ((8255 : Int) ≤ c) && decide (c ≤ 8256)) = true) := by show _ = _; simp [h4]
  have hv : Hid (partB c = true) := by show _ = _; unfold partB; simp; right; omega
  clear h4
  go_wp2_with fail
  refine (has_any 8255 8256 _ _ true H4).mono ?_; rintro e w5 ⟨rfl, hb5⟩
  have hz5 := hb5.size
  simp only [World.size_alloc] at hz5
  go_wp2_with fail
  go_ret
  exact ⟨by rw [hv.out]; rfl, ((((((((((((((((Below.refl w.heap.size w)).alloc (by omega) _).trans (hb1.mono (by first | omega | (simp; done) | (simp; omega))))).alloc (by omega) _).trans (hb2.mono (by first | omega | (simp; done) | (simp; omega))))).alloc (by omega) _).trans (hb3.mono (by first | omega | (simp; done) | (simp; omega))))).alloc (by omega) _).trans (hb4.mono (by first | omega | (simp; done) | (simp; omega))))).alloc (by omega) _).trans (hb5.mono (by first | omega | (simp; done) | (simp; omega))))⟩
 have H4 : Hid ((decide ((8255 : Int) ≤ c) && decide (c ≤ 8256)) = false) := by show _ = _; simp; omega
 go_wp2_with fail
 refine (has_any 8255 8256 _ _ false H4).mono ?_; rintro e w5 ⟨rfl, hb5⟩
 have hz5 := hb5.size
 simp only [World.size_alloc] at hz5
 go_wp2_with fail
 rw [rounds_succ]
 have hv : Hid (partB c = startB c) := by show _ = _; unfold partB; rw [Bool.or_eq_left_iff_imp]; simp; omega
 clear h0 h1 h2 h3 h4
 go_wp2_with fail
 refine (Start_any _ _).mono ?_; rintro e w9 ⟨rfl, hb9⟩
 have hz9 := hb9.size
 go_wp2_with fail
 go_ret
 exact ⟨by rw [hv.out]; rfl, (((((((((((((((((Below.refl w.heap.size w)).alloc (by omega) _).trans (hb1.mono (by first | omega | (simp; done) | (simp; omega))))).alloc (by omega) _).trans (hb2.mono (by first | omega | (simp; done) | (simp; omega))))).alloc (by omega) _).trans (hb3.mono (by first | omega | (simp; done) | (simp; omega))))).alloc (by omega) _).trans (hb4.mono (by first | omega | (simp; done) | (simp; omega))))).alloc (by omega) _).trans (hb5.mono (by first | omega | (simp; done) | (simp; omega))))).trans (hb9.mono (by omega))⟩
end
section
open Go.RowKit
theorem Part_as (c : Int) (w : World) (r : Bool) (h : Hid (partB c = r)) : Calls Try.prog 46 #[.int .i32 c] w (Ret w (.bool r)) := by
 rw [← h.out]; exact Part_any c w
theorem Start_as (c : Int) (w : World) (r : Bool) (h : Hid (startB c = r)) : Calls Try.prog 47 #[.int .i32 c] w (Ret w (.bool r)) := by
 rw [← h.out]; exact Start_any c w
theorem name1_any (c : Int) (first : Bool) (w : World) (r : Bool) (h : Hid ((partB c && (!first || startB c)) = r)) :
  Calls Try.prog 45 #[.int .i32 c, .bool first] w (Ret w (.bool r)) := by
 rw [← h.out]
 clear h
 obtain ⟨p, hp⟩ : ∃ p, Hid (partB c = p) := ⟨_, rfl⟩
 obtain ⟨q, hq⟩ : ∃ q, Hid (startB c = q) := ⟨_, rfl⟩
 rw [hp.out, hq.out]
 cases p <;> cases first <;> cases q
 all_goals
  go_enter Try.func45, Try.ntmps45
  go_wp2_with (first
   | (go_at_call 46; refine (Part_as c _ _ hp).mono ?_; rintro e w2 ⟨rfl, hb2⟩)
   | (go_at_call 47; refine (Start_as c _ _ hq).mono ?_; rintro e w3 ⟨rfl, hb3⟩))
  go_ret
  first
   | exact ⟨rfl, hb2⟩
   | exact ⟨rfl, hb2.trans (hb3.mono (by have := hb2.size; omega))⟩
theorem each_name (s : ByteArray) (b : Nat) (w : World) (hs : s.size ≤ maxLen) (hb : b < w.heap.size)
  (hc : w.cell? ⟨b, 0, none⟩ = some (.func (.func 45) #[] #[])) (V : Int) (hV : Hid (eachI 0 s.data.toList = V)) :
  Calls Try.prog 44 #[.string s, .slice (some ⟨b, 0, none⟩) 1 1] w (Ret w (.int .i64 V)) := by
 unfold maxLen at hs
 have HC := Lib.hid hc
 clear hc
 go_enter Try.func44, Try.ntmps44
 go_wp2_with fail
 go_loopw [0, 5] (fun sv mv wr => ∃ (t : ByteArray) (k : Nat), sv = .string t ∧ mv = .int .i64 k ∧ k + t.size ≤ s.size ∧ Hid (eachI k t.data.toList = V) ∧ Below w.heap.size w wr) (fun sv _ _ => (strOf sv).size)
 case atStart => exact ⟨s, 0, rfl, rfl, by omega, hV, Below.refl _ _⟩
 case round =>
  obtain ⟨t, k, rfl, rfl, hkt, hyes, hbel⟩ := hrel
  have hwr := hbel.size
  have HL := Lib.hid (size_toList t)
  by_cases he : t.toList.isEmpty = true
  ·have hnil : t.data.toList = [] := by rw [ByteArray.toList_eq] at he; simpa using he
   have hv : Hid (V = k) := by
    have := hyes.out
    rw [hnil, eachI_nil] at this
    exact this.symm
   clear hnil
   go_wp2_with fail
   go_ret
   exact ⟨by rw [hv.out]; rfl, hbel⟩
  ·have hne : t.toList.isEmpty = false := by simpa using he
   clear he
   have hnn : Hid (t.data.toList ≠ []) := by
    intro h
    rw [ByteArray.toList_eq, h] at hne
    cases hne
   obtain ⟨c, n, hq⟩ : ∃ c n, Hid (nextL t.data.toList = (c, n)) := ⟨_, _, rfl⟩
   have hle := nextL_le t.data.toList
   rw [hq.out, HL.out] at hle
   obtain ⟨hn1, hn4⟩ := hle
   simp only at hn1 hn4
   by_cases hn : n = 0
   ·have hv : Hid (V = -1) := by
     have := eachI_bad k t.data.toList hnn.out (by rw [hq.out]; exact hn)
     exact hyes.out.symm.trans this
    have hn0 : ((n : Int) == 0) = true := by simp [hn]
    clear hn
    go_wp2_with (go_at_call 77; refine (Next_as t wr (by unfold maxLen; omega) c n hq).mono ?_; rintro e w2 ⟨rfl, hb2⟩)
    go_ret
    exact ⟨by rw [hv.out]; rfl, hbel.trans (hb2.mono (by omega))⟩
   ·have hn0 : ((n : Int) == 0) = false := by simp [hn]
    have hnp : 1 ≤ n := by omega
    have HN : Hid ((nextL t.data.toList).2 ≠ 0) := by show _; rw [hq.out]; exact hn
    clear hn
    obtain ⟨f, hf⟩ : ∃ f, Hid (((k : Int) == 0) = f) := ⟨_, rfl⟩
    have hf' : Hid ((k == 0) = f) := by
     show _ = _
     rw [← hf.out, Bool.eq_iff_iff]; simp
    obtain ⟨r, hr⟩ : ∃ r, Hid ((partB c && (!f || startB c)) = r) := ⟨_, rfl⟩
    go_wp2_with fail
    refine (Next_as t wr (by unfold maxLen; omega) c n hq).mono ?_
    rintro e w2 ⟨rfl, hb2⟩
    obtain ⟨wo, rfl⟩ : ∃ wo : World, wo = wr := ⟨_, rfl⟩
    have hbel2 := hbel.trans (hb2.mono (by omega))
    have hz2 := hbel2.size
    have hcell : w2.cell? ⟨b, 0, none⟩ = some (.func (.func 45) #[] #[]) := by
     rw [hbel2.cell (p := ⟨b, 0, none⟩) hb]; exact HC.out
    have hfv := hf.out
    go_wp2_with fail
    cases r with
    | false =>
     have hv : Hid (V = -1) := by
      have := eachI_no k t.data.toList hnn.out HN.out (by rw [hq.out, hf'.out]; exact hr.out)
      exact hyes.out.symm.trans this
     refine wp_loop_rounds 1 ?_
     rw [rounds_succ]
     go_wp2_with (go_at_call 45; refine (name1_any c f _ _ hr).mono ?_; rintro e w3 ⟨rfl, hb3⟩)
     go_ret
     exact ⟨by rw [hv.out]; rfl, hbel2.trans (hb3.mono (by omega))⟩
    | true =>
     have hx : (t.extract n t.size).data.toList = t.data.toList.drop n := Lib.extract_to_end t n
     have hxs : (t.extract n t.size).size = t.size - n := by simp
     have hst : Hid (eachI (k + 1) (t.extract n t.size).data.toList = V) := by
      have := eachI_step k t.data.toList hnn.out HN.out (by rw [hq.out, hf'.out]; exact hr.out)
      rw [hq.out] at this
      show _ = _
      rw [hx, ← hyes.out, this]
     have HX := Lib.hid hxs
     clear hx hxs
     refine wp_loop_rounds 2 ?_
     rw [rounds_succ]
     go_wp2_with (go_at_call 45; refine (name1_any c f _ _ hr).mono ?_; rintro e w3 ⟨rfl, hb3⟩)
     rw [rounds_succ]
     go_wp2_with fail
     go_roundw
     case rel => exact ⟨t.extract n t.size, k + 1, rfl, by go_num, by rw [HX.out]; omega, hst, hbel2.trans (hb3.mono (by omega))⟩
     case measure =>
      show (t.extract n t.size).size < t.size
      rw [HX.out]; omega
theorem Name_any (s : ByteArray) (w : World) (hs : s.size ≤ maxLen) (r : Bool) (hr : Hid (nameL s.data.toList = r)) :
  Calls Try.prog 21 #[.string s] w (Ret w (.bool r)) := by
 have hr' := hr.out
 rw [nameL_each, size_toList] at hr'
 have HL := Lib.hid hr'
 clear hr hr'
 by_cases he : s.toList.isEmpty = true
 ·have hnil : s.data.toList = [] := by rw [ByteArray.toList_eq] at he; simpa using he
  have hv : Hid (r = false) := by show _ = _; rw [← HL.out, hnil]; simp
  clear hnil HL
  go_enter Try.func21, Try.ntmps21
  go_wp2_with fail
  go_ret
  exact ⟨by rw [hv.out]; rfl, Below.refl _ _⟩
 ·have hne : s.toList.isEmpty = false := by simpa using he
  clear he
  have hnn : Hid (s.data.toList ≠ []) := by
   intro h
   rw [ByteArray.toList_eq, h] at hne
   cases hne
  by_cases h60 : s.size ≤ 60
  ·obtain ⟨V, hV⟩ : ∃ V, Hid (eachI 0 s.data.toList = V) := ⟨_, rfl⟩
   have hz : (s.size : Int) ≤ 60 := by omega
   have hv : Hid (decide (0 < V) = r) := by
    show _ = _
    rw [← HL.out, hV.out]; simp [h60, hnn.out]
   clear h60
   go_enter Try.func21, Try.ntmps21
   go_wp2_with fail
   refine (each_name s w.heap.size _ hs (by simp) (World.cell?_alloc_at _ _ _ _ (by simp)) V hV).mono ?_
   rintro e w2 ⟨rfl, hb2⟩
   go_wp2_with fail
   go_ret
   refine ⟨by rw [← hv.out]; rfl, ((Below.refl _ w).alloc (Nat.le_refl _) _).trans (hb2.mono (by simp))⟩
  ·have hz : 60 < (s.size : Int) := by omega
   have hv : Hid (r = false) := by show _ = _; rw [← HL.out]; simp [h60]
   clear h60
   go_enter Try.func21, Try.ntmps21
   go_wp2_with fail
   go_ret
   exact ⟨by rw [hv.out]; rfl, Below.refl _ _⟩
end
section
open Go.RowKit
def OwnRunes (w w' : World) (v : Value) (cs : List Int) : Prop := w'.ownsRow w.heap.size 21 1 v cs.length (cs.map (Value.int .i32))
def AllPost (w : World) (r : Option (List Int)) (e : Ending) (w' : World) : Prop :=
 ∃ ad c, e = .returned (.tuple #[.slice ad (r.getD []).length c, .bool r.isSome]) ∧ OwnRunes w w' (.slice ad (r.getD []).length c) (r.getD []) ∧ Below w.heap.size w w'
end
section
open Go.RowKit
end
section
open Go.RowKit
theorem Name_l (s : List UInt8) (w : World) (hs : s.length ≤ 1000000000) (r : Bool) (hr : Hid (nameL s = r)) :
  Calls Try.prog 21 #[.string ⟨s.toArray⟩] w (Ret w (.bool r)) := Name_any _ w (by show s.toArray.size ≤ maxLen; unfold maxLen; simp; omega) r hr
end
end Go.Proofs.Ythifddkmbjnncaa
