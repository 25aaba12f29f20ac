/-
  The walks of glyph.Char, glyph.laid and glyph.Put, and of the document's Char and Put.
-/
import Derived.Test.YthifddkmbjnncaaRows
import Derived.Test.YthifddkmbjnncaaKit
import Derived.Test.YthifddkmbjnncaaPlain
namespace Go.Proofs.Ythifddkmbjnncaa
open Go.RowKit

theorem infoByte : (Try.prog.info? 5).map (fun i => (i.zero, i.size, i.bytes)) = some (some (.int .u8 0), 1, 1) := by kernel_rfl

theorem or_u8 : ∀ (m : Fin 4) (x : Fin 64), m.val * 64 + x.val < 256 → bits .or .u8 ((m.val : Int) * 64) (x.val : Int) = (m.val : Int) * 64 + x.val := by decide +kernel
theorem or192 (x : Int) (h0 : 0 ≤ x) (h1 : x < 64) : bits .or .u8 192 x = 192 + x := by
  have := or_u8 ⟨3, by omega⟩ ⟨x.toNat, by omega⟩ (by simp; omega)
  simpa [Int.toNat_of_nonneg h0] using this
theorem or0 : ∀ (x : Fin 256), bits .or .u8 0 (x.val : Int) = x.val := by decide +kernel
theorem or224a : ∀ (x : Fin 16), bits .or .u8 224 (x.val : Int) = 224 + x.val := by decide +kernel
theorem or240a : ∀ (x : Fin 8), bits .or .u8 240 (x.val : Int) = 240 + x.val := by decide +kernel
theorem or0' (x : Int) (h0 : 0 ≤ x) (h1 : x < 256) : bits .or .u8 0 x = x := by
  have := or0 ⟨x.toNat, by omega⟩
  simpa [Int.toNat_of_nonneg h0] using this
theorem or224 (x : Int) (h0 : 0 ≤ x) (h1 : x < 16) : bits .or .u8 224 x = 224 + x := by
  have := or224a ⟨x.toNat, by omega⟩
  simpa [Int.toNat_of_nonneg h0] using this
theorem or240 (x : Int) (h0 : 0 ≤ x) (h1 : x < 8) : bits .or .u8 240 x = 240 + x := by
  have := or240a ⟨x.toNat, by omega⟩
  simpa [Int.toNat_of_nonneg h0] using this

set_option maxHeartbeats 400000 in
theorem Char_any (c : Int) (w : World) :
    Calls Try.prog 130 #[.int .i32 c] w fun e w' => e = .returned (.bool (charB c)) ∧ w = w' := by
  go_enter Try.func130, Try.ntmps130
  go_wp2
  all_goals go_ret
  all_goals (refine ⟨congrArg (fun b => Ending.returned (.bool b)) ?_, rfl⟩; rw [Bool.eq_iff_iff]; simp [charB]; try omega)

set_option maxHeartbeats 400000 in
theorem laid1 (c : Int) (w : World) (h0 : 0 ≤ c) (h1 : c < 128) :
    Calls Try.prog 131 #[.int .i32 c, .int .u8 0, .int .i64 1] w (Ret w (.string ⟨(enc c).toArray⟩)) := by
  have e0 : bits .or .u8 0 c = c := or0' _ (by omega) (by omega)
  go_enter Try.func131, Try.ntmps131
  go_wp2
  refine wp_loop_rounds 1 ?_
  have hc : [Value.int .u8 (c)] = Lib.byteCells (enc c) := by
    unfold enc; rw [if_pos (by omega)]; simp [Lib.byteCells]
    simp only [bt_toNat (c) (by omega) (by omega)]
  have hown : (w.alloc (.cells #[.int .u8 c] 5)).ownsRow w.heap.size 5 1 (.slice (some ⟨w.heap.size, 0, none⟩) 1 1) 1 (Lib.byteCells (enc c)) := by
    rw [← hc]; exact own_lit w 5 (.int .u8 c) w.heap.size (Nat.le_refl _)
  clear hc
  have hcv := run_string_own (P := Try.prog) hown Try.underlying78 Try.underlying5 Try.underlying9
  rw [rounds_succ]
  go_wp2
  go_ret
  exact ⟨rfl, (Below.refl _ _).alloc (Nat.le_refl _) _⟩

set_option maxHeartbeats 400000 in
theorem laid2 (c : Int) (w : World) (h0 : 128 ≤ c) (h1 : c < 2048) :
    Calls Try.prog 131 #[.int .i32 c, .int .u8 192, .int .i64 2] w (Ret w (.string ⟨(enc c).toArray⟩)) := by
  have e0 : bits .or .u8 192 (c / 64 % 256) = 192 + c / 64 := by rw [or192 _ (by omega) (by omega)]; omega
  have e1 : bits .or .u8 192 (c / 64) = 192 + c / 64 := by rw [or192 _ (by omega) (by omega)]
  go_enter Try.func131, Try.ntmps131
  go_wp2
  refine wp_loop_rounds 2 ?_
  rw [rounds_succ]
  go_wp2_with (at_builtin; refine append1 rfl (.tmp 24) (.tmp 32) 78 rfl w.heap.size 5 (.int .u8 0) 1 Try.underlying78 infoByte rfl _ 1 [.int .u8 (192 + c / 64)] _ rfl (own_lit _ _ _ _ (Nat.le_refl _)) (by simp) _ rfl (by simp) rfl (by omega) (by omega) ?_)
  intro g1 cp1 w1 hown1 hb1 hz1
  try simp only [List.cons_append, List.nil_append] at hown1
  have hc : [Value.int .u8 (192 + c / 64), Value.int .u8 (128 + c % 64)] = Lib.byteCells (enc c) := by
    unfold enc; rw [if_neg (by omega), if_pos (by omega)]; simp [Lib.byteCells]
    simp only [bt_toNat (192 + c / 64) (by omega) (by omega), bt_toNat (128 + c % 64) (by omega) (by omega)]; simp
  rw [hc] at hown1
  clear hc
  have hcv := run_string_own (P := Try.prog) hown1 Try.underlying78 Try.underlying5 Try.underlying9
  go_wp2
  rw [rounds_succ]
  go_wp2
  go_ret
  exact ⟨rfl, ((Below.refl _ w).alloc (Nat.le_refl _) _).trans hb1⟩

set_option maxHeartbeats 400000 in
theorem laid3 (c : Int) (w : World) (h0 : 2048 ≤ c) (h1 : c < 65536) :
    Calls Try.prog 131 #[.int .i32 c, .int .u8 224, .int .i64 3] w (Ret w (.string ⟨(enc c).toArray⟩)) := by
  have e0 : bits .or .u8 224 (c / 4096 % 256) = 224 + c / 4096 := by rw [or224 _ (by omega) (by omega)]; omega
  have e1 : bits .or .u8 224 (c / 4096) = 224 + c / 4096 := by rw [or224 _ (by omega) (by omega)]
  go_enter Try.func131, Try.ntmps131
  go_wp2
  refine wp_loop_rounds 3 ?_
  rw [rounds_succ]
  go_wp2_with (at_builtin; refine append1 rfl (.tmp 24) (.tmp 32) 78 rfl w.heap.size 5 (.int .u8 0) 1 Try.underlying78 infoByte rfl _ 1 [.int .u8 (224 + c / 4096)] _ rfl (own_lit _ _ _ _ (Nat.le_refl _)) (by simp) _ rfl (by simp) rfl (by omega) (by omega) ?_)
  intro g1 cp1 w1 hown1 hb1 hz1
  try simp only [List.cons_append, List.nil_append] at hown1
  have hs1 : w.heap.size < w1.heap.size := by omega
  go_wp2
  rw [rounds_succ]
  go_wp2_with (at_builtin; refine append1 rfl (.tmp 24) (.tmp 32) 78 rfl w.heap.size 5 (.int .u8 0) 1 Try.underlying78 infoByte rfl _ 2 [.int .u8 (224 + c / 4096), .int .u8 (128 + c / 64 % 64)] _ rfl hown1 (by omega) _ rfl (by simp) rfl (by omega) (by omega) ?_)
  intro g2 cp2 w2 hown2 hb2 hz2
  try simp only [List.cons_append, List.nil_append] at hown2
  have hc : [Value.int .u8 (224 + c / 4096), Value.int .u8 (128 + c / 64 % 64), Value.int .u8 (128 + c % 64)] = Lib.byteCells (enc c) := by
    unfold enc; rw [if_neg (by omega), if_neg (by omega), if_pos (by omega)]; simp [Lib.byteCells]
    simp only [bt_toNat (224 + c / 4096) (by omega) (by omega), bt_toNat (128 + c / 64 % 64) (by omega) (by omega), bt_toNat (128 + c % 64) (by omega) (by omega)]; simp
  rw [hc] at hown2
  clear hc
  have hcv := run_string_own (P := Try.prog) hown2 Try.underlying78 Try.underlying5 Try.underlying9
  go_wp2
  rw [rounds_succ]
  go_wp2
  go_ret
  exact ⟨rfl, (((Below.refl _ w).alloc (Nat.le_refl _) _).trans hb1).trans hb2⟩

set_option maxHeartbeats 400000 in
theorem laid4 (c : Int) (w : World) (h0 : 65536 ≤ c) (h1 : c ≤ 1114111) :
    Calls Try.prog 131 #[.int .i32 c, .int .u8 240, .int .i64 4] w (Ret w (.string ⟨(enc c).toArray⟩)) := by
  have e0 : bits .or .u8 240 (c / 262144 % 256) = 240 + c / 262144 := by rw [or240 _ (by omega) (by omega)]; omega
  have e1 : bits .or .u8 240 (c / 262144) = 240 + c / 262144 := by rw [or240 _ (by omega) (by omega)]
  go_enter Try.func131, Try.ntmps131
  go_wp2
  refine wp_loop_rounds 4 ?_
  rw [rounds_succ]
  go_wp2_with (at_builtin; refine append1 rfl (.tmp 24) (.tmp 32) 78 rfl w.heap.size 5 (.int .u8 0) 1 Try.underlying78 infoByte rfl _ 1 [.int .u8 (240 + c / 262144)] _ rfl (own_lit _ _ _ _ (Nat.le_refl _)) (by simp) _ rfl (by simp) rfl (by omega) (by omega) ?_)
  intro g1 cp1 w1 hown1 hb1 hz1
  try simp only [List.cons_append, List.nil_append] at hown1
  have hs1 : w.heap.size < w1.heap.size := by omega
  go_wp2
  rw [rounds_succ]
  go_wp2_with (at_builtin; refine append1 rfl (.tmp 24) (.tmp 32) 78 rfl w.heap.size 5 (.int .u8 0) 1 Try.underlying78 infoByte rfl _ 2 [.int .u8 (240 + c / 262144), .int .u8 (128 + c / 4096 % 64)] _ rfl hown1 (by omega) _ rfl (by simp) rfl (by omega) (by omega) ?_)
  intro g2 cp2 w2 hown2 hb2 hz2
  try simp only [List.cons_append, List.nil_append] at hown2
  have hs2 : w.heap.size < w2.heap.size := by omega
  go_wp2
  rw [rounds_succ]
  go_wp2_with (at_builtin; refine append1 rfl (.tmp 24) (.tmp 32) 78 rfl w.heap.size 5 (.int .u8 0) 1 Try.underlying78 infoByte rfl _ 3 [.int .u8 (240 + c / 262144), .int .u8 (128 + c / 4096 % 64), .int .u8 (128 + c / 64 % 64)] _ rfl hown2 (by omega) _ rfl (by simp) rfl (by omega) (by omega) ?_)
  intro g3 cp3 w3 hown3 hb3 hz3
  try simp only [List.cons_append, List.nil_append] at hown3
  have hc : [Value.int .u8 (240 + c / 262144), Value.int .u8 (128 + c / 4096 % 64), Value.int .u8 (128 + c / 64 % 64), Value.int .u8 (128 + c % 64)] = Lib.byteCells (enc c) := by
    unfold enc; rw [if_neg (by omega), if_neg (by omega), if_neg (by omega)]; simp [Lib.byteCells]
    simp only [bt_toNat (240 + c / 262144) (by omega) (by omega), bt_toNat (128 + c / 4096 % 64) (by omega) (by omega), bt_toNat (128 + c / 64 % 64) (by omega) (by omega), bt_toNat (128 + c % 64) (by omega) (by omega)]; simp
  rw [hc] at hown3
  clear hc
  have hcv := run_string_own (P := Try.prog) hown3 Try.underlying78 Try.underlying5 Try.underlying9
  go_wp2
  rw [rounds_succ]
  go_wp2
  go_ret
  exact ⟨rfl, ((((Below.refl _ w).alloc (Nat.le_refl _) _).trans hb1).trans hb2).trans hb3⟩

set_option maxHeartbeats 400000 in
theorem Put_any (c : Int) (w : World) :
    Calls Try.prog 103 #[.int .i32 c] w (Ret w (.tuple #[.string ⟨(putF c).toArray⟩, .bool (charB c)])) := by
  by_cases hc : charB c = true
  · have hp : putF c = enc c := by unfold putF; rw [if_pos hc]
    have hr : 0 ≤ c ∧ c ≤ 1114111 := by simp [charB] at hc; omega
    obtain ⟨hr0, hr1⟩ := hr
    have HP := Lib.hid hp
    clear hp
    go_enter Try.func103, Try.ntmps103
    go_wp2_with (first
      | (go_at_call 130; refine (Char_any _ _).mono ?_; rintro e w' ⟨rfl, rfl⟩)
      | (go_at_call 131; first
          | ((with_reducible refine (laid1 _ _ (by omega) (by omega)).mono ?_); rintro e w' ⟨rfl, hb⟩)
          | ((with_reducible refine (laid2 _ _ (by omega) (by omega)).mono ?_); rintro e w' ⟨rfl, hb⟩)
          | ((with_reducible refine (laid3 _ _ (by omega) (by omega)).mono ?_); rintro e w' ⟨rfl, hb⟩)
          | ((with_reducible refine (laid4 _ _ (by omega) (by omega)).mono ?_); rintro e w' ⟨rfl, hb⟩)))
    all_goals go_ret2
    all_goals exact ⟨by rw [HP.out, hc]; rfl, hb⟩
  · have hc' : charB c = false := by simpa using hc
    clear hc
    have HP : Hid (putF c = []) := by unfold putF; rw [hc']; rfl
    go_enter Try.func103, Try.ntmps103
    go_wp2_with (go_at_call 130; refine (Char_any _ _).mono ?_; rintro e w' ⟨rfl, rfl⟩)
    go_ret2
    exact ⟨by rw [HP.out, hc']; rfl, Below.refl _ _⟩

end Go.Proofs.Ythifddkmbjnncaa
