/-
  The walks of glyph.starts, (span).has, Start and Part.
-/
import Derived.Test.YthifddkmbjnncaaNext
import Derived.Test.YthifddkmbjnncaaNamePlain
import Derived.Deep.WholeRow
namespace Go.Proofs.Ythifddkmbjnncaa
open Go.RowKit

set_option maxRecDepth 100000 in
set_option maxHeartbeats 1000000 in
theorem has_any (a b c : Int) (w : World) (r : Bool) (hr : Hid ((decide (a ≤ c) && decide (c ≤ b)) = r)) :
    Calls Try.prog 78 #[.agg #[.int .i32 a, .int .i32 b], .int .i32 c] w (Ret w (.bool r)) := by
  rw [← hr.out]
  go_enter Try.func78, Try.ntmps78
  go_wp2
  all_goals go_ret
  all_goals (refine ⟨ret_bool ?_, (Below.refl _ _).alloc (Nat.le_refl _) _⟩)
  all_goals (rw [Bool.eq_iff_iff]; simp; try omega)

def startsTab : Array Value := #[.int .i32 65, .int .i32 90, .int .i32 95, .int .i32 95, .int .i32 97, .int .i32 122, .int .i32 192, .int .i32 214, .int .i32 216, .int .i32 246, .int .i32 248, .int .i32 767, .int .i32 880, .int .i32 893, .int .i32 895, .int .i32 8191, .int .i32 8204, .int .i32 8205, .int .i32 8304, .int .i32 8591, .int .i32 11264, .int .i32 12271, .int .i32 12289, .int .i32 55295, .int .i32 63744, .int .i32 64975, .int .i32 65008, .int .i32 65533, .int .i32 65536, .int .i32 983039]
def partsTab : Array Value := #[.int .i32 45, .int .i32 46, .int .i32 48, .int .i32 57, .int .i32 183, .int .i32 183, .int .i32 768, .int .i32 879, .int .i32 8255, .int .i32 8256]

theorem wpList_store_starts {ops : Array Oper} {rest : List Oper} {op : Oper} {a : Act} {w : World} {Q : Exit → Act → World → Prop} (z : Array Value) (hz : z.size = 30) (hgd : op.guard = none) (ho : op.op = .store 109 (.tmp 0) (.tmp 16))
    (hx : a.eval (.tmp 0) = .pointer (some ⟨w.heap.size, 0, none⟩)) (hy : a.eval (.tmp 16) = .agg startsTab)
    (h : wpList Try.prog ops Q rest (a.put op.dst undef) (w.alloc (.cells startsTab 109))) : wpList Try.prog ops Q (op :: rest) a (w.alloc (.cells z 109)) :=
  wpList_plain hgd fun _ hK => by
    unfold Oper.wp execOp
    simp only [ho, hx, hy]
    have := run_storeAt_new (P := Try.prog) w 109 z startsTab (by kernel_rfl) hz (by kernel_rfl)
    simp only [Sem.run_bind, this, Result.andThen_ok]
    exact hK _ _ h

set_option maxRecDepth 100000 in
set_option maxHeartbeats 1000000 in
theorem starts_any (w : World) : Calls Try.prog 79 #[] w (Ret w (.agg startsTab)) := by
  go_enter Try.func79, Try.ntmps79
  go_wp2_with (refine wpList_store_starts _ rfl rfl rfl rfl rfl ?_)
  exact bodyPost_ret (v := .agg startsTab) (results_cell_row Try.results79 _ _ w.heap.size 109 startsTab (0, 0) _ rfl (heap_alloc_new w _) Try.underlying109 rfl (by kernel_rfl)) rfl ⟨rfl, (Below.refl _ _).alloc (Nat.le_refl _) _⟩

theorem st_0 (w : World) : (Instr.index 109 (.agg startsTab) (.int .i64 0)).run Try.prog w = .ok (.agg #[.int .i32 65, .int .i32 90]) w := by kernel_rfl
theorem st_1 (w : World) : (Instr.index 109 (.agg startsTab) (.int .i64 1)).run Try.prog w = .ok (.agg #[.int .i32 95, .int .i32 95]) w := by kernel_rfl
theorem st_2 (w : World) : (Instr.index 109 (.agg startsTab) (.int .i64 2)).run Try.prog w = .ok (.agg #[.int .i32 97, .int .i32 122]) w := by kernel_rfl
theorem st_3 (w : World) : (Instr.index 109 (.agg startsTab) (.int .i64 3)).run Try.prog w = .ok (.agg #[.int .i32 192, .int .i32 214]) w := by kernel_rfl
theorem st_4 (w : World) : (Instr.index 109 (.agg startsTab) (.int .i64 4)).run Try.prog w = .ok (.agg #[.int .i32 216, .int .i32 246]) w := by kernel_rfl
theorem st_5 (w : World) : (Instr.index 109 (.agg startsTab) (.int .i64 5)).run Try.prog w = .ok (.agg #[.int .i32 248, .int .i32 767]) w := by kernel_rfl
theorem st_6 (w : World) : (Instr.index 109 (.agg startsTab) (.int .i64 6)).run Try.prog w = .ok (.agg #[.int .i32 880, .int .i32 893]) w := by kernel_rfl
theorem st_7 (w : World) : (Instr.index 109 (.agg startsTab) (.int .i64 7)).run Try.prog w = .ok (.agg #[.int .i32 895, .int .i32 8191]) w := by kernel_rfl
theorem st_8 (w : World) : (Instr.index 109 (.agg startsTab) (.int .i64 8)).run Try.prog w = .ok (.agg #[.int .i32 8204, .int .i32 8205]) w := by kernel_rfl
theorem st_9 (w : World) : (Instr.index 109 (.agg startsTab) (.int .i64 9)).run Try.prog w = .ok (.agg #[.int .i32 8304, .int .i32 8591]) w := by kernel_rfl
theorem st_10 (w : World) : (Instr.index 109 (.agg startsTab) (.int .i64 10)).run Try.prog w = .ok (.agg #[.int .i32 11264, .int .i32 12271]) w := by kernel_rfl
theorem st_11 (w : World) : (Instr.index 109 (.agg startsTab) (.int .i64 11)).run Try.prog w = .ok (.agg #[.int .i32 12289, .int .i32 55295]) w := by kernel_rfl
theorem st_12 (w : World) : (Instr.index 109 (.agg startsTab) (.int .i64 12)).run Try.prog w = .ok (.agg #[.int .i32 63744, .int .i32 64975]) w := by kernel_rfl
theorem st_13 (w : World) : (Instr.index 109 (.agg startsTab) (.int .i64 13)).run Try.prog w = .ok (.agg #[.int .i32 65008, .int .i32 65533]) w := by kernel_rfl
theorem st_14 (w : World) : (Instr.index 109 (.agg startsTab) (.int .i64 14)).run Try.prog w = .ok (.agg #[.int .i32 65536, .int .i32 983039]) w := by kernel_rfl
theorem pt_0 (w : World) : (Instr.index 108 (.agg partsTab) (.int .i64 0)).run Try.prog w = .ok (.agg #[.int .i32 45, .int .i32 46]) w := by kernel_rfl
theorem pt_1 (w : World) : (Instr.index 108 (.agg partsTab) (.int .i64 1)).run Try.prog w = .ok (.agg #[.int .i32 48, .int .i32 57]) w := by kernel_rfl
theorem pt_2 (w : World) : (Instr.index 108 (.agg partsTab) (.int .i64 2)).run Try.prog w = .ok (.agg #[.int .i32 183, .int .i32 183]) w := by kernel_rfl
theorem pt_3 (w : World) : (Instr.index 108 (.agg partsTab) (.int .i64 3)).run Try.prog w = .ok (.agg #[.int .i32 768, .int .i32 879]) w := by kernel_rfl
theorem pt_4 (w : World) : (Instr.index 108 (.agg partsTab) (.int .i64 4)).run Try.prog w = .ok (.agg #[.int .i32 8255, .int .i32 8256]) w := by kernel_rfl
end Go.Proofs.Ythifddkmbjnncaa
