/-
  The reader of tokens: the walk of has. slices.ContainsFunc at attributes, laid by hand.
-/
import Derived.Test.YthifddkmbjnncaaRd3
import Derived.Shelf.SlicesQ.IndexFunc
import Derived.Test.YthifddkmbjnncaaSortPlain
import Derived.Test.YthifddkmbjnncaaSameA
namespace Go.Proofs
open Go.Shelf Go.RowKit
def Try.laysH8_ren : Go.Shelf.Ren := ⟨fun | 6 => 139 | 8 => 117 | n => n, fun | 0 => 0 | 3 => 3 | 4 => 4 | 22 => 31 | 23 => 44 | 25 => 137 | n => n, fun | n => n⟩
theorem Try.laysH8 : Go.Proofs.SlLaysH0.n8 Try.prog Try.laysH8_ren := {
  mixed := by kernel_rfl
  f6 := ⟨"slices.IndexFunc[[]incunable/api.Attr,incunable/api.Attr]", by decide, Try.func139.trans (congrArg some (by kernel_rfl))⟩
  f8 := ⟨"slices.ContainsFunc[[]incunable/api.Attr,incunable/api.Attr]", by decide, Try.func117.trans (congrArg some (by kernel_rfl))⟩
  t0 := Try.underlying0
  a0 := Try.isAgg0
  z0 := Try.sizeOf0
  v0 := Try.zeroValue0
  t3 := Try.underlying3
  a3 := Try.isAgg3
  z3 := Try.sizeOf3
  v3 := Try.zeroValue3
  t4 := Try.underlying4
  a4 := Try.isAgg4
  z4 := Try.sizeOf4
  v4 := Try.zeroValue4
  t22 := Try.underlying31
  a22 := Try.isAgg31
  z22 := Try.sizeOf31
  v22 := Try.zeroValue31
  t25 := Try.underlying137
  a25 := Try.isAgg137
  z25 := Try.sizeOf137
  v25 := Try.zeroValue137 }
end Go.Proofs
namespace Go.Proofs.Ythifddkmbjnncaa
open Go.RowKit Go.Shelf

/-- the closure of has -/
theorem has1_any (n : List UInt8) (g : Nat) (w : World) (hg : g < w.heap.size) (hcell : w.cell? ⟨g, 0, none⟩ = some (.string ⟨n.toArray⟩)) :
    PredBelow Try.prog 118 #[.pointer (some ⟨g, 0, none⟩)] (fun a : AttrD => .agg (cellsA a).toArray) (fun a => decide (a.name = n)) w := fun W a hb => by
  have hc : W.cell? ⟨g, 0, none⟩ = some (.string ⟨n.toArray⟩) := (hb.cell (p := ⟨g, 0, none⟩) hg).trans hcell
  have hBW : g < W.heap.size := Nat.lt_of_lt_of_le hg hb.size
  have hne : g ≠ W.heap.size := by omega
  have hbe := beq_str a.name n
  show Calls Try.prog 118 #[.agg #[.string ⟨a.name.toArray⟩, .string ⟨a.value.toArray⟩], .pointer (some ⟨g, 0, none⟩)] W _
  go_enter Try.func118, Try.ntmps118
  go_wp2_with fail
  go_ret
  exact ⟨ret_bool (by rw [Bool.eq_iff_iff, beq_iff_eq, decide_eq_true_iff]), hb.alloc hb.size _⟩

set_option maxHeartbeats 1000000 in
/-- at no attribute: whatever the predicate -/
theorem IndexA_none (p : Option Addr) (c : Nat) (fv : Value) (w : World) :
    Calls Try.prog 139 #[.slice p 0 c, fv] w fun e w' => e = .returned (.int .i64 (-1)) ∧ w = w' := by
  go_enter Try.func139, Try.ntmps139
  go_wp2_with fail
  refine wp_loop_rounds 1 ?_
  rw [rounds_succ]
  go_wp2_with fail
  go_ret
  exact ⟨rfl, rfl⟩
set_option maxHeartbeats 1000000 in
theorem ContainsA_none (p : Option Addr) (c : Nat) (fv : Value) (w : World) :
    Calls Try.prog 117 #[.slice p 0 c, fv] w fun e w' => e = .returned (.bool false) ∧ w = w' := by
  go_enter Try.func117, Try.ntmps117
  go_wp2_with fail
  refine (IndexA_none p c fv w).mono ?_
  rintro e w' ⟨rfl, rfl⟩
  go_wp2_with fail
  go_ret
  exact ⟨rfl, rfl⟩

theorem ContainsA_any (l : List AttrD) (A : Option Addr) (c B : Nat) (n : List UInt8) (g : Nat) (w : World) (hA : AttrsOwn w B A c l) (hl : l.length ≤ 1000) (hg : g < w.heap.size) (hcell : w.cell? ⟨g, 0, none⟩ = some (.string ⟨n.toArray⟩)) (v : Bool) (hv : Hid (l.any (fun a => decide (a.name = n)) = v)) :
    Calls Try.prog 117 #[.slice A l.length c, .func (.func 118) #[] #[.pointer (some ⟨g, 0, none⟩)]] w fun e w' => e = .returned (.bool v) ∧ Below w.heap.size w w' := by
  cases l with
  | nil =>
    have hv' : v = false := hv.out.symm
    subst hv'
    exact (ContainsA_none A c _ w).mono fun e w' ⟨h1, h2⟩ => ⟨h1, by subst h2; exact Below.refl _ _⟩
  | cons a r =>
    obtain ⟨gb, rfl, _, hgb, _, hc⟩ := own_flat cellsA cellsA_length hA (by simp)
    have eg : ∀ args w, (callFunc 118 args).run Try.prog w = .ok (.enter 118 args) w := enters_of Try.func118 (by kernel_rfl) rfl
    have hcon := AnyQ.slices_ContainsFunc Try.laysH8 2 Try.isAgg44 Try.sizeOf44 cellsA cellsA_length (fun a => decide (a.name = n)) 118 #[.pointer (some ⟨g, 0, none⟩)] eg gb 0 (a :: r).length c (a :: r) w (has1_any n g w hg hcell) (Nat.le_refl _) (by omega) hgb (fun j hj i u hi => by
      have hj' : (a :: r)[j]? = some (a :: r)[j]! := by rw [List.getElem?_eq_getElem hj, getElem!_pos (a :: r) j hj]
      have := hc j _ i u hj' hi
      rw [add_zero_block] at this
      rw [Nat.zero_add]
      exact this)
    rw [List.take_length, hv.out] at hcon
    exact hcon

set_option maxRecDepth 100000 in
set_option maxHeartbeats 1000000 in
theorem hasA_any (b B : Nat) (r : Rdr) (w : World) (h : RdAt w b r) (l : List AttrD) (hn : r.n = l.length) (hA : AttrsOwn w B r.A r.c l) (hl : l.length ≤ 1000) (n : List UInt8) (v : Bool) (hv : Hid (l.any (fun a => decide (a.name = n)) = v)) :
    Calls Try.prog 98 #[.pointer (some ⟨b, 0, none⟩), .string ⟨n.toArray⟩] w (Ret w (.bool v)) := by
  obtain ⟨_, _, _, _, _, _, h6, _⟩ := h.all
  rw [hn] at h6
  have hb := h.lt
  have hne : b ≠ w.heap.size := by omega
  have hA1 : AttrsOwn (w.alloc (.cells #[.string ⟨n.toArray⟩] 9)) B r.A r.c l := World.ownsRow.alloc hA _
  have HA := Lib.hid hA1
  clear hA1 hA
  go_enter Try.func98, Try.ntmps98
  go_wp2_with fail
  refine (ContainsA_any l r.A r.c B n w.heap.size _ HA.out hl (by simp) (by rw [World.cell?_alloc_at _ _ _ _ (by simp)]; rfl) v hv).mono ?_
  rintro e w2 ⟨rfl, hb2⟩
  go_wp2_with fail
  go_ret
  exact ⟨rfl, ((Below.refl _ w).alloc (Nat.le_refl _) _).trans (hb2.mono (by simp))⟩
end Go.Proofs.Ythifddkmbjnncaa
