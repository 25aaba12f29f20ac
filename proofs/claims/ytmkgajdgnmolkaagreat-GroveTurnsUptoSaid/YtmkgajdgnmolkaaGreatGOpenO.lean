/-
  A call that comes in as an argument: what a reading of it says of memory.
-/
import Derived.Test.YtmkgajdgnmolkaaGreatT12
namespace Go.Proofs.YtmkgajdgnmolkaaGreat
open Go.RowKit Go.ChangeShapes Go.WideShapes Go.Deep
theorem list7 {α : Type} : ∀ {l : List α}, l.length = 7 → ∃ a b c d e f g, l = [a, b, c, d, e, f, g]
 | [a, b, c, d, e, f, g], _ => ⟨a, b, c, d, e, f, g, rfl⟩
set_option maxRecDepth 100000 in
theorem open_op {W : World} {H : Type} {enc : TypeId × Value → H} {cs : Array Value} {d : DataW H} {p : List MemPlace} (h : DataW.Trod enc Tryz.prog W 0 (fun _ => true) true 36 (.agg cs) d p) (hbulk : Rows.uptoBulk d ≤ 1048576) :
  ∃ (o : OpD) (A : Option Addr) (c : Nat), cs = opVal o A c ∧ ItemsAt W W.heap.size A o.l ∧ o.l.length ≤ c ∧ SmallOp o ∧ o.l.length ≤ 1048576 := by
 obtain ⟨fuel, h⟩ := h
 obtain ⟨xs, n, _, hx, hl, hlen, hf⟩ := DataW.trod_struct Tryz.underlying36 h
 have hop : Tryz.prog.cellsOf 36 = 7 := by kernel_rfl
 rw [hop] at hl
 obtain ⟨c0, c1, c2, c3, c4, c5, c6, hcs⟩ := list7 hl
 obtain ⟨x0, x1, x2, x3, x4, x5, x6, rfl⟩ := list7 hlen
 rw [hcs] at hf
 have f0 := hf 0 _ rfl
 have f1 := hf 1 _ rfl
 have f2 := hf 2 _ rfl
 have f3 := hf 3 _ rfl
 have f4 := hf 4 _ rfl
 have f5 := hf 5 _ rfl
 have f6 := hf 6 _ rfl
 obtain ⟨n0, e0, rfl, w0⟩ := DataW.trod_int Tryz.underlying3 f0
 obtain ⟨n1, e1, rfl, w1⟩ := DataW.trod_int Tryz.underlying3 f1
 obtain ⟨n2, e2, rfl, w2⟩ := DataW.trod_int Tryz.underlying3 f2
 obtain ⟨n3, e3, rfl, w3⟩ := DataW.trod_int Tryz.underlying3 f3
 obtain ⟨s4, e4, rfl, _⟩ := DataW.trod_string Tryz.underlying9 f4
 obtain ⟨s5, e5, rfl, _⟩ := DataW.trod_string Tryz.underlying9 f5
 injection hx with hd hp
 have hb : s4.size ≤ 1000000000 ∧ s5.size ≤ 1000000000 ∧ Rows.uptoBulk x6.1 ≤ 1048576 := by
  rw [hd] at hbulk
  simp [Rows.uptoBulk, Rows.uptoBulkAll] at hbulk
  have h4 : s4.data.toList.length = s4.size := by rw [Array.length_toList]; rfl
  have h5 : s5.data.toList.length = s5.size := by rw [Array.length_toList]; rfl
  omega
 have hsv : ∃ a n c, c6 = .slice a n c := by
  rcases slice_structs Tryz.underlying34 Tryz.underlying62 (by kernel_rfl) (by kernel_rfl) f6 with ⟨e, _⟩ | ⟨a, len, cap, _, _, e, _⟩
  ·injection e with e _; exact ⟨_, _, _, e⟩
  ·injection e with e _; exact ⟨_, _, _, e⟩
 obtain ⟨va, vn, vc, rfl⟩ := hsv
 obtain ⟨A', c', la, e6, hat, hsm, hln, _, _⟩ := open_items (v := .slice va vn vc) (d := x6.1) (p := x6.2) ⟨_, _, _, rfl⟩ ⟨n, f6⟩ hb.2.2
 have hlc' : la.length ≤ c' := by
  rcases slice_structs Tryz.underlying34 Tryz.underlying62 (by kernel_rfl) (by kernel_rfl) f6 with ⟨e, _⟩ | ⟨a, len, cap, _, _, e, h1, _⟩
  ·injection e with e _; rw [e6] at e; injection e with _ e _; omega
  ·injection e with e _; rw [e6] at e; injection e with _ e e'; omega
 injection e0 with e0 _; subst e0
 injection e1 with e1 _; subst e1
 injection e2 with e2 _; subst e2
 injection e3 with e3 _; subst e3
 injection e4 with e4 _; subst e4
 injection e5 with e5 _; subst e5
 rw [e6] at hcs
 have h4 : s4.data.toList.length = s4.size := by rw [Array.length_toList]; rfl
 have h5 : s5.data.toList.length = s5.size := by rw [Array.length_toList]; rfl
 refine ⟨⟨n0, n1, n2, n3, s4.data.toList, s5.data.toList, la⟩, A', c', ?_, hat, hlc', ⟨⟨wf_lit w0, wf_lit w1, wf_lit w2, wf_lit w3⟩, ?_, ?_, hsm.1⟩, hln⟩
 ·have hcs' : cs.toList = (opVal ⟨n0, n1, n2, n3, s4.data.toList, s5.data.toList, la⟩ A' c').toList := hcs
  exact Array.toList_inj.1 hcs'
 ·show s4.data.toList.length ≤ 1000000000; omega
 ·show s5.data.toList.length ≤ 1000000000; omega
end Go.Proofs.YtmkgajdgnmolkaaGreat
