/-
  Texts of this claim, joined (by a program of the claim's author): OpenW.
-/
import Derived.Test.YtcombcoilpmnkaaGreatWP19
import Derived.Test.YtcombcoilpmnkaaGreatWP16
import Derived.Test.YtcombcoilpmnkaaGreatWP17
namespace Go.Proofs.YtcombcoilpmnkaaGreat
set_option maxRecDepth 100000
set_option maxHeartbeats 16000000
section
open Go.RowKit Go.ChangeShapes Go.WideShapes Go.Deep
def weightP (p : PredD) : Nat := p.name.length + p.value.length + 1
def weightS (s : StepD) : Nat := s.name.length + (s.preds.map weightP).sum + 1
theorem open_preds {W : World} {H : Type} {enc : TypeId × Value → H} {fuel : Nat} {cs : List Value} {x : DataW H × List MemPlace} (h : DataW.trod enc Tryz.prog W 0 (fun _ => true) true fuel 43 cs = some x) :
  ∃ (A : Option Addr) (c : Nat) (l : List PredD), cs = [.slice A l.length c] ∧ PredsAt W W.heap.size A l ∧ l.length ≤ c ∧ (l.map weightP).sum ≤ Rows.uptoBulk x.1 ∧ (∀ p ∈ l, p.num ≤ 9223372036854775807 ∧ -9223372036854775808 ≤ p.num ∧ p.kind ≤ 9223372036854775807 ∧ -9223372036854775808 ≤ p.kind) := by
 rcases slice_structs Tryz.underlying43 Tryz.underlying102 (by kernel_rfl) (by kernel_rfl) h with ⟨rfl, hx⟩ | ⟨a, len, cap, D, rest, rfl, hlc, hcm, hx, hf⟩
 ·exact ⟨none, 0, [], rfl, fun h => absurd h (by simp), Nat.le_refl _, by simp, by simp⟩
 ·rw [hx]
  obtain ⟨l, hl, hp⟩ := list_of (P := fun i (y : PredD) => (W.cell? (a.add (i * 4)) = some (.int .i64 y.kind) ∧ W.cell? ⟨(a.add (i * 4)).block, (a.add (i * 4)).off + 1, none⟩ = some (.int .i64 y.num) ∧
    W.cell? ⟨(a.add (i * 4)).block, (a.add (i * 4)).off + 2, none⟩ = some (.string ⟨y.name.toArray⟩) ∧ W.cell? ⟨(a.add (i * 4)).block, (a.add (i * 4)).off + 3, none⟩ = some (.string ⟨y.value.toArray⟩)) ∧
    weightP y ≤ Rows.uptoBulk (D i) ∧ (y.num ≤ 9223372036854775807 ∧ -9223372036854775808 ≤ y.num ∧ y.kind ≤ 9223372036854775807 ∧ -9223372036854775808 ≤ y.kind)) len (fun i hi => by
   obtain ⟨ys, n, hD, hyl, hj⟩ := hf i hi
   obtain ⟨v0, y0, hc0, hy0, ht0⟩ := hj 0 _ rfl
   obtain ⟨v1, y1, hc1, hy1, ht1⟩ := hj 1 _ rfl
   obtain ⟨v2, y2, hc2, hy2, ht2⟩ := hj 2 _ rfl
   obtain ⟨v3, y3, hc3, hy3, ht3⟩ := hj 3 _ rfl
   obtain ⟨n0, e0, rfl, w0⟩ := DataW.trod_int Tryz.underlying3 ht0
   obtain ⟨n1, e1, rfl, w1⟩ := DataW.trod_int Tryz.underlying3 ht1
   obtain ⟨s2, e2, rfl, _⟩ := DataW.trod_string Tryz.underlying9 ht2
   obtain ⟨s3, e3, rfl, _⟩ := DataW.trod_string Tryz.underlying9 ht3
   injection e0 with e0 _; subst e0
   injection e1 with e1 _; subst e1
   injection e2 with e2 _; subst e2
   injection e3 with e3 _; subst e3
   rw [add_more _ _ _ (by decide)] at hc1 hc2 hc3
   rw [Nat.add_zero] at hc0
   refine ⟨⟨n0, n1, s2.data.toList, s3.data.toList⟩, ⟨hc0, hc1, hc2, hc3⟩, ?_, ?_⟩
   ·rw [hD]
    match ys, hyl, hy0, hy1, hy2, hy3 with
    | [z0, z1, z2, z3], _, hy0, hy1, hy2, hy3 =>
     simp at hy0 hy1 hy2 hy3
     subst hy0; subst hy1; subst hy2; subst hy3
     simp [Rows.uptoBulk, Rows.uptoBulkAll, weightP]
     omega
   ·simp [Lit.wf, IntKind.min, IntKind.max, IntKind.signed, IntKind.bits] at w0 w1
    show n1 ≤ 9223372036854775807 ∧ -9223372036854775808 ≤ n1 ∧ n0 ≤ 9223372036854775807 ∧ -9223372036854775808 ≤ n0
    exact ⟨by omega, by omega, by omega, by omega⟩)
  refine ⟨some a, cap, l, by rw [hl], ?_, by omega, ?_, fun p hpm => ?_⟩
  ·intro hpos
   have h0 : l[0]? = some (l[0]'hpos) := List.getElem?_eq_getElem hpos
   have hb := World.block_lt_of_cell? W _ (hp 0 _ h0).1.1
   rw [block_of_add] at hb
   exact ⟨a, rfl, hb, fun k y hy => (hp k y hy).1⟩
  ·have := bulkAll_sum weightP D l (fun i y hy => (hp i y hy).2.1)
   rw [hl] at this
   simp only [Rows.uptoBulk]
   omega
  ·obtain ⟨k, hk⟩ := List.mem_iff_getElem?.1 hpm
   exact (hp k p hk).2.2
theorem open_steps {W : World} {H : Type} {enc : TypeId × Value → H} {v : Value} {d : DataW H} {p : List MemPlace} (hok : ∃ a n c, v = .slice a n c) (h : DataW.Trod enc Tryz.prog W 0 (fun _ => true) true 23 v d p) :
  ∃ (A : Option Addr) (c : Nat) (l : List StepD), v = .slice A l.length c ∧ StepsAt W W.heap.size A l ∧ (l.map weightS).sum ≤ Rows.uptoBulk d ∧ (∀ s ∈ l, ∀ p ∈ s.preds, p.num ≤ 9223372036854775807) := by
 obtain ⟨va, vn, vc, rfl⟩ := hok
 obtain ⟨fuel, h⟩ := h
 rcases slice_structs Tryz.underlying23 Tryz.underlying45 (by kernel_rfl) (by kernel_rfl) h with ⟨e, e2⟩ | ⟨a, len, cap, D, rest, e, hlc, hcm, e2, hf⟩
 ·injection e with e _
  injection e with e1 e2' e3
  subst e1; subst e2'; subst e3
  exact ⟨none, 0, [], rfl, fun h => absurd h (by simp), by simp, by simp⟩
 ·injection e with e _
  injection e with e1 e2' e3
  subst e1
  have e2'' := e2'.symm
  have e3'' := e3.symm
  subst e2''; subst e3''
  have e2 : d = .slice ((List.range len).map D) rest := e2
  subst e2
  obtain ⟨l, hl, hp⟩ := list_of (P := fun i (s : StepD) => (∃ A' c, PredsAt W W.heap.size A' s.preds ∧ s.preds.length ≤ c ∧
    W.cell? (a.add (i * 4)) = some (.int .i64 s.axis) ∧ W.cell? ⟨(a.add (i * 4)).block, (a.add (i * 4)).off + 1, none⟩ = some (.int .i64 s.test) ∧
    W.cell? ⟨(a.add (i * 4)).block, (a.add (i * 4)).off + 2, none⟩ = some (.string ⟨s.name.toArray⟩) ∧ W.cell? ⟨(a.add (i * 4)).block, (a.add (i * 4)).off + 3, none⟩ = some (.slice A' s.preds.length c)) ∧
    weightS s ≤ Rows.uptoBulk (D i) ∧ ∀ p ∈ s.preds, p.num ≤ 9223372036854775807) len (fun i hi => by
   obtain ⟨ys, n, hD, hyl, hj⟩ := hf i hi
   obtain ⟨v0, y0, hc0, hy0, ht0⟩ := hj 0 _ rfl
   obtain ⟨v1, y1, hc1, hy1, ht1⟩ := hj 1 _ rfl
   obtain ⟨v2, y2, hc2, hy2, ht2⟩ := hj 2 _ rfl
   obtain ⟨v3, y3, hc3, hy3, ht3⟩ := hj 3 _ rfl
   obtain ⟨n0, e0, rfl, w0⟩ := DataW.trod_int Tryz.underlying3 ht0
   obtain ⟨n1, e1, rfl, w1⟩ := DataW.trod_int Tryz.underlying3 ht1
   obtain ⟨s2, e2, rfl, _⟩ := DataW.trod_string Tryz.underlying9 ht2
   obtain ⟨A', c', la, e3, hat, hlc', hb1, hb2⟩ := open_preds ht3
   injection e0 with e0 _; subst e0
   injection e1 with e1 _; subst e1
   injection e2 with e2 _; subst e2
   injection e3 with e3 _; subst e3
   rw [add_more _ _ _ (by decide)] at hc1 hc2 hc3
   rw [Nat.add_zero] at hc0
   refine ⟨⟨n0, n1, s2.data.toList, la⟩, ⟨A', c', hat, hlc', hc0, hc1, hc2, hc3⟩, ?_, fun p hp => (hb2 p hp).1⟩
   rw [hD]
   match ys, hyl, hy0, hy1, hy2, hy3 with
   | [z0, z1, z2, z3], _, hy0, hy1, hy2, hy3 =>
    simp at hy0 hy1 hy2 hy3
    subst hy0; subst hy1; subst hy2; subst hy3
    simp [Rows.uptoBulk, Rows.uptoBulkAll, weightS]
    omega)
  refine ⟨some a, cap, l, by rw [hl], ?_, ?_, fun s hs => ?_⟩
  ·intro hpos
   have h0 : l[0]? = some (l[0]'hpos) := List.getElem?_eq_getElem hpos
   obtain ⟨⟨_, _, _, _, hc0, _⟩, _⟩ := hp 0 _ h0
   have hb := World.block_lt_of_cell? W _ hc0
   rw [block_of_add] at hb
   exact ⟨a, rfl, hb, fun k s hs => (hp k s hs).1⟩
  ·have := bulkAll_sum weightS D l (fun i y hy => (hp i y hy).2.1)
   rw [hl] at this
   simp only [Rows.uptoBulk]
   omega
  ·obtain ⟨k, hk⟩ := List.mem_iff_getElem?.1 hs
   exact (hp k s hk).2.2
theorem sum_mem {α : Type} (f : α → Nat) : ∀ (l : List α) (x : α), x ∈ l → f x ≤ (l.map f).sum
 | [], _, h => by cases h
 | y :: l, x, h => by
  rw [List.map_cons, List.sum_cons]
  rcases List.mem_cons.1 h with rfl | h
  ·omega
  ·have := sum_mem f l x h; omega
theorem sum_len {α : Type} (f : α → Nat) (hf : ∀ x, 1 ≤ f x) : ∀ (l : List α), l.length ≤ (l.map f).sum
 | [] => by simp
 | y :: l => by
  rw [List.map_cons, List.sum_cons, List.length_cons]
  have := sum_len f hf l
  have := hf y
  omega
theorem step_smallW {s : StepD} (h : weightS s ≤ 1048576) : SmallStep s := by
 have h3 := sum_len weightP (fun x => by unfold weightP; omega) s.preds
 have h2b : weightS s = s.name.length + (s.preds.map weightP).sum + 1 := rfl
 refine ⟨by omega, by omega, fun p hp => ?_⟩
 have h4 := sum_mem weightP s.preds p hp
 have h5 : weightP p = p.name.length + p.value.length + 1 := rfl
 exact ⟨by omega, by omega⟩
theorem open_stepsW {W : World} {H : Type} {enc : TypeId × Value → H} {v : Value} {d : DataW H} {p : List MemPlace} (hok : ∃ a n c, v = .slice a n c) (h : DataW.Trod enc Tryz.prog W 0 (fun _ => true) true 23 v d p) (hbulk : Rows.uptoBulk d ≤ 1048576) :
  ∃ (A : Option Addr) (c : Nat) (l : List StepD), v = .slice A l.length c ∧ StepsAt W W.heap.size A l ∧ SmallSteps l ∧ l.length ≤ 1048576 := by
 obtain ⟨A, c, l, e, hI, hw, _⟩ := open_steps hok h
 have h1 := sum_len weightS (fun x => by unfold weightS; omega) l
 exact ⟨A, c, l, e, hI, ⟨by omega, fun s hs => step_smallW (by have := sum_mem weightS l s hs; omega)⟩, by omega⟩
theorem list4 {α : Type} : ∀ {l : List α}, l.length = 4 → ∃ a b c d, l = [a, b, c, d]
 | [a, b, c, d], _ => ⟨a, b, c, d, rfl⟩
theorem open_step {W : World} {H : Type} {enc : TypeId × Value → H} {cs : Array Value} {d : DataW H} {p : List MemPlace} (h : DataW.Trod enc Tryz.prog W 0 (fun _ => true) true 45 (.agg cs) d p) (hbulk : Rows.uptoBulk d ≤ 1048576) :
  ∃ (x : QSlot), cs = slotC x ∧ PredsAt W W.heap.size x.2.1 x.1.preds ∧ x.1.preds.length ≤ x.2.2 ∧ SmallStep x.1 := by
 obtain ⟨fuel, h⟩ := h
 obtain ⟨xs, n, _, hx, hl, hlen, hf⟩ := DataW.trod_struct Tryz.underlying45 h
 have hop : Tryz.prog.cellsOf 45 = 4 := by kernel_rfl
 rw [hop] at hl
 obtain ⟨c0, c1, c2, c3, hcs⟩ := list4 hl
 obtain ⟨x0, x1, x2, x3, rfl⟩ := list4 hlen
 rw [hcs] at hf
 have f0 := hf 0 _ rfl
 have f1 := hf 1 _ rfl
 have f2 := hf 2 _ rfl
 have f3 := hf 3 _ rfl
 obtain ⟨n0, e0, rfl, w0⟩ := DataW.trod_int Tryz.underlying3 f0
 obtain ⟨n1, e1, rfl, w1⟩ := DataW.trod_int Tryz.underlying3 f1
 obtain ⟨s2, e2, rfl, _⟩ := DataW.trod_string Tryz.underlying9 f2
 obtain ⟨A, c, l, e3, hI, hlc, hw, _⟩ := open_preds f3
 injection hx with hd hp
 injection e0 with e0 _; subst e0
 injection e1 with e1 _; subst e1
 injection e2 with e2 _; subst e2
 injection e3 with e3 _; subst e3
 refine ⟨(⟨n0, n1, s2.data.toList, l⟩, A, c), Array.toList_inj.1 hcs, hI, hlc, step_smallW ?_⟩
 rw [hd] at hbulk
 simp [Rows.uptoBulk, Rows.uptoBulkAll] at hbulk
 have h4 : s2.data.toList.length = s2.size := by rw [Array.length_toList]; rfl
 show s2.data.toList.length + (l.map weightP).sum + 1 ≤ _
 omega
end
end Go.Proofs.YtcombcoilpmnkaaGreat
