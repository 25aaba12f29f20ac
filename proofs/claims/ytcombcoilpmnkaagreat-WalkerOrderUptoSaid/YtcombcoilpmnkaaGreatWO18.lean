/-
  Texts of this claim, joined (by a program of the claim's author): OpenG, Open, GOpen.
-/
import Derived.Test.YtcombcoilpmnkaaGreatRows
import Derived.Test.YtcombcoilpmnkaaGreatWO2
import Derived.Deep.Slices
import Derived.Deep.Fields
import Derived.ChangeSame
import Derived.Carry
import Derived.ProofKit
import Derived.Test.YtcombcoilpmnkaaGreatWO4
import Derived.Test.YtcombcoilpmnkaaGreatWO7
namespace Go.Proofs.YtcombcoilpmnkaaGreat
set_option maxRecDepth 100000
set_option maxHeartbeats 16000000
section
open Go.RowKit Go.ChangeShapes Go.WideShapes Go.Deep
theorem zEp (ad : Addr) (a j : Nat) (hj : j ≠ 0) : ad.add (a + j) = ⟨(ad.add a).block, (ad.add a).off + j, none⟩ := by
 rw [← zBP]
 generalize ad.add a = b
 unfold Addr.add
 rw [if_neg hj]
theorem zA9 {H : Type} {enc : TypeId × Value → H} {P : Program} {w : World} {t e : TypeId} {fs : Array Field} {fuel : Nat} {cs : List Value} {x : DataW H × List MemPlace} (ht : P.underlying t = some (.slice e)) (he : P.underlying e = some (.struct fs))
  (h1 : oneCellFields P fs = true) (h2 : P.cellsOf e = fs.size) (h : DataW.trod enc P w 0 (fun _ => true) true fuel t cs = some x) :
  (cs = [.slice none 0 0] ∧ x.1 = .nil) ∨
  ∃ (a : Addr) (len cap : Nat) (D : Nat → DataW H) (rest : List (DataW H)), cs = [.slice (some a) len cap] ∧ len ≤ cap ∧ cap ≤ maxLen ∧ x.1 = .slice ((List.range len).map D) rest ∧
   ∀ i, i < len → ∃ (ys : List (DataW H × List MemPlace)) (n : Nat), D i = .agg (ys.map (·.1)) ∧ ys.length = fs.size ∧
    ∀ (j : Nat) (f : Field), fs[j]? = some f → ∃ v y, w.cell? (a.add (i * fs.size + j)) = some v ∧ ys[j]? = some y ∧ DataW.trod enc P w 0 (fun _ => true) true n f.type [v] = some y := by
 rcases open_slice ht h with ⟨e1, e2⟩ | ⟨a, len, cap, m, n, D, Pl, e1, _, k1, k2, k3, e2, each⟩
 ·exact .inl ⟨e1, by rw [e2]⟩
 ·right
  have hm : m = cap := by simpa using k3
  refine ⟨a, len, cap, D, _, e1, k1, k2, by rw [e2], fun i hi => ?_⟩
  obtain ⟨row, hrow, hread⟩ := each i (by omega)
  obtain ⟨_, hl, hat⟩ := World.cells?_some hrow
  obtain ⟨ys, n', _, hy, _, hyl, hfield⟩ := DataW.trod_struct he hread
  refine ⟨ys, n', by rw [Prod.mk.injEq] at hy; exact hy.1, hyl, fun j f hj => ?_⟩
  have hjs : j < fs.size := (Array.getElem?_eq_some_iff.1 hj).1
  obtain ⟨o1, o2⟩ := hone_of h1 j f hj
  have hjr : j < row.length := by rw [hl, h2]; exact hjs
  have hv := hat j (by rw [h2]; exact hjs)
  have hone : (row.drop f.offset).take (P.cellsOf f.type) = [row[j]] := by rw [o1, o2, List.drop_eq_getElem_cons hjr]; rfl
  have hr := hfield j f hj
  rw [hone] at hr
  have hys : ys[j]? = some (ys[j]'(by omega)) := List.getElem?_eq_getElem _
  refine ⟨row[j], _, ?_, hys, hr.trans hys⟩
  rw [h2, zBP, List.getElem?_eq_getElem hjr] at hv
  exact hv
theorem zE4 {α : Type} {P : Nat → α → Prop} : ∀ (n : Nat), (∀ i, i < n → ∃ x, P i x) → ∃ l : List α, l.length = n ∧ ∀ i x, l[i]? = some x → P i x
 | 0, _ => ⟨[], rfl, fun _ _ h => by simp at h⟩
 | n + 1, h => by
  obtain ⟨l, hl, hp⟩ := zE4 n (fun i hi => h i (by omega))
  obtain ⟨x, hx⟩ := h n (by omega)
  refine ⟨l ++ [x], by simp [hl], fun i y hy => ?_⟩
  by_cases hi : i < l.length
  ·rw [List.getElem?_append_left hi] at hy; exact hp i y hy
  ·rw [List.getElem?_append_right (by omega)] at hy
   have : i - l.length = 0 := by
    have := (List.getElem?_eq_some_iff.1 hy).1
    simp at this; omega
   rw [this] at hy
   simp at hy; subst hy
   rw [show i = n by omega]; exact hx
theorem zBd {H : Type} (D : Nat → DataW H) : ∀ n i, i < n → Rows.uptoBulk (D i) ≤ Rows.uptoBulkAll ((List.range n).map D) := by
 have app : ∀ (a b : List (DataW H)), Rows.uptoBulkAll (a ++ b) = Rows.uptoBulkAll a + Rows.uptoBulkAll b := by
  intro a b
  induction a with
  | nil => simp [Rows.uptoBulkAll]
  | cons x a ih => simp only [List.cons_append, Rows.uptoBulkAll, ih]; omega
 intro n
 induction n with
 | zero => intro i h; omega
 | succ n ih =>
  intro i h
  rw [List.range_succ, List.map_append, app]
  by_cases hi : i < n
  ·have := ih i hi; omega
  ·have : i = n := by omega
   subst this
   simp [Rows.uptoBulkAll]
theorem zBe {H α : Type} (f : α → Nat) (D : Nat → DataW H) : ∀ (l : List α), (∀ i x, l[i]? = some x → f x ≤ Rows.uptoBulk (D i)) → (l.map f).sum ≤ Rows.uptoBulkAll ((List.range l.length).map D) := by
 have app : ∀ (a b : List (DataW H)), Rows.uptoBulkAll (a ++ b) = Rows.uptoBulkAll a + Rows.uptoBulkAll b := by
  intro a b
  induction a with
  | nil => simp [Rows.uptoBulkAll]
  | cons x a ih => simp only [List.cons_append, Rows.uptoBulkAll, ih]; omega
 have key : ∀ (n : Nat) (l : List α), l.length = n → (∀ i x, l[i]? = some x → f x ≤ Rows.uptoBulk (D i)) → (l.map f).sum ≤ Rows.uptoBulkAll ((List.range n).map D) := by
  intro n
  induction n with
  | zero => intro l hl _; rw [List.eq_nil_of_length_eq_zero hl]; simp
  | succ n ih =>
   intro l hl h
   have hne : l ≠ [] := fun e => by rw [e] at hl; cases hl
   rw [← List.dropLast_concat_getLast hne, List.map_append, List.sum_append, List.range_succ, List.map_append, app]
   have h1 := ih l.dropLast (by simp [hl]) (fun i x hx => h i x (by
    have hi := (List.getElem?_eq_some_iff.1 hx).1
    rw [List.getElem?_dropLast] at hx
    split at hx
    ·exact hx
    ·cases hx))
   have h2 := h n (l.getLast hne) (by rw [List.getLast_eq_getElem, ← List.getElem?_eq_getElem, hl]; rfl)
   simp only [List.map_cons, List.map_nil, List.sum_cons, List.sum_nil, Rows.uptoBulkAll]
   omega
 intro l h
 exact key l.length l rfl h
theorem zFI {α : Type} (l : List α) : (l.map (fun _ => 1)).sum = l.length := by
 induction l with
 | nil => rfl
 | cons x l ih => rw [List.map_cons, List.sum_cons, ih, List.length_cons]; omega
end
section
open Go.RowKit Go.ChangeShapes Go.WideShapes Go.Deep
theorem zIO {W : World} {H : Type} {enc : TypeId × Value → H} {fuel : Nat} {cs : List Value} {x : DataW H × List MemPlace} (h : DataW.trod enc Tryz.prog W 0 (fun _ => true) true fuel 47 cs = some x) :
  ∃ (A : Option Addr) (c : Nat) (l : List AttrD), cs = [.slice A l.length c] ∧ AttrsAt W W.heap.size A l ∧ l.length ≤ c ∧ (A = none → c = 0) ∧ l.length ≤ Rows.uptoBulk x.1 ∧ (∀ a ∈ l, a.name.length + a.value.length ≤ Rows.uptoBulk x.1) := by
 rcases zA9 Tryz.underlying47 Tryz.underlying77 (by kernel_rfl) (by kernel_rfl) h with ⟨rfl, hx⟩ | ⟨a, len, cap, D, rest, rfl, hlc, hcm, hx, hf⟩
 ·exact ⟨none, 0, [], rfl, fun h => absurd h (by simp), Nat.le_refl _, fun _ => rfl, by simp, by simp⟩
 ·rw [hx]
  obtain ⟨l, hl, hp⟩ := zE4 (P := fun i (y : AttrD) => W.cell? (a.add (i * 2)) = some (strV y.name) ∧ W.cell? ⟨(a.add (i * 2)).block, (a.add (i * 2)).off + 1, none⟩ = some (strV y.value) ∧ y.name.length + y.value.length + 1 ≤ Rows.uptoBulk (D i)) len (fun i hi => by
   obtain ⟨ys, n, hD, hyl, hj⟩ := hf i hi
   obtain ⟨v0, y0, hc0, hy0, ht0⟩ := hj 0 _ rfl
   obtain ⟨v1, y1, hc1, hy1, ht1⟩ := hj 1 _ rfl
   obtain ⟨s0, e0, rfl, _⟩ := DataW.trod_string Tryz.underlying9 ht0
   obtain ⟨s1, e1, rfl, _⟩ := DataW.trod_string Tryz.underlying9 ht1
   injection e0 with e0 _; subst e0
   injection e1 with e1 _; subst e1
   refine ⟨⟨s0.data.toList, s1.data.toList⟩, ?_, ?_, ?_⟩
   ·rw [Nat.add_zero] at hc0
    rw [show i * 2 = i * (_ : Nat) from rfl]; exact hc0
   ·rw [zEp _ _ _ (by decide)] at hc1; exact hc1
   ·rw [hD]
    match ys, hyl, hy0, hy1 with
    | [z0, z1], _, hy0, hy1 =>
     simp at hy0 hy1
     subst hy0; subst hy1
     simp [Rows.uptoBulk, Rows.uptoBulkAll]
     omega)
  refine ⟨some a, cap, l, by rw [hl], ?_, by omega, (fun h => by cases h), ?_, ?_⟩
  ·intro hpos
   have h0 : l[0]? = some (l[0]'hpos) := List.getElem?_eq_getElem hpos
   have hb := World.block_lt_of_cell? W _ (hp 0 _ h0).1
   rw [zAC] at hb
   exact ⟨a, rfl, hb, fun k y hy => ⟨(hp k y hy).1, (hp k y hy).2.1⟩⟩
  ·have := zBe (fun _ : AttrD => 1) D l (fun i y hy => by have := (hp i y hy).2.2; omega)
   rw [hl] at this
   simp only [Rows.uptoBulk]
   have e := zFI l
   omega
  ·intro y hy
   obtain ⟨k, hk⟩ := List.mem_iff_getElem?.1 hy
   have h1 := (hp k y hk).2.2
   have h2 := zBd D len k (by rw [← hl]; exact (List.getElem?_eq_some_iff.1 hk).1)
   simp only [Rows.uptoBulk]
   omega
def NilAt (w : World) (A : Option Addr) (l : List ItemD) : Prop := ∀ ad, A = some ad → ∀ k x A' c', l[k]? = some x → w.cell? ⟨(ad.add (k * 5)).block, (ad.add (k * 5)).off + 4, none⟩ = some (.slice A' x.attrs.length c') → A' = none → c' = 0
theorem zIP {W : World} {H : Type} {enc : TypeId × Value → H} {v : Value} {d : DataW H} {p : List MemPlace} (hok : ∃ a n c, v = .slice a n c) (h : DataW.Trod enc Tryz.prog W 0 (fun _ => true) true 22 v d p) (hbulk : Rows.uptoBulk d ≤ 1048576) :
  ∃ (A : Option Addr) (c : Nat) (l : List ItemD), v = .slice A l.length c ∧ ItemsAt W W.heap.size A l ∧ SmallDoc l ∧ l.length ≤ 1048576 ∧ textSum l ≤ 1048576 ∧ NilAt W A l := by
 obtain ⟨va, vn, vc, rfl⟩ := hok
 obtain ⟨fuel, h⟩ := h
 rcases zA9 Tryz.underlying22 Tryz.underlying75 (by kernel_rfl) (by kernel_rfl) h with ⟨e, e2⟩ | ⟨a, len, cap, D, rest, e, hlc, hcm, e2, hf⟩
 ·injection e with e _
  injection e with e1 e2' e3
  subst e1; subst e2'; subst e3
  refine ⟨none, 0, [], rfl, fun h => absurd h (by simp), ⟨⟨by simp, fun _ _ h => by simp at h⟩, by simp [textSum]⟩, by simp, by simp [textSum], fun _ h => by cases h⟩
 ·injection e with e _
  injection e with e1 e2' e3
  subst e1
  have e2'' := e2'.symm
  have e3'' := e3.symm
  subst e2''; subst e3''
  have e2 : d = .slice ((List.range len).map D) rest := e2
  subst e2
  obtain ⟨l, hl, hp⟩ := zE4 (P := fun i (x : ItemD) => ∃ (A' : Option Addr) (c' : Nat), AttrsAt W W.heap.size A' x.attrs ∧ x.attrs.length ≤ c' ∧ W.cell? (a.add (i * 5)) = some (.int .i64 x.level) ∧ W.cell? ⟨(a.add (i * 5)).block, (a.add (i * 5)).off + 1, none⟩ = some (.int .i64 x.kind) ∧
    W.cell? ⟨(a.add (i * 5)).block, (a.add (i * 5)).off + 2, none⟩ = some (strV x.name) ∧ W.cell? ⟨(a.add (i * 5)).block, (a.add (i * 5)).off + 3, none⟩ = some (strV x.text) ∧ W.cell? ⟨(a.add (i * 5)).block, (a.add (i * 5)).off + 4, none⟩ = some (.slice A' x.attrs.length c') ∧
    (-9223372036854775808 ≤ x.level ∧ x.level ≤ 9223372036854775807) ∧ x.name.length + x.text.length + x.attrs.length + 1 ≤ Rows.uptoBulk (D i) ∧ (∀ y ∈ x.attrs, y.name.length + y.value.length ≤ Rows.uptoBulk (D i)) ∧ (A' = none → c' = 0)) len (fun i hi => by
   obtain ⟨ys, n, hD, hyl, hj⟩ := hf i hi
   obtain ⟨v0, y0, hc0, hy0, ht0⟩ := hj 0 _ rfl
   obtain ⟨v1, y1, hc1, hy1, ht1⟩ := hj 1 _ rfl
   obtain ⟨v2, y2, hc2, hy2, ht2⟩ := hj 2 _ rfl
   obtain ⟨v3, y3, hc3, hy3, ht3⟩ := hj 3 _ rfl
   obtain ⟨v4, y4, hc4, hy4, ht4⟩ := hj 4 _ rfl
   obtain ⟨n0, e0, rfl, w0⟩ := DataW.trod_int Tryz.underlying3 ht0
   obtain ⟨n1, e1, rfl, _⟩ := DataW.trod_int Tryz.underlying3 ht1
   obtain ⟨s2, e2, rfl, _⟩ := DataW.trod_string Tryz.underlying9 ht2
   obtain ⟨s3, e3, rfl, _⟩ := DataW.trod_string Tryz.underlying9 ht3
   obtain ⟨A', c', la, e4, hat, hlc', hnil, hb1, hb2⟩ := zIO ht4
   injection e0 with e0 _; subst e0
   injection e1 with e1 _; subst e1
   injection e2 with e2 _; subst e2
   injection e3 with e3 _; subst e3
   injection e4 with e4 _; subst e4
   rw [zEp _ _ _ (by decide)] at hc1 hc2 hc3 hc4
   rw [Nat.add_zero] at hc0
   refine ⟨⟨n0, n1, s2.data.toList, s3.data.toList, la⟩, A', c', hat, hlc', hc0, hc1, hc2, hc3, hc4, ?_, ?_, ?_, hnil⟩
   ·simp [Lit.wf, IntKind.min, IntKind.max, IntKind.signed, IntKind.bits] at w0
    show -9223372036854775808 ≤ n0 ∧ n0 ≤ 9223372036854775807
    exact ⟨by omega, by omega⟩
   ·rw [hD]
    match ys, hyl, hy0, hy1, hy2, hy3, hy4 with
    | [z0, z1, z2, z3, z4], _, hy0, hy1, hy2, hy3, hy4 =>
     simp at hy0 hy1 hy2 hy3 hy4
     subst hy0; subst hy1; subst hy2; subst hy3; subst hy4
     simp [Rows.uptoBulk, Rows.uptoBulkAll]
     omega
   ·intro y hy
    rw [hD]
    have := hb2 y hy
    match ys, hyl, hy0, hy1, hy2, hy3, hy4 with
    | [z0, z1, z2, z3, z4], _, hy0, hy1, hy2, hy3, hy4 =>
     simp at hy0 hy1 hy2 hy3 hy4
     subst hy0; subst hy1; subst hy2; subst hy3; subst hy4
     simp [Rows.uptoBulk, Rows.uptoBulkAll]
     omega)
  simp only [Rows.uptoBulk] at hbulk
  have hone : ∀ k, k < len → Rows.uptoBulk (D k) ≤ 1048576 := fun k hk => by have := zBd D len k hk; omega
  have hcount := zBe (fun _ : ItemD => 1) D l (fun i y hy => by obtain ⟨_, _, _, _, _, _, _, _, _, _, h, _⟩ := hp i y hy; omega)
  have htext := zBe (fun x : ItemD => x.text.length) D l (fun i y hy => by obtain ⟨_, _, _, _, _, _, _, _, _, _, h, _⟩ := hp i y hy; omega)
  have e := zFI l
  rw [hl] at hcount htext
  have hl2 : l.length ≤ 1048576 := by omega
  have ht2 : textSum l ≤ 1048576 := by unfold textSum; omega
  refine ⟨some a, cap, l, by rw [hl], ?_, ⟨⟨by omega, fun k x hx => ?_⟩, by omega⟩, hl2, ht2, ?_⟩
  ·intro hpos
   have h0 : l[0]? = some (l[0]'hpos) := List.getElem?_eq_getElem hpos
   obtain ⟨_, _, _, _, hc0, _⟩ := hp 0 _ h0
   have hb := World.block_lt_of_cell? W _ hc0
   rw [zAC] at hb
   refine ⟨a, rfl, hb, fun k x hx => ?_⟩
   obtain ⟨A', c', k1, k2, k3, k4, k5, k6, k7, _⟩ := hp k x hx
   exact ⟨A', c', k1, k2, k3, k4, k5, k6, k7⟩
  ·obtain ⟨A', c', k1, k2, k3, k4, k5, k6, k7, k8, k9, k10⟩ := hp k x hx
   have hk := hone k (by rw [← hl]; exact (List.getElem?_eq_some_iff.1 hx).1)
   exact ⟨by omega, by omega, by omega, fun j y hy => by have := k10.1 y (List.mem_of_getElem? hy); omega, k8⟩
  ·intro ad had k x A2 c2 hx hcell hA2
   injection had with had
   subst had
   obtain ⟨A', c', k1, k2, k3, k4, k5, k6, k7, k8, k9, k10⟩ := hp k x hx
   rw [k7] at hcell
   injection hcell with hcell
   injection hcell with q1 _ q3
   rw [← q3]
   exact k10.2 (by rw [q1]; exact hA2)
end
section
open Go.RowKit Go.ChangeShapes Go.WideShapes Go.Deep
theorem zHm {n : Int} (h : (Lit.int .i64 n).wf = true) : wfI n := by
 simp [Lit.wf, IntKind.min, IntKind.max, IntKind.signed, IntKind.bits] at h
 exact ⟨by omega, by omega⟩
theorem zKr {W : World} {H : Type} {enc : TypeId × Value → H} {v : Value} {d : DataW H} {p : List MemPlace} (hok : ∃ a n c, v = .slice a n c) (h : DataW.Trod enc Tryz.prog W 0 (fun _ => true) true 60 v d p) (hbulk : Rows.uptoBulk d ≤ 1048576) :
  ∃ (A : Option Addr) (c : Nat) (l : List OpD), v = .slice A l.length c ∧ OpsAt W W.heap.size A l ∧ SmallOps l ∧ True := by
 obtain ⟨va, vn, vc, rfl⟩ := hok
 obtain ⟨fuel, h⟩ := h
 rcases zA9 Tryz.underlying60 Tryz.underlying63 (by kernel_rfl) (by kernel_rfl) h with ⟨e, e2⟩ | ⟨a, len, cap, D, rest, e, hlc, hcm, e2, hf⟩
 ·injection e with e _
  injection e with e1 e2' e3
  subst e1; subst e2'; subst e3
  exact ⟨none, 0, [], rfl, fun h => absurd h (by simp), ⟨by simp, by simp⟩, trivial⟩
 ·injection e with e _
  injection e with e1 e2' e3
  subst e1
  have e2'' := e2'.symm
  have e3'' := e3.symm
  subst e2''; subst e3''
  have e2 : d = .slice ((List.range len).map D) rest := e2
  subst e2
  simp only [Rows.uptoBulk] at hbulk
  have hone : ∀ k, k < len → Rows.uptoBulk (D k) ≤ 1048576 := fun k hk => by have := zBd D len k hk; omega
  obtain ⟨l, hl, hp⟩ := zE4 (P := fun i (x : OpD) => (∃ (A' : Option Addr) (c' : Nat), ItemsAt W W.heap.size A' x.l ∧ x.l.length ≤ c' ∧ OpCells W a i x A' c') ∧ SmallOp x ∧ x.l.length ≤ 1048576 ∧ 1 ≤ Rows.uptoBulk (D i)) len (fun i hi => by
   obtain ⟨ys, n, hD, hyl, hj⟩ := hf i hi
   obtain ⟨v0, y0, hc0, hy0, ht0⟩ := hj 0 _ rfl
   obtain ⟨v1, y1, hc1, hy1, ht1⟩ := hj 1 _ rfl
   obtain ⟨v2, y2, hc2, hy2, ht2⟩ := hj 2 _ rfl
   obtain ⟨v3, y3, hc3, hy3, ht3⟩ := hj 3 _ rfl
   obtain ⟨v4, y4, hc4, hy4, ht4⟩ := hj 4 _ rfl
   obtain ⟨v5, y5, hc5, hy5, ht5⟩ := hj 5 _ rfl
   obtain ⟨v6, y6, hc6, hy6, ht6⟩ := hj 6 _ rfl
   obtain ⟨n0, e0, rfl, w0⟩ := DataW.trod_int Tryz.underlying3 ht0
   obtain ⟨n1, e1, rfl, w1⟩ := DataW.trod_int Tryz.underlying3 ht1
   obtain ⟨n2, e2, rfl, w2⟩ := DataW.trod_int Tryz.underlying3 ht2
   obtain ⟨n3, e3, rfl, w3⟩ := DataW.trod_int Tryz.underlying3 ht3
   obtain ⟨s4, e4, rfl, _⟩ := DataW.trod_string Tryz.underlying9 ht4
   obtain ⟨s5, e5, rfl, _⟩ := DataW.trod_string Tryz.underlying9 ht5
   have hb := hone i hi
   rw [hD] at hb
   have hbk : s4.size ≤ 1048576 ∧ s5.size ≤ 1048576 ∧ Rows.uptoBulk y6.1 ≤ 1048576 := by
    match ys, hyl, hy0, hy1, hy2, hy3, hy4, hy5, hy6 with
    | [z0, z1, z2, z3, z4, z5, z6], _, hy0, hy1, hy2, hy3, hy4, hy5, hy6 =>
     simp at hy0 hy1 hy2 hy3 hy4 hy5 hy6
     subst hy0; subst hy1; subst hy2; subst hy3; subst hy4; subst hy5; subst hy6
     simp [Rows.uptoBulk, Rows.uptoBulkAll] at hb
     have h4 : s4.data.toList.length = s4.size := by rw [Array.length_toList]; rfl
     have h5 : s5.data.toList.length = s5.size := by rw [Array.length_toList]; rfl
     omega
   have hsl : ∃ a n c, v6 = .slice a n c := by
    rcases zA9 Tryz.underlying22 Tryz.underlying75 (by kernel_rfl) (by kernel_rfl) ht6 with ⟨e, _⟩ | ⟨a, len, cap, _, _, e, _⟩
    ·injection e with e _; exact ⟨_, _, _, e⟩
    ·injection e with e _; exact ⟨_, _, _, e⟩
   obtain ⟨va6, vn6, vc6, rfl⟩ := hsl
   obtain ⟨A', c', la, e6, hat, hsm, hln, _, _⟩ := zIP (v := .slice va6 vn6 vc6) (d := y6.1) (p := y6.2) ⟨_, _, _, rfl⟩ ⟨n, ht6⟩ hbk.2.2
   have hlc' : la.length ≤ c' := by
    rcases zA9 Tryz.underlying22 Tryz.underlying75 (by kernel_rfl) (by kernel_rfl) ht6 with ⟨e, _⟩ | ⟨a, len, cap, _, _, e, h1, _⟩
    ·injection e with e _; rw [e6] at e; injection e with _ e _; omega
    ·injection e with e _; rw [e6] at e; injection e with _ e e'; omega
   injection e0 with e0 _; subst e0
   injection e1 with e1 _; subst e1
   injection e2 with e2 _; subst e2
   injection e3 with e3 _; subst e3
   injection e4 with e4 _; subst e4
   injection e5 with e5 _; subst e5
   rw [e6] at hc6
   rw [zEp _ _ _ (by decide)] at hc1 hc2 hc3 hc4 hc5 hc6
   rw [Nat.add_zero] at hc0
   have h4 : s4.data.toList.length = s4.size := by rw [Array.length_toList]; rfl
   have h5 : s5.data.toList.length = s5.size := by rw [Array.length_toList]; rfl
   refine ⟨⟨n0, n1, n2, n3, s4.data.toList, s5.data.toList, la⟩, ⟨A', c', hat, hlc', hc0, hc1, hc2, hc3, hc4, hc5, hc6⟩, ⟨⟨zHm w0, zHm w1, zHm w2, zHm w3⟩, ?_, ?_, hsm.1⟩, hln, ?_⟩
   ·show s4.data.toList.length ≤ 1000000000; omega
   ·show s5.data.toList.length ≤ 1000000000; omega
   ·rw [hD]; simp [Rows.uptoBulk])
  have hcount := zBe (fun _ : OpD => 1) D l (fun i y hy => (hp i y hy).2.2.2)
  have e := zFI l
  rw [hl] at hcount
  refine ⟨some a, cap, l, by rw [hl], ?_, ⟨by omega, fun o ho => ?_⟩, trivial⟩
  ·intro hpos
   have h0 : l[0]? = some (l[0]'hpos) := List.getElem?_eq_getElem hpos
   obtain ⟨A', c', _, _, hc0⟩ := (hp 0 _ h0).1
   have hb := World.block_lt_of_cell? W _ hc0.1
   rw [zAC] at hb
   exact ⟨a, rfl, hb, fun k x hx => (hp k x hx).1⟩
  ·obtain ⟨k, hk⟩ := List.mem_iff_getElem?.1 ho
   exact ⟨(hp k o hk).2.1, (hp k o hk).2.2.1⟩
end
end Go.Proofs.YtcombcoilpmnkaaGreat
