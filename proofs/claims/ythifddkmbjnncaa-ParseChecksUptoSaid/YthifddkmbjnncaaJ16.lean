/-
  Texts of this claim, joined (by a program of the claim's author): Open, SmallPlain, Right.
-/
import Derived.Test.YthifddkmbjnncaaJ1
import Derived.Test.YthifddkmbjnncaaRows
import Derived.Deep.Slices
import Derived.Deep.Fields
import Derived.ChangeSame
import Derived.Carry
import Derived.ProofKit
import Derived.Test.YthifddkmbjnncaaJ5
import Derived.Test.YthifddkmbjnncaaJ11
import Derived.Test.YthifddkmbjnncaaJ15
/-
  Rows of items that come in as an argument: what a reading of them says of memory.
-/
namespace Go.Proofs.Ythifddkmbjnncaa
open Go.RowKit Go.ChangeShapes Go.WideShapes Go.Deep

theorem add_more (ad : Addr) (a j : Nat) (hj : j ≠ 0) : ad.add (a + j) = ⟨(ad.add a).block, (ad.add a).off + j, none⟩ := by
  rw [← add_of_add]
  generalize ad.add a = b
  unfold Addr.add
  rw [if_neg hj]

/-- A row of structs whose fields have a cell each: what a reading of it says of each element's each field. -/
theorem slice_structs {H : Type} {enc : TypeId × Value → H} {P : Program} {w : World} {t e : TypeId} {fs : Array Field} {fuel : Nat} {cs : List Value} {x : DataW H × List MemPlace} (ht : P.underlying t = some (.slice e)) (he : P.underlying e = some (.struct fs))
    (h1 : oneCellFields P fs = true) (h2 : P.cellsOf e = fs.size) (h : DataW.trod enc P w 0 (fun _ => true) true fuel t cs = some x) :
    (cs = [.slice none 0 0] ∧ x.1 = .nil) ∨
    ∃ (a : Addr) (len cap : Nat) (D : Nat → DataW H) (rest : List (DataW H)), cs = [.slice (some a) len cap] ∧ len ≤ cap ∧ cap ≤ maxLen ∧ x.1 = .slice ((List.range len).map D) rest ∧
      ∀ i, i < len → ∃ (ys : List (DataW H × List MemPlace)) (n : Nat), D i = .agg (ys.map (·.1)) ∧ ys.length = fs.size ∧
        ∀ (j : Nat) (f : Field), fs[j]? = some f → ∃ v y, w.cell? (a.add (i * fs.size + j)) = some v ∧ ys[j]? = some y ∧ DataW.trod enc P w 0 (fun _ => true) true n f.type [v] = some y := by
  rcases open_slice ht h with ⟨e1, e2⟩ | ⟨a, len, cap, m, n, D, Pl, e1, _, k1, k2, k3, e2, each⟩
  · exact .inl ⟨e1, by rw [e2]⟩
  · right
    have hm : m = cap := by simpa using k3
    refine ⟨a, len, cap, D, _, e1, k1, k2, by rw [e2], fun i hi => ?_⟩
    obtain ⟨row, hrow, hread⟩ := each i (by omega)
    obtain ⟨_, hl, hat⟩ := World.cells?_some hrow
    obtain ⟨ys, n', _, hy, _, hyl, hfield⟩ := DataW.trod_struct he hread
    refine ⟨ys, n', by rw [Prod.mk.injEq] at hy; exact hy.1, hyl, fun j f hj => ?_⟩
    have hjs : j < fs.size := (Array.getElem?_eq_some_iff.1 hj).1
    obtain ⟨o1, o2⟩ := hone_of h1 j f hj
    have hjr : j < row.length := by rw [hl, h2]; exact hjs
    have hv := hat j (by rw [h2]; exact hjs)
    have hone : (row.drop f.offset).take (P.cellsOf f.type) = [row[j]] := by rw [o1, o2, List.drop_eq_getElem_cons hjr]; rfl
    have hr := hfield j f hj
    rw [hone] at hr
    have hys : ys[j]? = some (ys[j]'(by omega)) := List.getElem?_eq_getElem _
    refine ⟨row[j], _, ?_, hys, hr.trans hys⟩
    rw [h2, add_of_add, List.getElem?_eq_getElem hjr] at hv
    exact hv

theorem list_of {α : Type} {P : Nat → α → Prop} : ∀ (n : Nat), (∀ i, i < n → ∃ x, P i x) → ∃ l : List α, l.length = n ∧ ∀ i x, l[i]? = some x → P i x
  | 0, _ => ⟨[], rfl, fun _ _ h => by simp at h⟩
  | n + 1, h => by
    obtain ⟨l, hl, hp⟩ := list_of n (fun i hi => h i (by omega))
    obtain ⟨x, hx⟩ := h n (by omega)
    refine ⟨l ++ [x], by simp [hl], fun i y hy => ?_⟩
    by_cases hi : i < l.length
    · rw [List.getElem?_append_left hi] at hy; exact hp i y hy
    · rw [List.getElem?_append_right (by omega)] at hy
      have : i - l.length = 0 := by
        have := (List.getElem?_eq_some_iff.1 hy).1
        simp at this; omega
      rw [this] at hy
      simp at hy; subst hy
      rw [show i = n by omega]; exact hx

theorem bulkAll_range {H : Type} (D : Nat → DataW H) : ∀ n i, i < n → Rows.uptoBulk (D i) ≤ Rows.uptoBulkAll ((List.range n).map D) := by
  have app : ∀ (a b : List (DataW H)), Rows.uptoBulkAll (a ++ b) = Rows.uptoBulkAll a + Rows.uptoBulkAll b := by
    intro a b
    induction a with
    | nil => simp [Rows.uptoBulkAll]
    | cons x a ih => simp only [List.cons_append, Rows.uptoBulkAll, ih]; omega
  intro n
  induction n with
  | zero => intro i h; omega
  | succ n ih =>
    intro i h
    rw [List.range_succ, List.map_append, app]
    by_cases hi : i < n
    · have := ih i hi; omega
    · have : i = n := by omega
      subst this
      simp [Rows.uptoBulkAll]
theorem bulkAll_sum {H α : Type} (f : α → Nat) (D : Nat → DataW H) : ∀ (l : List α), (∀ i x, l[i]? = some x → f x ≤ Rows.uptoBulk (D i)) → (l.map f).sum ≤ Rows.uptoBulkAll ((List.range l.length).map D) := by
  have app : ∀ (a b : List (DataW H)), Rows.uptoBulkAll (a ++ b) = Rows.uptoBulkAll a + Rows.uptoBulkAll b := by
    intro a b
    induction a with
    | nil => simp [Rows.uptoBulkAll]
    | cons x a ih => simp only [List.cons_append, Rows.uptoBulkAll, ih]; omega
  have key : ∀ (n : Nat) (l : List α), l.length = n → (∀ i x, l[i]? = some x → f x ≤ Rows.uptoBulk (D i)) → (l.map f).sum ≤ Rows.uptoBulkAll ((List.range n).map D) := by
    intro n
    induction n with
    | zero => intro l hl _; rw [List.eq_nil_of_length_eq_zero hl]; simp
    | succ n ih =>
      intro l hl h
      have hne : l ≠ [] := fun e => by rw [e] at hl; cases hl
      rw [← List.dropLast_concat_getLast hne, List.map_append, List.sum_append, List.range_succ, List.map_append, app]
      have h1 := ih l.dropLast (by simp [hl]) (fun i x hx => h i x (by
        have hi := (List.getElem?_eq_some_iff.1 hx).1
        rw [List.getElem?_dropLast] at hx
        split at hx
        · exact hx
        · cases hx))
      have h2 := h n (l.getLast hne) (by rw [List.getLast_eq_getElem, ← List.getElem?_eq_getElem, hl]; rfl)
      simp only [List.map_cons, List.map_nil, List.sum_cons, List.sum_nil, Rows.uptoBulkAll]
      omega
  intro l h
  exact key l.length l rfl h

theorem sum_ones {α : Type} (l : List α) : (l.map (fun _ => 1)).sum = l.length := by
  induction l with
  | nil => rfl
  | cons x l ih => rw [List.map_cons, List.sum_cons, ih, List.length_cons]; omega

theorem open_attrs {W : World} {H : Type} {enc : TypeId × Value → H} {fuel : Nat} {cs : List Value} {x : DataW H × List MemPlace} (h : DataW.trod enc Try.prog W 0 (fun _ => true) true fuel 31 cs = some x) :
    ∃ (A : Option Addr) (c : Nat) (l : List AttrD), cs = [.slice A l.length c] ∧ AttrsAt W W.heap.size A l ∧ l.length ≤ c ∧ (A = none → c = 0) ∧ l.length ≤ Rows.uptoBulk x.1 ∧ (∀ a ∈ l, a.name.length + a.value.length ≤ Rows.uptoBulk x.1) := by
  rcases slice_structs Try.underlying31 Try.underlying44 (by kernel_rfl) (by kernel_rfl) h with ⟨rfl, hx⟩ | ⟨a, len, cap, D, rest, rfl, hlc, hcm, hx, hf⟩
  · exact ⟨none, 0, [], rfl, fun h => absurd h (by simp), Nat.le_refl _, fun _ => rfl, by simp, by simp⟩
  · rw [hx]
    obtain ⟨l, hl, hp⟩ := list_of (P := fun i (y : AttrD) => W.cell? (a.add (i * 2)) = some (strV y.name) ∧ W.cell? ⟨(a.add (i * 2)).block, (a.add (i * 2)).off + 1, none⟩ = some (strV y.value) ∧ y.name.length + y.value.length + 1 ≤ Rows.uptoBulk (D i)) len (fun i hi => by
      obtain ⟨ys, n, hD, hyl, hj⟩ := hf i hi
      obtain ⟨v0, y0, hc0, hy0, ht0⟩ := hj 0 _ rfl
      obtain ⟨v1, y1, hc1, hy1, ht1⟩ := hj 1 _ rfl
      obtain ⟨s0, e0, rfl, _⟩ := DataW.trod_string Try.underlying9 ht0
      obtain ⟨s1, e1, rfl, _⟩ := DataW.trod_string Try.underlying9 ht1
      injection e0 with e0 _; subst e0
      injection e1 with e1 _; subst e1
      refine ⟨⟨s0.data.toList, s1.data.toList⟩, ?_, ?_, ?_⟩
      · rw [Nat.add_zero] at hc0
        rw [show i * 2 = i * (_ : Nat) from rfl]; exact hc0
      · rw [add_more _ _ _ (by decide)] at hc1; exact hc1
      · rw [hD]
        match ys, hyl, hy0, hy1 with
        | [z0, z1], _, hy0, hy1 =>
          simp at hy0 hy1
          subst hy0; subst hy1
          simp [Rows.uptoBulk, Rows.uptoBulkAll]
          omega)
    refine ⟨some a, cap, l, by rw [hl], ?_, by omega, (fun h => by cases h), ?_, ?_⟩
    · intro hpos
      have h0 : l[0]? = some (l[0]'hpos) := List.getElem?_eq_getElem hpos
      have hb := World.block_lt_of_cell? W _ (hp 0 _ h0).1
      rw [block_of_add] at hb
      exact ⟨a, rfl, hb, fun k y hy => ⟨(hp k y hy).1, (hp k y hy).2.1⟩⟩
    · have := bulkAll_sum (fun _ : AttrD => 1) D l (fun i y hy => by have := (hp i y hy).2.2; omega)
      rw [hl] at this
      simp only [Rows.uptoBulk]
      have e := sum_ones l
      omega
    · intro y hy
      obtain ⟨k, hk⟩ := List.mem_iff_getElem?.1 hy
      have h1 := (hp k y hk).2.2
      have h2 := bulkAll_range D len k (by rw [← hl]; exact (List.getElem?_eq_some_iff.1 hk).1)
      simp only [Rows.uptoBulk]
      omega

/-- A nil slice of attributes has no room. -/
def NilAt (w : World) (A : Option Addr) (l : List ItemD) : Prop := ∀ ad, A = some ad → ∀ k x A' c', l[k]? = some x → w.cell? ⟨(ad.add (k * 5)).block, (ad.add (k * 5)).off + 4, none⟩ = some (.slice A' x.attrs.length c') → A' = none → c' = 0

theorem open_items {W : World} {H : Type} {enc : TypeId × Value → H} {v : Value} {d : DataW H} {p : List MemPlace} (hok : ∃ a n c, v = .slice a n c) (h : DataW.Trod enc Try.prog W 0 (fun _ => true) true 45 v d p) (hbulk : Rows.uptoBulk d ≤ 1048576) :
    ∃ (A : Option Addr) (c : Nat) (l : List ItemD), v = .slice A l.length c ∧ ItemsAt W W.heap.size A l ∧ SmallDoc l ∧ l.length ≤ 1048576 ∧ textSum l ≤ 1048576 ∧ NilAt W A l := by
  obtain ⟨va, vn, vc, rfl⟩ := hok
  obtain ⟨fuel, h⟩ := h
  rcases slice_structs Try.underlying45 Try.underlying50 (by kernel_rfl) (by kernel_rfl) h with ⟨e, e2⟩ | ⟨a, len, cap, D, rest, e, hlc, hcm, e2, hf⟩
  · injection e with e _
    injection e with e1 e2' e3
    subst e1; subst e2'; subst e3
    refine ⟨none, 0, [], rfl, fun h => absurd h (by simp), ⟨⟨by simp, fun _ _ h => by simp at h⟩, by simp [textSum]⟩, by simp, by simp [textSum], fun _ h => by cases h⟩
  · injection e with e _
    injection e with e1 e2' e3
    subst e1
    have e2'' := e2'.symm
    have e3'' := e3.symm
    subst e2''; subst e3''
    have e2 : d = .slice ((List.range len).map D) rest := e2
    subst e2
    obtain ⟨l, hl, hp⟩ := list_of (P := fun i (x : ItemD) => ∃ (A' : Option Addr) (c' : Nat), AttrsAt W W.heap.size A' x.attrs ∧ x.attrs.length ≤ c' ∧ W.cell? (a.add (i * 5)) = some (.int .i64 x.level) ∧ W.cell? ⟨(a.add (i * 5)).block, (a.add (i * 5)).off + 1, none⟩ = some (.int .i64 x.kind) ∧
        W.cell? ⟨(a.add (i * 5)).block, (a.add (i * 5)).off + 2, none⟩ = some (strV x.name) ∧ W.cell? ⟨(a.add (i * 5)).block, (a.add (i * 5)).off + 3, none⟩ = some (strV x.text) ∧ W.cell? ⟨(a.add (i * 5)).block, (a.add (i * 5)).off + 4, none⟩ = some (.slice A' x.attrs.length c') ∧
        (-9223372036854775808 ≤ x.level ∧ x.level ≤ 9223372036854775807) ∧ x.name.length + x.text.length + x.attrs.length + 1 ≤ Rows.uptoBulk (D i) ∧ (∀ y ∈ x.attrs, y.name.length + y.value.length ≤ Rows.uptoBulk (D i)) ∧ (A' = none → c' = 0)) len (fun i hi => by
      obtain ⟨ys, n, hD, hyl, hj⟩ := hf i hi
      obtain ⟨v0, y0, hc0, hy0, ht0⟩ := hj 0 _ rfl
      obtain ⟨v1, y1, hc1, hy1, ht1⟩ := hj 1 _ rfl
      obtain ⟨v2, y2, hc2, hy2, ht2⟩ := hj 2 _ rfl
      obtain ⟨v3, y3, hc3, hy3, ht3⟩ := hj 3 _ rfl
      obtain ⟨v4, y4, hc4, hy4, ht4⟩ := hj 4 _ rfl
      obtain ⟨n0, e0, rfl, w0⟩ := DataW.trod_int Try.underlying3 ht0
      obtain ⟨n1, e1, rfl, _⟩ := DataW.trod_int Try.underlying3 ht1
      obtain ⟨s2, e2, rfl, _⟩ := DataW.trod_string Try.underlying9 ht2
      obtain ⟨s3, e3, rfl, _⟩ := DataW.trod_string Try.underlying9 ht3
      obtain ⟨A', c', la, e4, hat, hlc', hnil, hb1, hb2⟩ := open_attrs ht4
      injection e0 with e0 _; subst e0
      injection e1 with e1 _; subst e1
      injection e2 with e2 _; subst e2
      injection e3 with e3 _; subst e3
      injection e4 with e4 _; subst e4
      rw [add_more _ _ _ (by decide)] at hc1 hc2 hc3 hc4
      rw [Nat.add_zero] at hc0
      refine ⟨⟨n0, n1, s2.data.toList, s3.data.toList, la⟩, A', c', hat, hlc', hc0, hc1, hc2, hc3, hc4, ?_, ?_, ?_, hnil⟩
      · simp [Lit.wf, IntKind.min, IntKind.max, IntKind.signed, IntKind.bits] at w0
        show -9223372036854775808 ≤ n0 ∧ n0 ≤ 9223372036854775807
        exact ⟨by omega, by omega⟩
      · rw [hD]
        match ys, hyl, hy0, hy1, hy2, hy3, hy4 with
        | [z0, z1, z2, z3, z4], _, hy0, hy1, hy2, hy3, hy4 =>
          simp at hy0 hy1 hy2 hy3 hy4
          subst hy0; subst hy1; subst hy2; subst hy3; subst hy4
          simp [Rows.uptoBulk, Rows.uptoBulkAll]
          omega
      · intro y hy
        rw [hD]
        have := hb2 y hy
        match ys, hyl, hy0, hy1, hy2, hy3, hy4 with
        | [z0, z1, z2, z3, z4], _, hy0, hy1, hy2, hy3, hy4 =>
          simp at hy0 hy1 hy2 hy3 hy4
          subst hy0; subst hy1; subst hy2; subst hy3; subst hy4
          simp [Rows.uptoBulk, Rows.uptoBulkAll]
          omega)
    simp only [Rows.uptoBulk] at hbulk
    have hone : ∀ k, k < len → Rows.uptoBulk (D k) ≤ 1048576 := fun k hk => by have := bulkAll_range D len k hk; omega
    have hcount := bulkAll_sum (fun _ : ItemD => 1) D l (fun i y hy => by obtain ⟨_, _, _, _, _, _, _, _, _, _, h, _⟩ := hp i y hy; omega)
    have htext := bulkAll_sum (fun x : ItemD => x.text.length) D l (fun i y hy => by obtain ⟨_, _, _, _, _, _, _, _, _, _, h, _⟩ := hp i y hy; omega)
    have e := sum_ones l
    rw [hl] at hcount htext
    have hl2 : l.length ≤ 1048576 := by omega
    have ht2 : textSum l ≤ 1048576 := by unfold textSum; omega
    refine ⟨some a, cap, l, by rw [hl], ?_, ⟨⟨by omega, fun k x hx => ?_⟩, by omega⟩, hl2, ht2, ?_⟩
    · intro hpos
      have h0 : l[0]? = some (l[0]'hpos) := List.getElem?_eq_getElem hpos
      obtain ⟨_, _, _, _, hc0, _⟩ := hp 0 _ h0
      have hb := World.block_lt_of_cell? W _ hc0
      rw [block_of_add] at hb
      refine ⟨a, rfl, hb, fun k x hx => ?_⟩
      obtain ⟨A', c', k1, k2, k3, k4, k5, k6, k7, _⟩ := hp k x hx
      exact ⟨A', c', k1, k2, k3, k4, k5, k6, k7⟩
    · obtain ⟨A', c', k1, k2, k3, k4, k5, k6, k7, k8, k9, k10⟩ := hp k x hx
      have hk := hone k (by rw [← hl]; exact (List.getElem?_eq_some_iff.1 hx).1)
      exact ⟨by omega, by omega, by omega, fun j y hy => by have := k10.1 y (List.mem_of_getElem? hy); omega, k8⟩
    · intro ad had k x A2 c2 hx hcell hA2
      injection had with had
      subst had
      obtain ⟨A', c', k1, k2, k3, k4, k5, k6, k7, k8, k9, k10⟩ := hp k x hx
      rw [k7] at hcell
      injection hcell with hcell
      injection hcell with q1 _ q3
      rw [← q3]
      exact k10.2 (by rw [q1]; exact hA2)
end Go.Proofs.Ythifddkmbjnncaa

/-
  The plain law of sizes: what is told of tokens, and what is read, is no longer than what it was told of. No program in sight.
-/
namespace Go.Proofs.Ythifddkmbjnncaa

def AttrSm (N : Nat) (a : AttrD) : Prop := a.name.length ≤ N ∧ a.value.length ≤ 1500
theorem attrL_sm {l : List UInt8} {bs : List AttrD} {a : AttrD} {n : Nat} (h : attrL l bs = .ok a n) : AttrSm l.length a := by
  have hw := wordL_len l
  unfold attrL at h
  simp only at h
  split at h
  · cases h
  split at h
  · cases h
  split at h
  · cases h
  split at h
  · cases h
  split at h
  · cases h
  unfold valueT at h
  simp only at h
  split at h
  · cases h
  split at h
  · cases h
  split at h
  · cases h
  · rename_i h5
    injection h with h _
    subst h
    exact ⟨hw, by simpa using h5⟩
theorem attrsF_sm (N : Nat) : ∀ (f : Nat) (l : List UInt8) (bs : List AttrD) (q : Int × List AttrD) (n : Nat), l.length ≤ N → (∀ b ∈ bs, AttrSm N b) → attrsF f l bs = .ok q n → ∀ b ∈ q.2, AttrSm N b
  | 0, _, _, _, _, _, _, h => by cases h
  | f + 1, l, bs, q, n, hl, hb, h => by
    rw [attrsF] at h
    split at h
    · injection h with h _; subst h; exact hb
    split at h
    · injection h with h _; subst h; exact hb
    split at h
    · cases h
    cases ha : attrL (l.drop (skipL l)) bs with
    | bad k e => rw [ha] at h; cases h
    | ok a m =>
      rw [ha] at h
      simp only at h
      have hs := attrL_sm ha
      rw [List.length_drop] at hs
      cases hq : attrsF f ((l.drop (skipL l)).drop m) (bs ++ [a]) with
      | bad k e => rw [hq] at h; cases h
      | ok r k =>
        rw [hq] at h
        injection h with h _
        subst h
        refine attrsF_sm N f _ _ _ _ (by simp only [List.length_drop]; omega) (fun b hb' => ?_) hq
        rcases List.mem_append.1 hb' with hb' | hb'
        · exact hb b hb'
        · simp at hb'; subst hb'; exact ⟨by have := hs.1; omega, hs.2⟩

/-- no part of a token is longer than what it was told of -/
structure TokSm (N : Nat) (t : TokD) : Prop where
  name : t.name.length ≤ N
  text : t.text.length ≤ 1500
  many : t.attrs.length ≤ 20
  attrs : ∀ a ∈ t.attrs, AttrSm N a
theorem tok_sm {l : List UInt8} {t : TokD} {n : Nat} (h : oneT l = .ok t n) : TokSm l.length t := by
  have hm := (tok_parts h).2.2.2.1
  unfold oneT at h
  split at h
  · cases he : endT (l.drop 2) with
    | bad k e => rw [he] at h; cases h
    | ok u k =>
      rw [he] at h
      injection h with h _
      subst h
      have hw := wordL_len (l.drop 2)
      rw [List.length_drop] at hw
      unfold endT at he
      simp only at he
      split at he
      · cases he
      split at he
      · injection he with he _
        subst he
        exact ⟨by show (wordL (l.drop 2)).length ≤ _; omega, by simp, by simp, fun a h => by cases h⟩
      · cases he
  · split at h
    · cases he : beginT (l.drop 1) with
      | bad k e => rw [he] at h; cases h
      | ok u k =>
        rw [he] at h
        injection h with h _
        subst h
        have hw := wordL_len (l.drop 1)
        rw [List.length_drop] at hw
        unfold beginT at he
        simp only at he
        split at he
        · cases he
        cases ha : attrsF ((l.drop 1).length + 1) ((l.drop 1).drop (wordL (l.drop 1)).length) [] with
        | bad k e => rw [ha] at he; cases he
        | ok q m =>
          rw [ha] at he
          injection he with he _
          subst he
          have hs := attrsF_sm l.length _ _ _ _ _ (by simp only [List.length_drop]; omega) (fun _ h => by cases h) ha
          exact ⟨by show (wordL (l.drop 1)).length ≤ _; omega, by simp, hm, fun a h => hs a ((sortA_perm q.2).mem_iff.1 h)⟩
    · unfold textT at h
      simp only at h
      split at h
      · cases h
      split at h
      · cases h
      · rename_i h5
        injection h with h _
        subst h
        exact ⟨by simp, by simpa using h5, by simp, fun a h => by cases h⟩

structure ItemSm (N : Nat) (x : ItemD) : Prop where
  name : x.name.length ≤ N
  text : x.text.length ≤ 1500
  many : x.attrs.length ≤ 20
  attrs : ∀ a ∈ x.attrs, AttrSm N a
  level : 0 ≤ x.level ∧ x.level < 40
theorem AttrSm.more {N M : Nat} {a : AttrD} (h : AttrSm N a) (hm : N ≤ M) : AttrSm M a := ⟨Nat.le_trans h.1 hm, h.2⟩
theorem takeT_sm {N : Nat} {items : List ItemD} {o : List (List UInt8)} {t : TokD} {q : List ItemD × List (List UInt8)} (hi : ∀ x ∈ items, ItemSm N x) (ht : TokSm N t) (h : takeT items o t = .inr q) : ∀ x ∈ q.1, ItemSm N x := by
  unfold takeT at h
  split at h
  · split at h
    · injection h with h; subst h; exact hi
    · cases h
  · split at h
    · cases h
    · rename_i he
      injection h with h; subst h
      intro x hx
      rcases List.mem_append.1 hx with hx | hx
      · exact hi x hx
      · simp at hx; subst hx
        have hd : o.length < 40 := by
          have he' : addE items o t.kind = 0 := by simpa using he
          unfold addE at he'
          split at he'
          · omega
          split at he'
          · omega
          · omega
        unfold itemOf
        split
        · exact ⟨by simp, ht.text, by simp, (fun a h => by cases h), ⟨by simp, by simp; omega⟩⟩
        · exact ⟨ht.name, by simp, ht.many, ht.attrs, ⟨by simp, by simp; omega⟩⟩
theorem parseF_sm (N : Nat) : ∀ (f : Nat) (p : Nat) (l : List UInt8) (items : List ItemD) (o : List (List UInt8)), l.length ≤ N → (∀ x ∈ items, ItemSm N x) → ∀ x ∈ (parseF f p l items o).1, ItemSm N x
  | 0, p, l, items, o, _, hi => by
    rw [parseF]; unfold endP
    split
    · intro x h; cases h
    split
    · intro x h; cases h
    · exact hi
  | f + 1, p, l, items, o, hl, hi => by
    rw [parseF]
    split
    · unfold endP
      split
      · intro x h; cases h
      split
      · intro x h; cases h
      · exact hi
    · cases ho : oneT l with
      | bad k e => intro x h; cases h
      | ok t n =>
        simp only
        cases ht : takeT items o t with
        | inl e => intro x h; cases h
        | inr q =>
          simp only
          have hts := tok_sm ho
          exact parseF_sm N f _ _ _ _ (by rw [List.length_drop]; omega) (takeT_sm hi ⟨Nat.le_trans hts.name hl, hts.text, hts.many, fun a h => (hts.attrs a h).more hl⟩ ht)
theorem parse_sm {p : Nat} {l : List UInt8} : ∀ x ∈ (parseL p l [] []).1, ItemSm l.length x := parseF_sm l.length _ p l [] [] (Nat.le_refl _) (fun _ h => by cases h)
end Go.Proofs.Ythifddkmbjnncaa

/-
  The law ParseRight walked.
-/
namespace Go.Proofs.Ythifddkmbjnncaa
open Go.RowKit

theorem small_of_sm {N : Nat} (hN : N ≤ 1000000000) {l : List ItemD} (hl : l.length ≤ 1000000000) (h : ∀ x ∈ l, ItemSm N x) : SmallItems l := by
  refine ⟨hl, fun k x hx => ?_⟩
  have hs := h x (List.mem_of_getElem? hx)
  refine ⟨Nat.le_trans hs.name hN, by have := hs.text; omega, by have := hs.many; omega, fun j a ha => ?_, by have := hs.level; omega⟩
  have := hs.attrs a (List.mem_of_getElem? ha)
  exact ⟨Nat.le_trans this.1 hN, by have := this.2; omega⟩
theorem parse_many {l : List UInt8} (h : (parseL 0 l [] []).2.2 = 0) : (parseL 0 l [] []).1.length ≤ 1000 := by
  have hc := parse_check l.length l 0 [] [] (Nat.le_refl _) read_nil h
  exact (checkL_ok (by rw [hc])).many
/-- where items of the call's own lie -/
theorem items_at {w : World} {B : Nat} {A : Option Addr} {c : Nat} {S : List Slot} (h : ItemsOwn w B A c S) (ha : ∀ s ∈ S, AttrsOwn w B s.2.1 s.2.2 s.1.attrs) : ItemsAt w w.heap.size A (S.map (·.1)) :=
  ItemsOwn.at h fun s hs => ⟨AttrsOwn.at (ha s hs), AttrsOwn.cap (ha s hs)⟩

set_option maxRecDepth 100000 in
set_option maxHeartbeats 1000000 in
theorem walk_ParseRight (s : ByteArray) (w : World) (_hm : s.size ≤ maxLen) : Calls Try.prog 12 #[.string s] w (Ret w (.bool true)) := by
  by_cases hbig : 20000 < s.size
  · have hb' : (20000 : Int) < s.size := by omega
    clear _hm
    go_enter Try.func12, Try.ntmps12
    go_wp2_with fail
    refine (alive4_any w).mono ?_
    rintro e1 w1 ⟨rfl, hb1⟩
    go_wp2_with fail
    go_ret
    exact ⟨rfl, hb1⟩
  · have hb' : (s.size : Int) ≤ 20000 := by omega
    have hs : s.size ≤ 100000000 := by omega
    obtain ⟨R, hR⟩ : ∃ R, Hid (parseL 0 s.data.toList [] [] = R) := ⟨_, rfl⟩
    have HBIG := Lib.hid hbig
    clear _hm hbig
    go_enter Try.func12, Try.ntmps12
    go_wp2_with fail
    refine (Parse_any s w hs R hR).mono ?_
    rintro e w1 ⟨hb1, hpost⟩
    rcases hpost with ⟨hR0, A, c, S, rfl, hown, hat, hS⟩ | ⟨hR0, rfl⟩
    · have hR0' : (parseL 0 s.data.toList [] []).2.2 = 0 := by rw [hR.out]; exact hR0
      obtain ⟨l, hlS⟩ : ∃ l, Hid (S.map (·.1) = l) := ⟨_, rfl⟩
      have hlR : l = (parseL 0 s.data.toList [] []).1 := by rw [← hlS.out, hS, hR.out]
      have hlen : Hid (S.length = l.length) := by show _ = _; rw [← hlS.out, List.length_map]
      have hck : Hid (checkL l = (0, 0)) := by
        show _ = _
        rw [hlR]
        exact parse_check s.data.toList.length s.data.toList 0 [] [] (Nat.le_refl _) read_nil hR0'
      have hsm : Hid (SmallItems l) := by
        show SmallItems _
        rw [hlR]
        exact small_of_sm (N := s.data.toList.length) (by rw [size_toList]; omega) (by have := parse_many hR0'; omega) parse_sm
      have HAT : Hid (ItemsAt w1 w1.heap.size A l) := by
        show ItemsAt _ _ _ _
        rw [← hlS.out]; exact items_at hown hat
      clear hown hat hS hR0 hR0' hlR
      go_wp2_with fail
      rw [hlen.out]
      refine (Check_any l A c w1 HAT.out hsm.out 0 0 hck).mono ?_
      rintro e2 w2 ⟨rfl, hb2⟩
      go_wp2_with fail
      refine (alive4_any w2).mono ?_
      rintro e3 w3 ⟨rfl, hb3⟩
      go_wp2_with fail
      go_ret
      exact ⟨rfl, hb1.trans ((hb2.trans (hb3.mono hb2.size)).mono hb1.size)⟩
    · have he1 : (R.2.2 != 0) = true := by simpa using hR0
      clear hR0
      go_wp2_with fail
      refine (alive4_any w1).mono ?_
      rintro e3 w3 ⟨rfl, hb3⟩
      go_wp2_with fail
      go_ret
      exact ⟨rfl, hb1.trans (hb3.mono hb1.size)⟩
end Go.Proofs.Ythifddkmbjnncaa
