/-
  Texts of this claim, joined (by a program of the claim's author): PqK, OpenG, OpenS, PqJ.
-/
import Derived.Test.YtpfhdklbhhpbcaaDoorQ1
import Derived.Test.YtpfhdklbhhpbcaaDoorQ9
import Derived.Test.YtpfhdklbhhpbcaaDoorRows
import Derived.Test.YtpfhdklbhhpbcaaDoorQ2
import Derived.Deep.Slices
import Derived.Deep.Fields
import Derived.ChangeSame
import Derived.Carry
import Derived.ProofKit
import Derived.Test.YtpfhdklbhhpbcaaDoorQ10
import Derived.Lib.SmallJoins
/-
  The law PathqBack walked.
-/
namespace Go.Proofs.YtpfhdklbhhpbcaaDoor
open Go.RowKit

set_option maxRecDepth 100000 in
set_option maxHeartbeats 4000000 in
theorem walk_PathqBack (l : List StepD) (A : Option Addr) (c : Nat) (w : World) (hat : StepsAt w w.heap.size A l) (hsm : SmallSteps l) (hfit : fitQ l) (htab : Tab w) : Calls Tryd.prog 4 #[.slice A l.length c] w (Ret w (.bool true)) := by
  have HTAB := Lib.hid htab
  have HAT := Lib.hid hat
  have HSM := Lib.hid hsm
  have HFIT := Lib.hid hfit
  obtain ⟨R, HR⟩ : ∃ R, Hid (rightL l = R) := ⟨_, rfl⟩
  obtain ⟨T, hT⟩ : ∃ T, Hid ((if R then queryT l else []) = T) := ⟨_, rfl⟩
  clear htab hat hsm hfit
  go_enter Tryd.func4, Tryd.ntmps4
  go_wp2_with fail
  refine (Print_any l A c w HAT.out HSM.out HFIT.out HTAB.out R HR T hT).mono ?_
  rintro e w1 ⟨rfl, hb1⟩
  have hw1 := Lib.hid hb1
  have hT1 := Lib.hid (HTAB.out.keep hb1)
  have HAT1 : Hid (StepsAt w1 w1.heap.size A l) := HAT.out.later hb1
  cases R with
  | true =>
    have hT' : Hid (queryT l = T) := hT.out
    clear hT
    have htl : T.length ≤ 100000000000000 := by rw [← hT'.out]; exact HFIT.out
    have htm : (⟨T.toArray⟩ : ByteArray).size ≤ maxLen := by show T.toArray.size ≤ maxLen; unfold maxLen; simp; omega
    by_cases h200 : 200 < T.length
    · have HQ2 : Hid (queryL (⟨T.toArray⟩ : ByteArray).data.toList = ([], 0, 71)) := by
        show queryL T = _
        exact query_long h200
      have t200 : (200 : Int) < (T.length : Int) := by omega
      clear h200
      go_wp2_with fail
      refine (Parse_any ⟨T.toArray⟩ w1 htm _ HQ2).mono ?_
      rintro e w3 ⟨hb3, hp3⟩
      rcases hp3 with ⟨h, _⟩ | ⟨_, rfl⟩
      · have h' : (71 : Int) = 0 := h
        exact absurd h' (by decide)
      have hw3 := Lib.hid (hw1.out.trans (hb3.mono hw1.out.size))
      go_wp2_with fail
      refine (alive7_any w3 (hT1.out.keep hb3)).mono ?_
      rintro e w4 ⟨rfl, hb4⟩
      go_wp2_with fail
      go_ret
      exact ⟨rfl, hw3.out.trans (hb4.mono hw3.out.size)⟩
    · have HQ2 : Hid (queryL (⟨T.toArray⟩ : ByteArray).data.toList = (l, 0, 0)) := by
        show queryL T = _
        rw [← hT'.out]
        exact query_back HR.out (by rw [hT'.out]; omega)
      have t200 : (T.length : Int) ≤ 200 := by omega
      clear h200
      go_wp2_with fail
      refine (Parse_any ⟨T.toArray⟩ w1 htm _ HQ2).mono ?_
      rintro e w3 ⟨hb3, hp3⟩
      rcases hp3 with ⟨_, A3, c3, S3, rfl, hs3, hsp3, hm3⟩ | ⟨h, _⟩
      case inr => exact absurd rfl h
      have hm3' : S3.map (·.1) = l := hm3
      have hlen3 : Hid (S3.length = l.length) := by show _ = _; rw [← hm3', List.length_map]
      have HAT3' : Hid (StepsAt w3 w3.heap.size A3 l) := by show StepsAt _ _ _ _; rw [← hm3']; exact hs3.at hsp3
      have hw3 := Lib.hid (hw1.out.trans (hb3.mono hw1.out.size))
      have HAT3 : Hid (StepsAt w3 w3.heap.size A l) := HAT1.out.later hb3
      clear hs3 hsp3 hm3 hm3'
      go_wp2_with fail
      refine (alive7_any w3 (hT1.out.keep hb3)).mono ?_
      rintro e w4 ⟨rfl, hb4⟩
      have hw4 := Lib.hid (hw3.out.trans (hb4.mono hw3.out.size))
      have HAT4 := Lib.hid (HAT3.out.later hb4)
      have HAT4' := Lib.hid (HAT3'.out.later hb4)
      go_wp2_with fail
      rw [hlen3.out]
      refine (Same7_any l l A A3 c c3 w4 HAT4.out HAT4'.out HSM.out HSM.out true (by show _ = _; simp)).mono ?_
      rintro e w6 ⟨rfl, hb6⟩
      go_wp2_with fail
      go_ret
      exact ⟨rfl, hw4.out.trans (hb6.mono hw4.out.size)⟩
  | false =>
    have hT' : [] = T := hT.out
    subst hT'
    clear hT
    go_wp2_with fail
    refine (alive7_any w1 hT1.out).mono ?_
    rintro e w2 ⟨rfl, hb2⟩
    have hw2 := Lib.hid (hw1.out.trans (hb2.mono hw1.out.size))
    have HAT2 : Hid (StepsAt w2 w2.heap.size A l) := HAT1.out.later hb2
    go_wp2_with fail
    refine (Right_any l A c w2 HAT2.out HSM.out false HR).mono ?_
    rintro e w3 ⟨rfl, hb3⟩
    go_wp2_with fail
    go_ret
    exact ⟨rfl, hw2.out.trans (hb3.mono hw2.out.size)⟩
end Go.Proofs.YtpfhdklbhhpbcaaDoor

/-
  Rows that come in as an argument: what a reading of them says of memory (the part that serves any row of structs).
-/
namespace Go.Proofs.YtpfhdklbhhpbcaaDoor
open Go.RowKit Go.ChangeShapes Go.WideShapes Go.Deep

theorem add_more (ad : Addr) (a j : Nat) (hj : j ≠ 0) : ad.add (a + j) = ⟨(ad.add a).block, (ad.add a).off + j, none⟩ := by
  rw [← add_of_add]
  generalize ad.add a = b
  unfold Addr.add
  rw [if_neg hj]

/-- A row of structs whose fields have a cell each: what a reading of it says of each element's each field. -/
theorem slice_structs {H : Type} {enc : TypeId × Value → H} {P : Program} {w : World} {t e : TypeId} {fs : Array Field} {fuel : Nat} {cs : List Value} {x : DataW H × List MemPlace} (ht : P.underlying t = some (.slice e)) (he : P.underlying e = some (.struct fs))
    (h1 : oneCellFields P fs = true) (h2 : P.cellsOf e = fs.size) (h : DataW.trod enc P w 0 (fun _ => true) true fuel t cs = some x) :
    (cs = [.slice none 0 0] ∧ x.1 = .nil) ∨
    ∃ (a : Addr) (len cap : Nat) (D : Nat → DataW H) (rest : List (DataW H)), cs = [.slice (some a) len cap] ∧ len ≤ cap ∧ cap ≤ maxLen ∧ x.1 = .slice ((List.range len).map D) rest ∧
      ∀ i, i < len → ∃ (ys : List (DataW H × List MemPlace)) (n : Nat), D i = .agg (ys.map (·.1)) ∧ ys.length = fs.size ∧
        ∀ (j : Nat) (f : Field), fs[j]? = some f → ∃ v y, w.cell? (a.add (i * fs.size + j)) = some v ∧ ys[j]? = some y ∧ DataW.trod enc P w 0 (fun _ => true) true n f.type [v] = some y := by
  rcases open_slice ht h with ⟨e1, e2⟩ | ⟨a, len, cap, m, n, D, Pl, e1, _, k1, k2, k3, e2, each⟩
  · exact .inl ⟨e1, by rw [e2]⟩
  · right
    have hm : m = cap := by simpa using k3
    refine ⟨a, len, cap, D, _, e1, k1, k2, by rw [e2], fun i hi => ?_⟩
    obtain ⟨row, hrow, hread⟩ := each i (by omega)
    obtain ⟨_, hl, hat⟩ := World.cells?_some hrow
    obtain ⟨ys, n', _, hy, _, hyl, hfield⟩ := DataW.trod_struct he hread
    refine ⟨ys, n', by rw [Prod.mk.injEq] at hy; exact hy.1, hyl, fun j f hj => ?_⟩
    have hjs : j < fs.size := (Array.getElem?_eq_some_iff.1 hj).1
    obtain ⟨o1, o2⟩ := hone_of h1 j f hj
    have hjr : j < row.length := by rw [hl, h2]; exact hjs
    have hv := hat j (by rw [h2]; exact hjs)
    have hone : (row.drop f.offset).take (P.cellsOf f.type) = [row[j]] := by rw [o1, o2, List.drop_eq_getElem_cons hjr]; rfl
    have hr := hfield j f hj
    rw [hone] at hr
    have hys : ys[j]? = some (ys[j]'(by omega)) := List.getElem?_eq_getElem _
    refine ⟨row[j], _, ?_, hys, hr.trans hys⟩
    rw [h2, add_of_add, List.getElem?_eq_getElem hjr] at hv
    exact hv

theorem list_of {α : Type} {P : Nat → α → Prop} : ∀ (n : Nat), (∀ i, i < n → ∃ x, P i x) → ∃ l : List α, l.length = n ∧ ∀ i x, l[i]? = some x → P i x
  | 0, _ => ⟨[], rfl, fun _ _ h => by simp at h⟩
  | n + 1, h => by
    obtain ⟨l, hl, hp⟩ := list_of n (fun i hi => h i (by omega))
    obtain ⟨x, hx⟩ := h n (by omega)
    refine ⟨l ++ [x], by simp [hl], fun i y hy => ?_⟩
    by_cases hi : i < l.length
    · rw [List.getElem?_append_left hi] at hy; exact hp i y hy
    · rw [List.getElem?_append_right (by omega)] at hy
      have : i - l.length = 0 := by
        have := (List.getElem?_eq_some_iff.1 hy).1
        simp at this; omega
      rw [this] at hy
      simp at hy; subst hy
      rw [show i = n by omega]; exact hx

theorem bulkAll_range {H : Type} (D : Nat → DataW H) : ∀ n i, i < n → Rows.uptoBulk (D i) ≤ Rows.uptoBulkAll ((List.range n).map D) := by
  have app : ∀ (a b : List (DataW H)), Rows.uptoBulkAll (a ++ b) = Rows.uptoBulkAll a + Rows.uptoBulkAll b := by
    intro a b
    induction a with
    | nil => simp [Rows.uptoBulkAll]
    | cons x a ih => simp only [List.cons_append, Rows.uptoBulkAll, ih]; omega
  intro n
  induction n with
  | zero => intro i h; omega
  | succ n ih =>
    intro i h
    rw [List.range_succ, List.map_append, app]
    by_cases hi : i < n
    · have := ih i hi; omega
    · have : i = n := by omega
      subst this
      simp [Rows.uptoBulkAll]
theorem bulkAll_sum {H α : Type} (f : α → Nat) (D : Nat → DataW H) : ∀ (l : List α), (∀ i x, l[i]? = some x → f x ≤ Rows.uptoBulk (D i)) → (l.map f).sum ≤ Rows.uptoBulkAll ((List.range l.length).map D) := by
  have app : ∀ (a b : List (DataW H)), Rows.uptoBulkAll (a ++ b) = Rows.uptoBulkAll a + Rows.uptoBulkAll b := by
    intro a b
    induction a with
    | nil => simp [Rows.uptoBulkAll]
    | cons x a ih => simp only [List.cons_append, Rows.uptoBulkAll, ih]; omega
  have key : ∀ (n : Nat) (l : List α), l.length = n → (∀ i x, l[i]? = some x → f x ≤ Rows.uptoBulk (D i)) → (l.map f).sum ≤ Rows.uptoBulkAll ((List.range n).map D) := by
    intro n
    induction n with
    | zero => intro l hl _; rw [List.eq_nil_of_length_eq_zero hl]; simp
    | succ n ih =>
      intro l hl h
      have hne : l ≠ [] := fun e => by rw [e] at hl; cases hl
      rw [← List.dropLast_concat_getLast hne, List.map_append, List.sum_append, List.range_succ, List.map_append, app]
      have h1 := ih l.dropLast (by simp [hl]) (fun i x hx => h i x (by
        have hi := (List.getElem?_eq_some_iff.1 hx).1
        rw [List.getElem?_dropLast] at hx
        split at hx
        · exact hx
        · cases hx))
      have h2 := h n (l.getLast hne) (by rw [List.getLast_eq_getElem, ← List.getElem?_eq_getElem, hl]; rfl)
      simp only [List.map_cons, List.map_nil, List.sum_cons, List.sum_nil, Rows.uptoBulkAll]
      omega
  intro l h
  exact key l.length l rfl h

theorem sum_ones {α : Type} (l : List α) : (l.map (fun _ => 1)).sum = l.length := by
  induction l with
  | nil => rfl
  | cons x l ih => rw [List.map_cons, List.sum_cons, ih, List.length_cons]; omega

end Go.Proofs.YtpfhdklbhhpbcaaDoor

/-
  Rows of steps that come in as an argument: what a reading of them says of memory.
-/
namespace Go.Proofs.YtpfhdklbhhpbcaaDoor
open Go.RowKit Go.ChangeShapes Go.WideShapes Go.Deep

def weightP (p : PredD) : Nat := p.name.length + p.value.length + 1
def weightS (s : StepD) : Nat := s.name.length + (s.preds.map weightP).sum + 1

theorem open_preds {W : World} {H : Type} {enc : TypeId × Value → H} {fuel : Nat} {cs : List Value} {x : DataW H × List MemPlace} (h : DataW.trod enc Tryd.prog W 0 (fun _ => true) true fuel 35 cs = some x) :
    ∃ (A : Option Addr) (c : Nat) (l : List PredD), cs = [.slice A l.length c] ∧ PredsAt W W.heap.size A l ∧ l.length ≤ c ∧ (l.map weightP).sum ≤ Rows.uptoBulk x.1 ∧ (∀ p ∈ l, p.num ≤ 9223372036854775807 ∧ -9223372036854775808 ≤ p.num ∧ p.kind ≤ 9223372036854775807 ∧ -9223372036854775808 ≤ p.kind) := by
  rcases slice_structs Tryd.underlying35 Tryd.underlying39 (by kernel_rfl) (by kernel_rfl) h with ⟨rfl, hx⟩ | ⟨a, len, cap, D, rest, rfl, hlc, hcm, hx, hf⟩
  · exact ⟨none, 0, [], rfl, fun h => absurd h (by simp), Nat.le_refl _, by simp, by simp⟩
  · rw [hx]
    obtain ⟨l, hl, hp⟩ := list_of (P := fun i (y : PredD) => (W.cell? (a.add (i * 4)) = some (.int .i64 y.kind) ∧ W.cell? ⟨(a.add (i * 4)).block, (a.add (i * 4)).off + 1, none⟩ = some (.int .i64 y.num) ∧
        W.cell? ⟨(a.add (i * 4)).block, (a.add (i * 4)).off + 2, none⟩ = some (.string ⟨y.name.toArray⟩) ∧ W.cell? ⟨(a.add (i * 4)).block, (a.add (i * 4)).off + 3, none⟩ = some (.string ⟨y.value.toArray⟩)) ∧
        weightP y ≤ Rows.uptoBulk (D i) ∧ (y.num ≤ 9223372036854775807 ∧ -9223372036854775808 ≤ y.num ∧ y.kind ≤ 9223372036854775807 ∧ -9223372036854775808 ≤ y.kind)) len (fun i hi => by
      obtain ⟨ys, n, hD, hyl, hj⟩ := hf i hi
      obtain ⟨v0, y0, hc0, hy0, ht0⟩ := hj 0 _ rfl
      obtain ⟨v1, y1, hc1, hy1, ht1⟩ := hj 1 _ rfl
      obtain ⟨v2, y2, hc2, hy2, ht2⟩ := hj 2 _ rfl
      obtain ⟨v3, y3, hc3, hy3, ht3⟩ := hj 3 _ rfl
      obtain ⟨n0, e0, rfl, w0⟩ := DataW.trod_int Tryd.underlying3 ht0
      obtain ⟨n1, e1, rfl, w1⟩ := DataW.trod_int Tryd.underlying3 ht1
      obtain ⟨s2, e2, rfl, _⟩ := DataW.trod_string Tryd.underlying9 ht2
      obtain ⟨s3, e3, rfl, _⟩ := DataW.trod_string Tryd.underlying9 ht3
      injection e0 with e0 _; subst e0
      injection e1 with e1 _; subst e1
      injection e2 with e2 _; subst e2
      injection e3 with e3 _; subst e3
      rw [add_more _ _ _ (by decide)] at hc1 hc2 hc3
      rw [Nat.add_zero] at hc0
      refine ⟨⟨n0, n1, s2.data.toList, s3.data.toList⟩, ⟨hc0, hc1, hc2, hc3⟩, ?_, ?_⟩
      · rw [hD]
        match ys, hyl, hy0, hy1, hy2, hy3 with
        | [z0, z1, z2, z3], _, hy0, hy1, hy2, hy3 =>
          simp at hy0 hy1 hy2 hy3
          subst hy0; subst hy1; subst hy2; subst hy3
          simp [Rows.uptoBulk, Rows.uptoBulkAll, weightP]
          omega
      · simp [Lit.wf, IntKind.min, IntKind.max, IntKind.signed, IntKind.bits] at w0 w1
        show n1 ≤ 9223372036854775807 ∧ -9223372036854775808 ≤ n1 ∧ n0 ≤ 9223372036854775807 ∧ -9223372036854775808 ≤ n0
        exact ⟨by omega, by omega, by omega, by omega⟩)
    refine ⟨some a, cap, l, by rw [hl], ?_, by omega, ?_, fun p hpm => ?_⟩
    · intro hpos
      have h0 : l[0]? = some (l[0]'hpos) := List.getElem?_eq_getElem hpos
      have hb := World.block_lt_of_cell? W _ (hp 0 _ h0).1.1
      rw [block_of_add] at hb
      exact ⟨a, rfl, hb, fun k y hy => (hp k y hy).1⟩
    · have := bulkAll_sum weightP D l (fun i y hy => (hp i y hy).2.1)
      rw [hl] at this
      simp only [Rows.uptoBulk]
      omega
    · obtain ⟨k, hk⟩ := List.mem_iff_getElem?.1 hpm
      exact (hp k p hk).2.2

theorem open_steps {W : World} {H : Type} {enc : TypeId × Value → H} {v : Value} {d : DataW H} {p : List MemPlace} (hok : ∃ a n c, v = .slice a n c) (h : DataW.Trod enc Tryd.prog W 0 (fun _ => true) true 22 v d p) :
    ∃ (A : Option Addr) (c : Nat) (l : List StepD), v = .slice A l.length c ∧ StepsAt W W.heap.size A l ∧ (l.map weightS).sum ≤ Rows.uptoBulk d ∧ (∀ s ∈ l, ∀ p ∈ s.preds, p.num ≤ 9223372036854775807) := by
  obtain ⟨va, vn, vc, rfl⟩ := hok
  obtain ⟨fuel, h⟩ := h
  rcases slice_structs Tryd.underlying22 Tryd.underlying37 (by kernel_rfl) (by kernel_rfl) h with ⟨e, e2⟩ | ⟨a, len, cap, D, rest, e, hlc, hcm, e2, hf⟩
  · injection e with e _
    injection e with e1 e2' e3
    subst e1; subst e2'; subst e3
    exact ⟨none, 0, [], rfl, fun h => absurd h (by simp), by simp, by simp⟩
  · injection e with e _
    injection e with e1 e2' e3
    subst e1
    have e2'' := e2'.symm
    have e3'' := e3.symm
    subst e2''; subst e3''
    have e2 : d = .slice ((List.range len).map D) rest := e2
    subst e2
    obtain ⟨l, hl, hp⟩ := list_of (P := fun i (s : StepD) => (∃ A' c, PredsAt W W.heap.size A' s.preds ∧ s.preds.length ≤ c ∧
        W.cell? (a.add (i * 4)) = some (.int .i64 s.axis) ∧ W.cell? ⟨(a.add (i * 4)).block, (a.add (i * 4)).off + 1, none⟩ = some (.int .i64 s.test) ∧
        W.cell? ⟨(a.add (i * 4)).block, (a.add (i * 4)).off + 2, none⟩ = some (.string ⟨s.name.toArray⟩) ∧ W.cell? ⟨(a.add (i * 4)).block, (a.add (i * 4)).off + 3, none⟩ = some (.slice A' s.preds.length c)) ∧
        weightS s ≤ Rows.uptoBulk (D i) ∧ ∀ p ∈ s.preds, p.num ≤ 9223372036854775807) len (fun i hi => by
      obtain ⟨ys, n, hD, hyl, hj⟩ := hf i hi
      obtain ⟨v0, y0, hc0, hy0, ht0⟩ := hj 0 _ rfl
      obtain ⟨v1, y1, hc1, hy1, ht1⟩ := hj 1 _ rfl
      obtain ⟨v2, y2, hc2, hy2, ht2⟩ := hj 2 _ rfl
      obtain ⟨v3, y3, hc3, hy3, ht3⟩ := hj 3 _ rfl
      obtain ⟨n0, e0, rfl, w0⟩ := DataW.trod_int Tryd.underlying3 ht0
      obtain ⟨n1, e1, rfl, w1⟩ := DataW.trod_int Tryd.underlying3 ht1
      obtain ⟨s2, e2, rfl, _⟩ := DataW.trod_string Tryd.underlying9 ht2
      obtain ⟨A', c', la, e3, hat, hlc', hb1, hb2⟩ := open_preds ht3
      injection e0 with e0 _; subst e0
      injection e1 with e1 _; subst e1
      injection e2 with e2 _; subst e2
      injection e3 with e3 _; subst e3
      rw [add_more _ _ _ (by decide)] at hc1 hc2 hc3
      rw [Nat.add_zero] at hc0
      refine ⟨⟨n0, n1, s2.data.toList, la⟩, ⟨A', c', hat, hlc', hc0, hc1, hc2, hc3⟩, ?_, fun p hp => (hb2 p hp).1⟩
      rw [hD]
      match ys, hyl, hy0, hy1, hy2, hy3 with
      | [z0, z1, z2, z3], _, hy0, hy1, hy2, hy3 =>
        simp at hy0 hy1 hy2 hy3
        subst hy0; subst hy1; subst hy2; subst hy3
        simp [Rows.uptoBulk, Rows.uptoBulkAll, weightS]
        omega)
    refine ⟨some a, cap, l, by rw [hl], ?_, ?_, fun s hs => ?_⟩
    · intro hpos
      have h0 : l[0]? = some (l[0]'hpos) := List.getElem?_eq_getElem hpos
      obtain ⟨⟨_, _, _, _, hc0, _⟩, _⟩ := hp 0 _ h0
      have hb := World.block_lt_of_cell? W _ hc0
      rw [block_of_add] at hb
      exact ⟨a, rfl, hb, fun k s hs => (hp k s hs).1⟩
    · have := bulkAll_sum weightS D l (fun i y hy => (hp i y hy).2.1)
      rw [hl] at this
      simp only [Rows.uptoBulk]
      omega
    · obtain ⟨k, hk⟩ := List.mem_iff_getElem?.1 hs
      exact (hp k s hk).2.2

theorem sum_mem {α : Type} (f : α → Nat) : ∀ (l : List α) (x : α), x ∈ l → f x ≤ (l.map f).sum
  | [], _, h => by cases h
  | y :: l, x, h => by
    rw [List.map_cons, List.sum_cons]
    rcases List.mem_cons.1 h with rfl | h
    · omega
    · have := sum_mem f l x h; omega
theorem sum_len {α : Type} (f : α → Nat) (hf : ∀ x, 1 ≤ f x) : ∀ (l : List α), l.length ≤ (l.map f).sum
  | [] => by simp
  | y :: l => by
    rw [List.map_cons, List.sum_cons, List.length_cons]
    have := sum_len f hf l
    have := hf y
    omega
theorem flat_sum {α : Type} (f : α → List UInt8) (g : α → Nat) (N : Nat) : ∀ (l : List α), (∀ x ∈ l, (f x).length ≤ N * g x) → (l.flatMap f).length ≤ N * (l.map g).sum
  | [], _ => by simp
  | y :: l, h => by
    rw [List.flatMap_cons, List.length_append, List.map_cons, List.sum_cons, Nat.mul_add]
    have := flat_sum f g N l (fun x hx => h x (List.mem_cons_of_mem _ hx))
    have := h y List.mem_cons_self
    omega
theorem ndig_pow : ∀ (k n : Nat), n < 10 ^ (k + 1) → Lib.nDigits n ≤ k + 1
  | 0, n, h => by rw [Lib.nDigits]; split <;> omega
  | k + 1, n, h => by
    rw [Lib.nDigits]
    split
    · omega
    · have := ndig_pow k (n / 10) (by rw [Nat.pow_succ] at h; omega)
      omega
theorem axisT_len (k : Nat) : (axisT k).length ≤ 100 := by
  match k with
  | 0 => decide
  | 1 => decide
  | 2 => decide
  | 3 => decide
  | 4 => decide
  | 5 => decide
  | 6 => decide
  | 7 => decide
  | 8 => decide
  | n + 9 => exact Nat.zero_le _
theorem testT_len (k : Int) : (testT k).length ≤ 100 := by
  unfold testT
  split <;> decide
theorem predT_len (p : PredD) (h : p.num ≤ 9223372036854775807) : (predT p).length ≤ 60 * weightP p := by
  have h3 : (escV p.value).length ≤ 6 * p.value.length := esc_fit true p.value
  unfold predT weightP
  split
  · have h4 := ndig_pow 19 p.num.toNat (by omega)
    rw [← Lib.decDigits_length] at h4
    simp only [List.length_append, List.length_singleton]; omega
  split
  · simp only [List.length_append, List.length_cons, List.length_nil, tLast]; omega
  split
  · simp only [List.length_append, List.length_cons, List.length_nil]; omega
  split
  · simp only [List.length_append, List.length_cons, List.length_nil]; omega
  · simp only [List.length_append, List.length_cons, List.length_nil, tText]; omega
theorem stepT_len (s : StepD) (h : ∀ p ∈ s.preds, p.num ≤ 9223372036854775807) : (stepT s).length ≤ 300 * weightS s := by
  have h1 := flat_sum predT weightP 60 s.preds (fun p hp => predT_len p (h p hp))
  have h2 := axisT_len s.axis.toNat
  have h3 := testT_len s.test
  unfold stepT weightS
  simp only [List.length_append, List.length_singleton]
  omega
/-- What is not too much in bulk is small. -/
theorem steps_small {l : List StepD} (h : (l.map weightS).sum ≤ 1048576) (hn : ∀ s ∈ l, ∀ p ∈ s.preds, p.num ≤ 9223372036854775807) : SmallSteps l ∧ fitQ l := by
  have h1 := sum_len weightS (fun x => by unfold weightS; omega) l
  refine ⟨⟨by omega, fun s hs => ?_⟩, ?_⟩
  · have h2 := sum_mem weightS l s hs
    have h3 := sum_len weightP (fun x => by unfold weightP; omega) s.preds
    have h2b : weightS s = s.name.length + (s.preds.map weightP).sum + 1 := rfl
    refine ⟨by omega, by omega, fun p hp => ?_⟩
    have h4 := sum_mem weightP s.preds p hp
    have h5 : weightP p = p.name.length + p.value.length + 1 := rfl
    exact ⟨by omega, by omega⟩
  · have h5 := flat_sum stepT weightS 300 l (fun s hs => stepT_len s (hn s hs))
    unfold fitQ
    show (l.flatMap stepT).length ≤ _
    omega
end Go.Proofs.YtpfhdklbhhpbcaaDoor

/-
  The law PathqJoins walked.
-/
namespace Go.Proofs.YtpfhdklbhhpbcaaDoor
open Go.RowKit

/-- a whole row behind a row of the call's own -/
theorem appendRow {P : Program} {w : World} {o : Oper} {a : Act} {K : Act → World → Prop} {Q : Exit → Act → World → Prop} (s x : Operand) (t : TypeId)
    (ho : o.op = .call { callee := .builtin .append, args := #[s, x], argTypes := #[t, t] })
    (B : Nat) (e : TypeId) (z : Value) (size bytes : Nat) (ht : P.underlying t = some (.slice e)) (hi : (P.info? e).map (fun i => (i.zero, i.size, i.bytes)) = some (some z, size, bytes))
    (hzs : z.cells.size = size) (hsz : 0 < size)
    (v : Value) (n : Nat) (xs : List Value) (hs : a.eval s = v) (hown : w.ownsRow B e size v n xs) (hB : B ≤ w.heap.size)
    (X m c : Nat) (news : List Value) (hx : a.eval x = .slice (some ⟨X, 0, none⟩) m c) (hnl : news.length = m * size) (hc : ∀ j u, news[j]? = some u → w.cell? ⟨X, j, none⟩ = some u) (hu : ∀ u ∈ news, u.oneCell' = true) (hn : n < 100000) (hm0 : 0 < m) (hm : m < 100000) (hby : bytes ≤ 10000)
    (h : ∀ g c' w', w'.ownsRow B e size (.slice (some ⟨g, 0, none⟩) (n + m) c') (n + m) (xs ++ news) → Below B w w' → w.grownBy w' v.ownBlock → K (a.put o.dst (.slice (some ⟨g, 0, none⟩) (n + m) c')) w') :
    o.wp P a w K Q := by
  obtain ⟨i0, hi0, hz0, hz1, hz2⟩ := info_parts hi
  obtain ⟨v', w', hrun, hown', hg, _⟩ := run_append_own (P := P) w B t o.type e i0 z size bytes ht hi0 hz0 hz1 hz2 hzs hsz v n xs hown ⟨X, 0, none⟩ m c news hnl (fun j u hj => by rw [add_zero_block]; exact hc j u hj) hu (by unfold maxLen; omega) (by
    have : (n + m) * bytes ≤ 200000 * 10000 := Nat.mul_le_mul (by omega) hby
    omega) hB
  obtain ⟨g, c', rfl⟩ : ∃ g c', v' = .slice (some ⟨g, 0, none⟩) (n + m) c' := by
    rcases hown'.2 with ⟨_, h0⟩ | ⟨g, c, cur, hv, _⟩
    · omega
    · exact ⟨g, c, hv⟩
  have hK := h g c' w' hown' ((Below.refl B w).grown hg hB (fun k hk => (hown.lt k hk).1)) hg
  unfold Oper.wp
  simp [execOp, ho, resolve, invoke, builtin, hs, hx, hrun, Result.andThen]
  exact hK

theorem appendRowL {P : Program} {w : World} {ops : Array Oper} {rest : List Oper} {o : Oper} {a : Act} {Q : Exit → Act → World → Prop} (s x : Operand) (t : TypeId)
    (ho : o.op = .call { callee := .builtin .append, args := #[s, x], argTypes := #[t, t] }) (hw : Region.wanted o (yielded ops a.tmps) = true)
    (B : Nat) (e : TypeId) (z : Value) (size bytes : Nat) (ht : P.underlying t = some (.slice e)) (hi : (P.info? e).map (fun i => (i.zero, i.size, i.bytes)) = some (some z, size, bytes))
    (hzs : z.cells.size = size) (hsz : 0 < size)
    (v : Value) (n : Nat) (xs : List Value) (hs : a.eval s = v) (hown : w.ownsRow B e size v n xs) (hB : B ≤ w.heap.size)
    (X m c : Nat) (news : List Value) (hx : a.eval x = .slice (some ⟨X, 0, none⟩) m c) (hnl : news.length = m * size) (hc : ∀ j u, news[j]? = some u → w.cell? ⟨X, j, none⟩ = some u) (hu : ∀ u ∈ news, u.oneCell' = true) (hn : n < 100000) (hm0 : 0 < m) (hm : m < 100000) (hby : bytes ≤ 10000)
    (h : ∀ g c' w', w'.ownsRow B e size (.slice (some ⟨g, 0, none⟩) (n + m) c') (n + m) (xs ++ news) → Below B w w' → w.grownBy w' v.ownBlock → wpList P ops Q rest (a.put o.dst (.slice (some ⟨g, 0, none⟩) (n + m) c')) w') :
    wpList P ops Q (o :: rest) a w :=
  Go.BigFrame.wpList_want hw fun _ hK => appendRow s x t ho B e z size bytes ht hi hzs hsz v n xs hs hown hB X m c news hx hnl hc hu hn hm0 hm hby fun g c' w' h1 h2 h3 => hK _ _ (h g c' w' h1 h2 h3)

theorem own_empty (w : World) (e : TypeId) (size B : Nat) (hB : B ≤ w.heap.size) : (w.alloc (.cells #[] e)).ownsRow B e size (.slice (some ⟨w.heap.size, 0, none⟩) 0 0) 0 [] :=
  ⟨by simp, .inr ⟨w.heap.size, 0, #[], rfl, hB, heap_alloc_new w _, by simp, by simp, by simp⟩⟩
theorem flat_one (S : List QSlot) : ∀ u ∈ S.flatMap cellsS, u.oneCell' = true := fun u hu => by
  obtain ⟨x, _, hx⟩ := List.mem_flatMap.1 hu
  exact cellsS_one x u hx

set_option maxRecDepth 100000 in
set_option maxHeartbeats 4000000 in
theorem walk_PathqJoins (s t : ByteArray) (w : World) (hs : s.size ≤ maxLen) (ht : t.size ≤ maxLen) (htab : Tab w) : Calls Tryd.prog 6 #[.string s, .string t] w (Ret w (.bool true)) := by
  have HTAB := Lib.hid htab
  clear htab
  obtain ⟨la, ka, ca, hRa⟩ : ∃ la ka ca, Hid (queryL s.data.toList = (la, ka, ca)) := ⟨_, _, _, rfl⟩
  obtain ⟨lb, kb, cb, hRb⟩ : ∃ lb kb cb, Hid (queryL t.data.toList = (lb, kb, cb)) := ⟨_, _, _, rfl⟩
  unfold maxLen at hs ht
  go_enter Tryd.func6, Tryd.ntmps6
  go_wp2_with fail
  refine (Parse_any s w (by unfold maxLen; omega) (la, ka, ca) hRa).mono ?_
  rintro e w1 ⟨hb1, hp1⟩
  have hbW1 := Lib.hid hb1
  rcases hp1 with ⟨ha0, A, cA, S, rfl, hsA, hspA, hmA⟩ | ⟨ha0, rfl⟩
  · go_wp2_with fail
    refine (Parse_any t w1 (by unfold maxLen; omega) (lb, kb, cb) hRb).mono ?_
    rintro e w2 ⟨hb2, hp2⟩
    have hbW2 := Lib.hid (hbW1.out.trans (hb2.mono hbW1.out.size))
    rcases hp2 with ⟨hb0, B, cB, T, rfl, hsB, hspB, hmB⟩ | ⟨hb0, rfl⟩
    · by_cases hlen : s.size + t.size ≤ 200
      · have hlen' : (s.size : Int) ≤ 200 - t.size := by omega
        have ha0' : (queryL s.data.toList).2.2 = 0 := by rw [hRa.out]; exact ha0
        have hb0' : (queryL t.data.toList).2.2 = 0 := by rw [hRb.out]; exact hb0
        have hj := query_joins ha0' hb0' (by rw [size_toList, size_toList]; exact hlen)
        rw [hRa.out, hRb.out] at hj
        have hra := (query_right ha0').1
        have hrb := (query_right hb0').1
        rw [hRa.out] at hra
        rw [hRb.out] at hrb
        simp only at hj hra hrb
        have hmA' : S.map (·.1) = la := hmA
        have hmB' : T.map (·.1) = lb := hmB
        have hlA : S.length = la.length := by rw [← hmA', List.length_map]
        have hlB : T.length = lb.length := by rw [← hmB', List.length_map]
        have hlAh := Lib.hid hlA
        have hlBh := Lib.hid hlB
        rw [← hlA, ← hlB] at hj
        unfold rightL at hra hrb
        simp only [Bool.and_eq_true, decide_eq_true_eq] at hra hrb
        obtain ⟨_, hA1, hA2⟩ := hra
        obtain ⟨_, hB1, hB2⟩ := hrb
        rw [← hlA] at hA1 hA2
        rw [← hlB] at hB1 hB2
        have hcat : (s ++ t).data.toList = s.data.toList ++ t.data.toList := by simp
        obtain ⟨R, hR⟩ : ∃ R, Hid (queryL (s ++ t).data.toList = R) := ⟨_, rfl⟩
        rw [← hcat, hR.out] at hj
        obtain ⟨hj1, hj2⟩ := hj
        have HJ1 := Lib.hid hj1
        have HJ2 := Lib.hid hj2
        have hm := Lib.hid (show S.map (·.1) ++ T.map (·.1) = la ++ lb by rw [hmA', hmB'])
        have HsA := Lib.hid hsA
        have HsB := Lib.hid hsB
        have HpA := Lib.hid hspA
        have HpB := Lib.hid hspB
        have fsz : s.size + t.size ≤ maxLen := by unfold maxLen; omega
        clear hj1 hj2 hmA hmB hmA' hmB' hsA hsB hspA hspB ha0' hb0' hcat ha0 hb0
        go_wp2_with fail
        refine (Parse_uni (s ++ t) w2 (by rw [ByteArray.size_append]; exact fsz) R hR).mono ?_
        rintro e w3 ⟨hb3, N, cN, rfl, hatN, hsmN, hN⟩
        have hbW3 := Lib.hid (hbW2.out.trans (hb3.mono hbW2.out.size))
        obtain ⟨lr, kr, cr⟩ := R
        by_cases hlen20 : 20 < S.length + T.length
        · have e70 : cr = 70 := HJ1.out hlen20
          subst e70
          have hlen20' : (20 : Int) < (S.length : Int) + T.length := by omega
          clear hN
          go_wp2_with fail
          refine (alive7_any w3 (HTAB.out.keep hbW3.out)).mono ?_
          rintro e w4 ⟨rfl, hb4⟩
          go_wp2_with fail
          go_ret
          exact ⟨rfl, hbW3.out.trans (hb4.mono hbW3.out.size)⟩
        · have e0 := HJ2.out (by omega)
          injection e0 with e1 e2
          injection e2 with e2 e3
          subst e1; subst e2; subst e3
          have hlen20' : (S.length : Int) + T.length ≤ 20 := by omega
          have HAN : Hid (StepsAt w3 w3.heap.size N (la ++ lb)) := hatN
          have HSN : Hid (SmallSteps (la ++ lb)) := hsmN
          clear hN hatN hsmN hlen20
          go_wp2_with fail
          refine (alive7_any w3 (HTAB.out.keep hbW3.out)).mono ?_
          rintro e w4 ⟨rfl, hb4⟩
          have hbW4 := Lib.hid (hbW3.out.trans (hb4.mono hbW3.out.size))
          obtain ⟨gA, rfl, _, hgA, _, _⟩ := own_flat cellsS cellsS_length HsA.out hA1
          obtain ⟨gB, rfl, _, hgB, _, _⟩ := own_flat cellsS cellsS_length HsB.out hB1
          have h14 : Below w1.heap.size w1 w4 := (hb2.trans (hb3.mono hb2.size)).trans (hb4.mono (Nat.le_trans hb2.size hb3.size))
          have h24 : Below w2.heap.size w2 w4 := hb3.trans (hb4.mono hb3.size)
          have OA : Hid (StepsOwn w4 w.heap.size (some ⟨gA, 0, none⟩) cA S) := row_keep HsA.out h14
          have OB : Hid (StepsOwn w4 w.heap.size (some ⟨gB, 0, none⟩) cB T) := Joins.ownsRow_le (row_keep HsB.out h24) hbW1.out.size
          have PA : Hid (SPreds w4 w.heap.size S) := fun x hx => row_keep (HpA.out x hx) h14
          have PB : Hid (SPreds w4 w.heap.size T) := fun x hx => Joins.ownsRow_le (row_keep (HpB.out x hx) h24) hbW1.out.size
          obtain ⟨W5, hW5⟩ : ∃ W5, Hid (W5 = w4.alloc (.cells #[] 37)) := ⟨_, rfl⟩
          have hb5 : Below w4.heap.size w4 W5 := by rw [hW5.out]; exact (Below.refl _ w4).alloc (Nat.le_refl _) _
          have O5 : Hid (W5.ownsRow w4.heap.size 37 4 (.slice (some ⟨w4.heap.size, 0, none⟩) 0 0) 0 []) := by
            show World.ownsRow _ _ _ _ _ _ _; rw [hW5.out]; exact own_empty _ _ _ _ (Nat.le_refl _)
          have OA5 : Hid (StepsOwn W5 w.heap.size (some ⟨gA, 0, none⟩) cA S) := row_keep OA.out hb5
          have OB5 : Hid (StepsOwn W5 w.heap.size (some ⟨gB, 0, none⟩) cB T) := row_keep OB.out hb5
          have PA5 : Hid (SPreds W5 w.heap.size S) := fun x hx => row_keep (PA.out x hx) hb5
          have PB5 : Hid (SPreds W5 w.heap.size T) := fun x hx => row_keep (PB.out x hx) hb5
          have hbW5 := Lib.hid (hbW4.out.trans (hb5.mono hbW4.out.size))
          have HA1 := Lib.hid hA1
          have HB1 := Lib.hid hB1
          have HA2 := Lib.hid hA2
          have HB2 := Lib.hid hB2
          have hne : w4.heap.size ≠ gB := by
            have := (Nat.lt_of_lt_of_le hgB h24.size); omega
          have HNE := Lib.hid hne
          have hgA' : Hid (gA < w4.heap.size) := Nat.lt_of_lt_of_le hgA h14.size
          have hgB' : Hid (gB < w4.heap.size) := Nat.lt_of_lt_of_le hgB h24.size
          clear h14 h24 hA1 hB1 hA2 hB2 hne hlA hlB
          rw [← hlAh.out, ← hlBh.out]
          have HB5 := Lib.hid hb5
          clear hb5
          go_wp2_with (refine appendRowL (.tmp 67) (.tmp 68) 22 rfl rfl w4.heap.size 37 (.agg #[.int .i64 0, .int .i64 0, .string ByteArray.empty, .slice none 0 0]) 4 56 Tryd.underlying22 infoStep rfl (by decide) _ 0 [] rfl (by rw [← hW5.out]; exact O5.out) (by rw [← hW5.out]; exact HB5.out.size) gA S.length cA (S.flatMap cellsS) rfl (flat_length cellsS 4 cellsS_length S) (by rw [← hW5.out]; exact fun j u hu => own_cell OA5.out j u hu) (flat_one S) (by decide) HA1.out (Nat.lt_of_le_of_lt HA2.out (by decide)) (by decide) ?_)
          intro g6 c6 w6 hO6 hb6 _
          rw [← hW5.out] at hb6
          have O6 : Hid (w6.ownsRow w4.heap.size 37 4 (.slice (some ⟨g6, 0, none⟩) S.length c6) S.length (S.flatMap cellsS)) := by
            show World.ownsRow _ _ _ _ _ _ _
            simpa using hO6
          have HB6 := Lib.hid (HB5.out.trans hb6)
          have OB6 : Hid (StepsOwn w6 w.heap.size (some ⟨gB, 0, none⟩) cB T) := row_keep OB.out HB6.out
          clear hO6 hb6
          go_wp2_with (refine appendRowL (.tmp 69) (.tmp 70) 22 rfl rfl w4.heap.size 37 (.agg #[.int .i64 0, .int .i64 0, .string ByteArray.empty, .slice none 0 0]) 4 56 Tryd.underlying22 infoStep rfl (by decide) _ S.length (S.flatMap cellsS) rfl O6.out HB6.out.size gB T.length cB (T.flatMap cellsS) rfl (flat_length cellsS 4 cellsS_length T) (fun j u hu => own_cell OB6.out j u hu) (flat_one T) (Nat.lt_of_le_of_lt HA2.out (by decide)) HB1.out (Nat.lt_of_le_of_lt HB2.out (by decide)) (by decide) ?_)
          intro g7 c7 w7 hO7 hb7 _
          have HB7 := Lib.hid (HB6.out.trans hb7)
          have hAt : StepsAt w7 w7.heap.size (some ⟨g7, 0, none⟩) ((S ++ T).map (·.1)) := StepsOwn.at (B := w.heap.size) (c := c7) (by
              show World.ownsRow _ _ _ _ _ _ _
              rw [List.length_append, List.flatMap_append]
              exact Joins.ownsRow_le hO7 hbW4.out.size) (fun x hx => by
              rcases List.mem_append.1 hx with hx | hx
              · exact row_keep (PA.out x hx) HB7.out
              · exact row_keep (PB.out x hx) HB7.out)
          rw [List.map_append, hm.out] at hAt
          have HAT := Lib.hid hAt
          have HLN : Hid (S.length + T.length = (la ++ lb).length) := by show _ = _; rw [← hm.out]; simp
          have HAN7 : Hid (StepsAt w7 w7.heap.size N (la ++ lb)) := HAN.out.later (hb4.trans (HB7.out.mono hb4.size))
          clear hO7 hb7 hAt
          go_wp2_with fail
          rw [HLN.out]
          refine (Same7_any (la ++ lb) (la ++ lb) N (some ⟨g7, 0, none⟩) cN c7 w7 HAN7.out HAT.out HSN.out HSN.out true (by show _ = _; simp)).mono ?_
          rintro e w8 ⟨rfl, hb8⟩
          go_wp2_with fail
          go_ret
          exact ⟨rfl, (hbW4.out.trans (HB7.out.mono hbW4.out.size)).trans (hb8.mono ((hbW4.out.trans (HB7.out.mono hbW4.out.size)).size))⟩
      · have hlen' : (200 : Int) - t.size < s.size := by omega
        clear ha0 hb0
        go_wp2_with fail
        refine (alive7_any w2 (HTAB.out.keep hbW2.out)).mono ?_
        rintro e w3 ⟨rfl, hb3⟩
        go_wp2_with fail
        go_ret
        exact ⟨rfl, hbW2.out.trans (hb3.mono hbW2.out.size)⟩
    · have fb : (cb != 0) = true := by simpa using hb0
      clear ha0 hb0
      go_wp2_with fail
      refine (alive7_any w2 (HTAB.out.keep hbW2.out)).mono ?_
      rintro e w3 ⟨rfl, hb3⟩
      go_wp2_with fail
      go_ret
      exact ⟨rfl, hbW2.out.trans (hb3.mono hbW2.out.size)⟩
  · have fa : (ca != 0) = true := by simpa using ha0
    clear ha0
    go_wp2_with fail
    refine (Parse_any t w1 (by unfold maxLen; omega) (lb, kb, cb) hRb).mono ?_
    rintro e w2 ⟨hb2, hp2⟩
    have hbW2 := Lib.hid (hbW1.out.trans (hb2.mono hbW1.out.size))
    rcases hp2 with ⟨hb0, B, cB, T, rfl, hsB, hspB, hmB⟩ | ⟨hb0, rfl⟩
    · clear hb0
      go_wp2_with fail
      refine (alive7_any w2 (HTAB.out.keep hbW2.out)).mono ?_
      rintro e w3 ⟨rfl, hb3⟩
      go_wp2_with fail
      go_ret
      exact ⟨rfl, hbW2.out.trans (hb3.mono hbW2.out.size)⟩
    · clear hb0
      go_wp2_with fail
      refine (alive7_any w2 (HTAB.out.keep hbW2.out)).mono ?_
      rintro e w3 ⟨rfl, hb3⟩
      go_wp2_with fail
      go_ret
      exact ⟨rfl, hbW2.out.trans (hb3.mono hbW2.out.size)⟩
end Go.Proofs.YtpfhdklbhhpbcaaDoor
