/-
  The plain law of sizes: a document that was checked is printed in not many bytes. No program in sight.
-/
import Derived.Test.YthifddkmbjnncaaDocPlain
namespace Go.Proofs.Ythifddkmbjnncaa

theorem charsF_le (f : Nat) : ∀ (l : List UInt8) (cs : List Int), charsF f l = some cs → cs.length ≤ l.length := by
  induction f with
  | zero =>
    intro l cs h
    unfold charsF at h
    split at h
    · injection h with h; subst h; simp
    · cases h
  | succ f ih =>
    intro l cs h
    unfold charsF at h
    split at h
    · injection h with h; subst h; simp
    · rename_i hl
      split at h
      · cases h
      · rename_i hn
        obtain ⟨ds, hd, rfl⟩ := Option.map_eq_some_iff.1 h
        have := ih _ _ hd
        have hp : 0 < l.length := List.length_pos_iff.2 hl
        rw [List.length_drop] at this
        rw [List.length_cons]; omega
theorem esc_fit (v : Bool) (l : List UInt8) : ((escL v l).getD []).length ≤ 6 * l.length := by
  unfold escL
  cases hc : charsL l with
  | none => simp
  | some cs =>
    have hl := charsF_le _ _ _ hc
    show (cs.flatMap (writtenL v)).length ≤ _
    have : ∀ cs : List Int, (cs.flatMap (writtenL v)).length ≤ 6 * cs.length := by
      intro cs
      induction cs with
      | nil => simp
      | cons c cs ih =>
        have h1 := writtenL_len v c
        simp only [List.flatMap_cons, List.length_append, List.length_cons]
        omega
    have := this cs
    omega

/-! What was checked is not long. -/
structure Fit (x : ItemD) : Prop where
  name : x.name.length ≤ 60
  attrs : x.attrs.length ≤ 20
  each : ∀ a ∈ x.attrs, a.name.length ≤ 60 ∧ a.value.length ≤ 1500
theorem nameL_len {l : List UInt8} (h : nameL l = true) : l.length ≤ 60 := by
  unfold nameL at h
  split at h
  · simp only [Bool.and_eq_true, decide_eq_true_eq] at h; exact h.1
  · cases h
theorem charsE_len {l : List UInt8} (h : charsE l = 0) : l.length ≤ 1500 := by
  unfold charsE at h
  split at h
  · omega
  · split at h
    · omega
    · omega
theorem attrNames_mem : ∀ (l : List AttrD) (last : List UInt8), attrNames last l = true → ∀ a ∈ l, a.name.length ≤ 60
  | [], _, _, _, h => by cases h
  | b :: l, last, h, a, ha => by
    simp only [attrNames, Bool.and_eq_true] at h
    rcases List.mem_cons.1 ha with rfl | ha
    · exact nameL_len h.1.1
    · exact attrNames_mem l b.name h.2 a ha
theorem valuesE_mem : ∀ (l : List AttrD), valuesE l = 0 → ∀ a ∈ l, a.value.length ≤ 1500
  | [], _, _, h => by cases h
  | b :: l, h, a, ha => by
    unfold valuesE at h
    by_cases h0 : charsE b.value = 0
    · rw [if_pos h0] at h
      rcases List.mem_cons.1 ha with rfl | ha
      · exact charsE_len h0
      · exact valuesE_mem l h a ha
    · rw [if_neg h0] at h; exact absurd h h0
theorem parts_fit {x : ItemD} (h : partsE x = 0) : Fit x ∧ x.text.length ≤ 1500 := by
  unfold partsE at h
  split at h
  · rename_i h1
    refine ⟨⟨by rw [h1.2.1]; simp, by rw [h1.2.2]; simp, by rw [h1.2.2]; simp⟩, charsE_len h⟩
  · split at h
    · omega
    · rename_i h2
      have ht : x.text = [] := Decidable.of_not_not fun h => h2 (.inr h)
      by_cases h3 : namesE x = 0
      · rw [if_pos h3] at h
        unfold namesE at h3
        by_cases h4 : (nameL x.name && attrNames [] x.attrs) = true
        · rw [if_pos h4] at h3
          simp only [Bool.and_eq_true] at h4
          refine ⟨⟨nameL_len h4.1, ?_, fun a ha => ⟨attrNames_mem _ _ h4.2 a ha, valuesE_mem _ h a ha⟩⟩, by rw [ht]; simp⟩
          by_cases h5 : 20 < x.attrs.length
          · rw [if_pos h5] at h3; cases h3
          · omega
        · rw [if_neg h4] at h3; cases h3
      · rw [if_neg h3] at h; exact absurd h h3
theorem attrs_fit : ∀ (l : List AttrD), (∀ a ∈ l, a.name.length ≤ 60 ∧ a.value.length ≤ 1500) → (l.flatMap attrT).length ≤ l.length * 9064
  | [], _ => by simp
  | a :: l, h => by
    have h1 := h a (by simp)
    have h2 := attrs_fit l (fun b hb => h b (by simp [hb]))
    have h3 : (escV a.value).length ≤ 6 * a.value.length := esc_fit true a.value
    simp only [List.flatMap_cons, List.length_append, List.length_cons, attrT]
    have e1 : ([] : List UInt8).length = 0 := rfl
    omega
theorem tag_fit {x : ItemD} (h : Fit x) : (tagL x).length ≤ 181341 := by
  have h1 := attrs_fit x.attrs h.each
  have h2 := h.attrs
  have h3 := h.name
  unfold tagL
  simp only [List.length_append, List.length_cons, List.length_nil]
  omega

/-- what an item costs -/
def cost (x : ItemD) : Nat := 6 * x.text.length + (tagL x).length + x.name.length + 6
theorem node_cost (x : ItemD) (k : List ItemD) (i : List UInt8) : (nodeL x k i).length ≤ cost x + i.length := by
  have := esc_fit false x.text
  unfold nodeL cost
  split
  · show (escT x.text).length ≤ _
    unfold escT; omega
  · split
    · simp; omega
    · simp; omega
theorem pr_cost : ∀ (n : Nat) (l : List ItemD), l.length ≤ n → (pr l).length ≤ (l.map cost).sum := by
  intro n
  induction n with
  | zero => intro l h; rw [List.eq_nil_of_length_eq_zero (by omega : l.length = 0), pr_nil]; simp
  | succ n ih =>
    intro l h
    cases l with
    | nil => rw [pr_nil]; simp
    | cons x r =>
      have hk := kidsOf_le x.level r
      have hp := pastOf_le x.level r
      simp at h
      have h1 := node_cost x (kidsOf x.level r) (pr (kidsOf x.level r))
      have h2 := ih (kidsOf x.level r) (by omega)
      have h3 := ih (pastOf x.level r) (by omega)
      have h4 := congrArg (fun l : List ItemD => (l.map cost).sum) (kids_past x.level r)
      simp only [List.map_append, List.sum_append] at h4
      rw [pr_cons, List.length_append, List.map_cons, List.sum_cons]
      omega

theorem textSum_set : ∀ (l : List ItemD) (i : Nat) (p q : ItemD), l[i]? = some p → textSum (l.set i q) + p.text.length = textSum l + q.text.length
  | [], _, _, _, h => by simp at h
  | x :: l, 0, p, q, h => by
    simp at h; subst h
    simp [textSum]; omega
  | x :: l, i + 1, p, q, h => by
    have := textSum_set l i p q (by simpa using h)
    simp only [textSum, List.set_cons_succ, List.map_cons, List.sum_cons] at this ⊢
    omega
theorem textSum_step (out : List ItemD) (x : ItemD) : textSum (nstep out x) ≤ textSum out + x.text.length := by
  unfold nstep
  split
  · omega
  · split
    · rw [textSum_snoc]
      exact Nat.le_refl _
    · rename_i p hp
      split
      · have := textSum_set out _ p { p with text := p.text ++ x.text } hp
        simp at this; omega
      · rw [textSum_snoc]
        exact Nat.le_refl _
theorem textSum_fold : ∀ (l out : List ItemD), textSum (l.foldl nstep out) ≤ textSum out + textSum l
  | [], out => by simp [textSum]
  | x :: l, out => by
    have h1 := textSum_fold l (nstep out x)
    have h2 := textSum_step out x
    have h3 : textSum (x :: l) = x.text.length + textSum l := by simp [textSum]
    rw [List.foldl_cons]
    omega
theorem cost_sum : ∀ (l : List ItemD), (∀ x ∈ l, Fit x) → (l.map cost).sum ≤ 6 * textSum l + l.length * 181407
  | [], _ => by simp
  | x :: l, h => by
    have h1 := cost_sum l (fun y hy => h y (by simp [hy]))
    have h2 := tag_fit (h x (by simp))
    have h3 := (h x (by simp)).name
    have h4 : textSum (x :: l) = x.text.length + textSum l := by simp [textSum]
    have h5 : cost x = 6 * x.text.length + (tagL x).length + x.name.length + 6 := rfl
    rw [List.map_cons, List.sum_cons, List.length_cons, h4]
    omega
theorem textSum_fit : ∀ (l : List ItemD), (∀ x ∈ l, x.text.length ≤ 1500) → textSum l ≤ l.length * 1500
  | [], _ => by simp [textSum]
  | x :: l, h => by
    have h1 := textSum_fit l (fun y hy => h y (by simp [hy]))
    have h2 := h x (by simp)
    have h4 : textSum (x :: l) = x.text.length + textSum l := by simp [textSum]
    rw [h4, List.length_cons]; omega

theorem Doc.parts {l : List ItemD} (h : Doc l) : ∀ x ∈ l, Fit x ∧ x.text.length ≤ 1500 := fun x hx => by
  obtain ⟨k, hk⟩ := List.mem_iff_getElem?.1 hx
  exact parts_fit (oneE_zero (h.one k x hk)).2
theorem Doc.fits {l : List ItemD} (h : Doc l) : (∀ x ∈ normalL l, Fit x) ∧ (normalL l).length ≤ 1000 ∧ textSum (normalL l) ≤ 1500000 := by
  have hp := h.parts
  have hm := h.many
  have h1 := normal_fold_mem Fit l [] 0 (fun _ h => by cases h) (fun x hx => ⟨(hp x hx).1.name, (hp x hx).1.attrs, (hp x hx).1.each⟩)
  have h2 := textSum_fold l []
  have h3 := textSum_fit l (fun x hx => (hp x hx).2)
  refine ⟨fun x hx => ?_, Nat.le_trans h1.2 (by simpa using hm), ?_⟩
  · have := (h1.1 x hx).1
    exact ⟨this.name, this.attrs, this.each⟩
  · have e : textSum ([] : List ItemD) = 0 := rfl
    show textSum (l.foldl nstep []) ≤ _
    omega
theorem Doc.small {l : List ItemD} (h : Doc l) : (nodeAt (normalL l) 0).length ≤ 250000000 := by
  obtain ⟨x, s, hs⟩ := h.normal
  obtain ⟨f1, f2, f3⟩ := h.fits
  rw [← hs.pr]
  have h1 := pr_cost _ (normalL l) (Nat.le_refl _)
  have h2 := cost_sum _ f1
  omega
end Go.Proofs.Ythifddkmbjnncaa
