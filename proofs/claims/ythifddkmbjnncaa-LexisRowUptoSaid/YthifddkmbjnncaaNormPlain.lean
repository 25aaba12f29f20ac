/-
  The plain law of documents made normal: no program in sight.
-/
import Derived.Test.YthifddkmbjnncaaCheckPlain
namespace Go.Proofs.Ythifddkmbjnncaa

def nstep (out : List ItemD) (x : ItemD) : List ItemD :=
  if x.kind = 2 ∧ x.text = [] then out
  else match out[out.length - 1]? with
    | none => out ++ [x]
    | some p => if x.kind = 2 ∧ p.kind = 2 ∧ p.level = x.level then out.set (out.length - 1) { p with text := p.text ++ x.text } else out ++ [x]
def normalL (l : List ItemD) : List ItemD := l.foldl nstep []

theorem nstep_void {out : List ItemD} {x : ItemD} (h1 : x.kind = 2) (h2 : x.text = []) : nstep out x = out := by unfold nstep; rw [if_pos ⟨h1, h2⟩]
theorem nstep_first {x : ItemD} (h : ¬ (x.kind = 2 ∧ x.text = [])) : nstep [] x = [x] := by unfold nstep; rw [if_neg h]; rfl
theorem nstep_join {out : List ItemD} {x p : ItemD} (hp : out[out.length - 1]? = some p) (h1 : x.kind = 2) (h2 : x.text ≠ []) (h3 : p.kind = 2) (h4 : p.level = x.level) : nstep out x = out.set (out.length - 1) { p with text := p.text ++ x.text } := by
  unfold nstep; rw [if_neg (fun h => h2 h.2), hp]; exact if_pos ⟨h1, h3, h4⟩
theorem nstep_more {out : List ItemD} {x p : ItemD} (hp : out[out.length - 1]? = some p) (h : ¬ (x.kind = 2 ∧ x.text = [])) (h' : ¬ (x.kind = 2 ∧ p.kind = 2 ∧ p.level = x.level)) : nstep out x = out ++ [x] := by
  unfold nstep; rw [if_neg h, hp]; exact if_neg h'

theorem nstep_app {out : List ItemD} {x : ItemD} (h : ¬ (x.kind = 2 ∧ x.text = [])) (h' : ∀ p, out[out.length - 1]? = some p → ¬ (x.kind = 2 ∧ p.kind = 2 ∧ p.level = x.level)) : nstep out x = out ++ [x] := by
  unfold nstep; rw [if_neg h]
  split
  · rfl
  · rename_i p hp
    exact if_neg (h' p hp)

/-- the bytes of all texts together -/
def textSum (l : List ItemD) : Nat := (l.map (·.text.length)).sum
theorem textSum_snoc (l : List ItemD) (x : ItemD) : textSum (l ++ [x]) = textSum l + x.text.length := by simp [textSum]
theorem textSum_take {l : List ItemD} {k : Nat} {x : ItemD} (hx : l[k]? = some x) : textSum (l.take (k + 1)) = textSum (l.take k) + x.text.length := by
  have hk : k < l.length := (List.getElem?_eq_some_iff.1 hx).1
  rw [List.take_add_one, hx]
  simp [textSum]
theorem textSum_append (l m : List ItemD) : textSum (l ++ m) = textSum l + textSum m := by simp [textSum]
theorem textSum_take_le (l : List ItemD) (k : Nat) : textSum (l.take k) ≤ textSum l := by
  have := textSum_append (l.take k) (l.drop k)
  rw [List.take_append_drop] at this
  omega

def SmallDoc (l : List ItemD) : Prop := SmallItems l ∧ textSum l ≤ 1000000000

/-- what is made normal: its items are of the row's, but for their texts -/
theorem normal_step_mem (P : ItemD → Prop) {out : List ItemD} {x : ItemD} {T : Nat} (ho : ∀ y ∈ out, P { y with text := [] } ∧ y.text.length ≤ T) (hx : P { x with text := [] }) : ∀ y ∈ nstep out x, P { y with text := [] } ∧ y.text.length ≤ T + x.text.length := by
  intro y hy
  unfold nstep at hy
  split at hy
  · have := ho y hy; exact ⟨this.1, by omega⟩
  · split at hy
    · rcases List.mem_append.1 hy with h | h
      · have := ho y h; exact ⟨this.1, by omega⟩
      · simp at h; subst h; exact ⟨hx, by omega⟩
    · rename_i p hp
      split at hy
      · rcases List.mem_or_eq_of_mem_set hy with h | h
        · have := ho y h; exact ⟨this.1, by omega⟩
        · subst h
          have := ho p (List.mem_of_getElem? hp)
          exact ⟨this.1, by simp; omega⟩
      · rcases List.mem_append.1 hy with h | h
        · have := ho y h; exact ⟨this.1, by omega⟩
        · simp at h; subst h; exact ⟨hx, by omega⟩
theorem nstep_length (out : List ItemD) (x : ItemD) : (nstep out x).length ≤ out.length + 1 := by
  unfold nstep
  split
  · omega
  · split
    · simp
    · split <;> simp
theorem normal_fold_mem (P : ItemD → Prop) : ∀ (l out : List ItemD) (T : Nat), (∀ y ∈ out, P { y with text := [] } ∧ y.text.length ≤ T) → (∀ x ∈ l, P { x with text := [] }) → (∀ y ∈ l.foldl nstep out, P { y with text := [] } ∧ y.text.length ≤ T + textSum l) ∧ (l.foldl nstep out).length ≤ out.length + l.length
  | [], out, T, ho, _ => ⟨fun y hy => by have := ho y hy; exact ⟨this.1, by omega⟩, by simp⟩
  | x :: l, out, T, ho, hl => by
    have h1 := normal_step_mem P ho (hl x (by simp))
    have h2 := normal_fold_mem P l (nstep out x) (T + x.text.length) h1 (fun y hy => hl y (by simp [hy]))
    have h3 := nstep_length out x
    refine ⟨fun y hy => ?_, ?_⟩
    · have := h2.1 y hy
      exact ⟨this.1, by simp [textSum] at *; omega⟩
    · have := h2.2
      simp only [List.foldl_cons, List.length_cons]
      omega

theorem SmallItem.untexted {x : ItemD} (h : SmallItem { x with text := [] }) (ht : x.text.length ≤ 1000000000) : SmallItem x := ⟨h.1, ht, h.2.2.1, h.2.2.2.1, h.2.2.2.2⟩
theorem small_of_mem {l : List ItemD} (h : l.length ≤ 1000000000) (hm : ∀ x ∈ l, SmallItem x) : SmallItems l := ⟨h, fun _ _ hx => hm _ (List.mem_of_getElem? hx)⟩
theorem SmallItems.mem {l : List ItemD} (h : SmallItems l) : ∀ x ∈ l, SmallItem x := fun x hx => by
  obtain ⟨k, hk⟩ := List.mem_iff_getElem?.1 hx
  exact h.2 k x hk
theorem normal_small {l : List ItemD} (h : SmallDoc l) : SmallItems (normalL l) := by
  have := normal_fold_mem SmallItem l [] 0 (fun _ h => by cases h) (fun x hx => by
    have := h.1.mem x hx
    exact ⟨this.1, by simp, this.2.2.1, this.2.2.2.1, this.2.2.2.2⟩)
  refine small_of_mem (by have h2 := this.2; have := h.1.1; simp at h2; exact Nat.le_trans h2 this) fun x hx => ?_
  have h3 := this.1 x hx
  exact h3.1.untexted (by have := h.2; omega)
end Go.Proofs.Ythifddkmbjnncaa
