/-
  Plain words on documents and their check: no program in sight.
-/
import Derived.Test.YthifddkmbjnncaaItemPlain
namespace Go.Proofs.Ythifddkmbjnncaa

/-- The item ahead. -/
def prevOf (l : List ItemD) (k : Nat) : Option ItemD := if k = 0 then none else l[k - 1]?

/-- no part of an item is of a size that is out of the model's reach -/
def SmallItem (x : ItemD) : Prop := x.name.length ≤ 1000000000 ∧ x.text.length ≤ 1000000000 ∧ x.attrs.length ≤ 1000000000 ∧ (∀ (k : Nat) (a : AttrD), x.attrs[k]? = some a → a.name.length ≤ 1000000000 ∧ a.value.length ≤ 1000000000) ∧ (-9223372036854775808 ≤ x.level ∧ x.level ≤ 9223372036854775807)

theorem drop_cons {α : Type} {l : List α} {k : Nat} {a : α} (h : l[k]? = some a) : l.drop k = a :: l.drop (k + 1) := by
  have hl : k < l.length := (List.getElem?_eq_some_iff.1 h).1
  rw [List.drop_eq_getElem_cons hl]
  rw [List.getElem?_eq_getElem hl] at h
  injection h with h; rw [h]

theorem placeE_zero {prev : Option ItemD} {k : Nat} {x : ItemD} (h : placeE prev k x = 0) : 0 ≤ x.level ∧ x.level < 40 := by
  unfold placeE at h
  cases prev with
  | none =>
    simp only at h
    split at h
    · omega
    · omega
  | some p =>
    simp only at h
    split at h
    · omega
    split at h
    · omega
    · omega
theorem oneE_zero {prev : Option ItemD} {k : Nat} {x : ItemD} (h : oneE prev k x = 0) : placeE prev k x = 0 ∧ partsE x = 0 := by
  unfold oneE at h
  by_cases hp : placeE prev k x = 0
  · rw [if_pos hp] at h; exact ⟨hp, h⟩
  · rw [if_neg hp] at h; exact absurd h hp
theorem prevOf_succ {l : List ItemD} {k : Nat} {x : ItemD} (hx : l[k]? = some x) : prevOf l (k + 1) = some x := by
  unfold prevOf; rw [if_neg (by omega)]; exact hx
theorem checkF_drop {l : List ItemD} {k : Nat} {x : ItemD} (hx : l[k]? = some x) : checkF (prevOf l k) k (l.drop k) = if oneE (prevOf l k) k x = 0 then checkF (prevOf l (k + 1)) (k + 1) (l.drop (k + 1)) else ((k : Int), oneE (prevOf l k) k x) := by
  rw [drop_cons hx, prevOf_succ hx]; rfl

/-- All items are small enough. -/
def SmallItems (l : List ItemD) : Prop := l.length ≤ 1000000000 ∧ ∀ (k : Nat) (x : ItemD), l[k]? = some x → SmallItem x

end Go.Proofs.Ythifddkmbjnncaa
