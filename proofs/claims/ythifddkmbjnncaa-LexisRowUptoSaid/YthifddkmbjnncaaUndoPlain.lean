/-
  The plain law of references and of what is undone: no program in sight.
-/
import Derived.Test.YthifddkmbjnncaaEscPlain
namespace Go.Proofs.Ythifddkmbjnncaa

def digitV (base x : Int) : Int :=
  if 48 ≤ x ∧ x ≤ 57 then x - 48
  else if base = 16 ∧ 97 ≤ x ∧ x ≤ 102 then x - 87
  else if base = 16 ∧ 65 ≤ x ∧ x ≤ 70 then x - 55
  else -1

theorem digitV_bd (base x : Int) : -1 ≤ digitV base x ∧ digitV base x < 16 := by
  unfold digitV
  repeat (first | split | omega)
theorem digitV_10 (x : Int) : digitV 10 x < 10 := by
  unfold digitV
  repeat (first | split | omega)

/-- the digits of a number: how many were read, its value so far -/
def scanL (base : Int) : Nat → Int → List UInt8 → Option (Int × Nat)
  | _, _, [] => none
  | k, c, x :: r => if x = 59 ∧ 0 < k then some (c, k) else if digitV base x.toNat < 0 ∨ 7 ≤ k then none else scanL base (k + 1) (c * base + digitV base x.toNat) r

def pre (p l : List UInt8) : Bool := l.take p.length == p

def pick (n : Nat) : Option (Int × Nat) → Int × Nat
  | some (c, k) => (c, n + k + 1)
  | none => (0, 0)

/-- the reference that a text begins with: its number, how many bytes it has -/
def refL (l : List UInt8) : Int × Nat :=
  if pre [38, 97, 109, 112, 59] l then (38, 5)
  else if pre [38, 108, 116, 59] l then (60, 4)
  else if pre [38, 103, 116, 59] l then (62, 4)
  else if pre [38, 113, 117, 111, 116, 59] l then (34, 6)
  else if pre [38, 97, 112, 111, 115, 59] l then (39, 6)
  else if pre [38, 35] l then
    if pre [38, 35, 120] l then pick 3 (scanL 16 0 0 (l.drop 3)) else pick 2 (scanL 10 0 0 (l.drop 2))
  else (0, 0)

theorem pre_len {p l : List UInt8} (h : pre p l = true) : p.length ≤ l.length := by
  have := congrArg List.length (eq_of_beq h)
  rw [List.length_take] at this
  omega

theorem scanL_le (base : Int) : ∀ (l : List UInt8) (k : Nat) (c : Int) (q : Int × Nat), scanL base k c l = some q → q.2 < k + l.length ∧ q.2 ≤ 7 ∧ k ≤ q.2 ∨ q.2 = k ∧ q.2 < k + l.length := by
  intro l
  induction l with
  | nil => intro k c q h; simp [scanL] at h
  | cons x r ih =>
    intro k c q h
    simp only [scanL] at h
    split at h
    · injection h with h; subst h; right; simp
    · split at h
      · cases h
      · rename_i hk
        rcases ih _ _ _ h with h' | h'
        · left; simp only [List.length_cons]; omega
        · left; simp only [List.length_cons]; omega

theorem refL_le (l : List UInt8) : (refL l).2 ≤ l.length := by
  unfold refL
  have key : ∀ (n : Nat) (base : Int), n ≤ l.length → (pick n (scanL base 0 0 (l.drop n))).2 ≤ l.length := fun n base hn => by
    cases h : scanL base 0 0 (l.drop n) with
    | none => simp [pick]
    | some q =>
      have := scanL_le base _ _ _ _ h
      rw [List.length_drop] at this
      simp only [pick]; omega
  split
  · rename_i h; exact pre_len h
  split
  · rename_i h; exact pre_len h
  split
  · rename_i h; exact pre_len h
  split
  · rename_i h; exact pre_len h
  split
  · rename_i h; exact pre_len h
  split
  · rename_i h
    split
    · rename_i h'; exact key 3 16 (pre_len h')
    · exact key 2 10 (pre_len h)
  · simp

/-- one step of what is undone: an error's number, or bytes and how many were read -/
def stepL (v : Bool) (l : List UInt8) : Int ⊕ (List UInt8 × Nat) :=
  let q := nextL l
  if 0 < q.2 ∧ (q.1 = 60 ∨ q.1 = 62) then .inl 20
  else if q.2 = 0 ∨ q.1 = 13 ∨ (v = true ∧ (q.1 = 34 ∨ q.1 = 9 ∨ q.1 = 10)) then .inl 21
  else
    let r := if q.1 = 38 then refL l else q
    if r.2 = 0 then .inl 20 else if charB r.1 = false then .inl 21 else .inr (putF r.1, r.2)

theorem stepL_pos {v : Bool} {l t : List UInt8} {n : Nat} (h : stepL v l = .inr (t, n)) : 1 ≤ n ∧ n ≤ l.length ∧ t.length ≤ 4 := by
  simp only [stepL] at h
  split at h
  · cases h
  split at h
  · cases h
  have hr : (if (nextL l).fst = 38 then refL l else nextL l).2 ≤ l.length := by
    split
    · exact refL_le l
    · exact (nextL_le l).1
  generalize (if (nextL l).fst = 38 then refL l else nextL l) = r at h hr
  split at h
  · cases h
  split at h
  · cases h
  · injection h with h
    injection h with ht hn
    exact ⟨by omega, by omega, by rw [← ht]; exact putF_len _⟩

/-- what is undone, with fuel: the text, the place, the error's number (0: none) -/
def undoF (v : Bool) : Nat → List UInt8 → List UInt8 × Nat × Int
  | 0, _ => ([], 0, 0)
  | f + 1, l =>
    if l = [] then ([], 0, 0)
    else match stepL v l with
      | .inl e => ([], 0, e)
      | .inr (t, n) =>
        let r := undoF v f (l.drop n)
        if r.2.2 = 0 then (t ++ r.1, n + r.2.1, 0) else ([], n + r.2.1, r.2.2)

theorem undoF_more (v : Bool) (f : Nat) : ∀ (l : List UInt8) (g : Nat), l.length ≤ f → l.length ≤ g → undoF v f l = undoF v g l := by
  induction f with
  | zero =>
    intro l g h _
    obtain rfl : l = [] := List.eq_nil_of_length_eq_zero (by omega)
    cases g <;> simp [undoF]
  | succ f ih =>
    intro l g h h'
    by_cases hl : l = []
    · subst hl; cases g <;> simp [undoF]
    · have hp : 0 < l.length := List.length_pos_iff.2 hl
      obtain ⟨g, rfl⟩ : ∃ g', g = g' + 1 := ⟨g - 1, by omega⟩
      simp only [undoF, if_neg hl]
      cases hs : stepL v l with
      | inl e => rfl
      | inr q =>
        obtain ⟨t, n⟩ := q
        have := stepL_pos hs
        simp only
        rw [ih (l.drop n) g (by rw [List.length_drop]; omega) (by rw [List.length_drop]; omega)]

def undoL (v : Bool) (l : List UInt8) : List UInt8 × Nat × Int := undoF v l.length l

/-- what stands ahead, and what comes behind -/
def joinU (acc : List UInt8) (at_ : Nat) (r : List UInt8 × Nat × Int) : List UInt8 × Nat × Int :=
  if r.2.2 = 0 then (acc ++ r.1, at_ + r.2.1, 0) else ([], at_ + r.2.1, r.2.2)

theorem undoL_nil (v : Bool) : undoL v [] = ([], 0, 0) := rfl
theorem undoL_bad (v : Bool) (l : List UInt8) (h : l ≠ []) (e : Int) (hs : stepL v l = .inl e) : undoL v l = ([], 0, e) := by
  unfold undoL
  have hp : 0 < l.length := List.length_pos_iff.2 h
  obtain ⟨f, hf⟩ : ∃ f, l.length = f + 1 := ⟨l.length - 1, by omega⟩
  rw [hf]
  simp only [undoF, if_neg h, hs]
theorem undoL_step (v : Bool) (l : List UInt8) (h : l ≠ []) (t : List UInt8) (n : Nat) (hs : stepL v l = .inr (t, n)) : undoL v l = joinU t n (undoL v (l.drop n)) := by
  unfold undoL joinU
  have hp : 0 < l.length := List.length_pos_iff.2 h
  obtain ⟨f, hf⟩ : ∃ f, l.length = f + 1 := ⟨l.length - 1, by omega⟩
  have := stepL_pos hs
  rw [hf]
  simp only [undoF, if_neg h, hs]
  rw [undoF_more v f (l.drop n) (l.drop n).length (by rw [List.length_drop]; omega) (Nat.le_refl _)]

theorem joinU_nil (r : List UInt8 × Nat × Int) (h : r.2.2 ≠ 0 → r.1 = []) : joinU [] 0 r = r := by
  obtain ⟨a, b, c⟩ := r
  unfold joinU
  by_cases hc : c = 0
  · subst hc; simp
  · have ha : a = [] := h hc
    subst ha; simp [hc]
theorem joinU_join (a b : List UInt8) (m n : Nat) (r : List UInt8 × Nat × Int) : joinU a m (joinU b n r) = joinU (a ++ b) (m + n) r := by
  obtain ⟨x, y, z⟩ := r
  unfold joinU
  by_cases hz : z = 0
  · subst hz; simp; omega
  · simp [hz]; omega

theorem undoF_shape (v : Bool) (f : Nat) : ∀ l, (undoF v f l).2.2 ≠ 0 → (undoF v f l).1 = [] := by
  induction f with
  | zero => intro l h; rfl
  | succ f ih =>
    intro l h
    simp only [undoF] at h ⊢
    split
    · rfl
    · rename_i hl
      rw [if_neg hl] at h
      cases hs : stepL v l with
      | inl e => rfl
      | inr q =>
        obtain ⟨t, n⟩ := q
        simp only [hs] at h ⊢
        by_cases hr : (undoF v f (l.drop n)).2.2 = 0
        · simp [hr] at h
        · simp [hr]
theorem undoL_shape (v : Bool) (l : List UInt8) : (undoL v l).2.2 ≠ 0 → (undoL v l).1 = [] := undoF_shape v _ l
end Go.Proofs.Ythifddkmbjnncaa
