/-
  The plain law of escapes: no program in sight.
-/
import Derived.Test.YthifddkmbjnncaaPlain
namespace Go.Proofs.Ythifddkmbjnncaa

def writtenL (v : Bool) (c : Int) : List UInt8 :=
  if c = 13 then [38, 35, 49, 51, 59]
  else if c = 9 ∧ v = true then [38, 35, 57, 59]
  else if c = 10 ∧ v = true then [38, 35, 49, 48, 59]
  else if c = 38 then [38, 97, 109, 112, 59]
  else if c = 60 then [38, 108, 116, 59]
  else if c = 62 then [38, 103, 116, 59]
  else if c = 34 ∧ v = true then [38, 113, 117, 111, 116, 59]
  else putF c

theorem putF_len (c : Int) : (putF c).length ≤ 4 := by
  unfold putF enc
  repeat (first | split | simp)
theorem writtenL_len (v : Bool) (c : Int) : (writtenL v c).length ≤ 6 := by
  have := putF_len c
  unfold writtenL
  repeat (first | split | simp)
  omega

/-- the characters of a text; with fuel -/
def charsF : Nat → List UInt8 → Option (List Int)
  | 0, l => if l = [] then some [] else none
  | f + 1, l => if l = [] then some [] else if (nextL l).2 = 0 then none else (charsF f (l.drop (nextL l).2)).map ((nextL l).1 :: ·)

theorem charsF_more (f : Nat) : ∀ (l : List UInt8) (g : Nat), l.length ≤ f → l.length ≤ g → charsF f l = charsF g l := by
  induction f with
  | zero =>
    intro l g h _
    obtain rfl : l = [] := List.eq_nil_of_length_eq_zero (by omega)
    cases g <;> simp [charsF]
  | succ f ih =>
    intro l g h h'
    by_cases hl : l = []
    · subst hl; cases g <;> simp [charsF]
    · have hp : 0 < l.length := List.length_pos_iff.2 hl
      obtain ⟨g, rfl⟩ : ∃ g', g = g' + 1 := ⟨g - 1, by omega⟩
      simp only [charsF, if_neg hl]
      by_cases hn : (nextL l).2 = 0
      · rw [if_pos hn, if_pos hn]
      · rw [if_neg hn, if_neg hn, ih _ g (by rw [List.length_drop]; omega) (by rw [List.length_drop]; omega)]

def charsL (l : List UInt8) : Option (List Int) := charsF l.length l

theorem charsL_nil : charsL [] = some [] := rfl
theorem charsL_bad (l : List UInt8) (h : l ≠ []) (hn : (nextL l).2 = 0) : charsL l = none := by
  unfold charsL
  cases hl : l.length with
  | zero => exact absurd (List.eq_nil_of_length_eq_zero hl) h
  | succ f => simp only [charsF, if_neg h, if_pos hn]
theorem charsL_step (l : List UInt8) (h : l ≠ []) (hn : (nextL l).2 ≠ 0) : charsL l = (charsL (l.drop (nextL l).2)).map ((nextL l).1 :: ·) := by
  unfold charsL
  have hp : 0 < l.length := List.length_pos_iff.2 h
  obtain ⟨f, hf⟩ : ∃ f, l.length = f + 1 := ⟨l.length - 1, by omega⟩
  rw [hf]
  simp only [charsF, if_neg h, if_neg hn]
  rw [charsF_more f _ (l.drop (nextL l).2).length (by rw [List.length_drop]; omega) (Nat.le_refl _)]

/-- what is made of a text -/
def escL (v : Bool) (l : List UInt8) : Option (List UInt8) := (charsL l).map (fun cs => cs.flatMap (writtenL v))

theorem escL_nil (v : Bool) : escL v [] = some [] := rfl
theorem escL_bad (v : Bool) (l : List UInt8) (h : l ≠ []) (hn : (nextL l).2 = 0) : escL v l = none := by
  unfold escL; rw [charsL_bad l h hn]; rfl
theorem escL_step (v : Bool) (l : List UInt8) (h : l ≠ []) (hn : (nextL l).2 ≠ 0) : escL v l = (escL v (l.drop (nextL l).2)).map (writtenL v (nextL l).1 ++ ·) := by
  unfold escL
  rw [charsL_step l h hn]
  cases charsL (l.drop (nextL l).2) <;> simp

theorem nextL_le (l : List UInt8) : (nextL l).2 ≤ l.length ∧ (nextL l).2 ≤ 4 := by
  match l with
  | [] => simp [nextL]
  | b :: t =>
    have h4 := headN_le b.toNat
    simp only [nextL]
    split
    · simp
    · split
      · simp
      · split
        · simp; omega
        · simp
theorem nextL_bd (l : List UInt8) : -1 ≤ (nextL l).1 ∧ (nextL l).1 ≤ 1114111 := by
  match l with
  | [] => simp [nextL]
  | b :: t =>
    simp only [nextL]
    split
    · simp
    · split
      · simp
      · split
        · rename_i h
          simp only [Bool.and_eq_true] at h
          have := charB_bd h.2.1
          simp only
          omega
        · simp
end Go.Proofs.Ythifddkmbjnncaa
