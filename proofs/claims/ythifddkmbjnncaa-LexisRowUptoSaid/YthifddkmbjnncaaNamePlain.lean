/-
  The plain law of names: no program in sight.
-/
import Derived.Test.YthifddkmbjnncaaEscPlain
namespace Go.Proofs.Ythifddkmbjnncaa

def startB (c : Int) : Bool := decide ((65 ≤ c ∧ c ≤ 90) ∨ c = 95 ∨ (97 ≤ c ∧ c ≤ 122) ∨ (192 ≤ c ∧ c ≤ 214) ∨ (216 ≤ c ∧ c ≤ 246) ∨ (248 ≤ c ∧ c ≤ 767) ∨ (880 ≤ c ∧ c ≤ 893) ∨ (895 ≤ c ∧ c ≤ 8191) ∨ (8204 ≤ c ∧ c ≤ 8205) ∨ (8304 ≤ c ∧ c ≤ 8591) ∨ (11264 ≤ c ∧ c ≤ 12271) ∨ (12289 ≤ c ∧ c ≤ 55295) ∨ (63744 ≤ c ∧ c ≤ 64975) ∨ (65008 ≤ c ∧ c ≤ 65533) ∨ (65536 ≤ c ∧ c ≤ 983039))
def partB (c : Int) : Bool := startB c || decide ((45 ≤ c ∧ c ≤ 46) ∨ (48 ≤ c ∧ c ≤ 57) ∨ c = 183 ∨ (768 ≤ c ∧ c ≤ 879) ∨ (8255 ≤ c ∧ c ≤ 8256))
def nameL (l : List UInt8) : Bool := match charsL l with
  | some (c :: cs) => decide (l.length ≤ 60) && (startB c && (partB c && cs.all partB))
  | _ => false

def okF : Bool → List Int → Bool
  | _, [] => true
  | first, c :: cs => (partB c && (!first || startB c)) && okF false cs
/-- what glyph.each answers for a name's characters, k of them read -/
def eachI (k : Nat) (l : List UInt8) : Int := match charsL l with
  | some cs => if okF (k == 0) cs then ((k + cs.length : Nat) : Int) else -1
  | none => -1
theorem eachI_nil (k : Nat) : eachI k [] = k := by unfold eachI; rw [charsL_nil]; simp [okF]
theorem eachI_bad (k : Nat) (l : List UInt8) (h : l ≠ []) (hn : (nextL l).2 = 0) : eachI k l = -1 := by
  unfold eachI; rw [charsL_bad l h hn]
theorem eachI_no (k : Nat) (l : List UInt8) (h : l ≠ []) (hn : (nextL l).2 ≠ 0) (hr : (partB (nextL l).1 && (!(k == 0) || startB (nextL l).1)) = false) : eachI k l = -1 := by
  unfold eachI; rw [charsL_step l h hn]
  cases charsL (l.drop (nextL l).2) with
  | none => rfl
  | some cs => simp only [Option.map_some, okF, hr, Bool.false_and]; rfl
theorem eachI_step (k : Nat) (l : List UInt8) (h : l ≠ []) (hn : (nextL l).2 ≠ 0) (hr : (partB (nextL l).1 && (!(k == 0) || startB (nextL l).1)) = true) : eachI k l = eachI (k + 1) (l.drop (nextL l).2) := by
  unfold eachI; rw [charsL_step l h hn]
  cases charsL (l.drop (nextL l).2) with
  | none => rfl
  | some cs =>
    have : (k + 1 == 0) = false := by simp
    simp only [Option.map_some, okF, hr, Bool.true_and, this, List.length_cons]
    have : k + (cs.length + 1) = k + 1 + cs.length := by omega
    rw [this]
theorem okF_false (cs : List Int) : okF false cs = cs.all partB := by
  induction cs with
  | nil => rfl
  | cons c cs ih => simp [okF, ih]
theorem nameL_each (l : List UInt8) : nameL l = (decide (l.length ≤ 60) && decide (l ≠ [] ∧ 0 < eachI 0 l)) := by
  unfold nameL eachI
  by_cases hl : l = []
  · subst hl; rw [charsL_nil]; rfl
  · cases hc : charsL l with
    | none => simp
    | some cs =>
      cases cs with
      | nil =>
        exfalso
        by_cases hn : (nextL l).2 = 0
        · rw [charsL_bad l hl hn] at hc; cases hc
        · rw [charsL_step l hl hn] at hc
          cases hd : charsL (l.drop (nextL l).2) <;> rw [hd] at hc <;> simp at hc
      | cons c cs =>
        simp only [okF, okF_false]
        have e0 : ((0 : Nat) == 0) = true := rfl
        rw [e0]
        cases partB c <;> cases startB c <;> cases cs.all partB <;> simp [hl]
end Go.Proofs.Ythifddkmbjnncaa
