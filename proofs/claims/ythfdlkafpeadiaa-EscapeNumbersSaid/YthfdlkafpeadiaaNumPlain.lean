/-
  Plain laws of numbers as references. No program in sight.
-/
import Derived.Test.YthfdlkafpeadiaaLawPlain
import Derived.Test.YthfdlkafpeadiaaRefPlain
namespace Go.Proofs.Ythfdlkafpeadiaa

theorem esc_len6 (v : Bool) (l o : List UInt8) (h : escL v l = some o) : o.length ≤ 6 * l.length := by
  unfold escL at h
  cases hc : charsL l with
  | none => rw [hc] at h; cases h
  | some cs =>
    rw [hc] at h
    injection h with h
    subst h
    obtain ⟨hl, hall⟩ := chars_back l cs hc
    rw [hl]
    clear hl hc
    show (cs.flatMap (writtenL v)).length ≤ _
    induction cs with
    | nil => simp
    | cons c cs ih =>
      simp only [List.all_cons, Bool.and_eq_true] at hall
      simp only [List.flatMap_cons, List.length_append]
      have h1 := writtenL_len v c
      have h2 : 0 < (enc c).length := List.length_pos_iff.2 (enc_ne c)
      have := ih hall.2
      omega

/-- digits that a number is made of -/
def digitsOk (base : Int) (ds : List UInt8) : Prop := ∀ x ∈ ds, 0 ≤ digitV base x.toNat ∧ no59 x = true ∧ x ≠ 120

theorem digs_of {base : Int} {ds : List UInt8} (h : digitsOk base ds) : digs base ds = true := by
  unfold digs
  rw [List.all_eq_true]
  intro x hx
  exact decide_eq_true (h x hx).1
theorem tw_of {base : Int} {ds : List UInt8} (h : digitsOk base ds) : (ds ++ [59]).takeWhile no59 = ds := by
  induction ds with
  | nil => rfl
  | cons x ds ih =>
    have hx := (h x (by simp)).2.1
    rw [List.cons_append, List.takeWhile_cons, if_pos hx, ih (fun y hy => h y (by simp [hy]))]

theorem scan_digits (base : Int) (ds : List UInt8) (h : digitsOk base ds) (h1 : 1 ≤ ds.length) (h7 : ds.length ≤ 7) : scanL base 0 0 (ds ++ [59]) = some (numF base 0 ds, ds.length) := by
  rw [scan_spec base _ 0 0 (by omega), tw_of h, if_pos ⟨by simp, digs_of h, by omega, by omega⟩]
  simp

theorem ref_ten (ds : List UInt8) (h : digitsOk 10 ds) (h1 : 1 ≤ ds.length) (h7 : ds.length ≤ 7) : refL ([38, 35] ++ ds ++ [59]) = (numF 10 0 ds, ds.length + 3) := by
  match ds, h1 with
  | x :: r, _ =>
    have hx := (h x (by simp)).2.2
    have hs := scan_digits 10 (x :: r) h (by simp) h7
    have e1 : pre [38, 97, 109, 112, 59] ([38, 35] ++ (x :: r) ++ [59]) = false := by unfold pre; cases r <;> rfl
    have e2 : pre [38, 108, 116, 59] ([38, 35] ++ (x :: r) ++ [59]) = false := by unfold pre; cases r <;> rfl
    have e3 : pre [38, 103, 116, 59] ([38, 35] ++ (x :: r) ++ [59]) = false := by unfold pre; cases r <;> rfl
    have e4 : pre [38, 113, 117, 111, 116, 59] ([38, 35] ++ (x :: r) ++ [59]) = false := by unfold pre; cases r <;> rfl
    have e5 : pre [38, 97, 112, 111, 115, 59] ([38, 35] ++ (x :: r) ++ [59]) = false := by unfold pre; cases r <;> rfl
    have e6 : pre [38, 35] ([38, 35] ++ (x :: r) ++ [59]) = true := rfl
    have e7 : pre [38, 35, 120] ([38, 35] ++ (x :: r) ++ [59]) = false := by
      cases hh : pre [38, 35, 120] ([38, 35] ++ (x :: r) ++ [59]) with
      | false => rfl
      | true =>
        have hq : [38, 35, x] = [38, 35, 120] := eq_of_beq hh
        injection hq with _ hq; injection hq with _ hq; injection hq with hq
        exact absurd hq hx
    unfold refL
    rw [e1, e2, e3, e4, e5, e6, e7]
    have e8 : ([38, 35] ++ (x :: r) ++ [59]).drop 2 = (x :: r) ++ [59] := rfl
    rw [e8, hs]
    simp [pick]; omega

theorem ref_hex (ds : List UInt8) (h : digitsOk 16 ds) (h1 : 1 ≤ ds.length) (h7 : ds.length ≤ 7) : refL ([38, 35, 120] ++ ds ++ [59]) = (numF 16 0 ds, ds.length + 4) := by
  have hs := scan_digits 16 ds h h1 h7
  match ds, h1 with
  | x :: r, _ =>
    have e1 : pre [38, 97, 109, 112, 59] ([38, 35, 120] ++ (x :: r) ++ [59]) = false := by unfold pre; cases r <;> rfl
    have e2 : pre [38, 108, 116, 59] ([38, 35, 120] ++ (x :: r) ++ [59]) = false := by unfold pre; cases r <;> rfl
    have e3 : pre [38, 103, 116, 59] ([38, 35, 120] ++ (x :: r) ++ [59]) = false := by unfold pre; cases r <;> rfl
    have e4 : pre [38, 113, 117, 111, 116, 59] ([38, 35, 120] ++ (x :: r) ++ [59]) = false := by unfold pre; rcases r with _ | ⟨y, r⟩ <;> rfl
    have e5 : pre [38, 97, 112, 111, 115, 59] ([38, 35, 120] ++ (x :: r) ++ [59]) = false := by unfold pre; rcases r with _ | ⟨y, r⟩ <;> rfl
    have e6 : pre [38, 35] ([38, 35, 120] ++ (x :: r) ++ [59]) = true := rfl
    have e7 : pre [38, 35, 120] ([38, 35, 120] ++ (x :: r) ++ [59]) = true := rfl
    unfold refL
    rw [e1, e2, e3, e4, e5, e6, e7]
    have e8 : ([38, 35, 120] ++ (x :: r) ++ [59]).drop 3 = (x :: r) ++ [59] := rfl
    rw [e8, hs]
    simp [pick]; omega

/-- a reference alone, undone -/
theorem undo_ref (v : Bool) (t : List UInt8) (c : Int) (h : refL (38 :: t) = (c, (38 :: t).length)) : undoL v (38 :: t) = if charB c = true then (enc c, (38 :: t).length, 0) else ([], 0, 21) := by
  have h38 : nextL (38 :: t) = (38, 1) := next_enc 38 (by decide) t
  have hst : stepL v (38 :: t) = if charB c = false then .inl 21 else .inr (putF c, (38 :: t).length) := by
    simp only [stepL, h38]
    rw [if_neg (by omega), if_neg (by omega)]
    simp only [if_true, h]
    rw [if_neg (by simp)]
  by_cases hc : charB c = true
  · rw [if_pos hc]
    have hp : putF c = enc c := by unfold putF; rw [if_pos hc]
    rw [if_neg (by rw [hc]; decide), hp] at hst
    rw [undoL_step v _ (by simp) _ _ hst, List.drop_length, undoL_nil]
    simp [joinU]
  · have hc' : charB c = false := by simpa using hc
    rw [if_neg hc]
    rw [if_pos hc'] at hst
    exact undoL_bad v _ (by simp) _ hst

/-- a digit more, ahead -/
theorem digit_more (base n : Int) (d : UInt8) (ds : List UInt8) (c : Int) (hv : digitV base d.toNat = n % base) (h : numF base n ds = c) : numF base (n / base) (d :: ds) = c := by
  show numF base (n / base * base + digitV base d.toNat) ds = c
  rw [hv]
  have : n / base * base + n % base = n := by have := Int.mul_ediv_add_emod n base; rw [Int.mul_comm]; exact this
  rw [this]
  exact h
end Go.Proofs.Ythfdlkafpeadiaa
