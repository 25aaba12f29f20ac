/-
  The document's way to read a reference comes to the same: no program in sight.
-/
import Derived.Test.YthfdlkafpeadiaaUndoPlain
namespace Go.Proofs.Ythfdlkafpeadiaa

def numF (base : Int) (c : Int) (ds : List UInt8) : Int := ds.foldl (fun c x => c * base + digitV base x.toNat) c
def digs (base : Int) (ds : List UInt8) : Bool := ds.all (fun x => decide (0 ≤ digitV base x.toNat))
/-- the number of digits; below 0: they are none -/
def numR (base : Int) (ds : List UInt8) : Int := if digs base ds = true ∧ 1 ≤ ds.length ∧ ds.length ≤ 7 then numF base 0 ds else -1

def no59 (x : UInt8) : Bool := x != 59
/-- the place of the first semicolon, in the first 12 bytes -/
def endR (l : List UInt8) : Nat := ((l.take 12).takeWhile no59).length

def refR (l : List UInt8) : Int × Nat :=
  if pre [38, 97, 109, 112, 59] l then (38, 5)
  else if pre [38, 108, 116, 59] l then (60, 4)
  else if pre [38, 103, 116, 59] l then (62, 4)
  else if pre [38, 113, 117, 111, 116, 59] l then (34, 6)
  else if pre [38, 97, 112, 111, 115, 59] l then (39, 6)
  else
    let e := endR l
    if e = l.length ∨ e = 12 ∨ pre [38, 35] l = false then (0, 0)
    else
      let n := if pre [38, 35, 120] l then numR 16 ((l.take e).drop 3) else numR 10 ((l.take e).drop 2)
      if n < 0 then (0, 0) else (n, e + 1)

theorem scan_spec (base : Int) : ∀ (r : List UInt8) (k : Nat) (c : Int), k ≤ 7 →
    scanL base k c r = if (r.takeWhile no59).length < r.length ∧ digs base (r.takeWhile no59) = true ∧ 1 ≤ k + (r.takeWhile no59).length ∧ k + (r.takeWhile no59).length ≤ 7 then some (numF base c (r.takeWhile no59), k + (r.takeWhile no59).length) else none := by
  have d59 : digitV base ((59 : UInt8).toNat) = -1 := by
    show digitV base 59 = -1
    unfold digitV
    repeat (first | split | omega)
  intro r
  induction r with
  | nil => intro k c hk; simp [scanL]
  | cons x r ih =>
    intro k c hk
    by_cases hx : x = 59
    · subst hx
      have ht : ((59 : UInt8) :: r).takeWhile no59 = [] := by simp [List.takeWhile, no59]
      rw [ht]
      simp only [scanL, d59]
      by_cases h0 : 0 < k
      · rw [if_pos ⟨trivial, h0⟩, if_pos ⟨by simp, rfl, by simp; omega, by simpa using hk⟩]; rfl
      · rw [if_neg (fun h => h0 h.2), if_pos (.inl (by decide)), if_neg (fun h => h0 (by have := h.2.2.1; simp at this; omega))]
    · have hn : no59 x = true := by unfold no59; simpa using hx
      have ht : (x :: r).takeWhile no59 = x :: r.takeWhile no59 := by rw [List.takeWhile_cons, if_pos hn]
      rw [ht]
      simp only [scanL]
      rw [if_neg (fun h => hx h.1)]
      have hd : digs base (x :: r.takeWhile no59) = (decide (0 ≤ digitV base x.toNat) && digs base (r.takeWhile no59)) := rfl
      by_cases hdk : digitV base x.toNat < 0 ∨ 7 ≤ k
      · rw [if_pos hdk, if_neg]
        rintro ⟨_, h2, _, h4⟩
        rw [hd, Bool.and_eq_true] at h2
        have := of_decide_eq_true h2.1
        simp only [List.length_cons] at h4
        omega
      · rw [if_neg hdk, ih (k + 1) _ (by omega)]
        have e1 : k + 1 + (r.takeWhile no59).length = k + (x :: r.takeWhile no59).length := by simp; omega
        have hdx : decide (0 ≤ digitV base x.toNat) = true := decide_eq_true (by omega)
        have hf : numF base (c * base + digitV base x.toNat) (r.takeWhile no59) = numF base c (x :: r.takeWhile no59) := rfl
        rw [e1, hf, hd, hdx, Bool.true_and]
        congr 1
        simp only [List.length_cons, Nat.add_lt_add_iff_right]

theorem numF_nonneg (base : Int) (hb : 0 ≤ base) : ∀ (ds : List UInt8) (c : Int), 0 ≤ c → digs base ds = true → 0 ≤ numF base c ds := by
  intro ds
  induction ds with
  | nil => intro c hc _; exact hc
  | cons x ds ih =>
    intro c hc h
    have hd : digs base (x :: ds) = (decide (0 ≤ digitV base x.toNat) && digs base ds) := rfl
    rw [hd, Bool.and_eq_true] at h
    have := of_decide_eq_true h.1
    have hm := Int.mul_nonneg hc hb
    exact ih (c * base + digitV base x.toNat) (by omega) h.2

theorem takeWhile_take (p : UInt8 → Bool) : ∀ (l : List UInt8) (n : Nat), ((l.take n).takeWhile p).length = min n (l.takeWhile p).length := by
  intro l
  induction l with
  | nil => intro n; simp
  | cons x l ih =>
    intro n
    cases n with
    | zero => simp
    | succ n =>
      rw [List.take_succ_cons]
      simp only [List.takeWhile]
      cases p x with
      | true => simp only [List.length_cons, ih]; omega
      | false => simp

/-- the number's part, from one place on -/
theorem ref_num (base : Int) (hb : 0 ≤ base) (hd l : List UInt8) (r : List UInt8) (hl : l = hd ++ r) (h59 : hd.takeWhile no59 = hd) (hle : hd.length ≤ 3) (b0 : Bool) (hb0 : b0 = true) :
    pick hd.length (scanL base 0 0 r) = if endR l = l.length ∨ endR l = 12 ∨ b0 = false then (0, 0) else if numR base ((l.take (endR l)).drop hd.length) < 0 then (0, 0) else (numR base ((l.take (endR l)).drop hd.length), endR l + 1) := by
  subst hb0
  have htw : l.takeWhile no59 = hd ++ r.takeWhile no59 := by
    rw [hl]
    rw [List.takeWhile_append, if_pos (by rw [h59])]
  have he : endR l = min 12 (hd.length + (r.takeWhile no59).length) := by
    unfold endR; rw [takeWhile_take, htw, List.length_append]
  have hll : l.length = hd.length + r.length := by rw [hl, List.length_append]
  have hdr : (r.takeWhile no59).length ≤ r.length := (List.takeWhile_sublist _).length_le
  rw [scan_spec base r 0 0 (by omega)]
  generalize hds : r.takeWhile no59 = ds at *
  by_cases h12 : 12 ≤ hd.length + ds.length
  · rw [if_neg (by omega), if_pos (.inr (.inl (by omega)))]; rfl
  · have he' : endR l = hd.length + ds.length := by omega
    rw [he']
    by_cases hend : ds.length = r.length
    · rw [if_neg (by omega), if_pos (.inl (by omega))]; rfl
    · have hxs : (l.take (hd.length + ds.length)).drop hd.length = ds := by
        rw [hl, List.take_append, List.drop_append]
        have e1 : (hd.take (hd.length + ds.length)).drop hd.length = [] := by
          rw [List.take_of_length_le (by omega)]; exact List.drop_length
        rw [e1, List.take_of_length_le (l := hd) (by omega), Nat.sub_self, List.drop_zero, Nat.add_sub_cancel_left, List.nil_append, ← hds]
        exact (List.prefix_iff_eq_take.1 (List.takeWhile_prefix _)).symm
      rw [if_neg (c := hd.length + ds.length = l.length ∨ _) (by simp; omega), hxs]
      unfold numR
      by_cases hg : digs base ds = true ∧ 1 ≤ ds.length ∧ ds.length ≤ 7
      · rw [if_pos ⟨by omega, hg.1, by omega, by omega⟩, if_pos hg]
        have := numF_nonneg base hb ds 0 (Int.le_refl _) hg.1
        rw [if_neg (by omega)]
        simp [pick]
      · rw [if_neg (fun h => hg ⟨h.2.1, by omega, by omega⟩), if_neg hg]; rfl

theorem refR_eq (l : List UInt8) : refR l = refL l := by
  unfold refR refL
  split
  · rfl
  split
  · rfl
  split
  · rfl
  split
  · rfl
  split
  · rfl
  by_cases h5 : pre [38, 35] l = true
  · rw [if_pos h5]
    have hsplit : ∀ p, pre p l = true → l = p ++ l.drop p.length := fun p hp => by
      have := eq_of_beq hp
      conv => lhs; rw [← List.take_append_drop p.length l, this]
    by_cases h6 : pre [38, 35, 120] l = true
    · simp only [if_pos h6]
      exact (ref_num 16 (by decide) [38, 35, 120] l _ (hsplit _ h6) (by decide) (by decide) _ h5).symm
    · simp only [if_neg h6]
      exact (ref_num 10 (by decide) [38, 35] l _ (hsplit _ h5) (by decide) (by decide) _ h5).symm
  · have h5' : pre [38, 35] l = false := by simpa using h5
    rw [if_neg h5]
    simp only [h5', or_true, if_true]

theorem numF_lt (base : Int) (hb0 : 0 ≤ base) (hb : base ≤ 16) : ∀ (ds : List UInt8) (c : Int) (k : Nat), 0 ≤ c → c < 16 ^ k → digs base ds = true → numF base c ds < 16 ^ (k + ds.length) := by
  intro ds
  induction ds with
  | nil => intro c k _ h _; exact h
  | cons x ds ih =>
    intro c k hc h hd
    have hd' : digs base (x :: ds) = (decide (0 ≤ digitV base x.toNat) && digs base ds) := rfl
    rw [hd', Bool.and_eq_true] at hd
    have h0 := of_decide_eq_true hd.1
    have h16 := (digitV_bd base x.toNat).2
    have hm := Int.mul_nonneg hc hb0
    have hm2 : c * base ≤ c * 16 := Int.mul_le_mul_of_nonneg_left hb hc
    have := ih (c * base + digitV base x.toNat) (k + 1) (by omega) (by rw [Int.pow_succ]; omega) hd.2
    have e : k + 1 + ds.length = k + (x :: ds).length := by simp; omega
    rw [e] at this
    exact this

theorem refL_bd (l : List UInt8) : 0 ≤ (refL l).1 ∧ (refL l).1 < 2147483648 := by
  have key : ∀ n base r, 0 ≤ base → base ≤ 16 → 0 ≤ (pick n (scanL base 0 0 r)).1 ∧ (pick n (scanL base 0 0 r)).1 < 2147483648 := by
    intro n base r h0 h1
    rw [scan_spec base r 0 0 (by omega)]
    split
    · rename_i h
      obtain ⟨_, hd, _, h7⟩ := h
      have h2 := numF_nonneg base h0 _ 0 (Int.le_refl _) hd
      have h3 := numF_lt base h0 h1 _ 0 0 (Int.le_refl _) (by decide) hd
      have h4 : (16 : Int) ^ (0 + (r.takeWhile no59).length) ≤ 268435456 := by
        generalize (r.takeWhile no59).length = m at *
        rcases (by omega : m = 0 ∨ m = 1 ∨ m = 2 ∨ m = 3 ∨ m = 4 ∨ m = 5 ∨ m = 6 ∨ m = 7) with rfl | rfl | rfl | rfl | rfl | rfl | rfl | rfl <;> decide
      simp only [pick]
      omega
    · simp [pick]
  unfold refL
  split
  · simp
  split
  · simp
  split
  · simp
  split
  · simp
  split
  · simp
  split
  · split
    · exact key 3 16 _ (by decide) (by decide)
    · exact key 2 10 _ (by decide) (by decide)
  · simp
end Go.Proofs.Ythfdlkafpeadiaa
