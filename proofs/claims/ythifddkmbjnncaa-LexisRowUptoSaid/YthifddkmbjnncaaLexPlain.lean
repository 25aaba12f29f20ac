/-
  The plain law of tokens: no program in sight. All places are counted from the token's own beginning.
-/
import Derived.Test.YthifddkmbjnncaaInjPlain
namespace Go.Proofs.Ythifddkmbjnncaa

def blankB (b : UInt8) : Bool := b == 32 || b == 9 || b == 10

structure TokD where
  kind : Int
  name : List UInt8
  text : List UInt8
  attrs : List AttrD
deriving DecidableEq

/-- what a step tells: something, and how many bytes it took; or a place, and an error's number -/
inductive Told (α : Type) where
  | ok (x : α) (n : Nat)
  | bad (k : Nat) (e : Int)
deriving DecidableEq

/-- .. a place further on -/
def Told.past {α : Type} (k : Nat) : Told α → Told α
  | .ok x n => .ok x (k + n)
  | .bad j e => .bad (k + j) e

theorem Told.past_past {α : Type} (j k : Nat) (x : Told α) : (x.past k).past j = x.past (j + k) := by
  cases x <;> simp [Told.past, Nat.add_assoc]
theorem Told.past_zero {α : Type} (x : Told α) : x.past 0 = x := by
  cases x <;> simp [Told.past]

def wordL (l : List UInt8) : List UInt8 := l.takeWhile nb
def skipL (l : List UInt8) : Nat := (l.takeWhile blankB).length

def textT (l : List UInt8) : Told TokD :=
  let t := l.takeWhile (· != 60)
  let u := undoL false t
  if u.2.2 ≠ 0 then .bad u.2.1 u.2.2 else if 1500 < u.1.length then .bad 0 34 else .ok ⟨4, [], u.1, []⟩ t.length

/-- an end, behind its two first bytes -/
def endT (l : List UInt8) : Told TokD :=
  let n := wordL l
  if nameL n = false then .bad 0 31
  else
    let k := n.length + skipL (l.drop n.length)
    if pre [62] (l.drop k) = true then .ok ⟨2, n, [], []⟩ (k + 1) else .bad k 30

/-- by rising names -/
def insA (a : AttrD) : List AttrD → List AttrD
  | [] => [a]
  | b :: r => if Op.bytesLess a.name b.name then a :: b :: r else b :: insA a r
def sortA (l : List AttrD) : List AttrD := l.foldl (fun o a => insA a o) []

/-- a value, behind its quote: where the quote stands is one place ahead -/
def valueT (n : List UInt8) (l : List UInt8) : Told AttrD :=
  let v := l.takeWhile (· != 34)
  if v.length = l.length then .bad (n.length + 2 + v.length) 30
  else
    let u := undoL true v
    if u.2.2 ≠ 0 then .bad (n.length + 2 + u.2.1) u.2.2 else if 1500 < u.1.length then .bad (n.length + 1) 34 else .ok ⟨n, u.1⟩ (n.length + 2 + v.length + 1)

def attrL (l : List UInt8) (bs : List AttrD) : Told AttrD :=
  let n := wordL l
  if nameL n = false then .bad 0 31
  else if 20 ≤ bs.length then .bad 0 33
  else if bs.any (fun a => decide (a.name = n)) then .bad 0 32
  else if pre [61] (l.drop n.length) = false then .bad n.length 30
  else if pre [34] (l.drop (n.length + 1)) = false then .bad (n.length + 1) 30
  else valueT n (l.drop (n.length + 2))

/-- the attributes, and the end of the beginning: which it is, and the attributes bs they came -/
def attrsF : Nat → List UInt8 → List AttrD → Told (Int × List AttrD)
  | 0, _, _ => .bad 0 30
  | f + 1, l, bs =>
    let b := skipL l
    let r := l.drop b
    if pre [62] r = true then .ok (1, bs) (b + 1)
    else if pre [47, 62] r = true then .ok (3, bs) (b + 2)
    else if b = 0 ∨ r = [] then .bad b 30
    else match attrL r bs with
      | .bad k e => .bad (b + k) e
      | .ok a n => (attrsF f (r.drop n) (bs ++ [a])).past (b + n)

/-- a beginning, behind its first byte -/
def beginT (l : List UInt8) : Told TokD :=
  let n := wordL l
  if nameL n = false then .bad 0 31
  else match attrsF (l.length + 1) (l.drop n.length) [] with
    | .bad k e => .bad (n.length + k) e
    | .ok q k => .ok ⟨q.1, n, [], sortA q.2⟩ (n.length + k)

def oneT (l : List UInt8) : Told TokD :=
  if pre [60, 47] l = true then (endT (l.drop 2)).past 2
  else if pre [60] l = true then (beginT (l.drop 1)).past 1
  else textT l

/-- all tokens, each with where it stands -/
def allF : Nat → Nat → List UInt8 → List (Nat × TokD) × Nat × Int
  | 0, _, _ => ([], 0, 0)
  | f + 1, at_, l =>
    if l = [] then ([], 0, 0)
    else match oneT l with
      | .bad k e => ([], at_ + k, e)
      | .ok t n =>
        let r := allF f (at_ + n) (l.drop n)
        if r.2.2 = 0 then ((at_, t) :: r.1, 0, 0) else ([], r.2.1, r.2.2)

/-! ## How far what is told may reach -/
theorem takeWhile_len {α : Type} (p : α → Bool) : ∀ l : List α, (l.takeWhile p).length ≤ l.length
  | [] => by simp
  | a :: l => by
    rw [List.takeWhile_cons]
    split
    · have := takeWhile_len p l; simp; omega
    · simp
theorem wordL_len (l : List UInt8) : (wordL l).length ≤ l.length := takeWhile_len _ _
theorem skipL_len (l : List UInt8) : skipL l ≤ l.length := takeWhile_len _ _

theorem undoF_le (v : Bool) : ∀ (f : Nat) (l : List UInt8), (undoF v f l).2.1 ≤ l.length
  | 0, _ => by simp [undoF]
  | f + 1, l => by
    rw [undoF]
    split
    · simp
    · cases hs : stepL v l with
      | inl e => simp
      | inr q =>
        obtain ⟨t, n⟩ := q
        have := stepL_pos hs
        have ih := undoF_le v f (l.drop n)
        rw [List.length_drop] at ih
        simp only
        split <;> simp only <;> omega
theorem undoL_le (v : Bool) (l : List UInt8) : (undoL v l).2.1 ≤ l.length := undoF_le v _ l

theorem pre1_len {c : UInt8} {l : List UInt8} {k : Nat} (h : pre [c] (l.drop k) = true) : k + 1 ≤ l.length := by
  have := pre_len h
  rw [List.length_drop] at this
  simp at this; omega

def Told.within {α : Type} (lo hi : Nat) : Told α → Prop
  | .ok _ n => lo ≤ n ∧ n ≤ hi
  | .bad k e => k ≤ hi ∧ e ≠ 0

theorem textT_within (l : List UInt8) (h : l ≠ []) (h60 : pre [60] l = false) : (textT l).within 1 l.length := by
  have h1 := takeWhile_len (· != 60) l
  have h2 := undoL_le false (l.takeWhile (· != 60))
  have h3 : 1 ≤ (l.takeWhile (· != 60)).length := by
    cases l with
    | nil => exact absurd rfl h
    | cons a r =>
      have : (a != 60) = true := by
        simp only [pre, List.length_cons, List.length_nil, List.take_succ_cons, List.take_zero] at h60
        cases h : a == 60 with
        | true => rw [eq_of_beq h] at h60; simp at h60
        | false => simp [bne, h]
      rw [List.takeWhile_cons, if_pos this]; simp
  unfold textT
  simp only
  split
  · rename_i h; exact ⟨by omega, h⟩
  · split
    · exact ⟨by omega, by decide⟩
    · exact ⟨h3, h1⟩
theorem endT_within (l : List UInt8) : (endT l).within 1 l.length := by
  have h1 := wordL_len l
  have h2 := skipL_len (l.drop (wordL l).length)
  rw [List.length_drop] at h2
  unfold endT
  simp only
  split
  · exact ⟨by omega, by decide⟩
  · split
    · rename_i h; exact ⟨by omega, pre1_len h⟩
    · exact ⟨by omega, by decide⟩
theorem valueT_within (n l : List UInt8) : (valueT n l).within (n.length + 3) (n.length + 2 + l.length) := by
  have h1 := takeWhile_len (· != 34) l
  have h2 := undoL_le true (l.takeWhile (· != 34))
  unfold valueT
  simp only
  split
  · exact ⟨by omega, by decide⟩
  · split
    · rename_i h; exact ⟨by omega, h⟩
    · split
      · exact ⟨by omega, by decide⟩
      · exact ⟨by omega, by omega⟩
theorem attrL_within (l : List UInt8) (bs : List AttrD) : (attrL l bs).within 3 l.length := by
  have h1 := wordL_len l
  unfold attrL
  simp only
  split
  · exact ⟨by omega, by decide⟩
  · split
    · exact ⟨by omega, by decide⟩
    · split
      · exact ⟨by omega, by decide⟩
      · split
        · exact ⟨by omega, by decide⟩
        · rename_i hp
          have hp1 := pre1_len (by simpa using hp)
          split
          · exact ⟨by omega, by decide⟩
          · rename_i hp'
            have hp2 := pre1_len (by simpa using hp')
            have := valueT_within (wordL l) (l.drop ((wordL l).length + 2))
            rw [List.length_drop] at this
            cases hv : valueT (wordL l) (l.drop ((wordL l).length + 2)) with
            | ok x n => rw [hv] at this; obtain ⟨a, b⟩ := this; exact ⟨by omega, by omega⟩
            | bad k e => rw [hv] at this; obtain ⟨a, b⟩ := this; exact ⟨by omega, b⟩
theorem attrsF_within : ∀ (f : Nat) (l : List UInt8) (bs : List AttrD), (attrsF f l bs).within 1 l.length
  | 0, l, bs => ⟨Nat.zero_le _, by decide⟩
  | f + 1, l, bs => by
    have h1 := skipL_len l
    rw [attrsF]
    split
    · rename_i h; exact ⟨by omega, pre1_len h⟩
    · split
      · rename_i h
        have := pre_len h
        rw [List.length_drop] at this
        simp at this
        exact ⟨by omega, by omega⟩
      · split
        · exact ⟨h1, by decide⟩
        · have := attrL_within (l.drop (skipL l)) bs
          rw [List.length_drop] at this
          cases ha : attrL (l.drop (skipL l)) bs with
          | bad k e => rw [ha] at this; obtain ⟨a, b⟩ := this; exact ⟨by omega, b⟩
          | ok x n =>
            rw [ha] at this; obtain ⟨a, b⟩ := this
            simp only
            have ih := attrsF_within f ((l.drop (skipL l)).drop n) (bs ++ [x])
            rw [List.length_drop, List.length_drop] at ih
            cases hq : attrsF f ((l.drop (skipL l)).drop n) (bs ++ [x]) with
            | ok y m => rw [hq] at ih; obtain ⟨c, d⟩ := ih; exact ⟨by omega, by omega⟩
            | bad k e => rw [hq] at ih; obtain ⟨c, d⟩ := ih; exact ⟨by omega, d⟩
theorem beginT_within (l : List UInt8) : (beginT l).within 1 l.length := by
  have h1 := wordL_len l
  unfold beginT
  simp only
  split
  · exact ⟨by omega, by decide⟩
  · have := attrsF_within (l.length + 1) (l.drop (wordL l).length) []
    rw [List.length_drop] at this
    cases ha : attrsF (l.length + 1) (l.drop (wordL l).length) [] with
    | bad k e => rw [ha] at this; obtain ⟨a, b⟩ := this; exact ⟨by omega, b⟩
    | ok x n => rw [ha] at this; obtain ⟨a, b⟩ := this; exact ⟨by omega, by omega⟩
theorem oneT_within (l : List UInt8) (h : l ≠ []) : (oneT l).within 1 l.length := by
  unfold oneT
  split
  · rename_i hp
    have hl := pre_len hp
    simp at hl
    have := endT_within (l.drop 2)
    rw [List.length_drop] at this
    cases hq : endT (l.drop 2) with
    | ok y m => rw [hq] at this; obtain ⟨c, d⟩ := this; exact ⟨by omega, by omega⟩
    | bad k e => rw [hq] at this; obtain ⟨c, d⟩ := this; exact ⟨by omega, d⟩
  · split
    · rename_i hp
      have hl := pre_len hp
      simp at hl
      have := beginT_within (l.drop 1)
      rw [List.length_drop] at this
      cases hq : beginT (l.drop 1) with
      | ok y m => rw [hq] at this; obtain ⟨c, d⟩ := this; exact ⟨by omega, by omega⟩
      | bad k e => rw [hq] at this; obtain ⟨c, d⟩ := this; exact ⟨by omega, d⟩
    · rename_i hp
      exact textT_within l h (by simpa using hp)

/-- fuel is no matter -/
theorem attrsF_more : ∀ (f : Nat) (l : List UInt8) (bs : List AttrD) (g : Nat), l.length < f → l.length < g → attrsF f l bs = attrsF g l bs
  | 0, _, _, _, h, _ => by omega
  | f + 1, l, bs, 0, _, h => by omega
  | f + 1, l, bs, g + 1, hf, hg => by
    rw [attrsF, attrsF]
    have h1 := skipL_len l
    have := attrL_within (l.drop (skipL l)) bs
    rw [List.length_drop] at this
    cases ha : attrL (l.drop (skipL l)) bs with
    | bad k e => rfl
    | ok x n =>
      rw [ha] at this; obtain ⟨a, b⟩ := this
      simp only
      rw [attrsF_more f ((l.drop (skipL l)).drop n) (bs ++ [x]) g (by simp only [List.length_drop]; omega) (by simp only [List.length_drop]; omega)]
theorem allF_more : ∀ (f : Nat) (at_ : Nat) (l : List UInt8) (g : Nat), l.length < f → l.length < g → allF f at_ l = allF g at_ l
  | 0, _, _, _, h, _ => by omega
  | f + 1, _, l, 0, _, h => by omega
  | f + 1, at_, l, g + 1, hf, hg => by
    rw [allF, allF]
    by_cases hl : l = []
    · rw [if_pos hl, if_pos hl]
    · rw [if_neg hl, if_neg hl]
      have := oneT_within l hl
      cases ho : oneT l with
      | bad k e => rfl
      | ok t n =>
        rw [ho] at this; obtain ⟨a, b⟩ := this
        simp only
        rw [allF_more f (at_ + n) (l.drop n) g (by rw [List.length_drop]; omega) (by rw [List.length_drop]; omega)]

def attrsL (l : List UInt8) (bs : List AttrD) : Told (Int × List AttrD) := attrsF (l.length + 1) l bs
def allL (at_ : Nat) (l : List UInt8) : List (Nat × TokD) × Nat × Int := allF (l.length + 1) at_ l

theorem attrsL_step (l : List UInt8) (bs : List AttrD) (b : Nat) (hb : b = skipL l) (h1 : pre [62] (l.drop b) = false) (h2 : pre [47, 62] (l.drop b) = false) (h3 : b ≠ 0) (h4 : l.drop b ≠ []) (a : AttrD) (n : Nat) (ha : attrL (l.drop b) bs = .ok a n) :
    attrsL l bs = (attrsL (l.drop (b + n)) (bs ++ [a])).past (b + n) := by
  subst hb
  unfold attrsL
  have := attrL_within (l.drop (skipL l)) bs
  rw [ha, List.length_drop] at this
  obtain ⟨c, d⟩ := this
  rw [attrsF]
  simp only [h1, h2, ha, Bool.false_eq_true, if_false]
  rw [if_neg (by intro h; rcases h with h | h; exact h3 h; exact h4 h), List.drop_drop]
  have h5 := skipL_len l
  rw [attrsF_more l.length (l.drop (skipL l + n)) _ ((l.drop (skipL l + n)).length + 1) (by rw [List.length_drop]; omega) (by omega)]
theorem attrsL_bad (l : List UInt8) (bs : List AttrD) (b : Nat) (hb : b = skipL l) (h1 : pre [62] (l.drop b) = false) (h2 : pre [47, 62] (l.drop b) = false) (h3 : b ≠ 0) (h4 : l.drop b ≠ []) (k : Nat) (e : Int) (ha : attrL (l.drop b) bs = .bad k e) :
    attrsL l bs = .bad (b + k) e := by
  subst hb
  unfold attrsL
  rw [attrsF]
  simp only [h1, h2, ha, Bool.false_eq_true, if_false]
  rw [if_neg (by intro h; rcases h with h | h; exact h3 h; exact h4 h)]
theorem attrsL_one (l : List UInt8) (bs : List AttrD) (b : Nat) (hb : b = skipL l) (h1 : pre [62] (l.drop b) = true) : attrsL l bs = .ok (1, bs) (b + 1) := by
  subst hb
  unfold attrsL
  rw [attrsF]
  simp only [h1, if_true]
theorem attrsL_two (l : List UInt8) (bs : List AttrD) (b : Nat) (hb : b = skipL l) (h1 : pre [62] (l.drop b) = false) (h2 : pre [47, 62] (l.drop b) = true) : attrsL l bs = .ok (3, bs) (b + 2) := by
  subst hb
  unfold attrsL
  rw [attrsF]
  simp only [h1, h2, if_true, Bool.false_eq_true, if_false]
theorem attrsL_form (l : List UInt8) (bs : List AttrD) (b : Nat) (hb : b = skipL l) (h1 : pre [62] (l.drop b) = false) (h2 : pre [47, 62] (l.drop b) = false) (h : b = 0 ∨ l.drop b = []) : attrsL l bs = .bad b 30 := by
  subst hb
  unfold attrsL
  rw [attrsF]
  simp only [h1, h2, Bool.false_eq_true, if_false]
  rw [if_pos h]

theorem allL_nil (at_ : Nat) : allL at_ [] = ([], 0, 0) := by simp [allL, allF]
theorem allL_bad (at_ : Nat) (l : List UInt8) (h : l ≠ []) (k : Nat) (e : Int) (ho : oneT l = .bad k e) : allL at_ l = ([], at_ + k, e) := by
  unfold allL
  rw [allF, if_neg h, ho]
theorem allL_step (at_ : Nat) (l : List UInt8) (h : l ≠ []) (t : TokD) (n : Nat) (ho : oneT l = .ok t n) :
    allL at_ l = if (allL (at_ + n) (l.drop n)).2.2 = 0 then ((at_, t) :: (allL (at_ + n) (l.drop n)).1, 0, 0) else ([], (allL (at_ + n) (l.drop n)).2.1, (allL (at_ + n) (l.drop n)).2.2) := by
  unfold allL
  have := oneT_within l h
  rw [ho] at this
  obtain ⟨c, d⟩ := this
  rw [allF, if_neg h, ho]
  simp only
  rw [allF_more l.length (at_ + n) (l.drop n) ((l.drop n).length + 1) (by rw [List.length_drop]; omega) (by omega)]

/-- what is told of all, behind what was told so far -/
def joinT (acc : List (Nat × TokD)) (r : List (Nat × TokD) × Nat × Int) : List (Nat × TokD) × Nat × Int :=
  if r.2.2 = 0 then (acc ++ r.1, 0, 0) else ([], r.2.1, r.2.2)
theorem joinT_bad (acc : List (Nat × TokD)) (k : Nat) (e : Int) (h : e ≠ 0) : joinT acc ([], k, e) = ([], k, e) := by simp [joinT, h]
theorem joinT_nil (acc : List (Nat × TokD)) : joinT acc ([], 0, 0) = (acc, 0, 0) := by simp [joinT]
theorem joinT_step (acc : List (Nat × TokD)) (at_ : Nat) (l : List UInt8) (h : l ≠ []) (t : TokD) (n : Nat) (ho : oneT l = .ok t n) :
    joinT acc (allL at_ l) = joinT (acc ++ [(at_, t)]) (allL (at_ + n) (l.drop n)) := by
  rw [allL_step at_ l h t n ho]
  unfold joinT
  by_cases h0 : (allL (at_ + n) (l.drop n)).2.2 = 0
  · simp [h0]
  · simp [h0]
theorem joinT_one_bad (acc : List (Nat × TokD)) (at_ : Nat) (l : List UInt8) (h : l ≠ []) (k : Nat) (e : Int) (ho : oneT l = .bad k e) : joinT acc (allL at_ l) = ([], at_ + k, e) := by
  have := oneT_within l h
  rw [ho] at this
  rw [allL_bad at_ l h k e ho, joinT_bad _ _ _ this.2]
end Go.Proofs.Ythifddkmbjnncaa
