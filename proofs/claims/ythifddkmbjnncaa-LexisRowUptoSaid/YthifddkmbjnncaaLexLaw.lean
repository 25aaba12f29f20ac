/-
  The plain laws of tokens: what stands behind, blanks, rows, parts: no program in sight.
-/
import Derived.Test.YthifddkmbjnncaaSortPlain
import Derived.Test.YthifddkmbjnncaaLawPlain
namespace Go.Proofs.Ythifddkmbjnncaa

/-! ## What stands behind is no matter -/
theorem takeWhile_more {α : Type} (p : α → Bool) : ∀ (l m : List α), (l.takeWhile p).length < l.length → (l ++ m).takeWhile p = l.takeWhile p
  | [], _, h => by simp at h
  | a :: l, m, h => by
    rw [List.cons_append, List.takeWhile_cons, List.takeWhile_cons] at *
    split
    · rename_i hp
      rw [if_pos hp] at h
      rw [takeWhile_more p l m (by simp at h; omega)]
    · rfl
theorem takeWhile_stop {α : Type} (p : α → Bool) : ∀ (l : List α) (m : List α), (∀ x t, m = x :: t → p x = false) → (l ++ m).takeWhile p = l.takeWhile p
  | [], [], _ => rfl
  | [], x :: t, h => by rw [List.nil_append, List.takeWhile_cons, h x t rfl]; rfl
  | a :: l, m, h => by
    rw [List.cons_append, List.takeWhile_cons, List.takeWhile_cons]
    split
    · rw [takeWhile_stop p l m h]
    · rfl
theorem takeWhile_twice {α : Type} (p : α → Bool) : ∀ l : List α, (l.takeWhile p).takeWhile p = l.takeWhile p
  | [] => rfl
  | a :: l => by
    rw [List.takeWhile_cons]
    split
    · rename_i h; rw [List.takeWhile_cons, if_pos h, takeWhile_twice p l]
    · rfl
theorem pre_more {p l m : List UInt8} (h : p.length ≤ l.length) : pre p (l ++ m) = pre p l := by
  unfold pre; rw [List.take_append_of_le_length h]
theorem drop_more {α : Type} {l : List α} {k : Nat} (m : List α) (h : k ≤ l.length) : (l ++ m).drop k = l.drop k ++ m := List.drop_append_of_le_length h

theorem wordL_more {l : List UInt8} (m : List UInt8) (h : (wordL l).length < l.length) : wordL (l ++ m) = wordL l := takeWhile_more _ _ _ h
theorem skipL_more {l : List UInt8} (m : List UInt8) (h : skipL l < l.length) : skipL (l ++ m) = skipL l := by
  unfold skipL; rw [takeWhile_more _ _ _ h]

theorem endT_more {l : List UInt8} {t : TokD} {n : Nat} (m : List UInt8) (h : endT l = .ok t n) : endT (l ++ m) = .ok t n := by
  have h0 := h
  unfold endT at h
  simp only at h
  split at h
  · cases h
  split at h
  · rename_i h1 h2
    have hk := pre1_len h2
    have hw := wordL_len l
    have e1 : wordL (l ++ m) = wordL l := wordL_more m (by omega)
    have e2 : skipL ((l ++ m).drop (wordL l).length) = skipL (l.drop (wordL l).length) := by
      rw [drop_more m hw]; exact skipL_more m (by rw [List.length_drop]; omega)
    rw [← h0]
    unfold endT
    simp only [e1, e2]
    rw [drop_more m (by omega), pre_more (by rw [List.length_drop]; simp; omega)]
  · cases h

theorem span_word (l : List UInt8) (p : UInt8 → Bool) : l = l.takeWhile p ++ l.drop (l.takeWhile p).length := by
  have h := List.takeWhile_append_dropWhile (p := p) (l := l)
  have h2 : l.dropWhile p = l.drop (l.takeWhile p).length := by
    conv => rhs; rw [← h]
    rw [show (List.takeWhile p (List.takeWhile p l ++ List.dropWhile p l)) = List.takeWhile p l by rw [h]]
    rw [List.drop_append_of_le_length (Nat.le_refl _), List.drop_length, List.nil_append]
  rw [← h2, h]
theorem pre_cons {c : UInt8} {l : List UInt8} (h : pre [c] l = true) : ∃ t, l = c :: t := by
  cases l with
  | nil => simp [pre] at h
  | cons a t =>
    have := eq_of_beq h
    simp at this
    exact ⟨t, by rw [this]⟩
theorem pre_cons2 {c d : UInt8} {l : List UInt8} (h : pre [c, d] l = true) : ∃ t, l = c :: d :: t := by
  match l, h with
  | [], h => simp [pre] at h
  | [a], h => simp [pre] at h
  | a :: b :: t, h =>
    have := eq_of_beq h
    simp at this
    exact ⟨t, by rw [this.1, this.2]⟩

/-- an attribute: the bytes that it is read of, the last of them a quote -/
theorem attrL_parts {l : List UInt8} {bs : List AttrD} {a : AttrD} {n : Nat} (h : attrL l bs = .ok a n) :
    ∃ u r, l = u ++ [34] ++ r ∧ u.length + 1 = n ∧ ∀ r', attrL (u ++ [34] ++ r') bs = .ok a n := by
  unfold attrL at h
  simp only at h
  split at h
  · cases h
  rename_i h1
  split at h
  · cases h
  rename_i h2
  split at h
  · cases h
  rename_i h3
  split at h
  · cases h
  rename_i h4
  split at h
  · cases h
  rename_i h5
  obtain ⟨t, ht⟩ := pre_cons (by simpa using h4)
  obtain ⟨t', ht'⟩ := pre_cons (by simpa using h5)
  have hl := span_word l nb
  have e1 : l.drop ((wordL l).length + 1) = t := by rw [← List.drop_drop, ht]; rfl
  rw [e1] at ht'
  have e2 : l.drop ((wordL l).length + 2) = t' := by
    rw [show (wordL l).length + 2 = (wordL l).length + 1 + 1 from rfl, ← List.drop_drop, e1, ht']; rfl
  rw [e2] at h
  unfold valueT at h
  simp only at h
  split at h
  · cases h
  rename_i h6
  split at h
  · cases h
  rename_i h7
  split at h
  · cases h
  rename_i h8
  have hv := takeWhile_len (· != 34) t'
  obtain ⟨x, r, hx⟩ : ∃ x r, t'.drop (t'.takeWhile (· != 34)).length = x :: r := by
    cases hd : t'.drop (t'.takeWhile (· != 34)).length with
    | nil => have := congrArg List.length hd; simp at this; omega
    | cons x r => exact ⟨x, r, rfl⟩
  have hsp := span_word t' (· != 34)
  have hx34 : x = 34 := by
    have hd : t'.dropWhile (· != 34) = x :: r := by
      have h' := List.takeWhile_append_dropWhile (p := (· != 34)) (l := t')
      have := h'.trans hsp
      rw [hx] at this
      exact List.append_cancel_left this
    have := List.head?_dropWhile_not (· != 34) t'
    rw [hd] at this
    simpa using this
  subst hx34
  rw [hx] at hsp
  have hfull : l = wordL l ++ 61 :: 34 :: (t'.takeWhile (· != 34)) ++ [34] ++ r := by
    conv => lhs; rw [hl]
    show wordL l ++ l.drop (wordL l).length = _
    rw [ht, ht', hsp]
    simp [hsp.symm]
  refine ⟨wordL l ++ 61 :: 34 :: (t'.takeWhile (· != 34)), r, hfull, ?_, fun r' => ?_⟩
  · injection h with _ h; simp; omega
  · have f0 : ∀ y : List UInt8, (wordL l ++ 61 :: y).takeWhile nb = wordL l := fun y => by
      rw [takeWhile_stop nb _ _ (fun x t e => by injection e with e _; subst e; rfl)]
      unfold wordL
      exact takeWhile_twice nb l
    have g0 : ∀ y : List UInt8, (t'.takeWhile (· != 34) ++ 34 :: y).takeWhile (· != 34) = t'.takeWhile (· != 34) := fun y => by
      rw [takeWhile_stop _ _ _ (fun x t e => by injection e with e _; subst e; rfl)]
      exact takeWhile_twice _ t'
    have f1 : wordL (wordL l ++ 61 :: 34 :: (t'.takeWhile (· != 34)) ++ [34] ++ r') = wordL l := by
      rw [List.append_assoc, List.append_assoc]; exact f0 _
    unfold attrL
    simp only [f1]
    rw [if_neg h1, if_neg h2, if_neg h3]
    have d0 : (wordL l ++ 61 :: 34 :: (t'.takeWhile (· != 34)) ++ [34] ++ r').drop (wordL l).length = 61 :: 34 :: (t'.takeWhile (· != 34) ++ 34 :: r') := by
      rw [List.append_assoc, List.append_assoc, List.drop_append_of_le_length (Nat.le_refl _), List.drop_length]; simp
    have d1 : (wordL l ++ 61 :: 34 :: (t'.takeWhile (· != 34)) ++ [34] ++ r').drop ((wordL l).length + 1) = 34 :: (t'.takeWhile (· != 34) ++ 34 :: r') := by
      rw [← List.drop_drop, d0]; rfl
    have d2 : (wordL l ++ 61 :: 34 :: (t'.takeWhile (· != 34)) ++ [34] ++ r').drop ((wordL l).length + 2) = t'.takeWhile (· != 34) ++ 34 :: r' := by
      rw [show (wordL l).length + 2 = (wordL l).length + 1 + 1 from rfl, ← List.drop_drop, d1]; rfl
    rw [d0, d1, d2, if_neg (by simp [pre]), if_neg (by simp [pre])]
    unfold valueT
    simp only [g0]
    rw [if_neg (by simp), if_neg h7, if_neg h8]
    exact h
theorem attrL_more {l : List UInt8} {bs : List AttrD} {a : AttrD} {n : Nat} (m : List UInt8) (h : attrL l bs = .ok a n) : attrL (l ++ m) bs = .ok a n := by
  obtain ⟨u, r, hl, _, ha⟩ := attrL_parts h
  rw [hl, List.append_assoc]; exact ha _

theorem attrsF_past (m : List UInt8) : ∀ (f g : Nat) (l : List UInt8) (bs : List AttrD) (q : Int × List AttrD) (n : Nat), f ≤ g → attrsF f l bs = .ok q n → attrsF g (l ++ m) bs = .ok q n
  | 0, _, _, _, _, _, _, h => by cases h
  | f + 1, 0, _, _, _, _, hg, _ => by omega
  | f + 1, g + 1, l, bs, q, n, hg, h => by
    have h0 := h
    have hin := attrsF_within (f + 1) l bs
    rw [h] at hin
    rw [attrsF] at h
    have hsk := skipL_len l
    by_cases hb : skipL l = l.length
    · exfalso
      have : l.drop (skipL l) = [] := by rw [hb]; exact List.drop_length
      rw [this] at h
      rw [if_neg (by simp [pre]), if_neg (by simp [pre]), if_pos (.inr rfl)] at h
      cases h
    have e1 : skipL (l ++ m) = skipL l := skipL_more m (by omega)
    have e2 : (l ++ m).drop (skipL l) = l.drop (skipL l) ++ m := drop_more m hsk
    have e3 : pre [62] (l.drop (skipL l) ++ m) = pre [62] (l.drop (skipL l)) := pre_more (by rw [List.length_drop]; simp; omega)
    rw [attrsF]
    simp only [e1, e2, e3]
    split at h
    · rename_i h1; rw [if_pos h1]; exact h
    rename_i h1
    rw [if_neg h1]
    split at h
    · rename_i h2
      rw [pre_more (pre_len h2), if_pos h2]; exact h
    rename_i h2
    split at h
    · cases h
    rename_i h3
    cases ha : attrL (l.drop (skipL l)) bs with
    | bad k e => rw [ha] at h; cases h
    | ok a k =>
      rw [ha] at h
      have hw := attrL_within (l.drop (skipL l)) bs
      rw [ha, List.length_drop] at hw
      obtain ⟨w1, w2⟩ := hw
      rw [pre_more (by rw [List.length_drop]; simp; omega), if_neg h2, if_neg (by
        intro hh
        rcases hh with hh | hh
        · exact h3 (.inl hh)
        · exact h3 (.inr (List.append_eq_nil_iff.1 hh).1))]
      rw [attrL_more m ha]
      simp only at h ⊢
      rw [drop_more m (by rw [List.length_drop]; omega)]
      cases hq : attrsF f ((l.drop (skipL l)).drop k) (bs ++ [a]) with
      | bad k e => rw [hq] at h; cases h
      | ok r j => rw [hq] at h; rw [attrsF_past m f g _ _ _ _ (by omega) hq]; exact h
theorem beginT_more {l : List UInt8} {t : TokD} {n : Nat} (m : List UInt8) (h : beginT l = .ok t n) : beginT (l ++ m) = .ok t n := by
  unfold beginT at h
  simp only at h
  split at h
  · cases h
  rename_i h1
  cases hq : attrsF (l.length + 1) (l.drop (wordL l).length) [] with
  | bad k e => rw [hq] at h; cases h
  | ok q k =>
    rw [hq] at h
    have hw := attrsF_within (l.length + 1) (l.drop (wordL l).length) []
    rw [hq, List.length_drop] at hw
    obtain ⟨w1, w2⟩ := hw
    have e1 : wordL (l ++ m) = wordL l := wordL_more m (by omega)
    unfold beginT
    simp only [e1]
    rw [if_neg h1, drop_more m (wordL_len l), attrsF_past m (l.length + 1) _ _ _ _ _ (by simp) hq]
    exact h
theorem oneT_more {l : List UInt8} {t : TokD} {n : Nat} (m : List UInt8) (h : oneT l = .ok t n) (hk : t.kind ≠ 4) : oneT (l ++ m) = .ok t n := by
  unfold oneT at h
  split at h
  · rename_i h1
    unfold oneT
    rw [pre_more (pre_len h1), if_pos h1, drop_more m (by have := pre_len h1; simpa using this)]
    cases he : endT (l.drop 2) with
    | bad k e => rw [he] at h; cases h
    | ok u k => rw [he] at h; rw [endT_more m he]; exact h
  · rename_i h1
    split at h
    · rename_i h2
      cases hb : beginT (l.drop 1) with
      | bad k e => rw [hb] at h; cases h
      | ok u k =>
        rw [hb] at h
        have hw := beginT_within (l.drop 1)
        rw [hb, List.length_drop] at hw
        obtain ⟨w1, w2⟩ := hw
        unfold oneT
        rw [pre_more (by simp; omega), if_neg h1, pre_more (pre_len h2), if_pos h2, drop_more m (by omega), beginT_more m hb]; exact h
    · exfalso
      unfold textT at h
      simp only at h
      split at h
      · cases h
      split at h
      · cases h
      · injection h with h _; subst h; exact hk rfl
end Go.Proofs.Ythifddkmbjnncaa
