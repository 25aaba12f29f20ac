/-
  The plain laws of tokens: blanks, rows, parts: no program in sight.
-/
import Derived.Test.YthifddkmbjnncaaLexLaw
namespace Go.Proofs.Ythifddkmbjnncaa

/-! ## Blanks ahead of the end -/
/-- what a tag may end with -/
def endB (e : List UInt8) : Prop := e = [62] ∨ e = [47, 62]
theorem endB.stops {e : List UInt8} (h : endB e) : ∀ x t, e = x :: t → nb x = false ∧ blankB x = false := by
  rcases h with rfl | rfl <;> intro x t e <;> injection e with e _ <;> subst e <;> decide
theorem endB.quote {e : List UInt8} (h : endB e) : 34 ∉ e := by
  rcases h with rfl | rfl <;> decide

theorem skip_all : ∀ (bl l : List UInt8), bl.all blankB = true → skipL (bl ++ l) = bl.length + skipL l
  | [], l, _ => by simp
  | b :: bl, l, h => by
    simp only [List.all_cons, Bool.and_eq_true] at h
    unfold skipL
    rw [List.cons_append, List.takeWhile_cons, if_pos h.1]
    have := skip_all bl l h.2
    unfold skipL at this
    simp only [List.length_cons, this]; omega
theorem takeWhile_whole {α : Type} (p : α → Bool) : ∀ l : List α, (l.takeWhile p).length = l.length → l.all p = true
  | [], _ => rfl
  | a :: l, h => by
    rw [List.takeWhile_cons] at h
    split at h
    · rename_i hp
      simp only [List.length_cons] at h
      rw [List.all_cons, hp, takeWhile_whole p l (by omega)]; rfl
    · simp at h
theorem skip_stop {e : List UInt8} (he : endB e) (l : List UInt8) : skipL (l ++ e) = skipL l := by
  unfold skipL; rw [takeWhile_stop _ _ _ (fun x t h => (he.stops x t h).2)]
theorem skip_end {e : List UInt8} (he : endB e) : skipL e = 0 := by
  have := skip_stop he []
  simpa [skipL] using this
theorem word_stop {e : List UInt8} (he : endB e) (l : List UInt8) : wordL (l ++ e) = wordL l := takeWhile_stop _ _ _ (fun x t h => (he.stops x t h).1)
theorem word_blanks {e bl : List UInt8} (he : endB e) (hb : bl.all blankB = true) (l : List UInt8) : wordL (l ++ bl ++ e) = wordL l := by
  rw [List.append_assoc]
  refine takeWhile_stop _ _ _ (fun x t h => ?_)
  cases bl with
  | nil => exact (he.stops x t h).1
  | cons b bl =>
    injection h with h _
    subst h
    simp only [List.all_cons, Bool.and_eq_true] at hb
    have := hb.1
    unfold blankB at this
    unfold nb
    simp only [Bool.or_eq_true, beq_iff_eq] at this
    rcases this with (h | h) | h <;> subst h <;> decide

theorem endT_blanks {x bl : List UInt8} {t : TokD} {e : List UInt8} (he : endB e) (hb : bl.all blankB = true) (h : endT (x ++ e) = .ok t (x.length + e.length)) : endT (x ++ bl ++ e) = .ok t (x.length + bl.length + e.length) := by
  unfold endT at h
  simp only [word_stop he] at h
  split at h
  · cases h
  rename_i h1
  split at h
  · rename_i h2
    injection h with ht hn
    have hw := wordL_len x
    rw [drop_more e hw, skip_stop he] at hn
    have hs := skipL_len (x.drop (wordL x).length)
    rw [List.length_drop] at hs
    have hel : e.length = 1 := by rcases he with rfl | rfl <;> simp at * ; omega
    have he1 : e = [62] := by
      rcases he with h | h
      · exact h
      · rw [h] at hel; simp at hel
    subst he1
    have hk : (wordL x).length + skipL (x.drop (wordL x).length) = x.length := by simp at hn; omega
    have hall : (x.drop (wordL x).length).all blankB = true := by
      apply takeWhile_whole
      rw [List.length_drop]; unfold skipL at hk; omega
    unfold endT
    simp only [word_blanks he hb]
    rw [if_neg h1]
    have hd : (x ++ bl ++ [62]).drop (wordL x).length = x.drop (wordL x).length ++ (bl ++ [62]) := by
      rw [List.append_assoc, drop_more _ hw]
    have hsk : skipL ((x ++ bl ++ [62]).drop (wordL x).length) = x.length - (wordL x).length + bl.length := by
      rw [hd, skip_all _ _ hall, skip_all _ _ hb, skip_end he, List.length_drop]; omega
    rw [hsk]
    have hlen : (wordL x).length + (x.length - (wordL x).length + bl.length) = (x ++ bl).length := by simp; omega
    rw [hlen, List.drop_append_of_le_length (Nat.le_refl _), List.drop_length, List.nil_append, if_pos (by decide)]
    rw [ht]; simp
  · cases h

theorem last_drop {x : List UInt8} (h : x.getLast? ≠ some 47) (k : Nat) : (x.drop k).getLast? ≠ some 47 := by
  intro e
  apply h
  rw [List.getLast?_drop] at e
  split at e
  · cases e
  · exact e

theorem attrsF_blanks {e bl : List UInt8} (he : endB e) (hb : bl.all blankB = true) : ∀ (f g : Nat) (x : List UInt8) (bs : List AttrD) (q : Int × List AttrD), f ≤ g → x.getLast? ≠ some 47 → attrsF f (x ++ e) bs = .ok q (x.length + e.length) → attrsF g (x ++ bl ++ e) bs = .ok q (x.length + bl.length + e.length)
  | 0, _, _, _, _, _, _, h => by cases h
  | f + 1, 0, _, _, _, hg, _, _ => by omega
  | f + 1, g + 1, x, bs, q, hg, hx, h => by
    have hsk := skipL_len x
    have he0 : 1 ≤ e.length := by rcases he with rfl | rfl <;> simp
    rw [attrsF] at h
    simp only [skip_stop he] at h
    rw [attrsF]
    by_cases hall : skipL x = x.length
    · have ha : x.all blankB = true := takeWhile_whole _ _ hall
      rw [hall, List.drop_append_of_le_length (Nat.le_refl _), List.drop_length, List.nil_append] at h
      have hs2 : skipL (x ++ bl ++ e) = (x ++ bl).length := by
        rw [List.append_assoc, skip_all _ _ ha, skip_all _ _ hb, skip_end he]; simp
      simp only [hs2]
      rw [List.drop_append_of_le_length (Nat.le_refl _), List.drop_length, List.nil_append]
      rcases he with rfl | rfl
      · rw [if_pos (by decide)] at h ⊢
        injection h with h _
        rw [h]; simp
      · rw [if_neg (by decide), if_pos (by decide)] at h ⊢
        injection h with h _
        rw [h]; simp
    · have hlt : skipL x < x.length := by omega
      have hs2 : skipL (x ++ bl ++ e) = skipL x := by rw [List.append_assoc]; exact skipL_more _ hlt
      simp only [hs2]
      rw [List.append_assoc, drop_more _ hsk]
      rw [drop_more _ hsk] at h
      have hrl : (x.drop (skipL x)).length = x.length - skipL x := List.length_drop
      have hlast := last_drop hx (skipL x)
      have hp1 : pre [62] (x.drop (skipL x) ++ (bl ++ e)) = pre [62] (x.drop (skipL x) ++ e) := by
        rw [pre_more (by rw [hrl]; simp; omega), pre_more (by rw [hrl]; simp; omega)]
      rw [hp1]
      split at h
      · exfalso
        injection h with _ h
        omega
      rename_i h1
      rw [if_neg h1]
      split at h
      · exfalso
        rename_i h2
        injection h with _ h
        have : (x.drop (skipL x)).length = 1 := by omega
        match hd : x.drop (skipL x), this with
        | [c], _ =>
          rw [hd] at h2 hlast
          obtain ⟨t, ht⟩ := pre_cons2 h2
          injection ht with ht _
          subst ht
          exact hlast rfl
      rename_i h2
      split at h
      · cases h
      rename_i h3
      cases ha : attrL (x.drop (skipL x) ++ e) bs with
      | bad k c => rw [ha] at h; cases h
      | ok a n =>
        rw [ha] at h
        simp only at h
        obtain ⟨u, r, hu, hn, hmore⟩ := attrL_parts ha
        have hw3 := attrL_within (x.drop (skipL x) ++ e) bs
        rw [ha] at hw3
        obtain ⟨h3n, _⟩ := hw3
        have hnr : n ≤ (x.drop (skipL x)).length ∧ ∃ r0, x.drop (skipL x) = u ++ [34] ++ r0 := by
          rcases List.append_eq_append_iff.1 hu with ⟨a', h4, h5⟩ | ⟨a', h4, h5⟩
          · -- the attribute reaches into the end
            cases a' with
            | nil =>
              rw [List.append_nil] at h4
              refine ⟨by rw [← h4]; simp; omega, [], by rw [← h4]; simp⟩
            | cons c a' =>
              exfalso
              have hm : (34 : UInt8) ∈ e := by
                have : (u ++ [34]).getLast? = some 34 := by simp
                rw [h4, List.getLast?_append] at this
                simp only [List.getLast?_cons] at this
                have hmem : (34 : UInt8) ∈ c :: a' := by
                  have hg : (c :: a').getLast? = some 34 := by rw [List.getLast?_cons]; simpa using this
                  exact List.mem_of_getLast? hg
                rw [h5]; exact List.mem_append_left _ hmem
              exact he.quote hm
          · exact ⟨by rw [h4]; simp; omega, a', h4⟩
        obtain ⟨hn1, r0, hr0⟩ := hnr
        have ha2 : attrL (x.drop (skipL x) ++ (bl ++ e)) bs = .ok a n := by
          rw [hr0, List.append_assoc]; exact hmore _
        have hp2 : pre [47, 62] (x.drop (skipL x) ++ (bl ++ e)) = false := by
          rw [pre_more (by simp; omega)]
          rw [pre_more (by simp; omega)] at h2
          simpa using h2
        rw [hp2, if_neg (by decide), if_neg (by
          intro hh
          rcases hh with hh | hh
          · exact h3 (.inl hh)
          · have := congrArg List.length (List.append_eq_nil_iff.1 hh).1
            rw [hrl] at this; simp at this; omega), ha2]
        simp only
        rw [drop_more _ hn1] at h ⊢
        cases hq : attrsF f ((x.drop (skipL x)).drop n ++ e) (bs ++ [a]) with
        | bad k c => rw [hq] at h; cases h
        | ok y m =>
          rw [hq] at h
          injection h with hy hm
          subst hy
          have hm' : m = ((x.drop (skipL x)).drop n).length + e.length := by rw [List.length_drop, hrl]; omega
          rw [hm'] at hq
          have ih := attrsF_blanks he hb f g ((x.drop (skipL x)).drop n) (bs ++ [a]) y (by omega) (last_drop hlast n) hq
          rw [List.append_assoc] at ih
          rw [ih]
          simp only [Told.past, List.length_drop, Told.ok.injEq, true_and]
          omega
theorem beginT_blanks {x bl e : List UInt8} {t : TokD} (he : endB e) (hb : bl.all blankB = true) (hx : x.getLast? ≠ some 47) (h : beginT (x ++ e) = .ok t (x.length + e.length)) : beginT (x ++ bl ++ e) = .ok t (x.length + bl.length + e.length) := by
  have hw := wordL_len x
  unfold beginT at h
  simp only [word_stop he] at h
  split at h
  · cases h
  rename_i h1
  rw [drop_more _ hw] at h
  cases hq : attrsF ((x ++ e).length + 1) (x.drop (wordL x).length ++ e) [] with
  | bad k c => rw [hq] at h; cases h
  | ok q m =>
    rw [hq] at h
    injection h with ht hm
    have hm' : m = (x.drop (wordL x).length).length + e.length := by rw [List.length_drop]; omega
    rw [hm'] at hq
    have := attrsF_blanks he hb _ ((x ++ bl ++ e).length + 1) _ _ _ (by simp) (last_drop hx _) hq
    unfold beginT
    simp only [word_blanks he hb]
    rw [if_neg h1, show (x ++ bl ++ e).drop (wordL x).length = x.drop (wordL x).length ++ bl ++ e by rw [List.append_assoc, drop_more _ hw, List.append_assoc], this]
    simp only [ht, List.length_drop, Told.ok.injEq, true_and]
    omega

/-- a beginning, or an end, whose name is not empty and does not end with a slash -/
theorem oneT_blanks {n bl e : List UInt8} {t : TokD} (he : endB e) (hb : bl.all blankB = true) (hn : n ≠ []) (hx : n.getLast? ≠ some 47) (h : oneT (60 :: n ++ e) = .ok t (60 :: n ++ e).length) : oneT (60 :: n ++ bl ++ e) = .ok t (60 :: n ++ bl ++ e).length := by
  cases n with
  | nil => exact absurd rfl hn
  | cons c n =>
    by_cases hc : c = 47
    · subst hc
      have p1 : pre [60, 47] (60 :: 47 :: n ++ e) = true := by simp [pre]
      have p2 : pre [60, 47] (60 :: 47 :: n ++ bl ++ e) = true := by simp [pre]
      unfold oneT at h ⊢
      rw [if_pos p1] at h
      rw [if_pos p2]
      have d1 : (60 :: 47 :: n ++ e).drop 2 = n ++ e := rfl
      have d2 : (60 :: 47 :: n ++ bl ++ e).drop 2 = n ++ bl ++ e := rfl
      rw [d1] at h
      rw [d2]
      cases hq : endT (n ++ e) with
      | bad k c => rw [hq] at h; cases h
      | ok u m =>
        rw [hq] at h
        injection h with ht hm
        have hm' : m = n.length + e.length := by simp at hm; omega
        rw [hm'] at hq
        rw [endT_blanks he hb hq, ← ht]
        simp only [Told.past, List.length_append, List.length_cons, Told.ok.injEq, true_and]
        omega
    · have p1 : ∀ r, pre [60, 47] (60 :: c :: r) = false := fun r => by simp [pre, hc]
      have p2 : ∀ r, pre [60] (60 :: c :: r) = true := fun r => by simp [pre]
      unfold oneT at h ⊢
      simp only [List.cons_append, p1, p2, Bool.false_eq_true, if_false, if_true] at h ⊢
      have d1 : ∀ r, (60 :: c :: r).drop 1 = c :: r := fun _ => rfl
      rw [d1] at h ⊢
      cases hq : beginT (c :: (n ++ e)) with
      | bad k c => rw [hq] at h; cases h
      | ok u m =>
        rw [hq] at h
        injection h with ht hm
        have hm' : m = (c :: n).length + e.length := by simp at hm ⊢; omega
        rw [hm'] at hq
        have := beginT_blanks (x := c :: n) he hb hx hq
        rw [List.cons_append, List.cons_append] at this
        rw [this, ← ht]
        simp only [Told.past, List.length_append, List.length_cons, Told.ok.injEq, true_and]
        omega
theorem oneT_blanks_end {n bl : List UInt8} {t : TokD} (hb : bl.all blankB = true) (h : oneT (60 :: 47 :: n ++ [62]) = .ok t (60 :: 47 :: n ++ [62]).length) : oneT (60 :: 47 :: n ++ bl ++ [62]) = .ok t (60 :: 47 :: n ++ bl ++ [62]).length := by
  have he : endB [62] := .inl rfl
  have p1 : pre [60, 47] (60 :: 47 :: n ++ [62]) = true := by simp [pre]
  have p2 : pre [60, 47] (60 :: 47 :: n ++ bl ++ [62]) = true := by simp [pre]
  unfold oneT at h ⊢
  rw [if_pos p1] at h
  rw [if_pos p2]
  have d1 : (60 :: 47 :: n ++ [62]).drop 2 = n ++ [62] := rfl
  have d2 : (60 :: 47 :: n ++ bl ++ [62]).drop 2 = n ++ bl ++ [62] := rfl
  rw [d1] at h
  rw [d2]
  cases hq : endT (n ++ [62]) with
  | bad k c => rw [hq] at h; cases h
  | ok u m =>
    rw [hq] at h
    injection h with ht hm
    have hm' : m = n.length + [62].length := by simp at hm ⊢; omega
    rw [hm'] at hq
    rw [endT_blanks he hb hq, ← ht]
    simp only [Told.past, List.length_append, List.length_cons, Told.ok.injEq, true_and]
    omega
end Go.Proofs.Ythifddkmbjnncaa
