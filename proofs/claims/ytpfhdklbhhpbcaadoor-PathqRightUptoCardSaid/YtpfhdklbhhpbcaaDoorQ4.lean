/-
  Texts of this claim, joined (by a program of the claim's author): LexLaw2, LexLaw3, BackTok, PathPlain, Pq1, Pq2, Pq3.
-/
import Derived.Test.YtpfhdklbhhpbcaaDoorQ3
import Derived.Test.YtpfhdklbhhpbcaaDoorQ1
import Derived.Test.YtpfhdklbhhpbcaaDoorQ2
import Derived.Lib.BufferOwn
import Derived.Deep.RegionHeld3
import Derived.Deep.LoopGhost
import Derived.StillTailTactics
/-
  The plain laws of tokens: blanks, rows, parts: no program in sight.
-/
namespace Go.Proofs.YtpfhdklbhhpbcaaDoor

/-! ## Blanks ahead of the end -/
/-- what a tag may end with -/
def endB (e : List UInt8) : Prop := e = [62] ∨ e = [47, 62]
theorem endB.stops {e : List UInt8} (h : endB e) : ∀ x t, e = x :: t → nb x = false ∧ blankB x = false := by
  rcases h with rfl | rfl <;> intro x t e <;> injection e with e _ <;> subst e <;> decide
theorem endB.quote {e : List UInt8} (h : endB e) : 34 ∉ e := by
  rcases h with rfl | rfl <;> decide

theorem skip_all : ∀ (bl l : List UInt8), bl.all blankB = true → skipL (bl ++ l) = bl.length + skipL l
  | [], l, _ => by simp
  | b :: bl, l, h => by
    simp only [List.all_cons, Bool.and_eq_true] at h
    unfold skipL
    rw [List.cons_append, List.takeWhile_cons, if_pos h.1]
    have := skip_all bl l h.2
    unfold skipL at this
    simp only [List.length_cons, this]; omega
theorem takeWhile_whole {α : Type} (p : α → Bool) : ∀ l : List α, (l.takeWhile p).length = l.length → l.all p = true
  | [], _ => rfl
  | a :: l, h => by
    rw [List.takeWhile_cons] at h
    split at h
    · rename_i hp
      simp only [List.length_cons] at h
      rw [List.all_cons, hp, takeWhile_whole p l (by omega)]; rfl
    · simp at h
theorem skip_stop {e : List UInt8} (he : endB e) (l : List UInt8) : skipL (l ++ e) = skipL l := by
  unfold skipL; rw [takeWhile_stop _ _ _ (fun x t h => (he.stops x t h).2)]
theorem skip_end {e : List UInt8} (he : endB e) : skipL e = 0 := by
  have := skip_stop he []
  simpa [skipL] using this
theorem word_stop {e : List UInt8} (he : endB e) (l : List UInt8) : wordL (l ++ e) = wordL l := takeWhile_stop _ _ _ (fun x t h => (he.stops x t h).1)
theorem word_blanks {e bl : List UInt8} (he : endB e) (hb : bl.all blankB = true) (l : List UInt8) : wordL (l ++ bl ++ e) = wordL l := by
  rw [List.append_assoc]
  refine takeWhile_stop _ _ _ (fun x t h => ?_)
  cases bl with
  | nil => exact (he.stops x t h).1
  | cons b bl =>
    injection h with h _
    subst h
    simp only [List.all_cons, Bool.and_eq_true] at hb
    have := hb.1
    unfold blankB at this
    unfold nb
    simp only [Bool.or_eq_true, beq_iff_eq] at this
    rcases this with (h | h) | h <;> subst h <;> decide

theorem endT_blanks {x bl : List UInt8} {t : TokD} {e : List UInt8} (he : endB e) (hb : bl.all blankB = true) (h : endT (x ++ e) = .ok t (x.length + e.length)) : endT (x ++ bl ++ e) = .ok t (x.length + bl.length + e.length) := by
  unfold endT at h
  simp only [word_stop he] at h
  split at h
  · cases h
  rename_i h1
  split at h
  · rename_i h2
    injection h with ht hn
    have hw := wordL_len x
    rw [drop_more e hw, skip_stop he] at hn
    have hs := skipL_len (x.drop (wordL x).length)
    rw [List.length_drop] at hs
    have hel : e.length = 1 := by rcases he with rfl | rfl <;> simp at * ; omega
    have he1 : e = [62] := by
      rcases he with h | h
      · exact h
      · rw [h] at hel; simp at hel
    subst he1
    have hk : (wordL x).length + skipL (x.drop (wordL x).length) = x.length := by simp at hn; omega
    have hall : (x.drop (wordL x).length).all blankB = true := by
      apply takeWhile_whole
      rw [List.length_drop]; unfold skipL at hk; omega
    unfold endT
    simp only [word_blanks he hb]
    rw [if_neg h1]
    have hd : (x ++ bl ++ [62]).drop (wordL x).length = x.drop (wordL x).length ++ (bl ++ [62]) := by
      rw [List.append_assoc, drop_more _ hw]
    have hsk : skipL ((x ++ bl ++ [62]).drop (wordL x).length) = x.length - (wordL x).length + bl.length := by
      rw [hd, skip_all _ _ hall, skip_all _ _ hb, skip_end he, List.length_drop]; omega
    rw [hsk]
    have hlen : (wordL x).length + (x.length - (wordL x).length + bl.length) = (x ++ bl).length := by simp; omega
    rw [hlen, List.drop_append_of_le_length (Nat.le_refl _), List.drop_length, List.nil_append, if_pos (by decide)]
    rw [ht]; simp
  · cases h

theorem last_drop {x : List UInt8} (h : x.getLast? ≠ some 47) (k : Nat) : (x.drop k).getLast? ≠ some 47 := by
  intro e
  apply h
  rw [List.getLast?_drop] at e
  split at e
  · cases e
  · exact e

theorem attrsF_blanks {e bl : List UInt8} (he : endB e) (hb : bl.all blankB = true) : ∀ (f g : Nat) (x : List UInt8) (bs : List AttrD) (q : Int × List AttrD), f ≤ g → x.getLast? ≠ some 47 → attrsF f (x ++ e) bs = .ok q (x.length + e.length) → attrsF g (x ++ bl ++ e) bs = .ok q (x.length + bl.length + e.length)
  | 0, _, _, _, _, _, _, h => by cases h
  | f + 1, 0, _, _, _, hg, _, _ => by omega
  | f + 1, g + 1, x, bs, q, hg, hx, h => by
    have hsk := skipL_len x
    have he0 : 1 ≤ e.length := by rcases he with rfl | rfl <;> simp
    rw [attrsF] at h
    simp only [skip_stop he] at h
    rw [attrsF]
    by_cases hall : skipL x = x.length
    · have ha : x.all blankB = true := takeWhile_whole _ _ hall
      rw [hall, List.drop_append_of_le_length (Nat.le_refl _), List.drop_length, List.nil_append] at h
      have hs2 : skipL (x ++ bl ++ e) = (x ++ bl).length := by
        rw [List.append_assoc, skip_all _ _ ha, skip_all _ _ hb, skip_end he]; simp
      simp only [hs2]
      rw [List.drop_append_of_le_length (Nat.le_refl _), List.drop_length, List.nil_append]
      rcases he with rfl | rfl
      · rw [if_pos (by decide)] at h ⊢
        injection h with h _
        rw [h]; simp
      · rw [if_neg (by decide), if_pos (by decide)] at h ⊢
        injection h with h _
        rw [h]; simp
    · have hlt : skipL x < x.length := by omega
      have hs2 : skipL (x ++ bl ++ e) = skipL x := by rw [List.append_assoc]; exact skipL_more _ hlt
      simp only [hs2]
      rw [List.append_assoc, drop_more _ hsk]
      rw [drop_more _ hsk] at h
      have hrl : (x.drop (skipL x)).length = x.length - skipL x := List.length_drop
      have hlast := last_drop hx (skipL x)
      have hp1 : pre [62] (x.drop (skipL x) ++ (bl ++ e)) = pre [62] (x.drop (skipL x) ++ e) := by
        rw [pre_more (by rw [hrl]; simp; omega), pre_more (by rw [hrl]; simp; omega)]
      rw [hp1]
      split at h
      · exfalso
        injection h with _ h
        omega
      rename_i h1
      rw [if_neg h1]
      split at h
      · exfalso
        rename_i h2
        injection h with _ h
        have : (x.drop (skipL x)).length = 1 := by omega
        match hd : x.drop (skipL x), this with
        | [c], _ =>
          rw [hd] at h2 hlast
          obtain ⟨t, ht⟩ := pre_cons2 h2
          injection ht with ht _
          subst ht
          exact hlast rfl
      rename_i h2
      split at h
      · cases h
      rename_i h3
      cases ha : attrL (x.drop (skipL x) ++ e) bs with
      | bad k c => rw [ha] at h; cases h
      | ok a n =>
        rw [ha] at h
        simp only at h
        obtain ⟨u, r, hu, hn, hmore⟩ := attrL_parts ha
        have hw3 := attrL_within (x.drop (skipL x) ++ e) bs
        rw [ha] at hw3
        obtain ⟨h3n, _⟩ := hw3
        have hnr : n ≤ (x.drop (skipL x)).length ∧ ∃ r0, x.drop (skipL x) = u ++ [34] ++ r0 := by
          rcases List.append_eq_append_iff.1 hu with ⟨a', h4, h5⟩ | ⟨a', h4, h5⟩
          · -- the attribute reaches into the end
            cases a' with
            | nil =>
              rw [List.append_nil] at h4
              refine ⟨by rw [← h4]; simp; omega, [], by rw [← h4]; simp⟩
            | cons c a' =>
              exfalso
              have hm : (34 : UInt8) ∈ e := by
                have : (u ++ [34]).getLast? = some 34 := by simp
                rw [h4, List.getLast?_append] at this
                simp only [List.getLast?_cons] at this
                have hmem : (34 : UInt8) ∈ c :: a' := by
                  have hg : (c :: a').getLast? = some 34 := by rw [List.getLast?_cons]; simpa using this
                  exact List.mem_of_getLast? hg
                rw [h5]; exact List.mem_append_left _ hmem
              exact he.quote hm
          · exact ⟨by rw [h4]; simp; omega, a', h4⟩
        obtain ⟨hn1, r0, hr0⟩ := hnr
        have ha2 : attrL (x.drop (skipL x) ++ (bl ++ e)) bs = .ok a n := by
          rw [hr0, List.append_assoc]; exact hmore _
        have hp2 : pre [47, 62] (x.drop (skipL x) ++ (bl ++ e)) = false := by
          rw [pre_more (by simp; omega)]
          rw [pre_more (by simp; omega)] at h2
          simpa using h2
        rw [hp2, if_neg (by decide), if_neg (by
          intro hh
          rcases hh with hh | hh
          · exact h3 (.inl hh)
          · have := congrArg List.length (List.append_eq_nil_iff.1 hh).1
            rw [hrl] at this; simp at this; omega), ha2]
        simp only
        rw [drop_more _ hn1] at h ⊢
        cases hq : attrsF f ((x.drop (skipL x)).drop n ++ e) (bs ++ [a]) with
        | bad k c => rw [hq] at h; cases h
        | ok y m =>
          rw [hq] at h
          injection h with hy hm
          subst hy
          have hm' : m = ((x.drop (skipL x)).drop n).length + e.length := by rw [List.length_drop, hrl]; omega
          rw [hm'] at hq
          have ih := attrsF_blanks he hb f g ((x.drop (skipL x)).drop n) (bs ++ [a]) y (by omega) (last_drop hlast n) hq
          rw [List.append_assoc] at ih
          rw [ih]
          simp only [Told.past, List.length_drop, Told.ok.injEq, true_and]
          omega
theorem beginT_blanks {x bl e : List UInt8} {t : TokD} (he : endB e) (hb : bl.all blankB = true) (hx : x.getLast? ≠ some 47) (h : beginT (x ++ e) = .ok t (x.length + e.length)) : beginT (x ++ bl ++ e) = .ok t (x.length + bl.length + e.length) := by
  have hw := wordL_len x
  unfold beginT at h
  simp only [word_stop he] at h
  split at h
  · cases h
  rename_i h1
  rw [drop_more _ hw] at h
  cases hq : attrsF ((x ++ e).length + 1) (x.drop (wordL x).length ++ e) [] with
  | bad k c => rw [hq] at h; cases h
  | ok q m =>
    rw [hq] at h
    injection h with ht hm
    have hm' : m = (x.drop (wordL x).length).length + e.length := by rw [List.length_drop]; omega
    rw [hm'] at hq
    have := attrsF_blanks he hb _ ((x ++ bl ++ e).length + 1) _ _ _ (by simp) (last_drop hx _) hq
    unfold beginT
    simp only [word_blanks he hb]
    rw [if_neg h1, show (x ++ bl ++ e).drop (wordL x).length = x.drop (wordL x).length ++ bl ++ e by rw [List.append_assoc, drop_more _ hw, List.append_assoc], this]
    simp only [ht, List.length_drop, Told.ok.injEq, true_and]
    omega

/-- a beginning, or an end, whose name is not empty and does not end with a slash -/
theorem oneT_blanks {n bl e : List UInt8} {t : TokD} (he : endB e) (hb : bl.all blankB = true) (hn : n ≠ []) (hx : n.getLast? ≠ some 47) (h : oneT (60 :: n ++ e) = .ok t (60 :: n ++ e).length) : oneT (60 :: n ++ bl ++ e) = .ok t (60 :: n ++ bl ++ e).length := by
  cases n with
  | nil => exact absurd rfl hn
  | cons c n =>
    by_cases hc : c = 47
    · subst hc
      have p1 : pre [60, 47] (60 :: 47 :: n ++ e) = true := by simp [pre]
      have p2 : pre [60, 47] (60 :: 47 :: n ++ bl ++ e) = true := by simp [pre]
      unfold oneT at h ⊢
      rw [if_pos p1] at h
      rw [if_pos p2]
      have d1 : (60 :: 47 :: n ++ e).drop 2 = n ++ e := rfl
      have d2 : (60 :: 47 :: n ++ bl ++ e).drop 2 = n ++ bl ++ e := rfl
      rw [d1] at h
      rw [d2]
      cases hq : endT (n ++ e) with
      | bad k c => rw [hq] at h; cases h
      | ok u m =>
        rw [hq] at h
        injection h with ht hm
        have hm' : m = n.length + e.length := by simp at hm; omega
        rw [hm'] at hq
        rw [endT_blanks he hb hq, ← ht]
        simp only [Told.past, List.length_append, List.length_cons, Told.ok.injEq, true_and]
        omega
    · have p1 : ∀ r, pre [60, 47] (60 :: c :: r) = false := fun r => by simp [pre, hc]
      have p2 : ∀ r, pre [60] (60 :: c :: r) = true := fun r => by simp [pre]
      unfold oneT at h ⊢
      simp only [List.cons_append, p1, p2, Bool.false_eq_true, if_false, if_true] at h ⊢
      have d1 : ∀ r, (60 :: c :: r).drop 1 = c :: r := fun _ => rfl
      rw [d1] at h ⊢
      cases hq : beginT (c :: (n ++ e)) with
      | bad k c => rw [hq] at h; cases h
      | ok u m =>
        rw [hq] at h
        injection h with ht hm
        have hm' : m = (c :: n).length + e.length := by simp at hm ⊢; omega
        rw [hm'] at hq
        have := beginT_blanks (x := c :: n) he hb hx hq
        rw [List.cons_append, List.cons_append] at this
        rw [this, ← ht]
        simp only [Told.past, List.length_append, List.length_cons, Told.ok.injEq, true_and]
        omega
theorem oneT_blanks_end {n bl : List UInt8} {t : TokD} (hb : bl.all blankB = true) (h : oneT (60 :: 47 :: n ++ [62]) = .ok t (60 :: 47 :: n ++ [62]).length) : oneT (60 :: 47 :: n ++ bl ++ [62]) = .ok t (60 :: 47 :: n ++ bl ++ [62]).length := by
  have he : endB [62] := .inl rfl
  have p1 : pre [60, 47] (60 :: 47 :: n ++ [62]) = true := by simp [pre]
  have p2 : pre [60, 47] (60 :: 47 :: n ++ bl ++ [62]) = true := by simp [pre]
  unfold oneT at h ⊢
  rw [if_pos p1] at h
  rw [if_pos p2]
  have d1 : (60 :: 47 :: n ++ [62]).drop 2 = n ++ [62] := rfl
  have d2 : (60 :: 47 :: n ++ bl ++ [62]).drop 2 = n ++ bl ++ [62] := rfl
  rw [d1] at h
  rw [d2]
  cases hq : endT (n ++ [62]) with
  | bad k c => rw [hq] at h; cases h
  | ok u m =>
    rw [hq] at h
    injection h with ht hm
    have hm' : m = n.length + [62].length := by simp at hm ⊢; omega
    rw [hm'] at hq
    rw [endT_blanks he hb hq, ← ht]
    simp only [Told.past, List.length_append, List.length_cons, Told.ok.injEq, true_and]
    omega
end Go.Proofs.YtpfhdklbhhpbcaaDoor

/-
  The plain laws of tokens: rows, parts: no program in sight.
-/
namespace Go.Proofs.YtpfhdklbhhpbcaaDoor

theorem charB_of_step {v : Bool} {l t : List UInt8} {n : Nat} (h : stepL v l = .inr (t, n)) : ∃ c, charB c = true ∧ t = enc c := by
  simp only [stepL] at h
  split at h
  · cases h
  split at h
  · cases h
  generalize (if (nextL l).fst = 38 then refL l else nextL l) = r at h
  split at h
  · cases h
  split at h
  · cases h
  rename_i hc
  injection h with h
  injection h with h _
  have hc' : charB r.1 = true := by simpa using hc
  refine ⟨_, hc', ?_⟩
  rw [← h]; unfold putF; rw [if_pos hc']
theorem undo_chars (v : Bool) : ∀ (k : Nat) (l : List UInt8), l.length ≤ k → (undoL v l).2.2 = 0 → ∃ cs, charsL (undoL v l).1 = some cs
  | 0, l, hk, _ => by
    obtain rfl : l = [] := List.eq_nil_of_length_eq_zero (by omega)
    rw [undoL_nil]; exact ⟨[], charsL_nil⟩
  | k + 1, l, hk, h => by
    by_cases hl : l = []
    · subst hl; rw [undoL_nil]; exact ⟨[], charsL_nil⟩
    · cases hs : stepL v l with
      | inl e =>
        rw [undoL_bad v l hl e hs] at h ⊢
        exact ⟨[], charsL_nil⟩
      | inr q =>
        obtain ⟨t, n⟩ := q
        have hp := stepL_pos hs
        rw [undoL_step v l hl t n hs] at h ⊢
        unfold joinU at h ⊢
        split at h
        · rename_i h0
          rw [if_pos h0]
          obtain ⟨cs, hcs⟩ := undo_chars v k (l.drop n) (by rw [List.length_drop]; omega) h0
          obtain ⟨c, hc, rfl⟩ := charB_of_step hs
          have he : charsL (enc c) = some [c] := by
            have := chars_enc [c] (by simp [hc])
            simpa using this
          exact ⟨[c] ++ cs, chars_append _ _ _ _ he hcs⟩
        · rename_i h0
          exact absurd h h0
theorem undo_ne {v : Bool} {l : List UInt8} (hl : l ≠ []) (h : (undoL v l).2.2 = 0) : (undoL v l).1 ≠ [] := by
  cases hs : stepL v l with
  | inl e =>
    exfalso
    rw [undoL_bad v l hl e hs] at h
    have he : e = 0 := h
    subst he
    simp only [stepL] at hs
    split at hs
    · injection hs with hs; omega
    split at hs
    · injection hs with hs; omega
    generalize (if (nextL l).fst = 38 then refL l else nextL l) = r at hs
    split at hs
    · injection hs with hs; omega
    split at hs
    · injection hs with hs; omega
    · cases hs
  | inr q =>
    obtain ⟨t, n⟩ := q
    obtain ⟨c, hc, rfl⟩ := charB_of_step hs
    rw [undoL_step v l hl _ n hs] at h ⊢
    unfold joinU at h ⊢
    split at h
    · rename_i h0
      rw [if_pos h0]
      intro e
      exact enc_ne c (List.append_eq_nil_iff.1 e).1
    · rename_i h0; exact absurd h h0

/-- how what is told of a token is made -/
inductive TokFine (l : List UInt8) (t : TokD) (n : Nat) : Prop
  | text (hk : t.kind = 4) (hn : t.name = []) (ha : t.attrs = []) (h60 : pre [60] l = false) (hb : n = (l.takeWhile (· != 60)).length) (hu : (undoL false (l.takeWhile (· != 60))).2.2 = 0) (ht : t.text = (undoL false (l.takeWhile (· != 60))).1) (hl : t.text.length ≤ 1500)
  | stop (hk : t.kind = 2) (hn : nameL t.name = true) (ha : t.attrs = []) (ht : t.text = []) (h60 : pre [60] l = true)
  | start (hk : t.kind = 1 ∨ t.kind = 3) (hn : nameL t.name = true) (ht : t.text = []) (h60 : pre [60] l = true) (bs : List AttrD) (ha : t.attrs = sortA bs) (hf : AttrsFine bs)

theorem pre_first {a b : UInt8} {l : List UInt8} (h : pre [a, b] l = true) : pre [a] l = true := by
  obtain ⟨t, rfl⟩ := pre_cons2 h
  simp [pre]
theorem oneT_fine {l : List UInt8} {t : TokD} {n : Nat} (h : oneT l = .ok t n) : TokFine l t n := by
  unfold oneT at h
  split at h
  · rename_i h1
    cases he : endT (l.drop 2) with
    | bad k e => rw [he] at h; cases h
    | ok u k =>
      rw [he] at h
      injection h with h _
      subst h
      unfold endT at he
      simp only at he
      split at he
      · cases he
      rename_i h2
      split at he
      · injection he with he _
        subst he
        exact .stop rfl (by simpa using h2) rfl rfl (pre_first h1)
      · cases he
  · split at h
    · rename_i h1
      cases he : beginT (l.drop 1) with
      | bad k e => rw [he] at h; cases h
      | ok u k =>
        rw [he] at h
        injection h with h _
        subst h
        unfold beginT at he
        simp only at he
        split at he
        · cases he
        rename_i h2
        cases hq : attrsF ((l.drop 1).length + 1) ((l.drop 1).drop (wordL (l.drop 1)).length) [] with
        | bad k e => rw [hq] at he; cases he
        | ok q m =>
          rw [hq] at he
          injection he with he _
          subst he
          obtain ⟨h3, h4⟩ := attrsF_fine _ _ _ _ _ attrsFine_nil hq
          exact .start h4 (by simpa using h2) rfl h1 q.2 rfl h3
    · rename_i h1
      unfold textT at h
      simp only at h
      split at h
      · cases h
      rename_i h2
      split at h
      · cases h
      rename_i h3
      injection h with h hn
      subst h
      exact .text rfl rfl rfl (by simpa using h1) hn.symm (by simpa using h2) rfl (by simpa using h3)

theorem text_ne {l : List UInt8} {t : TokD} {n : Nat} (hl : l ≠ []) (h : oneT l = .ok t n) (hk : t.kind = 4) : t.text ≠ [] := by
  rcases oneT_fine h with ⟨_, _, _, h60, _, hu, ht, _⟩ | ⟨hk', _⟩ | ⟨hk', _⟩
  · rw [ht]
    refine undo_ne ?_ hu
    cases l with
    | nil => exact absurd rfl hl
    | cons a r =>
      have : (a != 60) = true := by
        simp only [pre, List.length_cons, List.length_nil, List.take_succ_cons, List.take_zero] at h60
        cases h : a == 60 with
        | true => rw [eq_of_beq h] at h60; simp at h60
        | false => simp [bne, h]
      rw [List.takeWhile_cons, if_pos this]; simp
  · omega
  · omega
/-- behind a text stands a tag, or nothing -/
theorem behind_text {l : List UInt8} {t u : TokD} {n m : Nat} (h : oneT l = .ok t n) (hk : t.kind = 4) (hu : oneT (l.drop n) = .ok u m) (hne : l.drop n ≠ []) : u.kind ≠ 4 := by
  rcases oneT_fine h with ⟨_, _, _, h60, hn, _⟩ | ⟨hk', _⟩ | ⟨hk', _⟩
  · intro hk'
    rcases oneT_fine hu with ⟨_, _, _, h60', _⟩ | ⟨hk', _⟩ | ⟨hk', _⟩
    · subst hn
      have e : l.drop (l.takeWhile (· != 60)).length = l.dropWhile (· != 60) := by
        have h1 := span_word l (· != 60)
        have h2 := List.takeWhile_append_dropWhile (p := (· != 60)) (l := l)
        exact List.append_cancel_left (h1.symm.trans h2.symm)
      rw [e] at h60' hne
      have := List.head?_dropWhile_not (· != 60) l
      cases hd : l.dropWhile (· != 60) with
      | nil => exact hne hd
      | cons a r =>
        rw [hd] at this h60'
        simp at this
        subst this
        simp [pre] at h60'
    · omega
    · omega
  · omega
  · omega

/-- what is told of any token -/
theorem tok_parts {l : List UInt8} {t : TokD} {n : Nat} (h : oneT l = .ok t n) :
    (t.kind < 4 → nameL t.name = true) ∧ (t.kind = 4 → t.name = []) ∧ charsE t.text = 0 ∧ t.attrs.length ≤ 20 ∧ Rise t.attrs ∧ (∀ a ∈ t.attrs, nameL a.name = true ∧ charsE a.value = 0) := by
  have hcE : ∀ {v : Bool} {x : List UInt8}, (undoL v x).2.2 = 0 → (undoL v x).1.length ≤ 1500 → charsE (undoL v x).1 = 0 := fun {v x} h0 h1 => by
    obtain ⟨cs, hcs⟩ := undo_chars v _ x (Nat.le_refl _) h0
    unfold charsE countL
    rw [hcs]
    simp only
    rw [if_neg (by omega), if_neg (by omega)]
  have hnil : charsE [] = 0 := by
    unfold charsE countL
    rw [charsL_nil]; simp
  rcases oneT_fine h with ⟨hk, hn, ha, _, _, hu, ht, hl⟩ | ⟨hk, hn, ha, ht, _⟩ | ⟨hk, hn, ht, _, bs, ha, hf⟩
  · refine ⟨fun h => by omega, fun _ => hn, ?_, by rw [ha]; simp, by rw [ha]; exact List.Pairwise.nil, by rw [ha]; intro a h; cases h⟩
    rw [ht] at hl ⊢; exact hcE hu hl
  · exact ⟨fun _ => hn, fun h => by omega, by rw [ht]; exact hnil, by rw [ha]; simp, by rw [ha]; exact List.Pairwise.nil, by rw [ha]; intro a h; cases h⟩
  · refine ⟨fun _ => hn, fun h => by omega, by rw [ht]; exact hnil, by rw [ha, (sortA_perm bs).length_eq]; exact hf.many, by rw [ha]; exact sortA_rise hf.apart, fun a h => ?_⟩
    rw [ha] at h
    have := hf.all a ((sortA_perm bs).mem_iff.1 h)
    obtain ⟨x, h0, h1⟩ := this.value
    exact ⟨this.name, by have h2 := this.long; rw [← h1] at h2 ⊢; exact hcE h0 h2⟩
end Go.Proofs.YtpfhdklbhhpbcaaDoor

/-
  The plain law: each printed token is read as what was printed. No program in sight.
-/
namespace Go.Proofs.YtpfhdklbhhpbcaaDoor

theorem takeWhile_all {α : Type} (p : α → Bool) : ∀ (a r : List α), (∀ x ∈ a, p x = true) → (∀ x t, r = x :: t → p x = false) → (a ++ r).takeWhile p = a
  | [], r, _, hr => by
    cases r with
    | nil => rfl
    | cons x t => rw [List.nil_append, List.takeWhile_cons, hr x t rfl]; rfl
  | x :: a, r, ha, hr => by
    rw [List.cons_append, List.takeWhile_cons, ha x (by simp), if_pos rfl, takeWhile_all p a r (fun y hy => ha y (by simp [hy])) hr]
theorem word_name {n r : List UInt8} (hn : nameL n = true) (hr : ∀ x t, r = x :: t → nb x = false) : wordL (n ++ r) = n :=
  takeWhile_all nb n r (List.all_eq_true.1 (name_bytes hn).2) hr
theorem skip_none {r : List UInt8} (hr : ∀ x t, r = x :: t → blankB x = false) : skipL r = 0 := by
  cases r with
  | nil => rfl
  | cons x t => unfold skipL; rw [List.takeWhile_cons, hr x t rfl]; rfl
theorem pre_same (a r : List UInt8) : pre a (a ++ r) = true := by
  unfold pre; simp

/-- a text, ahead of a tag or of nothing -/
theorem textT_back {t o R : List UInt8} (h : escL false t = some o) (hR : ∀ x s, R = x :: s → x = 60) : textT (o ++ R) = if 1500 < t.length then .bad 0 34 else .ok ⟨4, [], t, []⟩ o.length := by
  have e : (o ++ R).takeWhile (· != 60) = o := takeWhile_all _ o R (fun x hx => by simpa using esc_text h x hx) (fun x s hx => by rw [hR x s hx]; rfl)
  unfold textT
  simp only
  rw [e, undo_esc false t o h]
  simp
/-- an end -/
theorem endT_back {n R : List UInt8} (h : nameL n = true) : endT (n ++ 62 :: R) = .ok ⟨2, n, [], []⟩ (n.length + 1) := by
  unfold endT
  simp only
  rw [word_name h (fun x t e => by injection e with e _; subst e; rfl), h, List.drop_left, skip_none (fun x t e => by injection e with e _; subst e; rfl), Nat.add_zero, List.drop_left]
  rw [if_neg (by decide), if_pos (by exact pre_same [62] R)]
/-- an attribute, behind its blank -/
theorem attrL_back {a : AttrD} {bs : List AttrD} {o R : List UInt8} (hn : nameL a.name = true) (ho : escL true a.value = some o) (hl : a.value.length ≤ 1500) (hb : bs.length < 20) (hd : ∀ b ∈ bs, b.name ≠ a.name) :
    attrL (a.name ++ [61, 34] ++ o ++ [34] ++ R) bs = .ok a (a.name.length + 2 + o.length + 1) := by
  have e : a.name ++ [61, 34] ++ o ++ [34] ++ R = a.name ++ (61 :: 34 :: (o ++ 34 :: R)) := by simp
  rw [e]
  unfold attrL
  simp only
  rw [word_name hn (fun x t e => by injection e with e _; subst e; rfl), hn, if_neg (by decide), if_neg (by omega)]
  have h1 : bs.any (fun b => decide (b.name = a.name)) = false := by
    rw [List.any_eq_false]
    intro b hb'; simpa using hd b hb'
  have h2 : (a.name ++ 61 :: 34 :: (o ++ 34 :: R)).drop a.name.length = 61 :: 34 :: (o ++ 34 :: R) := List.drop_left
  have h3 : (a.name ++ 61 :: 34 :: (o ++ 34 :: R)).drop (a.name.length + 1) = 34 :: (o ++ 34 :: R) := by rw [← List.drop_drop, h2]; rfl
  have h4 : (a.name ++ 61 :: 34 :: (o ++ 34 :: R)).drop (a.name.length + 2) = o ++ 34 :: R := by rw [← List.drop_drop, h2]; rfl
  rw [h1, if_neg (by decide), h2, h3, h4, show pre [61] (61 :: 34 :: (o ++ 34 :: R)) = true from pre_same [61] _, show pre [34] (34 :: (o ++ 34 :: R)) = true from pre_same [34] _, if_neg (by decide), if_neg (by decide)]
  unfold valueT
  have e2 : (o ++ 34 :: R).takeWhile (· != 34) = o := takeWhile_all _ o _ (fun x hx => by simpa using esc_value ho x hx) (fun x s hx => by injection hx with hx _; subst hx; rfl)
  simp only
  rw [e2, undo_esc true a.value o ho, if_neg (by simp), if_neg (by simp), if_neg (by simp; omega)]
end Go.Proofs.YtpfhdklbhhpbcaaDoor

/-
  The plain law of queries as texts. No program in sight. All places are counted from the part's own beginning.
-/
namespace Go.Proofs.YtpfhdklbhhpbcaaDoor

structure PredD where
  kind : Int
  num : Int
  name : List UInt8
  value : List UInt8
deriving DecidableEq
structure StepD where
  axis : Int
  test : Int
  name : List UInt8
  preds : List PredD
deriving DecidableEq

/-- how far the characters reach of which names may be made -/
def partF : Nat → List UInt8 → Nat
  | 0, _ => 0
  | f + 1, l => if (nextL l).2 = 0 ∨ partB (nextL l).1 = false then 0 else (nextL l).2 + partF f (l.drop (nextL l).2)
def partN (l : List UInt8) : Nat := partF (l.length + 1) l

def qname (l : List UInt8) : Told (List UInt8) := if nameL (l.take (partN l)) = false then .bad 0 70 else .ok (l.take (partN l)) (partN l)

def qvalue (l : List UInt8) : Told (List UInt8) :=
  if pre [34] l = false then .bad 0 70
  else
    let v := (l.drop 1).takeWhile (· != 34)
    if v.length = (l.drop 1).length then .bad l.length 70
    else
      let u := undoL true v
      if u.2.2 ≠ 0 then .bad (1 + u.2.1) u.2.2 else .ok u.1 (1 + v.length + 1)

def digB (b : UInt8) : Bool := decide (48 ≤ b.toNat ∧ b.toNat ≤ 57)
/-- a number's digits, no more than 10000 -/
def numQ (n : Int) : List UInt8 → Int
  | [] => n
  | d :: r => numQ (min (10 * n + ((d.toNat : Int) - 48)) 10000) r
def qnumber (l : List UInt8) : Told Int :=
  let d := l.takeWhile digB
  if d = [] ∨ pre [48] l = true ∨ 9999 < numQ 0 d then .bad 0 70 else .ok (numQ 0 d) d.length

def qattr (l : List UInt8) : Told PredD := match qname l with
  | .bad k e => .bad k e
  | .ok s n => if pre [61] (l.drop n) = false then .ok ⟨3, 0, s, []⟩ n
    else match qvalue (l.drop (n + 1)) with
      | .bad k e => .bad (n + 1 + k) e
      | .ok v m => .ok ⟨4, 0, s, v⟩ (n + 1 + m)

def tLast : List UInt8 := [108, 97, 115, 116, 40, 41]
def tText : List UInt8 := [116, 101, 120, 116, 40, 41]
def tNode : List UInt8 := [110, 111, 100, 101, 40, 41]

/-- a predicate, behind its bracket -/
def qpred (l : List UInt8) : Told PredD :=
  if pre [64] l = true then (qattr (l.drop 1)).past 1
  else if pre tLast l = true then .ok ⟨2, 0, [], []⟩ 6
  else if pre tText l = true then
    (if pre [61] (l.drop 6) = false then .bad 6 70
     else match qvalue (l.drop 7) with
      | .bad k e => .bad (7 + k) e
      | .ok v m => .ok ⟨5, 0, [], v⟩ (7 + m))
  else match qnumber l with
    | .bad k e => .bad k e
    | .ok n m => .ok ⟨1, n, [], []⟩ m

def qpredsF : Nat → List UInt8 → List PredD → Told (List PredD)
  | 0, _, _ => .bad 0 70
  | f + 1, l, ps =>
    if pre [91] l = false then .ok ps 0
    else if 5 ≤ ps.length then .bad 0 70
    else match qpred (l.drop 1) with
      | .bad k e => .bad (1 + k) e
      | .ok p n => if pre [93] (l.drop (1 + n)) = false then .bad (1 + n) 70 else (qpredsF f (l.drop (n + 2)) (ps ++ [p])).past (n + 2)
def qpreds (l : List UInt8) (ps : List PredD) : Told (List PredD) := qpredsF (l.length + 1) l ps

/-- a step's test: which, and its name -/
def qtest (l : List UInt8) : Told (Int × List UInt8) :=
  if pre [42] l = true then .ok (2, []) 1
  else if pre tText l = true then .ok (3, []) 6
  else if pre tNode l = true then .ok (4, []) 6
  else match qname l with
    | .bad k e => .bad k e
    | .ok s n => .ok (1, s) n

def axisT : Nat → List UInt8
  | 1 => [99, 104, 105, 108, 100, 58, 58]
  | 2 => [100, 101, 115, 99, 101, 110, 100, 97, 110, 116, 58, 58]
  | 3 => [100, 101, 115, 99, 101, 110, 100, 97, 110, 116, 45, 111, 114, 45, 115, 101, 108, 102, 58, 58]
  | 4 => [112, 97, 114, 101, 110, 116, 58, 58]
  | 5 => [97, 110, 99, 101, 115, 116, 111, 114, 58, 58]
  | 6 => [102, 111, 108, 108, 111, 119, 105, 110, 103, 45, 115, 105, 98, 108, 105, 110, 103, 58, 58]
  | 7 => [112, 114, 101, 99, 101, 100, 105, 110, 103, 45, 115, 105, 98, 108, 105, 110, 103, 58, 58]
  | 8 => [115, 101, 108, 102, 58, 58]
  | _ => []
/-- the first axis from number k on (of 9 - k) that stands there -/
def axisF : Nat → Nat → List UInt8 → Nat
  | 0, _, _ => 0
  | f + 1, k, l => if pre (axisT k) l = true then k else axisF f (k + 1) l
def axisN (l : List UInt8) : Nat := axisF 8 1 l

/-- a step, behind its slash -/
def qstep (l : List UInt8) : Told StepD :=
  if pre [46, 46] l = true then .ok ⟨4, 4, [], []⟩ 2
  else if pre [46] l = true then .ok ⟨8, 4, [], []⟩ 1
  else
    let x := axisN l
    let k := (axisT x).length
    match qtest (l.drop k) with
    | .bad j e => .bad (k + j) e
    | .ok t n => match qpreds (l.drop (k + n)) [] with
      | .bad j e => .bad (k + n + j) e
      | .ok ps m => .ok ⟨if x = 0 then 1 else x, t.1, t.2, ps⟩ (k + n + m)

/-- one step with its slashes: a slash and a step, or two -/
def qone (l : List UInt8) (ls : List StepD) : Told (List StepD) :=
  if pre [47] l = false then .bad 0 70
  else
    let two := pre [47] (l.drop 1)
    if two = true ∧ 20 ≤ ls.length then .bad 0 70
    else
      let ls' := if two = true then ls ++ [⟨3, 4, [], []⟩] else ls
      let k := if two = true then 2 else 1
      if 20 ≤ ls'.length then .bad 0 70
      else match qstep (l.drop k) with
        | .bad j e => .bad (k + j) e
        | .ok s n => .ok (ls' ++ [s]) (k + n)
def qallF : Nat → List UInt8 → List StepD → Told (List StepD)
  | 0, _, _ => .bad 0 70
  | f + 1, l, ls => match qone l ls with
    | .bad k e => .bad k e
    | .ok ls' n => if l.drop n = [] then .ok ls' n else (qallF f (l.drop n) ls').past n
def qall (l : List UInt8) (ls : List StepD) : Told (List StepD) := qallF (l.length + 1) l ls
/-- a query: its steps, or the place and the number of what is amiss -/
def queryL (l : List UInt8) : List StepD × Nat × Int := if 200 < l.length then ([], 0, 71) else match qall l [] with
  | .ok ls _ => (ls, 0, 0)
  | .bad k e => ([], k, e)

/-! ## How far what is told may reach -/
theorem partF_len : ∀ (f : Nat) (l : List UInt8), partF f l ≤ l.length
  | 0, _ => by simp [partF]
  | f + 1, l => by
    rw [partF]
    split
    · omega
    · have h1 := (nextL_le l).1
      have h2 := partF_len f (l.drop (nextL l).2)
      rw [List.length_drop] at h2
      omega
theorem partN_len (l : List UInt8) : partN l ≤ l.length := partF_len _ l
theorem partF_more : ∀ (f : Nat) (l : List UInt8) (g : Nat), l.length < f → l.length < g → partF f l = partF g l
  | 0, _, _, h, _ => by omega
  | f + 1, l, 0, _, h => by omega
  | f + 1, l, g + 1, hf, hg => by
    rw [partF, partF]
    by_cases h : (nextL l).2 = 0 ∨ partB (nextL l).1 = false
    · rw [if_pos h, if_pos h]
    · rw [if_neg h, if_neg h]
      have h1 := (nextL_le l).1
      rw [partF_more f (l.drop (nextL l).2) g (by rw [List.length_drop]; omega) (by rw [List.length_drop]; omega)]
theorem partN_none {l : List UInt8} (h : (nextL l).2 = 0 ∨ partB (nextL l).1 = false) : partN l = 0 := by unfold partN; rw [partF, if_pos h]
theorem partN_step {l : List UInt8} (h : ¬ ((nextL l).2 = 0 ∨ partB (nextL l).1 = false)) : partN l = (nextL l).2 + partN (l.drop (nextL l).2) := by
  have h1 := (nextL_le l).1
  unfold partN
  rw [partF, if_neg h, partF_more l.length (l.drop (nextL l).2) ((l.drop (nextL l).2).length + 1) (by rw [List.length_drop]; omega) (by omega)]

theorem pre_len' {p l : List UInt8} (h : pre p l = true) : p.length ≤ l.length := pre_len h
theorem pre_at {p l : List UInt8} {k : Nat} (hk : k ≤ l.length) (h : pre p (l.drop k) = true) : k + p.length ≤ l.length := by
  have := pre_len h
  rw [List.length_drop] at this; omega
theorem qname_within (l : List UInt8) : (qname l).within 1 l.length := by
  have h := partN_len l
  unfold qname
  split
  · exact ⟨by omega, by decide⟩
  · rename_i hn
    refine ⟨?_, h⟩
    rcases Nat.eq_zero_or_pos (partN l) with h0 | h0
    · rw [h0, List.take_zero] at hn
      exact absurd rfl hn
    · exact h0
theorem qvalue_within (l : List UInt8) : (qvalue l).within 2 l.length := by
  unfold qvalue
  split
  · exact ⟨by omega, by decide⟩
  · rename_i hp
    have hp1 := pre_len (p := [34]) (l := l) (by simpa using hp)
    simp at hp1
    have h1 := takeWhile_len (· != 34) (l.drop 1)
    have h2 := undoL_le true ((l.drop 1).takeWhile (· != 34))
    rw [List.length_drop] at h1
    simp only
    split
    · exact ⟨by omega, by decide⟩
    · rename_i hne
      rw [List.length_drop] at hne
      split
      · rename_i h; exact ⟨by omega, h⟩
      · exact ⟨by omega, by omega⟩
theorem qnumber_within (l : List UInt8) : (qnumber l).within 1 l.length := by
  have h1 := takeWhile_len digB l
  unfold qnumber
  simp only
  split
  · exact ⟨by omega, by decide⟩
  · rename_i h
    refine ⟨?_, h1⟩
    have : l.takeWhile digB ≠ [] := fun e => h (.inl e)
    exact List.length_pos_iff.2 this
theorem qattr_within (l : List UInt8) : (qattr l).within 1 l.length := by
  have h1 := qname_within l
  unfold qattr
  cases hn : qname l with
  | bad k e => rw [hn] at h1; exact h1
  | ok s n =>
    rw [hn] at h1
    obtain ⟨a, b⟩ := h1
    simp only
    split
    · exact ⟨a, b⟩
    · rename_i hp
      have hp1 := pre_at b (p := [61]) (by simpa using hp)
      simp at hp1
      have h2 := qvalue_within (l.drop (n + 1))
      rw [List.length_drop] at h2
      cases hv : qvalue (l.drop (n + 1)) with
      | bad k e => rw [hv] at h2; obtain ⟨c, d⟩ := h2; exact ⟨by omega, d⟩
      | ok v m => rw [hv] at h2; obtain ⟨c, d⟩ := h2; exact ⟨by omega, by omega⟩
theorem qpred_within (l : List UInt8) : (qpred l).within 1 l.length := by
  unfold qpred
  split
  · rename_i hp
    have hp1 := pre_len hp
    simp at hp1
    have h := qattr_within (l.drop 1)
    rw [List.length_drop] at h
    cases hq : qattr (l.drop 1) with
    | bad k e => rw [hq] at h; obtain ⟨c, d⟩ := h; exact ⟨by omega, d⟩
    | ok v m => rw [hq] at h; obtain ⟨c, d⟩ := h; exact ⟨by omega, by omega⟩
  split
  · rename_i hp
    have hp1 := pre_len hp
    simp [tLast] at hp1
    exact ⟨by omega, by omega⟩
  split
  · rename_i hp
    have hp1 := pre_len hp
    simp [tText] at hp1
    split
    · exact ⟨by omega, by decide⟩
    · rename_i hp'
      have hp2 := pre_at hp1 (p := [61]) (by simpa using hp')
      simp at hp2
      have h := qvalue_within (l.drop 7)
      rw [List.length_drop] at h
      cases hq : qvalue (l.drop 7) with
      | bad k e => rw [hq] at h; obtain ⟨c, d⟩ := h; exact ⟨by omega, d⟩
      | ok v m => rw [hq] at h; obtain ⟨c, d⟩ := h; exact ⟨by omega, by omega⟩
  · have h := qnumber_within l
    cases hq : qnumber l with
    | bad k e => rw [hq] at h; exact h
    | ok n m => rw [hq] at h; exact h
theorem qpredsF_within : ∀ (f : Nat) (l : List UInt8) (ps : List PredD), (qpredsF f l ps).within 0 l.length
  | 0, l, _ => ⟨Nat.zero_le _, by decide⟩
  | f + 1, l, ps => by
    rw [qpredsF]
    split
    · exact ⟨Nat.le_refl _, Nat.zero_le _⟩
    rename_i hp
    have hp1 := pre_len (p := [91]) (l := l) (by simpa using hp)
    simp at hp1
    split
    · exact ⟨Nat.zero_le _, by decide⟩
    have h1 := qpred_within (l.drop 1)
    rw [List.length_drop] at h1
    cases hq : qpred (l.drop 1) with
    | bad k e => rw [hq] at h1; obtain ⟨c, d⟩ := h1; exact ⟨by omega, d⟩
    | ok p n =>
      rw [hq] at h1; obtain ⟨c, d⟩ := h1
      simp only
      split
      · exact ⟨by omega, by decide⟩
      rename_i hp'
      have hp2 := pre_at (k := 1 + n) (p := [93]) (l := l) (by omega) (by simpa using hp')
      simp at hp2
      have h2 := qpredsF_within f (l.drop (n + 2)) (ps ++ [p])
      rw [List.length_drop] at h2
      cases hr : qpredsF f (l.drop (n + 2)) (ps ++ [p]) with
      | bad k e => rw [hr] at h2; obtain ⟨a, b⟩ := h2; exact ⟨by omega, b⟩
      | ok v m => rw [hr] at h2; obtain ⟨a, b⟩ := h2; exact ⟨by omega, by omega⟩
theorem qpredsF_more : ∀ (f : Nat) (l : List UInt8) (ps : List PredD) (g : Nat), l.length < f → l.length < g → qpredsF f l ps = qpredsF g l ps
  | 0, _, _, _, h, _ => by omega
  | f + 1, l, _, 0, _, h => by omega
  | f + 1, l, ps, g + 1, hf, hg => by
    rw [qpredsF, qpredsF]
    split
    · rfl
    rename_i hp
    have hp1 := pre_len (p := [91]) (l := l) (by simpa using hp)
    simp at hp1
    split
    · rfl
    cases hq : qpred (l.drop 1) with
    | bad k e => rfl
    | ok p n =>
      simp only
      rw [qpredsF_more f (l.drop (n + 2)) (ps ++ [p]) g (by rw [List.length_drop]; omega) (by rw [List.length_drop]; omega)]
theorem qpreds_none {l : List UInt8} {ps : List PredD} (h : pre [91] l = false) : qpreds l ps = .ok ps 0 := by unfold qpreds; rw [qpredsF, if_pos h]
theorem qpreds_many {l : List UInt8} {ps : List PredD} (h : pre [91] l = true) (h5 : 5 ≤ ps.length) : qpreds l ps = .bad 0 70 := by unfold qpreds; rw [qpredsF, if_neg (by rw [h]; decide), if_pos h5]
theorem qpreds_bad {l : List UInt8} {ps : List PredD} (h : pre [91] l = true) (h5 : ¬ 5 ≤ ps.length) {k : Nat} {e : Int} (hq : qpred (l.drop 1) = .bad k e) : qpreds l ps = .bad (1 + k) e := by
  unfold qpreds; rw [qpredsF, if_neg (by rw [h]; decide), if_neg h5, hq]
theorem qpreds_open {l : List UInt8} {ps : List PredD} (h : pre [91] l = true) (h5 : ¬ 5 ≤ ps.length) {p : PredD} {n : Nat} (hq : qpred (l.drop 1) = .ok p n) (hc : pre [93] (l.drop (1 + n)) = false) : qpreds l ps = .bad (1 + n) 70 := by
  unfold qpreds; rw [qpredsF, if_neg (by rw [h]; decide), if_neg h5, hq]; simp only; rw [if_pos hc]
theorem qpreds_step {l : List UInt8} {ps : List PredD} (h : pre [91] l = true) (h5 : ¬ 5 ≤ ps.length) {p : PredD} {n : Nat} (hq : qpred (l.drop 1) = .ok p n) (hc : pre [93] (l.drop (1 + n)) = true) :
    qpreds l ps = (qpreds (l.drop (n + 2)) (ps ++ [p])).past (n + 2) := by
  have hp1 := pre_len (p := [91]) (l := l) h
  simp at hp1
  unfold qpreds
  rw [qpredsF, if_neg (by rw [h]; decide), if_neg h5, hq]
  simp only
  rw [if_neg (by rw [hc]; decide), qpredsF_more l.length (l.drop (n + 2)) _ ((l.drop (n + 2)).length + 1) (by rw [List.length_drop]; omega) (by omega)]
theorem qtest_within (l : List UInt8) : (qtest l).within 1 l.length := by
  unfold qtest
  split
  · rename_i hp; have := pre_len hp; simp at this; exact ⟨by omega, by omega⟩
  split
  · rename_i hp; have := pre_len hp; simp [tText] at this; exact ⟨by omega, by omega⟩
  split
  · rename_i hp; have := pre_len hp; simp [tNode] at this; exact ⟨by omega, by omega⟩
  have h := qname_within l
  cases hq : qname l with
  | bad k e => rw [hq] at h; exact h
  | ok n m => rw [hq] at h; exact h
theorem axisF_pre : ∀ (f k : Nat) (l : List UInt8), axisF f k l = 0 ∨ pre (axisT (axisF f k l)) l = true ∧ k ≤ axisF f k l ∧ axisF f k l < k + f
  | 0, _, _ => .inl rfl
  | f + 1, k, l => by
    rw [axisF]
    split
    · rename_i h; exact .inr ⟨h, Nat.le_refl _, by omega⟩
    · rcases axisF_pre f (k + 1) l with h | ⟨h1, h2, h3⟩
      · exact .inl h
      · exact .inr ⟨h1, by omega, by omega⟩
theorem axisN_len (l : List UInt8) : (axisT (axisN l)).length ≤ l.length := by
  rcases axisF_pre 8 1 l with h | ⟨h, _⟩
  · show (axisT (axisF 8 1 l)).length ≤ _
    rw [h]; simp [axisT]
  · exact pre_len h
theorem qstep_within (l : List UInt8) : (qstep l).within 1 l.length := by
  unfold qstep
  split
  · rename_i hp; have := pre_len hp; simp at this; exact ⟨by omega, by omega⟩
  split
  · rename_i hp; have := pre_len hp; simp at this; exact ⟨by omega, by omega⟩
  have h0 := axisN_len l
  simp only
  have h1 := qtest_within (l.drop (axisT (axisN l)).length)
  rw [List.length_drop] at h1
  cases hq : qtest (l.drop (axisT (axisN l)).length) with
  | bad k e => rw [hq] at h1; obtain ⟨a, b⟩ := h1; exact ⟨by omega, b⟩
  | ok t n =>
    rw [hq] at h1; obtain ⟨a, b⟩ := h1
    simp only
    have h2 := qpredsF_within ((l.drop ((axisT (axisN l)).length + n)).length + 1) (l.drop ((axisT (axisN l)).length + n)) []
    rw [List.length_drop] at h2
    unfold qpreds
    rw [List.length_drop]
    cases hr : qpredsF (l.length - ((axisT (axisN l)).length + n) + 1) (l.drop ((axisT (axisN l)).length + n)) [] with
    | bad k e => rw [hr] at h2; obtain ⟨c, d⟩ := h2; exact ⟨by omega, d⟩
    | ok v m => rw [hr] at h2; obtain ⟨c, d⟩ := h2; exact ⟨by omega, by omega⟩
theorem qone_within (l : List UInt8) (ls : List StepD) : (qone l ls).within 2 l.length := by
  unfold qone
  split
  · exact ⟨by omega, by decide⟩
  rename_i hp
  have hp1 := pre_len (p := [47]) (l := l) (by simpa using hp)
  simp at hp1
  have key : ∀ (k : Nat) (ls' : List StepD), 1 ≤ k → k ≤ l.length → (if 20 ≤ ls'.length then Told.bad 0 70 else match qstep (l.drop k) with
      | .bad j e => .bad (k + j) e
      | .ok s n => .ok (ls' ++ [s]) (k + n) : Told (List StepD)).within 2 l.length := by
    intro k ls' hk1 hk2
    split
    · exact ⟨by omega, by decide⟩
    have h := qstep_within (l.drop k)
    rw [List.length_drop] at h
    cases hq : qstep (l.drop k) with
    | bad j e => rw [hq] at h; obtain ⟨a, b⟩ := h; exact ⟨by omega, b⟩
    | ok s n => rw [hq] at h; obtain ⟨a, b⟩ := h; exact ⟨by omega, by omega⟩
  by_cases h2 : pre [47] (l.drop 1) = true
  · have h3 := pre_at hp1 h2
    simp at h3
    simp only [h2, true_and, if_true]
    split
    · exact ⟨by omega, by decide⟩
    exact key 2 _ (by omega) (by omega)
  · have h3 : pre [47] (l.drop 1) = false := by simpa using h2
    simp only [h3, Bool.false_eq_true, false_and, if_false]
    exact key 1 _ (by omega) (by omega)
theorem qallF_more : ∀ (f : Nat) (l : List UInt8) (ls : List StepD) (g : Nat), l.length < f → l.length < g → qallF f l ls = qallF g l ls
  | 0, _, _, _, h, _ => by omega
  | f + 1, l, _, 0, _, h => by omega
  | f + 1, l, ls, g + 1, hf, hg => by
    rw [qallF, qallF]
    have h := qone_within l ls
    cases hq : qone l ls with
    | bad k e => rfl
    | ok ls' n =>
      rw [hq] at h; obtain ⟨a, b⟩ := h
      simp only
      rw [qallF_more f (l.drop n) ls' g (by rw [List.length_drop]; omega) (by rw [List.length_drop]; omega)]
theorem qall_bad {l : List UInt8} {ls : List StepD} {k : Nat} {e : Int} (h : qone l ls = .bad k e) : qall l ls = .bad k e := by unfold qall; rw [qallF, h]
theorem qall_end {l : List UInt8} {ls ls' : List StepD} {n : Nat} (h : qone l ls = .ok ls' n) (hd : l.drop n = []) : qall l ls = .ok ls' n := by unfold qall; rw [qallF, h]; simp only; rw [if_pos hd]
theorem qall_step {l : List UInt8} {ls ls' : List StepD} {n : Nat} (h : qone l ls = .ok ls' n) (hd : l.drop n ≠ []) : qall l ls = (qall (l.drop n) ls').past n := by
  have hw := qone_within l ls
  rw [h] at hw; obtain ⟨a, b⟩ := hw
  unfold qall
  rw [qallF, h]
  simp only
  rw [if_neg hd, qallF_more l.length (l.drop n) _ ((l.drop n).length + 1) (by rw [List.length_drop]; omega) (by omega)]
theorem qallF_within : ∀ (f : Nat) (l : List UInt8) (ls : List StepD), (qallF f l ls).within 2 l.length
  | 0, l, _ => ⟨Nat.zero_le _, by decide⟩
  | f + 1, l, ls => by
    rw [qallF]
    have h := qone_within l ls
    cases hq : qone l ls with
    | bad k e => rw [hq] at h; exact h
    | ok ls' n =>
      rw [hq] at h; obtain ⟨a, b⟩ := h
      simp only
      split
      · exact ⟨a, b⟩
      have h2 := qallF_within f (l.drop n) ls'
      rw [List.length_drop] at h2
      cases hr : qallF f (l.drop n) ls' with
      | bad k e => rw [hr] at h2; obtain ⟨c, d⟩ := h2; exact ⟨by omega, d⟩
      | ok v m => rw [hr] at h2; obtain ⟨c, d⟩ := h2; exact ⟨by omega, by omega⟩
/-- the place that is told lies in the query, or at its end -/
theorem query_place (l : List UInt8) : (queryL l).2.1 ≤ l.length := by
  unfold queryL
  split
  · simp
  · have h := qallF_within (l.length + 1) l []
    unfold qall
    cases hq : qallF (l.length + 1) l [] with
    | bad k e => rw [hq] at h; exact h.1
    | ok ls n => simp
end Go.Proofs.YtpfhdklbhhpbcaaDoor

/-
  The reader of queries: its block; the walks of its small methods: fail, is, must, name.
-/
namespace Go.Proofs.YtpfhdklbhhpbcaaDoor
open Go.RowKit

structure QRdr where
  s : ByteArray
  pos : Nat
  A : Option Addr
  n : Nat
  c : Nat
  bad : Int
  code : Int
def QRdr.cells (r : QRdr) : Array Value := #[.string r.s, .int .i64 r.pos, .slice r.A r.n r.c, .int .i64 r.bad, .int .i64 r.code]
/-- a reader's block -/
def QAt (w : World) (b : Nat) (r : QRdr) : Prop := w.heap[b]? = some (.cells r.cells 57 (0, 0))

theorem cell_of_row {w : World} {b : Nat} {cur : Array Value} {e : TypeId} (h : w.heap[b]? = some (.cells cur e (0, 0))) (j : Nat) : w.cell? ⟨b, j, none⟩ = cur[j]? := by
  simp [World.cell?, h]
theorem QAt.all {w : World} {b : Nat} {r : QRdr} (h : QAt w b r) :
    w.cell? ⟨b, 0, none⟩ = some (.string r.s) ∧ w.cell? ⟨b, 1, none⟩ = some (.int .i64 r.pos) ∧ w.cell? ⟨b, 2, none⟩ = some (.slice r.A r.n r.c) ∧ w.cell? ⟨b, 3, none⟩ = some (.int .i64 r.bad) ∧ w.cell? ⟨b, 4, none⟩ = some (.int .i64 r.code) := by
  refine ⟨?_, ?_, ?_, ?_, ?_⟩ <;> (rw [cell_of_row h]; rfl)
theorem QAt.froz {w : World} {b : Nat} {r : QRdr} (h : QAt w b r) (j : Nat) : w.frozen? ⟨b, j, none⟩ = false := frozen_of_row w b j _ _ h
theorem QAt.drew {w : World} {b : Nat} {r : QRdr} (h : QAt w b r) : QAt w.drew b r := h
theorem QAt.lt {w : World} {b : Nat} {r : QRdr} (h : QAt w b r) : b < w.heap.size := (Array.getElem?_eq_some_iff.1 h).1
theorem QAt.grown {w w' : World} {b : Nat} {r : QRdr} (h : QAt w b r) (hg : w.grownBy w' none) : QAt w' b r := by
  unfold QAt; rw [hg.block b h.lt (by simp)]; exact h
theorem QAt.below {w w' : World} {b : Nat} {r : QRdr} (h : QAt w b r) (hb : Below w.heap.size w w') : QAt w' b r := h.grown (Lib.grownBy_below (World.grownBy.refl w none) hb)
section
variable {w : World} {b : Nat} {r : QRdr} (h : QAt w b r)
include h
theorem QAt.pos (p : Nat) : QAt (w.setCell ⟨b, 1, none⟩ (.int .i64 p)) b { r with pos := p } := Lib.heap_setCell_same (i := 1) h _
theorem QAt.row (A : Option Addr) (n c : Nat) : QAt (w.setCell ⟨b, 2, none⟩ (.slice A n c)) b { r with A := A, n := n, c := c } := Lib.heap_setCell_same (i := 2) h _
theorem QAt.bad (p : Int) : QAt (w.setCell ⟨b, 3, none⟩ (.int .i64 p)) b { r with bad := p } := Lib.heap_setCell_same (i := 3) h _
theorem QAt.code (p : Int) : QAt (w.setCell ⟨b, 4, none⟩ (.int .i64 p)) b { r with code := p } := Lib.heap_setCell_same (i := 4) h _
end

/-- what a method leaves: its answer, the reader, all else as it was -/
def QPost (w : World) (b : Nat) (r' : QRdr) (v : Value) (e : Ending) (w' : World) : Prop := e = .returned v ∧ QAt w' b r' ∧ w.grownBy w' (some b)

set_option maxHeartbeats 1000000 in
theorem fail_any (b : Nat) (r : QRdr) (w : World) (h : QAt w b r) (p e : Int) :
    Calls Tryd.prog 53 #[.pointer (some ⟨b, 0, none⟩), .int .i64 p, .int .i64 e] w (QPost w b { r with bad := p, code := e } (.bool false)) := by
  have H := Lib.hid h
  obtain ⟨_, _, _, h3, h4⟩ := h.all
  have f3 := h.froz 3
  have f4 := h.froz 4
  clear h
  go_enter Tryd.func53, Tryd.ntmps53
  go_wp2_with fail
  go_ret
  exact ⟨rfl, (H.out.bad p).code e, Lib.grownBy_setB (Lib.grownBy_setCell w b 3 _) 4 _⟩

theorem grown_drew {w w' : World} {row : Option Nat} (h : w.grownBy w' row) : w.grownBy w'.drew row := ⟨h.os, h.tape, h.output, h.size, h.block⟩
theorem extract_from (s : ByteArray) (k : Nat) : (s.extract k s.size).data.toList = s.data.toList.drop k := Lib.extract_to_end s k


set_option maxRecDepth 100000 in
set_option maxHeartbeats 2000000 in
theorem is_any (b : Nat) (r : QRdr) (w : World) (h : QAt w b r) (p : List UInt8) (hp : r.pos ≤ r.s.size) (hs : r.s.size ≤ 1000000000) (v : Bool) (hv : Hid (pre p (r.s.data.toList.drop r.pos) = v)) (hl : p.length ≤ 1000) :
    Calls Tryd.prog 42 #[.pointer (some ⟨b, 0, none⟩), .string ⟨p.toArray⟩] w (QPost w b (if v then { r with pos := r.pos + p.length } else r) (.bool v)) := by
  have H := Lib.hid h
  have hb := h.lt
  have hc := Lib.hid h.all
  have hf := Lib.hid h.froz
  have hsz : (⟨p.toArray⟩ : ByteArray).size = p.length := by show p.toArray.size = _; simp
  have hx : Hid ((r.s.extract r.pos r.s.size).data.toList = r.s.data.toList.drop r.pos) := Lib.extract_to_end _ _
  have HS : Hid (w.drew.cell? ⟨b, 0, none⟩ = some (.string r.s) ∧ w.drew.cell? ⟨b, 1, none⟩ = some (.int .i64 r.pos)) := ⟨hc.out.1, hc.out.2.1⟩
  have i0 : (0 : Int) ≤ (r.pos : Int) := by omega
  have i1 : (r.pos : Int) ≤ r.s.size := by omega
  clear h
  cases v with
  | false =>
    go_enter Tryd.func42, Tryd.ntmps42
    go_wp2_with fail
    refine wp_region_held_drew (S := fun w' => w'.cell? ⟨b, 0, none⟩ = some (.string r.s) ∧ w'.cell? ⟨b, 1, none⟩ = some (.int .i64 r.pos)) (by kernel_rfl) HS.out (fun hHeld => ?_)
    refine tks (oi := ⟨_, _, _, _, _, _⟩) (v := ?_) 0 rfl (.inl ⟨by rfl, ?_⟩) ?_; rotate_left
    · (intro wS hSw; (try dsimp only at hSw); go_simp); all_goals with_reducible rfl
    try go_frame
    refine tks (oi := ⟨_, _, _, _, _, _⟩) (v := ?_) 1 rfl (.inl ⟨by rfl, ?_⟩) ?_; rotate_left
    · (intro wS hSw; (try dsimp only at hSw); go_simp); all_goals with_reducible rfl
    try go_frame
    refine tks (oi := ⟨_, _, _, _, _, _⟩) (v := ?_) 2 rfl (.inl ⟨by rfl, ?_⟩) ?_; rotate_left
    · (intro wS hSw; (try dsimp only at hSw); go_simp); all_goals with_reducible rfl
    try go_frame
    refine tks (oi := ⟨_, _, _, _, _, _⟩) (v := ?_) 3 rfl (.inl ⟨by rfl, ?_⟩) ?_; rotate_left
    · (intro wS hSw; (try dsimp only at hSw); go_simp); all_goals with_reducible rfl
    try go_frame
    refine tks (oi := ⟨_, _, _, _, _, _⟩) (v := ?_) 4 rfl (.inl ⟨by rfl, ?_⟩) ?_; rotate_left
    · (intro wS hSw; (try dsimp only at hSw); go_simp); all_goals with_reducible rfl
    try go_frame
    refine tks (oi := ⟨_, _, _, _, _, _⟩) (v := ?_) 5 rfl (.inl ⟨by rfl, ?_⟩) ?_; rotate_left
    · (intro wS hSw; (try dsimp only at hSw); go_simp); all_goals with_reducible rfl
    try go_frame
    refine tks (oi := ⟨_, _, _, _, _, _⟩) (v := ?_) 6 rfl (.inl ⟨by rfl, ?_⟩) ?_; rotate_left
    · (intro wS hSw; (try dsimp only at hSw); go_simp); all_goals with_reducible rfl
    try go_frame
    refine tks (oi := ⟨_, _, _, _, _, _⟩) (v := ?_) 7 rfl (.inl ⟨by rfl, ?_⟩) ?_; rotate_left
    · (intro wS hSw; (try dsimp only at hSw); go_simp); all_goals with_reducible rfl
    try go_frame
    refine tks (oi := ⟨_, _, _, _, _, _⟩) (v := ?_) 8 rfl (.inl ⟨by rfl, ?_⟩) ?_; rotate_left
    · (intro wS hSw; (try dsimp only at hSw); go_simp); all_goals with_reducible rfl
    try go_frame
    refine tks (oi := ⟨_, _, _, _, _, _⟩) (v := ?_) 9 rfl (.inl ⟨by rfl, ?_⟩) ?_; rotate_left
    · (intro wS hSw; (try dsimp only at hSw); go_simp); all_goals with_reducible rfl
    try go_frame
    refine wpAnyH_ready (rs := [10]) (by kernel_rfl) (by simp) ?_
    refine AllReadyH.cons (o := ⟨_, _, _, _, _, _⟩) rfl (fun K hK => ?_) AllReadyH.nil
    go_simp
    refine (hasPrefix_pre _ p _).mono ?_
    rw [hx.out, hv.out]
    rintro e w2 ⟨rfl, rfl⟩
    go_wp2_with fail
    refine hK.out _ _ (HS.out) (fun hHeld => ?_)
    clear hK K
    try go_frame
    refine tks (oi := ⟨_, _, _, _, _, _⟩) (v := ?_) 11 rfl (.inl ⟨by rfl, ?_⟩) ?_; rotate_left
    · (intro wS hSw; (try dsimp only at hSw); go_simp); all_goals with_reducible rfl
    try go_frame
    refine wpAnyH_done (by kernel_rfl) ?_ _
    clear hHeld
    go_wp2_with fail
    go_ret
    exact ⟨rfl, H.out, grown_drew (World.grownBy.refl w _)⟩
  | true =>
    go_enter Tryd.func42, Tryd.ntmps42
    go_wp2_with fail
    refine wp_region_held_drew (S := fun w' => w'.cell? ⟨b, 0, none⟩ = some (.string r.s) ∧ w'.cell? ⟨b, 1, none⟩ = some (.int .i64 r.pos)) (by kernel_rfl) HS.out (fun hHeld => ?_)
    refine tks (oi := ⟨_, _, _, _, _, _⟩) (v := ?_) 0 rfl (.inl ⟨by rfl, ?_⟩) ?_; rotate_left
    · (intro wS hSw; (try dsimp only at hSw); go_simp); all_goals with_reducible rfl
    try go_frame
    refine tks (oi := ⟨_, _, _, _, _, _⟩) (v := ?_) 1 rfl (.inl ⟨by rfl, ?_⟩) ?_; rotate_left
    · (intro wS hSw; (try dsimp only at hSw); go_simp); all_goals with_reducible rfl
    try go_frame
    refine tks (oi := ⟨_, _, _, _, _, _⟩) (v := ?_) 2 rfl (.inl ⟨by rfl, ?_⟩) ?_; rotate_left
    · (intro wS hSw; (try dsimp only at hSw); go_simp); all_goals with_reducible rfl
    try go_frame
    refine tks (oi := ⟨_, _, _, _, _, _⟩) (v := ?_) 3 rfl (.inl ⟨by rfl, ?_⟩) ?_; rotate_left
    · (intro wS hSw; (try dsimp only at hSw); go_simp); all_goals with_reducible rfl
    try go_frame
    refine tks (oi := ⟨_, _, _, _, _, _⟩) (v := ?_) 4 rfl (.inl ⟨by rfl, ?_⟩) ?_; rotate_left
    · (intro wS hSw; (try dsimp only at hSw); go_simp); all_goals with_reducible rfl
    try go_frame
    refine tks (oi := ⟨_, _, _, _, _, _⟩) (v := ?_) 5 rfl (.inl ⟨by rfl, ?_⟩) ?_; rotate_left
    · (intro wS hSw; (try dsimp only at hSw); go_simp); all_goals with_reducible rfl
    try go_frame
    refine tks (oi := ⟨_, _, _, _, _, _⟩) (v := ?_) 6 rfl (.inl ⟨by rfl, ?_⟩) ?_; rotate_left
    · (intro wS hSw; (try dsimp only at hSw); go_simp); all_goals with_reducible rfl
    try go_frame
    refine tks (oi := ⟨_, _, _, _, _, _⟩) (v := ?_) 7 rfl (.inl ⟨by rfl, ?_⟩) ?_; rotate_left
    · (intro wS hSw; (try dsimp only at hSw); go_simp); all_goals with_reducible rfl
    try go_frame
    refine tks (oi := ⟨_, _, _, _, _, _⟩) (v := ?_) 8 rfl (.inl ⟨by rfl, ?_⟩) ?_; rotate_left
    · (intro wS hSw; (try dsimp only at hSw); go_simp); all_goals with_reducible rfl
    try go_frame
    refine tks (oi := ⟨_, _, _, _, _, _⟩) (v := ?_) 9 rfl (.inl ⟨by rfl, ?_⟩) ?_; rotate_left
    · (intro wS hSw; (try dsimp only at hSw); go_simp); all_goals with_reducible rfl
    try go_frame
    refine wpAnyH_ready (rs := [10]) (by kernel_rfl) (by simp) ?_
    refine AllReadyH.cons (o := ⟨_, _, _, _, _, _⟩) rfl (fun K hK => ?_) AllReadyH.nil
    go_simp
    refine (hasPrefix_pre _ p _).mono ?_
    rw [hx.out, hv.out]
    rintro e w2 ⟨rfl, rfl⟩
    go_wp2_with fail
    refine hK.out _ _ (HS.out) (fun hHeld => ?_)
    clear hK K
    try go_frame
    refine tks (oi := ⟨_, _, _, _, _, _⟩) (v := ?_) 11 rfl (.inl ⟨by rfl, ?_⟩) ?_; rotate_left
    · (intro wS hSw; (try dsimp only at hSw); go_simp); all_goals with_reducible rfl
    try go_frame
    refine wpAnyH_done (by kernel_rfl) ?_ _
    clear hHeld
    obtain ⟨h0, h1⟩ := HS.out
    have f1 : w.drew.frozen? ⟨b, 1, none⟩ = false := H.out.drew.froz 1
    go_wp2_with fail
    go_ret
    exact ⟨rfl, H.out.drew.pos _, Lib.grownBy_setB (grown_drew (World.grownBy.refl w _)) 1 _⟩

set_option maxRecDepth 100000 in
set_option maxHeartbeats 2000000 in
theorem must_any (b : Nat) (r : QRdr) (w : World) (h : QAt w b r) (p : List UInt8) (hp : r.pos ≤ r.s.size) (hs : r.s.size ≤ 1000000000) (v : Bool) (hv : Hid (pre p (r.s.data.toList.drop r.pos) = v)) (hl : p.length ≤ 1000) :
    Calls Tryd.prog 41 #[.pointer (some ⟨b, 0, none⟩), .string ⟨p.toArray⟩] w (QPost w b (if v then { r with pos := r.pos + p.length } else { r with bad := r.pos, code := 70 }) (.bool v)) := by
  cases v with
  | false =>
    go_enter Tryd.func41, Tryd.ntmps41
    go_wp2_with fail
    refine (is_any b r w h p hp hs false hv hl).mono ?_
    rintro e w2 ⟨rfl, h2, hg2⟩
    have h2' : QAt w2 b r := h2
    obtain ⟨_, h21, _⟩ := h2'.all
    go_wp2_with fail
    refine (fail_any b r w2 h2' r.pos 70).mono ?_
    rintro e w3 ⟨rfl, h3, hg3⟩
    go_wp2_with fail
    go_ret
    exact ⟨rfl, h3, Lib.grownBy_trans hg2 hg3⟩
  | true =>
    go_enter Tryd.func41, Tryd.ntmps41
    go_wp2_with fail
    refine (is_any b r w h p hp hs true hv hl).mono ?_
    rintro e w2 ⟨rfl, h2, hg2⟩
    go_wp2_with fail
    go_ret
    exact ⟨rfl, h2, hg2⟩
theorem Undo_at (s : ByteArray) (v : Bool) (w : World) (hs : s.size ≤ 1099511627776) (o : List UInt8) (k : Nat) (e : Int) (h : Hid (undoL v s.data.toList = (o, k, e))) :
    Calls Tryd.prog 77 #[.string s, .bool v] w (Ret w (.tuple #[.string ⟨o.toArray⟩, .int .i64 (k : Nat), .int .i64 e])) := by
  have := Undo_any s v w hs
  rw [h.out] at this
  exact this
theorem grown_twice {w w1 w2 : World} {b : Nat} (h1 : w.grownBy w1 (some b)) (h2 : w1.grownBy w2 (some b)) : w.grownBy w2 (some b) := Lib.grownBy_trans h1 h2


/-- what a method leaves that reads a part: it, and the reader behind it; or what is amiss, and where -/
def QTold {α : Type} (w : World) (b : Nat) (r : QRdr) (V : Told α) (yes : α → Value) (no : Value → Prop) (e : Ending) (w' : World) : Prop :=
  (match V with
    | .ok x n => e = .returned (yes x) ∧ QAt w' b { r with pos := r.pos + n }
    | .bad k c => ∃ v, e = .returned v ∧ no v ∧ ∃ p : Nat, QAt w' b { r with pos := p, bad := ((r.pos + k : Nat) : Int), code := c }) ∧ w.grownBy w' (some b)
end Go.Proofs.YtpfhdklbhhpbcaaDoor

/-
  The reader of queries: the walk of name.
-/
namespace Go.Proofs.YtpfhdklbhhpbcaaDoor
open Go.RowKit

theorem Name_q (s : List UInt8) (w : World) (hs : s.length ≤ 1000000000) (r : Bool) (hr : Hid (nameL s = r)) :
    Calls Tryd.prog 22 #[.string ⟨s.toArray⟩] w (Ret w (.bool r)) := Name_any _ w (by show s.toArray.size ≤ maxLen; unfold maxLen; simp; omega) r hr
theorem ba_list (s : ByteArray) : s = ⟨s.data.toList.toArray⟩ := by simp


set_option maxRecDepth 100000 in
set_option maxHeartbeats 4000000 in
theorem name_any (b : Nat) (r : QRdr) (w : World) (h : QAt w b r) (hp : r.pos ≤ r.s.size) (hs : r.s.size ≤ 1000000000) (V : Told (List UInt8)) (hV : Hid (qname (r.s.data.toList.drop r.pos) = V)) :
    Calls Tryd.prog 63 #[.pointer (some ⟨b, 0, none⟩)] w (QTold w b r V (fun s => .tuple #[.string ⟨s.toArray⟩, .bool true]) (fun v => v = .tuple #[.string ⟨#[]⟩, .bool false])) := by
  have H := Lib.hid h
  obtain ⟨h0, h1, _⟩ := h.all
  have HL := Lib.hid (size_toList r.s)
  obtain ⟨n, hn⟩ : ∃ n, Hid (partN (r.s.data.toList.drop r.pos) = n) := ⟨_, rfl⟩
  clear h
  go_enter Tryd.func63, Tryd.ntmps63
  go_wp2_with fail
  clear h0 h1
  go_loopg [] (r.s.size - r.pos) (fun g wr => ∃ p : Nat, r.pos ≤ p ∧ p ≤ r.s.size ∧ g = r.s.size - p ∧ Hid (QAt wr b { r with pos := p }) ∧ Hid (p + partN (r.s.data.toList.drop p) = r.pos + n) ∧ Hid (w.grownBy wr (some b)))
  case atStart => exact ⟨r.pos, Nat.le_refl _, hp, rfl, H.out, by show _ = _; rw [hn.out], World.grownBy.refl w _⟩
  case round =>
    obtain ⟨p, hrp, hk, rfl, HR, hin, hg⟩ := hrel
    have HS : Hid (wr.drew.cell? ⟨b, 0, none⟩ = some (.string r.s) ∧ wr.drew.cell? ⟨b, 1, none⟩ = some (.int .i64 p)) := ⟨HR.out.drew.all.1, HR.out.drew.all.2.1⟩
    obtain ⟨c, m, hq⟩ : ∃ c m, Hid (nextL (r.s.data.toList.drop p) = (c, m)) := ⟨_, _, rfl⟩
    have hq' : Hid (nextL (r.s.extract p r.s.size).data.toList = (c, m)) := by show _ = _; rw [extract_from]; exact hq.out
    have hml := (nextL_le (r.s.data.toList.drop p)).1
    rw [hq.out, List.length_drop, HL.out] at hml
    have i0 : (0 : Int) ≤ (p : Int) := by omega
    have i1 : (p : Int) ≤ r.s.size := by omega
    have i3 : (0 : Int) ≤ (r.pos : Int) := by omega
    have hsx : (r.s.extract p r.s.size).size ≤ maxLen := by unfold maxLen; simp; omega
    have hml' : p + m ≤ r.s.size := by simp only at hml; omega
    clear hml
    go_wp2_with fail
    refine wp_region_held_drew (S := fun w' => w'.cell? ⟨b, 0, none⟩ = some (.string r.s) ∧ w'.cell? ⟨b, 1, none⟩ = some (.int .i64 p)) (by kernel_rfl) HS.out (fun hHeld => ?_)
    refine tks (oi := ⟨_, _, _, _, _, _⟩) (v := ?_) 0 rfl (.inl ⟨by rfl, ?_⟩) ?_; rotate_left
    · (intro wS hSw; (try dsimp only at hSw); go_simp); all_goals with_reducible rfl
    try go_frame
    refine tks (oi := ⟨_, _, _, _, _, _⟩) (v := ?_) 1 rfl (.inl ⟨by rfl, ?_⟩) ?_; rotate_left
    · (intro wS hSw; (try dsimp only at hSw); go_simp); all_goals with_reducible rfl
    try go_frame
    refine tks (oi := ⟨_, _, _, _, _, _⟩) (v := ?_) 2 rfl (.inl ⟨by rfl, ?_⟩) ?_; rotate_left
    · (intro wS hSw; (try dsimp only at hSw); go_simp); all_goals with_reducible rfl
    try go_frame
    refine tks (oi := ⟨_, _, _, _, _, _⟩) (v := ?_) 3 rfl (.inl ⟨by rfl, ?_⟩) ?_; rotate_left
    · (intro wS hSw; (try dsimp only at hSw); go_simp); all_goals with_reducible rfl
    try go_frame
    refine tks (oi := ⟨_, _, _, _, _, _⟩) (v := ?_) 4 rfl (.inl ⟨by rfl, ?_⟩) ?_; rotate_left
    · (intro wS hSw; (try dsimp only at hSw); go_simp); all_goals with_reducible rfl
    try go_frame
    refine tks (oi := ⟨_, _, _, _, _, _⟩) (v := ?_) 5 rfl (.inl ⟨by rfl, ?_⟩) ?_; rotate_left
    · (intro wS hSw; (try dsimp only at hSw); go_simp); all_goals with_reducible rfl
    try go_frame
    refine tks (oi := ⟨_, _, _, _, _, _⟩) (v := ?_) 6 rfl (.inl ⟨by rfl, ?_⟩) ?_; rotate_left
    · (intro wS hSw; (try dsimp only at hSw); go_simp); all_goals with_reducible rfl
    try go_frame
    refine tks (oi := ⟨_, _, _, _, _, _⟩) (v := ?_) 7 rfl (.inl ⟨by rfl, ?_⟩) ?_; rotate_left
    · (intro wS hSw; (try dsimp only at hSw); go_simp); all_goals with_reducible rfl
    try go_frame
    refine tks (oi := ⟨_, _, _, _, _, _⟩) (v := ?_) 8 rfl (.inl ⟨by rfl, ?_⟩) ?_; rotate_left
    · (intro wS hSw; (try dsimp only at hSw); go_simp); all_goals with_reducible rfl
    try go_frame
    refine wpAnyH_ready (rs := [9]) (by kernel_rfl) (by simp) ?_
    refine AllReadyH.cons (o := ⟨_, _, _, _, _, _⟩) rfl (fun K hK => ?_) AllReadyH.nil
    go_simp
    refine (Next_as _ _ hsx c m hq').mono ?_
    rintro e w2 ⟨rfl, hb2⟩
    have HR2 : Hid (QAt w2 b { r with pos := p }) := QAt.below (w := wr.drew) HR.out.drew hb2
    have HS2 : Hid (w2.cell? ⟨b, 0, none⟩ = some (.string r.s) ∧ w2.cell? ⟨b, 1, none⟩ = some (.int .i64 p)) := ⟨HR2.out.all.1, HR2.out.all.2.1⟩
    have HS3 : Hid (w2.drew.cell? ⟨b, 0, none⟩ = some (.string r.s) ∧ w2.drew.cell? ⟨b, 1, none⟩ = some (.int .i64 p)) := HS2.out
    have hg2 : Hid (w.grownBy w2 (some b)) := Lib.grownBy_below (grown_drew hg.out) hb2
    go_wp2_with fail
    refine hK.out _ _ (HS2.out) (fun hHeld => ?_)
    clear hK K
    try go_frame
    refine tks (oi := ⟨_, _, _, _, _, _⟩) (v := ?_) 10 rfl (.inl ⟨by rfl, ?_⟩) ?_; rotate_left
    · (intro wS hSw; (try dsimp only at hSw); go_simp); all_goals with_reducible rfl
    try go_frame
    refine tks (oi := ⟨_, _, _, _, _, _⟩) (v := ?_) 11 rfl (.inl ⟨by rfl, ?_⟩) ?_; rotate_left
    · (intro wS hSw; (try dsimp only at hSw); go_simp); all_goals with_reducible rfl
    try go_frame
    refine tks (oi := ⟨_, _, _, _, _, _⟩) (v := ?_) 12 rfl (.inl ⟨by rfl, ?_⟩) ?_; rotate_left
    · (intro wS hSw; (try dsimp only at hSw); go_simp); all_goals with_reducible rfl
    try go_frame
    refine tks (oi := ⟨_, _, _, _, _, _⟩) (v := ?_) 13 rfl (.inl ⟨by rfl, ?_⟩) ?_; rotate_left
    · (intro wS hSw; (try dsimp only at hSw); go_simp); all_goals with_reducible rfl
    try go_frame
    refine tks (oi := ⟨_, _, _, _, _, _⟩) (v := ?_) 14 rfl (.inl ⟨by rfl, ?_⟩) ?_; rotate_left
    · (intro wS hSw; (try dsimp only at hSw); go_simp); all_goals with_reducible rfl
    try go_frame
    refine wpAnyH_done (by kernel_rfl) ?_ _
    clear hHeld
    by_cases hm : m = 0
    · subst hm
      have HIN : Hid (p = r.pos + n) := by
        have := hin.out
        rw [partN_none (.inl (by rw [hq.out]))] at this
        show _ = _
        omega
      clear hin
      obtain ⟨h0, h1⟩ := HS2.out
      have hnl : n ≤ (r.s.data.toList.drop r.pos).length := by rw [← hn.out]; exact partN_len _
      obtain ⟨t, ht⟩ : ∃ t, Hid ((r.s.data.toList.drop r.pos).take n = t) := ⟨_, rfl⟩
      have hext : Hid (r.s.extract r.pos p = ⟨t.toArray⟩) := by
        show _ = _
        rw [ba_list (r.s.extract r.pos p), Lib.extract_data, ← ht.out]
        have hp2 := HIN.out
        rw [show p - r.pos = n by omega]
      have htl : t.length = n := by rw [← ht.out, List.length_take]; omega
      have hsz : t.length ≤ 1000000000 := by rw [List.length_drop, HL.out] at hnl; omega
      have i2 : (r.pos : Int) ≤ p := by omega
      obtain ⟨v, hv⟩ : ∃ v, Hid (nameL t = v) := ⟨_, rfl⟩
      have hVv : Hid (V = if v = false then .bad 0 70 else .ok t n) := by
        show _ = _
        rw [← hV.out]; unfold qname; rw [hn.out, ht.out, hv.out]
      clear hnl hV htl
      go_wp2_with fail
      refine wp_region_held_drew (S := fun w' => w'.cell? ⟨b, 0, none⟩ = some (.string r.s) ∧ w'.cell? ⟨b, 1, none⟩ = some (.int .i64 p)) (by kernel_rfl) HS3.out (fun hHeld => ?_)
      refine tks (oi := ⟨_, _, _, _, _, _⟩) (v := ?_) 0 rfl (.inl ⟨by rfl, ?_⟩) ?_; rotate_left
      · (intro wS hSw; (try dsimp only at hSw); go_simp); all_goals with_reducible rfl
      try go_frame
      refine tks (oi := ⟨_, _, _, _, _, _⟩) (v := ?_) 1 rfl (.inl ⟨by rfl, ?_⟩) ?_; rotate_left
      · (intro wS hSw; (try dsimp only at hSw); go_simp); all_goals with_reducible rfl
      try go_frame
      refine tks (oi := ⟨_, _, _, _, _, _⟩) (v := ?_) 2 rfl (.inl ⟨by rfl, ?_⟩) ?_; rotate_left
      · (intro wS hSw; (try dsimp only at hSw); go_simp); all_goals with_reducible rfl
      try go_frame
      refine tks (oi := ⟨_, _, _, _, _, _⟩) (v := ?_) 3 rfl (.inl ⟨by rfl, ?_⟩) ?_; rotate_left
      · (intro wS hSw; (try dsimp only at hSw); go_simp); all_goals with_reducible rfl
      try go_frame
      refine tks (oi := ⟨_, _, _, _, _, _⟩) (v := ?_) 4 rfl (.inl ⟨by rfl, ?_⟩) ?_; rotate_left
      · (intro wS hSw; (try dsimp only at hSw); go_simp); all_goals with_reducible rfl
      try go_frame
      refine tks (oi := ⟨_, _, _, _, _, _⟩) (v := ?_) 5 rfl (.inl ⟨by rfl, ?_⟩) ?_; rotate_left
      · (intro wS hSw; (try dsimp only at hSw); go_simp); all_goals with_reducible rfl
      try go_frame
      refine tks (oi := ⟨_, _, _, _, _, _⟩) (v := ?_) 6 rfl (.inl ⟨by rfl, ?_⟩) ?_; rotate_left
      · (intro wS hSw; (try dsimp only at hSw); go_simp); all_goals with_reducible rfl
      try go_frame
      refine tks (oi := ⟨_, _, _, _, _, _⟩) (v := ?_) 7 rfl (.inl ⟨by rfl, ?_⟩) ?_; rotate_left
      · (intro wS hSw; (try dsimp only at hSw); go_simp); all_goals with_reducible rfl
      try go_frame
      refine tks (oi := ⟨_, _, _, _, _, _⟩) (v := ?_) 8 rfl (.inl ⟨by rfl, ?_⟩) ?_; rotate_left
      · (intro wS hSw; (try dsimp only at hSw); go_simp); all_goals with_reducible rfl
      try go_frame
      refine tks (oi := ⟨_, _, _, _, _, _⟩) (v := ?_) 9 rfl (.inl ⟨by rfl, ?_⟩) ?_; rotate_left
      · (intro wS hSw; (try dsimp only at hSw); go_simp); all_goals with_reducible rfl
      try go_frame
      refine tks (oi := ⟨_, _, _, _, _, _⟩) (v := ?_) 10 rfl (.inl ⟨by rfl, ?_⟩) ?_; rotate_left
      · (intro wS hSw; (try dsimp only at hSw); go_simp); all_goals with_reducible rfl
      try go_frame
      refine wpAnyH_done (by kernel_rfl) ?_ _
      clear hHeld h0 h1
      rw [hext.out]
      go_wp2_with fail
      refine (Name_q t _ hsz v hv).mono ?_
      rintro e w5 ⟨rfl, hb5⟩
      have hR5 : QAt w5 b { r with pos := r.pos + n } := by
        rw [← HIN.out]; exact QAt.below (w := w2.drew) HR2.out.drew hb5
      have hg5 : w.grownBy w5 (some b) := Lib.grownBy_below (grown_drew hg2.out) hb5
      cases v with
      | true =>
        rw [if_neg (by decide)] at hVv
        go_wp2_with fail
        go_ret2
        rw [hVv.out]
        exact ⟨⟨rfl, hR5⟩, hg5⟩
      | false =>
        rw [if_pos rfl] at hVv
        go_wp2_with fail
        refine (fail_any b _ w5 hR5 r.pos 70).mono ?_
        rintro e w6 ⟨rfl, h6, hg6⟩
        go_wp2_with fail
        go_ret2
        rw [hVv.out]
        exact ⟨⟨_, rfl, rfl, _, h6⟩, grown_twice hg5 hg6⟩
    · have hm0 : ((m : Int) == 0) = false := by simp; omega
      cases hpb : partB c with
      | false =>
        have HPB : Hid (partB c = false) := hpb
        have HIN : Hid (p = r.pos + n) := by
          have := hin.out
          rw [partN_none (.inr (by rw [hq.out]; exact hpb))] at this
          show _ = _
          omega
        clear hin hpb
        go_wp2_with fail
        refine (Part_as c _ false HPB).mono ?_
        rintro e w3 ⟨rfl, hb3⟩
        have HR2 : Hid (QAt w3 b { r with pos := p }) := HR2.out.below hb3
        have HS2 : Hid (w3.cell? ⟨b, 0, none⟩ = some (.string r.s) ∧ w3.cell? ⟨b, 1, none⟩ = some (.int .i64 p)) := ⟨HR2.out.all.1, HR2.out.all.2.1⟩
        have HS3 : Hid (w3.drew.cell? ⟨b, 0, none⟩ = some (.string r.s) ∧ w3.drew.cell? ⟨b, 1, none⟩ = some (.int .i64 p)) := HS2.out
        have hg2 : Hid (w.grownBy w3 (some b)) := Lib.grownBy_below hg2.out hb3
        obtain ⟨h0, h1⟩ := HS2.out
        have hnl : n ≤ (r.s.data.toList.drop r.pos).length := by rw [← hn.out]; exact partN_len _
        obtain ⟨t, ht⟩ : ∃ t, Hid ((r.s.data.toList.drop r.pos).take n = t) := ⟨_, rfl⟩
        have hext : Hid (r.s.extract r.pos p = ⟨t.toArray⟩) := by
          show _ = _
          rw [ba_list (r.s.extract r.pos p), Lib.extract_data, ← ht.out]
          have hp2 := HIN.out
          rw [show p - r.pos = n by omega]
        have htl : t.length = n := by rw [← ht.out, List.length_take]; omega
        have hsz : t.length ≤ 1000000000 := by rw [List.length_drop, HL.out] at hnl; omega
        have i2 : (r.pos : Int) ≤ p := by omega
        obtain ⟨v, hv⟩ : ∃ v, Hid (nameL t = v) := ⟨_, rfl⟩
        have hVv : Hid (V = if v = false then .bad 0 70 else .ok t n) := by
          show _ = _
          rw [← hV.out]; unfold qname; rw [hn.out, ht.out, hv.out]
        clear hnl hV htl
        go_wp2_with fail
        refine wp_region_held_drew (S := fun w' => w'.cell? ⟨b, 0, none⟩ = some (.string r.s) ∧ w'.cell? ⟨b, 1, none⟩ = some (.int .i64 p)) (by kernel_rfl) HS3.out (fun hHeld => ?_)
        refine tks (oi := ⟨_, _, _, _, _, _⟩) (v := ?_) 0 rfl (.inl ⟨by rfl, ?_⟩) ?_; rotate_left
        · (intro wS hSw; (try dsimp only at hSw); go_simp); all_goals with_reducible rfl
        try go_frame
        refine tks (oi := ⟨_, _, _, _, _, _⟩) (v := ?_) 1 rfl (.inl ⟨by rfl, ?_⟩) ?_; rotate_left
        · (intro wS hSw; (try dsimp only at hSw); go_simp); all_goals with_reducible rfl
        try go_frame
        refine tks (oi := ⟨_, _, _, _, _, _⟩) (v := ?_) 2 rfl (.inl ⟨by rfl, ?_⟩) ?_; rotate_left
        · (intro wS hSw; (try dsimp only at hSw); go_simp); all_goals with_reducible rfl
        try go_frame
        refine tks (oi := ⟨_, _, _, _, _, _⟩) (v := ?_) 3 rfl (.inl ⟨by rfl, ?_⟩) ?_; rotate_left
        · (intro wS hSw; (try dsimp only at hSw); go_simp); all_goals with_reducible rfl
        try go_frame
        refine tks (oi := ⟨_, _, _, _, _, _⟩) (v := ?_) 4 rfl (.inl ⟨by rfl, ?_⟩) ?_; rotate_left
        · (intro wS hSw; (try dsimp only at hSw); go_simp); all_goals with_reducible rfl
        try go_frame
        refine tks (oi := ⟨_, _, _, _, _, _⟩) (v := ?_) 5 rfl (.inl ⟨by rfl, ?_⟩) ?_; rotate_left
        · (intro wS hSw; (try dsimp only at hSw); go_simp); all_goals with_reducible rfl
        try go_frame
        refine tks (oi := ⟨_, _, _, _, _, _⟩) (v := ?_) 6 rfl (.inl ⟨by rfl, ?_⟩) ?_; rotate_left
        · (intro wS hSw; (try dsimp only at hSw); go_simp); all_goals with_reducible rfl
        try go_frame
        refine tks (oi := ⟨_, _, _, _, _, _⟩) (v := ?_) 7 rfl (.inl ⟨by rfl, ?_⟩) ?_; rotate_left
        · (intro wS hSw; (try dsimp only at hSw); go_simp); all_goals with_reducible rfl
        try go_frame
        refine tks (oi := ⟨_, _, _, _, _, _⟩) (v := ?_) 8 rfl (.inl ⟨by rfl, ?_⟩) ?_; rotate_left
        · (intro wS hSw; (try dsimp only at hSw); go_simp); all_goals with_reducible rfl
        try go_frame
        refine tks (oi := ⟨_, _, _, _, _, _⟩) (v := ?_) 9 rfl (.inl ⟨by rfl, ?_⟩) ?_; rotate_left
        · (intro wS hSw; (try dsimp only at hSw); go_simp); all_goals with_reducible rfl
        try go_frame
        refine tks (oi := ⟨_, _, _, _, _, _⟩) (v := ?_) 10 rfl (.inl ⟨by rfl, ?_⟩) ?_; rotate_left
        · (intro wS hSw; (try dsimp only at hSw); go_simp); all_goals with_reducible rfl
        try go_frame
        refine wpAnyH_done (by kernel_rfl) ?_ _
        clear hHeld h0 h1
        rw [hext.out]
        go_wp2_with fail
        refine (Name_q t _ hsz v hv).mono ?_
        rintro e w5 ⟨rfl, hb5⟩
        have hR5 : QAt w5 b { r with pos := r.pos + n } := by
          rw [← HIN.out]; exact QAt.below (w := w3.drew) HR2.out.drew hb5
        have hg5 : w.grownBy w5 (some b) := Lib.grownBy_below (grown_drew hg2.out) hb5
        cases v with
        | true =>
          rw [if_neg (by decide)] at hVv
          go_wp2_with fail
          go_ret2
          rw [hVv.out]
          exact ⟨⟨rfl, hR5⟩, hg5⟩
        | false =>
          rw [if_pos rfl] at hVv
          go_wp2_with fail
          refine (fail_any b _ w5 hR5 r.pos 70).mono ?_
          rintro e w6 ⟨rfl, h6, hg6⟩
          go_wp2_with fail
          go_ret2
          rw [hVv.out]
          exact ⟨⟨_, rfl, rfl, _, h6⟩, grown_twice hg5 hg6⟩
      | true =>
        have HPB : Hid (partB c = true) := hpb
        have HIN : Hid (p + m + partN (r.s.data.toList.drop (p + m)) = r.pos + n) := by
          have h1 := hin.out
          rw [partN_step (by rw [hq.out]; simp [hm, hpb]), hq.out, List.drop_drop] at h1
          show _ = _
          simp only at h1
          omega
        clear hin hpb
        go_wp2_with fail
        refine (Part_as c _ true HPB).mono ?_
        rintro e w3 ⟨rfl, hb3⟩
        have HR3 : Hid (QAt w3 b { r with pos := p }) := HR2.out.below hb3
        obtain ⟨_, h1, _⟩ := HR3.out.all
        have f1 : w3.frozen? ⟨b, 1, none⟩ = false := HR3.out.froz 1
        go_wp2_with fail
        go_roundg (r.s.size - (p + m))
        case measure => omega
        case rel =>
          refine ⟨p + m, by omega, by omega, rfl, ?_, HIN, grown_twice (Lib.grownBy_below hg2.out hb3) (Lib.grownBy_setCell _ b 1 _)⟩
          have := HR3.out.pos (p + m)
          rw [show ((p + m : Nat) : Int) = (p : Int) + m by omega] at this
          exact this
end Go.Proofs.YtpfhdklbhhpbcaaDoor

/-
  The reader of queries: the walk of value.
-/
namespace Go.Proofs.YtpfhdklbhhpbcaaDoor
open Go.RowKit

theorem idx_not (c : UInt8) : ∀ l : List UInt8, (l.takeWhile (· != c)).length = l.length → Lib.indexByte l c = -1
  | [], _ => rfl
  | a :: l, h => by
    rw [List.takeWhile_cons] at h
    by_cases ha : a = c
    · subst ha; simp at h
    · have hb : (a != c) = true := by simpa using ha
      rw [if_pos hb] at h
      simp only [List.length_cons] at h
      rw [Lib.indexByte, idx_not c l (by omega)]
      simp [ha]
theorem idx_yes (c : UInt8) : ∀ l : List UInt8, (l.takeWhile (· != c)).length ≠ l.length → Lib.indexByte l c = ((l.takeWhile (· != c)).length : Nat)
  | [], h => absurd rfl h
  | a :: l, h => by
    rw [List.takeWhile_cons] at h ⊢
    by_cases ha : a = c
    · subst ha; simp [Lib.indexByte]
    · have hb : (a != c) = true := by simpa using ha
      rw [if_pos hb] at h ⊢
      simp only [List.length_cons] at h ⊢
      rw [Lib.indexByte, idx_yes c l (by omega)]
      have : ((((l.takeWhile (· != c)).length : Nat) : Int) == -1) = false := by simp
      simp [ha, this]
theorem u8_back (x : UInt8) : ((x.toNat : Int)).toNat.toUInt8 = x := by simp



set_option maxRecDepth 100000 in
set_option maxHeartbeats 8000000 in
theorem value_any (b : Nat) (r : QRdr) (w : World) (h : QAt w b r) (hp : r.pos ≤ r.s.size) (hs : r.s.size ≤ 1000000000) (V : Told (List UInt8)) (hV : Hid (qvalue (r.s.data.toList.drop r.pos) = V)) :
    Calls Tryd.prog 65 #[.pointer (some ⟨b, 0, none⟩)] w (QTold w b r V (fun s => .tuple #[.string ⟨s.toArray⟩, .bool true]) (fun v => v = .tuple #[.string ⟨#[]⟩, .bool false])) := by
  have H := Lib.hid h
  have HL := Lib.hid (size_toList r.s)
  clear h
  cases hmv : pre [34] (r.s.data.toList.drop r.pos) with
  | false =>
    have hm : Hid (pre [34] (r.s.data.toList.drop r.pos) = false) := hmv
    have HV : Hid (V = .bad 0 70) := by show _ = _; rw [← hV.out]; unfold qvalue; rw [if_pos hmv]
    clear hV hmv
    go_enter Tryd.func65, Tryd.ntmps65
    go_wp2_with fail
    refine (must_any b r w H.out [34] hp hs false hm (by decide)).mono ?_
    rintro e w2 ⟨rfl, h2, hg2⟩
    go_wp2_with fail
    go_ret2
    rw [HV.out]
    exact ⟨⟨_, rfl, rfl, _, h2⟩, hg2⟩
  | true =>
    have hm : Hid (pre [34] (r.s.data.toList.drop r.pos) = true) := hmv
    obtain ⟨Q, hQ⟩ : ∃ Q, Hid (r.pos + 1 = Q) := ⟨_, rfl⟩
    have hn3 : Q ≤ r.s.size := by have := pre1_len hm.out; rw [HL.out] at this; have := hQ.out; omega
    obtain ⟨t, ht⟩ : ∃ t, Hid ((r.s.data.toList.drop Q).takeWhile (· != 34) = t) := ⟨_, rfl⟩
    obtain ⟨k, hk⟩ : ∃ k, Hid (t.length = k) := ⟨_, rfl⟩
    have hkl0 := takeWhile_len (· != 34) (r.s.data.toList.drop Q)
    rw [ht.out, hk.out, List.length_drop, HL.out] at hkl0
    by_cases hv : k = r.s.size - Q
    · have hq : Hid (Lib.indexByte (r.s.data.toList.drop Q) 34 = -1) := idx_not 34 _ (by rw [ht.out, hk.out, List.length_drop, HL.out]; exact hv)
      have HV : Hid (V = .bad (r.s.size - r.pos) 70) := by
        show _ = _
        rw [← hV.out]; unfold qvalue
        rw [if_neg (by rw [hm.out]; decide)]
        simp only
        rw [List.drop_drop, hQ.out, ht.out, hk.out, if_pos (by rw [List.length_drop, HL.out]; exact hv), List.length_drop, HL.out]
      clear hV hmv hv hkl0
      have i0 : (0 : Int) ≤ (Q : Int) := by omega
      have i1 : (Q : Int) ≤ r.s.size := by omega
      go_enter Tryd.func65, Tryd.ntmps65
      go_wp2_with fail
      refine (must_any b r w H.out [34] hp hs true hm (by decide)).mono ?_
      rintro e w2 ⟨rfl, h2, hg2⟩
      have HR2 : Hid (QAt w2 b { r with pos := Q }) := by show QAt _ _ _; rw [← hQ.out]; exact h2
      have HS2 : Hid (w2.drew.cell? ⟨b, 0, none⟩ = some (.string r.s) ∧ w2.drew.cell? ⟨b, 1, none⟩ = some (.int .i64 Q)) := ⟨HR2.out.all.1, HR2.out.all.2.1⟩
      clear h2
      go_wp2_with fail
      refine wp_region_held_drew (S := fun w' => w'.cell? ⟨b, 0, none⟩ = some (.string r.s) ∧ w'.cell? ⟨b, 1, none⟩ = some (.int .i64 Q)) (by kernel_rfl) HS2.out (fun hHeld => ?_)
      refine tks (oi := ⟨_, _, _, _, _, _⟩) (v := ?_) 0 rfl (.inl ⟨by rfl, ?_⟩) ?_; rotate_left
      · (intro wS hSw; (try dsimp only at hSw); go_simp); all_goals with_reducible rfl
      try go_frame
      refine tks (oi := ⟨_, _, _, _, _, _⟩) (v := ?_) 1 rfl (.inl ⟨by rfl, ?_⟩) ?_; rotate_left
      · (intro wS hSw; (try dsimp only at hSw); go_simp); all_goals with_reducible rfl
      try go_frame
      refine tks (oi := ⟨_, _, _, _, _, _⟩) (v := ?_) 2 rfl (.inl ⟨by rfl, ?_⟩) ?_; rotate_left
      · (intro wS hSw; (try dsimp only at hSw); go_simp); all_goals with_reducible rfl
      try go_frame
      refine tks (oi := ⟨_, _, _, _, _, _⟩) (v := ?_) 3 rfl (.inl ⟨by rfl, ?_⟩) ?_; rotate_left
      · (intro wS hSw; (try dsimp only at hSw); go_simp); all_goals with_reducible rfl
      try go_frame
      refine tks (oi := ⟨_, _, _, _, _, _⟩) (v := ?_) 4 rfl (.inl ⟨by rfl, ?_⟩) ?_; rotate_left
      · (intro wS hSw; (try dsimp only at hSw); go_simp); all_goals with_reducible rfl
      try go_frame
      refine tks (oi := ⟨_, _, _, _, _, _⟩) (v := ?_) 5 rfl (.inl ⟨by rfl, ?_⟩) ?_; rotate_left
      · (intro wS hSw; (try dsimp only at hSw); go_simp); all_goals with_reducible rfl
      try go_frame
      refine tks (oi := ⟨_, _, _, _, _, _⟩) (v := ?_) 6 rfl (.inl ⟨by rfl, ?_⟩) ?_; rotate_left
      · (intro wS hSw; (try dsimp only at hSw); go_simp); all_goals with_reducible rfl
      try go_frame
      refine tks (oi := ⟨_, _, _, _, _, _⟩) (v := ?_) 7 rfl (.inl ⟨by rfl, ?_⟩) ?_; rotate_left
      · (intro wS hSw; (try dsimp only at hSw); go_simp); all_goals with_reducible rfl
      try go_frame
      refine tks (oi := ⟨_, _, _, _, _, _⟩) (v := ?_) 8 rfl (.inl ⟨by rfl, ?_⟩) ?_; rotate_left
      · (intro wS hSw; (try dsimp only at hSw); go_simp); all_goals with_reducible rfl
      try go_frame
      refine wpAnyH_ready (rs := [9]) (by kernel_rfl) (by simp) ?_
      refine AllReadyH.cons (o := ⟨_, _, _, _, _, _⟩) rfl (fun K hK => ?_) AllReadyH.nil
      go_simp
      refine (Tryd.strings_IndexByte _ _ _).mono ?_
      rintro e w3 ⟨rfl, rfl⟩
      rw [extract_from, show ((34 : Int)).toNat.toUInt8 = 34 from rfl, hq.out]
      go_wp2_with fail
      refine hK.out _ _ (HS2.out) (fun hHeld => ?_)
      clear hK K
      try go_frame
      refine tks (oi := ⟨_, _, _, _, _, _⟩) (v := ?_) 10 rfl (.inl ⟨by rfl, ?_⟩) ?_; rotate_left
      · (intro wS hSw; (try dsimp only at hSw); go_simp); all_goals with_reducible rfl
      try go_frame
      refine wpAnyH_done (by kernel_rfl) ?_ _
      clear hHeld
      obtain ⟨z0, _⟩ := HS2.out
      go_wp2_with fail
      refine (fail_any b _ w2.drew HR2.out.drew r.s.size 70).mono ?_
      rintro e w4 ⟨rfl, h4, hg4⟩
      go_wp2_with fail
      go_ret2
      rw [HV.out]
      refine ⟨⟨_, rfl, rfl, Q, ?_⟩, grown_twice (grown_drew hg2) hg4⟩
      rw [show r.pos + (r.s.size - r.pos) = r.s.size by omega]
      exact h4
    · have hq : Hid (Lib.indexByte (r.s.data.toList.drop Q) 34 = (k : Nat)) := by
        show _ = _
        rw [← hk.out, ← ht.out]
        exact idx_yes 34 _ (by rw [ht.out, hk.out, List.length_drop, HL.out]; exact hv)
      have hkl : Q + k < r.s.size := by omega
      obtain ⟨u, m, ee, hu⟩ : ∃ u m ee, Hid (undoL true t = (u, m, ee)) := ⟨_, _, _, rfl⟩
      have htk : Hid ((r.s.data.toList.drop Q).take (Q + k - Q) = t) := by
        show _ = _
        have h2 := span_word (r.s.data.toList.drop Q) (· != 34)
        rw [ht.out] at h2
        rw [show Q + k - Q = t.length by have := hk.out; omega]
        conv => lhs; rw [h2]
        rw [List.take_append_of_le_length (Nat.le_refl _), List.take_length]
      have hml := undoL_le true t
      rw [hu.out, hk.out] at hml
      have hml' : m ≤ k := hml
      have hU0 : Hid (undoL true (r.s.extract Q (Q + k)).data.toList = (u, m, ee)) := by show _ = _; rw [Lib.extract_data, htk.out]; exact hu.out
      have HV : Hid (V = if ee ≠ 0 then .bad (1 + m) ee else .ok u (1 + k + 1)) := by
        show _ = _
        rw [← hV.out]; unfold qvalue
        rw [if_neg (by rw [hm.out]; decide)]
        simp only
        rw [List.drop_drop, hQ.out, ht.out, hk.out, if_neg (by rw [List.length_drop, HL.out]; exact hv), hu.out]
      have hus : (r.s.extract Q (Q + k)).size ≤ 1099511627776 := by rw [ByteArray.size_extract]; omega
      have kn0 : (0 : Int) ≤ (k : Int) := by omega
      have i2 : (Q : Int) + k < r.s.size := by omega
      clear hV hmv hv hkl0 hml
      by_cases he : ee = 0
      · subst he
        rw [if_neg (by simp)] at HV
        have hU := hU0
        clear hU0
        have i0 : (0 : Int) ≤ (Q : Int) := by omega
        have i1 : (Q : Int) ≤ r.s.size := by omega
        go_enter Tryd.func65, Tryd.ntmps65
        go_wp2_with fail
        refine (must_any b r w H.out [34] hp hs true hm (by decide)).mono ?_
        rintro e w2 ⟨rfl, h2, hg2⟩
        have HR2 : Hid (QAt w2 b { r with pos := Q }) := by show QAt _ _ _; rw [← hQ.out]; exact h2
        have HS2 : Hid (w2.drew.cell? ⟨b, 0, none⟩ = some (.string r.s) ∧ w2.drew.cell? ⟨b, 1, none⟩ = some (.int .i64 Q)) := ⟨HR2.out.all.1, HR2.out.all.2.1⟩
        clear h2
        go_wp2_with fail
        refine wp_region_held_drew (S := fun w' => w'.cell? ⟨b, 0, none⟩ = some (.string r.s) ∧ w'.cell? ⟨b, 1, none⟩ = some (.int .i64 Q)) (by kernel_rfl) HS2.out (fun hHeld => ?_)
        refine tks (oi := ⟨_, _, _, _, _, _⟩) (v := ?_) 0 rfl (.inl ⟨by rfl, ?_⟩) ?_; rotate_left
        · (intro wS hSw; (try dsimp only at hSw); go_simp); all_goals with_reducible rfl
        try go_frame
        refine tks (oi := ⟨_, _, _, _, _, _⟩) (v := ?_) 1 rfl (.inl ⟨by rfl, ?_⟩) ?_; rotate_left
        · (intro wS hSw; (try dsimp only at hSw); go_simp); all_goals with_reducible rfl
        try go_frame
        refine tks (oi := ⟨_, _, _, _, _, _⟩) (v := ?_) 2 rfl (.inl ⟨by rfl, ?_⟩) ?_; rotate_left
        · (intro wS hSw; (try dsimp only at hSw); go_simp); all_goals with_reducible rfl
        try go_frame
        refine tks (oi := ⟨_, _, _, _, _, _⟩) (v := ?_) 3 rfl (.inl ⟨by rfl, ?_⟩) ?_; rotate_left
        · (intro wS hSw; (try dsimp only at hSw); go_simp); all_goals with_reducible rfl
        try go_frame
        refine tks (oi := ⟨_, _, _, _, _, _⟩) (v := ?_) 4 rfl (.inl ⟨by rfl, ?_⟩) ?_; rotate_left
        · (intro wS hSw; (try dsimp only at hSw); go_simp); all_goals with_reducible rfl
        try go_frame
        refine tks (oi := ⟨_, _, _, _, _, _⟩) (v := ?_) 5 rfl (.inl ⟨by rfl, ?_⟩) ?_; rotate_left
        · (intro wS hSw; (try dsimp only at hSw); go_simp); all_goals with_reducible rfl
        try go_frame
        refine tks (oi := ⟨_, _, _, _, _, _⟩) (v := ?_) 6 rfl (.inl ⟨by rfl, ?_⟩) ?_; rotate_left
        · (intro wS hSw; (try dsimp only at hSw); go_simp); all_goals with_reducible rfl
        try go_frame
        refine tks (oi := ⟨_, _, _, _, _, _⟩) (v := ?_) 7 rfl (.inl ⟨by rfl, ?_⟩) ?_; rotate_left
        · (intro wS hSw; (try dsimp only at hSw); go_simp); all_goals with_reducible rfl
        try go_frame
        refine tks (oi := ⟨_, _, _, _, _, _⟩) (v := ?_) 8 rfl (.inl ⟨by rfl, ?_⟩) ?_; rotate_left
        · (intro wS hSw; (try dsimp only at hSw); go_simp); all_goals with_reducible rfl
        try go_frame
        refine wpAnyH_ready (rs := [9]) (by kernel_rfl) (by simp) ?_
        refine AllReadyH.cons (o := ⟨_, _, _, _, _, _⟩) rfl (fun K hK => ?_) AllReadyH.nil
        go_simp
        refine (Tryd.strings_IndexByte _ _ _).mono ?_
        rintro e w3 ⟨rfl, rfl⟩
        rw [extract_from, show ((34 : Int)).toNat.toUInt8 = 34 from rfl, hq.out]
        go_wp2_with fail
        refine hK.out _ _ (HS2.out) (fun hHeld => ?_)
        clear hK K
        try go_frame
        refine tks (oi := ⟨_, _, _, _, _, _⟩) (v := ?_) 10 rfl (.inl ⟨by rfl, ?_⟩) ?_; rotate_left
        · (intro wS hSw; (try dsimp only at hSw); go_simp); all_goals with_reducible rfl
        try go_frame
        refine wpAnyH_done (by kernel_rfl) ?_ _
        clear hHeld
        have HS3 : Hid (w2.drew.drew.cell? ⟨b, 0, none⟩ = some (.string r.s) ∧ w2.drew.drew.cell? ⟨b, 1, none⟩ = some (.int .i64 Q)) := HS2.out
        have hwr : IntKind.i64.wrap ((Q : Int) + k) = (Q : Int) + k := IntWalk.i64_in _ (by omega)
        have j1 : (0 : Int) ≤ (Q : Int) + k := by omega
        have j2 : (Q : Int) + k ≤ r.s.size := by omega
        have j3 : (Q : Int) ≤ (Q : Int) + k := by omega
        have j4 : ((Q : Int) + (k : Int)).toNat = Q + k := by omega
        go_wp2_with fail
        refine wp_region_held_drew (S := fun w' => w'.cell? ⟨b, 0, none⟩ = some (.string r.s) ∧ w'.cell? ⟨b, 1, none⟩ = some (.int .i64 Q)) (by kernel_rfl) HS3.out (fun hHeld => ?_)
        refine tks (oi := ⟨_, _, _, _, _, _⟩) (v := ?_) 0 rfl (.inl ⟨by rfl, ?_⟩) ?_; rotate_left
        · (intro wS hSw; (try dsimp only at hSw); go_simp); all_goals with_reducible rfl
        try go_frame
        refine tks (oi := ⟨_, _, _, _, _, _⟩) (v := ?_) 1 rfl (.inl ⟨by rfl, ?_⟩) ?_; rotate_left
        · (intro wS hSw; (try dsimp only at hSw); go_simp); all_goals with_reducible rfl
        try go_frame
        refine tks (oi := ⟨_, _, _, _, _, _⟩) (v := ?_) 2 rfl (.inl ⟨by rfl, ?_⟩) ?_; rotate_left
        · (intro wS hSw; (try dsimp only at hSw); go_simp); all_goals with_reducible rfl
        try go_frame
        refine tks (oi := ⟨_, _, _, _, _, _⟩) (v := ?_) 3 rfl (.inl ⟨by rfl, ?_⟩) ?_; rotate_left
        · (intro wS hSw; (try dsimp only at hSw); go_simp); all_goals with_reducible rfl
        try go_frame
        refine tks (oi := ⟨_, _, _, _, _, _⟩) (v := ?_) 4 rfl (.inl ⟨by rfl, ?_⟩) ?_; rotate_left
        · (intro wS hSw; (try dsimp only at hSw); go_simp); all_goals with_reducible rfl
        try go_frame
        refine tks (oi := ⟨_, _, _, _, _, _⟩) (v := ?_) 5 rfl (.inl ⟨by rfl, ?_⟩) ?_; rotate_left
        · (intro wS hSw; (try dsimp only at hSw); go_simp); all_goals with_reducible rfl
        try go_frame
        refine tks (oi := ⟨_, _, _, _, _, _⟩) (v := ?_) 6 rfl (.inl ⟨by rfl, ?_⟩) ?_; rotate_left
        · (intro wS hSw; (try dsimp only at hSw); go_simp); all_goals with_reducible rfl
        try go_frame
        refine tks (oi := ⟨_, _, _, _, _, _⟩) (v := ?_) 7 rfl (.inl ⟨by rfl, ?_⟩) ?_; rotate_left
        · (intro wS hSw; (try dsimp only at hSw); go_simp); all_goals with_reducible rfl
        try go_frame
        refine tks (oi := ⟨_, _, _, _, _, _⟩) (v := ?_) 8 rfl (.inl ⟨by rfl, ?_⟩) ?_; rotate_left
        · (intro wS hSw; (try dsimp only at hSw); go_simp); all_goals with_reducible rfl
        try go_frame
        refine tks (oi := ⟨_, _, _, _, _, _⟩) (v := ?_) 9 rfl (.inl ⟨by rfl, ?_⟩) ?_; rotate_left
        · (intro wS hSw; (try dsimp only at hSw); go_simp); all_goals with_reducible rfl
        try go_frame
        refine tks (oi := ⟨_, _, _, _, _, _⟩) (v := ?_) 10 rfl (.inl ⟨by rfl, ?_⟩) ?_; rotate_left
        · (intro wS hSw; (try dsimp only at hSw); go_simp); all_goals with_reducible rfl
        try go_frame
        refine tks (oi := ⟨_, _, _, _, _, _⟩) (v := ?_) 11 rfl (.inl ⟨by rfl, ?_⟩) ?_; rotate_left
        · (intro wS hSw; (try dsimp only at hSw); go_simp); all_goals with_reducible rfl
        try go_frame
        refine tks (oi := ⟨_, _, _, _, _, _⟩) (v := ?_) 12 rfl (.inl ⟨by rfl, ?_⟩) ?_; rotate_left
        · (intro wS hSw; (try dsimp only at hSw); go_simp); all_goals with_reducible rfl
        try go_frame
        refine tks (oi := ⟨_, _, _, _, _, _⟩) (v := ?_) 13 rfl (.inl ⟨by rfl, ?_⟩) ?_; rotate_left
        · (intro wS hSw; (try dsimp only at hSw); go_simp); all_goals with_reducible rfl
        try go_frame
        refine tks (oi := ⟨_, _, _, _, _, _⟩) (v := ?_) 14 rfl (.inl ⟨by rfl, ?_⟩) ?_; rotate_left
        · (intro wS hSw; (try dsimp only at hSw); go_simp); all_goals with_reducible rfl
        try go_frame
        refine wpAnyH_ready (rs := [15]) (by kernel_rfl) (by simp) ?_
        refine AllReadyH.cons (o := ⟨_, _, _, _, _, _⟩) rfl (fun K hK => ?_) AllReadyH.nil
        go_simp
        refine (Undo_at (r.s.extract Q (Q + k)) true _ hus u m 0 hU).mono ?_
        rintro e3 w5 ⟨rfl, hb5⟩
        have HR5 : Hid (QAt w5 b { r with pos := Q }) := QAt.below (w := w2.drew.drew) HR2.out.drew.drew hb5
        have HS5 : Hid (w5.cell? ⟨b, 0, none⟩ = some (.string r.s) ∧ w5.cell? ⟨b, 1, none⟩ = some (.int .i64 Q)) := ⟨HR5.out.all.1, HR5.out.all.2.1⟩
        have hg5 : Hid (w.grownBy w5 (some b)) := Lib.grownBy_below (grown_drew (grown_drew hg2)) hb5
        go_wp2_with fail
        refine hK.out _ _ (HS5.out) (fun hHeld => ?_)
        clear hK K
        try go_frame
        refine tks (oi := ⟨_, _, _, _, _, _⟩) (v := ?_) 16 rfl (.inl ⟨by rfl, ?_⟩) ?_; rotate_left
        · (intro wS hSw; (try dsimp only at hSw); go_simp); all_goals with_reducible rfl
        try go_frame
        refine tks (oi := ⟨_, _, _, _, _, _⟩) (v := ?_) 17 rfl (.inl ⟨by rfl, ?_⟩) ?_; rotate_left
        · (intro wS hSw; (try dsimp only at hSw); go_simp); all_goals with_reducible rfl
        try go_frame
        refine tks (oi := ⟨_, _, _, _, _, _⟩) (v := ?_) 18 rfl (.inl ⟨by rfl, ?_⟩) ?_; rotate_left
        · (intro wS hSw; (try dsimp only at hSw); go_simp); all_goals with_reducible rfl
        try go_frame
        refine tks (oi := ⟨_, _, _, _, _, _⟩) (v := ?_) 19 rfl (.inl ⟨by rfl, ?_⟩) ?_; rotate_left
        · (intro wS hSw; (try dsimp only at hSw); go_simp); all_goals with_reducible rfl
        try go_frame
        refine tks (oi := ⟨_, _, _, _, _, _⟩) (v := ?_) 20 rfl (.inl ⟨by rfl, ?_⟩) ?_; rotate_left
        · (intro wS hSw; (try dsimp only at hSw); go_simp); all_goals with_reducible rfl
        try go_frame
        refine tks (oi := ⟨_, _, _, _, _, _⟩) (v := ?_) 21 rfl (.inl ⟨by rfl, ?_⟩) ?_; rotate_left
        · (intro wS hSw; (try dsimp only at hSw); go_simp); all_goals with_reducible rfl
        try go_frame
        refine tks (oi := ⟨_, _, _, _, _, _⟩) (v := ?_) 22 rfl (.inl ⟨by rfl, ?_⟩) ?_; rotate_left
        · (intro wS hSw; (try dsimp only at hSw); go_simp); all_goals with_reducible rfl
        try go_frame
        refine wpAnyH_done (by kernel_rfl) ?_ _
        clear hHeld
        have z1 := HR5.out.all.2.1
        have f1 := HR5.out.froz 1
        go_wp2_with fail
        go_ret2
        rw [HV.out]
        refine ⟨⟨rfl, ?_⟩, Lib.grownBy_setB hg5.out 1 _⟩
        have := HR5.out.pos (Q + (k + 1))
        rw [show r.pos + (1 + k + 1) = Q + (k + 1) by have := hQ.out; omega]
        exact this
      · have HE := Lib.hid he
        have he1 : (ee != 0) = true := by simpa using he
        rw [if_pos he] at HV
        have hU := hU0
        clear hU0 he
        have i0 : (0 : Int) ≤ (Q : Int) := by omega
        have i1 : (Q : Int) ≤ r.s.size := by omega
        go_enter Tryd.func65, Tryd.ntmps65
        go_wp2_with fail
        refine (must_any b r w H.out [34] hp hs true hm (by decide)).mono ?_
        rintro e w2 ⟨rfl, h2, hg2⟩
        have HR2 : Hid (QAt w2 b { r with pos := Q }) := by show QAt _ _ _; rw [← hQ.out]; exact h2
        have HS2 : Hid (w2.drew.cell? ⟨b, 0, none⟩ = some (.string r.s) ∧ w2.drew.cell? ⟨b, 1, none⟩ = some (.int .i64 Q)) := ⟨HR2.out.all.1, HR2.out.all.2.1⟩
        clear h2
        go_wp2_with fail
        refine wp_region_held_drew (S := fun w' => w'.cell? ⟨b, 0, none⟩ = some (.string r.s) ∧ w'.cell? ⟨b, 1, none⟩ = some (.int .i64 Q)) (by kernel_rfl) HS2.out (fun hHeld => ?_)
        refine tks (oi := ⟨_, _, _, _, _, _⟩) (v := ?_) 0 rfl (.inl ⟨by rfl, ?_⟩) ?_; rotate_left
        · (intro wS hSw; (try dsimp only at hSw); go_simp); all_goals with_reducible rfl
        try go_frame
        refine tks (oi := ⟨_, _, _, _, _, _⟩) (v := ?_) 1 rfl (.inl ⟨by rfl, ?_⟩) ?_; rotate_left
        · (intro wS hSw; (try dsimp only at hSw); go_simp); all_goals with_reducible rfl
        try go_frame
        refine tks (oi := ⟨_, _, _, _, _, _⟩) (v := ?_) 2 rfl (.inl ⟨by rfl, ?_⟩) ?_; rotate_left
        · (intro wS hSw; (try dsimp only at hSw); go_simp); all_goals with_reducible rfl
        try go_frame
        refine tks (oi := ⟨_, _, _, _, _, _⟩) (v := ?_) 3 rfl (.inl ⟨by rfl, ?_⟩) ?_; rotate_left
        · (intro wS hSw; (try dsimp only at hSw); go_simp); all_goals with_reducible rfl
        try go_frame
        refine tks (oi := ⟨_, _, _, _, _, _⟩) (v := ?_) 4 rfl (.inl ⟨by rfl, ?_⟩) ?_; rotate_left
        · (intro wS hSw; (try dsimp only at hSw); go_simp); all_goals with_reducible rfl
        try go_frame
        refine tks (oi := ⟨_, _, _, _, _, _⟩) (v := ?_) 5 rfl (.inl ⟨by rfl, ?_⟩) ?_; rotate_left
        · (intro wS hSw; (try dsimp only at hSw); go_simp); all_goals with_reducible rfl
        try go_frame
        refine tks (oi := ⟨_, _, _, _, _, _⟩) (v := ?_) 6 rfl (.inl ⟨by rfl, ?_⟩) ?_; rotate_left
        · (intro wS hSw; (try dsimp only at hSw); go_simp); all_goals with_reducible rfl
        try go_frame
        refine tks (oi := ⟨_, _, _, _, _, _⟩) (v := ?_) 7 rfl (.inl ⟨by rfl, ?_⟩) ?_; rotate_left
        · (intro wS hSw; (try dsimp only at hSw); go_simp); all_goals with_reducible rfl
        try go_frame
        refine tks (oi := ⟨_, _, _, _, _, _⟩) (v := ?_) 8 rfl (.inl ⟨by rfl, ?_⟩) ?_; rotate_left
        · (intro wS hSw; (try dsimp only at hSw); go_simp); all_goals with_reducible rfl
        try go_frame
        refine wpAnyH_ready (rs := [9]) (by kernel_rfl) (by simp) ?_
        refine AllReadyH.cons (o := ⟨_, _, _, _, _, _⟩) rfl (fun K hK => ?_) AllReadyH.nil
        go_simp
        refine (Tryd.strings_IndexByte _ _ _).mono ?_
        rintro e w3 ⟨rfl, rfl⟩
        rw [extract_from, show ((34 : Int)).toNat.toUInt8 = 34 from rfl, hq.out]
        go_wp2_with fail
        refine hK.out _ _ (HS2.out) (fun hHeld => ?_)
        clear hK K
        try go_frame
        refine tks (oi := ⟨_, _, _, _, _, _⟩) (v := ?_) 10 rfl (.inl ⟨by rfl, ?_⟩) ?_; rotate_left
        · (intro wS hSw; (try dsimp only at hSw); go_simp); all_goals with_reducible rfl
        try go_frame
        refine wpAnyH_done (by kernel_rfl) ?_ _
        clear hHeld
        have HS3 : Hid (w2.drew.drew.cell? ⟨b, 0, none⟩ = some (.string r.s) ∧ w2.drew.drew.cell? ⟨b, 1, none⟩ = some (.int .i64 Q)) := HS2.out
        have hwr : IntKind.i64.wrap ((Q : Int) + k) = (Q : Int) + k := IntWalk.i64_in _ (by omega)
        have j1 : (0 : Int) ≤ (Q : Int) + k := by omega
        have j2 : (Q : Int) + k ≤ r.s.size := by omega
        have j3 : (Q : Int) ≤ (Q : Int) + k := by omega
        have j4 : ((Q : Int) + (k : Int)).toNat = Q + k := by omega
        go_wp2_with fail
        refine wp_region_held_drew (S := fun w' => w'.cell? ⟨b, 0, none⟩ = some (.string r.s) ∧ w'.cell? ⟨b, 1, none⟩ = some (.int .i64 Q)) (by kernel_rfl) HS3.out (fun hHeld => ?_)
        refine tks (oi := ⟨_, _, _, _, _, _⟩) (v := ?_) 0 rfl (.inl ⟨by rfl, ?_⟩) ?_; rotate_left
        · (intro wS hSw; (try dsimp only at hSw); go_simp); all_goals with_reducible rfl
        try go_frame
        refine tks (oi := ⟨_, _, _, _, _, _⟩) (v := ?_) 1 rfl (.inl ⟨by rfl, ?_⟩) ?_; rotate_left
        · (intro wS hSw; (try dsimp only at hSw); go_simp); all_goals with_reducible rfl
        try go_frame
        refine tks (oi := ⟨_, _, _, _, _, _⟩) (v := ?_) 2 rfl (.inl ⟨by rfl, ?_⟩) ?_; rotate_left
        · (intro wS hSw; (try dsimp only at hSw); go_simp); all_goals with_reducible rfl
        try go_frame
        refine tks (oi := ⟨_, _, _, _, _, _⟩) (v := ?_) 3 rfl (.inl ⟨by rfl, ?_⟩) ?_; rotate_left
        · (intro wS hSw; (try dsimp only at hSw); go_simp); all_goals with_reducible rfl
        try go_frame
        refine tks (oi := ⟨_, _, _, _, _, _⟩) (v := ?_) 4 rfl (.inl ⟨by rfl, ?_⟩) ?_; rotate_left
        · (intro wS hSw; (try dsimp only at hSw); go_simp); all_goals with_reducible rfl
        try go_frame
        refine tks (oi := ⟨_, _, _, _, _, _⟩) (v := ?_) 5 rfl (.inl ⟨by rfl, ?_⟩) ?_; rotate_left
        · (intro wS hSw; (try dsimp only at hSw); go_simp); all_goals with_reducible rfl
        try go_frame
        refine tks (oi := ⟨_, _, _, _, _, _⟩) (v := ?_) 6 rfl (.inl ⟨by rfl, ?_⟩) ?_; rotate_left
        · (intro wS hSw; (try dsimp only at hSw); go_simp); all_goals with_reducible rfl
        try go_frame
        refine tks (oi := ⟨_, _, _, _, _, _⟩) (v := ?_) 7 rfl (.inl ⟨by rfl, ?_⟩) ?_; rotate_left
        · (intro wS hSw; (try dsimp only at hSw); go_simp); all_goals with_reducible rfl
        try go_frame
        refine tks (oi := ⟨_, _, _, _, _, _⟩) (v := ?_) 8 rfl (.inl ⟨by rfl, ?_⟩) ?_; rotate_left
        · (intro wS hSw; (try dsimp only at hSw); go_simp); all_goals with_reducible rfl
        try go_frame
        refine tks (oi := ⟨_, _, _, _, _, _⟩) (v := ?_) 9 rfl (.inl ⟨by rfl, ?_⟩) ?_; rotate_left
        · (intro wS hSw; (try dsimp only at hSw); go_simp); all_goals with_reducible rfl
        try go_frame
        refine tks (oi := ⟨_, _, _, _, _, _⟩) (v := ?_) 10 rfl (.inl ⟨by rfl, ?_⟩) ?_; rotate_left
        · (intro wS hSw; (try dsimp only at hSw); go_simp); all_goals with_reducible rfl
        try go_frame
        refine tks (oi := ⟨_, _, _, _, _, _⟩) (v := ?_) 11 rfl (.inl ⟨by rfl, ?_⟩) ?_; rotate_left
        · (intro wS hSw; (try dsimp only at hSw); go_simp); all_goals with_reducible rfl
        try go_frame
        refine tks (oi := ⟨_, _, _, _, _, _⟩) (v := ?_) 12 rfl (.inl ⟨by rfl, ?_⟩) ?_; rotate_left
        · (intro wS hSw; (try dsimp only at hSw); go_simp); all_goals with_reducible rfl
        try go_frame
        refine tks (oi := ⟨_, _, _, _, _, _⟩) (v := ?_) 13 rfl (.inl ⟨by rfl, ?_⟩) ?_; rotate_left
        · (intro wS hSw; (try dsimp only at hSw); go_simp); all_goals with_reducible rfl
        try go_frame
        refine tks (oi := ⟨_, _, _, _, _, _⟩) (v := ?_) 14 rfl (.inl ⟨by rfl, ?_⟩) ?_; rotate_left
        · (intro wS hSw; (try dsimp only at hSw); go_simp); all_goals with_reducible rfl
        try go_frame
        refine wpAnyH_ready (rs := [15]) (by kernel_rfl) (by simp) ?_
        refine AllReadyH.cons (o := ⟨_, _, _, _, _, _⟩) rfl (fun K hK => ?_) AllReadyH.nil
        go_simp
        refine (Undo_at (r.s.extract Q (Q + k)) true _ hus u m ee hU).mono ?_
        rintro e3 w5 ⟨rfl, hb5⟩
        have HR5 : Hid (QAt w5 b { r with pos := Q }) := QAt.below (w := w2.drew.drew) HR2.out.drew.drew hb5
        have HS5 : Hid (w5.cell? ⟨b, 0, none⟩ = some (.string r.s) ∧ w5.cell? ⟨b, 1, none⟩ = some (.int .i64 Q)) := ⟨HR5.out.all.1, HR5.out.all.2.1⟩
        have hg5 : Hid (w.grownBy w5 (some b)) := Lib.grownBy_below (grown_drew (grown_drew hg2)) hb5
        go_wp2_with fail
        refine hK.out _ _ (HS5.out) (fun hHeld => ?_)
        clear hK K
        try go_frame
        refine tks (oi := ⟨_, _, _, _, _, _⟩) (v := ?_) 16 rfl (.inl ⟨by rfl, ?_⟩) ?_; rotate_left
        · (intro wS hSw; (try dsimp only at hSw); go_simp); all_goals with_reducible rfl
        try go_frame
        refine tks (oi := ⟨_, _, _, _, _, _⟩) (v := ?_) 17 rfl (.inl ⟨by rfl, ?_⟩) ?_; rotate_left
        · (intro wS hSw; (try dsimp only at hSw); go_simp); all_goals with_reducible rfl
        try go_frame
        refine tks (oi := ⟨_, _, _, _, _, _⟩) (v := ?_) 18 rfl (.inl ⟨by rfl, ?_⟩) ?_; rotate_left
        · (intro wS hSw; (try dsimp only at hSw); go_simp); all_goals with_reducible rfl
        try go_frame
        refine tks (oi := ⟨_, _, _, _, _, _⟩) (v := ?_) 19 rfl (.inl ⟨by rfl, ?_⟩) ?_; rotate_left
        · (intro wS hSw; (try dsimp only at hSw); go_simp); all_goals with_reducible rfl
        try go_frame
        refine tks (oi := ⟨_, _, _, _, _, _⟩) (v := ?_) 20 rfl (.inl ⟨by rfl, ?_⟩) ?_; rotate_left
        · (intro wS hSw; (try dsimp only at hSw); go_simp); all_goals with_reducible rfl
        try go_frame
        refine tks (oi := ⟨_, _, _, _, _, _⟩) (v := ?_) 21 rfl (.inl ⟨by rfl, ?_⟩) ?_; rotate_left
        · (intro wS hSw; (try dsimp only at hSw); go_simp); all_goals with_reducible rfl
        try go_frame
        refine tks (oi := ⟨_, _, _, _, _, _⟩) (v := ?_) 22 rfl (.inl ⟨by rfl, ?_⟩) ?_; rotate_left
        · (intro wS hSw; (try dsimp only at hSw); go_simp); all_goals with_reducible rfl
        try go_frame
        refine wpAnyH_done (by kernel_rfl) ?_ _
        clear hHeld
        have z1 := HR5.out.all.2.1
        have hwm : IntKind.i64.wrap ((Q : Int) + m) = (Q : Int) + m := IntWalk.i64_in _ (by omega)
        go_wp2_with fail
        refine (fail_any b _ w5 HR5.out ((Q : Int) + m) ee).mono ?_
        rintro e6 w6 ⟨rfl, h6, hg6⟩
        go_wp2_with fail
        go_ret2
        rw [HV.out]
        refine ⟨⟨_, rfl, rfl, Q, ?_⟩, grown_twice hg5.out hg6⟩
        rw [show ((r.pos + (1 + m) : Nat) : Int) = (Q : Int) + m by have := hQ.out; omega]
        exact h6
end Go.Proofs.YtpfhdklbhhpbcaaDoor
