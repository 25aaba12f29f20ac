/-
  The plain laws of tokens: rows, parts: no program in sight.
-/
import Derived.Test.YthifddkmbjnncaaLexLaw2
namespace Go.Proofs.Ythifddkmbjnncaa

theorem charB_of_step {v : Bool} {l t : List UInt8} {n : Nat} (h : stepL v l = .inr (t, n)) : ∃ c, charB c = true ∧ t = enc c := by
  simp only [stepL] at h
  split at h
  · cases h
  split at h
  · cases h
  generalize (if (nextL l).fst = 38 then refL l else nextL l) = r at h
  split at h
  · cases h
  split at h
  · cases h
  rename_i hc
  injection h with h
  injection h with h _
  have hc' : charB r.1 = true := by simpa using hc
  refine ⟨_, hc', ?_⟩
  rw [← h]; unfold putF; rw [if_pos hc']
theorem undo_chars (v : Bool) : ∀ (k : Nat) (l : List UInt8), l.length ≤ k → (undoL v l).2.2 = 0 → ∃ cs, charsL (undoL v l).1 = some cs
  | 0, l, hk, _ => by
    obtain rfl : l = [] := List.eq_nil_of_length_eq_zero (by omega)
    rw [undoL_nil]; exact ⟨[], charsL_nil⟩
  | k + 1, l, hk, h => by
    by_cases hl : l = []
    · subst hl; rw [undoL_nil]; exact ⟨[], charsL_nil⟩
    · cases hs : stepL v l with
      | inl e =>
        rw [undoL_bad v l hl e hs] at h ⊢
        exact ⟨[], charsL_nil⟩
      | inr q =>
        obtain ⟨t, n⟩ := q
        have hp := stepL_pos hs
        rw [undoL_step v l hl t n hs] at h ⊢
        unfold joinU at h ⊢
        split at h
        · rename_i h0
          rw [if_pos h0]
          obtain ⟨cs, hcs⟩ := undo_chars v k (l.drop n) (by rw [List.length_drop]; omega) h0
          obtain ⟨c, hc, rfl⟩ := charB_of_step hs
          have he : charsL (enc c) = some [c] := by
            have := chars_enc [c] (by simp [hc])
            simpa using this
          exact ⟨[c] ++ cs, chars_append _ _ _ _ he hcs⟩
        · rename_i h0
          exact absurd h h0
theorem undo_ne {v : Bool} {l : List UInt8} (hl : l ≠ []) (h : (undoL v l).2.2 = 0) : (undoL v l).1 ≠ [] := by
  cases hs : stepL v l with
  | inl e =>
    exfalso
    rw [undoL_bad v l hl e hs] at h
    have he : e = 0 := h
    subst he
    simp only [stepL] at hs
    split at hs
    · injection hs with hs; omega
    split at hs
    · injection hs with hs; omega
    generalize (if (nextL l).fst = 38 then refL l else nextL l) = r at hs
    split at hs
    · injection hs with hs; omega
    split at hs
    · injection hs with hs; omega
    · cases hs
  | inr q =>
    obtain ⟨t, n⟩ := q
    obtain ⟨c, hc, rfl⟩ := charB_of_step hs
    rw [undoL_step v l hl _ n hs] at h ⊢
    unfold joinU at h ⊢
    split at h
    · rename_i h0
      rw [if_pos h0]
      intro e
      exact enc_ne c (List.append_eq_nil_iff.1 e).1
    · rename_i h0; exact absurd h h0

/-- how what is told of a token is made -/
inductive TokFine (l : List UInt8) (t : TokD) (n : Nat) : Prop
  | text (hk : t.kind = 4) (hn : t.name = []) (ha : t.attrs = []) (h60 : pre [60] l = false) (hb : n = (l.takeWhile (· != 60)).length) (hu : (undoL false (l.takeWhile (· != 60))).2.2 = 0) (ht : t.text = (undoL false (l.takeWhile (· != 60))).1) (hl : t.text.length ≤ 1500)
  | stop (hk : t.kind = 2) (hn : nameL t.name = true) (ha : t.attrs = []) (ht : t.text = []) (h60 : pre [60] l = true)
  | start (hk : t.kind = 1 ∨ t.kind = 3) (hn : nameL t.name = true) (ht : t.text = []) (h60 : pre [60] l = true) (bs : List AttrD) (ha : t.attrs = sortA bs) (hf : AttrsFine bs)

theorem pre_first {a b : UInt8} {l : List UInt8} (h : pre [a, b] l = true) : pre [a] l = true := by
  obtain ⟨t, rfl⟩ := pre_cons2 h
  simp [pre]
theorem oneT_fine {l : List UInt8} {t : TokD} {n : Nat} (h : oneT l = .ok t n) : TokFine l t n := by
  unfold oneT at h
  split at h
  · rename_i h1
    cases he : endT (l.drop 2) with
    | bad k e => rw [he] at h; cases h
    | ok u k =>
      rw [he] at h
      injection h with h _
      subst h
      unfold endT at he
      simp only at he
      split at he
      · cases he
      rename_i h2
      split at he
      · injection he with he _
        subst he
        exact .stop rfl (by simpa using h2) rfl rfl (pre_first h1)
      · cases he
  · split at h
    · rename_i h1
      cases he : beginT (l.drop 1) with
      | bad k e => rw [he] at h; cases h
      | ok u k =>
        rw [he] at h
        injection h with h _
        subst h
        unfold beginT at he
        simp only at he
        split at he
        · cases he
        rename_i h2
        cases hq : attrsF ((l.drop 1).length + 1) ((l.drop 1).drop (wordL (l.drop 1)).length) [] with
        | bad k e => rw [hq] at he; cases he
        | ok q m =>
          rw [hq] at he
          injection he with he _
          subst he
          obtain ⟨h3, h4⟩ := attrsF_fine _ _ _ _ _ attrsFine_nil hq
          exact .start h4 (by simpa using h2) rfl h1 q.2 rfl h3
    · rename_i h1
      unfold textT at h
      simp only at h
      split at h
      · cases h
      rename_i h2
      split at h
      · cases h
      rename_i h3
      injection h with h hn
      subst h
      exact .text rfl rfl rfl (by simpa using h1) hn.symm (by simpa using h2) rfl (by simpa using h3)

theorem text_ne {l : List UInt8} {t : TokD} {n : Nat} (hl : l ≠ []) (h : oneT l = .ok t n) (hk : t.kind = 4) : t.text ≠ [] := by
  rcases oneT_fine h with ⟨_, _, _, h60, _, hu, ht, _⟩ | ⟨hk', _⟩ | ⟨hk', _⟩
  · rw [ht]
    refine undo_ne ?_ hu
    cases l with
    | nil => exact absurd rfl hl
    | cons a r =>
      have : (a != 60) = true := by
        simp only [pre, List.length_cons, List.length_nil, List.take_succ_cons, List.take_zero] at h60
        cases h : a == 60 with
        | true => rw [eq_of_beq h] at h60; simp at h60
        | false => simp [bne, h]
      rw [List.takeWhile_cons, if_pos this]; simp
  · omega
  · omega
/-- behind a text stands a tag, or nothing -/
theorem behind_text {l : List UInt8} {t u : TokD} {n m : Nat} (h : oneT l = .ok t n) (hk : t.kind = 4) (hu : oneT (l.drop n) = .ok u m) (hne : l.drop n ≠ []) : u.kind ≠ 4 := by
  rcases oneT_fine h with ⟨_, _, _, h60, hn, _⟩ | ⟨hk', _⟩ | ⟨hk', _⟩
  · intro hk'
    rcases oneT_fine hu with ⟨_, _, _, h60', _⟩ | ⟨hk', _⟩ | ⟨hk', _⟩
    · subst hn
      have e : l.drop (l.takeWhile (· != 60)).length = l.dropWhile (· != 60) := by
        have h1 := span_word l (· != 60)
        have h2 := List.takeWhile_append_dropWhile (p := (· != 60)) (l := l)
        exact List.append_cancel_left (h1.symm.trans h2.symm)
      rw [e] at h60' hne
      have := List.head?_dropWhile_not (· != 60) l
      cases hd : l.dropWhile (· != 60) with
      | nil => exact hne hd
      | cons a r =>
        rw [hd] at this h60'
        simp at this
        subst this
        simp [pre] at h60'
    · omega
    · omega
  · omega
  · omega

/-- what is told of any token -/
theorem tok_parts {l : List UInt8} {t : TokD} {n : Nat} (h : oneT l = .ok t n) :
    (t.kind < 4 → nameL t.name = true) ∧ (t.kind = 4 → t.name = []) ∧ charsE t.text = 0 ∧ t.attrs.length ≤ 20 ∧ Rise t.attrs ∧ (∀ a ∈ t.attrs, nameL a.name = true ∧ charsE a.value = 0) := by
  have hcE : ∀ {v : Bool} {x : List UInt8}, (undoL v x).2.2 = 0 → (undoL v x).1.length ≤ 1500 → charsE (undoL v x).1 = 0 := fun {v x} h0 h1 => by
    obtain ⟨cs, hcs⟩ := undo_chars v _ x (Nat.le_refl _) h0
    unfold charsE countL
    rw [hcs]
    simp only
    rw [if_neg (by omega), if_neg (by omega)]
  have hnil : charsE [] = 0 := by
    unfold charsE countL
    rw [charsL_nil]; simp
  rcases oneT_fine h with ⟨hk, hn, ha, _, _, hu, ht, hl⟩ | ⟨hk, hn, ha, ht, _⟩ | ⟨hk, hn, ht, _, bs, ha, hf⟩
  · refine ⟨fun h => by omega, fun _ => hn, ?_, by rw [ha]; simp, by rw [ha]; exact List.Pairwise.nil, by rw [ha]; intro a h; cases h⟩
    rw [ht] at hl ⊢; exact hcE hu hl
  · exact ⟨fun _ => hn, fun h => by omega, by rw [ht]; exact hnil, by rw [ha]; simp, by rw [ha]; exact List.Pairwise.nil, by rw [ha]; intro a h; cases h⟩
  · refine ⟨fun _ => hn, fun h => by omega, by rw [ht]; exact hnil, by rw [ha, (sortA_perm bs).length_eq]; exact hf.many, by rw [ha]; exact sortA_rise hf.apart, fun a h => ?_⟩
    rw [ha] at h
    have := hf.all a ((sortA_perm bs).mem_iff.1 h)
    obtain ⟨x, h0, h1⟩ := this.value
    exact ⟨this.name, by have h2 := this.long; rw [← h1] at h2 ⊢; exact hcE h0 h2⟩
end Go.Proofs.Ythifddkmbjnncaa
