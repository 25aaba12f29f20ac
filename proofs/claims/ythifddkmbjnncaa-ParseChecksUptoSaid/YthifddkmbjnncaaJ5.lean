/-
  Texts of this claim, joined (by a program of the claim's author): LexLaw3, ParsePlain, ParseLaw, ShelfI, ShelfP, Refer, Undo.
-/
import Derived.Test.YthifddkmbjnncaaJ4
import Derived.Test.YthifddkmbjnncaaJ3
import Derived.Shelf.Small.Strs
import Derived.Test.YthifddkmbjnncaaProg
import Derived.Shelf.Strings.Prefix
import Derived.Test.YthifddkmbjnncaaJ2
import Derived.ScopeJumps
/-
  The plain laws of tokens: rows, parts: no program in sight.
-/
namespace Go.Proofs.Ythifddkmbjnncaa

theorem charB_of_step {v : Bool} {l t : List UInt8} {n : Nat} (h : stepL v l = .inr (t, n)) : ∃ c, charB c = true ∧ t = enc c := by
  simp only [stepL] at h
  split at h
  · cases h
  split at h
  · cases h
  generalize (if (nextL l).fst = 38 then refL l else nextL l) = r at h
  split at h
  · cases h
  split at h
  · cases h
  rename_i hc
  injection h with h
  injection h with h _
  have hc' : charB r.1 = true := by simpa using hc
  refine ⟨_, hc', ?_⟩
  rw [← h]; unfold putF; rw [if_pos hc']
theorem undo_chars (v : Bool) : ∀ (k : Nat) (l : List UInt8), l.length ≤ k → (undoL v l).2.2 = 0 → ∃ cs, charsL (undoL v l).1 = some cs
  | 0, l, hk, _ => by
    obtain rfl : l = [] := List.eq_nil_of_length_eq_zero (by omega)
    rw [undoL_nil]; exact ⟨[], charsL_nil⟩
  | k + 1, l, hk, h => by
    by_cases hl : l = []
    · subst hl; rw [undoL_nil]; exact ⟨[], charsL_nil⟩
    · cases hs : stepL v l with
      | inl e =>
        rw [undoL_bad v l hl e hs] at h ⊢
        exact ⟨[], charsL_nil⟩
      | inr q =>
        obtain ⟨t, n⟩ := q
        have hp := stepL_pos hs
        rw [undoL_step v l hl t n hs] at h ⊢
        unfold joinU at h ⊢
        split at h
        · rename_i h0
          rw [if_pos h0]
          obtain ⟨cs, hcs⟩ := undo_chars v k (l.drop n) (by rw [List.length_drop]; omega) h0
          obtain ⟨c, hc, rfl⟩ := charB_of_step hs
          have he : charsL (enc c) = some [c] := by
            have := chars_enc [c] (by simp [hc])
            simpa using this
          exact ⟨[c] ++ cs, chars_append _ _ _ _ he hcs⟩
        · rename_i h0
          exact absurd h h0
theorem undo_ne {v : Bool} {l : List UInt8} (hl : l ≠ []) (h : (undoL v l).2.2 = 0) : (undoL v l).1 ≠ [] := by
  cases hs : stepL v l with
  | inl e =>
    exfalso
    rw [undoL_bad v l hl e hs] at h
    have he : e = 0 := h
    subst he
    simp only [stepL] at hs
    split at hs
    · injection hs with hs; omega
    split at hs
    · injection hs with hs; omega
    generalize (if (nextL l).fst = 38 then refL l else nextL l) = r at hs
    split at hs
    · injection hs with hs; omega
    split at hs
    · injection hs with hs; omega
    · cases hs
  | inr q =>
    obtain ⟨t, n⟩ := q
    obtain ⟨c, hc, rfl⟩ := charB_of_step hs
    rw [undoL_step v l hl _ n hs] at h ⊢
    unfold joinU at h ⊢
    split at h
    · rename_i h0
      rw [if_pos h0]
      intro e
      exact enc_ne c (List.append_eq_nil_iff.1 e).1
    · rename_i h0; exact absurd h h0

/-- how what is told of a token is made -/
inductive TokFine (l : List UInt8) (t : TokD) (n : Nat) : Prop
  | text (hk : t.kind = 4) (hn : t.name = []) (ha : t.attrs = []) (h60 : pre [60] l = false) (hb : n = (l.takeWhile (· != 60)).length) (hu : (undoL false (l.takeWhile (· != 60))).2.2 = 0) (ht : t.text = (undoL false (l.takeWhile (· != 60))).1) (hl : t.text.length ≤ 1500)
  | stop (hk : t.kind = 2) (hn : nameL t.name = true) (ha : t.attrs = []) (ht : t.text = []) (h60 : pre [60] l = true)
  | start (hk : t.kind = 1 ∨ t.kind = 3) (hn : nameL t.name = true) (ht : t.text = []) (h60 : pre [60] l = true) (bs : List AttrD) (ha : t.attrs = sortA bs) (hf : AttrsFine bs)

theorem pre_first {a b : UInt8} {l : List UInt8} (h : pre [a, b] l = true) : pre [a] l = true := by
  obtain ⟨t, rfl⟩ := pre_cons2 h
  simp [pre]
theorem oneT_fine {l : List UInt8} {t : TokD} {n : Nat} (h : oneT l = .ok t n) : TokFine l t n := by
  unfold oneT at h
  split at h
  · rename_i h1
    cases he : endT (l.drop 2) with
    | bad k e => rw [he] at h; cases h
    | ok u k =>
      rw [he] at h
      injection h with h _
      subst h
      unfold endT at he
      simp only at he
      split at he
      · cases he
      rename_i h2
      split at he
      · injection he with he _
        subst he
        exact .stop rfl (by simpa using h2) rfl rfl (pre_first h1)
      · cases he
  · split at h
    · rename_i h1
      cases he : beginT (l.drop 1) with
      | bad k e => rw [he] at h; cases h
      | ok u k =>
        rw [he] at h
        injection h with h _
        subst h
        unfold beginT at he
        simp only at he
        split at he
        · cases he
        rename_i h2
        cases hq : attrsF ((l.drop 1).length + 1) ((l.drop 1).drop (wordL (l.drop 1)).length) [] with
        | bad k e => rw [hq] at he; cases he
        | ok q m =>
          rw [hq] at he
          injection he with he _
          subst he
          obtain ⟨h3, h4⟩ := attrsF_fine _ _ _ _ _ attrsFine_nil hq
          exact .start h4 (by simpa using h2) rfl h1 q.2 rfl h3
    · rename_i h1
      unfold textT at h
      simp only at h
      split at h
      · cases h
      rename_i h2
      split at h
      · cases h
      rename_i h3
      injection h with h hn
      subst h
      exact .text rfl rfl rfl (by simpa using h1) hn.symm (by simpa using h2) rfl (by simpa using h3)

theorem text_ne {l : List UInt8} {t : TokD} {n : Nat} (hl : l ≠ []) (h : oneT l = .ok t n) (hk : t.kind = 4) : t.text ≠ [] := by
  rcases oneT_fine h with ⟨_, _, _, h60, _, hu, ht, _⟩ | ⟨hk', _⟩ | ⟨hk', _⟩
  · rw [ht]
    refine undo_ne ?_ hu
    cases l with
    | nil => exact absurd rfl hl
    | cons a r =>
      have : (a != 60) = true := by
        simp only [pre, List.length_cons, List.length_nil, List.take_succ_cons, List.take_zero] at h60
        cases h : a == 60 with
        | true => rw [eq_of_beq h] at h60; simp at h60
        | false => simp [bne, h]
      rw [List.takeWhile_cons, if_pos this]; simp
  · omega
  · omega
/-- behind a text stands a tag, or nothing -/
theorem behind_text {l : List UInt8} {t u : TokD} {n m : Nat} (h : oneT l = .ok t n) (hk : t.kind = 4) (hu : oneT (l.drop n) = .ok u m) (hne : l.drop n ≠ []) : u.kind ≠ 4 := by
  rcases oneT_fine h with ⟨_, _, _, h60, hn, _⟩ | ⟨hk', _⟩ | ⟨hk', _⟩
  · intro hk'
    rcases oneT_fine hu with ⟨_, _, _, h60', _⟩ | ⟨hk', _⟩ | ⟨hk', _⟩
    · subst hn
      have e : l.drop (l.takeWhile (· != 60)).length = l.dropWhile (· != 60) := by
        have h1 := span_word l (· != 60)
        have h2 := List.takeWhile_append_dropWhile (p := (· != 60)) (l := l)
        exact List.append_cancel_left (h1.symm.trans h2.symm)
      rw [e] at h60' hne
      have := List.head?_dropWhile_not (· != 60) l
      cases hd : l.dropWhile (· != 60) with
      | nil => exact hne hd
      | cons a r =>
        rw [hd] at this h60'
        simp at this
        subst this
        simp [pre] at h60'
    · omega
    · omega
  · omega
  · omega

/-- what is told of any token -/
theorem tok_parts {l : List UInt8} {t : TokD} {n : Nat} (h : oneT l = .ok t n) :
    (t.kind < 4 → nameL t.name = true) ∧ (t.kind = 4 → t.name = []) ∧ charsE t.text = 0 ∧ t.attrs.length ≤ 20 ∧ Rise t.attrs ∧ (∀ a ∈ t.attrs, nameL a.name = true ∧ charsE a.value = 0) := by
  have hcE : ∀ {v : Bool} {x : List UInt8}, (undoL v x).2.2 = 0 → (undoL v x).1.length ≤ 1500 → charsE (undoL v x).1 = 0 := fun {v x} h0 h1 => by
    obtain ⟨cs, hcs⟩ := undo_chars v _ x (Nat.le_refl _) h0
    unfold charsE countL
    rw [hcs]
    simp only
    rw [if_neg (by omega), if_neg (by omega)]
  have hnil : charsE [] = 0 := by
    unfold charsE countL
    rw [charsL_nil]; simp
  rcases oneT_fine h with ⟨hk, hn, ha, _, _, hu, ht, hl⟩ | ⟨hk, hn, ha, ht, _⟩ | ⟨hk, hn, ht, _, bs, ha, hf⟩
  · refine ⟨fun h => by omega, fun _ => hn, ?_, by rw [ha]; simp, by rw [ha]; exact List.Pairwise.nil, by rw [ha]; intro a h; cases h⟩
    rw [ht] at hl ⊢; exact hcE hu hl
  · exact ⟨fun _ => hn, fun h => by omega, by rw [ht]; exact hnil, by rw [ha]; simp, by rw [ha]; exact List.Pairwise.nil, by rw [ha]; intro a h; cases h⟩
  · refine ⟨fun _ => hn, fun h => by omega, by rw [ht]; exact hnil, by rw [ha, (sortA_perm bs).length_eq]; exact hf.many, by rw [ha]; exact sortA_rise hf.apart, fun a h => ?_⟩
    rw [ha] at h
    have := hf.all a ((sortA_perm bs).mem_iff.1 h)
    obtain ⟨x, h0, h1⟩ := this.value
    exact ⟨this.name, by have h2 := this.long; rw [← h1] at h2 ⊢; exact hcE h0 h2⟩
end Go.Proofs.Ythifddkmbjnncaa

/-
  The plain law of reading a document: no program in sight.
-/
namespace Go.Proofs.Ythifddkmbjnncaa

/-- the item that a token tells of, at a level -/
def itemOf (n : Nat) (t : TokD) : ItemD := if t.kind = 4 then ⟨n, 2, [], t.text, []⟩ else ⟨n, 1, t.name, [], t.attrs⟩

/-- why an item may not be added -/
def addE (items : List ItemD) (o : List (List UInt8)) (kind : Int) : Int :=
  if o = [] ∧ (kind = 4 ∨ items ≠ []) then 40 else if 40 ≤ o.length then 42 else if 1000 ≤ items.length then 43 else 0

/-- one token: an error's number, or the items and what is open then (the innermost one last) -/
def takeT (items : List ItemD) (o : List (List UInt8)) (t : TokD) : Int ⊕ (List ItemD × List (List UInt8)) :=
  if t.kind = 2 then (if o.getLast? = some t.name then .inr (items, o.dropLast) else .inl 41)
  else if addE items o t.kind ≠ 0 then .inl (addE items o t.kind)
  else .inr (items ++ [itemOf o.length t], if t.kind = 1 then o ++ [t.name] else o)

/-- a document's end -/
def endP (items : List ItemD) (o : List (List UInt8)) (at_ : Nat) : List ItemD × Nat × Int :=
  if items = [] then ([], at_, 40) else if o ≠ [] then ([], at_, 41) else (items, 0, 0)

def parseF : Nat → Nat → List UInt8 → List ItemD → List (List UInt8) → List ItemD × Nat × Int
  | 0, at_, _, items, o => endP items o at_
  | f + 1, at_, l, items, o =>
    if l = [] then endP items o at_
    else match oneT l with
      | .bad k e => ([], at_ + k, e)
      | .ok t n => match takeT items o t with
        | .inl e => ([], at_, e)
        | .inr q => parseF f (at_ + n) (l.drop n) q.1 q.2

theorem parseF_more : ∀ (f : Nat) (at_ : Nat) (l : List UInt8) (items : List ItemD) (o : List (List UInt8)) (g : Nat), l.length < f → l.length < g → parseF f at_ l items o = parseF g at_ l items o
  | 0, _, _, _, _, _, h, _ => by omega
  | f + 1, _, l, _, _, 0, _, h => by omega
  | f + 1, at_, l, items, o, g + 1, hf, hg => by
    rw [parseF, parseF]
    by_cases hl : l = []
    · rw [if_pos hl, if_pos hl]
    · rw [if_neg hl, if_neg hl]
      have := oneT_within l hl
      cases ho : oneT l with
      | bad k e => rfl
      | ok t n =>
        rw [ho] at this; obtain ⟨a, b⟩ := this
        simp only
        cases takeT items o t with
        | inl e => rfl
        | inr q => exact parseF_more f (at_ + n) (l.drop n) q.1 q.2 g (by rw [List.length_drop]; omega) (by rw [List.length_drop]; omega)
def parseL (at_ : Nat) (l : List UInt8) (items : List ItemD) (o : List (List UInt8)) : List ItemD × Nat × Int := parseF (l.length + 1) at_ l items o
theorem parseL_nil (at_ : Nat) (items : List ItemD) (o : List (List UInt8)) : parseL at_ [] items o = endP items o at_ := by simp [parseL, parseF]
theorem parseL_bad (at_ : Nat) (l : List UInt8) (items : List ItemD) (o : List (List UInt8)) (h : l ≠ []) (k : Nat) (e : Int) (ho : oneT l = .bad k e) : parseL at_ l items o = ([], at_ + k, e) := by
  unfold parseL; rw [parseF, if_neg h, ho]
theorem parseL_no (at_ : Nat) (l : List UInt8) (items : List ItemD) (o : List (List UInt8)) (h : l ≠ []) (t : TokD) (n : Nat) (ho : oneT l = .ok t n) (e : Int) (ht : takeT items o t = .inl e) : parseL at_ l items o = ([], at_, e) := by
  unfold parseL; rw [parseF, if_neg h, ho]; simp only [ht]
theorem parseL_step (at_ : Nat) (l : List UInt8) (items : List ItemD) (o : List (List UInt8)) (h : l ≠ []) (t : TokD) (n : Nat) (ho : oneT l = .ok t n) (q : List ItemD × List (List UInt8)) (ht : takeT items o t = .inr q) : parseL at_ l items o = parseL (at_ + n) (l.drop n) q.1 q.2 := by
  unfold parseL
  have := oneT_within l h
  rw [ho] at this
  obtain ⟨c, d⟩ := this
  rw [parseF, if_neg h, ho]
  simp only [ht]
  exact parseF_more _ _ _ _ _ _ (by rw [List.length_drop]; omega) (by omega)

/-! ## What was read is a document -/
theorem names_rise : ∀ (l : List AttrD) (last : List UInt8), Rise l → (∀ a ∈ l, nameL a.name = true) → (∀ a ∈ l, Op.bytesLess last a.name = true) → attrNames last l = true
  | [], _, _, _, _ => rfl
  | a :: r, last, hr, hn, hl => by
    obtain ⟨h1, h2⟩ := List.pairwise_cons.1 hr
    have hla := hl a (by simp)
    have hle : leB a.name last = false := by
      unfold leB
      rw [less_asymm hla]
      have := less_ne hla
      simp [Ne.symm this]
    rw [attrNames, hn a (by simp), hle, names_rise r a.name h2 (fun b hb => hn b (by simp [hb])) h1]
    rfl
theorem values_fine : ∀ (l : List AttrD), (∀ a ∈ l, charsE a.value = 0) → valuesE l = 0
  | [], _ => rfl
  | a :: r, h => by rw [valuesE, if_pos (h a (by simp))]; exact values_fine r (fun b hb => h b (by simp [hb]))
theorem less_nil {x : List UInt8} (h : x ≠ []) : Op.bytesLess [] x = true := by
  cases x with
  | nil => exact absurd rfl h
  | cons a x => simp [Op.bytesLess]
theorem itemOf_parts {l : List UInt8} {t : TokD} {n : Nat} (h : oneT l = .ok t n) (_hk : t.kind ≠ 2) (m : Nat) : partsE (itemOf m t) = 0 := by
  obtain ⟨h1, h2, h3, h4, h5, h6⟩ := tok_parts h
  have hkind : t.kind = 4 ∨ t.kind < 4 := by
    rcases oneT_fine h with ⟨hk, _⟩ | ⟨hk, _⟩ | ⟨hk, _⟩ <;> omega
  unfold itemOf
  rcases hkind with hk4 | hk4
  · rw [if_pos hk4]
    unfold partsE
    simp only
    rw [if_pos ⟨trivial, trivial, trivial⟩]
    exact h3
  · rw [if_neg (by omega)]
    unfold partsE
    simp only
    rw [if_neg (by intro h; exact absurd h.1 (by decide)), if_neg (by intro h; rcases h with h | h; exact h rfl; exact h rfl)]
    have hns : namesE ⟨m, 1, t.name, [], t.attrs⟩ = 0 := by
      unfold namesE
      rw [h1 hk4, names_rise t.attrs [] h5 (fun a ha => (h6 a ha).1) (fun a ha => less_nil (name_bytes (h6 a ha).1).1), if_pos (by decide), if_neg (by show ¬ 20 < t.attrs.length; omega)]
    rw [if_pos hns]
    exact values_fine _ (fun a ha => (h6 a ha).2)

/-- what holds of the items and of what is open, all along -/
structure Read (items : List ItemD) (o : List (List UInt8)) : Prop where
  many : items.length ≤ 1000
  parts : ∀ x ∈ items, partsE x = 0
  place : ∀ (k : Nat) (x : ItemD), items[k]? = some x → placeE (prevOf items k) k x = 0
  deep : o.length ≤ 40
  cap : ∀ x, items.getLast? = some x → (o.length : Int) ≤ cap x
  none : items = [] → o = []
theorem read_nil : Read [] [] := ⟨by simp, fun _ h => (by cases h), fun _ _ h => (by simp at h), by simp, fun _ h => (by simp at h), fun _ => rfl⟩
theorem getLast_prev {α : Type} {l : List α} {x : α} (h : l.getLast? = some x) : l[l.length - 1]? = some x := by rw [← List.getLast?_eq_getElem?]; exact h
theorem read_step {l : List UInt8} {t : TokD} {n : Nat} (ho : oneT l = .ok t n) {items : List ItemD} {o : List (List UInt8)} (h : Read items o) {q : List ItemD × List (List UInt8)} (ht : takeT items o t = .inr q) : Read q.1 q.2 := by
  unfold takeT at ht
  split at ht
  · split at ht
    · injection ht with ht
      subst ht
      refine ⟨h.many, h.parts, h.place, ?_, fun x hx => ?_, fun e => ?_⟩
      · have := h.deep; simp only [List.length_dropLast]; omega
      · have := h.cap x hx; simp only [List.length_dropLast]; omega
      · have := h.none e; simp only [this]; rfl
    · cases ht
  rename_i hk2
  split at ht
  · cases ht
  rename_i he
  injection ht with ht
  subst ht
  simp only at *
  have he : addE items o t.kind = 0 := by simpa using he
  unfold addE at he
  split at he
  · cases he
  rename_i h1
  split at he
  · cases he
  rename_i h2
  split at he
  · cases he
  rename_i h3
  have hlev : (itemOf o.length t).level = o.length := by unfold itemOf; split <;> rfl
  have hkind : (itemOf o.length t).kind = if t.kind = 4 then 2 else 1 := by unfold itemOf; split <;> rfl
  refine ⟨by simp; omega, fun x hx => ?_, fun k x hx => ?_, ?_, fun x hx => ?_, fun e => ?_⟩
  · rcases List.mem_append.1 hx with hx | hx
    · exact h.parts x hx
    · simp at hx; subst hx; exact itemOf_parts ho hk2 _
  · by_cases hkl : k < items.length
    · rw [List.getElem?_append_left hkl] at hx
      have := h.place k x hx
      have e : prevOf (items ++ [itemOf o.length t]) k = prevOf items k := by
        unfold prevOf
        split
        · rfl
        · exact List.getElem?_append_left (by omega)
      rw [e]; exact this
    · have hkl' : k = items.length := by
        have := (List.getElem?_eq_some_iff.1 hx).1
        simp at this; omega
      subst hkl'
      rw [List.getElem?_append_right (Nat.le_refl _)] at hx
      simp at hx
      subst hx
      by_cases hi : items = []
      · subst hi
        have ho0 : o = [] := h.none rfl
        have hk4 : t.kind ≠ 4 := fun e => h1 ⟨ho0, .inl e⟩
        have e : prevOf ([] ++ [itemOf o.length t]) ([] : List ItemD).length = none := rfl
        rw [e]
        unfold placeE
        simp only [hlev, hkind]
        rw [if_neg]
        rw [if_neg hk4, ho0]
        simp
      · have hlt : 0 < items.length := List.length_pos_iff.2 hi
        obtain ⟨p, hp⟩ : ∃ p, items.getLast? = some p := by
          cases hg : items.getLast? with
          | none => rw [List.getLast?_eq_none_iff] at hg; exact absurd hg hi
          | some p => exact ⟨p, rfl⟩
        have e : prevOf (items ++ [itemOf o.length t]) items.length = some p := by
          unfold prevOf
          rw [if_neg (by omega), List.getElem?_append_left (by omega)]
          exact getLast_prev hp
        have hone : o ≠ [] := fun e => h1 ⟨e, .inr hi⟩
        have hol : 0 < o.length := List.length_pos_iff.2 hone
        have hcap := h.cap p hp
        unfold cap at hcap
        rw [e]
        unfold placeE
        simp only [hlev]
        rw [if_neg, if_neg (by omega), if_neg (by omega)]
        intro hh
        split at hcap <;> omega
  · split
    · simp only [List.length_append, List.length_singleton]; omega
    · omega
  · rw [List.getLast?_append] at hx
    simp at hx
    subst hx
    unfold cap
    rw [hkind, hlev]
    by_cases hk1 : t.kind = 1
    · rw [if_pos hk1, if_neg (by omega : ¬ t.kind = 4)]; simp
    · rw [if_neg hk1]
      split <;> omega
  · simp at e

theorem checkF_zero : ∀ (l : List ItemD) (prev : Option ItemD) (k : Nat), (∀ (j : Nat) (x : ItemD), l[j]? = some x → oneE (if j = 0 then prev else l[j - 1]?) (k + j) x = 0) → checkF prev k l = (0, 0)
  | [], _, _, _ => rfl
  | y :: r, prev, k, h => by
    have h0 := h 0 y rfl
    simp only [if_true, Nat.add_zero] at h0
    rw [checkF, if_pos h0]
    refine checkF_zero r (some y) (k + 1) (fun j x hx => ?_)
    have := h (j + 1) x (by simpa using hx)
    rw [if_neg (by omega)] at this
    have e : (y :: r)[j + 1 - 1]? = if j = 0 then some y else r[j - 1]? := by
      cases j with
      | zero => rfl
      | succ j => simp
    rw [e, show k + (j + 1) = k + 1 + j by omega] at this
    exact this
theorem Read.check {items : List ItemD} {o : List (List UInt8)} (h : Read items o) (hne : items ≠ []) : checkL items = (0, 0) := by
  unfold checkL
  rw [if_neg hne]
  refine checkF_zero _ _ _ (fun j x hx => ?_)
  have h1 := h.place j x hx
  have h2 := h.parts x (List.mem_of_getElem? hx)
  unfold oneE
  rw [Nat.zero_add]
  have e : (if j = 0 then Option.none else items[j - 1]?) = prevOf items j := rfl
  rw [e, if_pos h1]; exact h2
theorem parse_check : ∀ (k : Nat) (l : List UInt8) (at_ : Nat) (items : List ItemD) (o : List (List UInt8)), l.length ≤ k → Read items o → (parseL at_ l items o).2.2 = 0 → checkL (parseL at_ l items o).1 = (0, 0)
  | k, l, at_, items, o, hk, hr, h => by
    by_cases hl : l = []
    · subst hl
      rw [parseL_nil] at h ⊢
      unfold endP at h ⊢
      split at h
      · cases h
      rename_i hne
      rw [if_neg hne]
      split at h
      · cases h
      rename_i ho
      rw [if_neg ho]
      exact hr.check hne
    · cases ho : oneT l with
      | bad j e =>
        exfalso
        rw [parseL_bad at_ l items o hl j e ho] at h
        have := oneT_within l hl
        rw [ho] at this
        exact this.2 h
      | ok t n =>
        have hw := oneT_within l hl
        rw [ho] at hw
        obtain ⟨hw1, hw2⟩ := hw
        cases ht : takeT items o t with
        | inl e =>
          exfalso
          rw [parseL_no at_ l items o hl t n ho e ht] at h
          have he : e = 0 := h
          subst he
          unfold takeT at ht
          split at ht
          · split at ht
            · cases ht
            · injection ht with ht; omega
          · split at ht
            · rename_i hne; injection ht with ht; exact hne ht
            · cases ht
        | inr q =>
          rw [parseL_step at_ l items o hl t n ho q ht] at h ⊢
          match k, hk with
          | 0, hk => exact absurd (List.eq_nil_of_length_eq_zero (by omega)) hl
          | k + 1, hk => exact parse_check k (l.drop n) (at_ + n) q.1 q.2 (by rw [List.length_drop]; omega) (read_step ho hr ht) h
end Go.Proofs.Ythifddkmbjnncaa

/-
  The plain laws of documents that were read: wrapped in an element; where each item stands. No program in sight.
-/
namespace Go.Proofs.Ythifddkmbjnncaa

/-! ## A document in an element -/
def bump (x : ItemD) : ItemD := { x with level := x.level + 1 }
def wItem : ItemD := ⟨0, 1, [119], [], []⟩
def wEnd : List UInt8 := [60, 47, 119, 62]

theorem oneT_w : oneT [60, 119, 62] = .ok ⟨1, [119], [], []⟩ 3 := by decide +kernel
theorem oneT_wend : oneT wEnd = .ok ⟨2, [119], [], []⟩ 4 := by decide +kernel

theorem oneT_end {l : List UInt8} {t : TokD} {n : Nat} (hl : l ≠ []) (h : oneT l = .ok t n) : oneT (l ++ wEnd) = .ok t n := by
  by_cases hk : t.kind = 4
  · rcases oneT_fine h with ⟨_, _, _, h60, _⟩ | ⟨hk', _⟩ | ⟨hk', _⟩
    · cases l with
      | nil => exact absurd rfl hl
      | cons a r =>
        have ha : a ≠ 60 := by
          intro e; subst e; simp [pre] at h60
        have p1 : ∀ x, pre [60, 47] (a :: x) = false := fun x => by
          cases x <;> simp [pre, ha]
        have p2 : ∀ x, pre [60] (a :: x) = false := fun x => by simp [pre, ha]
        unfold oneT at h ⊢
        rw [List.cons_append]
        simp only [p1, p2, Bool.false_eq_true, if_false] at h ⊢
        rw [← h]
        unfold textT
        rw [← List.cons_append, takeWhile_stop _ _ _ (fun x t e => by unfold wEnd at e; injection e with e _; subst e; rfl)]
    · omega
    · omega
  · exact oneT_more wEnd h hk

theorem take_wrap {items : List ItemD} {o : List (List UInt8)} {t : TokD} {q : List ItemD × List (List UInt8)} (h : takeT items o t = .inr q) :
    takeT (wItem :: items.map bump) ([119] :: o) t = .inr (wItem :: q.1.map bump, [119] :: q.2) ∨
    (takeT (wItem :: items.map bump) ([119] :: o) t = .inl 42 ∨ takeT (wItem :: items.map bump) ([119] :: o) t = .inl 43) ∧ ((∃ x ∈ q.1, 39 ≤ x.level) ∨ 1000 ≤ q.1.length) := by
  unfold takeT at h
  split at h
  · rename_i hk
    split at h
    · rename_i hl
      injection h with h
      subst h
      left
      cases o with
      | nil => simp at hl
      | cons a o =>
        unfold takeT
        rw [if_pos hk, if_pos (by rw [List.getLast?_cons_cons]; exact hl), List.dropLast_cons_cons]
    · cases h
  rename_i hk
  split at h
  · cases h
  rename_i he
  injection h with h
  subst h
  have hlev : (itemOf o.length t).level = o.length := by unfold itemOf; split <;> rfl
  have hb : bump (itemOf o.length t) = itemOf ([119] :: o).length t := by
    unfold itemOf bump
    split <;> simp
  have ha : addE (wItem :: items.map bump) ([119] :: o) t.kind = if 39 ≤ o.length then 42 else if 999 ≤ items.length then 43 else 0 := by
    unfold addE
    rw [if_neg (by intro h; exact absurd h.1 (by simp))]
    simp only [List.length_cons, List.length_map]
    by_cases h1 : 39 ≤ o.length
    · rw [if_pos (by omega), if_pos h1]
    · rw [if_neg (by omega), if_neg h1]
      by_cases h2 : 999 ≤ items.length
      · rw [if_pos (by omega), if_pos h2]
      · rw [if_neg (by omega), if_neg h2]
  unfold takeT
  rw [if_neg hk, ha]
  by_cases h1 : 39 ≤ o.length
  · right
    rw [if_pos h1, if_pos (by decide)]
    exact ⟨.inl rfl, .inl ⟨_, List.mem_append_right _ (List.mem_singleton.2 rfl), by rw [hlev]; omega⟩⟩
  · rw [if_neg h1]
    by_cases h2 : 999 ≤ items.length
    · right
      rw [if_pos h2, if_pos (by decide)]
      exact ⟨.inr rfl, .inr (by simp; omega)⟩
    · left
      rw [if_neg h2, if_neg (by decide)]
      rw [← hb]
      simp only [List.map_append, List.map_cons, List.map_nil, List.cons_append, Sum.inr.injEq, Prod.mk.injEq, true_and]
      split <;> simp

theorem parse_prefix : ∀ (k : Nat) (l : List UInt8) (at_ : Nat) (items : List ItemD) (o : List (List UInt8)), l.length ≤ k → (parseL at_ l items o).2.2 = 0 → items <+: (parseL at_ l items o).1 ∧ (parseL at_ l items o).2.1 = 0
  | k, l, at_, items, o, hk, h => by
    by_cases hl : l = []
    · subst hl
      rw [parseL_nil] at h ⊢
      unfold endP at h ⊢
      split at h
      · cases h
      rename_i hne
      rw [if_neg hne]
      split at h
      · cases h
      rename_i ho
      rw [if_neg ho]
      exact ⟨List.prefix_refl _, rfl⟩
    · cases ho : oneT l with
      | bad j e =>
        exfalso
        rw [parseL_bad at_ l items o hl j e ho] at h
        have := oneT_within l hl
        rw [ho] at this
        exact this.2 h
      | ok t n =>
        have hw := oneT_within l hl
        rw [ho] at hw
        obtain ⟨hw1, hw2⟩ := hw
        cases ht : takeT items o t with
        | inl e =>
          exfalso
          rw [parseL_no at_ l items o hl t n ho e ht] at h
          have he : e = 0 := h
          subst he
          unfold takeT at ht
          split at ht
          · split at ht
            · cases ht
            · injection ht with ht; omega
          · split at ht
            · rename_i hne; injection ht with ht; exact hne ht
            · cases ht
        | inr q =>
          rw [parseL_step at_ l items o hl t n ho q ht] at h ⊢
          match k, hk with
          | 0, hk => exact absurd (List.eq_nil_of_length_eq_zero (by omega)) hl
          | k + 1, hk =>
            obtain ⟨h1, h2⟩ := parse_prefix k (l.drop n) (at_ + n) q.1 q.2 (by rw [List.length_drop]; omega) h
            refine ⟨List.IsPrefix.trans ?_ h1, h2⟩
            unfold takeT at ht
            split at ht
            · split at ht
              · injection ht with ht; subst ht; exact List.prefix_refl _
              · cases ht
            · split at ht
              · cases ht
              · injection ht with ht; subst ht; exact List.prefix_append _ _

theorem parse_wrap : ∀ (k : Nat) (l : List UInt8) (at_ at' : Nat) (items : List ItemD) (o : List (List UInt8)), l.length ≤ k → (parseL at_ l items o).2.2 = 0 →
    parseL at' (l ++ wEnd) (wItem :: items.map bump) ([119] :: o) = (wItem :: (parseL at_ l items o).1.map bump, 0, 0) ∨
    ((parseL at' (l ++ wEnd) (wItem :: items.map bump) ([119] :: o)).2.2 = 42 ∨ (parseL at' (l ++ wEnd) (wItem :: items.map bump) ([119] :: o)).2.2 = 43) ∧ ((∃ x ∈ (parseL at_ l items o).1, 39 ≤ x.level) ∨ 1000 ≤ (parseL at_ l items o).1.length)
  | k, l, at_, at', items, o, hk, h => by
    by_cases hl : l = []
    · subst hl
      left
      rw [parseL_nil] at h ⊢
      unfold endP at h ⊢
      split at h
      · cases h
      rename_i hne
      rw [if_neg hne]
      split at h
      · cases h
      rename_i ho
      rw [if_neg ho]
      have ho : o = [] := by simpa using ho
      subst ho
      rw [List.nil_append, parseL_step at' wEnd _ _ (by decide) _ _ oneT_wend (wItem :: items.map bump, []) (by unfold takeT; rw [if_pos rfl, if_pos (by decide)]; rfl)]
      rw [show wEnd.drop 4 = [] from rfl, parseL_nil]
      unfold endP
      rw [if_neg (by simp), if_neg (by simp)]
    · have hla : l ++ wEnd ≠ [] := by simp [hl]
      cases ho : oneT l with
      | bad j e =>
        exfalso
        rw [parseL_bad at_ l items o hl j e ho] at h
        have := oneT_within l hl
        rw [ho] at this
        exact this.2 h
      | ok t n =>
        have hw := oneT_within l hl
        rw [ho] at hw
        obtain ⟨hw1, hw2⟩ := hw
        have ho' := oneT_end hl ho
        cases ht : takeT items o t with
        | inl e =>
          exfalso
          rw [parseL_no at_ l items o hl t n ho e ht] at h
          have he : e = 0 := h
          subst he
          unfold takeT at ht
          split at ht
          · split at ht
            · cases ht
            · injection ht with ht; omega
          · split at ht
            · rename_i hne; injection ht with ht; exact hne ht
            · cases ht
        | inr q =>
          rw [parseL_step at_ l items o hl t n ho q ht] at h ⊢
          match k, hk with
          | 0, hk => exact absurd (List.eq_nil_of_length_eq_zero (by omega)) hl
          | k + 1, hk =>
            rcases take_wrap ht with hq | ⟨he, hd⟩
            · rw [parseL_step at' _ _ _ hla t n ho' _ hq, drop_more wEnd hw2]
              exact parse_wrap k (l.drop n) (at_ + n) (at' + n) q.1 q.2 (by rw [List.length_drop]; omega) h
            · right
              obtain ⟨hpre, _⟩ := parse_prefix k (l.drop n) (at_ + n) q.1 q.2 (by rw [List.length_drop]; omega) h
              refine ⟨?_, ?_⟩
              · rcases he with he | he
                · left; rw [parseL_no at' _ _ _ hla t n ho' _ he]
                · right; rw [parseL_no at' _ _ _ hla t n ho' _ he]
              · rcases hd with ⟨x, hx, hx39⟩ | hd
                · exact .inl ⟨x, hpre.subset hx, hx39⟩
                · exact .inr (Nat.le_trans hd hpre.length_le)

def wrapT (l : List UInt8) : List UInt8 := [60, 119, 62] ++ l ++ wEnd
theorem parse_wraps {l : List UInt8} (h : (parseL 0 l [] []).2.2 = 0) :
    (parseL 0 (wrapT l) [] [] = (wItem :: (parseL 0 l [] []).1.map bump, 0, 0) ∧ (∀ x ∈ (parseL 0 l [] []).1, x.level + 1 < 40) ∧ (parseL 0 l [] []).1.length + 1 ≤ 1000) ∨
    ((parseL 0 (wrapT l) [] []).2.2 = 42 ∨ (parseL 0 (wrapT l) [] []).2.2 = 43) ∧ ((∃ x ∈ (parseL 0 l [] []).1, 39 ≤ x.level) ∨ 1000 ≤ (parseL 0 l [] []).1.length) := by
  have h1 : parseL 0 (wrapT l) [] [] = parseL 3 (l ++ wEnd) [wItem] [[119]] := by
    have ho : oneT (wrapT l) = .ok ⟨1, [119], [], []⟩ 3 := by
      unfold wrapT; rw [List.append_assoc]; exact oneT_more _ oneT_w (by decide)
    rw [parseL_step 0 (wrapT l) [] [] (by unfold wrapT; simp) _ _ ho ([wItem], [[119]]) rfl]
    rfl
  have hw := parse_wrap l.length l 0 3 [] [] (Nat.le_refl _) h
  rw [List.map_nil, ← h1] at hw
  rcases hw with hw | hw
  · left
    have hc := parse_check (wrapT l).length (wrapT l) 0 [] [] (Nat.le_refl _) read_nil (by rw [hw])
    rw [hw] at hc
    have hd := checkL_ok (by rw [hc])
    refine ⟨hw, fun x hx => ?_, by have := hd.many; simpa using this⟩
    obtain ⟨j, hj⟩ := List.mem_iff_getElem?.1 hx
    have hb : (wItem :: (parseL 0 l [] []).1.map bump)[j + 1]? = some (bump x) := by simp [hj]
    have h0 := (oneE_zero (hd.one (j + 1) _ hb)).1
    obtain ⟨p, hp⟩ : ∃ p, prevOf (wItem :: (parseL 0 l [] []).1.map bump) (j + 1) = some p := by
      have hlt := (List.getElem?_eq_some_iff.1 hb).1
      exact ⟨_, prevOf_succ (List.getElem?_eq_getElem (by omega))⟩
    rw [hp] at h0
    unfold placeE at h0
    simp only at h0
    split at h0
    · omega
    split at h0
    · omega
    · rename_i h40
      simp only [bump] at h40
      omega
  · exact .inr hw

/-! ## Where each item stands -/
theorem endN_in {l : List ItemD} {k n : Nat} {x y : ItemD} (hx : l[k]? = some x) (hk : k < n) (hn : n < endN l k) (hy : l[n]? = some y) : x.level < y.level := by
  rw [endN_eq hx] at hn
  refine kids_mem x.level (l.drop (k + 1)) y ?_
  rw [kids_take]
  refine List.mem_iff_getElem?.2 ⟨n - (k + 1), ?_⟩
  rw [List.getElem?_take, if_pos (by omega), List.getElem?_drop]
  rw [show k + 1 + (n - (k + 1)) = n by omega]; exact hy
theorem endN_out {l : List ItemD} {k : Nat} {x y : ItemD} (hx : l[k]? = some x) (hy : l[endN l k]? = some y) : y.level ≤ x.level := by
  rw [endN_eq hx] at hy
  have hd := past_drop x.level (l.drop (k + 1))
  rw [List.drop_drop] at hd
  have hh := drop_cons hy
  rw [hh] at hd
  exact past_head x.level _ y _ hd

/-- the innermost item that stands ahead of the place n and is less deep than c; -1: none -/
def parN (l : List ItemD) (c : Int) : Nat → Int
  | 0 => -1
  | n + 1 => match l[n]? with
    | some x => if x.level < c then n else parN l c n
    | none => parN l c n
theorem parN_spec (l : List ItemD) (c : Int) : ∀ k, k ≤ l.length → (parN l c k = -1 ∧ ∀ n x, n < k → l[n]? = some x → c ≤ x.level) ∨ (∃ p x, parN l c k = (p : Nat) ∧ p < k ∧ l[p]? = some x ∧ x.level < c ∧ ∀ n y, p < n → n < k → l[n]? = some y → c ≤ y.level)
  | 0, _ => .inl ⟨rfl, fun n x h _ => by omega⟩
  | k + 1, hk => by
    have hx : l[k]? = some l[k] := List.getElem?_eq_getElem _
    by_cases hc : l[k].level < c
    · right
      refine ⟨k, l[k], ?_, by omega, hx, hc, fun n y h1 h2 _ => by omega⟩
      rw [parN, hx]; simp only; rw [if_pos hc]
    · have e : parN l c (k + 1) = parN l c k := by rw [parN, hx]; simp only; rw [if_neg hc]
      rw [e]
      rcases parN_spec l c k (by omega) with ⟨h1, h2⟩ | ⟨p, x, h1, h2, h3, h4, h5⟩
      · left
        refine ⟨h1, fun n x hn hx' => ?_⟩
        by_cases hnk : n = k
        · subst hnk; rw [hx] at hx'; injection hx' with hx'; subst hx'; omega
        · exact h2 n x (by omega) hx'
      · right
        refine ⟨p, x, h1, by omega, h3, h4, fun n y hn1 hn2 hy => ?_⟩
        by_cases hnk : n = k
        · subst hnk; rw [hx] at hy; injection hy with hy; subst hy; omega
        · exact h5 n y hn1 (by omega) hy

theorem Doc.kind {l : List ItemD} (h : Doc l) {k : Nat} {x : ItemD} (hx : l[k]? = some x) : x.kind = 1 ∨ x.kind = 2 := by
  have h0 := (oneE_zero (h.one k x hx)).2
  unfold partsE at h0
  split at h0
  · rename_i h; exact .inr h.1
  split at h0
  · omega
  · rename_i h1
    left
    by_cases h2 : x.kind = 1
    · exact h2
    · exact absurd (.inl h2) h1
theorem Doc.shape0 {l : List ItemD} (h : Doc l) : endN l 0 = l.length := by
  obtain ⟨x, r, rfl, hx, _⟩ := h.first
  have hx0 : (x :: r)[0]? = some x := rfl
  have hle := endN_le hx0
  rcases Nat.lt_or_ge (endN (x :: r) 0) (x :: r).length with hlt | hge
  · have hy : (x :: r)[endN (x :: r) 0]? = some (x :: r)[endN (x :: r) 0] := List.getElem?_eq_getElem hlt
    have h1 := endN_out hx0 hy
    obtain ⟨j, hj⟩ : ∃ j, endN (x :: r) 0 = j + 1 := ⟨endN (x :: r) 0 - 1, by omega⟩
    have hm : (x :: r)[endN (x :: r) 0] ∈ r := by
      have : (x :: r)[endN (x :: r) 0]? = r[j]? := by rw [hj]; simp
      rw [this] at hy
      exact List.mem_of_getElem? hy
    have := h.below rfl _ hm
    omega
  · omega
theorem Doc.shape {l : List ItemD} (h : Doc l) {k : Nat} {x : ItemD} (hk : 0 < k) (hx : l[k]? = some x) :
    ∃ p y, parN l x.level k = (p : Nat) ∧ p < k ∧ l[p]? = some y ∧ y.kind = 1 ∧ y.level = x.level - 1 ∧ endN l k ≤ endN l p := by
  have hkl := (List.getElem?_eq_some_iff.1 hx).1
  obtain ⟨k', rfl⟩ : ∃ k', k = k' + 1 := ⟨k - 1, by omega⟩
  have hxl : 1 ≤ x.level := (h.step (List.getElem?_eq_getElem (by omega)) hx).1
  obtain ⟨x0, r0, e0, hx0, _⟩ := h.first
  have h00 : l[0]? = some x0 := by rw [e0]; rfl
  rcases parN_spec l x.level (k' + 1) (by omega) with ⟨_, h2⟩ | ⟨p, y, h1, h2, h3, h4, h5⟩
  · exfalso
    have := h2 0 x0 (by omega) h00
    omega
  · have hnext : ∃ z, l[p + 1]? = some z ∧ x.level ≤ z.level := by
      by_cases hp : p + 1 = k' + 1
      · rw [hp]; exact ⟨x, hx, Int.le_refl _⟩
      · have hz : l[p + 1]? = some (l[p + 1]'(by omega)) := List.getElem?_eq_getElem _
        exact ⟨_, hz, h5 (p + 1) _ (by omega) (by omega) hz⟩
    obtain ⟨z, hz, hzl⟩ := hnext
    have hcap := (h.step h3 hz).2
    unfold Go.Proofs.Ythifddkmbjnncaa.cap at hcap
    have hk1 : y.kind = 1 := by
      rcases h.kind h3 with h | h
      · exact h
      · rw [if_pos h] at hcap; omega
    rw [if_neg (by omega)] at hcap
    refine ⟨p, y, h1, h2, h3, hk1, by omega, ?_⟩
    have hek := endN_le hx
    have hep := endN_le h3
    rcases Nat.lt_or_ge (endN l p) (endN l (k' + 1)) with hlt | hge
    · exfalso
      obtain ⟨v, hm⟩ : ∃ v, l[endN l p]? = some v := ⟨l[endN l p]'(by omega), List.getElem?_eq_getElem _⟩
      have hout := endN_out h3 hm
      by_cases hmk : endN l p ≤ k'
      · have := h5 (endN l p) _ (by omega) (by omega) hm; omega
      · by_cases hmk1 : endN l p = k' + 1
        · rw [hmk1, hx] at hm
          injection hm with hm
          subst hm
          omega
        · have := endN_in hx (by omega) hlt hm
          omega
    · exact hge
end Go.Proofs.Ythifddkmbjnncaa

/-
  The contracts of strings.IndexByte and strings.Compare at this dump, laid by hand (gen_shelf.py).
-/
namespace Go.Proofs
open Go.Shelf Go.RowKit
def Try.lays137_ren : Go.Shelf.Ren := ⟨fun | 137 => 66 | 217 => 95 | 266 => 115 | n => n, fun | 3 => 3 | 5 => 5 | 9 => 9 | n => n, fun | n => n⟩
theorem Try.lays137 : Go.Proofs.Lays.n137 Try.prog Try.lays137_ren := {
  mixed := by kernel_rfl
  f137 := Try.func66.trans (congrArg some (by kernel_rfl))
  f217 := Try.func95.trans (congrArg some (by kernel_rfl))
  f266 := Try.func115.trans (congrArg some (by kernel_rfl))
  t3 := Try.underlying3
  a3 := Try.isAgg3
  z3 := Try.sizeOf3
  v3 := Try.zeroValue3
  t5 := Try.underlying5
  a5 := Try.isAgg5
  z5 := Try.sizeOf5
  v5 := Try.zeroValue5
  t9 := Try.underlying9
  a9 := Try.isAgg9
  z9 := Try.sizeOf9
  v9 := Try.zeroValue9 }
/-- strings.IndexByte -/
theorem Try.strings_IndexByte (s : ByteArray) (c : Int) (w : World) :
    Calls Try.prog 66 #[.string s, .int .u8 c] w fun e w' => e = .returned (.int .i64 (Lib.indexByte s.data.toList c.toNat.toUInt8)) ∧ w' = w := Any.strings_IndexByte Try.lays137 s c w
def Try.lays106_ren : Go.Shelf.Ren := ⟨fun | 106 => 76 | 213 => 101 | 265 => 129 | n => n, fun | 3 => 3 | 9 => 9 | n => n, fun | n => n⟩
theorem Try.lays106 : Go.Proofs.Lays.n106 Try.prog Try.lays106_ren := {
  mixed := by kernel_rfl
  f106 := Try.func76.trans (congrArg some (by kernel_rfl))
  f213 := Try.func101.trans (congrArg some (by kernel_rfl))
  f265 := Try.func129.trans (congrArg some (by kernel_rfl))
  t3 := Try.underlying3
  a3 := Try.isAgg3
  z3 := Try.sizeOf3
  v3 := Try.zeroValue3
  t9 := Try.underlying9
  a9 := Try.isAgg9
  z9 := Try.sizeOf9
  v9 := Try.zeroValue9 }
/-- strings.Compare -/
theorem Try.strings_Compare (a b : ByteArray) (w : World) :
    Calls Try.prog 76 #[.string a, .string b] w fun e w' => e = .returned (.int .i64 (Lib.compareBytes a.data.toList b.data.toList)) ∧ w' = w := Any.strings_Compare Try.lays106 a b w
end Go.Proofs

/-
  strings.HasPrefix's contract at this dump, laid by hand (gen_shelf.py).
-/
namespace Go.Proofs
open Go.Shelf Go.RowKit
def Try.lays99_ren : Go.Shelf.Ren := ⟨fun | 99 => 69 | 206 => 97 | n => n, fun | 3 => 3 | 4 => 4 | 9 => 9 | n => n, fun | n => n⟩
theorem Try.lays99 : Go.Proofs.Lays.n99 Try.prog Try.lays99_ren := {
  mixed := by kernel_rfl
  f99 := Try.func69.trans (congrArg some (by kernel_rfl))
  f206 := Try.func97.trans (congrArg some (by kernel_rfl))
  t3 := Try.underlying3
  a3 := Try.isAgg3
  z3 := Try.sizeOf3
  v3 := Try.zeroValue3
  t4 := Try.underlying4
  a4 := Try.isAgg4
  z4 := Try.sizeOf4
  v4 := Try.zeroValue4
  t9 := Try.underlying9
  a9 := Try.isAgg9
  z9 := Try.sizeOf9
  v9 := Try.zeroValue9 }
/-- strings.HasPrefix -/
theorem Try.strings_HasPrefix (s p : ByteArray) (w : World) :
    Calls Try.prog 69 #[.string s, .string p] w fun e w' => e = .returned (.bool (Lib.hasPrefix s.data.toList p.data.toList)) ∧ w' = w := Any.strings_HasPrefix Try.lays99 s p w
end Go.Proofs

/-
  The walks of escape.digit and escape.reference.
-/
namespace Go.Proofs.Ythifddkmbjnncaa
open Go.RowKit

set_option maxRecDepth 100000 in
set_option maxHeartbeats 1000000 in
theorem digit_any (x base : Int) (w : World) (h0 : 0 ≤ x) (h1 : x < 256) :
    Calls Try.prog 138 #[.int .u8 x, .int .i32 base] w fun e w' => e = .returned (.int .i32 (digitV base x)) ∧ w = w' := by
  go_enter Try.func138, Try.ntmps138
  go_wp2
  all_goals go_ret
  all_goals (refine ⟨ret_int ?_, rfl⟩)
  all_goals (unfold digitV; repeat (first | omega | split))

theorem digit_as (x base : Int) (w : World) (h0 : 0 ≤ x) (h1 : x < 256) (d : Int) (h : Hid (digitV base x = d)) :
    Calls Try.prog 138 #[.int .u8 x, .int .i32 base] w fun e w' => e = .returned (.int .i32 d) ∧ w = w' := by
  have := digit_any x base w h0 h1
  rw [h.out] at this
  exact this

theorem isPrefixOf_pre : ∀ (p l : List UInt8), p.isPrefixOf l = pre p l
  | [], l => by cases l <;> rfl
  | a :: p, [] => rfl
  | a :: p, b :: l => by
    have ih := isPrefixOf_pre p l
    have e : pre (a :: p) (b :: l) = ((b == a) && pre p l) := by
      unfold pre; rw [List.length_cons, List.take_succ_cons]; exact List.cons_beq_cons
    rw [e, ← ih, List.isPrefixOf]
    congr 1
    rw [Bool.eq_iff_iff, beq_iff_eq, beq_iff_eq]; exact eq_comm

theorem hasPrefix_pre (s : ByteArray) (p : List UInt8) (w : World) :
    Calls Try.prog 69 #[.string s, .string ⟨p.toArray⟩] w fun e w' => e = .returned (.bool (pre p s.data.toList)) ∧ w = w' := by
  refine (Try.strings_HasPrefix s ⟨p.toArray⟩ w).mono ?_
  rintro e w' ⟨rfl, rfl⟩
  exact ⟨ret_bool (isPrefixOf_pre _ _), rfl⟩

set_option maxRecDepth 100000 in
set_option maxHeartbeats 1000000 in
theorem reference_0 (s : ByteArray) (w : World) (h0 : pre [38, 97, 109, 112, 59] s.data.toList = true) :
    Calls Try.prog 116 #[.string s] w (Ret w (.tuple #[.int .i32 38, .int .i64 5])) := by
  go_enter Try.func116, Try.ntmps116
  go_wp2
  go_step3
  go_wp2
  refine wp_loop_rounds 6 ?_
  rw [rounds_succ]
  go_wp2_with (first | (go_at_call 69; refine (hasPrefix_pre _ _ _).mono ?_; rintro e w' ⟨rfl, rfl⟩) | go_in)
  rw [Exit.noGoto_ret]
  go_ret2
  exact ⟨rfl, (Below.refl _ _).alloc (Nat.le_refl _) _⟩

set_option maxRecDepth 100000 in
set_option maxHeartbeats 1000000 in
theorem reference_1 (s : ByteArray) (w : World) (h0 : pre [38, 97, 109, 112, 59] s.data.toList = false) (h1 : pre [38, 108, 116, 59] s.data.toList = true) :
    Calls Try.prog 116 #[.string s] w (Ret w (.tuple #[.int .i32 60, .int .i64 4])) := by
  go_enter Try.func116, Try.ntmps116
  go_wp2
  go_step3
  go_wp2
  refine wp_loop_rounds 6 ?_
  rw [rounds_succ]
  go_wp2_with (first | (go_at_call 69; refine (hasPrefix_pre _ _ _).mono ?_; rintro e w' ⟨rfl, rfl⟩) | go_in)
  rw [rounds_succ]
  go_wp2_with (first | (go_at_call 69; refine (hasPrefix_pre _ _ _).mono ?_; rintro e w' ⟨rfl, rfl⟩) | go_in)
  rw [Exit.noGoto_ret]
  go_ret2
  exact ⟨rfl, (Below.refl _ _).alloc (Nat.le_refl _) _⟩

set_option maxRecDepth 100000 in
set_option maxHeartbeats 1000000 in
theorem reference_2 (s : ByteArray) (w : World) (h0 : pre [38, 97, 109, 112, 59] s.data.toList = false) (h1 : pre [38, 108, 116, 59] s.data.toList = false) (h2 : pre [38, 103, 116, 59] s.data.toList = true) :
    Calls Try.prog 116 #[.string s] w (Ret w (.tuple #[.int .i32 62, .int .i64 4])) := by
  go_enter Try.func116, Try.ntmps116
  go_wp2
  go_step3
  go_wp2
  refine wp_loop_rounds 6 ?_
  rw [rounds_succ]
  go_wp2_with (first | (go_at_call 69; refine (hasPrefix_pre _ _ _).mono ?_; rintro e w' ⟨rfl, rfl⟩) | go_in)
  rw [rounds_succ]
  go_wp2_with (first | (go_at_call 69; refine (hasPrefix_pre _ _ _).mono ?_; rintro e w' ⟨rfl, rfl⟩) | go_in)
  rw [rounds_succ]
  go_wp2_with (first | (go_at_call 69; refine (hasPrefix_pre _ _ _).mono ?_; rintro e w' ⟨rfl, rfl⟩) | go_in)
  rw [Exit.noGoto_ret]
  go_ret2
  exact ⟨rfl, (Below.refl _ _).alloc (Nat.le_refl _) _⟩

set_option maxRecDepth 100000 in
set_option maxHeartbeats 1000000 in
theorem reference_3 (s : ByteArray) (w : World) (h0 : pre [38, 97, 109, 112, 59] s.data.toList = false) (h1 : pre [38, 108, 116, 59] s.data.toList = false) (h2 : pre [38, 103, 116, 59] s.data.toList = false) (h3 : pre [38, 113, 117, 111, 116, 59] s.data.toList = true) :
    Calls Try.prog 116 #[.string s] w (Ret w (.tuple #[.int .i32 34, .int .i64 6])) := by
  go_enter Try.func116, Try.ntmps116
  go_wp2
  go_step3
  go_wp2
  refine wp_loop_rounds 6 ?_
  rw [rounds_succ]
  go_wp2_with (first | (go_at_call 69; refine (hasPrefix_pre _ _ _).mono ?_; rintro e w' ⟨rfl, rfl⟩) | go_in)
  rw [rounds_succ]
  go_wp2_with (first | (go_at_call 69; refine (hasPrefix_pre _ _ _).mono ?_; rintro e w' ⟨rfl, rfl⟩) | go_in)
  rw [rounds_succ]
  go_wp2_with (first | (go_at_call 69; refine (hasPrefix_pre _ _ _).mono ?_; rintro e w' ⟨rfl, rfl⟩) | go_in)
  rw [rounds_succ]
  go_wp2_with (first | (go_at_call 69; refine (hasPrefix_pre _ _ _).mono ?_; rintro e w' ⟨rfl, rfl⟩) | go_in)
  rw [Exit.noGoto_ret]
  go_ret2
  exact ⟨rfl, (Below.refl _ _).alloc (Nat.le_refl _) _⟩

set_option maxRecDepth 100000 in
set_option maxHeartbeats 1000000 in
theorem reference_4 (s : ByteArray) (w : World) (h0 : pre [38, 97, 109, 112, 59] s.data.toList = false) (h1 : pre [38, 108, 116, 59] s.data.toList = false) (h2 : pre [38, 103, 116, 59] s.data.toList = false) (h3 : pre [38, 113, 117, 111, 116, 59] s.data.toList = false) (h4 : pre [38, 97, 112, 111, 115, 59] s.data.toList = true) :
    Calls Try.prog 116 #[.string s] w (Ret w (.tuple #[.int .i32 39, .int .i64 6])) := by
  go_enter Try.func116, Try.ntmps116
  go_wp2
  go_step3
  go_wp2
  refine wp_loop_rounds 6 ?_
  rw [rounds_succ]
  go_wp2_with (first | (go_at_call 69; refine (hasPrefix_pre _ _ _).mono ?_; rintro e w' ⟨rfl, rfl⟩) | go_in)
  rw [rounds_succ]
  go_wp2_with (first | (go_at_call 69; refine (hasPrefix_pre _ _ _).mono ?_; rintro e w' ⟨rfl, rfl⟩) | go_in)
  rw [rounds_succ]
  go_wp2_with (first | (go_at_call 69; refine (hasPrefix_pre _ _ _).mono ?_; rintro e w' ⟨rfl, rfl⟩) | go_in)
  rw [rounds_succ]
  go_wp2_with (first | (go_at_call 69; refine (hasPrefix_pre _ _ _).mono ?_; rintro e w' ⟨rfl, rfl⟩) | go_in)
  rw [rounds_succ]
  go_wp2_with (first | (go_at_call 69; refine (hasPrefix_pre _ _ _).mono ?_; rintro e w' ⟨rfl, rfl⟩) | go_in)
  rw [Exit.noGoto_ret]
  go_ret2
  exact ⟨rfl, (Below.refl _ _).alloc (Nat.le_refl _) _⟩

set_option maxRecDepth 100000 in
set_option maxHeartbeats 1000000 in
theorem reference_none (s : ByteArray) (w : World) (h0 : pre [38, 97, 109, 112, 59] s.data.toList = false) (h1 : pre [38, 108, 116, 59] s.data.toList = false) (h2 : pre [38, 103, 116, 59] s.data.toList = false) (h3 : pre [38, 113, 117, 111, 116, 59] s.data.toList = false) (h4 : pre [38, 97, 112, 111, 115, 59] s.data.toList = false) (h5 : pre [38, 35] s.data.toList = false) :
    Calls Try.prog 116 #[.string s] w (Ret w (.tuple #[.int .i32 0, .int .i64 0])) := by
  go_enter Try.func116, Try.ntmps116
  go_wp2
  refine wp_scope_jumps 0 (fun a' w' => a'.defers = [] ∧ a'.tmps.size = 68 ∧ Below w.heap.size w w') (fun _ _ => 0) rfl ?_ ?_
  · go_wp2
    refine wp_loop_rounds 6 ?_
    rw [rounds_succ]
    go_wp2_with (first | (go_at_call 69; refine (hasPrefix_pre _ _ _).mono ?_; rintro e w' ⟨rfl, rfl⟩) | go_in)
    rw [rounds_succ]
    go_wp2_with (first | (go_at_call 69; refine (hasPrefix_pre _ _ _).mono ?_; rintro e w' ⟨rfl, rfl⟩) | go_in)
    rw [rounds_succ]
    go_wp2_with (first | (go_at_call 69; refine (hasPrefix_pre _ _ _).mono ?_; rintro e w' ⟨rfl, rfl⟩) | go_in)
    rw [rounds_succ]
    go_wp2_with (first | (go_at_call 69; refine (hasPrefix_pre _ _ _).mono ?_; rintro e w' ⟨rfl, rfl⟩) | go_in)
    rw [rounds_succ]
    go_wp2_with (first | (go_at_call 69; refine (hasPrefix_pre _ _ _).mono ?_; rintro e w' ⟨rfl, rfl⟩) | go_in)
    rw [rounds_succ]
    go_wp2_with (first | (go_at_call 69; refine (hasPrefix_pre _ _ _).mono ?_; rintro e w' ⟨rfl, rfl⟩) | go_in)
    go_step3
    refine ⟨rfl, rfl, rfl, (Below.refl _ _).alloc (Nat.le_refl _) _⟩
  · rintro ⟨tmps, defers⟩ w' ⟨rfl, hsz, hb⟩
    simp only at hsz
    go_wp2
    simp only [Exit.jump]
    go_ret2
    exact ⟨by simp [hsz], hb⟩

set_option maxRecDepth 100000 in
set_option maxHeartbeats 2000000 in
theorem reference_ten (s : ByteArray) (w : World) (_hs : s.size ≤ maxLen) (h0 : pre [38, 97, 109, 112, 59] s.data.toList = false) (h1 : pre [38, 108, 116, 59] s.data.toList = false) (h2 : pre [38, 103, 116, 59] s.data.toList = false) (h3 : pre [38, 113, 117, 111, 116, 59] s.data.toList = false) (h4 : pre [38, 97, 112, 111, 115, 59] s.data.toList = false) (h5 : pre [38, 35] s.data.toList = true) (h6 : pre [38, 35, 120] s.data.toList = false) (hat : 2 ≤ s.size) (V : Int × Nat) (hV : Hid (V = pick 2 (scanL 10 0 0 (s.data.toList.drop 2)))) :
    Calls Try.prog 116 #[.string s] w (Ret w (.tuple #[.int .i32 V.1, .int .i64 (V.2 : Nat)])) := by
  unfold maxLen at _hs
  have hl := size_toList s
  have HL := Lib.hid hl
  clear hl
  have H0 := Lib.hid h0; have H1 := Lib.hid h1
  go_enter Try.func116, Try.ntmps116
  go_wp2
  refine wp_scope_jumps 0 (fun a' w' => a'.defers = [] ∧ a'.tmps.size = 68 ∧ Below w.heap.size w w' ∧ V = (0, 0)) (fun _ _ => 0) rfl ?_ ?_
  · go_wp2
    refine wp_loop_rounds 6 ?_
    rw [rounds_succ]
    go_wp2_with (first | (go_at_call 69; refine (hasPrefix_pre _ _ _).mono ?_; rintro e w' ⟨rfl, rfl⟩) | go_in)
    rw [rounds_succ]
    go_wp2_with (first | (go_at_call 69; refine (hasPrefix_pre _ _ _).mono ?_; rintro e w' ⟨rfl, rfl⟩) | go_in)
    rw [rounds_succ]
    go_wp2_with (first | (go_at_call 69; refine (hasPrefix_pre _ _ _).mono ?_; rintro e w' ⟨rfl, rfl⟩) | go_in)
    rw [rounds_succ]
    go_wp2_with (first | (go_at_call 69; refine (hasPrefix_pre _ _ _).mono ?_; rintro e w' ⟨rfl, rfl⟩) | go_in)
    rw [rounds_succ]
    go_wp2_with (first | (go_at_call 69; refine (hasPrefix_pre _ _ _).mono ?_; rintro e w' ⟨rfl, rfl⟩) | go_in)
    rw [rounds_succ]
    go_wp2_with (first | (go_at_call 69; refine (hasPrefix_pre _ _ _).mono ?_; rintro e w' ⟨rfl, rfl⟩) | go_in)

    go_loop [4, 10] (fun c i => ∃ (k : Nat) (cv : Int), k ≤ 7 ∧ 2 + k ≤ s.size ∧ i = .int .i64 ((2 + k : Nat) : Int) ∧ c = .int .i32 cv ∧ 0 ≤ cv ∧ cv < 16 ^ k ∧ Hid (V = pick 2 (scanL 10 k cv (s.data.toList.drop (2 + k))))) (fun _ i => s.size - (intOf i).toNat)
    case atStart => exact ⟨0, 0, by omega, by omega, rfl, rfl, by omega, by decide, hV⟩
    case round =>
      obtain ⟨k, cv, hk7, hks, rfl, rfl, hc0, hc1, hsc⟩ := hrel
      have hp16 : (16 : Int) ^ k ≤ 268435456 := by
        rcases (by omega : k = 0 ∨ k = 1 ∨ k = 2 ∨ k = 3 ∨ k = 4 ∨ k = 5 ∨ k = 6 ∨ k = 7) with rfl | rfl | rfl | rfl | rfl | rfl | rfl | rfl <;> decide
      have hp6 : k < 7 → (16 : Int) ^ k ≤ 16777216 := by
        intro h
        rcases (by omega : k = 0 ∨ k = 1 ∨ k = 2 ∨ k = 3 ∨ k = 4 ∨ k = 5 ∨ k = 6) with rfl | rfl | rfl | rfl | rfl | rfl | rfl <;> decide
      have hcv : cv < 268435456 := by omega
      have hcv6 : k < 7 → cv < 16777216 := fun h => by have := hp6 h; omega
      have HC1 := Lib.hid hc1
      have HC6 := Lib.hid hcv6
      clear hc1 hp16 hp6 hcv6
      by_cases hend : s.size ≤ 2 + k
      · have hv : Hid (V = (0, 0)) := by
          have : s.data.toList.drop (2 + k) = [] := List.drop_eq_nil_of_le (by have := HL.out; omega)
          show _ = _
          rw [hsc.out, this]; rfl
        go_wp2_with fail
        go_step3
        go_wp2_with fail
        simp only [Exit.jump]
        go_ret2
        exact ⟨by rw [hv.out]; rfl, (Below.refl _ _).alloc (Nat.le_refl _) _⟩
      · have hj : 2 + k < s.size := by omega
        obtain ⟨x, HX⟩ : ∃ x, Hid (s.data.toList[2 + k]? = some x) := ⟨s.data.toList[2 + k]'(by have := HL.out; omega), List.getElem?_eq_getElem _⟩
        have hsx : s[2 + k] = x := getk_of s (2 + k) x HX.out hj
        have hdr : s.data.toList.drop (2 + k) = x :: s.data.toList.drop (2 + k + 1) := by
          have hj' : 2 + k < s.data.toList.length := by have := HL.out; omega
          have hg := HX.out
          rw [List.getElem?_eq_getElem hj'] at hg
          rw [List.drop_eq_getElem_cons hj', Option.some.inj hg]
        have HDR := Lib.hid hdr
        clear hdr
        have hx1 : (x.toNat : Int) < 256 := by have := x.toNat_lt; omega
        have hxe : (x = 59) ↔ (x.toNat : Int) = 59 := by
          constructor
          · rintro rfl; rfl
          · intro h; exact UInt8.toNat_inj.1 (by have : (59 : UInt8).toNat = 59 := rfl; omega)
        have HXE := Lib.hid hxe
        clear hxe
        by_cases hA : (x.toNat : Int) = 59 ∧ 0 < k
        · obtain ⟨hA1, hA2⟩ := hA
          have hv : Hid (V = (cv, 2 + k + 1)) := by
            show _ = _
            rw [hsc.out, HDR.out]
            simp only [scanL]
            rw [if_pos ⟨HXE.out.2 hA1, hA2⟩]; rfl
          have hx59 : ((x.toNat : Int) == 59) = true := by simp [hA1]
          clear hA1
          go_wp2_with fail
          simp only [Exit.jump]
          go_ret2
          exact ⟨by rw [hv.out]; exact ret_ii rfl (by omega), (Below.refl _ _).alloc (Nat.le_refl _) _⟩
        · have hcond : ¬ (x = 59 ∧ 0 < k) := fun h => hA ⟨HXE.out.1 h.1, h.2⟩
          have hstep : scanL 10 k cv (s.data.toList.drop (2 + k)) = if digitV 10 x.toNat < 0 ∨ 7 ≤ k then none else scanL 10 (k + 1) (cv * 10 + digitV 10 x.toNat) (s.data.toList.drop (2 + k + 1)) := by
            rw [HDR.out]; simp only [scanL]; rw [if_neg hcond]
          have hdb := digitV_bd 10 x.toNat
          have h59d : (x.toNat : Int) = 59 → digitV 10 x.toNat = -1 := fun h => by rw [h]; decide
          generalize hdv : digitV 10 x.toNat = dv at *
          have HDV := Lib.hid hdv
          clear hdv hcond
          obtain ⟨hdb0, hdb1⟩ := hdb
          have HS := Lib.hid hstep
          clear hstep
          by_cases hB : dv < 0 ∨ 7 ≤ k
          · have hv : Hid (V = (0, 0)) := by
              show _ = _
              rw [hsc.out, HS.out, if_pos hB]; rfl
            by_cases h59 : (x.toNat : Int) = 59
            · have hk0 : k ≤ 0 := by omega
              have hdv1 := h59d h59
              have hx59 : ((x.toNat : Int) == 59) = true := by simp [h59]
              have hlt0 : dv < 0 := by omega
              clear h59 h59d hA hdv1 hB
              go_wp2_with (go_at_call 138; refine (digit_as _ _ _ (by omega) (by omega) dv HDV).mono ?_; rintro e w' ⟨rfl, rfl⟩)
              go_step3
              exact ⟨rfl, rfl, rfl, (Below.refl _ _).alloc (Nat.le_refl _) _, hv.out⟩
            · have hx59 : ((x.toNat : Int) == 59) = false := by simp [h59]
              clear h59 h59d hA
              by_cases hlt0 : dv < 0
              · clear hB
                go_wp2_with (go_at_call 138; refine (digit_as _ _ _ (by omega) (by omega) dv HDV).mono ?_; rintro e w' ⟨rfl, rfl⟩)
                go_step3
                exact ⟨rfl, rfl, rfl, (Below.refl _ _).alloc (Nat.le_refl _) _, hv.out⟩
              · have h7 : 7 ≤ k := by omega
                clear hB
                go_wp2_with (go_at_call 138; refine (digit_as _ _ _ (by omega) (by omega) dv HDV).mono ?_; rintro e w' ⟨rfl, rfl⟩)
                go_step3
                exact ⟨rfl, rfl, rfl, (Below.refl _ _).alloc (Nat.le_refl _) _, hv.out⟩
          · have hlt0 : 0 ≤ dv := by omega
            have hk7 : k < 7 := by omega
            have hcv7 := HC6.out hk7
            have hpw : cv * 10 + dv < 16 ^ (k + 1) := by
              have := HC1.out
              rw [Int.pow_succ]; omega
            have HPW := Lib.hid hpw
            have hsn : Hid (V = pick 2 (scanL 10 (k + 1) (cv * 10 + dv) (s.data.toList.drop (2 + k + 1)))) := by
              show _ = _
              rw [hsc.out, HS.out, if_neg hB]
            clear hpw hB
            by_cases h59 : (x.toNat : Int) = 59
            · have := h59d h59
              omega
            · have hx59 : ((x.toNat : Int) == 59) = false := by simp [h59]
              clear h59 h59d hA
              go_wp2_with (go_at_call 138; refine (digit_as _ _ _ (by omega) (by omega) dv HDV).mono ?_; rintro e w' ⟨rfl, rfl⟩)
              go_round
              case rel => exact ⟨k + 1, cv * 10 + dv, by omega, by omega, by go_num, rfl, by omega, HPW.out, hsn⟩
              case measure => simp [intOf]; omega
  · rintro ⟨tmps, defers⟩ w' ⟨rfl, hsz, hb, hv⟩
    simp only at hsz
    subst hv
    go_wp2
    simp only [Exit.jump]
    go_ret2
    exact ⟨by simp [hsz], hb⟩

set_option maxRecDepth 100000 in
set_option maxHeartbeats 2000000 in
theorem reference_hex (s : ByteArray) (w : World) (_hs : s.size ≤ maxLen) (h0 : pre [38, 97, 109, 112, 59] s.data.toList = false) (h1 : pre [38, 108, 116, 59] s.data.toList = false) (h2 : pre [38, 103, 116, 59] s.data.toList = false) (h3 : pre [38, 113, 117, 111, 116, 59] s.data.toList = false) (h4 : pre [38, 97, 112, 111, 115, 59] s.data.toList = false) (h5 : pre [38, 35] s.data.toList = true) (h6 : pre [38, 35, 120] s.data.toList = true) (hat : 3 ≤ s.size) (V : Int × Nat) (hV : Hid (V = pick 3 (scanL 16 0 0 (s.data.toList.drop 3)))) :
    Calls Try.prog 116 #[.string s] w (Ret w (.tuple #[.int .i32 V.1, .int .i64 (V.2 : Nat)])) := by
  unfold maxLen at _hs
  have hl := size_toList s
  have HL := Lib.hid hl
  clear hl
  have H0 := Lib.hid h0; have H1 := Lib.hid h1
  go_enter Try.func116, Try.ntmps116
  go_wp2
  refine wp_scope_jumps 0 (fun a' w' => a'.defers = [] ∧ a'.tmps.size = 68 ∧ Below w.heap.size w w' ∧ V = (0, 0)) (fun _ _ => 0) rfl ?_ ?_
  · go_wp2
    refine wp_loop_rounds 6 ?_
    rw [rounds_succ]
    go_wp2_with (first | (go_at_call 69; refine (hasPrefix_pre _ _ _).mono ?_; rintro e w' ⟨rfl, rfl⟩) | go_in)
    rw [rounds_succ]
    go_wp2_with (first | (go_at_call 69; refine (hasPrefix_pre _ _ _).mono ?_; rintro e w' ⟨rfl, rfl⟩) | go_in)
    rw [rounds_succ]
    go_wp2_with (first | (go_at_call 69; refine (hasPrefix_pre _ _ _).mono ?_; rintro e w' ⟨rfl, rfl⟩) | go_in)
    rw [rounds_succ]
    go_wp2_with (first | (go_at_call 69; refine (hasPrefix_pre _ _ _).mono ?_; rintro e w' ⟨rfl, rfl⟩) | go_in)
    rw [rounds_succ]
    go_wp2_with (first | (go_at_call 69; refine (hasPrefix_pre _ _ _).mono ?_; rintro e w' ⟨rfl, rfl⟩) | go_in)
    rw [rounds_succ]
    go_wp2_with (first | (go_at_call 69; refine (hasPrefix_pre _ _ _).mono ?_; rintro e w' ⟨rfl, rfl⟩) | go_in)

    go_loop [4, 10] (fun c i => ∃ (k : Nat) (cv : Int), k ≤ 7 ∧ 3 + k ≤ s.size ∧ i = .int .i64 ((3 + k : Nat) : Int) ∧ c = .int .i32 cv ∧ 0 ≤ cv ∧ cv < 16 ^ k ∧ Hid (V = pick 3 (scanL 16 k cv (s.data.toList.drop (3 + k))))) (fun _ i => s.size - (intOf i).toNat)
    case atStart => exact ⟨0, 0, by omega, by omega, rfl, rfl, by omega, by decide, hV⟩
    case round =>
      obtain ⟨k, cv, hk7, hks, rfl, rfl, hc0, hc1, hsc⟩ := hrel
      have hp16 : (16 : Int) ^ k ≤ 268435456 := by
        rcases (by omega : k = 0 ∨ k = 1 ∨ k = 2 ∨ k = 3 ∨ k = 4 ∨ k = 5 ∨ k = 6 ∨ k = 7) with rfl | rfl | rfl | rfl | rfl | rfl | rfl | rfl <;> decide
      have hp6 : k < 7 → (16 : Int) ^ k ≤ 16777216 := by
        intro h
        rcases (by omega : k = 0 ∨ k = 1 ∨ k = 2 ∨ k = 3 ∨ k = 4 ∨ k = 5 ∨ k = 6) with rfl | rfl | rfl | rfl | rfl | rfl | rfl <;> decide
      have hcv : cv < 268435456 := by omega
      have hcv6 : k < 7 → cv < 16777216 := fun h => by have := hp6 h; omega
      have HC1 := Lib.hid hc1
      have HC6 := Lib.hid hcv6
      clear hc1 hp16 hp6 hcv6
      by_cases hend : s.size ≤ 3 + k
      · have hv : Hid (V = (0, 0)) := by
          have : s.data.toList.drop (3 + k) = [] := List.drop_eq_nil_of_le (by have := HL.out; omega)
          show _ = _
          rw [hsc.out, this]; rfl
        go_wp2_with fail
        go_step3
        go_wp2_with fail
        simp only [Exit.jump]
        go_ret2
        exact ⟨by rw [hv.out]; rfl, (Below.refl _ _).alloc (Nat.le_refl _) _⟩
      · have hj : 3 + k < s.size := by omega
        obtain ⟨x, HX⟩ : ∃ x, Hid (s.data.toList[3 + k]? = some x) := ⟨s.data.toList[3 + k]'(by have := HL.out; omega), List.getElem?_eq_getElem _⟩
        have hsx : s[3 + k] = x := getk_of s (3 + k) x HX.out hj
        have hdr : s.data.toList.drop (3 + k) = x :: s.data.toList.drop (3 + k + 1) := by
          have hj' : 3 + k < s.data.toList.length := by have := HL.out; omega
          have hg := HX.out
          rw [List.getElem?_eq_getElem hj'] at hg
          rw [List.drop_eq_getElem_cons hj', Option.some.inj hg]
        have HDR := Lib.hid hdr
        clear hdr
        have hx1 : (x.toNat : Int) < 256 := by have := x.toNat_lt; omega
        have hxe : (x = 59) ↔ (x.toNat : Int) = 59 := by
          constructor
          · rintro rfl; rfl
          · intro h; exact UInt8.toNat_inj.1 (by have : (59 : UInt8).toNat = 59 := rfl; omega)
        have HXE := Lib.hid hxe
        clear hxe
        by_cases hA : (x.toNat : Int) = 59 ∧ 0 < k
        · obtain ⟨hA1, hA2⟩ := hA
          have hv : Hid (V = (cv, 3 + k + 1)) := by
            show _ = _
            rw [hsc.out, HDR.out]
            simp only [scanL]
            rw [if_pos ⟨HXE.out.2 hA1, hA2⟩]; rfl
          have hx59 : ((x.toNat : Int) == 59) = true := by simp [hA1]
          clear hA1
          go_wp2_with fail
          simp only [Exit.jump]
          go_ret2
          exact ⟨by rw [hv.out]; exact ret_ii rfl (by omega), (Below.refl _ _).alloc (Nat.le_refl _) _⟩
        · have hcond : ¬ (x = 59 ∧ 0 < k) := fun h => hA ⟨HXE.out.1 h.1, h.2⟩
          have hstep : scanL 16 k cv (s.data.toList.drop (3 + k)) = if digitV 16 x.toNat < 0 ∨ 7 ≤ k then none else scanL 16 (k + 1) (cv * 16 + digitV 16 x.toNat) (s.data.toList.drop (3 + k + 1)) := by
            rw [HDR.out]; simp only [scanL]; rw [if_neg hcond]
          have hdb := digitV_bd 16 x.toNat
          have h59d : (x.toNat : Int) = 59 → digitV 16 x.toNat = -1 := fun h => by rw [h]; decide
          generalize hdv : digitV 16 x.toNat = dv at *
          have HDV := Lib.hid hdv
          clear hdv hcond
          obtain ⟨hdb0, hdb1⟩ := hdb
          have HS := Lib.hid hstep
          clear hstep
          by_cases hB : dv < 0 ∨ 7 ≤ k
          · have hv : Hid (V = (0, 0)) := by
              show _ = _
              rw [hsc.out, HS.out, if_pos hB]; rfl
            by_cases h59 : (x.toNat : Int) = 59
            · have hk0 : k ≤ 0 := by omega
              have hdv1 := h59d h59
              have hx59 : ((x.toNat : Int) == 59) = true := by simp [h59]
              have hlt0 : dv < 0 := by omega
              clear h59 h59d hA hdv1 hB
              go_wp2_with (go_at_call 138; refine (digit_as _ _ _ (by omega) (by omega) dv HDV).mono ?_; rintro e w' ⟨rfl, rfl⟩)
              go_step3
              exact ⟨rfl, rfl, rfl, (Below.refl _ _).alloc (Nat.le_refl _) _, hv.out⟩
            · have hx59 : ((x.toNat : Int) == 59) = false := by simp [h59]
              clear h59 h59d hA
              by_cases hlt0 : dv < 0
              · clear hB
                go_wp2_with (go_at_call 138; refine (digit_as _ _ _ (by omega) (by omega) dv HDV).mono ?_; rintro e w' ⟨rfl, rfl⟩)
                go_step3
                exact ⟨rfl, rfl, rfl, (Below.refl _ _).alloc (Nat.le_refl _) _, hv.out⟩
              · have h7 : 7 ≤ k := by omega
                clear hB
                go_wp2_with (go_at_call 138; refine (digit_as _ _ _ (by omega) (by omega) dv HDV).mono ?_; rintro e w' ⟨rfl, rfl⟩)
                go_step3
                exact ⟨rfl, rfl, rfl, (Below.refl _ _).alloc (Nat.le_refl _) _, hv.out⟩
          · have hlt0 : 0 ≤ dv := by omega
            have hk7 : k < 7 := by omega
            have hcv7 := HC6.out hk7
            have hpw : cv * 16 + dv < 16 ^ (k + 1) := by
              have := HC1.out
              rw [Int.pow_succ]; omega
            have HPW := Lib.hid hpw
            have hsn : Hid (V = pick 3 (scanL 16 (k + 1) (cv * 16 + dv) (s.data.toList.drop (3 + k + 1)))) := by
              show _ = _
              rw [hsc.out, HS.out, if_neg hB]
            clear hpw hB
            by_cases h59 : (x.toNat : Int) = 59
            · have := h59d h59
              omega
            · have hx59 : ((x.toNat : Int) == 59) = false := by simp [h59]
              clear h59 h59d hA
              go_wp2_with (go_at_call 138; refine (digit_as _ _ _ (by omega) (by omega) dv HDV).mono ?_; rintro e w' ⟨rfl, rfl⟩)
              go_round
              case rel => exact ⟨k + 1, cv * 16 + dv, by omega, by omega, by go_num, rfl, by omega, HPW.out, hsn⟩
              case measure => simp [intOf]; omega
  · rintro ⟨tmps, defers⟩ w' ⟨rfl, hsz, hb, hv⟩
    simp only at hsz
    subst hv
    go_wp2
    simp only [Exit.jump]
    go_ret2
    exact ⟨by simp [hsz], hb⟩


/-- escape.reference: any text. -/
theorem reference_any (s : ByteArray) (w : World) (hs : s.size ≤ maxLen) :
    Calls Try.prog 116 #[.string s] w (Ret w (.tuple #[.int .i32 (refL s.data.toList).1, .int .i64 ((refL s.data.toList).2 : Nat)])) := by
  have hl := size_toList s
  unfold refL
  by_cases h0 : pre [38, 97, 109, 112, 59] s.data.toList = true
  · rw [if_pos h0]; exact reference_0 s w h0
  by_cases h1 : pre [38, 108, 116, 59] s.data.toList = true
  · rw [if_neg h0, if_pos h1]; exact reference_1 s w (by simpa using h0) h1
  by_cases h2 : pre [38, 103, 116, 59] s.data.toList = true
  · rw [if_neg h0, if_neg h1, if_pos h2]; exact reference_2 s w (by simpa using h0) (by simpa using h1) h2
  by_cases h3 : pre [38, 113, 117, 111, 116, 59] s.data.toList = true
  · rw [if_neg h0, if_neg h1, if_neg h2, if_pos h3]; exact reference_3 s w (by simpa using h0) (by simpa using h1) (by simpa using h2) h3
  by_cases h4 : pre [38, 97, 112, 111, 115, 59] s.data.toList = true
  · rw [if_neg h0, if_neg h1, if_neg h2, if_neg h3, if_pos h4]; exact reference_4 s w (by simpa using h0) (by simpa using h1) (by simpa using h2) (by simpa using h3) h4
  rw [if_neg h0, if_neg h1, if_neg h2, if_neg h3, if_neg h4]
  by_cases h5 : pre [38, 35] s.data.toList = true
  · rw [if_pos h5]
    have h5l := pre_len h5
    by_cases h6 : pre [38, 35, 120] s.data.toList = true
    · rw [if_pos h6]
      have h6l := pre_len h6
      exact reference_hex s w hs (by simpa using h0) (by simpa using h1) (by simpa using h2) (by simpa using h3) (by simpa using h4) h5 h6 (by rw [← hl]; exact h6l) _ rfl
    · rw [if_neg h6]
      exact reference_ten s w hs (by simpa using h0) (by simpa using h1) (by simpa using h2) (by simpa using h3) (by simpa using h4) h5 (by simpa using h6) (by rw [← hl]; exact h5l) _ rfl
  · rw [if_neg h5]
    exact reference_none s w (by simpa using h0) (by simpa using h1) (by simpa using h2) (by simpa using h3) (by simpa using h4) (by simpa using h5)
end Go.Proofs.Ythifddkmbjnncaa

/-
  The walk of escape.Undo.
-/
namespace Go.Proofs.Ythifddkmbjnncaa
open Go.RowKit

theorem reference_as (s : ByteArray) (w : World) (hs : s.size ≤ maxLen) (c : Int) (n : Nat) (h : Hid (refL s.data.toList = (c, n))) :
    Calls Try.prog 116 #[.string s] w (Ret w (.tuple #[.int .i32 c, .int .i64 (n : Nat)])) := by
  have := reference_any s w hs
  rw [h.out] at this
  exact this

theorem stepL_lt {v : Bool} {l : List UInt8} {c : Int} {n : Nat} (h : nextL l = (c, n)) (hn : 0 < n) (hc : c = 60 ∨ c = 62) : stepL v l = .inl 20 := by
  simp only [stepL, h]; rw [if_pos ⟨hn, hc⟩]
theorem stepL_no {v : Bool} {l : List UInt8} {c : Int} {n : Nat} (h : nextL l = (c, n)) (hn : n = 0) : stepL v l = .inl 21 := by
  simp only [stepL, h]; rw [if_neg (by omega), if_pos (.inl hn)]
theorem stepL_13 {v : Bool} {l : List UInt8} {c : Int} {n : Nat} (h : nextL l = (c, n)) (hc : c = 13 ∨ (v = true ∧ (c = 34 ∨ c = 9 ∨ c = 10))) : stepL v l = .inl 21 := by
  simp only [stepL, h]; rw [if_neg (by omega), if_pos (.inr hc)]
theorem stepL_put {v : Bool} {l : List UInt8} {c : Int} {n : Nat} (h : nextL l = (c, n)) (hn : 0 < n) (h1 : ¬ (c = 60 ∨ c = 62)) (h2 : ¬ (c = 13 ∨ (v = true ∧ (c = 34 ∨ c = 9 ∨ c = 10)))) (h3 : c ≠ 38) :
    stepL v l = if charB c = false then .inl 21 else .inr (putF c, n) := by
  simp only [stepL, h]; rw [if_neg (fun h => h1 h.2), if_neg (by intro h; rcases h with h | h; omega; exact h2 h), if_neg h3, if_neg (by omega)]
theorem stepL_ref {v : Bool} {l : List UInt8} {n : Nat} (h : nextL l = (38, n)) (hn : 0 < n) {c' : Int} {n' : Nat} (hr : refL l = (c', n')) :
    stepL v l = if n' = 0 then .inl 20 else if charB c' = false then .inl 21 else .inr (putF c', n') := by
  simp only [stepL, h, hr]; rw [if_neg (by omega), if_neg (by omega)]; simp only [if_true]

theorem joinU_bad (acc : List UInt8) (k : Nat) (e : Int) (h : e ≠ 0) : joinU acc k ([], 0, e) = ([], k, e) := by simp [joinU, h]

set_option maxRecDepth 100000 in
set_option maxHeartbeats 4000000 in
theorem Undo_true (s : ByteArray) (w : World) (hs : s.size ≤ 1099511627776) (V : List UInt8 × Nat × Int) (hV : Hid (V = undoL true s.data.toList)) :
    Calls Try.prog 96 #[.string s, .bool true] w (Ret w (.tuple #[.string ⟨V.1.toArray⟩, .int .i64 (V.2.1 : Nat), .int .i64 V.2.2])) := by
  go_enter Try.func96, Try.ntmps96
  go_wp2_with fail
  go_loopw [8] (fun av wr => ∃ (k : Nat) (acc : List UInt8), av = .int .i64 k ∧ k ≤ s.size ∧ Hid (V = joinU acc k (undoL true (s.data.toList.drop k))) ∧ acc.length ≤ 4 * k ∧
      Lib.IsBuilder 80 5 w.heap.size w.heap.size (Lib.byteCells acc) wr ∧ Below w.heap.size w wr ∧ w.heap.size < wr.heap.size) (fun av _ => s.size - (intOf av).toNat)
  case atStart =>
    refine ⟨0, [], rfl, Nat.zero_le _, ?_, by simp, builder_new _ _ _, (Below.refl _ _).alloc (Nat.le_refl _) _, by simp⟩
    show _ = _
    rw [hV.out, List.drop_zero, joinU_nil _ (undoL_shape _ _)]
  case round =>
    obtain ⟨k, acc, rfl, hks, hjo, hal, hB, hbel, hlt⟩ := hrel
    have HL := Lib.hid (size_toList s)
    by_cases hend : k < s.size
    · have hx : Hid ((s.extract k s.size).data.toList = s.data.toList.drop k) := Lib.extract_to_end s k
      have hxs : (s.extract k s.size).size = s.size - k := by simp
      have hnn : Hid (s.data.toList.drop k ≠ []) := by
        intro h
        have := congrArg List.length h
        rw [List.length_drop, HL.out] at this
        simp at this; omega
      have hszl : (s.extract k s.size).size ≤ 1099511627776 := by omega
      have HXS := Lib.hid hxs
      clear hxs
      obtain ⟨c, n, hq⟩ : ∃ c n, Hid (nextL (s.extract k s.size).data.toList = (c, n)) := ⟨_, _, rfl⟩
      have hle := nextL_le (s.extract k s.size).data.toList
      rw [hq.out, hx.out, List.length_drop, HL.out] at hle
      obtain ⟨hn1, hn4⟩ := hle
      simp only at hn1 hn4
      by_cases hn : n = 0
      · have hv : Hid (V = ([], k, 21)) := by
          have := stepL_no (v := true) hq.out hn
          rw [hx.out] at this
          show _ = _
          rw [hjo.out, undoL_bad _ _ hnn.out _ this, joinU_bad _ _ _ (by decide)]
        have hn0 : ((n : Int) == 0) = true := by simp [hn]
        have hnz : n ≤ 0 := by omega
        clear hn
        go_wp2_with (go_at_call 77; refine (Next_as (s.extract k s.size) wr (by unfold maxLen; omega) c n hq).mono ?_; rintro e w2 ⟨rfl, hb2⟩)
        go_ret3
        exact ⟨by rw [hv.out]; rfl, hbel.trans (hb2.mono (by omega))⟩
      have hnp : 0 < n := by omega
      have hn0 : ((n : Int) == 0) = false := by simp [hn]
      clear hn
      by_cases hc60 : c = 60
      · subst hc60
        have hv : Hid (V = ([], k, 20)) := by
          have := stepL_lt (v := true) hq.out hnp (.inl rfl)
          rw [hx.out] at this
          show _ = _
          rw [hjo.out, undoL_bad _ _ hnn.out _ this, joinU_bad _ _ _ (by decide)]
        go_wp2_with (go_at_call 77; refine (Next_as (s.extract k s.size) wr (by unfold maxLen; omega) 60 n hq).mono ?_; rintro e w2 ⟨rfl, hb2⟩)
        go_ret3
        exact ⟨by rw [hv.out]; rfl, hbel.trans (hb2.mono (by omega))⟩
      by_cases hc62 : c = 62
      · subst hc62
        have hv : Hid (V = ([], k, 20)) := by
          have := stepL_lt (v := true) hq.out hnp (.inr rfl)
          rw [hx.out] at this
          show _ = _
          rw [hjo.out, undoL_bad _ _ hnn.out _ this, joinU_bad _ _ _ (by decide)]
        go_wp2_with (go_at_call 77; refine (Next_as (s.extract k s.size) wr (by unfold maxLen; omega) 62 n hq).mono ?_; rintro e w2 ⟨rfl, hb2⟩)
        go_ret3
        exact ⟨by rw [hv.out]; rfl, hbel.trans (hb2.mono (by omega))⟩
      by_cases hc13 : c = 13
      · subst hc13
        have hv : Hid (V = ([], k, 21)) := by
          have := stepL_13 (v := true) hq.out (.inl rfl)
          rw [hx.out] at this
          show _ = _
          rw [hjo.out, undoL_bad _ _ hnn.out _ this, joinU_bad _ _ _ (by decide)]
        go_wp2_with (go_at_call 77; refine (Next_as (s.extract k s.size) wr (by unfold maxLen; omega) 13 n hq).mono ?_; rintro e w2 ⟨rfl, hb2⟩)
        go_ret3
        exact ⟨by rw [hv.out]; rfl, hbel.trans (hb2.mono (by omega))⟩
      by_cases hc34 : c = 34
      · subst hc34
        have hv : Hid (V = ([], k, 21)) := by
          have := stepL_13 (v := true) hq.out (.inr ⟨rfl, .inl rfl⟩)
          rw [hx.out] at this
          show _ = _
          rw [hjo.out, undoL_bad _ _ hnn.out _ this, joinU_bad _ _ _ (by decide)]
        go_wp2_with (go_at_call 77; refine (Next_as (s.extract k s.size) wr (by unfold maxLen; omega) 34 n hq).mono ?_; rintro e w2 ⟨rfl, hb2⟩)
        go_ret3
        exact ⟨by rw [hv.out]; rfl, hbel.trans (hb2.mono (by omega))⟩
      by_cases hc9 : c = 9
      · subst hc9
        have hv : Hid (V = ([], k, 21)) := by
          have := stepL_13 (v := true) hq.out (.inr ⟨rfl, .inr (.inl rfl)⟩)
          rw [hx.out] at this
          show _ = _
          rw [hjo.out, undoL_bad _ _ hnn.out _ this, joinU_bad _ _ _ (by decide)]
        go_wp2_with (go_at_call 77; refine (Next_as (s.extract k s.size) wr (by unfold maxLen; omega) 9 n hq).mono ?_; rintro e w2 ⟨rfl, hb2⟩)
        go_ret3
        exact ⟨by rw [hv.out]; rfl, hbel.trans (hb2.mono (by omega))⟩
      by_cases hc10 : c = 10
      · subst hc10
        have hv : Hid (V = ([], k, 21)) := by
          have := stepL_13 (v := true) hq.out (.inr ⟨rfl, .inr (.inr rfl)⟩)
          rw [hx.out] at this
          show _ = _
          rw [hjo.out, undoL_bad _ _ hnn.out _ this, joinU_bad _ _ _ (by decide)]
        go_wp2_with (go_at_call 77; refine (Next_as (s.extract k s.size) wr (by unfold maxLen; omega) 10 n hq).mono ?_; rintro e w2 ⟨rfl, hb2⟩)
        go_ret3
        exact ⟨by rw [hv.out]; rfl, hbel.trans (hb2.mono (by omega))⟩
      by_cases hc38 : c = 38
      · subst hc38
        obtain ⟨c', n', hr⟩ : ∃ c' n', Hid (refL (s.extract k s.size).data.toList = (c', n')) := ⟨_, _, rfl⟩
        have hrl := refL_le (s.extract k s.size).data.toList
        rw [hr.out, hx.out, List.length_drop, HL.out] at hrl
        simp only at hrl
        have hstep := stepL_ref (v := true) hq.out hnp hr.out
        rw [hx.out] at hstep
        by_cases hn' : n' = 0
        · rw [if_pos hn'] at hstep
          have hv : Hid (V = ([], k, 20)) := by
            show _ = _
            rw [hjo.out, undoL_bad _ _ hnn.out _ hstep, joinU_bad _ _ _ (by decide)]
          have hn0' : ((n' : Int) == 0) = true := by simp [hn']
          clear hn' hstep
          go_wp2_with (first | (go_at_call 77; refine (Next_as (s.extract k s.size) wr (by unfold maxLen; omega) 38 n hq).mono ?_; rintro e w2 ⟨rfl, hb2⟩) | (go_at_call 116; refine (reference_as (s.extract k s.size) _ (by unfold maxLen; omega) c' n' hr).mono ?_; rintro e w3 ⟨rfl, hb3⟩) | (go_at_call 103; refine (Put_any _ _).mono ?_; rintro e w4 ⟨rfl, hb4⟩))
          go_ret3
          have hz2 := hb2.size; have hz3 := hb3.size
          exact ⟨by rw [hv.out]; rfl, ((hbel.trans (hb2.mono (by omega))).trans (hb3.mono (by omega))).trans (hb4.mono (by omega))⟩
        rw [if_neg hn'] at hstep
        have hn0' : ((n' : Int) == 0) = false := by simp [hn']
        have hnp' : 0 < n' := by omega
        clear hn'
        by_cases hch : charB c' = false
        · rw [if_pos hch] at hstep
          have hv : Hid (V = ([], k, 21)) := by
            show _ = _
            rw [hjo.out, undoL_bad _ _ hnn.out _ hstep, joinU_bad _ _ _ (by decide)]
          clear hstep
          go_wp2_with (first | (go_at_call 77; refine (Next_as (s.extract k s.size) wr (by unfold maxLen; omega) 38 n hq).mono ?_; rintro e w2 ⟨rfl, hb2⟩) | (go_at_call 116; refine (reference_as (s.extract k s.size) _ (by unfold maxLen; omega) c' n' hr).mono ?_; rintro e w3 ⟨rfl, hb3⟩) | (go_at_call 103; refine (Put_any _ _).mono ?_; rintro e w4 ⟨rfl, hb4⟩))
          go_ret3
          have hz2 := hb2.size; have hz3 := hb3.size
          exact ⟨by rw [hv.out]; rfl, ((hbel.trans (hb2.mono (by omega))).trans (hb3.mono (by omega))).trans (hb4.mono (by omega))⟩
        · rw [if_neg hch] at hstep
          have hch' : charB c' = true := by simpa using hch
          have HS := Lib.hid hstep
          have hpl := putF_len c'
          clear hstep hch
          go_wp2_with (first | (go_at_call 77; refine (Next_as (s.extract k s.size) wr (by unfold maxLen; omega) 38 n hq).mono ?_; rintro e w2 ⟨rfl, hb2⟩) | (go_at_call 116; refine (reference_as (s.extract k s.size) _ (by unfold maxLen; omega) c' n' hr).mono ?_; rintro e w3 ⟨rfl, hb3⟩) | (go_at_call 103; refine (Put_any _ _).mono ?_; rintro e w4 ⟨rfl, hb4⟩))
          have hz2 := hb2.size; have hz4 := hb4.size; have hz3 := hb3.size
          have hB4 := builder_below (builder_below (builder_below hB hb2) hb3) hb4
          go_wp2_with (go_at_call 53; refine (Try.Builder_WriteString _ _ _ _ _ hB4 ?hlen1 (by omega)).mono ?_)
          case hlen1 => rw [Lib.byteCells_length]; show acc.length + (putF c').toArray.size ≤ _; simp; omega
          rintro e w5 ⟨rfl, hB5, hb5⟩
          have hz5 := hb5.size
          go_wp2
          go_roundw
          case rel =>
            refine ⟨k + n', acc ++ putF c', by go_num, by omega, ?_, ?_, ?_, ?_, by omega⟩
            · show _ = _
              rw [hjo.out, undoL_step _ _ hnn.out _ _ HS.out, joinU_join, List.drop_drop]
            · rw [List.length_append]; omega
            · rw [Lib.byteCells_append]; exact .inr hB5
            · exact (((hbel.trans (hb2.mono (by omega))).trans (hb3.mono (by omega))).trans (hb4.mono (by omega))).trans hb5
          case measure => simp [intOf]; omega
      have hstep := stepL_put (v := true) hq.out hnp (by omega) (by simp; omega) hc38
      rw [hx.out] at hstep
      have hb60 : (c == 60) = false := by simp; omega
      have hb62 : (c == 62) = false := by simp; omega
      have hb13 : (c == 13) = false := by simp; omega
      have hb34 : (c == 34) = false := by simp; omega
      have hb9 : (c == 9) = false := by simp; omega
      have hb10 : (c == 10) = false := by simp; omega
      have hb38 : (c == 38) = false := by simp; omega
      clear hc60 hc62 hc13 hc34 hc9 hc10 hc38
      by_cases hch : charB c = false
      · rw [if_pos hch] at hstep
        have hv : Hid (V = ([], k, 21)) := by
          show _ = _
          rw [hjo.out, undoL_bad _ _ hnn.out _ hstep, joinU_bad _ _ _ (by decide)]
        clear hstep
        go_wp2_with (first | (go_at_call 77; refine (Next_as (s.extract k s.size) wr (by unfold maxLen; omega) c n hq).mono ?_; rintro e w2 ⟨rfl, hb2⟩) | (go_at_call 103; refine (Put_any _ _).mono ?_; rintro e w4 ⟨rfl, hb4⟩))
        go_ret3
        have hz2 := hb2.size
        exact ⟨by rw [hv.out]; rfl, (hbel.trans (hb2.mono (by omega))).trans (hb4.mono (by omega))⟩
      · rw [if_neg hch] at hstep
        have hch' : charB c = true := by simpa using hch
        have HS := Lib.hid hstep
        have hpl := putF_len c
        clear hstep hch
        go_wp2_with (first | (go_at_call 77; refine (Next_as (s.extract k s.size) wr (by unfold maxLen; omega) c n hq).mono ?_; rintro e w2 ⟨rfl, hb2⟩) | (go_at_call 103; refine (Put_any _ _).mono ?_; rintro e w4 ⟨rfl, hb4⟩))
        have hz2 := hb2.size; have hz4 := hb4.size; skip
        have hB4 := builder_below (builder_below hB hb2) hb4
        go_wp2_with (go_at_call 53; refine (Try.Builder_WriteString _ _ _ _ _ hB4 ?hlen2 (by omega)).mono ?_)
        case hlen2 => rw [Lib.byteCells_length]; show acc.length + (putF c).toArray.size ≤ _; simp; omega
        rintro e w5 ⟨rfl, hB5, hb5⟩
        have hz5 := hb5.size
        go_wp2
        go_roundw
        case rel =>
          refine ⟨k + n, acc ++ putF c, by go_num, by omega, ?_, ?_, ?_, ?_, by omega⟩
          · show _ = _
            rw [hjo.out, undoL_step _ _ hnn.out _ _ HS.out, joinU_join, List.drop_drop]
          · rw [List.length_append]; omega
          · rw [Lib.byteCells_append]; exact .inr hB5
          · exact ((hbel.trans (hb2.mono (by omega))).trans (hb4.mono (by omega))).trans hb5
        case measure => simp [intOf]; omega
    · have hk : k = s.size := by omega
      have hv : Hid (V = (acc, s.size, 0)) := by
        have : s.data.toList.drop k = [] := List.drop_eq_nil_of_le (by rw [HL.out]; omega)
        show _ = _
        rw [hjo.out, this, undoL_nil, hk]; simp [joinU]
      clear hk
      go_wp2_with (go_at_call 57; refine (Try.Builder_String _ _ _ _ hB (by omega)).mono ?_; rintro e w2 ⟨rfl, hb2⟩)
      go_ret3
      exact ⟨by rw [hv.out]; rfl, hbel.trans hb2⟩

set_option maxRecDepth 100000 in
set_option maxHeartbeats 4000000 in
theorem Undo_false (s : ByteArray) (w : World) (hs : s.size ≤ 1099511627776) (V : List UInt8 × Nat × Int) (hV : Hid (V = undoL false s.data.toList)) :
    Calls Try.prog 96 #[.string s, .bool false] w (Ret w (.tuple #[.string ⟨V.1.toArray⟩, .int .i64 (V.2.1 : Nat), .int .i64 V.2.2])) := by
  go_enter Try.func96, Try.ntmps96
  go_wp2_with fail
  go_loopw [8] (fun av wr => ∃ (k : Nat) (acc : List UInt8), av = .int .i64 k ∧ k ≤ s.size ∧ Hid (V = joinU acc k (undoL false (s.data.toList.drop k))) ∧ acc.length ≤ 4 * k ∧
      Lib.IsBuilder 80 5 w.heap.size w.heap.size (Lib.byteCells acc) wr ∧ Below w.heap.size w wr ∧ w.heap.size < wr.heap.size) (fun av _ => s.size - (intOf av).toNat)
  case atStart =>
    refine ⟨0, [], rfl, Nat.zero_le _, ?_, by simp, builder_new _ _ _, (Below.refl _ _).alloc (Nat.le_refl _) _, by simp⟩
    show _ = _
    rw [hV.out, List.drop_zero, joinU_nil _ (undoL_shape _ _)]
  case round =>
    obtain ⟨k, acc, rfl, hks, hjo, hal, hB, hbel, hlt⟩ := hrel
    have HL := Lib.hid (size_toList s)
    by_cases hend : k < s.size
    · have hx : Hid ((s.extract k s.size).data.toList = s.data.toList.drop k) := Lib.extract_to_end s k
      have hxs : (s.extract k s.size).size = s.size - k := by simp
      have hnn : Hid (s.data.toList.drop k ≠ []) := by
        intro h
        have := congrArg List.length h
        rw [List.length_drop, HL.out] at this
        simp at this; omega
      have hszl : (s.extract k s.size).size ≤ 1099511627776 := by omega
      have HXS := Lib.hid hxs
      clear hxs
      obtain ⟨c, n, hq⟩ : ∃ c n, Hid (nextL (s.extract k s.size).data.toList = (c, n)) := ⟨_, _, rfl⟩
      have hle := nextL_le (s.extract k s.size).data.toList
      rw [hq.out, hx.out, List.length_drop, HL.out] at hle
      obtain ⟨hn1, hn4⟩ := hle
      simp only at hn1 hn4
      by_cases hn : n = 0
      · have hv : Hid (V = ([], k, 21)) := by
          have := stepL_no (v := false) hq.out hn
          rw [hx.out] at this
          show _ = _
          rw [hjo.out, undoL_bad _ _ hnn.out _ this, joinU_bad _ _ _ (by decide)]
        have hn0 : ((n : Int) == 0) = true := by simp [hn]
        have hnz : n ≤ 0 := by omega
        clear hn
        go_wp2_with (go_at_call 77; refine (Next_as (s.extract k s.size) wr (by unfold maxLen; omega) c n hq).mono ?_; rintro e w2 ⟨rfl, hb2⟩)
        go_ret3
        exact ⟨by rw [hv.out]; rfl, hbel.trans (hb2.mono (by omega))⟩
      have hnp : 0 < n := by omega
      have hn0 : ((n : Int) == 0) = false := by simp [hn]
      clear hn
      by_cases hc60 : c = 60
      · subst hc60
        have hv : Hid (V = ([], k, 20)) := by
          have := stepL_lt (v := false) hq.out hnp (.inl rfl)
          rw [hx.out] at this
          show _ = _
          rw [hjo.out, undoL_bad _ _ hnn.out _ this, joinU_bad _ _ _ (by decide)]
        go_wp2_with (go_at_call 77; refine (Next_as (s.extract k s.size) wr (by unfold maxLen; omega) 60 n hq).mono ?_; rintro e w2 ⟨rfl, hb2⟩)
        go_ret3
        exact ⟨by rw [hv.out]; rfl, hbel.trans (hb2.mono (by omega))⟩
      by_cases hc62 : c = 62
      · subst hc62
        have hv : Hid (V = ([], k, 20)) := by
          have := stepL_lt (v := false) hq.out hnp (.inr rfl)
          rw [hx.out] at this
          show _ = _
          rw [hjo.out, undoL_bad _ _ hnn.out _ this, joinU_bad _ _ _ (by decide)]
        go_wp2_with (go_at_call 77; refine (Next_as (s.extract k s.size) wr (by unfold maxLen; omega) 62 n hq).mono ?_; rintro e w2 ⟨rfl, hb2⟩)
        go_ret3
        exact ⟨by rw [hv.out]; rfl, hbel.trans (hb2.mono (by omega))⟩
      by_cases hc13 : c = 13
      · subst hc13
        have hv : Hid (V = ([], k, 21)) := by
          have := stepL_13 (v := false) hq.out (.inl rfl)
          rw [hx.out] at this
          show _ = _
          rw [hjo.out, undoL_bad _ _ hnn.out _ this, joinU_bad _ _ _ (by decide)]
        go_wp2_with (go_at_call 77; refine (Next_as (s.extract k s.size) wr (by unfold maxLen; omega) 13 n hq).mono ?_; rintro e w2 ⟨rfl, hb2⟩)
        go_ret3
        exact ⟨by rw [hv.out]; rfl, hbel.trans (hb2.mono (by omega))⟩
      by_cases hc38 : c = 38
      · subst hc38
        obtain ⟨c', n', hr⟩ : ∃ c' n', Hid (refL (s.extract k s.size).data.toList = (c', n')) := ⟨_, _, rfl⟩
        have hrl := refL_le (s.extract k s.size).data.toList
        rw [hr.out, hx.out, List.length_drop, HL.out] at hrl
        simp only at hrl
        have hstep := stepL_ref (v := false) hq.out hnp hr.out
        rw [hx.out] at hstep
        by_cases hn' : n' = 0
        · rw [if_pos hn'] at hstep
          have hv : Hid (V = ([], k, 20)) := by
            show _ = _
            rw [hjo.out, undoL_bad _ _ hnn.out _ hstep, joinU_bad _ _ _ (by decide)]
          have hn0' : ((n' : Int) == 0) = true := by simp [hn']
          clear hn' hstep
          go_wp2_with (first | (go_at_call 77; refine (Next_as (s.extract k s.size) wr (by unfold maxLen; omega) 38 n hq).mono ?_; rintro e w2 ⟨rfl, hb2⟩) | (go_at_call 116; refine (reference_as (s.extract k s.size) _ (by unfold maxLen; omega) c' n' hr).mono ?_; rintro e w3 ⟨rfl, hb3⟩) | (go_at_call 103; refine (Put_any _ _).mono ?_; rintro e w4 ⟨rfl, hb4⟩))
          go_ret3
          have hz2 := hb2.size; have hz3 := hb3.size
          exact ⟨by rw [hv.out]; rfl, ((hbel.trans (hb2.mono (by omega))).trans (hb3.mono (by omega))).trans (hb4.mono (by omega))⟩
        rw [if_neg hn'] at hstep
        have hn0' : ((n' : Int) == 0) = false := by simp [hn']
        have hnp' : 0 < n' := by omega
        clear hn'
        by_cases hch : charB c' = false
        · rw [if_pos hch] at hstep
          have hv : Hid (V = ([], k, 21)) := by
            show _ = _
            rw [hjo.out, undoL_bad _ _ hnn.out _ hstep, joinU_bad _ _ _ (by decide)]
          clear hstep
          go_wp2_with (first | (go_at_call 77; refine (Next_as (s.extract k s.size) wr (by unfold maxLen; omega) 38 n hq).mono ?_; rintro e w2 ⟨rfl, hb2⟩) | (go_at_call 116; refine (reference_as (s.extract k s.size) _ (by unfold maxLen; omega) c' n' hr).mono ?_; rintro e w3 ⟨rfl, hb3⟩) | (go_at_call 103; refine (Put_any _ _).mono ?_; rintro e w4 ⟨rfl, hb4⟩))
          go_ret3
          have hz2 := hb2.size; have hz3 := hb3.size
          exact ⟨by rw [hv.out]; rfl, ((hbel.trans (hb2.mono (by omega))).trans (hb3.mono (by omega))).trans (hb4.mono (by omega))⟩
        · rw [if_neg hch] at hstep
          have hch' : charB c' = true := by simpa using hch
          have HS := Lib.hid hstep
          have hpl := putF_len c'
          clear hstep hch
          go_wp2_with (first | (go_at_call 77; refine (Next_as (s.extract k s.size) wr (by unfold maxLen; omega) 38 n hq).mono ?_; rintro e w2 ⟨rfl, hb2⟩) | (go_at_call 116; refine (reference_as (s.extract k s.size) _ (by unfold maxLen; omega) c' n' hr).mono ?_; rintro e w3 ⟨rfl, hb3⟩) | (go_at_call 103; refine (Put_any _ _).mono ?_; rintro e w4 ⟨rfl, hb4⟩))
          have hz2 := hb2.size; have hz4 := hb4.size; have hz3 := hb3.size
          have hB4 := builder_below (builder_below (builder_below hB hb2) hb3) hb4
          go_wp2_with (go_at_call 53; refine (Try.Builder_WriteString _ _ _ _ _ hB4 ?hlen1 (by omega)).mono ?_)
          case hlen1 => rw [Lib.byteCells_length]; show acc.length + (putF c').toArray.size ≤ _; simp; omega
          rintro e w5 ⟨rfl, hB5, hb5⟩
          have hz5 := hb5.size
          go_wp2
          go_roundw
          case rel =>
            refine ⟨k + n', acc ++ putF c', by go_num, by omega, ?_, ?_, ?_, ?_, by omega⟩
            · show _ = _
              rw [hjo.out, undoL_step _ _ hnn.out _ _ HS.out, joinU_join, List.drop_drop]
            · rw [List.length_append]; omega
            · rw [Lib.byteCells_append]; exact .inr hB5
            · exact (((hbel.trans (hb2.mono (by omega))).trans (hb3.mono (by omega))).trans (hb4.mono (by omega))).trans hb5
          case measure => simp [intOf]; omega
      have hstep := stepL_put (v := false) hq.out hnp (by omega) (by simp; omega) hc38
      rw [hx.out] at hstep
      have hb60 : (c == 60) = false := by simp; omega
      have hb62 : (c == 62) = false := by simp; omega
      have hb13 : (c == 13) = false := by simp; omega
      have hb38 : (c == 38) = false := by simp; omega
      clear hc60 hc62 hc13 hc38
      by_cases hch : charB c = false
      · rw [if_pos hch] at hstep
        have hv : Hid (V = ([], k, 21)) := by
          show _ = _
          rw [hjo.out, undoL_bad _ _ hnn.out _ hstep, joinU_bad _ _ _ (by decide)]
        clear hstep
        go_wp2_with (first | (go_at_call 77; refine (Next_as (s.extract k s.size) wr (by unfold maxLen; omega) c n hq).mono ?_; rintro e w2 ⟨rfl, hb2⟩) | (go_at_call 103; refine (Put_any _ _).mono ?_; rintro e w4 ⟨rfl, hb4⟩))
        go_ret3
        have hz2 := hb2.size
        exact ⟨by rw [hv.out]; rfl, (hbel.trans (hb2.mono (by omega))).trans (hb4.mono (by omega))⟩
      · rw [if_neg hch] at hstep
        have hch' : charB c = true := by simpa using hch
        have HS := Lib.hid hstep
        have hpl := putF_len c
        clear hstep hch
        go_wp2_with (first | (go_at_call 77; refine (Next_as (s.extract k s.size) wr (by unfold maxLen; omega) c n hq).mono ?_; rintro e w2 ⟨rfl, hb2⟩) | (go_at_call 103; refine (Put_any _ _).mono ?_; rintro e w4 ⟨rfl, hb4⟩))
        have hz2 := hb2.size; have hz4 := hb4.size; skip
        have hB4 := builder_below (builder_below hB hb2) hb4
        go_wp2_with (go_at_call 53; refine (Try.Builder_WriteString _ _ _ _ _ hB4 ?hlen2 (by omega)).mono ?_)
        case hlen2 => rw [Lib.byteCells_length]; show acc.length + (putF c).toArray.size ≤ _; simp; omega
        rintro e w5 ⟨rfl, hB5, hb5⟩
        have hz5 := hb5.size
        go_wp2
        go_roundw
        case rel =>
          refine ⟨k + n, acc ++ putF c, by go_num, by omega, ?_, ?_, ?_, ?_, by omega⟩
          · show _ = _
            rw [hjo.out, undoL_step _ _ hnn.out _ _ HS.out, joinU_join, List.drop_drop]
          · rw [List.length_append]; omega
          · rw [Lib.byteCells_append]; exact .inr hB5
          · exact ((hbel.trans (hb2.mono (by omega))).trans (hb4.mono (by omega))).trans hb5
        case measure => simp [intOf]; omega
    · have hk : k = s.size := by omega
      have hv : Hid (V = (acc, s.size, 0)) := by
        have : s.data.toList.drop k = [] := List.drop_eq_nil_of_le (by rw [HL.out]; omega)
        show _ = _
        rw [hjo.out, this, undoL_nil, hk]; simp [joinU]
      clear hk
      go_wp2_with (go_at_call 57; refine (Try.Builder_String _ _ _ _ hB (by omega)).mono ?_; rintro e w2 ⟨rfl, hb2⟩)
      go_ret3
      exact ⟨by rw [hv.out]; rfl, hbel.trans hb2⟩

theorem Undo_any (s : ByteArray) (v : Bool) (w : World) (hs : s.size ≤ 1099511627776) :
    Calls Try.prog 96 #[.string s, .bool v] w (Ret w (.tuple #[.string ⟨(undoL v s.data.toList).1.toArray⟩, .int .i64 ((undoL v s.data.toList).2.1 : Nat), .int .i64 (undoL v s.data.toList).2.2])) := by
  cases v
  · exact Undo_false s w hs _ rfl
  · exact Undo_true s w hs _ rfl
end Go.Proofs.Ythifddkmbjnncaa
