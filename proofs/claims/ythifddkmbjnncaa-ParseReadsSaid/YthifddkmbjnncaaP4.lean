/-
  Texts of this claim, joined (by a program of the claim's author): SortPlain, LexLaw, Rd2, OwnS, OwnA.
-/
import Derived.Test.YthifddkmbjnncaaP3
import Derived.Lib.Bytealg
import Derived.Sort.Statements
import Derived.Test.YthifddkmbjnncaaP1
import Derived.Deep.LoopGhost
import Derived.Test.YthifddkmbjnncaaP2
import Derived.Laws.OwnMore
import Derived.Laws.StructEq
/-
  The plain law of attributes by rising names: no program in sight.
-/
namespace Go.Proofs.Ythifddkmbjnncaa

theorem less_lt : ∀ (x y : List UInt8), Op.bytesLess x y = decide (x < y)
  | [], [] => by simp [Op.bytesLess]
  | _ :: _, [] => by simp [Op.bytesLess]
  | [], _ :: _ => by simp [Op.bytesLess]
  | a :: x, b :: y => by
    rw [Op.bytesLess, less_lt x y]
    simp only [List.cons_lt_cons_iff]
    by_cases h1 : a < b <;> by_cases h2 : a = b <;> by_cases h3 : x < y <;> simp [h1, h2, h3]

theorem less_irrefl (x : List UInt8) : Op.bytesLess x x = false := by
  rw [less_lt]; exact decide_eq_false (List.lt_irrefl x)
theorem less_trans {x y z : List UInt8} (h : Op.bytesLess x y = true) (h' : Op.bytesLess y z = true) : Op.bytesLess x z = true := by
  rw [less_lt] at *
  exact decide_eq_true (List.lt_trans (of_decide_eq_true h) (of_decide_eq_true h'))
theorem less_tri {x y : List UInt8} (h : Op.bytesLess x y = false) (h' : Op.bytesLess y x = false) : x = y := by
  rw [less_lt] at *
  have h1 := of_decide_eq_false h
  have h2 := of_decide_eq_false h'
  exact List.le_antisymm (List.not_lt.1 h2) (List.not_lt.1 h1)
theorem less_asymm {x y : List UInt8} (h : Op.bytesLess x y = true) : Op.bytesLess y x = false := by
  cases h' : Op.bytesLess y x with
  | false => rfl
  | true => have := less_trans h h'; rw [less_irrefl] at this; cases this
theorem less_ne {x y : List UInt8} (h : Op.bytesLess x y = true) : x ≠ y := by
  intro e; subst e; rw [less_irrefl] at h; cases h
theorem less_ntrans {x y z : List UInt8} (h : Op.bytesLess x y = false) (h' : Op.bytesLess y z = false) : Op.bytesLess x z = false := by
  cases hz : Op.bytesLess x z with
  | false => rfl
  | true =>
    cases hyx : Op.bytesLess y x with
    | true => rw [less_trans hyx hz] at h'; cases h'
    | false => rw [less_tri h hyx] at hz; rw [hz] at h'; cases h'

theorem cmp_less : ∀ (x y : List UInt8), decide (Lib.compareBytes x y < 0) = Op.bytesLess x y
  | [], [] => by simp [Op.bytesLess, Lib.compareBytes]
  | _ :: _, [] => by simp [Op.bytesLess, Lib.compareBytes]
  | [], _ :: _ => by simp [Op.bytesLess, Lib.compareBytes]
  | a :: x, b :: y => by
    rw [Op.bytesLess, Lib.compareBytes, ← cmp_less x y]
    by_cases h1 : a < b
    · simp [h1]
    · by_cases h2 : b < a
      · have h3 : a ≠ b := by intro e; subst e; exact h1 h2
        simp [h1, h2, h3]
      · have h3 : a = b := by
          have h4 := UInt8.not_lt.1 h1
          have h5 := UInt8.not_lt.1 h2
          exact UInt8.le_antisymm h5 h4
        subst h3
        simp

def nameC (a b : AttrD) : Int := Lib.compareBytes a.name b.name
theorem nameC_swo : Sort.SWO (fun a b : AttrD => decide (nameC a b < 0)) where
  irrefl x := by unfold nameC; simp only [cmp_less]; exact less_irrefl _
  trans x y z := by unfold nameC; simp only [cmp_less]; exact less_trans
  ntrans x y z := by unfold nameC; simp only [cmp_less]; exact less_ntrans

def Rise (l : List AttrD) : Prop := l.Pairwise fun a b => Op.bytesLess a.name b.name = true
def Apart (l : List AttrD) : Prop := l.Pairwise fun a b => a.name ≠ b.name

theorem insA_perm (a : AttrD) : ∀ l : List AttrD, (insA a l).Perm (a :: l)
  | [] => List.Perm.refl _
  | b :: r => by
    rw [insA]
    split
    · exact List.Perm.refl _
    · exact ((insA_perm a r).cons b).trans (List.Perm.swap a b r)
theorem sortA_snoc (l : List AttrD) (a : AttrD) : sortA (l ++ [a]) = insA a (sortA l) := by simp [sortA]
theorem fold_perm : ∀ (l o : List AttrD), (l.foldl (fun o a => insA a o) o).Perm (o ++ l)
  | [], o => by simp
  | a :: l, o => by
    rw [List.foldl_cons]
    refine (fold_perm l (insA a o)).trans ?_
    refine ((insA_perm a o).append_right l).trans ?_
    simp only [List.cons_append]
    exact List.perm_middle.symm
theorem sortA_perm (l : List AttrD) : (sortA l).Perm l := by
  have := fold_perm l []
  simpa [sortA] using this
theorem insA_rise {a : AttrD} : ∀ {l : List AttrD}, Rise l → (∀ b ∈ l, b.name ≠ a.name) → Rise (insA a l)
  | [], _, _ => by unfold Rise insA; simp
  | b :: r, h, hn => by
    obtain ⟨hb, hr⟩ := List.pairwise_cons.1 h
    rw [insA]
    split
    · rename_i hl
      refine List.pairwise_cons.2 ⟨fun c hc => ?_, h⟩
      rcases List.mem_cons.1 hc with rfl | hc
      · exact hl
      · exact less_trans hl (hb c hc)
    · rename_i hl
      have hba : Op.bytesLess b.name a.name = true := by
        cases hba : Op.bytesLess b.name a.name with
        | true => rfl
        | false => exact absurd (less_tri hba (by simpa using hl)) (hn b (by simp))
      refine List.pairwise_cons.2 ⟨fun c hc => ?_, insA_rise hr (fun c hc => hn c (by simp [hc]))⟩
      rcases List.mem_cons.1 ((insA_perm a r).mem_iff.1 hc) with rfl | hc
      · exact hba
      · exact hb c hc
theorem fold_rise : ∀ (l o : List AttrD), Rise o → Apart l → (∀ a ∈ l, ∀ b ∈ o, b.name ≠ a.name) → Rise (l.foldl (fun o a => insA a o) o)
  | [], o, h, _, _ => h
  | a :: l, o, h, hl, hn => by
    obtain ⟨h1, h2⟩ := List.pairwise_cons.1 hl
    rw [List.foldl_cons]
    refine fold_rise l _ (insA_rise h (hn a (by simp))) h2 (fun c hc b hb => ?_)
    rcases List.mem_cons.1 ((insA_perm a o).mem_iff.1 hb) with rfl | hb
    · exact h1 c hc
    · exact hn c (by simp [hc]) b hb
theorem sortA_rise {l : List AttrD} (h : Apart l) : Rise (sortA l) := fold_rise l [] List.Pairwise.nil h (fun _ _ _ hb => by cases hb)

theorem rise_unique {l d : List AttrD} (hp : d.Perm l) (hl : Rise l) (hd : d.Pairwise fun a b => Op.bytesLess b.name a.name = false) : d = l := by
  refine List.Perm.eq_of_pairwise (le := fun a b => Op.bytesLess b.name a.name = false) (fun a b ha hb h1 h2 => ?_) hd (hl.imp fun h => less_asymm h) hp
  have hn := less_tri h2 h1
  have ha' := hp.mem_iff.1 ha
  obtain ⟨i, hi, ei⟩ := List.mem_iff_getElem.1 ha'
  obtain ⟨j, hj, ej⟩ := List.mem_iff_getElem.1 hb
  rcases Nat.lt_trichotomy i j with h | h | h
  · have := List.pairwise_iff_getElem.1 hl i j hi hj h
    rw [ei, ej, hn, less_irrefl] at this; cases this
  · subst h; rw [← ei, ← ej]
  · have := List.pairwise_iff_getElem.1 hl j i hj hi h
    rw [ei, ej, hn, less_irrefl] at this; cases this
theorem sort_unique {l d : List AttrD} (hp : d.Perm l) (hl : Apart l) (hd : d.Pairwise fun a b => Op.bytesLess b.name a.name = false) : d = sortA l :=
  rise_unique (hp.trans (sortA_perm l).symm) (sortA_rise hl) hd
instance : Inhabited AttrD := ⟨⟨[], []⟩⟩
theorem sorted_list {d d' : Array AttrD} (hp : Sort.PermIn 0 d.size d d') (hs : Sort.SortedIn (fun a b : AttrD => decide (nameC a b < 0)) 0 d.size d') (hl : Apart d.toList) : d'.toList = sortA d.toList := by
  obtain ⟨h1, _, h3⟩ := hp
  have e1 : d'.extract 0 d.size = d' := by rw [← h1, Array.extract_size]
  have e2 : d.extract 0 d.size = d := Array.extract_size
  rw [e1, e2] at h3
  refine sort_unique h3 hl (List.pairwise_iff_getElem.2 fun i j hi hj hij => ?_)
  have := hs i j (Nat.zero_le _) hij (by simp at hj; omega)
  unfold nameC at this
  simp only [cmp_less] at this
  simp only [Array.length_toList] at hi hj
  rw [getElem!_pos d' i hi, getElem!_pos d' j hj] at this
  simpa using this

/-! ## What is told of attributes -/
theorem any_name {bs : List AttrD} {n : List UInt8} (h : bs.any (fun a => decide (a.name = n)) = false) : ∀ b ∈ bs, b.name ≠ n := by
  intro b hb e
  have := List.any_eq_false.1 h b hb
  simp [e] at this
theorem apart_snoc {bs : List AttrD} {a : AttrD} (h : Apart bs) (hn : ∀ b ∈ bs, b.name ≠ a.name) : Apart (bs ++ [a]) := by
  refine List.pairwise_append.2 ⟨h, List.pairwise_singleton _ _, fun x hx y hy => ?_⟩
  simp at hy; subst hy; exact hn x hx

/-- what each of the attributes is made of -/
structure AttrFine (a : AttrD) : Prop where
  name : nameL a.name = true
  value : ∃ l, (undoL true l).2.2 = 0 ∧ (undoL true l).1 = a.value
  long : a.value.length ≤ 1500

theorem attrL_fine {l : List UInt8} {bs : List AttrD} {a : AttrD} {n : Nat} (h : attrL l bs = .ok a n) : AttrFine a ∧ bs.length < 20 ∧ ∀ b ∈ bs, b.name ≠ a.name := by
  unfold attrL at h
  simp only at h
  split at h
  · cases h
  rename_i h1
  split at h
  · cases h
  rename_i h2
  split at h
  · cases h
  rename_i h3
  split at h
  · cases h
  split at h
  · cases h
  unfold valueT at h
  simp only at h
  split at h
  · cases h
  split at h
  · cases h
  rename_i h4
  split at h
  · cases h
  rename_i h5
  injection h with h _
  subst h
  exact ⟨⟨by simpa using h1, ⟨_, by simpa using h4, rfl⟩, by simpa using h5⟩, by omega, any_name (by simpa using h3)⟩

structure AttrsFine (bs : List AttrD) : Prop where
  apart : Apart bs
  all : ∀ a ∈ bs, AttrFine a
  many : bs.length ≤ 20

theorem attrsFine_nil : AttrsFine [] := ⟨List.Pairwise.nil, fun _ h => (by cases h), by simp⟩
theorem attrsFine_snoc {l : List UInt8} {bs : List AttrD} {a : AttrD} {n : Nat} (hf : AttrsFine bs) (h : attrL l bs = .ok a n) : AttrsFine (bs ++ [a]) := by
  obtain ⟨h1, h2, h3⟩ := attrL_fine h
  refine ⟨apart_snoc hf.apart h3, fun b hb => ?_, by simp; omega⟩
  rcases List.mem_append.1 hb with hb | hb
  · exact hf.all b hb
  · simp at hb; subst hb; exact h1
theorem attrsF_fine : ∀ (f : Nat) (l : List UInt8) (bs : List AttrD) (q : Int × List AttrD) (n : Nat), AttrsFine bs → attrsF f l bs = .ok q n → AttrsFine q.2 ∧ (q.1 = 1 ∨ q.1 = 3)
  | 0, _, _, _, _, _, h => by cases h
  | f + 1, l, bs, q, n, hf, h => by
    rw [attrsF] at h
    split at h
    · injection h with h _; subst h; exact ⟨hf, .inl rfl⟩
    split at h
    · injection h with h _; subst h; exact ⟨hf, .inr rfl⟩
    split at h
    · cases h
    cases ha : attrL (l.drop (skipL l)) bs with
    | bad k e => rw [ha] at h; cases h
    | ok a m =>
      rw [ha] at h
      simp only at h
      cases hq : attrsF f ((l.drop (skipL l)).drop m) (bs ++ [a]) with
      | bad k e => rw [hq] at h; cases h
      | ok r k =>
        rw [hq] at h
        injection h with h _
        subst h
        exact attrsF_fine f _ _ _ _ (attrsFine_snoc hf ha) hq
theorem attrsL_fine {l : List UInt8} {bs : List AttrD} {q : Int × List AttrD} {n : Nat} (hf : AttrsFine bs) (h : attrsL l bs = .ok q n) : AttrsFine q.2 ∧ (q.1 = 1 ∨ q.1 = 3) := attrsF_fine _ _ _ _ _ hf h
end Go.Proofs.Ythifddkmbjnncaa

/-
  The plain laws of tokens: what stands behind, blanks, rows, parts: no program in sight.
-/
namespace Go.Proofs.Ythifddkmbjnncaa

/-! ## What stands behind is no matter -/
theorem takeWhile_more {α : Type} (p : α → Bool) : ∀ (l m : List α), (l.takeWhile p).length < l.length → (l ++ m).takeWhile p = l.takeWhile p
  | [], _, h => by simp at h
  | a :: l, m, h => by
    rw [List.cons_append, List.takeWhile_cons, List.takeWhile_cons] at *
    split
    · rename_i hp
      rw [if_pos hp] at h
      rw [takeWhile_more p l m (by simp at h; omega)]
    · rfl
theorem takeWhile_stop {α : Type} (p : α → Bool) : ∀ (l : List α) (m : List α), (∀ x t, m = x :: t → p x = false) → (l ++ m).takeWhile p = l.takeWhile p
  | [], [], _ => rfl
  | [], x :: t, h => by rw [List.nil_append, List.takeWhile_cons, h x t rfl]; rfl
  | a :: l, m, h => by
    rw [List.cons_append, List.takeWhile_cons, List.takeWhile_cons]
    split
    · rw [takeWhile_stop p l m h]
    · rfl
theorem takeWhile_twice {α : Type} (p : α → Bool) : ∀ l : List α, (l.takeWhile p).takeWhile p = l.takeWhile p
  | [] => rfl
  | a :: l => by
    rw [List.takeWhile_cons]
    split
    · rename_i h; rw [List.takeWhile_cons, if_pos h, takeWhile_twice p l]
    · rfl
theorem pre_more {p l m : List UInt8} (h : p.length ≤ l.length) : pre p (l ++ m) = pre p l := by
  unfold pre; rw [List.take_append_of_le_length h]
theorem drop_more {α : Type} {l : List α} {k : Nat} (m : List α) (h : k ≤ l.length) : (l ++ m).drop k = l.drop k ++ m := List.drop_append_of_le_length h

theorem wordL_more {l : List UInt8} (m : List UInt8) (h : (wordL l).length < l.length) : wordL (l ++ m) = wordL l := takeWhile_more _ _ _ h
theorem skipL_more {l : List UInt8} (m : List UInt8) (h : skipL l < l.length) : skipL (l ++ m) = skipL l := by
  unfold skipL; rw [takeWhile_more _ _ _ h]

theorem endT_more {l : List UInt8} {t : TokD} {n : Nat} (m : List UInt8) (h : endT l = .ok t n) : endT (l ++ m) = .ok t n := by
  have h0 := h
  unfold endT at h
  simp only at h
  split at h
  · cases h
  split at h
  · rename_i h1 h2
    have hk := pre1_len h2
    have hw := wordL_len l
    have e1 : wordL (l ++ m) = wordL l := wordL_more m (by omega)
    have e2 : skipL ((l ++ m).drop (wordL l).length) = skipL (l.drop (wordL l).length) := by
      rw [drop_more m hw]; exact skipL_more m (by rw [List.length_drop]; omega)
    rw [← h0]
    unfold endT
    simp only [e1, e2]
    rw [drop_more m (by omega), pre_more (by rw [List.length_drop]; simp; omega)]
  · cases h

theorem span_word (l : List UInt8) (p : UInt8 → Bool) : l = l.takeWhile p ++ l.drop (l.takeWhile p).length := by
  have h := List.takeWhile_append_dropWhile (p := p) (l := l)
  have h2 : l.dropWhile p = l.drop (l.takeWhile p).length := by
    conv => rhs; rw [← h]
    rw [show (List.takeWhile p (List.takeWhile p l ++ List.dropWhile p l)) = List.takeWhile p l by rw [h]]
    rw [List.drop_append_of_le_length (Nat.le_refl _), List.drop_length, List.nil_append]
  rw [← h2, h]
theorem pre_cons {c : UInt8} {l : List UInt8} (h : pre [c] l = true) : ∃ t, l = c :: t := by
  cases l with
  | nil => simp [pre] at h
  | cons a t =>
    have := eq_of_beq h
    simp at this
    exact ⟨t, by rw [this]⟩
theorem pre_cons2 {c d : UInt8} {l : List UInt8} (h : pre [c, d] l = true) : ∃ t, l = c :: d :: t := by
  match l, h with
  | [], h => simp [pre] at h
  | [a], h => simp [pre] at h
  | a :: b :: t, h =>
    have := eq_of_beq h
    simp at this
    exact ⟨t, by rw [this.1, this.2]⟩

/-- an attribute: the bytes that it is read of, the last of them a quote -/
theorem attrL_parts {l : List UInt8} {bs : List AttrD} {a : AttrD} {n : Nat} (h : attrL l bs = .ok a n) :
    ∃ u r, l = u ++ [34] ++ r ∧ u.length + 1 = n ∧ ∀ r', attrL (u ++ [34] ++ r') bs = .ok a n := by
  unfold attrL at h
  simp only at h
  split at h
  · cases h
  rename_i h1
  split at h
  · cases h
  rename_i h2
  split at h
  · cases h
  rename_i h3
  split at h
  · cases h
  rename_i h4
  split at h
  · cases h
  rename_i h5
  obtain ⟨t, ht⟩ := pre_cons (by simpa using h4)
  obtain ⟨t', ht'⟩ := pre_cons (by simpa using h5)
  have hl := span_word l nb
  have e1 : l.drop ((wordL l).length + 1) = t := by rw [← List.drop_drop, ht]; rfl
  rw [e1] at ht'
  have e2 : l.drop ((wordL l).length + 2) = t' := by
    rw [show (wordL l).length + 2 = (wordL l).length + 1 + 1 from rfl, ← List.drop_drop, e1, ht']; rfl
  rw [e2] at h
  unfold valueT at h
  simp only at h
  split at h
  · cases h
  rename_i h6
  split at h
  · cases h
  rename_i h7
  split at h
  · cases h
  rename_i h8
  have hv := takeWhile_len (· != 34) t'
  obtain ⟨x, r, hx⟩ : ∃ x r, t'.drop (t'.takeWhile (· != 34)).length = x :: r := by
    cases hd : t'.drop (t'.takeWhile (· != 34)).length with
    | nil => have := congrArg List.length hd; simp at this; omega
    | cons x r => exact ⟨x, r, rfl⟩
  have hsp := span_word t' (· != 34)
  have hx34 : x = 34 := by
    have hd : t'.dropWhile (· != 34) = x :: r := by
      have h' := List.takeWhile_append_dropWhile (p := (· != 34)) (l := t')
      have := h'.trans hsp
      rw [hx] at this
      exact List.append_cancel_left this
    have := List.head?_dropWhile_not (· != 34) t'
    rw [hd] at this
    simpa using this
  subst hx34
  rw [hx] at hsp
  have hfull : l = wordL l ++ 61 :: 34 :: (t'.takeWhile (· != 34)) ++ [34] ++ r := by
    conv => lhs; rw [hl]
    show wordL l ++ l.drop (wordL l).length = _
    rw [ht, ht', hsp]
    simp [hsp.symm]
  refine ⟨wordL l ++ 61 :: 34 :: (t'.takeWhile (· != 34)), r, hfull, ?_, fun r' => ?_⟩
  · injection h with _ h; simp; omega
  · have f0 : ∀ y : List UInt8, (wordL l ++ 61 :: y).takeWhile nb = wordL l := fun y => by
      rw [takeWhile_stop nb _ _ (fun x t e => by injection e with e _; subst e; rfl)]
      unfold wordL
      exact takeWhile_twice nb l
    have g0 : ∀ y : List UInt8, (t'.takeWhile (· != 34) ++ 34 :: y).takeWhile (· != 34) = t'.takeWhile (· != 34) := fun y => by
      rw [takeWhile_stop _ _ _ (fun x t e => by injection e with e _; subst e; rfl)]
      exact takeWhile_twice _ t'
    have f1 : wordL (wordL l ++ 61 :: 34 :: (t'.takeWhile (· != 34)) ++ [34] ++ r') = wordL l := by
      rw [List.append_assoc, List.append_assoc]; exact f0 _
    unfold attrL
    simp only [f1]
    rw [if_neg h1, if_neg h2, if_neg h3]
    have d0 : (wordL l ++ 61 :: 34 :: (t'.takeWhile (· != 34)) ++ [34] ++ r').drop (wordL l).length = 61 :: 34 :: (t'.takeWhile (· != 34) ++ 34 :: r') := by
      rw [List.append_assoc, List.append_assoc, List.drop_append_of_le_length (Nat.le_refl _), List.drop_length]; simp
    have d1 : (wordL l ++ 61 :: 34 :: (t'.takeWhile (· != 34)) ++ [34] ++ r').drop ((wordL l).length + 1) = 34 :: (t'.takeWhile (· != 34) ++ 34 :: r') := by
      rw [← List.drop_drop, d0]; rfl
    have d2 : (wordL l ++ 61 :: 34 :: (t'.takeWhile (· != 34)) ++ [34] ++ r').drop ((wordL l).length + 2) = t'.takeWhile (· != 34) ++ 34 :: r' := by
      rw [show (wordL l).length + 2 = (wordL l).length + 1 + 1 from rfl, ← List.drop_drop, d1]; rfl
    rw [d0, d1, d2, if_neg (by simp [pre]), if_neg (by simp [pre])]
    unfold valueT
    simp only [g0]
    rw [if_neg (by simp), if_neg h7, if_neg h8]
    exact h
theorem attrL_more {l : List UInt8} {bs : List AttrD} {a : AttrD} {n : Nat} (m : List UInt8) (h : attrL l bs = .ok a n) : attrL (l ++ m) bs = .ok a n := by
  obtain ⟨u, r, hl, _, ha⟩ := attrL_parts h
  rw [hl, List.append_assoc]; exact ha _

theorem attrsF_past (m : List UInt8) : ∀ (f g : Nat) (l : List UInt8) (bs : List AttrD) (q : Int × List AttrD) (n : Nat), f ≤ g → attrsF f l bs = .ok q n → attrsF g (l ++ m) bs = .ok q n
  | 0, _, _, _, _, _, _, h => by cases h
  | f + 1, 0, _, _, _, _, hg, _ => by omega
  | f + 1, g + 1, l, bs, q, n, hg, h => by
    have h0 := h
    have hin := attrsF_within (f + 1) l bs
    rw [h] at hin
    rw [attrsF] at h
    have hsk := skipL_len l
    by_cases hb : skipL l = l.length
    · exfalso
      have : l.drop (skipL l) = [] := by rw [hb]; exact List.drop_length
      rw [this] at h
      rw [if_neg (by simp [pre]), if_neg (by simp [pre]), if_pos (.inr rfl)] at h
      cases h
    have e1 : skipL (l ++ m) = skipL l := skipL_more m (by omega)
    have e2 : (l ++ m).drop (skipL l) = l.drop (skipL l) ++ m := drop_more m hsk
    have e3 : pre [62] (l.drop (skipL l) ++ m) = pre [62] (l.drop (skipL l)) := pre_more (by rw [List.length_drop]; simp; omega)
    rw [attrsF]
    simp only [e1, e2, e3]
    split at h
    · rename_i h1; rw [if_pos h1]; exact h
    rename_i h1
    rw [if_neg h1]
    split at h
    · rename_i h2
      rw [pre_more (pre_len h2), if_pos h2]; exact h
    rename_i h2
    split at h
    · cases h
    rename_i h3
    cases ha : attrL (l.drop (skipL l)) bs with
    | bad k e => rw [ha] at h; cases h
    | ok a k =>
      rw [ha] at h
      have hw := attrL_within (l.drop (skipL l)) bs
      rw [ha, List.length_drop] at hw
      obtain ⟨w1, w2⟩ := hw
      rw [pre_more (by rw [List.length_drop]; simp; omega), if_neg h2, if_neg (by
        intro hh
        rcases hh with hh | hh
        · exact h3 (.inl hh)
        · exact h3 (.inr (List.append_eq_nil_iff.1 hh).1))]
      rw [attrL_more m ha]
      simp only at h ⊢
      rw [drop_more m (by rw [List.length_drop]; omega)]
      cases hq : attrsF f ((l.drop (skipL l)).drop k) (bs ++ [a]) with
      | bad k e => rw [hq] at h; cases h
      | ok r j => rw [hq] at h; rw [attrsF_past m f g _ _ _ _ (by omega) hq]; exact h
theorem beginT_more {l : List UInt8} {t : TokD} {n : Nat} (m : List UInt8) (h : beginT l = .ok t n) : beginT (l ++ m) = .ok t n := by
  unfold beginT at h
  simp only at h
  split at h
  · cases h
  rename_i h1
  cases hq : attrsF (l.length + 1) (l.drop (wordL l).length) [] with
  | bad k e => rw [hq] at h; cases h
  | ok q k =>
    rw [hq] at h
    have hw := attrsF_within (l.length + 1) (l.drop (wordL l).length) []
    rw [hq, List.length_drop] at hw
    obtain ⟨w1, w2⟩ := hw
    have e1 : wordL (l ++ m) = wordL l := wordL_more m (by omega)
    unfold beginT
    simp only [e1]
    rw [if_neg h1, drop_more m (wordL_len l), attrsF_past m (l.length + 1) _ _ _ _ _ (by simp) hq]
    exact h
theorem oneT_more {l : List UInt8} {t : TokD} {n : Nat} (m : List UInt8) (h : oneT l = .ok t n) (hk : t.kind ≠ 4) : oneT (l ++ m) = .ok t n := by
  unfold oneT at h
  split at h
  · rename_i h1
    unfold oneT
    rw [pre_more (pre_len h1), if_pos h1, drop_more m (by have := pre_len h1; simpa using this)]
    cases he : endT (l.drop 2) with
    | bad k e => rw [he] at h; cases h
    | ok u k => rw [he] at h; rw [endT_more m he]; exact h
  · rename_i h1
    split at h
    · rename_i h2
      cases hb : beginT (l.drop 1) with
      | bad k e => rw [hb] at h; cases h
      | ok u k =>
        rw [hb] at h
        have hw := beginT_within (l.drop 1)
        rw [hb, List.length_drop] at hw
        obtain ⟨w1, w2⟩ := hw
        unfold oneT
        rw [pre_more (by simp; omega), if_neg h1, pre_more (pre_len h2), if_pos h2, drop_more m (by omega), beginT_more m hb]; exact h
    · exfalso
      unfold textT at h
      simp only at h
      split at h
      · cases h
      split at h
      · cases h
      · injection h with h _; subst h; exact hk rfl
end Go.Proofs.Ythifddkmbjnncaa

/-
  The reader of tokens: the walks of blanks and word.
-/
namespace Go.Proofs.Ythifddkmbjnncaa
open Go.RowKit

theorem skipL_nil : skipL [] = 0 := rfl
theorem skipL_cons (x : UInt8) (l : List UInt8) : skipL (x :: l) = if blankB x then skipL l + 1 else 0 := by
  unfold skipL
  rw [List.takeWhile_cons]
  split <;> rfl
theorem wordL_cons (x : UInt8) (l : List UInt8) : wordL (x :: l) = if nb x then x :: wordL l else [] := by
  unfold wordL
  rw [List.takeWhile_cons]

theorem u8_ne {x c : UInt8} (h : x ≠ c) : ((x.toNat : Int) == (c.toNat : Int)) = false := by
  have : x.toNat ≠ c.toNat := fun e => h (UInt8.toNat.inj e)
  simp; omega




set_option maxRecDepth 100000 in
set_option maxHeartbeats 4000000 in
theorem blanks_any (b : Nat) (r : Rdr) (w : World) (h : RdAt w b r) (hp : r.pos ≤ r.s.size) (hs : r.s.size ≤ 1000000000) (n : Nat) (hn : Hid (skipL (r.s.data.toList.drop r.pos) = n)) :
    Calls Try.prog 71 #[.pointer (some ⟨b, 0, none⟩)] w (RdPost w b { r with pos := r.pos + n } (.bool (decide (0 < n)))) := by
  have H := Lib.hid h
  obtain ⟨h0, h1, _⟩ := h.all
  have HL := Lib.hid (size_toList r.s)
  clear h
  go_enter Try.func71, Try.ntmps71
  go_wp2_with fail
  clear h0 h1
  go_loopg [] (r.s.size - r.pos) (fun g wr => ∃ p : Nat, r.pos ≤ p ∧ p ≤ r.s.size ∧ g = r.s.size - p ∧ Hid (RdAt wr b { r with pos := p }) ∧ Hid (p + skipL (r.s.data.toList.drop p) = r.pos + n) ∧ Hid (w.grownBy wr (some b)))
  case atStart => exact ⟨r.pos, Nat.le_refl _, hp, rfl, H.out, by show _ = _; rw [hn.out], World.grownBy.refl w _⟩
  case round =>
    obtain ⟨p, hrp, hk, rfl, HR, hin, hg⟩ := hrel
    have HS : Hid (wr.drew.cell? ⟨b, 0, none⟩ = some (.string r.s) ∧ wr.drew.cell? ⟨b, 1, none⟩ = some (.int .i64 p)) := ⟨HR.out.drew.all.1, HR.out.drew.all.2.1⟩
    by_cases hlt : p < r.s.size
    · obtain ⟨x, HX⟩ : ∃ x, Hid (r.s.data.toList[p]? = some x) := ⟨r.s.data.toList[p]'(by have := HL.out; omega), List.getElem?_eq_getElem _⟩
      have hsx : r.s[p] = x := getk_of r.s p x HX.out hlt
      have hin' := hin.out
      rw [drop_cons HX.out, skipL_cons] at hin'
      have j0 : (0 : Int) ≤ (p : Int) := by omega
      have j1 : (p : Int) < r.s.size := by omega
      clear hin
      by_cases hx32 : x = 32
      · subst hx32
        rw [if_pos (by decide)] at hin'
        have HIN : Hid (p + 1 + skipL (r.s.data.toList.drop (p + 1)) = r.pos + n) := by show _ = _; rw [← hin']; omega
        clear hin'
        go_wp2_with fail
        refine wp_region_held_drew (S := fun w' => w'.cell? ⟨b, 0, none⟩ = some (.string r.s) ∧ w'.cell? ⟨b, 1, none⟩ = some (.int .i64 p)) (by kernel_rfl) HS.out (fun hHeld => ?_)
        refine tks (oi := ⟨_, _, _, _, _, _⟩) (v := ?_) 0 rfl (.inl ⟨by rfl, ?_⟩) ?_; rotate_left
        · (intro wS hSw; (try dsimp only at hSw); go_simp); all_goals with_reducible rfl
        try go_frame
        refine tks (oi := ⟨_, _, _, _, _, _⟩) (v := ?_) 1 rfl (.inl ⟨by rfl, ?_⟩) ?_; rotate_left
        · (intro wS hSw; (try dsimp only at hSw); go_simp); all_goals with_reducible rfl
        try go_frame
        refine tks (oi := ⟨_, _, _, _, _, _⟩) (v := ?_) 2 rfl (.inl ⟨by rfl, ?_⟩) ?_; rotate_left
        · (intro wS hSw; (try dsimp only at hSw); go_simp); all_goals with_reducible rfl
        try go_frame
        refine tks (oi := ⟨_, _, _, _, _, _⟩) (v := ?_) 3 rfl (.inl ⟨by rfl, ?_⟩) ?_; rotate_left
        · (intro wS hSw; (try dsimp only at hSw); go_simp); all_goals with_reducible rfl
        try go_frame
        refine tks (oi := ⟨_, _, _, _, _, _⟩) (v := ?_) 4 rfl (.inl ⟨by rfl, ?_⟩) ?_; rotate_left
        · (intro wS hSw; (try dsimp only at hSw); go_simp); all_goals with_reducible rfl
        try go_frame
        refine tks (oi := ⟨_, _, _, _, _, _⟩) (v := ?_) 5 rfl (.inl ⟨by rfl, ?_⟩) ?_; rotate_left
        · (intro wS hSw; (try dsimp only at hSw); go_simp); all_goals with_reducible rfl
        try go_frame
        refine tks (oi := ⟨_, _, _, _, _, _⟩) (v := ?_) 6 rfl (.inl ⟨by rfl, ?_⟩) ?_; rotate_left
        · (intro wS hSw; (try dsimp only at hSw); go_simp); all_goals with_reducible rfl
        try go_frame
        refine tks (oi := ⟨_, _, _, _, _, _⟩) (v := ?_) 7 rfl (.inl ⟨by rfl, ?_⟩) ?_; rotate_left
        · (intro wS hSw; (try dsimp only at hSw); go_simp); all_goals with_reducible rfl
        try go_frame
        refine tks (oi := ⟨_, _, _, _, _, _⟩) (v := ?_) 8 rfl (.inl ⟨by rfl, ?_⟩) ?_; rotate_left
        · (intro wS hSw; (try dsimp only at hSw); go_simp); all_goals with_reducible rfl
        try go_frame
        refine tks (oi := ⟨_, _, _, _, _, _⟩) (v := ?_) 9 rfl (.inl ⟨by rfl, ?_⟩) ?_; rotate_left
        · (intro wS hSw; (try dsimp only at hSw); go_simp); all_goals with_reducible rfl
        try go_frame
        refine tks (oi := ⟨_, _, _, _, _, _⟩) (v := ?_) 10 rfl (.inl ⟨by rfl, ?_⟩) ?_; rotate_left
        · (intro wS hSw; (try dsimp only at hSw); go_simp); all_goals with_reducible rfl
        try go_frame
        refine tks (oi := ⟨_, _, _, _, _, _⟩) (v := ?_) 11 rfl (.inl ⟨by rfl, ?_⟩) ?_; rotate_left
        · (intro wS hSw; (try dsimp only at hSw); go_simp); all_goals with_reducible rfl
        try go_frame
        refine tks (oi := ⟨_, _, _, _, _, _⟩) (v := ?_) 12 rfl (.inl ⟨by rfl, ?_⟩) ?_; rotate_left
        · (intro wS hSw; (try dsimp only at hSw); go_simp); all_goals with_reducible rfl
        try go_frame
        refine tks (oi := ⟨_, _, _, _, _, _⟩) (v := ?_) 13 rfl (.inl ⟨by rfl, ?_⟩) ?_; rotate_left
        · (intro wS hSw; (try dsimp only at hSw); go_simp); all_goals with_reducible rfl
        try go_frame
        refine tks (oi := ⟨_, _, _, _, _, _⟩) (v := ?_) 14 rfl (.inl ⟨by rfl, ?_⟩) ?_; rotate_left
        · (intro wS hSw; (try dsimp only at hSw); go_simp); all_goals with_reducible rfl
        try go_frame
        refine tks (oi := ⟨_, _, _, _, _, _⟩) (v := ?_) 15 rfl (.inl ⟨by rfl, ?_⟩) ?_; rotate_left
        · (intro wS hSw; (try dsimp only at hSw); go_simp); all_goals with_reducible rfl
        try go_frame
        refine tks (oi := ⟨_, _, _, _, _, _⟩) (v := ?_) 16 rfl (.inl ⟨by rfl, ?_⟩) ?_; rotate_left
        · (intro wS hSw; (try dsimp only at hSw); go_simp); all_goals with_reducible rfl
        try go_frame
        refine tks (oi := ⟨_, _, _, _, _, _⟩) (v := ?_) 17 rfl (.inl ⟨by rfl, ?_⟩) ?_; rotate_left
        · (intro wS hSw; (try dsimp only at hSw); go_simp); all_goals with_reducible rfl
        try go_frame
        refine tks (oi := ⟨_, _, _, _, _, _⟩) (v := ?_) 18 rfl (.inl ⟨by rfl, ?_⟩) ?_; rotate_left
        · (intro wS hSw; (try dsimp only at hSw); go_simp); all_goals with_reducible rfl
        try go_frame
        refine tks (oi := ⟨_, _, _, _, _, _⟩) (v := ?_) 19 rfl (.inl ⟨by rfl, ?_⟩) ?_; rotate_left
        · (intro wS hSw; (try dsimp only at hSw); go_simp); all_goals with_reducible rfl
        try go_frame
        refine tks (oi := ⟨_, _, _, _, _, _⟩) (v := ?_) 20 rfl (.inl ⟨by rfl, ?_⟩) ?_; rotate_left
        · (intro wS hSw; (try dsimp only at hSw); go_simp); all_goals with_reducible rfl
        try go_frame
        refine tks (oi := ⟨_, _, _, _, _, _⟩) (v := ?_) 21 rfl (.inl ⟨by rfl, ?_⟩) ?_; rotate_left
        · (intro wS hSw; (try dsimp only at hSw); go_simp); all_goals with_reducible rfl
        try go_frame
        refine tks (oi := ⟨_, _, _, _, _, _⟩) (v := undef) 22 rfl (.inr ⟨by rfl, rfl⟩) ?_
        try go_frame
        refine tks (oi := ⟨_, _, _, _, _, _⟩) (v := undef) 23 rfl (.inr ⟨by rfl, rfl⟩) ?_
        try go_frame
        refine tks (oi := ⟨_, _, _, _, _, _⟩) (v := undef) 24 rfl (.inr ⟨by rfl, rfl⟩) ?_
        try go_frame
        refine tks (oi := ⟨_, _, _, _, _, _⟩) (v := undef) 25 rfl (.inr ⟨by rfl, rfl⟩) ?_
        try go_frame
        refine tks (oi := ⟨_, _, _, _, _, _⟩) (v := undef) 26 rfl (.inr ⟨by rfl, rfl⟩) ?_
        try go_frame
        refine tks (oi := ⟨_, _, _, _, _, _⟩) (v := undef) 27 rfl (.inr ⟨by rfl, rfl⟩) ?_
        try go_frame
        refine tks (oi := ⟨_, _, _, _, _, _⟩) (v := undef) 28 rfl (.inr ⟨by rfl, rfl⟩) ?_
        try go_frame
        refine tks (oi := ⟨_, _, _, _, _, _⟩) (v := undef) 29 rfl (.inr ⟨by rfl, rfl⟩) ?_
        try go_frame
        refine tks (oi := ⟨_, _, _, _, _, _⟩) (v := undef) 30 rfl (.inr ⟨by rfl, rfl⟩) ?_
        try go_frame
        refine tks (oi := ⟨_, _, _, _, _, _⟩) (v := undef) 31 rfl (.inr ⟨by rfl, rfl⟩) ?_
        try go_frame
        refine tks (oi := ⟨_, _, _, _, _, _⟩) (v := ?_) 32 rfl (.inl ⟨by rfl, ?_⟩) ?_; rotate_left
        · (intro wS hSw; (try dsimp only at hSw); go_simp); all_goals with_reducible rfl
        try go_frame
        refine tks (oi := ⟨_, _, _, _, _, _⟩) (v := ?_) 33 rfl (.inl ⟨by rfl, ?_⟩) ?_; rotate_left
        · (intro wS hSw; (try dsimp only at hSw); go_simp); all_goals with_reducible rfl
        try go_frame
        refine tks (oi := ⟨_, _, _, _, _, _⟩) (v := undef) 34 rfl (.inr ⟨by rfl, rfl⟩) ?_
        try go_frame
        refine tks (oi := ⟨_, _, _, _, _, _⟩) (v := undef) 35 rfl (.inr ⟨by rfl, rfl⟩) ?_
        try go_frame
        refine tks (oi := ⟨_, _, _, _, _, _⟩) (v := undef) 36 rfl (.inr ⟨by rfl, rfl⟩) ?_
        try go_frame
        refine tks (oi := ⟨_, _, _, _, _, _⟩) (v := undef) 37 rfl (.inr ⟨by rfl, rfl⟩) ?_
        try go_frame
        refine tks (oi := ⟨_, _, _, _, _, _⟩) (v := undef) 38 rfl (.inr ⟨by rfl, rfl⟩) ?_
        try go_frame
        refine tks (oi := ⟨_, _, _, _, _, _⟩) (v := undef) 39 rfl (.inr ⟨by rfl, rfl⟩) ?_
        try go_frame
        refine tks (oi := ⟨_, _, _, _, _, _⟩) (v := undef) 40 rfl (.inr ⟨by rfl, rfl⟩) ?_
        try go_frame
        refine tks (oi := ⟨_, _, _, _, _, _⟩) (v := undef) 41 rfl (.inr ⟨by rfl, rfl⟩) ?_
        try go_frame
        refine tks (oi := ⟨_, _, _, _, _, _⟩) (v := undef) 42 rfl (.inr ⟨by rfl, rfl⟩) ?_
        try go_frame
        refine tks (oi := ⟨_, _, _, _, _, _⟩) (v := undef) 43 rfl (.inr ⟨by rfl, rfl⟩) ?_
        try go_frame
        refine tks (oi := ⟨_, _, _, _, _, _⟩) (v := ?_) 44 rfl (.inl ⟨by rfl, ?_⟩) ?_; rotate_left
        · (intro wS hSw; (try dsimp only at hSw); go_simp); all_goals with_reducible rfl
        try go_frame
        refine tks (oi := ⟨_, _, _, _, _, _⟩) (v := ?_) 45 rfl (.inl ⟨by rfl, ?_⟩) ?_; rotate_left
        · (intro wS hSw; (try dsimp only at hSw); go_simp); all_goals with_reducible rfl
        try go_frame
        refine wpAnyH_done (by kernel_rfl) ?_ _
        clear hHeld
        obtain ⟨h0, h1⟩ := HS.out
        have f1 : wr.drew.frozen? ⟨b, 1, none⟩ = false := HR.out.drew.froz 1
        go_wp2_with fail
        go_roundg (r.s.size - (p + 1))
        case measure => omega
        case rel => exact ⟨p + 1, by omega, by omega, rfl, HR.out.drew.pos (p + 1), HIN, grown_twice (grown_drew hg.out) (Lib.grownBy_setCell _ b 1 _)⟩
      by_cases hx9 : x = 9
      · subst hx9
        rw [if_pos (by decide)] at hin'
        have HIN : Hid (p + 1 + skipL (r.s.data.toList.drop (p + 1)) = r.pos + n) := by show _ = _; rw [← hin']; omega
        clear hin' hx32
        go_wp2_with fail
        refine wp_region_held_drew (S := fun w' => w'.cell? ⟨b, 0, none⟩ = some (.string r.s) ∧ w'.cell? ⟨b, 1, none⟩ = some (.int .i64 p)) (by kernel_rfl) HS.out (fun hHeld => ?_)
        refine tks (oi := ⟨_, _, _, _, _, _⟩) (v := ?_) 0 rfl (.inl ⟨by rfl, ?_⟩) ?_; rotate_left
        · (intro wS hSw; (try dsimp only at hSw); go_simp); all_goals with_reducible rfl
        try go_frame
        refine tks (oi := ⟨_, _, _, _, _, _⟩) (v := ?_) 1 rfl (.inl ⟨by rfl, ?_⟩) ?_; rotate_left
        · (intro wS hSw; (try dsimp only at hSw); go_simp); all_goals with_reducible rfl
        try go_frame
        refine tks (oi := ⟨_, _, _, _, _, _⟩) (v := ?_) 2 rfl (.inl ⟨by rfl, ?_⟩) ?_; rotate_left
        · (intro wS hSw; (try dsimp only at hSw); go_simp); all_goals with_reducible rfl
        try go_frame
        refine tks (oi := ⟨_, _, _, _, _, _⟩) (v := ?_) 3 rfl (.inl ⟨by rfl, ?_⟩) ?_; rotate_left
        · (intro wS hSw; (try dsimp only at hSw); go_simp); all_goals with_reducible rfl
        try go_frame
        refine tks (oi := ⟨_, _, _, _, _, _⟩) (v := ?_) 4 rfl (.inl ⟨by rfl, ?_⟩) ?_; rotate_left
        · (intro wS hSw; (try dsimp only at hSw); go_simp); all_goals with_reducible rfl
        try go_frame
        refine tks (oi := ⟨_, _, _, _, _, _⟩) (v := ?_) 5 rfl (.inl ⟨by rfl, ?_⟩) ?_; rotate_left
        · (intro wS hSw; (try dsimp only at hSw); go_simp); all_goals with_reducible rfl
        try go_frame
        refine tks (oi := ⟨_, _, _, _, _, _⟩) (v := ?_) 6 rfl (.inl ⟨by rfl, ?_⟩) ?_; rotate_left
        · (intro wS hSw; (try dsimp only at hSw); go_simp); all_goals with_reducible rfl
        try go_frame
        refine tks (oi := ⟨_, _, _, _, _, _⟩) (v := ?_) 7 rfl (.inl ⟨by rfl, ?_⟩) ?_; rotate_left
        · (intro wS hSw; (try dsimp only at hSw); go_simp); all_goals with_reducible rfl
        try go_frame
        refine tks (oi := ⟨_, _, _, _, _, _⟩) (v := ?_) 8 rfl (.inl ⟨by rfl, ?_⟩) ?_; rotate_left
        · (intro wS hSw; (try dsimp only at hSw); go_simp); all_goals with_reducible rfl
        try go_frame
        refine tks (oi := ⟨_, _, _, _, _, _⟩) (v := ?_) 9 rfl (.inl ⟨by rfl, ?_⟩) ?_; rotate_left
        · (intro wS hSw; (try dsimp only at hSw); go_simp); all_goals with_reducible rfl
        try go_frame
        refine tks (oi := ⟨_, _, _, _, _, _⟩) (v := ?_) 10 rfl (.inl ⟨by rfl, ?_⟩) ?_; rotate_left
        · (intro wS hSw; (try dsimp only at hSw); go_simp); all_goals with_reducible rfl
        try go_frame
        refine tks (oi := ⟨_, _, _, _, _, _⟩) (v := ?_) 11 rfl (.inl ⟨by rfl, ?_⟩) ?_; rotate_left
        · (intro wS hSw; (try dsimp only at hSw); go_simp); all_goals with_reducible rfl
        try go_frame
        refine tks (oi := ⟨_, _, _, _, _, _⟩) (v := ?_) 12 rfl (.inl ⟨by rfl, ?_⟩) ?_; rotate_left
        · (intro wS hSw; (try dsimp only at hSw); go_simp); all_goals with_reducible rfl
        try go_frame
        refine tks (oi := ⟨_, _, _, _, _, _⟩) (v := ?_) 13 rfl (.inl ⟨by rfl, ?_⟩) ?_; rotate_left
        · (intro wS hSw; (try dsimp only at hSw); go_simp); all_goals with_reducible rfl
        try go_frame
        refine tks (oi := ⟨_, _, _, _, _, _⟩) (v := ?_) 14 rfl (.inl ⟨by rfl, ?_⟩) ?_; rotate_left
        · (intro wS hSw; (try dsimp only at hSw); go_simp); all_goals with_reducible rfl
        try go_frame
        refine tks (oi := ⟨_, _, _, _, _, _⟩) (v := ?_) 15 rfl (.inl ⟨by rfl, ?_⟩) ?_; rotate_left
        · (intro wS hSw; (try dsimp only at hSw); go_simp); all_goals with_reducible rfl
        try go_frame
        refine tks (oi := ⟨_, _, _, _, _, _⟩) (v := ?_) 16 rfl (.inl ⟨by rfl, ?_⟩) ?_; rotate_left
        · (intro wS hSw; (try dsimp only at hSw); go_simp); all_goals with_reducible rfl
        try go_frame
        refine tks (oi := ⟨_, _, _, _, _, _⟩) (v := ?_) 17 rfl (.inl ⟨by rfl, ?_⟩) ?_; rotate_left
        · (intro wS hSw; (try dsimp only at hSw); go_simp); all_goals with_reducible rfl
        try go_frame
        refine tks (oi := ⟨_, _, _, _, _, _⟩) (v := ?_) 18 rfl (.inl ⟨by rfl, ?_⟩) ?_; rotate_left
        · (intro wS hSw; (try dsimp only at hSw); go_simp); all_goals with_reducible rfl
        try go_frame
        refine tks (oi := ⟨_, _, _, _, _, _⟩) (v := ?_) 19 rfl (.inl ⟨by rfl, ?_⟩) ?_; rotate_left
        · (intro wS hSw; (try dsimp only at hSw); go_simp); all_goals with_reducible rfl
        try go_frame
        refine tks (oi := ⟨_, _, _, _, _, _⟩) (v := ?_) 20 rfl (.inl ⟨by rfl, ?_⟩) ?_; rotate_left
        · (intro wS hSw; (try dsimp only at hSw); go_simp); all_goals with_reducible rfl
        try go_frame
        refine tks (oi := ⟨_, _, _, _, _, _⟩) (v := ?_) 21 rfl (.inl ⟨by rfl, ?_⟩) ?_; rotate_left
        · (intro wS hSw; (try dsimp only at hSw); go_simp); all_goals with_reducible rfl
        try go_frame
        refine tks (oi := ⟨_, _, _, _, _, _⟩) (v := ?_) 22 rfl (.inl ⟨by rfl, ?_⟩) ?_; rotate_left
        · (intro wS hSw; (try dsimp only at hSw); go_simp); all_goals with_reducible rfl
        try go_frame
        refine tks (oi := ⟨_, _, _, _, _, _⟩) (v := ?_) 23 rfl (.inl ⟨by rfl, ?_⟩) ?_; rotate_left
        · (intro wS hSw; (try dsimp only at hSw); go_simp); all_goals with_reducible rfl
        try go_frame
        refine tks (oi := ⟨_, _, _, _, _, _⟩) (v := ?_) 24 rfl (.inl ⟨by rfl, ?_⟩) ?_; rotate_left
        · (intro wS hSw; (try dsimp only at hSw); go_simp); all_goals with_reducible rfl
        try go_frame
        refine tks (oi := ⟨_, _, _, _, _, _⟩) (v := ?_) 25 rfl (.inl ⟨by rfl, ?_⟩) ?_; rotate_left
        · (intro wS hSw; (try dsimp only at hSw); go_simp); all_goals with_reducible rfl
        try go_frame
        refine tks (oi := ⟨_, _, _, _, _, _⟩) (v := ?_) 26 rfl (.inl ⟨by rfl, ?_⟩) ?_; rotate_left
        · (intro wS hSw; (try dsimp only at hSw); go_simp); all_goals with_reducible rfl
        try go_frame
        refine tks (oi := ⟨_, _, _, _, _, _⟩) (v := ?_) 27 rfl (.inl ⟨by rfl, ?_⟩) ?_; rotate_left
        · (intro wS hSw; (try dsimp only at hSw); go_simp); all_goals with_reducible rfl
        try go_frame
        refine tks (oi := ⟨_, _, _, _, _, _⟩) (v := ?_) 28 rfl (.inl ⟨by rfl, ?_⟩) ?_; rotate_left
        · (intro wS hSw; (try dsimp only at hSw); go_simp); all_goals with_reducible rfl
        try go_frame
        refine tks (oi := ⟨_, _, _, _, _, _⟩) (v := ?_) 29 rfl (.inl ⟨by rfl, ?_⟩) ?_; rotate_left
        · (intro wS hSw; (try dsimp only at hSw); go_simp); all_goals with_reducible rfl
        try go_frame
        refine tks (oi := ⟨_, _, _, _, _, _⟩) (v := ?_) 30 rfl (.inl ⟨by rfl, ?_⟩) ?_; rotate_left
        · (intro wS hSw; (try dsimp only at hSw); go_simp); all_goals with_reducible rfl
        try go_frame
        refine tks (oi := ⟨_, _, _, _, _, _⟩) (v := ?_) 31 rfl (.inl ⟨by rfl, ?_⟩) ?_; rotate_left
        · (intro wS hSw; (try dsimp only at hSw); go_simp); all_goals with_reducible rfl
        try go_frame
        refine tks (oi := ⟨_, _, _, _, _, _⟩) (v := ?_) 32 rfl (.inl ⟨by rfl, ?_⟩) ?_; rotate_left
        · (intro wS hSw; (try dsimp only at hSw); go_simp); all_goals with_reducible rfl
        try go_frame
        refine tks (oi := ⟨_, _, _, _, _, _⟩) (v := ?_) 33 rfl (.inl ⟨by rfl, ?_⟩) ?_; rotate_left
        · (intro wS hSw; (try dsimp only at hSw); go_simp); all_goals with_reducible rfl
        try go_frame
        refine tks (oi := ⟨_, _, _, _, _, _⟩) (v := undef) 34 rfl (.inr ⟨by rfl, rfl⟩) ?_
        try go_frame
        refine tks (oi := ⟨_, _, _, _, _, _⟩) (v := undef) 35 rfl (.inr ⟨by rfl, rfl⟩) ?_
        try go_frame
        refine tks (oi := ⟨_, _, _, _, _, _⟩) (v := undef) 36 rfl (.inr ⟨by rfl, rfl⟩) ?_
        try go_frame
        refine tks (oi := ⟨_, _, _, _, _, _⟩) (v := undef) 37 rfl (.inr ⟨by rfl, rfl⟩) ?_
        try go_frame
        refine tks (oi := ⟨_, _, _, _, _, _⟩) (v := undef) 38 rfl (.inr ⟨by rfl, rfl⟩) ?_
        try go_frame
        refine tks (oi := ⟨_, _, _, _, _, _⟩) (v := undef) 39 rfl (.inr ⟨by rfl, rfl⟩) ?_
        try go_frame
        refine tks (oi := ⟨_, _, _, _, _, _⟩) (v := undef) 40 rfl (.inr ⟨by rfl, rfl⟩) ?_
        try go_frame
        refine tks (oi := ⟨_, _, _, _, _, _⟩) (v := undef) 41 rfl (.inr ⟨by rfl, rfl⟩) ?_
        try go_frame
        refine tks (oi := ⟨_, _, _, _, _, _⟩) (v := undef) 42 rfl (.inr ⟨by rfl, rfl⟩) ?_
        try go_frame
        refine tks (oi := ⟨_, _, _, _, _, _⟩) (v := undef) 43 rfl (.inr ⟨by rfl, rfl⟩) ?_
        try go_frame
        refine tks (oi := ⟨_, _, _, _, _, _⟩) (v := ?_) 44 rfl (.inl ⟨by rfl, ?_⟩) ?_; rotate_left
        · (intro wS hSw; (try dsimp only at hSw); go_simp); all_goals with_reducible rfl
        try go_frame
        refine tks (oi := ⟨_, _, _, _, _, _⟩) (v := ?_) 45 rfl (.inl ⟨by rfl, ?_⟩) ?_; rotate_left
        · (intro wS hSw; (try dsimp only at hSw); go_simp); all_goals with_reducible rfl
        try go_frame
        refine wpAnyH_done (by kernel_rfl) ?_ _
        clear hHeld
        obtain ⟨h0, h1⟩ := HS.out
        have f1 : wr.drew.frozen? ⟨b, 1, none⟩ = false := HR.out.drew.froz 1
        go_wp2_with fail
        go_roundg (r.s.size - (p + 1))
        case measure => omega
        case rel => exact ⟨p + 1, by omega, by omega, rfl, HR.out.drew.pos (p + 1), HIN, grown_twice (grown_drew hg.out) (Lib.grownBy_setCell _ b 1 _)⟩
      by_cases hx10 : x = 10
      · subst hx10
        rw [if_pos (by decide)] at hin'
        have HIN : Hid (p + 1 + skipL (r.s.data.toList.drop (p + 1)) = r.pos + n) := by show _ = _; rw [← hin']; omega
        clear hin' hx32 hx9
        go_wp2_with fail
        refine wp_region_held_drew (S := fun w' => w'.cell? ⟨b, 0, none⟩ = some (.string r.s) ∧ w'.cell? ⟨b, 1, none⟩ = some (.int .i64 p)) (by kernel_rfl) HS.out (fun hHeld => ?_)
        refine tks (oi := ⟨_, _, _, _, _, _⟩) (v := ?_) 0 rfl (.inl ⟨by rfl, ?_⟩) ?_; rotate_left
        · (intro wS hSw; (try dsimp only at hSw); go_simp); all_goals with_reducible rfl
        try go_frame
        refine tks (oi := ⟨_, _, _, _, _, _⟩) (v := ?_) 1 rfl (.inl ⟨by rfl, ?_⟩) ?_; rotate_left
        · (intro wS hSw; (try dsimp only at hSw); go_simp); all_goals with_reducible rfl
        try go_frame
        refine tks (oi := ⟨_, _, _, _, _, _⟩) (v := ?_) 2 rfl (.inl ⟨by rfl, ?_⟩) ?_; rotate_left
        · (intro wS hSw; (try dsimp only at hSw); go_simp); all_goals with_reducible rfl
        try go_frame
        refine tks (oi := ⟨_, _, _, _, _, _⟩) (v := ?_) 3 rfl (.inl ⟨by rfl, ?_⟩) ?_; rotate_left
        · (intro wS hSw; (try dsimp only at hSw); go_simp); all_goals with_reducible rfl
        try go_frame
        refine tks (oi := ⟨_, _, _, _, _, _⟩) (v := ?_) 4 rfl (.inl ⟨by rfl, ?_⟩) ?_; rotate_left
        · (intro wS hSw; (try dsimp only at hSw); go_simp); all_goals with_reducible rfl
        try go_frame
        refine tks (oi := ⟨_, _, _, _, _, _⟩) (v := ?_) 5 rfl (.inl ⟨by rfl, ?_⟩) ?_; rotate_left
        · (intro wS hSw; (try dsimp only at hSw); go_simp); all_goals with_reducible rfl
        try go_frame
        refine tks (oi := ⟨_, _, _, _, _, _⟩) (v := ?_) 6 rfl (.inl ⟨by rfl, ?_⟩) ?_; rotate_left
        · (intro wS hSw; (try dsimp only at hSw); go_simp); all_goals with_reducible rfl
        try go_frame
        refine tks (oi := ⟨_, _, _, _, _, _⟩) (v := ?_) 7 rfl (.inl ⟨by rfl, ?_⟩) ?_; rotate_left
        · (intro wS hSw; (try dsimp only at hSw); go_simp); all_goals with_reducible rfl
        try go_frame
        refine tks (oi := ⟨_, _, _, _, _, _⟩) (v := ?_) 8 rfl (.inl ⟨by rfl, ?_⟩) ?_; rotate_left
        · (intro wS hSw; (try dsimp only at hSw); go_simp); all_goals with_reducible rfl
        try go_frame
        refine tks (oi := ⟨_, _, _, _, _, _⟩) (v := ?_) 9 rfl (.inl ⟨by rfl, ?_⟩) ?_; rotate_left
        · (intro wS hSw; (try dsimp only at hSw); go_simp); all_goals with_reducible rfl
        try go_frame
        refine tks (oi := ⟨_, _, _, _, _, _⟩) (v := ?_) 10 rfl (.inl ⟨by rfl, ?_⟩) ?_; rotate_left
        · (intro wS hSw; (try dsimp only at hSw); go_simp); all_goals with_reducible rfl
        try go_frame
        refine tks (oi := ⟨_, _, _, _, _, _⟩) (v := ?_) 11 rfl (.inl ⟨by rfl, ?_⟩) ?_; rotate_left
        · (intro wS hSw; (try dsimp only at hSw); go_simp); all_goals with_reducible rfl
        try go_frame
        refine tks (oi := ⟨_, _, _, _, _, _⟩) (v := ?_) 12 rfl (.inl ⟨by rfl, ?_⟩) ?_; rotate_left
        · (intro wS hSw; (try dsimp only at hSw); go_simp); all_goals with_reducible rfl
        try go_frame
        refine tks (oi := ⟨_, _, _, _, _, _⟩) (v := ?_) 13 rfl (.inl ⟨by rfl, ?_⟩) ?_; rotate_left
        · (intro wS hSw; (try dsimp only at hSw); go_simp); all_goals with_reducible rfl
        try go_frame
        refine tks (oi := ⟨_, _, _, _, _, _⟩) (v := ?_) 14 rfl (.inl ⟨by rfl, ?_⟩) ?_; rotate_left
        · (intro wS hSw; (try dsimp only at hSw); go_simp); all_goals with_reducible rfl
        try go_frame
        refine tks (oi := ⟨_, _, _, _, _, _⟩) (v := ?_) 15 rfl (.inl ⟨by rfl, ?_⟩) ?_; rotate_left
        · (intro wS hSw; (try dsimp only at hSw); go_simp); all_goals with_reducible rfl
        try go_frame
        refine tks (oi := ⟨_, _, _, _, _, _⟩) (v := ?_) 16 rfl (.inl ⟨by rfl, ?_⟩) ?_; rotate_left
        · (intro wS hSw; (try dsimp only at hSw); go_simp); all_goals with_reducible rfl
        try go_frame
        refine tks (oi := ⟨_, _, _, _, _, _⟩) (v := ?_) 17 rfl (.inl ⟨by rfl, ?_⟩) ?_; rotate_left
        · (intro wS hSw; (try dsimp only at hSw); go_simp); all_goals with_reducible rfl
        try go_frame
        refine tks (oi := ⟨_, _, _, _, _, _⟩) (v := ?_) 18 rfl (.inl ⟨by rfl, ?_⟩) ?_; rotate_left
        · (intro wS hSw; (try dsimp only at hSw); go_simp); all_goals with_reducible rfl
        try go_frame
        refine tks (oi := ⟨_, _, _, _, _, _⟩) (v := ?_) 19 rfl (.inl ⟨by rfl, ?_⟩) ?_; rotate_left
        · (intro wS hSw; (try dsimp only at hSw); go_simp); all_goals with_reducible rfl
        try go_frame
        refine tks (oi := ⟨_, _, _, _, _, _⟩) (v := ?_) 20 rfl (.inl ⟨by rfl, ?_⟩) ?_; rotate_left
        · (intro wS hSw; (try dsimp only at hSw); go_simp); all_goals with_reducible rfl
        try go_frame
        refine tks (oi := ⟨_, _, _, _, _, _⟩) (v := ?_) 21 rfl (.inl ⟨by rfl, ?_⟩) ?_; rotate_left
        · (intro wS hSw; (try dsimp only at hSw); go_simp); all_goals with_reducible rfl
        try go_frame
        refine tks (oi := ⟨_, _, _, _, _, _⟩) (v := ?_) 22 rfl (.inl ⟨by rfl, ?_⟩) ?_; rotate_left
        · (intro wS hSw; (try dsimp only at hSw); go_simp); all_goals with_reducible rfl
        try go_frame
        refine tks (oi := ⟨_, _, _, _, _, _⟩) (v := ?_) 23 rfl (.inl ⟨by rfl, ?_⟩) ?_; rotate_left
        · (intro wS hSw; (try dsimp only at hSw); go_simp); all_goals with_reducible rfl
        try go_frame
        refine tks (oi := ⟨_, _, _, _, _, _⟩) (v := ?_) 24 rfl (.inl ⟨by rfl, ?_⟩) ?_; rotate_left
        · (intro wS hSw; (try dsimp only at hSw); go_simp); all_goals with_reducible rfl
        try go_frame
        refine tks (oi := ⟨_, _, _, _, _, _⟩) (v := ?_) 25 rfl (.inl ⟨by rfl, ?_⟩) ?_; rotate_left
        · (intro wS hSw; (try dsimp only at hSw); go_simp); all_goals with_reducible rfl
        try go_frame
        refine tks (oi := ⟨_, _, _, _, _, _⟩) (v := ?_) 26 rfl (.inl ⟨by rfl, ?_⟩) ?_; rotate_left
        · (intro wS hSw; (try dsimp only at hSw); go_simp); all_goals with_reducible rfl
        try go_frame
        refine tks (oi := ⟨_, _, _, _, _, _⟩) (v := ?_) 27 rfl (.inl ⟨by rfl, ?_⟩) ?_; rotate_left
        · (intro wS hSw; (try dsimp only at hSw); go_simp); all_goals with_reducible rfl
        try go_frame
        refine tks (oi := ⟨_, _, _, _, _, _⟩) (v := ?_) 28 rfl (.inl ⟨by rfl, ?_⟩) ?_; rotate_left
        · (intro wS hSw; (try dsimp only at hSw); go_simp); all_goals with_reducible rfl
        try go_frame
        refine tks (oi := ⟨_, _, _, _, _, _⟩) (v := ?_) 29 rfl (.inl ⟨by rfl, ?_⟩) ?_; rotate_left
        · (intro wS hSw; (try dsimp only at hSw); go_simp); all_goals with_reducible rfl
        try go_frame
        refine tks (oi := ⟨_, _, _, _, _, _⟩) (v := ?_) 30 rfl (.inl ⟨by rfl, ?_⟩) ?_; rotate_left
        · (intro wS hSw; (try dsimp only at hSw); go_simp); all_goals with_reducible rfl
        try go_frame
        refine tks (oi := ⟨_, _, _, _, _, _⟩) (v := ?_) 31 rfl (.inl ⟨by rfl, ?_⟩) ?_; rotate_left
        · (intro wS hSw; (try dsimp only at hSw); go_simp); all_goals with_reducible rfl
        try go_frame
        refine tks (oi := ⟨_, _, _, _, _, _⟩) (v := ?_) 32 rfl (.inl ⟨by rfl, ?_⟩) ?_; rotate_left
        · (intro wS hSw; (try dsimp only at hSw); go_simp); all_goals with_reducible rfl
        try go_frame
        refine tks (oi := ⟨_, _, _, _, _, _⟩) (v := ?_) 33 rfl (.inl ⟨by rfl, ?_⟩) ?_; rotate_left
        · (intro wS hSw; (try dsimp only at hSw); go_simp); all_goals with_reducible rfl
        try go_frame
        refine tks (oi := ⟨_, _, _, _, _, _⟩) (v := ?_) 34 rfl (.inl ⟨by rfl, ?_⟩) ?_; rotate_left
        · (intro wS hSw; (try dsimp only at hSw); go_simp); all_goals with_reducible rfl
        try go_frame
        refine tks (oi := ⟨_, _, _, _, _, _⟩) (v := ?_) 35 rfl (.inl ⟨by rfl, ?_⟩) ?_; rotate_left
        · (intro wS hSw; (try dsimp only at hSw); go_simp); all_goals with_reducible rfl
        try go_frame
        refine tks (oi := ⟨_, _, _, _, _, _⟩) (v := ?_) 36 rfl (.inl ⟨by rfl, ?_⟩) ?_; rotate_left
        · (intro wS hSw; (try dsimp only at hSw); go_simp); all_goals with_reducible rfl
        try go_frame
        refine tks (oi := ⟨_, _, _, _, _, _⟩) (v := ?_) 37 rfl (.inl ⟨by rfl, ?_⟩) ?_; rotate_left
        · (intro wS hSw; (try dsimp only at hSw); go_simp); all_goals with_reducible rfl
        try go_frame
        refine tks (oi := ⟨_, _, _, _, _, _⟩) (v := ?_) 38 rfl (.inl ⟨by rfl, ?_⟩) ?_; rotate_left
        · (intro wS hSw; (try dsimp only at hSw); go_simp); all_goals with_reducible rfl
        try go_frame
        refine tks (oi := ⟨_, _, _, _, _, _⟩) (v := ?_) 39 rfl (.inl ⟨by rfl, ?_⟩) ?_; rotate_left
        · (intro wS hSw; (try dsimp only at hSw); go_simp); all_goals with_reducible rfl
        try go_frame
        refine tks (oi := ⟨_, _, _, _, _, _⟩) (v := ?_) 40 rfl (.inl ⟨by rfl, ?_⟩) ?_; rotate_left
        · (intro wS hSw; (try dsimp only at hSw); go_simp); all_goals with_reducible rfl
        try go_frame
        refine tks (oi := ⟨_, _, _, _, _, _⟩) (v := ?_) 41 rfl (.inl ⟨by rfl, ?_⟩) ?_; rotate_left
        · (intro wS hSw; (try dsimp only at hSw); go_simp); all_goals with_reducible rfl
        try go_frame
        refine tks (oi := ⟨_, _, _, _, _, _⟩) (v := ?_) 42 rfl (.inl ⟨by rfl, ?_⟩) ?_; rotate_left
        · (intro wS hSw; (try dsimp only at hSw); go_simp); all_goals with_reducible rfl
        try go_frame
        refine tks (oi := ⟨_, _, _, _, _, _⟩) (v := ?_) 43 rfl (.inl ⟨by rfl, ?_⟩) ?_; rotate_left
        · (intro wS hSw; (try dsimp only at hSw); go_simp); all_goals with_reducible rfl
        try go_frame
        refine tks (oi := ⟨_, _, _, _, _, _⟩) (v := ?_) 44 rfl (.inl ⟨by rfl, ?_⟩) ?_; rotate_left
        · (intro wS hSw; (try dsimp only at hSw); go_simp); all_goals with_reducible rfl
        try go_frame
        refine tks (oi := ⟨_, _, _, _, _, _⟩) (v := ?_) 45 rfl (.inl ⟨by rfl, ?_⟩) ?_; rotate_left
        · (intro wS hSw; (try dsimp only at hSw); go_simp); all_goals with_reducible rfl
        try go_frame
        refine wpAnyH_done (by kernel_rfl) ?_ _
        clear hHeld
        obtain ⟨h0, h1⟩ := HS.out
        have f1 : wr.drew.frozen? ⟨b, 1, none⟩ = false := HR.out.drew.froz 1
        go_wp2_with fail
        go_roundg (r.s.size - (p + 1))
        case measure => omega
        case rel => exact ⟨p + 1, by omega, by omega, rfl, HR.out.drew.pos (p + 1), HIN, grown_twice (grown_drew hg.out) (Lib.grownBy_setCell _ b 1 _)⟩
      have hbx : blankB x = false := by simp [blankB, hx32, hx9, hx10]
      rw [hbx] at hin'
      have HIN : Hid (p = r.pos + n) := hin'
      have e32 : ((x.toNat : Int) == 32) = false := u8_ne hx32
      have e9 : ((x.toNat : Int) == 9) = false := u8_ne hx9
      have e10 : ((x.toNat : Int) == 10) = false := u8_ne hx10
      clear hin' hx32 hx9 hx10 hbx
      go_wp2_with fail
      refine wp_region_held_drew (S := fun w' => w'.cell? ⟨b, 0, none⟩ = some (.string r.s) ∧ w'.cell? ⟨b, 1, none⟩ = some (.int .i64 p)) (by kernel_rfl) HS.out (fun hHeld => ?_)
      refine tks (oi := ⟨_, _, _, _, _, _⟩) (v := ?_) 0 rfl (.inl ⟨by rfl, ?_⟩) ?_; rotate_left
      · (intro wS hSw; (try dsimp only at hSw); go_simp); all_goals with_reducible rfl
      try go_frame
      refine tks (oi := ⟨_, _, _, _, _, _⟩) (v := ?_) 1 rfl (.inl ⟨by rfl, ?_⟩) ?_; rotate_left
      · (intro wS hSw; (try dsimp only at hSw); go_simp); all_goals with_reducible rfl
      try go_frame
      refine tks (oi := ⟨_, _, _, _, _, _⟩) (v := ?_) 2 rfl (.inl ⟨by rfl, ?_⟩) ?_; rotate_left
      · (intro wS hSw; (try dsimp only at hSw); go_simp); all_goals with_reducible rfl
      try go_frame
      refine tks (oi := ⟨_, _, _, _, _, _⟩) (v := ?_) 3 rfl (.inl ⟨by rfl, ?_⟩) ?_; rotate_left
      · (intro wS hSw; (try dsimp only at hSw); go_simp); all_goals with_reducible rfl
      try go_frame
      refine tks (oi := ⟨_, _, _, _, _, _⟩) (v := ?_) 4 rfl (.inl ⟨by rfl, ?_⟩) ?_; rotate_left
      · (intro wS hSw; (try dsimp only at hSw); go_simp); all_goals with_reducible rfl
      try go_frame
      refine tks (oi := ⟨_, _, _, _, _, _⟩) (v := ?_) 5 rfl (.inl ⟨by rfl, ?_⟩) ?_; rotate_left
      · (intro wS hSw; (try dsimp only at hSw); go_simp); all_goals with_reducible rfl
      try go_frame
      refine tks (oi := ⟨_, _, _, _, _, _⟩) (v := ?_) 6 rfl (.inl ⟨by rfl, ?_⟩) ?_; rotate_left
      · (intro wS hSw; (try dsimp only at hSw); go_simp); all_goals with_reducible rfl
      try go_frame
      refine tks (oi := ⟨_, _, _, _, _, _⟩) (v := ?_) 7 rfl (.inl ⟨by rfl, ?_⟩) ?_; rotate_left
      · (intro wS hSw; (try dsimp only at hSw); go_simp); all_goals with_reducible rfl
      try go_frame
      refine tks (oi := ⟨_, _, _, _, _, _⟩) (v := ?_) 8 rfl (.inl ⟨by rfl, ?_⟩) ?_; rotate_left
      · (intro wS hSw; (try dsimp only at hSw); go_simp); all_goals with_reducible rfl
      try go_frame
      refine tks (oi := ⟨_, _, _, _, _, _⟩) (v := ?_) 9 rfl (.inl ⟨by rfl, ?_⟩) ?_; rotate_left
      · (intro wS hSw; (try dsimp only at hSw); go_simp); all_goals with_reducible rfl
      try go_frame
      refine tks (oi := ⟨_, _, _, _, _, _⟩) (v := ?_) 10 rfl (.inl ⟨by rfl, ?_⟩) ?_; rotate_left
      · (intro wS hSw; (try dsimp only at hSw); go_simp); all_goals with_reducible rfl
      try go_frame
      refine tks (oi := ⟨_, _, _, _, _, _⟩) (v := ?_) 11 rfl (.inl ⟨by rfl, ?_⟩) ?_; rotate_left
      · (intro wS hSw; (try dsimp only at hSw); go_simp); all_goals with_reducible rfl
      try go_frame
      refine tks (oi := ⟨_, _, _, _, _, _⟩) (v := ?_) 12 rfl (.inl ⟨by rfl, ?_⟩) ?_; rotate_left
      · (intro wS hSw; (try dsimp only at hSw); go_simp); all_goals with_reducible rfl
      try go_frame
      refine tks (oi := ⟨_, _, _, _, _, _⟩) (v := ?_) 13 rfl (.inl ⟨by rfl, ?_⟩) ?_; rotate_left
      · (intro wS hSw; (try dsimp only at hSw); go_simp); all_goals with_reducible rfl
      try go_frame
      refine tks (oi := ⟨_, _, _, _, _, _⟩) (v := ?_) 14 rfl (.inl ⟨by rfl, ?_⟩) ?_; rotate_left
      · (intro wS hSw; (try dsimp only at hSw); go_simp); all_goals with_reducible rfl
      try go_frame
      refine tks (oi := ⟨_, _, _, _, _, _⟩) (v := ?_) 15 rfl (.inl ⟨by rfl, ?_⟩) ?_; rotate_left
      · (intro wS hSw; (try dsimp only at hSw); go_simp); all_goals with_reducible rfl
      try go_frame
      refine tks (oi := ⟨_, _, _, _, _, _⟩) (v := ?_) 16 rfl (.inl ⟨by rfl, ?_⟩) ?_; rotate_left
      · (intro wS hSw; (try dsimp only at hSw); go_simp); all_goals with_reducible rfl
      try go_frame
      refine tks (oi := ⟨_, _, _, _, _, _⟩) (v := ?_) 17 rfl (.inl ⟨by rfl, ?_⟩) ?_; rotate_left
      · (intro wS hSw; (try dsimp only at hSw); go_simp); all_goals with_reducible rfl
      try go_frame
      refine tks (oi := ⟨_, _, _, _, _, _⟩) (v := ?_) 18 rfl (.inl ⟨by rfl, ?_⟩) ?_; rotate_left
      · (intro wS hSw; (try dsimp only at hSw); go_simp); all_goals with_reducible rfl
      try go_frame
      refine tks (oi := ⟨_, _, _, _, _, _⟩) (v := ?_) 19 rfl (.inl ⟨by rfl, ?_⟩) ?_; rotate_left
      · (intro wS hSw; (try dsimp only at hSw); go_simp); all_goals with_reducible rfl
      try go_frame
      refine tks (oi := ⟨_, _, _, _, _, _⟩) (v := ?_) 20 rfl (.inl ⟨by rfl, ?_⟩) ?_; rotate_left
      · (intro wS hSw; (try dsimp only at hSw); go_simp); all_goals with_reducible rfl
      try go_frame
      refine tks (oi := ⟨_, _, _, _, _, _⟩) (v := ?_) 21 rfl (.inl ⟨by rfl, ?_⟩) ?_; rotate_left
      · (intro wS hSw; (try dsimp only at hSw); go_simp); all_goals with_reducible rfl
      try go_frame
      refine tks (oi := ⟨_, _, _, _, _, _⟩) (v := ?_) 22 rfl (.inl ⟨by rfl, ?_⟩) ?_; rotate_left
      · (intro wS hSw; (try dsimp only at hSw); go_simp); all_goals with_reducible rfl
      try go_frame
      refine tks (oi := ⟨_, _, _, _, _, _⟩) (v := ?_) 23 rfl (.inl ⟨by rfl, ?_⟩) ?_; rotate_left
      · (intro wS hSw; (try dsimp only at hSw); go_simp); all_goals with_reducible rfl
      try go_frame
      refine tks (oi := ⟨_, _, _, _, _, _⟩) (v := ?_) 24 rfl (.inl ⟨by rfl, ?_⟩) ?_; rotate_left
      · (intro wS hSw; (try dsimp only at hSw); go_simp); all_goals with_reducible rfl
      try go_frame
      refine tks (oi := ⟨_, _, _, _, _, _⟩) (v := ?_) 25 rfl (.inl ⟨by rfl, ?_⟩) ?_; rotate_left
      · (intro wS hSw; (try dsimp only at hSw); go_simp); all_goals with_reducible rfl
      try go_frame
      refine tks (oi := ⟨_, _, _, _, _, _⟩) (v := ?_) 26 rfl (.inl ⟨by rfl, ?_⟩) ?_; rotate_left
      · (intro wS hSw; (try dsimp only at hSw); go_simp); all_goals with_reducible rfl
      try go_frame
      refine tks (oi := ⟨_, _, _, _, _, _⟩) (v := ?_) 27 rfl (.inl ⟨by rfl, ?_⟩) ?_; rotate_left
      · (intro wS hSw; (try dsimp only at hSw); go_simp); all_goals with_reducible rfl
      try go_frame
      refine tks (oi := ⟨_, _, _, _, _, _⟩) (v := ?_) 28 rfl (.inl ⟨by rfl, ?_⟩) ?_; rotate_left
      · (intro wS hSw; (try dsimp only at hSw); go_simp); all_goals with_reducible rfl
      try go_frame
      refine tks (oi := ⟨_, _, _, _, _, _⟩) (v := ?_) 29 rfl (.inl ⟨by rfl, ?_⟩) ?_; rotate_left
      · (intro wS hSw; (try dsimp only at hSw); go_simp); all_goals with_reducible rfl
      try go_frame
      refine tks (oi := ⟨_, _, _, _, _, _⟩) (v := ?_) 30 rfl (.inl ⟨by rfl, ?_⟩) ?_; rotate_left
      · (intro wS hSw; (try dsimp only at hSw); go_simp); all_goals with_reducible rfl
      try go_frame
      refine tks (oi := ⟨_, _, _, _, _, _⟩) (v := ?_) 31 rfl (.inl ⟨by rfl, ?_⟩) ?_; rotate_left
      · (intro wS hSw; (try dsimp only at hSw); go_simp); all_goals with_reducible rfl
      try go_frame
      refine tks (oi := ⟨_, _, _, _, _, _⟩) (v := ?_) 32 rfl (.inl ⟨by rfl, ?_⟩) ?_; rotate_left
      · (intro wS hSw; (try dsimp only at hSw); go_simp); all_goals with_reducible rfl
      try go_frame
      refine tks (oi := ⟨_, _, _, _, _, _⟩) (v := ?_) 33 rfl (.inl ⟨by rfl, ?_⟩) ?_; rotate_left
      · (intro wS hSw; (try dsimp only at hSw); go_simp); all_goals with_reducible rfl
      try go_frame
      refine tks (oi := ⟨_, _, _, _, _, _⟩) (v := ?_) 34 rfl (.inl ⟨by rfl, ?_⟩) ?_; rotate_left
      · (intro wS hSw; (try dsimp only at hSw); go_simp); all_goals with_reducible rfl
      try go_frame
      refine tks (oi := ⟨_, _, _, _, _, _⟩) (v := ?_) 35 rfl (.inl ⟨by rfl, ?_⟩) ?_; rotate_left
      · (intro wS hSw; (try dsimp only at hSw); go_simp); all_goals with_reducible rfl
      try go_frame
      refine tks (oi := ⟨_, _, _, _, _, _⟩) (v := ?_) 36 rfl (.inl ⟨by rfl, ?_⟩) ?_; rotate_left
      · (intro wS hSw; (try dsimp only at hSw); go_simp); all_goals with_reducible rfl
      try go_frame
      refine tks (oi := ⟨_, _, _, _, _, _⟩) (v := ?_) 37 rfl (.inl ⟨by rfl, ?_⟩) ?_; rotate_left
      · (intro wS hSw; (try dsimp only at hSw); go_simp); all_goals with_reducible rfl
      try go_frame
      refine tks (oi := ⟨_, _, _, _, _, _⟩) (v := ?_) 38 rfl (.inl ⟨by rfl, ?_⟩) ?_; rotate_left
      · (intro wS hSw; (try dsimp only at hSw); go_simp); all_goals with_reducible rfl
      try go_frame
      refine tks (oi := ⟨_, _, _, _, _, _⟩) (v := ?_) 39 rfl (.inl ⟨by rfl, ?_⟩) ?_; rotate_left
      · (intro wS hSw; (try dsimp only at hSw); go_simp); all_goals with_reducible rfl
      try go_frame
      refine tks (oi := ⟨_, _, _, _, _, _⟩) (v := ?_) 40 rfl (.inl ⟨by rfl, ?_⟩) ?_; rotate_left
      · (intro wS hSw; (try dsimp only at hSw); go_simp); all_goals with_reducible rfl
      try go_frame
      refine tks (oi := ⟨_, _, _, _, _, _⟩) (v := ?_) 41 rfl (.inl ⟨by rfl, ?_⟩) ?_; rotate_left
      · (intro wS hSw; (try dsimp only at hSw); go_simp); all_goals with_reducible rfl
      try go_frame
      refine tks (oi := ⟨_, _, _, _, _, _⟩) (v := ?_) 42 rfl (.inl ⟨by rfl, ?_⟩) ?_; rotate_left
      · (intro wS hSw; (try dsimp only at hSw); go_simp); all_goals with_reducible rfl
      try go_frame
      refine tks (oi := ⟨_, _, _, _, _, _⟩) (v := ?_) 43 rfl (.inl ⟨by rfl, ?_⟩) ?_; rotate_left
      · (intro wS hSw; (try dsimp only at hSw); go_simp); all_goals with_reducible rfl
      try go_frame
      refine tks (oi := ⟨_, _, _, _, _, _⟩) (v := ?_) 44 rfl (.inl ⟨by rfl, ?_⟩) ?_; rotate_left
      · (intro wS hSw; (try dsimp only at hSw); go_simp); all_goals with_reducible rfl
      try go_frame
      refine tks (oi := ⟨_, _, _, _, _, _⟩) (v := ?_) 45 rfl (.inl ⟨by rfl, ?_⟩) ?_; rotate_left
      · (intro wS hSw; (try dsimp only at hSw); go_simp); all_goals with_reducible rfl
      try go_frame
      refine wpAnyH_done (by kernel_rfl) ?_ _
      clear hHeld
      obtain ⟨h0, h1⟩ := HS.out
      go_wp2_with fail
      go_ret
      refine ⟨?_, ?_, grown_drew hg.out⟩
      · have := HIN.out
        simp
        omega
      · have := HR.out.drew
        rw [show r.pos + n = p from by have := HIN.out; omega]; exact this
    · have HIN : Hid (p = r.pos + n) := by
        show _ = _
        rw [← hin.out, List.drop_eq_nil_of_le (by have := HL.out; omega)]; rfl
      have t3 : decide ((p : Int) < r.s.size) = false := by simp; omega
      have t4 : decide (p < r.s.size) = false := by simp; omega
      clear hin
      go_wp2_with fail
      refine wp_region_held_drew (S := fun w' => w'.cell? ⟨b, 0, none⟩ = some (.string r.s) ∧ w'.cell? ⟨b, 1, none⟩ = some (.int .i64 p)) (by kernel_rfl) HS.out (fun hHeld => ?_)
      refine tks (oi := ⟨_, _, _, _, _, _⟩) (v := ?_) 0 rfl (.inl ⟨by rfl, ?_⟩) ?_; rotate_left
      · (intro wS hSw; (try dsimp only at hSw); go_simp); all_goals with_reducible rfl
      try go_frame
      refine tks (oi := ⟨_, _, _, _, _, _⟩) (v := ?_) 1 rfl (.inl ⟨by rfl, ?_⟩) ?_; rotate_left
      · (intro wS hSw; (try dsimp only at hSw); go_simp); all_goals with_reducible rfl
      try go_frame
      refine tks (oi := ⟨_, _, _, _, _, _⟩) (v := ?_) 2 rfl (.inl ⟨by rfl, ?_⟩) ?_; rotate_left
      · (intro wS hSw; (try dsimp only at hSw); go_simp); all_goals with_reducible rfl
      try go_frame
      refine tks (oi := ⟨_, _, _, _, _, _⟩) (v := ?_) 3 rfl (.inl ⟨by rfl, ?_⟩) ?_; rotate_left
      · (intro wS hSw; (try dsimp only at hSw); go_simp); all_goals with_reducible rfl
      try go_frame
      refine tks (oi := ⟨_, _, _, _, _, _⟩) (v := ?_) 4 rfl (.inl ⟨by rfl, ?_⟩) ?_; rotate_left
      · (intro wS hSw; (try dsimp only at hSw); go_simp); all_goals with_reducible rfl
      try go_frame
      refine tks (oi := ⟨_, _, _, _, _, _⟩) (v := ?_) 5 rfl (.inl ⟨by rfl, ?_⟩) ?_; rotate_left
      · (intro wS hSw; (try dsimp only at hSw); go_simp); all_goals with_reducible rfl
      try go_frame
      refine tks (oi := ⟨_, _, _, _, _, _⟩) (v := ?_) 6 rfl (.inl ⟨by rfl, ?_⟩) ?_; rotate_left
      · (intro wS hSw; (try dsimp only at hSw); go_simp); all_goals with_reducible rfl
      try go_frame
      refine tks (oi := ⟨_, _, _, _, _, _⟩) (v := ?_) 7 rfl (.inl ⟨by rfl, ?_⟩) ?_; rotate_left
      · (intro wS hSw; (try dsimp only at hSw); go_simp); all_goals with_reducible rfl
      try go_frame
      refine tks (oi := ⟨_, _, _, _, _, _⟩) (v := ?_) 8 rfl (.inl ⟨by rfl, ?_⟩) ?_; rotate_left
      · (intro wS hSw; (try dsimp only at hSw); go_simp); all_goals with_reducible rfl
      try go_frame
      refine tks (oi := ⟨_, _, _, _, _, _⟩) (v := ?_) 9 rfl (.inl ⟨by rfl, ?_⟩) ?_; rotate_left
      · (intro wS hSw; (try dsimp only at hSw); go_simp); all_goals with_reducible rfl
      try go_frame
      refine tks (oi := ⟨_, _, _, _, _, _⟩) (v := ?_) 10 rfl (.inl ⟨by rfl, ?_⟩) ?_; rotate_left
      · (intro wS hSw; (try dsimp only at hSw); go_simp); all_goals with_reducible rfl
      try go_frame
      refine tks (oi := ⟨_, _, _, _, _, _⟩) (v := undef) 11 rfl (.inr ⟨by rfl, rfl⟩) ?_
      try go_frame
      refine tks (oi := ⟨_, _, _, _, _, _⟩) (v := undef) 12 rfl (.inr ⟨by rfl, rfl⟩) ?_
      try go_frame
      refine tks (oi := ⟨_, _, _, _, _, _⟩) (v := undef) 13 rfl (.inr ⟨by rfl, rfl⟩) ?_
      try go_frame
      refine tks (oi := ⟨_, _, _, _, _, _⟩) (v := undef) 14 rfl (.inr ⟨by rfl, rfl⟩) ?_
      try go_frame
      refine tks (oi := ⟨_, _, _, _, _, _⟩) (v := undef) 15 rfl (.inr ⟨by rfl, rfl⟩) ?_
      try go_frame
      refine tks (oi := ⟨_, _, _, _, _, _⟩) (v := undef) 16 rfl (.inr ⟨by rfl, rfl⟩) ?_
      try go_frame
      refine tks (oi := ⟨_, _, _, _, _, _⟩) (v := undef) 17 rfl (.inr ⟨by rfl, rfl⟩) ?_
      try go_frame
      refine tks (oi := ⟨_, _, _, _, _, _⟩) (v := undef) 18 rfl (.inr ⟨by rfl, rfl⟩) ?_
      try go_frame
      refine tks (oi := ⟨_, _, _, _, _, _⟩) (v := undef) 19 rfl (.inr ⟨by rfl, rfl⟩) ?_
      try go_frame
      refine tks (oi := ⟨_, _, _, _, _, _⟩) (v := undef) 20 rfl (.inr ⟨by rfl, rfl⟩) ?_
      try go_frame
      refine tks (oi := ⟨_, _, _, _, _, _⟩) (v := undef) 21 rfl (.inr ⟨by rfl, rfl⟩) ?_
      try go_frame
      refine tks (oi := ⟨_, _, _, _, _, _⟩) (v := undef) 22 rfl (.inr ⟨by rfl, rfl⟩) ?_
      try go_frame
      refine tks (oi := ⟨_, _, _, _, _, _⟩) (v := undef) 23 rfl (.inr ⟨by rfl, rfl⟩) ?_
      try go_frame
      refine tks (oi := ⟨_, _, _, _, _, _⟩) (v := undef) 24 rfl (.inr ⟨by rfl, rfl⟩) ?_
      try go_frame
      refine tks (oi := ⟨_, _, _, _, _, _⟩) (v := undef) 25 rfl (.inr ⟨by rfl, rfl⟩) ?_
      try go_frame
      refine tks (oi := ⟨_, _, _, _, _, _⟩) (v := undef) 26 rfl (.inr ⟨by rfl, rfl⟩) ?_
      try go_frame
      refine tks (oi := ⟨_, _, _, _, _, _⟩) (v := undef) 27 rfl (.inr ⟨by rfl, rfl⟩) ?_
      try go_frame
      refine tks (oi := ⟨_, _, _, _, _, _⟩) (v := undef) 28 rfl (.inr ⟨by rfl, rfl⟩) ?_
      try go_frame
      refine tks (oi := ⟨_, _, _, _, _, _⟩) (v := undef) 29 rfl (.inr ⟨by rfl, rfl⟩) ?_
      try go_frame
      refine tks (oi := ⟨_, _, _, _, _, _⟩) (v := undef) 30 rfl (.inr ⟨by rfl, rfl⟩) ?_
      try go_frame
      refine tks (oi := ⟨_, _, _, _, _, _⟩) (v := undef) 31 rfl (.inr ⟨by rfl, rfl⟩) ?_
      try go_frame
      refine tks (oi := ⟨_, _, _, _, _, _⟩) (v := undef) 32 rfl (.inr ⟨by rfl, rfl⟩) ?_
      try go_frame
      refine tks (oi := ⟨_, _, _, _, _, _⟩) (v := undef) 33 rfl (.inr ⟨by rfl, rfl⟩) ?_
      try go_frame
      refine tks (oi := ⟨_, _, _, _, _, _⟩) (v := undef) 34 rfl (.inr ⟨by rfl, rfl⟩) ?_
      try go_frame
      refine tks (oi := ⟨_, _, _, _, _, _⟩) (v := undef) 35 rfl (.inr ⟨by rfl, rfl⟩) ?_
      try go_frame
      refine tks (oi := ⟨_, _, _, _, _, _⟩) (v := undef) 36 rfl (.inr ⟨by rfl, rfl⟩) ?_
      try go_frame
      refine tks (oi := ⟨_, _, _, _, _, _⟩) (v := undef) 37 rfl (.inr ⟨by rfl, rfl⟩) ?_
      try go_frame
      refine tks (oi := ⟨_, _, _, _, _, _⟩) (v := undef) 38 rfl (.inr ⟨by rfl, rfl⟩) ?_
      try go_frame
      refine tks (oi := ⟨_, _, _, _, _, _⟩) (v := undef) 39 rfl (.inr ⟨by rfl, rfl⟩) ?_
      try go_frame
      refine tks (oi := ⟨_, _, _, _, _, _⟩) (v := undef) 40 rfl (.inr ⟨by rfl, rfl⟩) ?_
      try go_frame
      refine tks (oi := ⟨_, _, _, _, _, _⟩) (v := undef) 41 rfl (.inr ⟨by rfl, rfl⟩) ?_
      try go_frame
      refine tks (oi := ⟨_, _, _, _, _, _⟩) (v := undef) 42 rfl (.inr ⟨by rfl, rfl⟩) ?_
      try go_frame
      refine tks (oi := ⟨_, _, _, _, _, _⟩) (v := undef) 43 rfl (.inr ⟨by rfl, rfl⟩) ?_
      try go_frame
      refine tks (oi := ⟨_, _, _, _, _, _⟩) (v := undef) 44 rfl (.inr ⟨by rfl, rfl⟩) ?_
      try go_frame
      refine tks (oi := ⟨_, _, _, _, _, _⟩) (v := ?_) 45 rfl (.inl ⟨by rfl, ?_⟩) ?_; rotate_left
      · (intro wS hSw; (try dsimp only at hSw); go_simp); all_goals with_reducible rfl
      try go_frame
      refine wpAnyH_done (by kernel_rfl) ?_ _
      clear hHeld
      obtain ⟨h0, h1⟩ := HS.out
      go_wp2_with fail
      go_ret
      refine ⟨?_, ?_, grown_drew hg.out⟩
      · have := HIN.out
        simp
        omega
      · have := HR.out.drew
        rw [show r.pos + n = p from by have := HIN.out; omega]; exact this

theorem stop_idx (x : UInt8) : decide (Lib.indexByte [32, 9, 10, 61, 62, 60, 47, 34] x < 0) = nb x := by
  by_cases h1 : x = 32
  · subst h1; decide
  by_cases h2 : x = 9
  · subst h2; decide
  by_cases h3 : x = 10
  · subst h3; decide
  by_cases h4 : x = 61
  · subst h4; decide
  by_cases h5 : x = 62
  · subst h5; decide
  by_cases h6 : x = 60
  · subst h6; decide
  by_cases h7 : x = 47
  · subst h7; decide
  by_cases h8 : x = 34
  · subst h8; decide
  simp [Lib.indexByte, nb, h1, h2, h3, h4, h5, h6, h7, h8, Ne.symm h1, Ne.symm h2, Ne.symm h3, Ne.symm h4, Ne.symm h5, Ne.symm h6, Ne.symm h7, Ne.symm h8]

theorem ba_list (s : ByteArray) : s = ⟨s.data.toList.toArray⟩ := by simp
theorem u8_back (x : UInt8) : ((x.toNat : Int)).toNat.toUInt8 = x := by simp

def WordInv (w : World) (b : Nat) (r : Rdr) (n : List UInt8) (g : Nat) (wr : World) : Prop :=
  ∃ p : Nat, r.pos ≤ p ∧ p ≤ r.s.size ∧ g = r.s.size - p ∧ Hid (RdAt wr b { r with pos := p }) ∧ Hid (p + (wordL (r.s.data.toList.drop p)).length = r.pos + n.length) ∧ Hid (w.grownBy wr (some b))




set_option maxRecDepth 100000 in
set_option maxHeartbeats 4000000 in
theorem word_any (b : Nat) (r : Rdr) (w : World) (h : RdAt w b r) (hp : r.pos ≤ r.s.size) (hs : r.s.size ≤ 1000000000) (n : List UInt8) (hn : Hid (wordL (r.s.data.toList.drop r.pos) = n)) (v : Bool) (hv : Hid (nameL n = v)) (R : Rdr) (hR : Hid ((if v then { r with pos := r.pos + n.length } else { r with pos := r.pos + n.length, bad := r.pos, code := 31 }) = R)) (T : List UInt8) (hT : Hid ((if v then n else []) = T)) :
    Calls Try.prog 70 #[.pointer (some ⟨b, 0, none⟩)] w (RdPost w b R (.tuple #[.string ⟨T.toArray⟩, .bool v])) := by
  have H := Lib.hid h
  obtain ⟨h0, h1, _⟩ := h.all
  have HL := Lib.hid (size_toList r.s)
  clear h
  go_enter Try.func70, Try.ntmps70
  go_wp2_with fail
  clear h0 h1
  go_loopg [] (r.s.size - r.pos) (fun g wr => WordInv w b r n g wr)
  case atStart => exact ⟨r.pos, Nat.le_refl _, hp, rfl, H.out, by show _ = _; rw [hn.out], World.grownBy.refl w _⟩
  case round =>
    obtain ⟨p, hrp, hk, rfl, HR, hin, hg⟩ := hrel
    have HS : Hid (wr.drew.cell? ⟨b, 0, none⟩ = some (.string r.s) ∧ wr.drew.cell? ⟨b, 1, none⟩ = some (.int .i64 p)) := ⟨HR.out.drew.all.1, HR.out.drew.all.2.1⟩
    by_cases hlt : p < r.s.size
    · obtain ⟨x, HX⟩ : ∃ x, Hid (r.s.data.toList[p]? = some x) := ⟨r.s.data.toList[p]'(by have := HL.out; omega), List.getElem?_eq_getElem _⟩
      have hsx : r.s[p] = x := getk_of r.s p x HX.out hlt
      have hin' := hin.out
      rw [drop_cons HX.out, wordL_cons] at hin'
      have j0 : (0 : Int) ≤ (p : Int) := by omega
      have j1 : (p : Int) < r.s.size := by omega
      clear hin
      have hst := stop_idx x
      obtain ⟨q, hq⟩ : ∃ q, Hid (Lib.indexByte [32, 9, 10, 61, 62, 60, 47, 34] x = q) := ⟨_, rfl⟩
      rw [hq.out] at hst
      cases hnb : nb x with
      | true =>
        rw [hnb] at hst hin'
        have HIN : Hid (p + 1 + (wordL (r.s.data.toList.drop (p + 1))).length = r.pos + n.length) := by show _ = _; rw [← hin', if_pos rfl, List.length_cons]; omega
        clear hin' hnb
        go_wp2_with fail
        refine wp_region_held_drew (S := fun w' => w'.cell? ⟨b, 0, none⟩ = some (.string r.s) ∧ w'.cell? ⟨b, 1, none⟩ = some (.int .i64 p)) (by kernel_rfl) HS.out (fun hHeld => ?_)
        refine tks (oi := ⟨_, _, _, _, _, _⟩) (v := ?_) 0 rfl (.inl ⟨by rfl, ?_⟩) ?_; rotate_left
        · (intro wS hSw; (try dsimp only at hSw); go_simp); all_goals with_reducible rfl
        try go_frame
        refine tks (oi := ⟨_, _, _, _, _, _⟩) (v := ?_) 1 rfl (.inl ⟨by rfl, ?_⟩) ?_; rotate_left
        · (intro wS hSw; (try dsimp only at hSw); go_simp); all_goals with_reducible rfl
        try go_frame
        refine tks (oi := ⟨_, _, _, _, _, _⟩) (v := ?_) 2 rfl (.inl ⟨by rfl, ?_⟩) ?_; rotate_left
        · (intro wS hSw; (try dsimp only at hSw); go_simp); all_goals with_reducible rfl
        try go_frame
        refine tks (oi := ⟨_, _, _, _, _, _⟩) (v := ?_) 3 rfl (.inl ⟨by rfl, ?_⟩) ?_; rotate_left
        · (intro wS hSw; (try dsimp only at hSw); go_simp); all_goals with_reducible rfl
        try go_frame
        refine tks (oi := ⟨_, _, _, _, _, _⟩) (v := ?_) 4 rfl (.inl ⟨by rfl, ?_⟩) ?_; rotate_left
        · (intro wS hSw; (try dsimp only at hSw); go_simp); all_goals with_reducible rfl
        try go_frame
        refine tks (oi := ⟨_, _, _, _, _, _⟩) (v := ?_) 5 rfl (.inl ⟨by rfl, ?_⟩) ?_; rotate_left
        · (intro wS hSw; (try dsimp only at hSw); go_simp); all_goals with_reducible rfl
        try go_frame
        refine tks (oi := ⟨_, _, _, _, _, _⟩) (v := ?_) 6 rfl (.inl ⟨by rfl, ?_⟩) ?_; rotate_left
        · (intro wS hSw; (try dsimp only at hSw); go_simp); all_goals with_reducible rfl
        try go_frame
        refine tks (oi := ⟨_, _, _, _, _, _⟩) (v := ?_) 7 rfl (.inl ⟨by rfl, ?_⟩) ?_; rotate_left
        · (intro wS hSw; (try dsimp only at hSw); go_simp); all_goals with_reducible rfl
        try go_frame
        refine tks (oi := ⟨_, _, _, _, _, _⟩) (v := ?_) 8 rfl (.inl ⟨by rfl, ?_⟩) ?_; rotate_left
        · (intro wS hSw; (try dsimp only at hSw); go_simp); all_goals with_reducible rfl
        try go_frame
        refine tks (oi := ⟨_, _, _, _, _, _⟩) (v := ?_) 9 rfl (.inl ⟨by rfl, ?_⟩) ?_; rotate_left
        · (intro wS hSw; (try dsimp only at hSw); go_simp); all_goals with_reducible rfl
        try go_frame
        refine tks (oi := ⟨_, _, _, _, _, _⟩) (v := ?_) 10 rfl (.inl ⟨by rfl, ?_⟩) ?_; rotate_left
        · (intro wS hSw; (try dsimp only at hSw); go_simp); all_goals with_reducible rfl
        try go_frame
        refine tks (oi := ⟨_, _, _, _, _, _⟩) (v := ?_) 11 rfl (.inl ⟨by rfl, ?_⟩) ?_; rotate_left
        · (intro wS hSw; (try dsimp only at hSw); go_simp); all_goals with_reducible rfl
        try go_frame
        refine tks (oi := ⟨_, _, _, _, _, _⟩) (v := ?_) 12 rfl (.inl ⟨by rfl, ?_⟩) ?_; rotate_left
        · (intro wS hSw; (try dsimp only at hSw); go_simp); all_goals with_reducible rfl
        try go_frame
        refine tks (oi := ⟨_, _, _, _, _, _⟩) (v := ?_) 13 rfl (.inl ⟨by rfl, ?_⟩) ?_; rotate_left
        · (intro wS hSw; (try dsimp only at hSw); go_simp); all_goals with_reducible rfl
        try go_frame
        refine tks (oi := ⟨_, _, _, _, _, _⟩) (v := ?_) 14 rfl (.inl ⟨by rfl, ?_⟩) ?_; rotate_left
        · (intro wS hSw; (try dsimp only at hSw); go_simp); all_goals with_reducible rfl
        try go_frame
        refine tks (oi := ⟨_, _, _, _, _, _⟩) (v := ?_) 15 rfl (.inl ⟨by rfl, ?_⟩) ?_; rotate_left
        · (intro wS hSw; (try dsimp only at hSw); go_simp); all_goals with_reducible rfl
        try go_frame
        refine tks (oi := ⟨_, _, _, _, _, _⟩) (v := ?_) 16 rfl (.inl ⟨by rfl, ?_⟩) ?_; rotate_left
        · (intro wS hSw; (try dsimp only at hSw); go_simp); all_goals with_reducible rfl
        try go_frame
        refine tks (oi := ⟨_, _, _, _, _, _⟩) (v := ?_) 17 rfl (.inl ⟨by rfl, ?_⟩) ?_; rotate_left
        · (intro wS hSw; (try dsimp only at hSw); go_simp); all_goals with_reducible rfl
        try go_frame
        refine tks (oi := ⟨_, _, _, _, _, _⟩) (v := ?_) 18 rfl (.inl ⟨by rfl, ?_⟩) ?_; rotate_left
        · (intro wS hSw; (try dsimp only at hSw); go_simp); all_goals with_reducible rfl
        try go_frame
        refine tks (oi := ⟨_, _, _, _, _, _⟩) (v := ?_) 19 rfl (.inl ⟨by rfl, ?_⟩) ?_; rotate_left
        · (intro wS hSw; (try dsimp only at hSw); go_simp); all_goals with_reducible rfl
        try go_frame
        refine wpAnyH_ready (rs := [20]) (by kernel_rfl) (by simp) ?_
        refine AllReadyH.cons (o := ⟨_, _, _, _, _, _⟩) rfl (fun K hK => ?_) AllReadyH.nil
        go_simp
        refine (Try.strings_IndexByte _ _ _).mono ?_
        rw [u8_back]
        have hq' := hq.out
        unfold Hid at hq'
        rintro e w2 ⟨rfl, rfl⟩
        rw [show (⟨#[32, 9, 10, 61, 62, 60, 47, 34]⟩ : ByteArray).data.toList = [32, 9, 10, 61, 62, 60, 47, 34] from rfl, hq']
        clear hq'
        go_wp2_with fail
        refine hK.out _ _ (HS.out) (fun hHeld => ?_)
        clear hK K
        try go_frame
        refine tks (oi := ⟨_, _, _, _, _, _⟩) (v := ?_) 21 rfl (.inl ⟨by rfl, ?_⟩) ?_; rotate_left
        · (intro wS hSw; (try dsimp only at hSw); go_simp); all_goals with_reducible rfl
        try go_frame
        refine tks (oi := ⟨_, _, _, _, _, _⟩) (v := ?_) 22 rfl (.inl ⟨by rfl, ?_⟩) ?_; rotate_left
        · (intro wS hSw; (try dsimp only at hSw); go_simp); all_goals with_reducible rfl
        try go_frame
        refine wpAnyH_done (by kernel_rfl) ?_ _
        clear hHeld
        obtain ⟨h0, h1⟩ := HS.out
        have f1 : wr.drew.frozen? ⟨b, 1, none⟩ = false := HR.out.drew.froz 1
        go_wp2_with fail
        go_roundg (r.s.size - (p + 1))
        case measure => omega
        case rel => exact ⟨p + 1, by omega, by omega, rfl, HR.out.drew.pos (p + 1), HIN, grown_twice (grown_drew hg.out) (Lib.grownBy_setCell _ b 1 _)⟩
      | false =>
        rw [hnb] at hst hin'
        have HIN : Hid (p = r.pos + n.length) := hin'
        clear hin' hnb
        go_wp2_with fail
        refine wp_region_held_drew (S := fun w' => w'.cell? ⟨b, 0, none⟩ = some (.string r.s) ∧ w'.cell? ⟨b, 1, none⟩ = some (.int .i64 p)) (by kernel_rfl) HS.out (fun hHeld => ?_)
        refine tks (oi := ⟨_, _, _, _, _, _⟩) (v := ?_) 0 rfl (.inl ⟨by rfl, ?_⟩) ?_; rotate_left
        · (intro wS hSw; (try dsimp only at hSw); go_simp); all_goals with_reducible rfl
        try go_frame
        refine tks (oi := ⟨_, _, _, _, _, _⟩) (v := ?_) 1 rfl (.inl ⟨by rfl, ?_⟩) ?_; rotate_left
        · (intro wS hSw; (try dsimp only at hSw); go_simp); all_goals with_reducible rfl
        try go_frame
        refine tks (oi := ⟨_, _, _, _, _, _⟩) (v := ?_) 2 rfl (.inl ⟨by rfl, ?_⟩) ?_; rotate_left
        · (intro wS hSw; (try dsimp only at hSw); go_simp); all_goals with_reducible rfl
        try go_frame
        refine tks (oi := ⟨_, _, _, _, _, _⟩) (v := ?_) 3 rfl (.inl ⟨by rfl, ?_⟩) ?_; rotate_left
        · (intro wS hSw; (try dsimp only at hSw); go_simp); all_goals with_reducible rfl
        try go_frame
        refine tks (oi := ⟨_, _, _, _, _, _⟩) (v := ?_) 4 rfl (.inl ⟨by rfl, ?_⟩) ?_; rotate_left
        · (intro wS hSw; (try dsimp only at hSw); go_simp); all_goals with_reducible rfl
        try go_frame
        refine tks (oi := ⟨_, _, _, _, _, _⟩) (v := ?_) 5 rfl (.inl ⟨by rfl, ?_⟩) ?_; rotate_left
        · (intro wS hSw; (try dsimp only at hSw); go_simp); all_goals with_reducible rfl
        try go_frame
        refine tks (oi := ⟨_, _, _, _, _, _⟩) (v := ?_) 6 rfl (.inl ⟨by rfl, ?_⟩) ?_; rotate_left
        · (intro wS hSw; (try dsimp only at hSw); go_simp); all_goals with_reducible rfl
        try go_frame
        refine tks (oi := ⟨_, _, _, _, _, _⟩) (v := ?_) 7 rfl (.inl ⟨by rfl, ?_⟩) ?_; rotate_left
        · (intro wS hSw; (try dsimp only at hSw); go_simp); all_goals with_reducible rfl
        try go_frame
        refine tks (oi := ⟨_, _, _, _, _, _⟩) (v := ?_) 8 rfl (.inl ⟨by rfl, ?_⟩) ?_; rotate_left
        · (intro wS hSw; (try dsimp only at hSw); go_simp); all_goals with_reducible rfl
        try go_frame
        refine tks (oi := ⟨_, _, _, _, _, _⟩) (v := ?_) 9 rfl (.inl ⟨by rfl, ?_⟩) ?_; rotate_left
        · (intro wS hSw; (try dsimp only at hSw); go_simp); all_goals with_reducible rfl
        try go_frame
        refine tks (oi := ⟨_, _, _, _, _, _⟩) (v := ?_) 10 rfl (.inl ⟨by rfl, ?_⟩) ?_; rotate_left
        · (intro wS hSw; (try dsimp only at hSw); go_simp); all_goals with_reducible rfl
        try go_frame
        refine tks (oi := ⟨_, _, _, _, _, _⟩) (v := ?_) 11 rfl (.inl ⟨by rfl, ?_⟩) ?_; rotate_left
        · (intro wS hSw; (try dsimp only at hSw); go_simp); all_goals with_reducible rfl
        try go_frame
        refine tks (oi := ⟨_, _, _, _, _, _⟩) (v := ?_) 12 rfl (.inl ⟨by rfl, ?_⟩) ?_; rotate_left
        · (intro wS hSw; (try dsimp only at hSw); go_simp); all_goals with_reducible rfl
        try go_frame
        refine tks (oi := ⟨_, _, _, _, _, _⟩) (v := ?_) 13 rfl (.inl ⟨by rfl, ?_⟩) ?_; rotate_left
        · (intro wS hSw; (try dsimp only at hSw); go_simp); all_goals with_reducible rfl
        try go_frame
        refine tks (oi := ⟨_, _, _, _, _, _⟩) (v := ?_) 14 rfl (.inl ⟨by rfl, ?_⟩) ?_; rotate_left
        · (intro wS hSw; (try dsimp only at hSw); go_simp); all_goals with_reducible rfl
        try go_frame
        refine tks (oi := ⟨_, _, _, _, _, _⟩) (v := ?_) 15 rfl (.inl ⟨by rfl, ?_⟩) ?_; rotate_left
        · (intro wS hSw; (try dsimp only at hSw); go_simp); all_goals with_reducible rfl
        try go_frame
        refine tks (oi := ⟨_, _, _, _, _, _⟩) (v := ?_) 16 rfl (.inl ⟨by rfl, ?_⟩) ?_; rotate_left
        · (intro wS hSw; (try dsimp only at hSw); go_simp); all_goals with_reducible rfl
        try go_frame
        refine tks (oi := ⟨_, _, _, _, _, _⟩) (v := ?_) 17 rfl (.inl ⟨by rfl, ?_⟩) ?_; rotate_left
        · (intro wS hSw; (try dsimp only at hSw); go_simp); all_goals with_reducible rfl
        try go_frame
        refine tks (oi := ⟨_, _, _, _, _, _⟩) (v := ?_) 18 rfl (.inl ⟨by rfl, ?_⟩) ?_; rotate_left
        · (intro wS hSw; (try dsimp only at hSw); go_simp); all_goals with_reducible rfl
        try go_frame
        refine tks (oi := ⟨_, _, _, _, _, _⟩) (v := ?_) 19 rfl (.inl ⟨by rfl, ?_⟩) ?_; rotate_left
        · (intro wS hSw; (try dsimp only at hSw); go_simp); all_goals with_reducible rfl
        try go_frame
        refine wpAnyH_ready (rs := [20]) (by kernel_rfl) (by simp) ?_
        refine AllReadyH.cons (o := ⟨_, _, _, _, _, _⟩) rfl (fun K hK => ?_) AllReadyH.nil
        go_simp
        refine (Try.strings_IndexByte _ _ _).mono ?_
        rw [u8_back]
        have hq' := hq.out
        unfold Hid at hq'
        rintro e w2 ⟨rfl, rfl⟩
        rw [show (⟨#[32, 9, 10, 61, 62, 60, 47, 34]⟩ : ByteArray).data.toList = [32, 9, 10, 61, 62, 60, 47, 34] from rfl, hq']
        clear hq'
        go_wp2_with fail
        refine hK.out _ _ (HS.out) (fun hHeld => ?_)
        clear hK K
        try go_frame
        refine tks (oi := ⟨_, _, _, _, _, _⟩) (v := ?_) 21 rfl (.inl ⟨by rfl, ?_⟩) ?_; rotate_left
        · (intro wS hSw; (try dsimp only at hSw); go_simp); all_goals with_reducible rfl
        try go_frame
        refine tks (oi := ⟨_, _, _, _, _, _⟩) (v := ?_) 22 rfl (.inl ⟨by rfl, ?_⟩) ?_; rotate_left
        · (intro wS hSw; (try dsimp only at hSw); go_simp); all_goals with_reducible rfl
        try go_frame
        refine wpAnyH_done (by kernel_rfl) ?_ _
        clear hHeld
        obtain ⟨h0, h1⟩ := HS.out
        have hnl : n.length ≤ (r.s.data.toList.drop r.pos).length := by rw [← hn.out]; exact wordL_len _
        have hext : Hid (r.s.extract r.pos p = ⟨n.toArray⟩) := by
          show _ = _
          rw [ba_list (r.s.extract r.pos p), Lib.extract_data]
          have : (r.s.data.toList.drop r.pos).take (p - r.pos) = n := by
            have hp2 := HIN.out
            rw [show p - r.pos = n.length by omega]
            have h2 := span_word (r.s.data.toList.drop r.pos) nb
            have h3 : (r.s.data.toList.drop r.pos).takeWhile nb = n := hn.out
            rw [h3] at h2
            conv => lhs; rw [h2]
            rw [List.take_append_of_le_length (Nat.le_refl _), List.take_length]
          rw [this]
        have i0 : (0 : Int) ≤ (r.pos : Int) := by omega
        have i1 : (r.pos : Int) ≤ p := by omega
        have i2 : (p : Int) ≤ r.s.size := by omega
        have hsz : n.length ≤ 1000000000 := by rw [List.length_drop, HL.out] at hnl; omega
        clear hnl
        go_wp2_with fail
        refine wp_region_held_drew (S := fun w' => w'.cell? ⟨b, 0, none⟩ = some (.string r.s) ∧ w'.cell? ⟨b, 1, none⟩ = some (.int .i64 p)) (by kernel_rfl) HS.out (fun hHeld => ?_)
        refine tks (oi := ⟨_, _, _, _, _, _⟩) (v := ?_) 0 rfl (.inl ⟨by rfl, ?_⟩) ?_; rotate_left
        · (intro wS hSw; (try dsimp only at hSw); go_simp); all_goals with_reducible rfl
        try go_frame
        refine tks (oi := ⟨_, _, _, _, _, _⟩) (v := ?_) 1 rfl (.inl ⟨by rfl, ?_⟩) ?_; rotate_left
        · (intro wS hSw; (try dsimp only at hSw); go_simp); all_goals with_reducible rfl
        try go_frame
        refine tks (oi := ⟨_, _, _, _, _, _⟩) (v := ?_) 2 rfl (.inl ⟨by rfl, ?_⟩) ?_; rotate_left
        · (intro wS hSw; (try dsimp only at hSw); go_simp); all_goals with_reducible rfl
        try go_frame
        refine tks (oi := ⟨_, _, _, _, _, _⟩) (v := ?_) 3 rfl (.inl ⟨by rfl, ?_⟩) ?_; rotate_left
        · (intro wS hSw; (try dsimp only at hSw); go_simp); all_goals with_reducible rfl
        try go_frame
        refine tks (oi := ⟨_, _, _, _, _, _⟩) (v := ?_) 4 rfl (.inl ⟨by rfl, ?_⟩) ?_; rotate_left
        · (intro wS hSw; (try dsimp only at hSw); go_simp); all_goals with_reducible rfl
        try go_frame
        refine tks (oi := ⟨_, _, _, _, _, _⟩) (v := ?_) 5 rfl (.inl ⟨by rfl, ?_⟩) ?_; rotate_left
        · (intro wS hSw; (try dsimp only at hSw); go_simp); all_goals with_reducible rfl
        try go_frame
        refine tks (oi := ⟨_, _, _, _, _, _⟩) (v := ?_) 6 rfl (.inl ⟨by rfl, ?_⟩) ?_; rotate_left
        · (intro wS hSw; (try dsimp only at hSw); go_simp); all_goals with_reducible rfl
        try go_frame
        refine tks (oi := ⟨_, _, _, _, _, _⟩) (v := ?_) 7 rfl (.inl ⟨by rfl, ?_⟩) ?_; rotate_left
        · (intro wS hSw; (try dsimp only at hSw); go_simp); all_goals with_reducible rfl
        try go_frame
        refine tks (oi := ⟨_, _, _, _, _, _⟩) (v := ?_) 8 rfl (.inl ⟨by rfl, ?_⟩) ?_; rotate_left
        · (intro wS hSw; (try dsimp only at hSw); go_simp); all_goals with_reducible rfl
        try go_frame
        refine tks (oi := ⟨_, _, _, _, _, _⟩) (v := ?_) 9 rfl (.inl ⟨by rfl, ?_⟩) ?_; rotate_left
        · (intro wS hSw; (try dsimp only at hSw); go_simp); all_goals with_reducible rfl
        try go_frame
        refine tks (oi := ⟨_, _, _, _, _, _⟩) (v := ?_) 10 rfl (.inl ⟨by rfl, ?_⟩) ?_; rotate_left
        · (intro wS hSw; (try dsimp only at hSw); go_simp); all_goals with_reducible rfl
        try go_frame
        refine wpAnyH_done (by kernel_rfl) ?_ _
        clear hHeld h0 h1
        rw [hext.out]
        go_wp2_with fail
        refine (Name_l n _ hsz v hv).mono ?_
        rintro e w2 ⟨rfl, hb2⟩
        have hR2 : RdAt w2 b { r with pos := r.pos + n.length } := by
          rw [← HIN.out]; exact RdAt.below (w := wr.drew.drew) HR.out.drew.drew hb2
        have hg2 : w.grownBy w2 (some b) := Lib.grownBy_below (grown_drew (grown_drew hg.out)) hb2
        cases v with
        | true =>
          go_wp2_with fail
          go_ret2
          exact ⟨by rw [← hT.out]; rfl, by rw [← hR.out]; exact hR2, hg2⟩
        | false =>
          go_wp2_with fail
          refine (fail_any b _ w2 hR2 r.pos 31).mono ?_
          rintro e w3 ⟨rfl, h3, hg3⟩
          go_wp2_with fail
          go_ret2
          exact ⟨by rw [← hT.out]; rfl, by rw [← hR.out]; exact h3, grown_twice hg2 hg3⟩
    · have HIN : Hid (p = r.pos + n.length) := by
        show _ = _
        rw [← hin.out, List.drop_eq_nil_of_le (by have := HL.out; omega)]; rfl
      have t3 : decide ((p : Int) < r.s.size) = false := by simp; omega
      have t4 : decide (p < r.s.size) = false := by simp; omega
      clear hin
      go_wp2_with fail
      refine wp_region_held_drew (S := fun w' => w'.cell? ⟨b, 0, none⟩ = some (.string r.s) ∧ w'.cell? ⟨b, 1, none⟩ = some (.int .i64 p)) (by kernel_rfl) HS.out (fun hHeld => ?_)
      refine tks (oi := ⟨_, _, _, _, _, _⟩) (v := ?_) 0 rfl (.inl ⟨by rfl, ?_⟩) ?_; rotate_left
      · (intro wS hSw; (try dsimp only at hSw); go_simp); all_goals with_reducible rfl
      try go_frame
      refine tks (oi := ⟨_, _, _, _, _, _⟩) (v := ?_) 1 rfl (.inl ⟨by rfl, ?_⟩) ?_; rotate_left
      · (intro wS hSw; (try dsimp only at hSw); go_simp); all_goals with_reducible rfl
      try go_frame
      refine tks (oi := ⟨_, _, _, _, _, _⟩) (v := ?_) 2 rfl (.inl ⟨by rfl, ?_⟩) ?_; rotate_left
      · (intro wS hSw; (try dsimp only at hSw); go_simp); all_goals with_reducible rfl
      try go_frame
      refine tks (oi := ⟨_, _, _, _, _, _⟩) (v := ?_) 3 rfl (.inl ⟨by rfl, ?_⟩) ?_; rotate_left
      · (intro wS hSw; (try dsimp only at hSw); go_simp); all_goals with_reducible rfl
      try go_frame
      refine tks (oi := ⟨_, _, _, _, _, _⟩) (v := ?_) 4 rfl (.inl ⟨by rfl, ?_⟩) ?_; rotate_left
      · (intro wS hSw; (try dsimp only at hSw); go_simp); all_goals with_reducible rfl
      try go_frame
      refine tks (oi := ⟨_, _, _, _, _, _⟩) (v := ?_) 5 rfl (.inl ⟨by rfl, ?_⟩) ?_; rotate_left
      · (intro wS hSw; (try dsimp only at hSw); go_simp); all_goals with_reducible rfl
      try go_frame
      refine tks (oi := ⟨_, _, _, _, _, _⟩) (v := ?_) 6 rfl (.inl ⟨by rfl, ?_⟩) ?_; rotate_left
      · (intro wS hSw; (try dsimp only at hSw); go_simp); all_goals with_reducible rfl
      try go_frame
      refine tks (oi := ⟨_, _, _, _, _, _⟩) (v := ?_) 7 rfl (.inl ⟨by rfl, ?_⟩) ?_; rotate_left
      · (intro wS hSw; (try dsimp only at hSw); go_simp); all_goals with_reducible rfl
      try go_frame
      refine tks (oi := ⟨_, _, _, _, _, _⟩) (v := ?_) 8 rfl (.inl ⟨by rfl, ?_⟩) ?_; rotate_left
      · (intro wS hSw; (try dsimp only at hSw); go_simp); all_goals with_reducible rfl
      try go_frame
      refine tks (oi := ⟨_, _, _, _, _, _⟩) (v := ?_) 9 rfl (.inl ⟨by rfl, ?_⟩) ?_; rotate_left
      · (intro wS hSw; (try dsimp only at hSw); go_simp); all_goals with_reducible rfl
      try go_frame
      refine tks (oi := ⟨_, _, _, _, _, _⟩) (v := ?_) 10 rfl (.inl ⟨by rfl, ?_⟩) ?_; rotate_left
      · (intro wS hSw; (try dsimp only at hSw); go_simp); all_goals with_reducible rfl
      try go_frame
      refine tks (oi := ⟨_, _, _, _, _, _⟩) (v := undef) 11 rfl (.inr ⟨by rfl, rfl⟩) ?_
      try go_frame
      refine tks (oi := ⟨_, _, _, _, _, _⟩) (v := undef) 12 rfl (.inr ⟨by rfl, rfl⟩) ?_
      try go_frame
      refine tks (oi := ⟨_, _, _, _, _, _⟩) (v := undef) 13 rfl (.inr ⟨by rfl, rfl⟩) ?_
      try go_frame
      refine tks (oi := ⟨_, _, _, _, _, _⟩) (v := undef) 14 rfl (.inr ⟨by rfl, rfl⟩) ?_
      try go_frame
      refine tks (oi := ⟨_, _, _, _, _, _⟩) (v := undef) 15 rfl (.inr ⟨by rfl, rfl⟩) ?_
      try go_frame
      refine tks (oi := ⟨_, _, _, _, _, _⟩) (v := undef) 16 rfl (.inr ⟨by rfl, rfl⟩) ?_
      try go_frame
      refine tks (oi := ⟨_, _, _, _, _, _⟩) (v := undef) 17 rfl (.inr ⟨by rfl, rfl⟩) ?_
      try go_frame
      refine tks (oi := ⟨_, _, _, _, _, _⟩) (v := undef) 18 rfl (.inr ⟨by rfl, rfl⟩) ?_
      try go_frame
      refine tks (oi := ⟨_, _, _, _, _, _⟩) (v := undef) 19 rfl (.inr ⟨by rfl, rfl⟩) ?_
      try go_frame
      refine tks (oi := ⟨_, _, _, _, _, _⟩) (v := undef) 20 rfl (.inr ⟨by rfl, rfl⟩) ?_
      try go_frame
      refine tks (oi := ⟨_, _, _, _, _, _⟩) (v := undef) 21 rfl (.inr ⟨by rfl, rfl⟩) ?_
      try go_frame
      refine tks (oi := ⟨_, _, _, _, _, _⟩) (v := ?_) 22 rfl (.inl ⟨by rfl, ?_⟩) ?_; rotate_left
      · (intro wS hSw; (try dsimp only at hSw); go_simp); all_goals with_reducible rfl
      try go_frame
      refine wpAnyH_done (by kernel_rfl) ?_ _
      clear hHeld
      obtain ⟨h0, h1⟩ := HS.out
      have hnl : n.length ≤ (r.s.data.toList.drop r.pos).length := by rw [← hn.out]; exact wordL_len _
      have hext : Hid (r.s.extract r.pos p = ⟨n.toArray⟩) := by
        show _ = _
        rw [ba_list (r.s.extract r.pos p), Lib.extract_data]
        have : (r.s.data.toList.drop r.pos).take (p - r.pos) = n := by
          have hp2 := HIN.out
          rw [show p - r.pos = n.length by omega]
          have h2 := span_word (r.s.data.toList.drop r.pos) nb
          have h3 : (r.s.data.toList.drop r.pos).takeWhile nb = n := hn.out
          rw [h3] at h2
          conv => lhs; rw [h2]
          rw [List.take_append_of_le_length (Nat.le_refl _), List.take_length]
        rw [this]
      have i0 : (0 : Int) ≤ (r.pos : Int) := by omega
      have i1 : (r.pos : Int) ≤ p := by omega
      have i2 : (p : Int) ≤ r.s.size := by omega
      have hsz : n.length ≤ 1000000000 := by rw [List.length_drop, HL.out] at hnl; omega
      clear hnl
      go_wp2_with fail
      refine wp_region_held_drew (S := fun w' => w'.cell? ⟨b, 0, none⟩ = some (.string r.s) ∧ w'.cell? ⟨b, 1, none⟩ = some (.int .i64 p)) (by kernel_rfl) HS.out (fun hHeld => ?_)
      refine tks (oi := ⟨_, _, _, _, _, _⟩) (v := ?_) 0 rfl (.inl ⟨by rfl, ?_⟩) ?_; rotate_left
      · (intro wS hSw; (try dsimp only at hSw); go_simp); all_goals with_reducible rfl
      try go_frame
      refine tks (oi := ⟨_, _, _, _, _, _⟩) (v := ?_) 1 rfl (.inl ⟨by rfl, ?_⟩) ?_; rotate_left
      · (intro wS hSw; (try dsimp only at hSw); go_simp); all_goals with_reducible rfl
      try go_frame
      refine tks (oi := ⟨_, _, _, _, _, _⟩) (v := ?_) 2 rfl (.inl ⟨by rfl, ?_⟩) ?_; rotate_left
      · (intro wS hSw; (try dsimp only at hSw); go_simp); all_goals with_reducible rfl
      try go_frame
      refine tks (oi := ⟨_, _, _, _, _, _⟩) (v := ?_) 3 rfl (.inl ⟨by rfl, ?_⟩) ?_; rotate_left
      · (intro wS hSw; (try dsimp only at hSw); go_simp); all_goals with_reducible rfl
      try go_frame
      refine tks (oi := ⟨_, _, _, _, _, _⟩) (v := ?_) 4 rfl (.inl ⟨by rfl, ?_⟩) ?_; rotate_left
      · (intro wS hSw; (try dsimp only at hSw); go_simp); all_goals with_reducible rfl
      try go_frame
      refine tks (oi := ⟨_, _, _, _, _, _⟩) (v := ?_) 5 rfl (.inl ⟨by rfl, ?_⟩) ?_; rotate_left
      · (intro wS hSw; (try dsimp only at hSw); go_simp); all_goals with_reducible rfl
      try go_frame
      refine tks (oi := ⟨_, _, _, _, _, _⟩) (v := ?_) 6 rfl (.inl ⟨by rfl, ?_⟩) ?_; rotate_left
      · (intro wS hSw; (try dsimp only at hSw); go_simp); all_goals with_reducible rfl
      try go_frame
      refine tks (oi := ⟨_, _, _, _, _, _⟩) (v := ?_) 7 rfl (.inl ⟨by rfl, ?_⟩) ?_; rotate_left
      · (intro wS hSw; (try dsimp only at hSw); go_simp); all_goals with_reducible rfl
      try go_frame
      refine tks (oi := ⟨_, _, _, _, _, _⟩) (v := ?_) 8 rfl (.inl ⟨by rfl, ?_⟩) ?_; rotate_left
      · (intro wS hSw; (try dsimp only at hSw); go_simp); all_goals with_reducible rfl
      try go_frame
      refine tks (oi := ⟨_, _, _, _, _, _⟩) (v := ?_) 9 rfl (.inl ⟨by rfl, ?_⟩) ?_; rotate_left
      · (intro wS hSw; (try dsimp only at hSw); go_simp); all_goals with_reducible rfl
      try go_frame
      refine tks (oi := ⟨_, _, _, _, _, _⟩) (v := ?_) 10 rfl (.inl ⟨by rfl, ?_⟩) ?_; rotate_left
      · (intro wS hSw; (try dsimp only at hSw); go_simp); all_goals with_reducible rfl
      try go_frame
      refine wpAnyH_done (by kernel_rfl) ?_ _
      clear hHeld h0 h1
      rw [hext.out]
      go_wp2_with fail
      refine (Name_l n _ hsz v hv).mono ?_
      rintro e w2 ⟨rfl, hb2⟩
      have hR2 : RdAt w2 b { r with pos := r.pos + n.length } := by
        rw [← HIN.out]; exact RdAt.below (w := wr.drew.drew) HR.out.drew.drew hb2
      have hg2 : w.grownBy w2 (some b) := Lib.grownBy_below (grown_drew (grown_drew hg.out)) hb2
      cases v with
      | true =>
        go_wp2_with fail
        go_ret2
        exact ⟨by rw [← hT.out]; rfl, by rw [← hR.out]; exact hR2, hg2⟩
      | false =>
        go_wp2_with fail
        refine (fail_any b _ w2 hR2 r.pos 31).mono ?_
        rintro e w3 ⟨rfl, h3, hg3⟩
        go_wp2_with fail
        go_ret2
        exact ⟨by rw [← hT.out]; rfl, by rw [← hR.out]; exact h3, grown_twice hg2 hg3⟩
end Go.Proofs.Ythifddkmbjnncaa

/-
  Rows of structs of a call's own: their cells, one more element at the end, one cell written.
-/
namespace Go.Proofs.Ythifddkmbjnncaa
open Go.RowKit

/-! Rows laid out flat. -/
theorem flat_length {α β : Type} (f : α → List β) (n : Nat) (hf : ∀ a, (f a).length = n) : ∀ l : List α, (l.flatMap f).length = l.length * n
  | [] => by simp
  | a :: l => by rw [List.flatMap_cons, List.length_append, hf, flat_length f n hf l, List.length_cons, Nat.add_mul]; omega
theorem flat_get {α β : Type} (f : α → List β) (n : Nat) (hf : ∀ a, (f a).length = n) : ∀ (l : List α) (k j : Nat) (a : α), l[k]? = some a → j < n → (l.flatMap f)[k * n + j]? = (f a)[j]?
  | [], k, j, a, h, _ => by simp at h
  | b :: l, 0, j, a, h, hj => by
    simp at h; subst h
    rw [List.flatMap_cons, List.getElem?_append_left (by rw [hf]; omega)]
    simp
  | b :: l, k + 1, j, a, h, hj => by
    rw [List.flatMap_cons, List.getElem?_append_right (by rw [hf, Nat.add_mul]; omega)]
    have e : (k + 1) * n + j - (f b).length = k * n + j := by rw [hf, Nat.add_mul]; omega
    rw [e]
    exact flat_get f n hf l k j a (by simpa using h) hj
theorem flat_set {α β : Type} (f : α → List β) (n : Nat) (hf : ∀ a, (f a).length = n) (l : List α) (k j : Nat) (a a' : α) (v : β) (h : l[k]? = some a) (hj : j < n) (hs : f a' = (f a).set j v) :
    (l.flatMap f).set (k * n + j) v = (l.set k a').flatMap f := by
  apply List.ext_getElem?
  intro i
  rw [List.getElem?_set]
  have hk : k < l.length := (List.getElem?_eq_some_iff.1 h).1
  have hlen := flat_length f n hf l
  have hlen' := flat_length f n hf (l.set k a')
  rw [List.length_set] at hlen'
  by_cases hi : i < l.length * n
  · have hn : 0 < n := by omega
    obtain ⟨q, r, hr, rfl⟩ : ∃ q r, r < n ∧ i = q * n + r := ⟨i / n, i % n, Nat.mod_lt _ hn, by rw [Nat.mul_comm]; exact (Nat.div_add_mod i n).symm⟩
    have hq : q < l.length := by
      rcases Nat.lt_or_ge q l.length with h | h
      · exact h
      · have := Nat.mul_le_mul_right n h; omega
    by_cases hqk : q = k
    · subst hqk
      have e1 : (l.set q a')[q]? = some a' := by rw [List.getElem?_set]; simp [hq]
      rw [flat_get f n hf _ q r a' e1 hr, flat_get f n hf l q r a h hr, hs, List.getElem?_set]
      by_cases hrj : j = r
      · subst hrj
        rw [if_pos rfl, if_pos rfl, hf, if_pos hj, hlen]
        rw [if_pos hi]
      · rw [if_neg (by omega), if_neg hrj]
    · have e1 : (l.set k a')[q]? = l[q]? := by rw [List.getElem?_set]; rw [if_neg (Ne.symm hqk)]
      have e2 : l[q]? = some l[q] := List.getElem?_eq_getElem hq
      rw [flat_get f n hf _ q r _ (e1.trans e2) hr, flat_get f n hf l q r _ e2 hr]
      rw [if_neg]
      intro he
      rcases Nat.lt_or_ge q k with hlt | hge
      · have := Nat.mul_le_mul_right n (show q + 1 ≤ k by omega)
        rw [Nat.add_mul] at this; omega
      · have := Nat.mul_le_mul_right n (show k + 1 ≤ q by omega)
        rw [Nat.add_mul] at this; omega
  · have r1 : ((l.set k a').flatMap f)[i]? = none := List.getElem?_eq_none (by rw [hlen']; omega)
    have r2 : (l.flatMap f)[i]? = none := List.getElem?_eq_none (by rw [hlen]; omega)
    rw [r1, r2]
    by_cases he : k * n + j = i
    · rw [if_pos he, if_neg (by rw [hlen]; omega)]
    · rw [if_neg he]

/-! What an owned row reads as. -/
theorem own_flat {α : Type} {w : World} {B : Nat} {e : TypeId} {n : Nat} {ad : Option Addr} {c : Nat} {l : List α} (f : α → List Value) (hf : ∀ a, (f a).length = n) (h : w.ownsRow B e n (.slice ad l.length c) l.length (l.flatMap f)) :
    0 < l.length → ∃ g, ad = some ⟨g, 0, none⟩ ∧ B ≤ g ∧ g < w.heap.size ∧ (∃ cur, w.heap[g]? = some (.cells cur e (0, 0))) ∧ ∀ k a j u, l[k]? = some a → (f a)[j]? = some u → w.cell? ((⟨g, 0, none⟩ : Addr).add (k * n + j)) = some u := by
  intro hl
  rcases h.2 with ⟨_, h0⟩ | ⟨g, cap, cur, hv, hb, hc, _⟩
  · omega
  · injection hv with hv h2 h3
    subst hv
    refine ⟨g, rfl, hb, (Array.getElem?_eq_some_iff.1 hc).1, ⟨cur, hc⟩, fun k a j u hk hu => ?_⟩
    have hj : j < n := by rw [← hf a]; exact (List.getElem?_eq_some_iff.1 hu).1
    refine h.cells (g := g) rfl _ u ?_
    rw [flat_get f n hf l k j a hk hj]; exact hu

/-- The block that a row of the call's own stands in is of the row's own type. -/
theorem own_type {w : World} {B : Nat} {e : TypeId} {size : Nat} {v : Value} {n : Nat} {xs : List Value} (h : w.ownsRow B e size v n xs) : ∀ g, v.ownBlock = some g → B ≤ g ∧ g < w.heap.size ∧ ∃ cur, w.heap[g]? = some (.cells cur e (0, 0)) := by
  intro g hg
  rcases h.2 with ⟨rfl, _⟩ | ⟨g', cap, cur, rfl, hb, hc, _⟩
  · cases hg
  · injection hg with hg
    have hg : g' = g := hg
    subst hg
    exact ⟨hb, (Array.getElem?_eq_some_iff.1 hc).1, cur, hc⟩

/-- Rows of two types never share a block. -/
theorem own_apart {w : World} {B B' : Nat} {e e' : TypeId} {size size' : Nat} {v v' : Value} {n n' : Nat} {xs xs' : List Value} (h : w.ownsRow B e size v n xs) (h' : w.ownsRow B' e' size' v' n' xs') (he : e ≠ e') : v.ownBlock = none ∨ v.ownBlock ≠ v'.ownBlock := by
  cases hv : v.ownBlock with
  | none => exact .inl rfl
  | some g =>
    refine .inr fun hg => ?_
    obtain ⟨_, _, cur, hc⟩ := own_type h g hv
    obtain ⟨_, _, cur', hc'⟩ := own_type h' g hg.symm
    rw [hc] at hc'
    injection hc' with hc'
    injection hc' with _ hc'
    exact he hc'

/-- append(s, x), x a struct of 'size' cells, to a slice that is the call's own. -/
theorem appendS {P : Program} {w : World} {ops : Array Oper} {rest : List Oper} {o : Oper} {a : Act} {Q : Exit → Act → World → Prop} (hgd : o.guard = none) (s x : Operand) (t : TypeId)
    (ho : o.op = .call { callee := .builtin .append, args := #[s, x], argTypes := #[t, t] })
    (B : Nat) (e : TypeId) (z : Value) (size bytes : Nat) (ht : P.underlying t = some (.slice e)) (hi : (P.info? e).map (fun i => (i.zero, i.size, i.bytes)) = some (some z, size, bytes))
    (hzs : z.cells.size = size) (hsz : 0 < size)
    (v : Value) (n : Nat) (xs : List Value) (news : List Value) (hs : a.eval s = v) (hown : w.ownsRow B e size v n xs) (hB : B ≤ w.heap.size)
    (X : Nat) (hx : a.eval x = .slice (some ⟨X, 0, none⟩) 1 1) (hX : X = w.heap.size) (hnl : news.length = size) (hu : ∀ u ∈ news, u.oneCell' = true) (hn : n < 4294967296) (hby : bytes ≤ 10000)
    (h : ∀ ad c w', w'.ownsRow B e size (.slice ad (n + 1) c) (n + 1) (xs ++ news) → Below B w w' → w.heap.size < w'.heap.size → (w.alloc (.cells news.toArray e)).grownBy w' v.ownBlock → wpList P ops Q rest (a.put o.dst (.slice ad (n + 1) c)) w') :
    wpList P ops Q (o :: rest) a (w.alloc (.cells news.toArray e)) := by
  subst hX
  obtain ⟨i0, hi0, hz0, hz1, hz2⟩ := info_parts hi
  refine wpList_append_own _ hgd s x t ho B e i0 z size bytes ht hi0 hz0 hz1 hz2 hzs hsz v n xs hs (hown.alloc _) ⟨w.heap.size, 0, none⟩ 1 1 news hx (by rw [hnl]; omega) ?_ hu
    (by unfold maxLen; omega) ?_ (by simp; omega) ?_
  · intro j u hj
    have e : (⟨w.heap.size, 0, none⟩ : Addr).add j = ⟨w.heap.size, j, none⟩ := by unfold Addr.add; split <;> simp_all
    have hjl : j < news.length := (List.getElem?_eq_some_iff.1 hj).1
    rw [e, World.cell?_alloc_at _ _ _ _ (by simp)]
    simp [hj]
  · have : (n + 1) * bytes ≤ 4294967296 * 10000 := Nat.mul_le_mul (by omega) hby
    omega
  · intro v' w' hown' hg _
    obtain ⟨ad, c, rfl⟩ : ∃ ad c, v' = .slice ad (n + 1) c := by
      rcases hown'.2 with ⟨_, h0⟩ | ⟨g, c, cur, hv, _⟩
      · omega
      · exact ⟨_, c, hv⟩
    have hsz' := hg.size
    simp at hsz'
    exact h ad c w' hown' (((Below.refl B w).alloc hB _).grown hg (by simp; omega) (fun k hk => (hown.lt k hk).1)) (by omega) hg

/-- A row stands where what grows is a row of another type, or nothing was known of it. -/
theorem own_grown {w w' : World} {B B' : Nat} {e e' : TypeId} {size size' : Nat} {v v' : Value} {n n' : Nat} {xs xs' : List Value} (h : w.ownsRow B e size v n xs) (h' : w.ownsRow B' e' size' v' n' xs') (he : e ≠ e') (hg : w.grownBy w' v'.ownBlock) : w'.ownsRow B e size v n xs :=
  h.kept hg (own_apart h h' he)

/-- One cell of a row of the call's own is written. -/
theorem own_stored {w : World} {B : Nat} {e : TypeId} {size g n c : Nat} {xs : List Value} (h : w.ownsRow B e size (.slice (some ⟨g, 0, none⟩) n c) n xs) (j : Nat) (u : Value) : (w.setCell ⟨g, j, none⟩ u).ownsRow B e size (.slice (some ⟨g, 0, none⟩) n c) n (xs.set j u) := (h.stored j u).1
end Go.Proofs.Ythifddkmbjnncaa

/-
  Items and attributes of a call's own.
-/
namespace Go.Proofs.Ythifddkmbjnncaa
open Go.RowKit

def cellsA (a : AttrD) : List Value := [strV a.name, strV a.value]
/-- An item, and where its attributes stand. -/
abbrev Slot := ItemD × Option Addr × Nat
def cellsI (s : Slot) : List Value := [.int .i64 s.1.level, .int .i64 s.1.kind, strV s.1.name, strV s.1.text, .slice s.2.1 s.1.attrs.length s.2.2]
theorem cellsA_length (a : AttrD) : (cellsA a).length = 2 := rfl
theorem cellsI_length (s : Slot) : (cellsI s).length = 5 := rfl

/-- Attributes of the call's own. -/
def AttrsOwn (w : World) (B : Nat) (A : Option Addr) (c : Nat) (l : List AttrD) : Prop := w.ownsRow B 44 2 (.slice A l.length c) l.length (l.flatMap cellsA)
def ItemsOwn (w : World) (B : Nat) (A : Option Addr) (c : Nat) (S : List Slot) : Prop := w.ownsRow B 50 5 (.slice A S.length c) S.length (S.flatMap cellsI)

theorem add_zero_block (g k : Nat) : ((⟨g, 0, none⟩ : Addr).add k) = ⟨g, k, none⟩ := by unfold Addr.add; split <;> simp_all

theorem AttrsOwn.at {w : World} {B : Nat} {A : Option Addr} {c : Nat} {l : List AttrD} (h : AttrsOwn w B A c l) : AttrsAt w w.heap.size A l := fun hl => by
  obtain ⟨g, rfl, hb, hg, _, hc⟩ := own_flat cellsA cellsA_length h hl
  refine ⟨_, rfl, hg, fun k a ha => ⟨?_, ?_⟩⟩
  · have := hc k a 0 (strV a.name) ha rfl
    simpa using this
  · have := hc k a 1 (strV a.value) ha rfl
    rw [add_zero_block] at this ⊢
    exact this
theorem AttrsOwn.cap {w : World} {B : Nat} {A : Option Addr} {c : Nat} {l : List AttrD} (h : AttrsOwn w B A c l) : l.length ≤ c := by
  rcases h.2 with ⟨h1, h2⟩ | ⟨g, cap, cur, h1, _, _, h4, _⟩
  · omega
  · injection h1 with _ _ h3; omega
theorem ItemsOwn.at {w : World} {B : Nat} {A : Option Addr} {c : Nat} {S : List Slot} (h : ItemsOwn w B A c S) (ha : ∀ s ∈ S, AttrsAt w w.heap.size s.2.1 s.1.attrs ∧ s.1.attrs.length ≤ s.2.2) : ItemsAt w w.heap.size A (S.map (·.1)) := fun hl => by
  have hl' : 0 < S.length := by simpa using hl
  obtain ⟨g, rfl, hb, hg, _, hc⟩ := own_flat cellsI cellsI_length h hl'
  refine ⟨_, rfl, hg, fun k x hx => ?_⟩
  rw [List.getElem?_map] at hx
  obtain ⟨s, hs, rfl⟩ := Option.map_eq_some_iff.1 hx
  obtain ⟨h1, h2⟩ := ha s (List.mem_of_getElem? hs)
  have e : ∀ j u, (cellsI s)[j]? = some u → w.cell? ⟨g, k * 5 + j, none⟩ = some u := fun j u hu => by
    have := hc k s j u hs hu
    rwa [add_zero_block] at this
  refine ⟨s.2.1, s.2.2, h1, h2, ?_⟩
  rw [add_zero_block]
  exact ⟨e 0 _ rfl, e 1 _ rfl, e 2 _ rfl, e 3 _ rfl, e 4 _ rfl⟩

theorem infoAttr : (Try.prog.info? 44).map (fun i => (i.zero, i.size, i.bytes)) = some (some (.agg #[.string ByteArray.empty, .string ByteArray.empty]), 2, 32) := by kernel_rfl
theorem infoItem : (Try.prog.info? 50).map (fun i => (i.zero, i.size, i.bytes)) = some (some (.agg #[.int .i64 0, .int .i64 0, .string ByteArray.empty, .string ByteArray.empty, .slice none 0 0]), 5, 72) := by kernel_rfl

theorem AttrsAt.flat {w : World} {B : Nat} {ad : Addr} {l : List AttrD} (h : AttrsAt w B (some ad) l) : ∀ j u, (l.flatMap cellsA)[j]? = some u → w.cell? (ad.add j) = some u := by
  intro j u hu
  have hlen := flat_length cellsA 2 cellsA_length l
  have hj : j < l.length * 2 := by rw [← hlen]; exact (List.getElem?_eq_some_iff.1 hu).1
  obtain ⟨q, r, hr, rfl⟩ : ∃ q r, r < 2 ∧ j = q * 2 + r := ⟨j / 2, j % 2, by omega, by omega⟩
  have hq : q < l.length := by omega
  have hx : l[q]? = some l[q] := List.getElem?_eq_getElem hq
  rw [flat_get cellsA 2 cellsA_length l q r _ hx hr] at hu
  obtain ⟨ad', e, _, hc⟩ := h (by omega)
  injection e with e; subst e
  obtain ⟨h0, h1⟩ := hc q _ hx
  match r, hr, hu with
  | 0, _, hu => injection hu with hu; subst hu; exact h0
  | 1, _, hu =>
    injection hu with hu; subst hu
    have : ad.add (q * 2 + 1) = ⟨(ad.add (q * 2)).block, (ad.add (q * 2)).off + 1, none⟩ := by
      rw [← add_of_add]; rfl
    rw [this]; exact h1

theorem cellsA_one (l : List AttrD) : ∀ u ∈ l.flatMap cellsA, u.oneCell' = true := by
  intro u hu
  obtain ⟨a, _, ha⟩ := List.mem_flatMap.1 hu
  simp [cellsA, strV] at ha
  rcases ha with rfl | rfl <;> rfl

def ClonePost (w : World) (l : List AttrD) (e : Ending) (w' : World) : Prop := ∃ A c, e = .returned (.slice A l.length c) ∧ AttrsOwn w' w.heap.size A c l ∧ Below w.heap.size w w'

end Go.Proofs.Ythifddkmbjnncaa
