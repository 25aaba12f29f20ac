/-
  The plain law of attributes by rising names: no program in sight.
-/
import Derived.Test.YthifddkmbjnncaaLexPlain
import Derived.Lib.Bytealg
import Derived.Sort.Statements
namespace Go.Proofs.Ythifddkmbjnncaa

theorem less_lt : ∀ (x y : List UInt8), Op.bytesLess x y = decide (x < y)
  | [], [] => by simp [Op.bytesLess]
  | _ :: _, [] => by simp [Op.bytesLess]
  | [], _ :: _ => by simp [Op.bytesLess]
  | a :: x, b :: y => by
    rw [Op.bytesLess, less_lt x y]
    simp only [List.cons_lt_cons_iff]
    by_cases h1 : a < b <;> by_cases h2 : a = b <;> by_cases h3 : x < y <;> simp [h1, h2, h3]

theorem less_irrefl (x : List UInt8) : Op.bytesLess x x = false := by
  rw [less_lt]; exact decide_eq_false (List.lt_irrefl x)
theorem less_trans {x y z : List UInt8} (h : Op.bytesLess x y = true) (h' : Op.bytesLess y z = true) : Op.bytesLess x z = true := by
  rw [less_lt] at *
  exact decide_eq_true (List.lt_trans (of_decide_eq_true h) (of_decide_eq_true h'))
theorem less_tri {x y : List UInt8} (h : Op.bytesLess x y = false) (h' : Op.bytesLess y x = false) : x = y := by
  rw [less_lt] at *
  have h1 := of_decide_eq_false h
  have h2 := of_decide_eq_false h'
  exact List.le_antisymm (List.not_lt.1 h2) (List.not_lt.1 h1)
theorem less_asymm {x y : List UInt8} (h : Op.bytesLess x y = true) : Op.bytesLess y x = false := by
  cases h' : Op.bytesLess y x with
  | false => rfl
  | true => have := less_trans h h'; rw [less_irrefl] at this; cases this
theorem less_ne {x y : List UInt8} (h : Op.bytesLess x y = true) : x ≠ y := by
  intro e; subst e; rw [less_irrefl] at h; cases h
theorem less_ntrans {x y z : List UInt8} (h : Op.bytesLess x y = false) (h' : Op.bytesLess y z = false) : Op.bytesLess x z = false := by
  cases hz : Op.bytesLess x z with
  | false => rfl
  | true =>
    cases hyx : Op.bytesLess y x with
    | true => rw [less_trans hyx hz] at h'; cases h'
    | false => rw [less_tri h hyx] at hz; rw [hz] at h'; cases h'

theorem cmp_less : ∀ (x y : List UInt8), decide (Lib.compareBytes x y < 0) = Op.bytesLess x y
  | [], [] => by simp [Op.bytesLess, Lib.compareBytes]
  | _ :: _, [] => by simp [Op.bytesLess, Lib.compareBytes]
  | [], _ :: _ => by simp [Op.bytesLess, Lib.compareBytes]
  | a :: x, b :: y => by
    rw [Op.bytesLess, Lib.compareBytes, ← cmp_less x y]
    by_cases h1 : a < b
    · simp [h1]
    · by_cases h2 : b < a
      · have h3 : a ≠ b := by intro e; subst e; exact h1 h2
        simp [h1, h2, h3]
      · have h3 : a = b := by
          have h4 := UInt8.not_lt.1 h1
          have h5 := UInt8.not_lt.1 h2
          exact UInt8.le_antisymm h5 h4
        subst h3
        simp

def nameC (a b : AttrD) : Int := Lib.compareBytes a.name b.name
theorem nameC_swo : Sort.SWO (fun a b : AttrD => decide (nameC a b < 0)) where
  irrefl x := by unfold nameC; simp only [cmp_less]; exact less_irrefl _
  trans x y z := by unfold nameC; simp only [cmp_less]; exact less_trans
  ntrans x y z := by unfold nameC; simp only [cmp_less]; exact less_ntrans

def Rise (l : List AttrD) : Prop := l.Pairwise fun a b => Op.bytesLess a.name b.name = true
def Apart (l : List AttrD) : Prop := l.Pairwise fun a b => a.name ≠ b.name

theorem insA_perm (a : AttrD) : ∀ l : List AttrD, (insA a l).Perm (a :: l)
  | [] => List.Perm.refl _
  | b :: r => by
    rw [insA]
    split
    · exact List.Perm.refl _
    · exact ((insA_perm a r).cons b).trans (List.Perm.swap a b r)
theorem sortA_snoc (l : List AttrD) (a : AttrD) : sortA (l ++ [a]) = insA a (sortA l) := by simp [sortA]
theorem fold_perm : ∀ (l o : List AttrD), (l.foldl (fun o a => insA a o) o).Perm (o ++ l)
  | [], o => by simp
  | a :: l, o => by
    rw [List.foldl_cons]
    refine (fold_perm l (insA a o)).trans ?_
    refine ((insA_perm a o).append_right l).trans ?_
    simp only [List.cons_append]
    exact List.perm_middle.symm
theorem sortA_perm (l : List AttrD) : (sortA l).Perm l := by
  have := fold_perm l []
  simpa [sortA] using this
theorem insA_rise {a : AttrD} : ∀ {l : List AttrD}, Rise l → (∀ b ∈ l, b.name ≠ a.name) → Rise (insA a l)
  | [], _, _ => by unfold Rise insA; simp
  | b :: r, h, hn => by
    obtain ⟨hb, hr⟩ := List.pairwise_cons.1 h
    rw [insA]
    split
    · rename_i hl
      refine List.pairwise_cons.2 ⟨fun c hc => ?_, h⟩
      rcases List.mem_cons.1 hc with rfl | hc
      · exact hl
      · exact less_trans hl (hb c hc)
    · rename_i hl
      have hba : Op.bytesLess b.name a.name = true := by
        cases hba : Op.bytesLess b.name a.name with
        | true => rfl
        | false => exact absurd (less_tri hba (by simpa using hl)) (hn b (by simp))
      refine List.pairwise_cons.2 ⟨fun c hc => ?_, insA_rise hr (fun c hc => hn c (by simp [hc]))⟩
      rcases List.mem_cons.1 ((insA_perm a r).mem_iff.1 hc) with rfl | hc
      · exact hba
      · exact hb c hc
theorem fold_rise : ∀ (l o : List AttrD), Rise o → Apart l → (∀ a ∈ l, ∀ b ∈ o, b.name ≠ a.name) → Rise (l.foldl (fun o a => insA a o) o)
  | [], o, h, _, _ => h
  | a :: l, o, h, hl, hn => by
    obtain ⟨h1, h2⟩ := List.pairwise_cons.1 hl
    rw [List.foldl_cons]
    refine fold_rise l _ (insA_rise h (hn a (by simp))) h2 (fun c hc b hb => ?_)
    rcases List.mem_cons.1 ((insA_perm a o).mem_iff.1 hb) with rfl | hb
    · exact h1 c hc
    · exact hn c (by simp [hc]) b hb
theorem sortA_rise {l : List AttrD} (h : Apart l) : Rise (sortA l) := fold_rise l [] List.Pairwise.nil h (fun _ _ _ hb => by cases hb)

theorem rise_unique {l d : List AttrD} (hp : d.Perm l) (hl : Rise l) (hd : d.Pairwise fun a b => Op.bytesLess b.name a.name = false) : d = l := by
  refine List.Perm.eq_of_pairwise (le := fun a b => Op.bytesLess b.name a.name = false) (fun a b ha hb h1 h2 => ?_) hd (hl.imp fun h => less_asymm h) hp
  have hn := less_tri h2 h1
  have ha' := hp.mem_iff.1 ha
  obtain ⟨i, hi, ei⟩ := List.mem_iff_getElem.1 ha'
  obtain ⟨j, hj, ej⟩ := List.mem_iff_getElem.1 hb
  rcases Nat.lt_trichotomy i j with h | h | h
  · have := List.pairwise_iff_getElem.1 hl i j hi hj h
    rw [ei, ej, hn, less_irrefl] at this; cases this
  · subst h; rw [← ei, ← ej]
  · have := List.pairwise_iff_getElem.1 hl j i hj hi h
    rw [ei, ej, hn, less_irrefl] at this; cases this
theorem sort_unique {l d : List AttrD} (hp : d.Perm l) (hl : Apart l) (hd : d.Pairwise fun a b => Op.bytesLess b.name a.name = false) : d = sortA l :=
  rise_unique (hp.trans (sortA_perm l).symm) (sortA_rise hl) hd
instance : Inhabited AttrD := ⟨⟨[], []⟩⟩
theorem sorted_list {d d' : Array AttrD} (hp : Sort.PermIn 0 d.size d d') (hs : Sort.SortedIn (fun a b : AttrD => decide (nameC a b < 0)) 0 d.size d') (hl : Apart d.toList) : d'.toList = sortA d.toList := by
  obtain ⟨h1, _, h3⟩ := hp
  have e1 : d'.extract 0 d.size = d' := by rw [← h1, Array.extract_size]
  have e2 : d.extract 0 d.size = d := Array.extract_size
  rw [e1, e2] at h3
  refine sort_unique h3 hl (List.pairwise_iff_getElem.2 fun i j hi hj hij => ?_)
  have := hs i j (Nat.zero_le _) hij (by simp at hj; omega)
  unfold nameC at this
  simp only [cmp_less] at this
  simp only [Array.length_toList] at hi hj
  rw [getElem!_pos d' i hi, getElem!_pos d' j hj] at this
  simpa using this

/-! ## What is told of attributes -/
theorem any_name {bs : List AttrD} {n : List UInt8} (h : bs.any (fun a => decide (a.name = n)) = false) : ∀ b ∈ bs, b.name ≠ n := by
  intro b hb e
  have := List.any_eq_false.1 h b hb
  simp [e] at this
theorem apart_snoc {bs : List AttrD} {a : AttrD} (h : Apart bs) (hn : ∀ b ∈ bs, b.name ≠ a.name) : Apart (bs ++ [a]) := by
  refine List.pairwise_append.2 ⟨h, List.pairwise_singleton _ _, fun x hx y hy => ?_⟩
  simp at hy; subst hy; exact hn x hx

/-- what each of the attributes is made of -/
structure AttrFine (a : AttrD) : Prop where
  name : nameL a.name = true
  value : ∃ l, (undoL true l).2.2 = 0 ∧ (undoL true l).1 = a.value
  long : a.value.length ≤ 1500

theorem attrL_fine {l : List UInt8} {bs : List AttrD} {a : AttrD} {n : Nat} (h : attrL l bs = .ok a n) : AttrFine a ∧ bs.length < 20 ∧ ∀ b ∈ bs, b.name ≠ a.name := by
  unfold attrL at h
  simp only at h
  split at h
  · cases h
  rename_i h1
  split at h
  · cases h
  rename_i h2
  split at h
  · cases h
  rename_i h3
  split at h
  · cases h
  split at h
  · cases h
  unfold valueT at h
  simp only at h
  split at h
  · cases h
  split at h
  · cases h
  rename_i h4
  split at h
  · cases h
  rename_i h5
  injection h with h _
  subst h
  exact ⟨⟨by simpa using h1, ⟨_, by simpa using h4, rfl⟩, by simpa using h5⟩, by omega, any_name (by simpa using h3)⟩

structure AttrsFine (bs : List AttrD) : Prop where
  apart : Apart bs
  all : ∀ a ∈ bs, AttrFine a
  many : bs.length ≤ 20

theorem attrsFine_nil : AttrsFine [] := ⟨List.Pairwise.nil, fun _ h => (by cases h), by simp⟩
theorem attrsFine_snoc {l : List UInt8} {bs : List AttrD} {a : AttrD} {n : Nat} (hf : AttrsFine bs) (h : attrL l bs = .ok a n) : AttrsFine (bs ++ [a]) := by
  obtain ⟨h1, h2, h3⟩ := attrL_fine h
  refine ⟨apart_snoc hf.apart h3, fun b hb => ?_, by simp; omega⟩
  rcases List.mem_append.1 hb with hb | hb
  · exact hf.all b hb
  · simp at hb; subst hb; exact h1
theorem attrsF_fine : ∀ (f : Nat) (l : List UInt8) (bs : List AttrD) (q : Int × List AttrD) (n : Nat), AttrsFine bs → attrsF f l bs = .ok q n → AttrsFine q.2 ∧ (q.1 = 1 ∨ q.1 = 3)
  | 0, _, _, _, _, _, h => by cases h
  | f + 1, l, bs, q, n, hf, h => by
    rw [attrsF] at h
    split at h
    · injection h with h _; subst h; exact ⟨hf, .inl rfl⟩
    split at h
    · injection h with h _; subst h; exact ⟨hf, .inr rfl⟩
    split at h
    · cases h
    cases ha : attrL (l.drop (skipL l)) bs with
    | bad k e => rw [ha] at h; cases h
    | ok a m =>
      rw [ha] at h
      simp only at h
      cases hq : attrsF f ((l.drop (skipL l)).drop m) (bs ++ [a]) with
      | bad k e => rw [hq] at h; cases h
      | ok r k =>
        rw [hq] at h
        injection h with h _
        subst h
        exact attrsF_fine f _ _ _ _ (attrsFine_snoc hf ha) hq
theorem attrsL_fine {l : List UInt8} {bs : List AttrD} {q : Int × List AttrD} {n : Nat} (hf : AttrsFine bs) (h : attrsL l bs = .ok q n) : AttrsFine q.2 ∧ (q.1 = 1 ∨ q.1 = 3) := attrsF_fine _ _ _ _ _ hf h
end Go.Proofs.Ythifddkmbjnncaa
