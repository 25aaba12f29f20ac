/-
  Texts of this claim, joined (by a program of the claim's author): InjPlain, LexPlain, Rd, SortPlain, LexLaw.
-/
import Derived.Test.YthifddkmbjnncaaS5
import Derived.Test.YthifddkmbjnncaaS1
import Derived.Test.YthifddkmbjnncaaS2
import Derived.Lib.BufferOwn
import Derived.Deep.RegionHeld3
import Derived.StillTailTactics
import Derived.Lib.Bytealg
import Derived.Sort.Statements
/-
  The plain law: what is printed tells what was printed. No program in sight.
-/
namespace Go.Proofs.Ythifddkmbjnncaa

/-! Bytes. -/
theorem enc_low {c : Int} (h : c < 128) : enc c = [bt c] := by unfold enc; rw [if_pos h]
theorem enc_high {c : Int} (hc : charB c = true) (h : 128 ≤ c) : ∀ b ∈ enc c, 128 ≤ b.toNat := by
  have hb := charB_bd hc
  have key : ∀ n : Int, 128 ≤ n → n < 256 → 128 ≤ (bt n).toNat := fun n h1 h2 => by have := bt_toNat n (by omega) h2; omega
  intro b hm
  unfold enc at hm
  rw [if_neg (by omega)] at hm
  split at hm
  · simp at hm; rcases hm with rfl | rfl <;> exact key _ (by omega) (by omega)
  · split at hm
    · simp at hm; rcases hm with rfl | rfl | rfl <;> exact key _ (by omega) (by omega)
    · simp at hm; rcases hm with rfl | rfl | rfl | rfl <;> exact key _ (by omega) (by omega)
/-- a byte that may be in a name -/
def nb (b : UInt8) : Bool := !(b == 9 || b == 10 || b == 32 || b == 34 || b == 47 || b == 60 || b == 61 || b == 62)
theorem nb_high {b : UInt8} (h : 128 ≤ b.toNat) : nb b = true := by
  have key : ∀ k : UInt8, k.toNat < 128 → (b == k) = false := fun k hk => by
    simp only [beq_eq_false_iff_ne]
    intro e; subst e; omega
  unfold nb
  rw [key 9 (by decide), key 10 (by decide), key 32 (by decide), key 34 (by decide), key 47 (by decide), key 60 (by decide), key 61 (by decide), key 62 (by decide)]
  rfl
theorem bt_ne (c : Int) (k : UInt8) (h0 : 0 ≤ c) (h1 : c < 128) (h : c ≠ k.toNat) : (bt c == k) = false := by
  simp only [beq_eq_false_iff_ne]
  intro e
  have := bt_toNat c h0 (by omega)
  rw [e] at this; omega
theorem part_bytes {c : Int} (hc : charB c = true) (hp : partB c = true) : (enc c).all nb = true := by
  by_cases h : c < 128
  · have hb := charB_bd hc
    have : c ≠ 9 ∧ c ≠ 10 ∧ c ≠ 32 ∧ c ≠ 34 ∧ c ≠ 47 ∧ c ≠ 60 ∧ c ≠ 61 ∧ c ≠ 62 := by
      simp [partB, startB] at hp; omega
    rw [enc_low h]
    simp only [List.all_cons, List.all_nil, Bool.and_true]
    unfold nb
    rw [bt_ne c 9 (by omega) h (by simpa using this.1), bt_ne c 10 (by omega) h (by simpa using this.2.1), bt_ne c 32 (by omega) h (by simpa using this.2.2.1), bt_ne c 34 (by omega) h (by simpa using this.2.2.2.1),
      bt_ne c 47 (by omega) h (by simpa using this.2.2.2.2.1), bt_ne c 60 (by omega) h (by simpa using this.2.2.2.2.2.1), bt_ne c 61 (by omega) h (by simpa using this.2.2.2.2.2.2.1), bt_ne c 62 (by omega) h (by simpa using this.2.2.2.2.2.2.2)]
    rfl
  · rw [List.all_eq_true]
    exact fun b hb => nb_high (enc_high hc (by omega) b hb)
theorem name_bytes {s : List UInt8} (h : nameL s = true) : s ≠ [] ∧ s.all nb = true := by
  unfold nameL at h
  split at h
  · rename_i c cs hcs
    simp only [Bool.and_eq_true, decide_eq_true_eq] at h
    obtain ⟨hs, hall⟩ := chars_back s _ hcs
    refine ⟨(fun e => by rw [e] at hcs; cases hcs), ?_⟩
    rw [hs, List.all_flatMap]
    rw [List.all_eq_true] at hall ⊢
    intro d hd
    refine part_bytes (hall d hd) ?_
    rcases List.mem_cons.1 hd with rfl | hd
    · exact h.2.2.1
    · exact List.all_eq_true.1 h.2.2.2 d hd
  · cases h
theorem written_text (c : Int) (hc : charB c = true) : ∀ b ∈ writtenL false c, b ≠ 60 := by
  intro b hb
  unfold writtenL at hb
  split at hb
  · simp at hb; rcases hb with rfl | rfl | rfl | rfl | rfl <;> decide
  · rw [if_neg (by simp), if_neg (by simp)] at hb
    split at hb
    · simp at hb; rcases hb with rfl | rfl | rfl | rfl | rfl <;> decide
    · split at hb
      · simp at hb; rcases hb with rfl | rfl | rfl | rfl <;> decide
      · rename_i h60
        split at hb
        · simp at hb; rcases hb with rfl | rfl | rfl | rfl <;> decide
        · rw [if_neg (by simp)] at hb
          unfold putF at hb
          rw [if_pos hc] at hb
          have hbd := charB_bd hc
          by_cases h : c < 128
          · rw [enc_low h] at hb
            simp at hb; subst hb
            have := bt_ne c 60 (by omega) h (by simpa using h60)
            simpa using this
          · have := enc_high hc (by omega) b hb
            intro e; subst e; revert this; decide
theorem esc_text {t o : List UInt8} (h : escL false t = some o) : ∀ b ∈ o, b ≠ 60 := by
  unfold escL at h
  obtain ⟨cs, hcs, rfl⟩ := Option.map_eq_some_iff.1 h
  intro b hb
  obtain ⟨c, hc, hb⟩ := List.mem_flatMap.1 hb
  exact written_text c (List.all_eq_true.1 (chars_back t cs hcs).2 c hc) b hb
theorem esc_value {t o : List UInt8} (h : escL true t = some o) : ∀ b ∈ o, b ≠ 34 := by
  have := esc_plain t o h
  rw [List.all_eq_true] at this
  intro b hb e
  subst e
  have := this _ hb
  revert this; decide
theorem esc_inj {v : Bool} {s t o : List UInt8} (h1 : escL v s = some o) (h2 : escL v t = some o) : s = t := by
  have a := undo_esc v s o h1
  have b := undo_esc v t o h2
  rw [a] at b
  injection b

/-! Taking apart. -/
theorem span_eq (p : UInt8 → Prop) : ∀ (a b r s : List UInt8), (∀ x ∈ a, p x) → (∀ x ∈ b, p x) → (∀ x t, r = x :: t → ¬ p x) → (∀ x t, s = x :: t → ¬ p x) → a ++ r = b ++ s → a = b ∧ r = s
  | [], [], r, s, _, _, _, _, h => ⟨rfl, h⟩
  | [], y :: b, r, s, _, hb, hr, _, h => absurd (hb y (by simp)) (hr y _ h)
  | x :: a, [], r, s, ha, _, _, hs, h => absurd (ha x (by simp)) (hs x _ h.symm)
  | x :: a, y :: b, r, s, ha, hb, hr, hs, h => by
    injection h with h1 h2
    obtain ⟨e1, e2⟩ := span_eq p a b r s (fun z hz => ha z (by simp [hz])) (fun z hz => hb z (by simp [hz])) hr hs h2
    exact ⟨by rw [h1, e1], e2⟩

structure AttrOk (a : AttrD) : Prop where
  name : nameL a.name = true
  value : ∃ o, escL true a.value = some o
theorem attrs_inj : ∀ (l m : List AttrD) (r s : List UInt8), (∀ a ∈ l, AttrOk a) → (∀ a ∈ m, AttrOk a) → (∀ x t, r = x :: t → x ≠ 32) → (∀ x t, s = x :: t → x ≠ 32) → l.flatMap attrT ++ r = m.flatMap attrT ++ s → l = m ∧ r = s
  | [], [], r, s, _, _, _, _, h => ⟨rfl, h⟩
  | [], b :: m, r, s, _, _, hr, _, h => by
    exfalso
    have e : ∃ t, r = 32 :: t := by
      rw [List.flatMap_nil, List.nil_append] at h
      rw [h, List.flatMap_cons]
      exact ⟨_, rfl⟩
    obtain ⟨t, e⟩ := e
    exact hr 32 t e rfl
  | a :: l, [], r, s, _, _, _, hs, h => by
    exfalso
    have e : ∃ t, s = 32 :: t := by
      rw [List.flatMap_nil, List.nil_append] at h
      rw [← h, List.flatMap_cons]
      exact ⟨_, rfl⟩
    obtain ⟨t, e⟩ := e
    exact hs 32 t e rfl
  | a :: l, b :: m, r, s, hl, hm, hr, hs, h => by
    obtain ⟨na, oa, hoa⟩ := hl a (by simp)
    obtain ⟨nbm, ob, hob⟩ := hm b (by simp)
    have ea : escV a.value = oa := by unfold escV; rw [hoa]; rfl
    have eb : escV b.value = ob := by unfold escV; rw [hob]; rfl
    simp only [List.flatMap_cons, attrT, ea, eb, List.append_assoc, List.cons_append, List.nil_append] at h
    injection h with _ h
    obtain ⟨e1, h⟩ := span_eq (fun x => nb x = true) a.name b.name _ _ (List.all_eq_true.1 (name_bytes na).2) (List.all_eq_true.1 (name_bytes nbm).2) (fun x t e => by injection e with e _; subst e; decide) (fun x t e => by injection e with e _; subst e; decide) h
    injection h with _ h
    injection h with _ h
    obtain ⟨e2, h⟩ := span_eq (fun x => x ≠ 34) oa ob _ _ (esc_value hoa) (esc_value hob) (fun x t e => by injection e with e _; subst e; decide) (fun x t e => by injection e with e _; subst e; decide) h
    injection h with _ h
    obtain ⟨e3, hrs⟩ := attrs_inj l m r s (fun x hx => hl x (by simp [hx])) (fun x hx => hm x (by simp [hx])) hr hs h
    subst e2
    have e4 := esc_inj hoa hob
    refine ⟨?_, hrs⟩
    rw [e3]
    cases a; cases b
    simp only at e1 e4
    rw [e1, e4]

theorem item_same {x y : ItemD} (h : x.level = y.level ∧ x.kind = y.kind ∧ x.name = y.name ∧ x.text = y.text ∧ x.attrs = y.attrs) : x = y := by
  obtain ⟨h1, h2, h3, h4, h5⟩ := h
  cases x; cases y; simp_all

/-- an item whose parts may be -/
inductive ItemOk (x : ItemD) : Prop
  | text (k : x.kind = 2) (n : x.name = []) (a : x.attrs = []) (t : ∃ o, escL false x.text = some o)
  | elem (k : x.kind = 1) (t : x.text = []) (n : nameL x.name = true) (a : ∀ y ∈ x.attrs, AttrOk y)
theorem count_esc {v : Bool} {l : List UInt8} (h : charsE l = 0) : ∃ o, escL v l = some o := by
  unfold charsE at h
  split at h
  · omega
  · rename_i hc
    unfold countL at hc
    unfold escL
    cases hl : charsL l with
    | none => rw [hl] at hc; simp at hc
    | some cs => exact ⟨_, rfl⟩
theorem attrNames_ok : ∀ (l : List AttrD) (last : List UInt8), attrNames last l = true → ∀ a ∈ l, nameL a.name = true
  | [], _, _, _, h => by cases h
  | b :: l, last, h, a, ha => by
    simp only [attrNames, Bool.and_eq_true] at h
    rcases List.mem_cons.1 ha with rfl | ha
    · exact h.1.1
    · exact attrNames_ok l b.name h.2 a ha
theorem valuesE_ok : ∀ (l : List AttrD), valuesE l = 0 → ∀ a ∈ l, charsE a.value = 0
  | [], _, _, h => by cases h
  | b :: l, h, a, ha => by
    unfold valuesE at h
    by_cases h0 : charsE b.value = 0
    · rw [if_pos h0] at h
      rcases List.mem_cons.1 ha with rfl | ha
      · exact h0
      · exact valuesE_ok l h a ha
    · rw [if_neg h0] at h; exact absurd h h0
theorem parts_ok {x : ItemD} (h : partsE x = 0) : ItemOk x := by
  unfold partsE at h
  split at h
  · rename_i h1
    exact .text h1.1 h1.2.1 h1.2.2 (count_esc h)
  · split at h
    · omega
    · rename_i h2
      have ht : x.text = [] := Decidable.of_not_not fun h => h2 (.inr h)
      have hk : x.kind = 1 := Decidable.of_not_not fun h => h2 (.inl h)
      by_cases h3 : namesE x = 0
      · rw [if_pos h3] at h
        unfold namesE at h3
        by_cases h4 : (nameL x.name && attrNames [] x.attrs) = true
        · simp only [Bool.and_eq_true] at h4
          exact .elem hk ht h4.1 (fun a ha => ⟨attrNames_ok _ _ h4.2 a ha, count_esc (valuesE_ok _ h a ha)⟩)
        · rw [if_neg h4] at h3; cases h3
      · rw [if_neg h3] at h; exact absurd h h3

/-- what may stand behind: an end, or nothing -/
def endR (r : List UInt8) : Prop := r = [] ∨ ∃ t, r = 60 :: 47 :: t
theorem tag_inj {x y : ItemD} {r s : List UInt8} (nx : nameL x.name = true) (ax : ∀ a ∈ x.attrs, AttrOk a) (ny : nameL y.name = true) (ay : ∀ a ∈ y.attrs, AttrOk a)
    (hr : ∀ c t, r = c :: t → c = 47 ∨ c = 62) (hs : ∀ c t, s = c :: t → c = 47 ∨ c = 62) (h : tagL x ++ r = tagL y ++ s) : x.name = y.name ∧ x.attrs = y.attrs ∧ r = s := by
  unfold tagL at h
  simp only [List.append_assoc, List.cons_append, List.nil_append] at h
  injection h with _ h
  have stop : ∀ (l : List AttrD) (r : List UInt8), (∀ c t, r = c :: t → c = 47 ∨ c = 62) → ∀ c t, l.flatMap attrT ++ r = c :: t → ¬ nb c = true := by
    intro l r hr c t e
    cases l with
    | nil =>
      have := hr c t (by simpa using e)
      rcases this with rfl | rfl <;> decide
    | cons a l =>
      simp only [List.flatMap_cons, attrT, List.append_assoc, List.cons_append, List.nil_append] at e
      injection e with e _
      subst e; decide
  obtain ⟨e1, h⟩ := span_eq (fun b => nb b = true) x.name y.name _ _ (List.all_eq_true.1 (name_bytes nx).2) (List.all_eq_true.1 (name_bytes ny).2) (stop _ _ hr) (stop _ _ hs) h
  obtain ⟨e2, h⟩ := attrs_inj x.attrs y.attrs r s ax ay (fun c t e => by rcases hr c t e with rfl | rfl <;> decide) (fun c t e => by rcases hs c t e with rfl | rfl <;> decide) h
  exact ⟨e1, e2, h⟩

theorem pr_text {x : ItemD} {r : List ItemD} (hk : x.kind = 2) (hc : capC (cap x) r) : pr (x :: r) = escT x.text ++ pr r := by
  have : cap x = x.level := by unfold cap; rw [if_pos hk]
  rw [this] at hc
  obtain ⟨k1, k2⟩ := kids_nil hc
  rw [pr_cons, k1, k2]
  have : nodeL x [] (pr []) = escT x.text := by unfold nodeL; rw [if_pos hk]
  rw [this]
theorem pr_elem {x : ItemD} {r : List ItemD} (hk : x.kind ≠ 2) : pr (x :: r) = tagL x ++ ((if kidsOf x.level r = [] then [47, 62] else [62] ++ pr (kidsOf x.level r) ++ closeT x.name) ++ pr (pastOf x.level r)) := by
  rw [pr_cons]
  unfold nodeL
  rw [if_neg hk]
  split
  · simp
  · simp [closeT]

structure Forest (L : Int) (b : List ItemD) : Prop where
  low : ∀ y ∈ b, L ≤ y.level
  cap : capC L b
  ok : ∀ y ∈ b, ItemOk y
  nf : NF b
theorem nfP_split : ∀ (a b : List ItemD) (p : ItemD), nfP p (a ++ b) → nfP p a ∧ NF b
  | [], [], _, _ => ⟨trivial, trivial⟩
  | [], x :: b, p, h => ⟨trivial, h.1, h.2.2⟩
  | x :: a, b, p, h => by
    obtain ⟨h1, h2⟩ := nfP_split a b x h.2.2
    exact ⟨⟨h.1, h.2.1, h1⟩, h2⟩
theorem NF.tail {x : ItemD} {r : List ItemD} (h : NF (x :: r)) : NF r := by
  cases r with
  | nil => trivial
  | cons y r => exact ⟨h.2.1, h.2.2.2⟩
theorem NF.split {a b : List ItemD} (h : NF (a ++ b)) : NF a ∧ NF b := by
  cases a with
  | nil => exact ⟨trivial, h⟩
  | cons x a =>
    obtain ⟨h1, h2⟩ := nfP_split a b x h.2
    exact ⟨⟨h.1, h1⟩, h2⟩
theorem Forest.head {L : Int} {x : ItemD} {r : List ItemD} (h : Forest L (x :: r)) : x.level = L := by
  have h1 := h.low x (by simp)
  have h2 := h.cap.1
  omega
/-- an element's kids, and what stands past them -/
theorem Forest.parts {L : Int} {x : ItemD} {r : List ItemD} (h : Forest L (x :: r)) (hk : x.kind ≠ 2) : Forest (L + 1) (kidsOf x.level r) ∧ Forest L (pastOf x.level r) := by
  have hx := h.head
  have hs := kids_past x.level r
  have hc := h.cap.2
  have hcx : Go.Proofs.Ythifddkmbjnncaa.cap x = x.level + 1 := by unfold Go.Proofs.Ythifddkmbjnncaa.cap; rw [if_neg hk]
  rw [hcx, ← hs] at hc
  obtain ⟨c1, c', c2⟩ := capC_split _ _ _ hc
  have hn := h.nf.tail
  rw [← hs] at hn
  obtain ⟨n1, n2⟩ := hn.split
  have hmk : ∀ y ∈ kidsOf x.level r, y ∈ r := fun y hy => by rw [← hs]; simp [hy]
  have hmp : ∀ y ∈ pastOf x.level r, y ∈ r := fun y hy => by rw [← hs]; simp [hy]
  refine ⟨⟨fun y hy => by have := kids_mem x.level r y hy; omega, by rw [← hx]; exact c1, fun y hy => h.ok y (by simp [hmk y hy]), n1⟩,
    ⟨fun y hy => h.low y (by simp [hmp y hy]), capC_head c2 (fun y t e => by have := past_head x.level r y t e; omega), fun y hy => h.ok y (by simp [hmp y hy]), n2⟩⟩
theorem esc_ne {t o : List UInt8} (h : escL false t = some o) (ht : t ≠ []) : ∃ c s, o = c :: s ∧ c ≠ 60 := by
  cases o with
  | nil =>
    have := undo_esc false t [] h
    have e : escL false [] = some [] := rfl
    exact absurd (esc_inj h e) ht
  | cons c s => exact ⟨c, s, rfl, esc_text h c (by simp)⟩
theorem pr_starts {L : Int} {x : ItemD} {r : List ItemD} (h : Forest L (x :: r)) (R : List UInt8) : (x.kind = 2 ∧ ∃ c t, pr (x :: r) ++ R = c :: t ∧ c ≠ 60) ∨ (x.kind = 1 ∧ ∃ c t, pr (x :: r) ++ R = 60 :: c :: t ∧ c ≠ 47) := by
  rcases h.ok x (by simp) with ⟨k, _, _, o, ho⟩ | ⟨k, _, n, _⟩
  · refine .inl ⟨k, ?_⟩
    have hne : x.text ≠ [] := fun e => h.nf.1 ⟨k, e⟩
    obtain ⟨c, s, e, hc⟩ := esc_ne ho hne
    rw [pr_text k h.cap.2]
    have : escT x.text = c :: s := by unfold escT; rw [ho, ← e]; rfl
    rw [this]
    exact ⟨c, _, rfl, hc⟩
  · refine .inr ⟨k, ?_⟩
    obtain ⟨hne, hall⟩ := name_bytes n
    rw [pr_elem (by omega)]
    cases hn : x.name with
    | nil => exact absurd hn hne
    | cons c s =>
      have hc : nb c = true := by rw [hn] at hall; simp at hall; exact hall.1
      refine ⟨c, _, by unfold tagL; rw [hn]; rfl, fun e => ?_⟩
      subst e; revert hc; decide

theorem pr_inj : ∀ (n : Nat) (a b : List ItemD) (L : Int) (R S : List UInt8), a.length + b.length ≤ n → Forest L a → Forest L b → endR R → endR S → pr a ++ R = pr b ++ S → a = b ∧ R = S := by
  intro n
  induction n with
  | zero =>
    intro a b L R S hn _ _ _ _ h
    have e1 : a = [] := List.eq_nil_of_length_eq_zero (by omega)
    have e2 : b = [] := List.eq_nil_of_length_eq_zero (by omega)
    subst e1; subst e2
    rw [pr_nil] at h
    exact ⟨rfl, h⟩
  | succ n ih =>
    intro a b L R S hn ha hb hR hS h
    have endNot : ∀ (R : List UInt8), endR R → ∀ (c : UInt8) (t : List UInt8), R = c :: t → c = 60 ∧ ∃ u, t = 47 :: u := by
      intro R hR c t e
      rcases hR with h | ⟨u, h⟩
      · rw [h] at e; cases e
      · rw [h] at e
        injection e with e1 e2
        exact ⟨e1.symm, u, e2.symm⟩
    have endNo : ∀ (x : ItemD) (r : List ItemD) (R S : List UInt8), Forest L (x :: r) → endR R → R = pr (x :: r) ++ S → False := by
      intro x r R S hf hR e
      rcases pr_starts hf S with ⟨_, c, t, e2, hc⟩ | ⟨_, c, t, e2, hc⟩
      · rw [e2] at e
        exact hc (endNot R hR c t e).1
      · rw [e2] at e
        obtain ⟨_, u, hu⟩ := endNot R hR 60 _ e
        injection hu with hu _
        exact hc hu
    cases a with
    | nil =>
      cases b with
      | nil => rw [pr_nil] at h; exact ⟨rfl, h⟩
      | cons y s =>
        rw [pr_nil] at h
        exact (endNo y s R S hb hR h).elim
    | cons x r =>
      cases b with
      | nil =>
        rw [pr_nil] at h
        exact (endNo x r S R ha hS h.symm).elim
      | cons y s =>
        have hxl := ha.head
        have hyl := hb.head
        have startOf := pr_starts ha R
        have startOf' := pr_starts hb S
        simp only [List.length_cons] at hn
        rcases startOf with ⟨kx, c, t, ec, hc⟩ | ⟨kx, c, t, ec, hc⟩
        · rcases startOf' with ⟨ky, _⟩ | ⟨_, c', t', ec', _⟩
          · -- two texts
            rcases ha.ok x (by simp) with ⟨_, nx, ax, ox, hox⟩ | ⟨k, _, _, _⟩
            · rcases hb.ok y (by simp) with ⟨_, ny, ay, oy, hoy⟩ | ⟨k, _, _, _⟩
              · rw [pr_text kx ha.cap.2, pr_text ky hb.cap.2, List.append_assoc, List.append_assoc] at h
                have ex : escT x.text = ox := by unfold escT; rw [hox]; rfl
                have ey : escT y.text = oy := by unfold escT; rw [hoy]; rfl
                rw [ex, ey] at h
                have fr : ∀ {x : ItemD} {r : List ItemD}, x.kind = 2 → Forest L (x :: r) → Forest L r := by
                  intro x r k hf
                  have hl := hf.head
                  have hcp := hf.cap.2
                  have : Go.Proofs.Ythifddkmbjnncaa.cap x = L := by unfold Go.Proofs.Ythifddkmbjnncaa.cap; rw [if_pos k]; exact hl
                  rw [this] at hcp
                  exact ⟨fun z hz => hf.low z (by simp [hz]), hcp, fun z hz => hf.ok z (by simp [hz]), hf.nf.tail⟩
                have stop : ∀ {x : ItemD} {r : List ItemD} {R : List UInt8}, x.kind = 2 → Forest L (x :: r) → endR R → ∀ c t, pr r ++ R = c :: t → ¬ c ≠ 60 := by
                  intro x r R k hf hR c t e hne
                  cases r with
                  | nil =>
                    rw [pr_nil] at e
                    exact hne (endNot R hR c t e).1
                  | cons z r =>
                    have hz := (fr k hf)
                    rcases pr_starts hz R with ⟨kz, _⟩ | ⟨_, c', t', e', _⟩
                    · exact hf.nf.2.2.1 ⟨kz, k, by rw [hf.head, hz.head]⟩
                    · rw [e'] at e
                      injection e with e _
                      exact hne e.symm
                obtain ⟨e1, e2⟩ := span_eq (fun b => b ≠ 60) ox oy _ _ (esc_text hox) (esc_text hoy) (stop kx ha hR) (stop ky hb hS) h
                subst e1
                have et := esc_inj hox hoy
                obtain ⟨e3, e4⟩ := ih r s L R S (by omega) (fr kx ha) (fr ky hb) hR hS e2
                refine ⟨?_, e4⟩
                rw [e3]
                congr 1
                exact item_same ⟨by omega, by omega, by rw [nx, ny], et, by rw [ax, ay]⟩
              · omega
            · omega
          · rw [h, ec'] at ec
            injection ec with ec _
            exact absurd ec.symm hc
        · rcases startOf' with ⟨_, c', t', ec', hc'⟩ | ⟨ky, _⟩
          · rw [h, ec'] at ec
            injection ec with ec _
            exact absurd ec hc'
          · rcases ha.ok x (by simp) with ⟨k, _, _, _⟩ | ⟨_, tx, nx, ax⟩
            · omega
            · rcases hb.ok y (by simp) with ⟨k, _, _, _⟩ | ⟨_, ty, ny, ay⟩
              · omega
              · obtain ⟨pk, pp⟩ := ha.parts (by omega)
                obtain ⟨qk, qp⟩ := hb.parts (by omega)
                have kl := kidsOf_le x.level r
                have pl := pastOf_le x.level r
                have kl' := kidsOf_le y.level s
                have pl' := pastOf_le y.level s
                rw [pr_elem (by omega), pr_elem (by omega)] at h
                simp only [List.append_assoc] at h
                have heads : ∀ (K : List ItemD) (nm T : List UInt8), ∀ c t, (if K = [] then [47, 62] else [62] ++ (pr K ++ closeT nm)) ++ T = c :: t → c = 47 ∨ c = 62 := by
                  intro K nm T c t e
                  split at e
                  · injection e with e _; exact .inl e.symm
                  · injection e with e _; exact .inr e.symm
                obtain ⟨e1, e2, h⟩ := tag_inj nx ax ny ay (heads _ _ _) (heads _ _ _) h
                have exy : x = y := item_same ⟨by omega, by omega, e1, by rw [tx, ty], e2⟩
                have hsx := kids_past x.level r
                have hsy := kids_past y.level s
                by_cases hk1 : kidsOf x.level r = []
                · rw [if_pos hk1] at h
                  by_cases hk2 : kidsOf y.level s = []
                  · rw [if_pos hk2] at h
                    injection h with _ h
                    injection h with _ h
                    obtain ⟨e3, e4⟩ := ih _ _ L R S (by omega) pp qp hR hS h
                    refine ⟨?_, e4⟩
                    rw [exy]
                    congr 1
                    rw [← hsx, ← hsy, hk1, hk2, e3]
                  · rw [if_neg hk2] at h
                    injection h with h _
                    exact absurd h (by decide)
                · rw [if_neg hk1] at h
                  by_cases hk2 : kidsOf y.level s = []
                  · rw [if_pos hk2] at h
                    injection h with h _
                    exact absurd h (by decide)
                  · rw [if_neg hk2] at h
                    simp only [List.append_assoc, List.cons_append, List.nil_append] at h
                    injection h with _ h
                    obtain ⟨e3, e4⟩ := ih _ _ (L + 1) _ _ (by omega) pk qk (.inr ⟨_, rfl⟩) (.inr ⟨_, rfl⟩) h
                    rw [e1] at e4
                    injection e4 with _ e4
                    injection e4 with _ e4
                    have e5 : pr (pastOf x.level r) ++ R = pr (pastOf y.level s) ++ S := List.append_cancel_left e4
                    obtain ⟨e6, e7⟩ := ih _ _ L R S (by omega) pp qp hR hS e5
                    refine ⟨?_, e7⟩
                    rw [exy]
                    congr 1
                    rw [← hsx, ← hsy, e3, e6]

theorem Doc.forest {l : List ItemD} (h : Doc l) (hn : NF l) : Forest 0 l :=
  ⟨h.cap.2, h.cap.1, fun y hy => by
    obtain ⟨k, hk⟩ := List.mem_iff_getElem?.1 hy
    exact parts_ok (oneE_zero (h.one k y hk)).2, hn⟩
/-- two documents in normal form that are printed alike are the same -/
theorem print_inj {x y : List ItemD} (hx : Doc x) (hy : Doc y) (nx : NF x) (ny : NF y) (h : nodeAt (normalL x) 0 = nodeAt (normalL y) 0) : x = y := by
  obtain ⟨x0, s, sx⟩ := hx.normal
  obtain ⟨y0, t, sy⟩ := hy.normal
  rw [← sx.pr, ← sy.pr, nf_normal x nx, nf_normal y ny] at h
  exact (pr_inj _ x y 0 [] [] (Nat.le_refl _) (hx.forest nx) (hy.forest ny) (.inl rfl) (.inl rfl) (by rw [List.append_nil, List.append_nil]; exact h)).1
end Go.Proofs.Ythifddkmbjnncaa

/-
  The plain law of tokens: no program in sight. All places are counted from the token's own beginning.
-/
namespace Go.Proofs.Ythifddkmbjnncaa

def blankB (b : UInt8) : Bool := b == 32 || b == 9 || b == 10

structure TokD where
  kind : Int
  name : List UInt8
  text : List UInt8
  attrs : List AttrD
deriving DecidableEq

/-- what a step tells: something, and how many bytes it took; or a place, and an error's number -/
inductive Told (α : Type) where
  | ok (x : α) (n : Nat)
  | bad (k : Nat) (e : Int)
deriving DecidableEq

/-- .. a place further on -/
def Told.past {α : Type} (k : Nat) : Told α → Told α
  | .ok x n => .ok x (k + n)
  | .bad j e => .bad (k + j) e

theorem Told.past_past {α : Type} (j k : Nat) (x : Told α) : (x.past k).past j = x.past (j + k) := by
  cases x <;> simp [Told.past, Nat.add_assoc]
theorem Told.past_zero {α : Type} (x : Told α) : x.past 0 = x := by
  cases x <;> simp [Told.past]

def wordL (l : List UInt8) : List UInt8 := l.takeWhile nb
def skipL (l : List UInt8) : Nat := (l.takeWhile blankB).length

def textT (l : List UInt8) : Told TokD :=
  let t := l.takeWhile (· != 60)
  let u := undoL false t
  if u.2.2 ≠ 0 then .bad u.2.1 u.2.2 else if 1500 < u.1.length then .bad 0 34 else .ok ⟨4, [], u.1, []⟩ t.length

/-- an end, behind its two first bytes -/
def endT (l : List UInt8) : Told TokD :=
  let n := wordL l
  if nameL n = false then .bad 0 31
  else
    let k := n.length + skipL (l.drop n.length)
    if pre [62] (l.drop k) = true then .ok ⟨2, n, [], []⟩ (k + 1) else .bad k 30

/-- by rising names -/
def insA (a : AttrD) : List AttrD → List AttrD
  | [] => [a]
  | b :: r => if Op.bytesLess a.name b.name then a :: b :: r else b :: insA a r
def sortA (l : List AttrD) : List AttrD := l.foldl (fun o a => insA a o) []

/-- a value, behind its quote: where the quote stands is one place ahead -/
def valueT (n : List UInt8) (l : List UInt8) : Told AttrD :=
  let v := l.takeWhile (· != 34)
  if v.length = l.length then .bad (n.length + 2 + v.length) 30
  else
    let u := undoL true v
    if u.2.2 ≠ 0 then .bad (n.length + 2 + u.2.1) u.2.2 else if 1500 < u.1.length then .bad (n.length + 1) 34 else .ok ⟨n, u.1⟩ (n.length + 2 + v.length + 1)

def attrL (l : List UInt8) (bs : List AttrD) : Told AttrD :=
  let n := wordL l
  if nameL n = false then .bad 0 31
  else if 20 ≤ bs.length then .bad 0 33
  else if bs.any (fun a => decide (a.name = n)) then .bad 0 32
  else if pre [61] (l.drop n.length) = false then .bad n.length 30
  else if pre [34] (l.drop (n.length + 1)) = false then .bad (n.length + 1) 30
  else valueT n (l.drop (n.length + 2))

/-- the attributes, and the end of the beginning: which it is, and the attributes bs they came -/
def attrsF : Nat → List UInt8 → List AttrD → Told (Int × List AttrD)
  | 0, _, _ => .bad 0 30
  | f + 1, l, bs =>
    let b := skipL l
    let r := l.drop b
    if pre [62] r = true then .ok (1, bs) (b + 1)
    else if pre [47, 62] r = true then .ok (3, bs) (b + 2)
    else if b = 0 ∨ r = [] then .bad b 30
    else match attrL r bs with
      | .bad k e => .bad (b + k) e
      | .ok a n => (attrsF f (r.drop n) (bs ++ [a])).past (b + n)

/-- a beginning, behind its first byte -/
def beginT (l : List UInt8) : Told TokD :=
  let n := wordL l
  if nameL n = false then .bad 0 31
  else match attrsF (l.length + 1) (l.drop n.length) [] with
    | .bad k e => .bad (n.length + k) e
    | .ok q k => .ok ⟨q.1, n, [], sortA q.2⟩ (n.length + k)

def oneT (l : List UInt8) : Told TokD :=
  if pre [60, 47] l = true then (endT (l.drop 2)).past 2
  else if pre [60] l = true then (beginT (l.drop 1)).past 1
  else textT l

/-- all tokens, each with where it stands -/
def allF : Nat → Nat → List UInt8 → List (Nat × TokD) × Nat × Int
  | 0, _, _ => ([], 0, 0)
  | f + 1, at_, l =>
    if l = [] then ([], 0, 0)
    else match oneT l with
      | .bad k e => ([], at_ + k, e)
      | .ok t n =>
        let r := allF f (at_ + n) (l.drop n)
        if r.2.2 = 0 then ((at_, t) :: r.1, 0, 0) else ([], r.2.1, r.2.2)

/-! ## How far what is told may reach -/
theorem takeWhile_len {α : Type} (p : α → Bool) : ∀ l : List α, (l.takeWhile p).length ≤ l.length
  | [] => by simp
  | a :: l => by
    rw [List.takeWhile_cons]
    split
    · have := takeWhile_len p l; simp; omega
    · simp
theorem wordL_len (l : List UInt8) : (wordL l).length ≤ l.length := takeWhile_len _ _
theorem skipL_len (l : List UInt8) : skipL l ≤ l.length := takeWhile_len _ _

theorem undoF_le (v : Bool) : ∀ (f : Nat) (l : List UInt8), (undoF v f l).2.1 ≤ l.length
  | 0, _ => by simp [undoF]
  | f + 1, l => by
    rw [undoF]
    split
    · simp
    · cases hs : stepL v l with
      | inl e => simp
      | inr q =>
        obtain ⟨t, n⟩ := q
        have := stepL_pos hs
        have ih := undoF_le v f (l.drop n)
        rw [List.length_drop] at ih
        simp only
        split <;> simp only <;> omega
theorem undoL_le (v : Bool) (l : List UInt8) : (undoL v l).2.1 ≤ l.length := undoF_le v _ l

theorem pre1_len {c : UInt8} {l : List UInt8} {k : Nat} (h : pre [c] (l.drop k) = true) : k + 1 ≤ l.length := by
  have := pre_len h
  rw [List.length_drop] at this
  simp at this; omega

def Told.within {α : Type} (lo hi : Nat) : Told α → Prop
  | .ok _ n => lo ≤ n ∧ n ≤ hi
  | .bad k e => k ≤ hi ∧ e ≠ 0

theorem textT_within (l : List UInt8) (h : l ≠ []) (h60 : pre [60] l = false) : (textT l).within 1 l.length := by
  have h1 := takeWhile_len (· != 60) l
  have h2 := undoL_le false (l.takeWhile (· != 60))
  have h3 : 1 ≤ (l.takeWhile (· != 60)).length := by
    cases l with
    | nil => exact absurd rfl h
    | cons a r =>
      have : (a != 60) = true := by
        simp only [pre, List.length_cons, List.length_nil, List.take_succ_cons, List.take_zero] at h60
        cases h : a == 60 with
        | true => rw [eq_of_beq h] at h60; simp at h60
        | false => simp [bne, h]
      rw [List.takeWhile_cons, if_pos this]; simp
  unfold textT
  simp only
  split
  · rename_i h; exact ⟨by omega, h⟩
  · split
    · exact ⟨by omega, by decide⟩
    · exact ⟨h3, h1⟩
theorem endT_within (l : List UInt8) : (endT l).within 1 l.length := by
  have h1 := wordL_len l
  have h2 := skipL_len (l.drop (wordL l).length)
  rw [List.length_drop] at h2
  unfold endT
  simp only
  split
  · exact ⟨by omega, by decide⟩
  · split
    · rename_i h; exact ⟨by omega, pre1_len h⟩
    · exact ⟨by omega, by decide⟩
theorem valueT_within (n l : List UInt8) : (valueT n l).within (n.length + 3) (n.length + 2 + l.length) := by
  have h1 := takeWhile_len (· != 34) l
  have h2 := undoL_le true (l.takeWhile (· != 34))
  unfold valueT
  simp only
  split
  · exact ⟨by omega, by decide⟩
  · split
    · rename_i h; exact ⟨by omega, h⟩
    · split
      · exact ⟨by omega, by decide⟩
      · exact ⟨by omega, by omega⟩
theorem attrL_within (l : List UInt8) (bs : List AttrD) : (attrL l bs).within 3 l.length := by
  have h1 := wordL_len l
  unfold attrL
  simp only
  split
  · exact ⟨by omega, by decide⟩
  · split
    · exact ⟨by omega, by decide⟩
    · split
      · exact ⟨by omega, by decide⟩
      · split
        · exact ⟨by omega, by decide⟩
        · rename_i hp
          have hp1 := pre1_len (by simpa using hp)
          split
          · exact ⟨by omega, by decide⟩
          · rename_i hp'
            have hp2 := pre1_len (by simpa using hp')
            have := valueT_within (wordL l) (l.drop ((wordL l).length + 2))
            rw [List.length_drop] at this
            cases hv : valueT (wordL l) (l.drop ((wordL l).length + 2)) with
            | ok x n => rw [hv] at this; obtain ⟨a, b⟩ := this; exact ⟨by omega, by omega⟩
            | bad k e => rw [hv] at this; obtain ⟨a, b⟩ := this; exact ⟨by omega, b⟩
theorem attrsF_within : ∀ (f : Nat) (l : List UInt8) (bs : List AttrD), (attrsF f l bs).within 1 l.length
  | 0, l, bs => ⟨Nat.zero_le _, by decide⟩
  | f + 1, l, bs => by
    have h1 := skipL_len l
    rw [attrsF]
    split
    · rename_i h; exact ⟨by omega, pre1_len h⟩
    · split
      · rename_i h
        have := pre_len h
        rw [List.length_drop] at this
        simp at this
        exact ⟨by omega, by omega⟩
      · split
        · exact ⟨h1, by decide⟩
        · have := attrL_within (l.drop (skipL l)) bs
          rw [List.length_drop] at this
          cases ha : attrL (l.drop (skipL l)) bs with
          | bad k e => rw [ha] at this; obtain ⟨a, b⟩ := this; exact ⟨by omega, b⟩
          | ok x n =>
            rw [ha] at this; obtain ⟨a, b⟩ := this
            simp only
            have ih := attrsF_within f ((l.drop (skipL l)).drop n) (bs ++ [x])
            rw [List.length_drop, List.length_drop] at ih
            cases hq : attrsF f ((l.drop (skipL l)).drop n) (bs ++ [x]) with
            | ok y m => rw [hq] at ih; obtain ⟨c, d⟩ := ih; exact ⟨by omega, by omega⟩
            | bad k e => rw [hq] at ih; obtain ⟨c, d⟩ := ih; exact ⟨by omega, d⟩
theorem beginT_within (l : List UInt8) : (beginT l).within 1 l.length := by
  have h1 := wordL_len l
  unfold beginT
  simp only
  split
  · exact ⟨by omega, by decide⟩
  · have := attrsF_within (l.length + 1) (l.drop (wordL l).length) []
    rw [List.length_drop] at this
    cases ha : attrsF (l.length + 1) (l.drop (wordL l).length) [] with
    | bad k e => rw [ha] at this; obtain ⟨a, b⟩ := this; exact ⟨by omega, b⟩
    | ok x n => rw [ha] at this; obtain ⟨a, b⟩ := this; exact ⟨by omega, by omega⟩
theorem oneT_within (l : List UInt8) (h : l ≠ []) : (oneT l).within 1 l.length := by
  unfold oneT
  split
  · rename_i hp
    have hl := pre_len hp
    simp at hl
    have := endT_within (l.drop 2)
    rw [List.length_drop] at this
    cases hq : endT (l.drop 2) with
    | ok y m => rw [hq] at this; obtain ⟨c, d⟩ := this; exact ⟨by omega, by omega⟩
    | bad k e => rw [hq] at this; obtain ⟨c, d⟩ := this; exact ⟨by omega, d⟩
  · split
    · rename_i hp
      have hl := pre_len hp
      simp at hl
      have := beginT_within (l.drop 1)
      rw [List.length_drop] at this
      cases hq : beginT (l.drop 1) with
      | ok y m => rw [hq] at this; obtain ⟨c, d⟩ := this; exact ⟨by omega, by omega⟩
      | bad k e => rw [hq] at this; obtain ⟨c, d⟩ := this; exact ⟨by omega, d⟩
    · rename_i hp
      exact textT_within l h (by simpa using hp)

/-- fuel is no matter -/
theorem attrsF_more : ∀ (f : Nat) (l : List UInt8) (bs : List AttrD) (g : Nat), l.length < f → l.length < g → attrsF f l bs = attrsF g l bs
  | 0, _, _, _, h, _ => by omega
  | f + 1, l, bs, 0, _, h => by omega
  | f + 1, l, bs, g + 1, hf, hg => by
    rw [attrsF, attrsF]
    have h1 := skipL_len l
    have := attrL_within (l.drop (skipL l)) bs
    rw [List.length_drop] at this
    cases ha : attrL (l.drop (skipL l)) bs with
    | bad k e => rfl
    | ok x n =>
      rw [ha] at this; obtain ⟨a, b⟩ := this
      simp only
      rw [attrsF_more f ((l.drop (skipL l)).drop n) (bs ++ [x]) g (by simp only [List.length_drop]; omega) (by simp only [List.length_drop]; omega)]
theorem allF_more : ∀ (f : Nat) (at_ : Nat) (l : List UInt8) (g : Nat), l.length < f → l.length < g → allF f at_ l = allF g at_ l
  | 0, _, _, _, h, _ => by omega
  | f + 1, _, l, 0, _, h => by omega
  | f + 1, at_, l, g + 1, hf, hg => by
    rw [allF, allF]
    by_cases hl : l = []
    · rw [if_pos hl, if_pos hl]
    · rw [if_neg hl, if_neg hl]
      have := oneT_within l hl
      cases ho : oneT l with
      | bad k e => rfl
      | ok t n =>
        rw [ho] at this; obtain ⟨a, b⟩ := this
        simp only
        rw [allF_more f (at_ + n) (l.drop n) g (by rw [List.length_drop]; omega) (by rw [List.length_drop]; omega)]

def attrsL (l : List UInt8) (bs : List AttrD) : Told (Int × List AttrD) := attrsF (l.length + 1) l bs
def allL (at_ : Nat) (l : List UInt8) : List (Nat × TokD) × Nat × Int := allF (l.length + 1) at_ l

theorem attrsL_step (l : List UInt8) (bs : List AttrD) (b : Nat) (hb : b = skipL l) (h1 : pre [62] (l.drop b) = false) (h2 : pre [47, 62] (l.drop b) = false) (h3 : b ≠ 0) (h4 : l.drop b ≠ []) (a : AttrD) (n : Nat) (ha : attrL (l.drop b) bs = .ok a n) :
    attrsL l bs = (attrsL (l.drop (b + n)) (bs ++ [a])).past (b + n) := by
  subst hb
  unfold attrsL
  have := attrL_within (l.drop (skipL l)) bs
  rw [ha, List.length_drop] at this
  obtain ⟨c, d⟩ := this
  rw [attrsF]
  simp only [h1, h2, ha, Bool.false_eq_true, if_false]
  rw [if_neg (by intro h; rcases h with h | h; exact h3 h; exact h4 h), List.drop_drop]
  have h5 := skipL_len l
  rw [attrsF_more l.length (l.drop (skipL l + n)) _ ((l.drop (skipL l + n)).length + 1) (by rw [List.length_drop]; omega) (by omega)]
theorem attrsL_bad (l : List UInt8) (bs : List AttrD) (b : Nat) (hb : b = skipL l) (h1 : pre [62] (l.drop b) = false) (h2 : pre [47, 62] (l.drop b) = false) (h3 : b ≠ 0) (h4 : l.drop b ≠ []) (k : Nat) (e : Int) (ha : attrL (l.drop b) bs = .bad k e) :
    attrsL l bs = .bad (b + k) e := by
  subst hb
  unfold attrsL
  rw [attrsF]
  simp only [h1, h2, ha, Bool.false_eq_true, if_false]
  rw [if_neg (by intro h; rcases h with h | h; exact h3 h; exact h4 h)]
theorem attrsL_one (l : List UInt8) (bs : List AttrD) (b : Nat) (hb : b = skipL l) (h1 : pre [62] (l.drop b) = true) : attrsL l bs = .ok (1, bs) (b + 1) := by
  subst hb
  unfold attrsL
  rw [attrsF]
  simp only [h1, if_true]
theorem attrsL_two (l : List UInt8) (bs : List AttrD) (b : Nat) (hb : b = skipL l) (h1 : pre [62] (l.drop b) = false) (h2 : pre [47, 62] (l.drop b) = true) : attrsL l bs = .ok (3, bs) (b + 2) := by
  subst hb
  unfold attrsL
  rw [attrsF]
  simp only [h1, h2, if_true, Bool.false_eq_true, if_false]
theorem attrsL_form (l : List UInt8) (bs : List AttrD) (b : Nat) (hb : b = skipL l) (h1 : pre [62] (l.drop b) = false) (h2 : pre [47, 62] (l.drop b) = false) (h : b = 0 ∨ l.drop b = []) : attrsL l bs = .bad b 30 := by
  subst hb
  unfold attrsL
  rw [attrsF]
  simp only [h1, h2, Bool.false_eq_true, if_false]
  rw [if_pos h]

theorem allL_nil (at_ : Nat) : allL at_ [] = ([], 0, 0) := by simp [allL, allF]
theorem allL_bad (at_ : Nat) (l : List UInt8) (h : l ≠ []) (k : Nat) (e : Int) (ho : oneT l = .bad k e) : allL at_ l = ([], at_ + k, e) := by
  unfold allL
  rw [allF, if_neg h, ho]
theorem allL_step (at_ : Nat) (l : List UInt8) (h : l ≠ []) (t : TokD) (n : Nat) (ho : oneT l = .ok t n) :
    allL at_ l = if (allL (at_ + n) (l.drop n)).2.2 = 0 then ((at_, t) :: (allL (at_ + n) (l.drop n)).1, 0, 0) else ([], (allL (at_ + n) (l.drop n)).2.1, (allL (at_ + n) (l.drop n)).2.2) := by
  unfold allL
  have := oneT_within l h
  rw [ho] at this
  obtain ⟨c, d⟩ := this
  rw [allF, if_neg h, ho]
  simp only
  rw [allF_more l.length (at_ + n) (l.drop n) ((l.drop n).length + 1) (by rw [List.length_drop]; omega) (by omega)]

/-- what is told of all, behind what was told so far -/
def joinT (acc : List (Nat × TokD)) (r : List (Nat × TokD) × Nat × Int) : List (Nat × TokD) × Nat × Int :=
  if r.2.2 = 0 then (acc ++ r.1, 0, 0) else ([], r.2.1, r.2.2)
theorem joinT_bad (acc : List (Nat × TokD)) (k : Nat) (e : Int) (h : e ≠ 0) : joinT acc ([], k, e) = ([], k, e) := by simp [joinT, h]
theorem joinT_nil (acc : List (Nat × TokD)) : joinT acc ([], 0, 0) = (acc, 0, 0) := by simp [joinT]
theorem joinT_step (acc : List (Nat × TokD)) (at_ : Nat) (l : List UInt8) (h : l ≠ []) (t : TokD) (n : Nat) (ho : oneT l = .ok t n) :
    joinT acc (allL at_ l) = joinT (acc ++ [(at_, t)]) (allL (at_ + n) (l.drop n)) := by
  rw [allL_step at_ l h t n ho]
  unfold joinT
  by_cases h0 : (allL (at_ + n) (l.drop n)).2.2 = 0
  · simp [h0]
  · simp [h0]
theorem joinT_one_bad (acc : List (Nat × TokD)) (at_ : Nat) (l : List UInt8) (h : l ≠ []) (k : Nat) (e : Int) (ho : oneT l = .bad k e) : joinT acc (allL at_ l) = ([], at_ + k, e) := by
  have := oneT_within l h
  rw [ho] at this
  rw [allL_bad at_ l h k e ho, joinT_bad _ _ _ this.2]
end Go.Proofs.Ythifddkmbjnncaa

/-
  The reader of tokens: its block; the walks of its small methods: fail, is, must, blanks, word, undone.
-/
namespace Go.Proofs.Ythifddkmbjnncaa
open Go.RowKit

structure Rdr where
  s : ByteArray
  pos : Nat
  kind : Int
  place : Int
  name : List UInt8
  text : List UInt8
  A : Option Addr
  n : Nat
  c : Nat
  bad : Int
  code : Int
def Rdr.cells (r : Rdr) : Array Value := #[.string r.s, .int .i64 r.pos, .int .i64 r.kind, .int .i64 r.place, .string ⟨r.name.toArray⟩, .string ⟨r.text.toArray⟩, .slice r.A r.n r.c, .int .i64 r.bad, .int .i64 r.code]
/-- a reader's block -/
def RdAt (w : World) (b : Nat) (r : Rdr) : Prop := w.heap[b]? = some (.cells r.cells 64 (0, 0))

theorem cell_of_row {w : World} {b : Nat} {cur : Array Value} {e : TypeId} (h : w.heap[b]? = some (.cells cur e (0, 0))) (j : Nat) : w.cell? ⟨b, j, none⟩ = cur[j]? := by
  simp [World.cell?, h]
theorem RdAt.all {w : World} {b : Nat} {r : Rdr} (h : RdAt w b r) :
    w.cell? ⟨b, 0, none⟩ = some (.string r.s) ∧ w.cell? ⟨b, 1, none⟩ = some (.int .i64 r.pos) ∧ w.cell? ⟨b, 2, none⟩ = some (.int .i64 r.kind) ∧ w.cell? ⟨b, 3, none⟩ = some (.int .i64 r.place) ∧ w.cell? ⟨b, 4, none⟩ = some (.string ⟨r.name.toArray⟩) ∧ w.cell? ⟨b, 5, none⟩ = some (.string ⟨r.text.toArray⟩) ∧ w.cell? ⟨b, 6, none⟩ = some (.slice r.A r.n r.c) ∧ w.cell? ⟨b, 7, none⟩ = some (.int .i64 r.bad) ∧ w.cell? ⟨b, 8, none⟩ = some (.int .i64 r.code) := by
  refine ⟨?_, ?_, ?_, ?_, ?_, ?_, ?_, ?_, ?_⟩ <;> (rw [cell_of_row h]; rfl)
theorem RdAt.froz {w : World} {b : Nat} {r : Rdr} (h : RdAt w b r) (j : Nat) : w.frozen? ⟨b, j, none⟩ = false := frozen_of_row w b j _ _ h
theorem RdAt.drew {w : World} {b : Nat} {r : Rdr} (h : RdAt w b r) : RdAt w.drew b r := h
theorem RdAt.lt {w : World} {b : Nat} {r : Rdr} (h : RdAt w b r) : b < w.heap.size := (Array.getElem?_eq_some_iff.1 h).1
theorem RdAt.grown {w w' : World} {b : Nat} {r : Rdr} (h : RdAt w b r) (hg : w.grownBy w' none) : RdAt w' b r := by
  unfold RdAt; rw [hg.block b h.lt (by simp)]; exact h
theorem RdAt.below {w w' : World} {b : Nat} {r : Rdr} (h : RdAt w b r) (hb : Below w.heap.size w w') : RdAt w' b r := h.grown (Lib.grownBy_below (World.grownBy.refl w none) hb)
section
variable {w : World} {b : Nat} {r : Rdr} (h : RdAt w b r)
include h
theorem RdAt.pos (p : Nat) : RdAt (w.setCell ⟨b, 1, none⟩ (.int .i64 p)) b { r with pos := p } := Lib.heap_setCell_same (i := 1) h _
theorem RdAt.kind (p : Int) : RdAt (w.setCell ⟨b, 2, none⟩ (.int .i64 p)) b { r with kind := p } := Lib.heap_setCell_same (i := 2) h _
theorem RdAt.name (p : List UInt8) : RdAt (w.setCell ⟨b, 4, none⟩ (.string ⟨p.toArray⟩)) b { r with name := p } := Lib.heap_setCell_same (i := 4) h _
theorem RdAt.text (p : List UInt8) : RdAt (w.setCell ⟨b, 5, none⟩ (.string ⟨p.toArray⟩)) b { r with text := p } := Lib.heap_setCell_same (i := 5) h _
theorem RdAt.attrs (A : Option Addr) (n c : Nat) : RdAt (w.setCell ⟨b, 6, none⟩ (.slice A n c)) b { r with A := A, n := n, c := c } := Lib.heap_setCell_same (i := 6) h _
theorem RdAt.bad (p : Int) : RdAt (w.setCell ⟨b, 7, none⟩ (.int .i64 p)) b { r with bad := p } := Lib.heap_setCell_same (i := 7) h _
theorem RdAt.code (p : Int) : RdAt (w.setCell ⟨b, 8, none⟩ (.int .i64 p)) b { r with code := p } := Lib.heap_setCell_same (i := 8) h _
end

/-- what a method leaves: its answer, the reader, all else as it was -/
def RdPost (w : World) (b : Nat) (r' : Rdr) (v : Value) (e : Ending) (w' : World) : Prop := e = .returned v ∧ RdAt w' b r' ∧ w.grownBy w' (some b)

set_option maxHeartbeats 1000000 in
theorem fail_any (b : Nat) (r : Rdr) (w : World) (h : RdAt w b r) (p e : Int) :
    Calls Try.prog 68 #[.pointer (some ⟨b, 0, none⟩), .int .i64 p, .int .i64 e] w (RdPost w b { r with bad := p, code := e } (.bool false)) := by
  have H := Lib.hid h
  obtain ⟨_, _, _, _, _, _, _, h7, h8⟩ := h.all
  have f7 := h.froz 7
  have f8 := h.froz 8
  clear h
  go_enter Try.func68, Try.ntmps68
  go_wp2_with fail
  go_ret
  exact ⟨rfl, (H.out.bad p).code e, Lib.grownBy_setB (Lib.grownBy_setCell w b 7 _) 8 _⟩

theorem grown_drew {w w' : World} {row : Option Nat} (h : w.grownBy w' row) : w.grownBy w'.drew row := ⟨h.os, h.tape, h.output, h.size, h.block⟩
theorem extract_from (s : ByteArray) (k : Nat) : (s.extract k s.size).data.toList = s.data.toList.drop k := Lib.extract_to_end s k


set_option maxRecDepth 100000 in
set_option maxHeartbeats 2000000 in
theorem is_any (b : Nat) (r : Rdr) (w : World) (h : RdAt w b r) (p : List UInt8) (hp : r.pos ≤ r.s.size) (hs : r.s.size ≤ 1000000000) (v : Bool) (hv : Hid (pre p (r.s.data.toList.drop r.pos) = v)) (hl : p.length ≤ 1000) :
    Calls Try.prog 41 #[.pointer (some ⟨b, 0, none⟩), .string ⟨p.toArray⟩] w (RdPost w b (if v then { r with pos := r.pos + p.length } else r) (.bool v)) := by
  have H := Lib.hid h
  have hb := h.lt
  have hc := Lib.hid h.all
  have hf := Lib.hid h.froz
  have hsz : (⟨p.toArray⟩ : ByteArray).size = p.length := by show p.toArray.size = _; simp
  have hx : Hid ((r.s.extract r.pos r.s.size).data.toList = r.s.data.toList.drop r.pos) := Lib.extract_to_end _ _
  have HS : Hid (w.drew.cell? ⟨b, 0, none⟩ = some (.string r.s) ∧ w.drew.cell? ⟨b, 1, none⟩ = some (.int .i64 r.pos)) := ⟨hc.out.1, hc.out.2.1⟩
  have i0 : (0 : Int) ≤ (r.pos : Int) := by omega
  have i1 : (r.pos : Int) ≤ r.s.size := by omega
  clear h
  cases v with
  | false =>
    go_enter Try.func41, Try.ntmps41
    go_wp2_with fail
    refine wp_region_held_drew (S := fun w' => w'.cell? ⟨b, 0, none⟩ = some (.string r.s) ∧ w'.cell? ⟨b, 1, none⟩ = some (.int .i64 r.pos)) (by kernel_rfl) HS.out (fun hHeld => ?_)
    refine tks (oi := ⟨_, _, _, _, _, _⟩) (v := ?_) 0 rfl (.inl ⟨by rfl, ?_⟩) ?_; rotate_left
    · (intro wS hSw; (try dsimp only at hSw); go_simp); all_goals with_reducible rfl
    try go_frame
    refine tks (oi := ⟨_, _, _, _, _, _⟩) (v := ?_) 1 rfl (.inl ⟨by rfl, ?_⟩) ?_; rotate_left
    · (intro wS hSw; (try dsimp only at hSw); go_simp); all_goals with_reducible rfl
    try go_frame
    refine tks (oi := ⟨_, _, _, _, _, _⟩) (v := ?_) 2 rfl (.inl ⟨by rfl, ?_⟩) ?_; rotate_left
    · (intro wS hSw; (try dsimp only at hSw); go_simp); all_goals with_reducible rfl
    try go_frame
    refine tks (oi := ⟨_, _, _, _, _, _⟩) (v := ?_) 3 rfl (.inl ⟨by rfl, ?_⟩) ?_; rotate_left
    · (intro wS hSw; (try dsimp only at hSw); go_simp); all_goals with_reducible rfl
    try go_frame
    refine tks (oi := ⟨_, _, _, _, _, _⟩) (v := ?_) 4 rfl (.inl ⟨by rfl, ?_⟩) ?_; rotate_left
    · (intro wS hSw; (try dsimp only at hSw); go_simp); all_goals with_reducible rfl
    try go_frame
    refine tks (oi := ⟨_, _, _, _, _, _⟩) (v := ?_) 5 rfl (.inl ⟨by rfl, ?_⟩) ?_; rotate_left
    · (intro wS hSw; (try dsimp only at hSw); go_simp); all_goals with_reducible rfl
    try go_frame
    refine tks (oi := ⟨_, _, _, _, _, _⟩) (v := ?_) 6 rfl (.inl ⟨by rfl, ?_⟩) ?_; rotate_left
    · (intro wS hSw; (try dsimp only at hSw); go_simp); all_goals with_reducible rfl
    try go_frame
    refine tks (oi := ⟨_, _, _, _, _, _⟩) (v := ?_) 7 rfl (.inl ⟨by rfl, ?_⟩) ?_; rotate_left
    · (intro wS hSw; (try dsimp only at hSw); go_simp); all_goals with_reducible rfl
    try go_frame
    refine tks (oi := ⟨_, _, _, _, _, _⟩) (v := ?_) 8 rfl (.inl ⟨by rfl, ?_⟩) ?_; rotate_left
    · (intro wS hSw; (try dsimp only at hSw); go_simp); all_goals with_reducible rfl
    try go_frame
    refine tks (oi := ⟨_, _, _, _, _, _⟩) (v := ?_) 9 rfl (.inl ⟨by rfl, ?_⟩) ?_; rotate_left
    · (intro wS hSw; (try dsimp only at hSw); go_simp); all_goals with_reducible rfl
    try go_frame
    refine wpAnyH_ready (rs := [10]) (by kernel_rfl) (by simp) ?_
    refine AllReadyH.cons (o := ⟨_, _, _, _, _, _⟩) rfl (fun K hK => ?_) AllReadyH.nil
    go_simp
    refine (hasPrefix_pre _ p _).mono ?_
    rw [hx.out, hv.out]
    rintro e w2 ⟨rfl, rfl⟩
    go_wp2_with fail
    refine hK.out _ _ (HS.out) (fun hHeld => ?_)
    clear hK K
    try go_frame
    refine tks (oi := ⟨_, _, _, _, _, _⟩) (v := ?_) 11 rfl (.inl ⟨by rfl, ?_⟩) ?_; rotate_left
    · (intro wS hSw; (try dsimp only at hSw); go_simp); all_goals with_reducible rfl
    try go_frame
    refine wpAnyH_done (by kernel_rfl) ?_ _
    clear hHeld
    go_wp2_with fail
    go_ret
    exact ⟨rfl, H.out, grown_drew (World.grownBy.refl w _)⟩
  | true =>
    go_enter Try.func41, Try.ntmps41
    go_wp2_with fail
    refine wp_region_held_drew (S := fun w' => w'.cell? ⟨b, 0, none⟩ = some (.string r.s) ∧ w'.cell? ⟨b, 1, none⟩ = some (.int .i64 r.pos)) (by kernel_rfl) HS.out (fun hHeld => ?_)
    refine tks (oi := ⟨_, _, _, _, _, _⟩) (v := ?_) 0 rfl (.inl ⟨by rfl, ?_⟩) ?_; rotate_left
    · (intro wS hSw; (try dsimp only at hSw); go_simp); all_goals with_reducible rfl
    try go_frame
    refine tks (oi := ⟨_, _, _, _, _, _⟩) (v := ?_) 1 rfl (.inl ⟨by rfl, ?_⟩) ?_; rotate_left
    · (intro wS hSw; (try dsimp only at hSw); go_simp); all_goals with_reducible rfl
    try go_frame
    refine tks (oi := ⟨_, _, _, _, _, _⟩) (v := ?_) 2 rfl (.inl ⟨by rfl, ?_⟩) ?_; rotate_left
    · (intro wS hSw; (try dsimp only at hSw); go_simp); all_goals with_reducible rfl
    try go_frame
    refine tks (oi := ⟨_, _, _, _, _, _⟩) (v := ?_) 3 rfl (.inl ⟨by rfl, ?_⟩) ?_; rotate_left
    · (intro wS hSw; (try dsimp only at hSw); go_simp); all_goals with_reducible rfl
    try go_frame
    refine tks (oi := ⟨_, _, _, _, _, _⟩) (v := ?_) 4 rfl (.inl ⟨by rfl, ?_⟩) ?_; rotate_left
    · (intro wS hSw; (try dsimp only at hSw); go_simp); all_goals with_reducible rfl
    try go_frame
    refine tks (oi := ⟨_, _, _, _, _, _⟩) (v := ?_) 5 rfl (.inl ⟨by rfl, ?_⟩) ?_; rotate_left
    · (intro wS hSw; (try dsimp only at hSw); go_simp); all_goals with_reducible rfl
    try go_frame
    refine tks (oi := ⟨_, _, _, _, _, _⟩) (v := ?_) 6 rfl (.inl ⟨by rfl, ?_⟩) ?_; rotate_left
    · (intro wS hSw; (try dsimp only at hSw); go_simp); all_goals with_reducible rfl
    try go_frame
    refine tks (oi := ⟨_, _, _, _, _, _⟩) (v := ?_) 7 rfl (.inl ⟨by rfl, ?_⟩) ?_; rotate_left
    · (intro wS hSw; (try dsimp only at hSw); go_simp); all_goals with_reducible rfl
    try go_frame
    refine tks (oi := ⟨_, _, _, _, _, _⟩) (v := ?_) 8 rfl (.inl ⟨by rfl, ?_⟩) ?_; rotate_left
    · (intro wS hSw; (try dsimp only at hSw); go_simp); all_goals with_reducible rfl
    try go_frame
    refine tks (oi := ⟨_, _, _, _, _, _⟩) (v := ?_) 9 rfl (.inl ⟨by rfl, ?_⟩) ?_; rotate_left
    · (intro wS hSw; (try dsimp only at hSw); go_simp); all_goals with_reducible rfl
    try go_frame
    refine wpAnyH_ready (rs := [10]) (by kernel_rfl) (by simp) ?_
    refine AllReadyH.cons (o := ⟨_, _, _, _, _, _⟩) rfl (fun K hK => ?_) AllReadyH.nil
    go_simp
    refine (hasPrefix_pre _ p _).mono ?_
    rw [hx.out, hv.out]
    rintro e w2 ⟨rfl, rfl⟩
    go_wp2_with fail
    refine hK.out _ _ (HS.out) (fun hHeld => ?_)
    clear hK K
    try go_frame
    refine tks (oi := ⟨_, _, _, _, _, _⟩) (v := ?_) 11 rfl (.inl ⟨by rfl, ?_⟩) ?_; rotate_left
    · (intro wS hSw; (try dsimp only at hSw); go_simp); all_goals with_reducible rfl
    try go_frame
    refine wpAnyH_done (by kernel_rfl) ?_ _
    clear hHeld
    obtain ⟨h0, h1⟩ := HS.out
    have f1 : w.drew.frozen? ⟨b, 1, none⟩ = false := H.out.drew.froz 1
    go_wp2_with fail
    go_ret
    exact ⟨rfl, H.out.drew.pos _, Lib.grownBy_setB (grown_drew (World.grownBy.refl w _)) 1 _⟩

set_option maxRecDepth 100000 in
set_option maxHeartbeats 2000000 in
theorem must_any (b : Nat) (r : Rdr) (w : World) (h : RdAt w b r) (p : List UInt8) (hp : r.pos ≤ r.s.size) (hs : r.s.size ≤ 1000000000) (v : Bool) (hv : Hid (pre p (r.s.data.toList.drop r.pos) = v)) (hl : p.length ≤ 1000) :
    Calls Try.prog 72 #[.pointer (some ⟨b, 0, none⟩), .string ⟨p.toArray⟩] w (RdPost w b (if v then { r with pos := r.pos + p.length } else { r with bad := r.pos, code := 30 }) (.bool v)) := by
  cases v with
  | false =>
    go_enter Try.func72, Try.ntmps72
    go_wp2_with fail
    refine (is_any b r w h p hp hs false hv hl).mono ?_
    rintro e w2 ⟨rfl, h2, hg2⟩
    have h2' : RdAt w2 b r := h2
    obtain ⟨_, h21, _⟩ := h2'.all
    go_wp2_with fail
    refine (fail_any b r w2 h2' r.pos 30).mono ?_
    rintro e w3 ⟨rfl, h3, hg3⟩
    go_wp2_with fail
    go_ret
    exact ⟨rfl, h3, Lib.grownBy_trans hg2 hg3⟩
  | true =>
    go_enter Try.func72, Try.ntmps72
    go_wp2_with fail
    refine (is_any b r w h p hp hs true hv hl).mono ?_
    rintro e w2 ⟨rfl, h2, hg2⟩
    go_wp2_with fail
    go_ret
    exact ⟨rfl, h2, hg2⟩

theorem Undo_at (s : ByteArray) (v : Bool) (w : World) (hs : s.size ≤ 1099511627776) (o : List UInt8) (k : Nat) (e : Int) (h : Hid (undoL v s.data.toList = (o, k, e))) :
    Calls Try.prog 96 #[.string s, .bool v] w (Ret w (.tuple #[.string ⟨o.toArray⟩, .int .i64 (k : Nat), .int .i64 e])) := by
  have := Undo_any s v w hs
  rw [h.out] at this
  exact this
theorem grown_twice {w w1 w2 : World} {b : Nat} (h1 : w.grownBy w1 (some b)) (h2 : w1.grownBy w2 (some b)) : w.grownBy w2 (some b) := Lib.grownBy_trans h1 h2

set_option maxRecDepth 100000 in
set_option maxHeartbeats 2000000 in
theorem undone_any (b : Nat) (r : Rdr) (w : World) (h : RdAt w b r) (i j : Nat) (hij : i ≤ j) (hj : j ≤ r.s.size) (hs : r.s.size ≤ 1000000000) (v : Bool) (V : List UInt8 × Nat × Int) (hV : Hid (undoL v ((r.s.data.toList.drop i).take (j - i)) = V)) :
    Calls Try.prog 67 #[.pointer (some ⟨b, 0, none⟩), .int .i64 i, .int .i64 j, .bool v] w (RdPost w b (if V.2.2 = 0 then r else { r with bad := (i : Int) + V.2.1, code := V.2.2 }) (.tuple #[.string ⟨(if V.2.2 = 0 then V.1 else []).toArray⟩, .bool (decide (V.2.2 = 0))])) := by
  have H := Lib.hid h
  obtain ⟨h0, _⟩ := h.all
  have hx : Hid ((r.s.extract i j).data.toList = (r.s.data.toList.drop i).take (j - i)) := by
    show _ = _
    rw [Lib.extract_data]
  have hxs : (r.s.extract i j).size ≤ 1099511627776 := by simp; omega
  have hle := undoL_le v ((r.s.data.toList.drop i).take (j - i))
  rw [hV.out, List.length_take, List.length_drop, size_toList] at hle
  obtain ⟨t, n, e⟩ := V
  simp only at hle
  have hV' : Hid (undoL v (r.s.extract i j).data.toList = (t, n, e)) := by show _ = _; rw [hx.out]; exact hV.out
  have i0 : (0 : Int) ≤ (i : Int) := by omega
  have i1 : (i : Int) ≤ j := by omega
  have i2 : (j : Int) ≤ r.s.size := by omega
  clear h
  by_cases he : e = 0
  · subst he
    go_enter Try.func67, Try.ntmps67
    go_wp2_with fail
    refine (Undo_at (r.s.extract i j) v w hxs t n 0 hV').mono ?_
    rintro e w2 ⟨rfl, hb2⟩
    go_wp2_with fail
    go_ret2
    exact ⟨rfl, H.out.below hb2, Lib.grownBy_below (World.grownBy.refl w _) hb2⟩
  · have he1 : (e != 0) = true := by simpa using he
    have HE := Lib.hid he
    clear he
    go_enter Try.func67, Try.ntmps67
    go_wp2_with fail
    refine (Undo_at (r.s.extract i j) v w hxs t n e hV').mono ?_
    rintro e' w2 ⟨rfl, hb2⟩
    go_wp2_with fail
    refine (fail_any b r w2 (H.out.below hb2) ((i : Int) + n) e).mono ?_
    rintro e' w3 ⟨rfl, h3, hg3⟩
    go_wp2_with fail
    go_ret2
    exact ⟨by simp, h3, grown_twice (Lib.grownBy_below (World.grownBy.refl w _) hb2) hg3⟩
end Go.Proofs.Ythifddkmbjnncaa

/-
  The plain law of attributes by rising names: no program in sight.
-/
namespace Go.Proofs.Ythifddkmbjnncaa

theorem less_lt : ∀ (x y : List UInt8), Op.bytesLess x y = decide (x < y)
  | [], [] => by simp [Op.bytesLess]
  | _ :: _, [] => by simp [Op.bytesLess]
  | [], _ :: _ => by simp [Op.bytesLess]
  | a :: x, b :: y => by
    rw [Op.bytesLess, less_lt x y]
    simp only [List.cons_lt_cons_iff]
    by_cases h1 : a < b <;> by_cases h2 : a = b <;> by_cases h3 : x < y <;> simp [h1, h2, h3]

theorem less_irrefl (x : List UInt8) : Op.bytesLess x x = false := by
  rw [less_lt]; exact decide_eq_false (List.lt_irrefl x)
theorem less_trans {x y z : List UInt8} (h : Op.bytesLess x y = true) (h' : Op.bytesLess y z = true) : Op.bytesLess x z = true := by
  rw [less_lt] at *
  exact decide_eq_true (List.lt_trans (of_decide_eq_true h) (of_decide_eq_true h'))
theorem less_tri {x y : List UInt8} (h : Op.bytesLess x y = false) (h' : Op.bytesLess y x = false) : x = y := by
  rw [less_lt] at *
  have h1 := of_decide_eq_false h
  have h2 := of_decide_eq_false h'
  exact List.le_antisymm (List.not_lt.1 h2) (List.not_lt.1 h1)
theorem less_asymm {x y : List UInt8} (h : Op.bytesLess x y = true) : Op.bytesLess y x = false := by
  cases h' : Op.bytesLess y x with
  | false => rfl
  | true => have := less_trans h h'; rw [less_irrefl] at this; cases this
theorem less_ne {x y : List UInt8} (h : Op.bytesLess x y = true) : x ≠ y := by
  intro e; subst e; rw [less_irrefl] at h; cases h
theorem less_ntrans {x y z : List UInt8} (h : Op.bytesLess x y = false) (h' : Op.bytesLess y z = false) : Op.bytesLess x z = false := by
  cases hz : Op.bytesLess x z with
  | false => rfl
  | true =>
    cases hyx : Op.bytesLess y x with
    | true => rw [less_trans hyx hz] at h'; cases h'
    | false => rw [less_tri h hyx] at hz; rw [hz] at h'; cases h'

theorem cmp_less : ∀ (x y : List UInt8), decide (Lib.compareBytes x y < 0) = Op.bytesLess x y
  | [], [] => by simp [Op.bytesLess, Lib.compareBytes]
  | _ :: _, [] => by simp [Op.bytesLess, Lib.compareBytes]
  | [], _ :: _ => by simp [Op.bytesLess, Lib.compareBytes]
  | a :: x, b :: y => by
    rw [Op.bytesLess, Lib.compareBytes, ← cmp_less x y]
    by_cases h1 : a < b
    · simp [h1]
    · by_cases h2 : b < a
      · have h3 : a ≠ b := by intro e; subst e; exact h1 h2
        simp [h1, h2, h3]
      · have h3 : a = b := by
          have h4 := UInt8.not_lt.1 h1
          have h5 := UInt8.not_lt.1 h2
          exact UInt8.le_antisymm h5 h4
        subst h3
        simp

def nameC (a b : AttrD) : Int := Lib.compareBytes a.name b.name
theorem nameC_swo : Sort.SWO (fun a b : AttrD => decide (nameC a b < 0)) where
  irrefl x := by unfold nameC; simp only [cmp_less]; exact less_irrefl _
  trans x y z := by unfold nameC; simp only [cmp_less]; exact less_trans
  ntrans x y z := by unfold nameC; simp only [cmp_less]; exact less_ntrans

def Rise (l : List AttrD) : Prop := l.Pairwise fun a b => Op.bytesLess a.name b.name = true
def Apart (l : List AttrD) : Prop := l.Pairwise fun a b => a.name ≠ b.name

theorem insA_perm (a : AttrD) : ∀ l : List AttrD, (insA a l).Perm (a :: l)
  | [] => List.Perm.refl _
  | b :: r => by
    rw [insA]
    split
    · exact List.Perm.refl _
    · exact ((insA_perm a r).cons b).trans (List.Perm.swap a b r)
theorem sortA_snoc (l : List AttrD) (a : AttrD) : sortA (l ++ [a]) = insA a (sortA l) := by simp [sortA]
theorem fold_perm : ∀ (l o : List AttrD), (l.foldl (fun o a => insA a o) o).Perm (o ++ l)
  | [], o => by simp
  | a :: l, o => by
    rw [List.foldl_cons]
    refine (fold_perm l (insA a o)).trans ?_
    refine ((insA_perm a o).append_right l).trans ?_
    simp only [List.cons_append]
    exact List.perm_middle.symm
theorem sortA_perm (l : List AttrD) : (sortA l).Perm l := by
  have := fold_perm l []
  simpa [sortA] using this
theorem insA_rise {a : AttrD} : ∀ {l : List AttrD}, Rise l → (∀ b ∈ l, b.name ≠ a.name) → Rise (insA a l)
  | [], _, _ => by unfold Rise insA; simp
  | b :: r, h, hn => by
    obtain ⟨hb, hr⟩ := List.pairwise_cons.1 h
    rw [insA]
    split
    · rename_i hl
      refine List.pairwise_cons.2 ⟨fun c hc => ?_, h⟩
      rcases List.mem_cons.1 hc with rfl | hc
      · exact hl
      · exact less_trans hl (hb c hc)
    · rename_i hl
      have hba : Op.bytesLess b.name a.name = true := by
        cases hba : Op.bytesLess b.name a.name with
        | true => rfl
        | false => exact absurd (less_tri hba (by simpa using hl)) (hn b (by simp))
      refine List.pairwise_cons.2 ⟨fun c hc => ?_, insA_rise hr (fun c hc => hn c (by simp [hc]))⟩
      rcases List.mem_cons.1 ((insA_perm a r).mem_iff.1 hc) with rfl | hc
      · exact hba
      · exact hb c hc
theorem fold_rise : ∀ (l o : List AttrD), Rise o → Apart l → (∀ a ∈ l, ∀ b ∈ o, b.name ≠ a.name) → Rise (l.foldl (fun o a => insA a o) o)
  | [], o, h, _, _ => h
  | a :: l, o, h, hl, hn => by
    obtain ⟨h1, h2⟩ := List.pairwise_cons.1 hl
    rw [List.foldl_cons]
    refine fold_rise l _ (insA_rise h (hn a (by simp))) h2 (fun c hc b hb => ?_)
    rcases List.mem_cons.1 ((insA_perm a o).mem_iff.1 hb) with rfl | hb
    · exact h1 c hc
    · exact hn c (by simp [hc]) b hb
theorem sortA_rise {l : List AttrD} (h : Apart l) : Rise (sortA l) := fold_rise l [] List.Pairwise.nil h (fun _ _ _ hb => by cases hb)

theorem rise_unique {l d : List AttrD} (hp : d.Perm l) (hl : Rise l) (hd : d.Pairwise fun a b => Op.bytesLess b.name a.name = false) : d = l := by
  refine List.Perm.eq_of_pairwise (le := fun a b => Op.bytesLess b.name a.name = false) (fun a b ha hb h1 h2 => ?_) hd (hl.imp fun h => less_asymm h) hp
  have hn := less_tri h2 h1
  have ha' := hp.mem_iff.1 ha
  obtain ⟨i, hi, ei⟩ := List.mem_iff_getElem.1 ha'
  obtain ⟨j, hj, ej⟩ := List.mem_iff_getElem.1 hb
  rcases Nat.lt_trichotomy i j with h | h | h
  · have := List.pairwise_iff_getElem.1 hl i j hi hj h
    rw [ei, ej, hn, less_irrefl] at this; cases this
  · subst h; rw [← ei, ← ej]
  · have := List.pairwise_iff_getElem.1 hl j i hj hi h
    rw [ei, ej, hn, less_irrefl] at this; cases this
theorem sort_unique {l d : List AttrD} (hp : d.Perm l) (hl : Apart l) (hd : d.Pairwise fun a b => Op.bytesLess b.name a.name = false) : d = sortA l :=
  rise_unique (hp.trans (sortA_perm l).symm) (sortA_rise hl) hd
instance : Inhabited AttrD := ⟨⟨[], []⟩⟩
theorem sorted_list {d d' : Array AttrD} (hp : Sort.PermIn 0 d.size d d') (hs : Sort.SortedIn (fun a b : AttrD => decide (nameC a b < 0)) 0 d.size d') (hl : Apart d.toList) : d'.toList = sortA d.toList := by
  obtain ⟨h1, _, h3⟩ := hp
  have e1 : d'.extract 0 d.size = d' := by rw [← h1, Array.extract_size]
  have e2 : d.extract 0 d.size = d := Array.extract_size
  rw [e1, e2] at h3
  refine sort_unique h3 hl (List.pairwise_iff_getElem.2 fun i j hi hj hij => ?_)
  have := hs i j (Nat.zero_le _) hij (by simp at hj; omega)
  unfold nameC at this
  simp only [cmp_less] at this
  simp only [Array.length_toList] at hi hj
  rw [getElem!_pos d' i hi, getElem!_pos d' j hj] at this
  simpa using this

/-! ## What is told of attributes -/
theorem any_name {bs : List AttrD} {n : List UInt8} (h : bs.any (fun a => decide (a.name = n)) = false) : ∀ b ∈ bs, b.name ≠ n := by
  intro b hb e
  have := List.any_eq_false.1 h b hb
  simp [e] at this
theorem apart_snoc {bs : List AttrD} {a : AttrD} (h : Apart bs) (hn : ∀ b ∈ bs, b.name ≠ a.name) : Apart (bs ++ [a]) := by
  refine List.pairwise_append.2 ⟨h, List.pairwise_singleton _ _, fun x hx y hy => ?_⟩
  simp at hy; subst hy; exact hn x hx

/-- what each of the attributes is made of -/
structure AttrFine (a : AttrD) : Prop where
  name : nameL a.name = true
  value : ∃ l, (undoL true l).2.2 = 0 ∧ (undoL true l).1 = a.value
  long : a.value.length ≤ 1500

theorem attrL_fine {l : List UInt8} {bs : List AttrD} {a : AttrD} {n : Nat} (h : attrL l bs = .ok a n) : AttrFine a ∧ bs.length < 20 ∧ ∀ b ∈ bs, b.name ≠ a.name := by
  unfold attrL at h
  simp only at h
  split at h
  · cases h
  rename_i h1
  split at h
  · cases h
  rename_i h2
  split at h
  · cases h
  rename_i h3
  split at h
  · cases h
  split at h
  · cases h
  unfold valueT at h
  simp only at h
  split at h
  · cases h
  split at h
  · cases h
  rename_i h4
  split at h
  · cases h
  rename_i h5
  injection h with h _
  subst h
  exact ⟨⟨by simpa using h1, ⟨_, by simpa using h4, rfl⟩, by simpa using h5⟩, by omega, any_name (by simpa using h3)⟩

structure AttrsFine (bs : List AttrD) : Prop where
  apart : Apart bs
  all : ∀ a ∈ bs, AttrFine a
  many : bs.length ≤ 20

theorem attrsFine_nil : AttrsFine [] := ⟨List.Pairwise.nil, fun _ h => (by cases h), by simp⟩
theorem attrsFine_snoc {l : List UInt8} {bs : List AttrD} {a : AttrD} {n : Nat} (hf : AttrsFine bs) (h : attrL l bs = .ok a n) : AttrsFine (bs ++ [a]) := by
  obtain ⟨h1, h2, h3⟩ := attrL_fine h
  refine ⟨apart_snoc hf.apart h3, fun b hb => ?_, by simp; omega⟩
  rcases List.mem_append.1 hb with hb | hb
  · exact hf.all b hb
  · simp at hb; subst hb; exact h1
theorem attrsF_fine : ∀ (f : Nat) (l : List UInt8) (bs : List AttrD) (q : Int × List AttrD) (n : Nat), AttrsFine bs → attrsF f l bs = .ok q n → AttrsFine q.2 ∧ (q.1 = 1 ∨ q.1 = 3)
  | 0, _, _, _, _, _, h => by cases h
  | f + 1, l, bs, q, n, hf, h => by
    rw [attrsF] at h
    split at h
    · injection h with h _; subst h; exact ⟨hf, .inl rfl⟩
    split at h
    · injection h with h _; subst h; exact ⟨hf, .inr rfl⟩
    split at h
    · cases h
    cases ha : attrL (l.drop (skipL l)) bs with
    | bad k e => rw [ha] at h; cases h
    | ok a m =>
      rw [ha] at h
      simp only at h
      cases hq : attrsF f ((l.drop (skipL l)).drop m) (bs ++ [a]) with
      | bad k e => rw [hq] at h; cases h
      | ok r k =>
        rw [hq] at h
        injection h with h _
        subst h
        exact attrsF_fine f _ _ _ _ (attrsFine_snoc hf ha) hq
theorem attrsL_fine {l : List UInt8} {bs : List AttrD} {q : Int × List AttrD} {n : Nat} (hf : AttrsFine bs) (h : attrsL l bs = .ok q n) : AttrsFine q.2 ∧ (q.1 = 1 ∨ q.1 = 3) := attrsF_fine _ _ _ _ _ hf h
end Go.Proofs.Ythifddkmbjnncaa

/-
  The plain laws of tokens: what stands behind, blanks, rows, parts: no program in sight.
-/
namespace Go.Proofs.Ythifddkmbjnncaa

/-! ## What stands behind is no matter -/
theorem takeWhile_more {α : Type} (p : α → Bool) : ∀ (l m : List α), (l.takeWhile p).length < l.length → (l ++ m).takeWhile p = l.takeWhile p
  | [], _, h => by simp at h
  | a :: l, m, h => by
    rw [List.cons_append, List.takeWhile_cons, List.takeWhile_cons] at *
    split
    · rename_i hp
      rw [if_pos hp] at h
      rw [takeWhile_more p l m (by simp at h; omega)]
    · rfl
theorem takeWhile_stop {α : Type} (p : α → Bool) : ∀ (l : List α) (m : List α), (∀ x t, m = x :: t → p x = false) → (l ++ m).takeWhile p = l.takeWhile p
  | [], [], _ => rfl
  | [], x :: t, h => by rw [List.nil_append, List.takeWhile_cons, h x t rfl]; rfl
  | a :: l, m, h => by
    rw [List.cons_append, List.takeWhile_cons, List.takeWhile_cons]
    split
    · rw [takeWhile_stop p l m h]
    · rfl
theorem takeWhile_twice {α : Type} (p : α → Bool) : ∀ l : List α, (l.takeWhile p).takeWhile p = l.takeWhile p
  | [] => rfl
  | a :: l => by
    rw [List.takeWhile_cons]
    split
    · rename_i h; rw [List.takeWhile_cons, if_pos h, takeWhile_twice p l]
    · rfl
theorem pre_more {p l m : List UInt8} (h : p.length ≤ l.length) : pre p (l ++ m) = pre p l := by
  unfold pre; rw [List.take_append_of_le_length h]
theorem drop_more {α : Type} {l : List α} {k : Nat} (m : List α) (h : k ≤ l.length) : (l ++ m).drop k = l.drop k ++ m := List.drop_append_of_le_length h

theorem wordL_more {l : List UInt8} (m : List UInt8) (h : (wordL l).length < l.length) : wordL (l ++ m) = wordL l := takeWhile_more _ _ _ h
theorem skipL_more {l : List UInt8} (m : List UInt8) (h : skipL l < l.length) : skipL (l ++ m) = skipL l := by
  unfold skipL; rw [takeWhile_more _ _ _ h]

theorem endT_more {l : List UInt8} {t : TokD} {n : Nat} (m : List UInt8) (h : endT l = .ok t n) : endT (l ++ m) = .ok t n := by
  have h0 := h
  unfold endT at h
  simp only at h
  split at h
  · cases h
  split at h
  · rename_i h1 h2
    have hk := pre1_len h2
    have hw := wordL_len l
    have e1 : wordL (l ++ m) = wordL l := wordL_more m (by omega)
    have e2 : skipL ((l ++ m).drop (wordL l).length) = skipL (l.drop (wordL l).length) := by
      rw [drop_more m hw]; exact skipL_more m (by rw [List.length_drop]; omega)
    rw [← h0]
    unfold endT
    simp only [e1, e2]
    rw [drop_more m (by omega), pre_more (by rw [List.length_drop]; simp; omega)]
  · cases h

theorem span_word (l : List UInt8) (p : UInt8 → Bool) : l = l.takeWhile p ++ l.drop (l.takeWhile p).length := by
  have h := List.takeWhile_append_dropWhile (p := p) (l := l)
  have h2 : l.dropWhile p = l.drop (l.takeWhile p).length := by
    conv => rhs; rw [← h]
    rw [show (List.takeWhile p (List.takeWhile p l ++ List.dropWhile p l)) = List.takeWhile p l by rw [h]]
    rw [List.drop_append_of_le_length (Nat.le_refl _), List.drop_length, List.nil_append]
  rw [← h2, h]
theorem pre_cons {c : UInt8} {l : List UInt8} (h : pre [c] l = true) : ∃ t, l = c :: t := by
  cases l with
  | nil => simp [pre] at h
  | cons a t =>
    have := eq_of_beq h
    simp at this
    exact ⟨t, by rw [this]⟩
theorem pre_cons2 {c d : UInt8} {l : List UInt8} (h : pre [c, d] l = true) : ∃ t, l = c :: d :: t := by
  match l, h with
  | [], h => simp [pre] at h
  | [a], h => simp [pre] at h
  | a :: b :: t, h =>
    have := eq_of_beq h
    simp at this
    exact ⟨t, by rw [this.1, this.2]⟩

/-- an attribute: the bytes that it is read of, the last of them a quote -/
theorem attrL_parts {l : List UInt8} {bs : List AttrD} {a : AttrD} {n : Nat} (h : attrL l bs = .ok a n) :
    ∃ u r, l = u ++ [34] ++ r ∧ u.length + 1 = n ∧ ∀ r', attrL (u ++ [34] ++ r') bs = .ok a n := by
  unfold attrL at h
  simp only at h
  split at h
  · cases h
  rename_i h1
  split at h
  · cases h
  rename_i h2
  split at h
  · cases h
  rename_i h3
  split at h
  · cases h
  rename_i h4
  split at h
  · cases h
  rename_i h5
  obtain ⟨t, ht⟩ := pre_cons (by simpa using h4)
  obtain ⟨t', ht'⟩ := pre_cons (by simpa using h5)
  have hl := span_word l nb
  have e1 : l.drop ((wordL l).length + 1) = t := by rw [← List.drop_drop, ht]; rfl
  rw [e1] at ht'
  have e2 : l.drop ((wordL l).length + 2) = t' := by
    rw [show (wordL l).length + 2 = (wordL l).length + 1 + 1 from rfl, ← List.drop_drop, e1, ht']; rfl
  rw [e2] at h
  unfold valueT at h
  simp only at h
  split at h
  · cases h
  rename_i h6
  split at h
  · cases h
  rename_i h7
  split at h
  · cases h
  rename_i h8
  have hv := takeWhile_len (· != 34) t'
  obtain ⟨x, r, hx⟩ : ∃ x r, t'.drop (t'.takeWhile (· != 34)).length = x :: r := by
    cases hd : t'.drop (t'.takeWhile (· != 34)).length with
    | nil => have := congrArg List.length hd; simp at this; omega
    | cons x r => exact ⟨x, r, rfl⟩
  have hsp := span_word t' (· != 34)
  have hx34 : x = 34 := by
    have hd : t'.dropWhile (· != 34) = x :: r := by
      have h' := List.takeWhile_append_dropWhile (p := (· != 34)) (l := t')
      have := h'.trans hsp
      rw [hx] at this
      exact List.append_cancel_left this
    have := List.head?_dropWhile_not (· != 34) t'
    rw [hd] at this
    simpa using this
  subst hx34
  rw [hx] at hsp
  have hfull : l = wordL l ++ 61 :: 34 :: (t'.takeWhile (· != 34)) ++ [34] ++ r := by
    conv => lhs; rw [hl]
    show wordL l ++ l.drop (wordL l).length = _
    rw [ht, ht', hsp]
    simp [hsp.symm]
  refine ⟨wordL l ++ 61 :: 34 :: (t'.takeWhile (· != 34)), r, hfull, ?_, fun r' => ?_⟩
  · injection h with _ h; simp; omega
  · have f0 : ∀ y : List UInt8, (wordL l ++ 61 :: y).takeWhile nb = wordL l := fun y => by
      rw [takeWhile_stop nb _ _ (fun x t e => by injection e with e _; subst e; rfl)]
      unfold wordL
      exact takeWhile_twice nb l
    have g0 : ∀ y : List UInt8, (t'.takeWhile (· != 34) ++ 34 :: y).takeWhile (· != 34) = t'.takeWhile (· != 34) := fun y => by
      rw [takeWhile_stop _ _ _ (fun x t e => by injection e with e _; subst e; rfl)]
      exact takeWhile_twice _ t'
    have f1 : wordL (wordL l ++ 61 :: 34 :: (t'.takeWhile (· != 34)) ++ [34] ++ r') = wordL l := by
      rw [List.append_assoc, List.append_assoc]; exact f0 _
    unfold attrL
    simp only [f1]
    rw [if_neg h1, if_neg h2, if_neg h3]
    have d0 : (wordL l ++ 61 :: 34 :: (t'.takeWhile (· != 34)) ++ [34] ++ r').drop (wordL l).length = 61 :: 34 :: (t'.takeWhile (· != 34) ++ 34 :: r') := by
      rw [List.append_assoc, List.append_assoc, List.drop_append_of_le_length (Nat.le_refl _), List.drop_length]; simp
    have d1 : (wordL l ++ 61 :: 34 :: (t'.takeWhile (· != 34)) ++ [34] ++ r').drop ((wordL l).length + 1) = 34 :: (t'.takeWhile (· != 34) ++ 34 :: r') := by
      rw [← List.drop_drop, d0]; rfl
    have d2 : (wordL l ++ 61 :: 34 :: (t'.takeWhile (· != 34)) ++ [34] ++ r').drop ((wordL l).length + 2) = t'.takeWhile (· != 34) ++ 34 :: r' := by
      rw [show (wordL l).length + 2 = (wordL l).length + 1 + 1 from rfl, ← List.drop_drop, d1]; rfl
    rw [d0, d1, d2, if_neg (by simp [pre]), if_neg (by simp [pre])]
    unfold valueT
    simp only [g0]
    rw [if_neg (by simp), if_neg h7, if_neg h8]
    exact h
theorem attrL_more {l : List UInt8} {bs : List AttrD} {a : AttrD} {n : Nat} (m : List UInt8) (h : attrL l bs = .ok a n) : attrL (l ++ m) bs = .ok a n := by
  obtain ⟨u, r, hl, _, ha⟩ := attrL_parts h
  rw [hl, List.append_assoc]; exact ha _

theorem attrsF_past (m : List UInt8) : ∀ (f g : Nat) (l : List UInt8) (bs : List AttrD) (q : Int × List AttrD) (n : Nat), f ≤ g → attrsF f l bs = .ok q n → attrsF g (l ++ m) bs = .ok q n
  | 0, _, _, _, _, _, _, h => by cases h
  | f + 1, 0, _, _, _, _, hg, _ => by omega
  | f + 1, g + 1, l, bs, q, n, hg, h => by
    have h0 := h
    have hin := attrsF_within (f + 1) l bs
    rw [h] at hin
    rw [attrsF] at h
    have hsk := skipL_len l
    by_cases hb : skipL l = l.length
    · exfalso
      have : l.drop (skipL l) = [] := by rw [hb]; exact List.drop_length
      rw [this] at h
      rw [if_neg (by simp [pre]), if_neg (by simp [pre]), if_pos (.inr rfl)] at h
      cases h
    have e1 : skipL (l ++ m) = skipL l := skipL_more m (by omega)
    have e2 : (l ++ m).drop (skipL l) = l.drop (skipL l) ++ m := drop_more m hsk
    have e3 : pre [62] (l.drop (skipL l) ++ m) = pre [62] (l.drop (skipL l)) := pre_more (by rw [List.length_drop]; simp; omega)
    rw [attrsF]
    simp only [e1, e2, e3]
    split at h
    · rename_i h1; rw [if_pos h1]; exact h
    rename_i h1
    rw [if_neg h1]
    split at h
    · rename_i h2
      rw [pre_more (pre_len h2), if_pos h2]; exact h
    rename_i h2
    split at h
    · cases h
    rename_i h3
    cases ha : attrL (l.drop (skipL l)) bs with
    | bad k e => rw [ha] at h; cases h
    | ok a k =>
      rw [ha] at h
      have hw := attrL_within (l.drop (skipL l)) bs
      rw [ha, List.length_drop] at hw
      obtain ⟨w1, w2⟩ := hw
      rw [pre_more (by rw [List.length_drop]; simp; omega), if_neg h2, if_neg (by
        intro hh
        rcases hh with hh | hh
        · exact h3 (.inl hh)
        · exact h3 (.inr (List.append_eq_nil_iff.1 hh).1))]
      rw [attrL_more m ha]
      simp only at h ⊢
      rw [drop_more m (by rw [List.length_drop]; omega)]
      cases hq : attrsF f ((l.drop (skipL l)).drop k) (bs ++ [a]) with
      | bad k e => rw [hq] at h; cases h
      | ok r j => rw [hq] at h; rw [attrsF_past m f g _ _ _ _ (by omega) hq]; exact h
theorem beginT_more {l : List UInt8} {t : TokD} {n : Nat} (m : List UInt8) (h : beginT l = .ok t n) : beginT (l ++ m) = .ok t n := by
  unfold beginT at h
  simp only at h
  split at h
  · cases h
  rename_i h1
  cases hq : attrsF (l.length + 1) (l.drop (wordL l).length) [] with
  | bad k e => rw [hq] at h; cases h
  | ok q k =>
    rw [hq] at h
    have hw := attrsF_within (l.length + 1) (l.drop (wordL l).length) []
    rw [hq, List.length_drop] at hw
    obtain ⟨w1, w2⟩ := hw
    have e1 : wordL (l ++ m) = wordL l := wordL_more m (by omega)
    unfold beginT
    simp only [e1]
    rw [if_neg h1, drop_more m (wordL_len l), attrsF_past m (l.length + 1) _ _ _ _ _ (by simp) hq]
    exact h
theorem oneT_more {l : List UInt8} {t : TokD} {n : Nat} (m : List UInt8) (h : oneT l = .ok t n) (hk : t.kind ≠ 4) : oneT (l ++ m) = .ok t n := by
  unfold oneT at h
  split at h
  · rename_i h1
    unfold oneT
    rw [pre_more (pre_len h1), if_pos h1, drop_more m (by have := pre_len h1; simpa using this)]
    cases he : endT (l.drop 2) with
    | bad k e => rw [he] at h; cases h
    | ok u k => rw [he] at h; rw [endT_more m he]; exact h
  · rename_i h1
    split at h
    · rename_i h2
      cases hb : beginT (l.drop 1) with
      | bad k e => rw [hb] at h; cases h
      | ok u k =>
        rw [hb] at h
        have hw := beginT_within (l.drop 1)
        rw [hb, List.length_drop] at hw
        obtain ⟨w1, w2⟩ := hw
        unfold oneT
        rw [pre_more (by simp; omega), if_neg h1, pre_more (pre_len h2), if_pos h2, drop_more m (by omega), beginT_more m hb]; exact h
    · exfalso
      unfold textT at h
      simp only at h
      split at h
      · cases h
      split at h
      · cases h
      · injection h with h _; subst h; exact hk rfl
end Go.Proofs.Ythifddkmbjnncaa
