/-
  The plain law: what is printed tells what was printed. No program in sight.
-/
import Derived.Test.YthifddkmbjnncaaIdemPlain
import Derived.Test.YthifddkmbjnncaaLawPlain
namespace Go.Proofs.Ythifddkmbjnncaa

/-! Bytes. -/
theorem enc_low {c : Int} (h : c < 128) : enc c = [bt c] := by unfold enc; rw [if_pos h]
theorem enc_high {c : Int} (hc : charB c = true) (h : 128 ≤ c) : ∀ b ∈ enc c, 128 ≤ b.toNat := by
  have hb := charB_bd hc
  have key : ∀ n : Int, 128 ≤ n → n < 256 → 128 ≤ (bt n).toNat := fun n h1 h2 => by have := bt_toNat n (by omega) h2; omega
  intro b hm
  unfold enc at hm
  rw [if_neg (by omega)] at hm
  split at hm
  · simp at hm; rcases hm with rfl | rfl <;> exact key _ (by omega) (by omega)
  · split at hm
    · simp at hm; rcases hm with rfl | rfl | rfl <;> exact key _ (by omega) (by omega)
    · simp at hm; rcases hm with rfl | rfl | rfl | rfl <;> exact key _ (by omega) (by omega)
/-- a byte that may be in a name -/
def nb (b : UInt8) : Bool := !(b == 9 || b == 10 || b == 32 || b == 34 || b == 47 || b == 60 || b == 61 || b == 62)
theorem nb_high {b : UInt8} (h : 128 ≤ b.toNat) : nb b = true := by
  have key : ∀ k : UInt8, k.toNat < 128 → (b == k) = false := fun k hk => by
    simp only [beq_eq_false_iff_ne]
    intro e; subst e; omega
  unfold nb
  rw [key 9 (by decide), key 10 (by decide), key 32 (by decide), key 34 (by decide), key 47 (by decide), key 60 (by decide), key 61 (by decide), key 62 (by decide)]
  rfl
theorem bt_ne (c : Int) (k : UInt8) (h0 : 0 ≤ c) (h1 : c < 128) (h : c ≠ k.toNat) : (bt c == k) = false := by
  simp only [beq_eq_false_iff_ne]
  intro e
  have := bt_toNat c h0 (by omega)
  rw [e] at this; omega
theorem part_bytes {c : Int} (hc : charB c = true) (hp : partB c = true) : (enc c).all nb = true := by
  by_cases h : c < 128
  · have hb := charB_bd hc
    have : c ≠ 9 ∧ c ≠ 10 ∧ c ≠ 32 ∧ c ≠ 34 ∧ c ≠ 47 ∧ c ≠ 60 ∧ c ≠ 61 ∧ c ≠ 62 := by
      simp [partB, startB] at hp; omega
    rw [enc_low h]
    simp only [List.all_cons, List.all_nil, Bool.and_true]
    unfold nb
    rw [bt_ne c 9 (by omega) h (by simpa using this.1), bt_ne c 10 (by omega) h (by simpa using this.2.1), bt_ne c 32 (by omega) h (by simpa using this.2.2.1), bt_ne c 34 (by omega) h (by simpa using this.2.2.2.1),
      bt_ne c 47 (by omega) h (by simpa using this.2.2.2.2.1), bt_ne c 60 (by omega) h (by simpa using this.2.2.2.2.2.1), bt_ne c 61 (by omega) h (by simpa using this.2.2.2.2.2.2.1), bt_ne c 62 (by omega) h (by simpa using this.2.2.2.2.2.2.2)]
    rfl
  · rw [List.all_eq_true]
    exact fun b hb => nb_high (enc_high hc (by omega) b hb)
theorem name_bytes {s : List UInt8} (h : nameL s = true) : s ≠ [] ∧ s.all nb = true := by
  unfold nameL at h
  split at h
  · rename_i c cs hcs
    simp only [Bool.and_eq_true, decide_eq_true_eq] at h
    obtain ⟨hs, hall⟩ := chars_back s _ hcs
    refine ⟨(fun e => by rw [e] at hcs; cases hcs), ?_⟩
    rw [hs, List.all_flatMap]
    rw [List.all_eq_true] at hall ⊢
    intro d hd
    refine part_bytes (hall d hd) ?_
    rcases List.mem_cons.1 hd with rfl | hd
    · exact h.2.2.1
    · exact List.all_eq_true.1 h.2.2.2 d hd
  · cases h
theorem written_text (c : Int) (hc : charB c = true) : ∀ b ∈ writtenL false c, b ≠ 60 := by
  intro b hb
  unfold writtenL at hb
  split at hb
  · simp at hb; rcases hb with rfl | rfl | rfl | rfl | rfl <;> decide
  · rw [if_neg (by simp), if_neg (by simp)] at hb
    split at hb
    · simp at hb; rcases hb with rfl | rfl | rfl | rfl | rfl <;> decide
    · split at hb
      · simp at hb; rcases hb with rfl | rfl | rfl | rfl <;> decide
      · rename_i h60
        split at hb
        · simp at hb; rcases hb with rfl | rfl | rfl | rfl <;> decide
        · rw [if_neg (by simp)] at hb
          unfold putF at hb
          rw [if_pos hc] at hb
          have hbd := charB_bd hc
          by_cases h : c < 128
          · rw [enc_low h] at hb
            simp at hb; subst hb
            have := bt_ne c 60 (by omega) h (by simpa using h60)
            simpa using this
          · have := enc_high hc (by omega) b hb
            intro e; subst e; revert this; decide
theorem esc_text {t o : List UInt8} (h : escL false t = some o) : ∀ b ∈ o, b ≠ 60 := by
  unfold escL at h
  obtain ⟨cs, hcs, rfl⟩ := Option.map_eq_some_iff.1 h
  intro b hb
  obtain ⟨c, hc, hb⟩ := List.mem_flatMap.1 hb
  exact written_text c (List.all_eq_true.1 (chars_back t cs hcs).2 c hc) b hb
theorem esc_value {t o : List UInt8} (h : escL true t = some o) : ∀ b ∈ o, b ≠ 34 := by
  have := esc_plain t o h
  rw [List.all_eq_true] at this
  intro b hb e
  subst e
  have := this _ hb
  revert this; decide
theorem esc_inj {v : Bool} {s t o : List UInt8} (h1 : escL v s = some o) (h2 : escL v t = some o) : s = t := by
  have a := undo_esc v s o h1
  have b := undo_esc v t o h2
  rw [a] at b
  injection b

/-! Taking apart. -/
theorem span_eq (p : UInt8 → Prop) : ∀ (a b r s : List UInt8), (∀ x ∈ a, p x) → (∀ x ∈ b, p x) → (∀ x t, r = x :: t → ¬ p x) → (∀ x t, s = x :: t → ¬ p x) → a ++ r = b ++ s → a = b ∧ r = s
  | [], [], r, s, _, _, _, _, h => ⟨rfl, h⟩
  | [], y :: b, r, s, _, hb, hr, _, h => absurd (hb y (by simp)) (hr y _ h)
  | x :: a, [], r, s, ha, _, _, hs, h => absurd (ha x (by simp)) (hs x _ h.symm)
  | x :: a, y :: b, r, s, ha, hb, hr, hs, h => by
    injection h with h1 h2
    obtain ⟨e1, e2⟩ := span_eq p a b r s (fun z hz => ha z (by simp [hz])) (fun z hz => hb z (by simp [hz])) hr hs h2
    exact ⟨by rw [h1, e1], e2⟩

structure AttrOk (a : AttrD) : Prop where
  name : nameL a.name = true
  value : ∃ o, escL true a.value = some o
theorem attrs_inj : ∀ (l m : List AttrD) (r s : List UInt8), (∀ a ∈ l, AttrOk a) → (∀ a ∈ m, AttrOk a) → (∀ x t, r = x :: t → x ≠ 32) → (∀ x t, s = x :: t → x ≠ 32) → l.flatMap attrT ++ r = m.flatMap attrT ++ s → l = m ∧ r = s
  | [], [], r, s, _, _, _, _, h => ⟨rfl, h⟩
  | [], b :: m, r, s, _, _, hr, _, h => by
    exfalso
    have e : ∃ t, r = 32 :: t := by
      rw [List.flatMap_nil, List.nil_append] at h
      rw [h, List.flatMap_cons]
      exact ⟨_, rfl⟩
    obtain ⟨t, e⟩ := e
    exact hr 32 t e rfl
  | a :: l, [], r, s, _, _, _, hs, h => by
    exfalso
    have e : ∃ t, s = 32 :: t := by
      rw [List.flatMap_nil, List.nil_append] at h
      rw [← h, List.flatMap_cons]
      exact ⟨_, rfl⟩
    obtain ⟨t, e⟩ := e
    exact hs 32 t e rfl
  | a :: l, b :: m, r, s, hl, hm, hr, hs, h => by
    obtain ⟨na, oa, hoa⟩ := hl a (by simp)
    obtain ⟨nbm, ob, hob⟩ := hm b (by simp)
    have ea : escV a.value = oa := by unfold escV; rw [hoa]; rfl
    have eb : escV b.value = ob := by unfold escV; rw [hob]; rfl
    simp only [List.flatMap_cons, attrT, ea, eb, List.append_assoc, List.cons_append, List.nil_append] at h
    injection h with _ h
    obtain ⟨e1, h⟩ := span_eq (fun x => nb x = true) a.name b.name _ _ (List.all_eq_true.1 (name_bytes na).2) (List.all_eq_true.1 (name_bytes nbm).2) (fun x t e => by injection e with e _; subst e; decide) (fun x t e => by injection e with e _; subst e; decide) h
    injection h with _ h
    injection h with _ h
    obtain ⟨e2, h⟩ := span_eq (fun x => x ≠ 34) oa ob _ _ (esc_value hoa) (esc_value hob) (fun x t e => by injection e with e _; subst e; decide) (fun x t e => by injection e with e _; subst e; decide) h
    injection h with _ h
    obtain ⟨e3, hrs⟩ := attrs_inj l m r s (fun x hx => hl x (by simp [hx])) (fun x hx => hm x (by simp [hx])) hr hs h
    subst e2
    have e4 := esc_inj hoa hob
    refine ⟨?_, hrs⟩
    rw [e3]
    cases a; cases b
    simp only at e1 e4
    rw [e1, e4]

theorem item_same {x y : ItemD} (h : x.level = y.level ∧ x.kind = y.kind ∧ x.name = y.name ∧ x.text = y.text ∧ x.attrs = y.attrs) : x = y := by
  obtain ⟨h1, h2, h3, h4, h5⟩ := h
  cases x; cases y; simp_all

/-- an item whose parts may be -/
inductive ItemOk (x : ItemD) : Prop
  | text (k : x.kind = 2) (n : x.name = []) (a : x.attrs = []) (t : ∃ o, escL false x.text = some o)
  | elem (k : x.kind = 1) (t : x.text = []) (n : nameL x.name = true) (a : ∀ y ∈ x.attrs, AttrOk y)
theorem count_esc {v : Bool} {l : List UInt8} (h : charsE l = 0) : ∃ o, escL v l = some o := by
  unfold charsE at h
  split at h
  · omega
  · rename_i hc
    unfold countL at hc
    unfold escL
    cases hl : charsL l with
    | none => rw [hl] at hc; simp at hc
    | some cs => exact ⟨_, rfl⟩
theorem attrNames_ok : ∀ (l : List AttrD) (last : List UInt8), attrNames last l = true → ∀ a ∈ l, nameL a.name = true
  | [], _, _, _, h => by cases h
  | b :: l, last, h, a, ha => by
    simp only [attrNames, Bool.and_eq_true] at h
    rcases List.mem_cons.1 ha with rfl | ha
    · exact h.1.1
    · exact attrNames_ok l b.name h.2 a ha
theorem valuesE_ok : ∀ (l : List AttrD), valuesE l = 0 → ∀ a ∈ l, charsE a.value = 0
  | [], _, _, h => by cases h
  | b :: l, h, a, ha => by
    unfold valuesE at h
    by_cases h0 : charsE b.value = 0
    · rw [if_pos h0] at h
      rcases List.mem_cons.1 ha with rfl | ha
      · exact h0
      · exact valuesE_ok l h a ha
    · rw [if_neg h0] at h; exact absurd h h0
theorem parts_ok {x : ItemD} (h : partsE x = 0) : ItemOk x := by
  unfold partsE at h
  split at h
  · rename_i h1
    exact .text h1.1 h1.2.1 h1.2.2 (count_esc h)
  · split at h
    · omega
    · rename_i h2
      have ht : x.text = [] := Decidable.of_not_not fun h => h2 (.inr h)
      have hk : x.kind = 1 := Decidable.of_not_not fun h => h2 (.inl h)
      by_cases h3 : namesE x = 0
      · rw [if_pos h3] at h
        unfold namesE at h3
        by_cases h4 : (nameL x.name && attrNames [] x.attrs) = true
        · simp only [Bool.and_eq_true] at h4
          exact .elem hk ht h4.1 (fun a ha => ⟨attrNames_ok _ _ h4.2 a ha, count_esc (valuesE_ok _ h a ha)⟩)
        · rw [if_neg h4] at h3; cases h3
      · rw [if_neg h3] at h; exact absurd h h3

/-- what may stand behind: an end, or nothing -/
def endR (r : List UInt8) : Prop := r = [] ∨ ∃ t, r = 60 :: 47 :: t
theorem tag_inj {x y : ItemD} {r s : List UInt8} (nx : nameL x.name = true) (ax : ∀ a ∈ x.attrs, AttrOk a) (ny : nameL y.name = true) (ay : ∀ a ∈ y.attrs, AttrOk a)
    (hr : ∀ c t, r = c :: t → c = 47 ∨ c = 62) (hs : ∀ c t, s = c :: t → c = 47 ∨ c = 62) (h : tagL x ++ r = tagL y ++ s) : x.name = y.name ∧ x.attrs = y.attrs ∧ r = s := by
  unfold tagL at h
  simp only [List.append_assoc, List.cons_append, List.nil_append] at h
  injection h with _ h
  have stop : ∀ (l : List AttrD) (r : List UInt8), (∀ c t, r = c :: t → c = 47 ∨ c = 62) → ∀ c t, l.flatMap attrT ++ r = c :: t → ¬ nb c = true := by
    intro l r hr c t e
    cases l with
    | nil =>
      have := hr c t (by simpa using e)
      rcases this with rfl | rfl <;> decide
    | cons a l =>
      simp only [List.flatMap_cons, attrT, List.append_assoc, List.cons_append, List.nil_append] at e
      injection e with e _
      subst e; decide
  obtain ⟨e1, h⟩ := span_eq (fun b => nb b = true) x.name y.name _ _ (List.all_eq_true.1 (name_bytes nx).2) (List.all_eq_true.1 (name_bytes ny).2) (stop _ _ hr) (stop _ _ hs) h
  obtain ⟨e2, h⟩ := attrs_inj x.attrs y.attrs r s ax ay (fun c t e => by rcases hr c t e with rfl | rfl <;> decide) (fun c t e => by rcases hs c t e with rfl | rfl <;> decide) h
  exact ⟨e1, e2, h⟩

theorem pr_text {x : ItemD} {r : List ItemD} (hk : x.kind = 2) (hc : capC (cap x) r) : pr (x :: r) = escT x.text ++ pr r := by
  have : cap x = x.level := by unfold cap; rw [if_pos hk]
  rw [this] at hc
  obtain ⟨k1, k2⟩ := kids_nil hc
  rw [pr_cons, k1, k2]
  have : nodeL x [] (pr []) = escT x.text := by unfold nodeL; rw [if_pos hk]
  rw [this]
theorem pr_elem {x : ItemD} {r : List ItemD} (hk : x.kind ≠ 2) : pr (x :: r) = tagL x ++ ((if kidsOf x.level r = [] then [47, 62] else [62] ++ pr (kidsOf x.level r) ++ closeT x.name) ++ pr (pastOf x.level r)) := by
  rw [pr_cons]
  unfold nodeL
  rw [if_neg hk]
  split
  · simp
  · simp [closeT]

structure Forest (L : Int) (b : List ItemD) : Prop where
  low : ∀ y ∈ b, L ≤ y.level
  cap : capC L b
  ok : ∀ y ∈ b, ItemOk y
  nf : NF b
theorem nfP_split : ∀ (a b : List ItemD) (p : ItemD), nfP p (a ++ b) → nfP p a ∧ NF b
  | [], [], _, _ => ⟨trivial, trivial⟩
  | [], x :: b, p, h => ⟨trivial, h.1, h.2.2⟩
  | x :: a, b, p, h => by
    obtain ⟨h1, h2⟩ := nfP_split a b x h.2.2
    exact ⟨⟨h.1, h.2.1, h1⟩, h2⟩
theorem NF.tail {x : ItemD} {r : List ItemD} (h : NF (x :: r)) : NF r := by
  cases r with
  | nil => trivial
  | cons y r => exact ⟨h.2.1, h.2.2.2⟩
theorem NF.split {a b : List ItemD} (h : NF (a ++ b)) : NF a ∧ NF b := by
  cases a with
  | nil => exact ⟨trivial, h⟩
  | cons x a =>
    obtain ⟨h1, h2⟩ := nfP_split a b x h.2
    exact ⟨⟨h.1, h1⟩, h2⟩
theorem Forest.head {L : Int} {x : ItemD} {r : List ItemD} (h : Forest L (x :: r)) : x.level = L := by
  have h1 := h.low x (by simp)
  have h2 := h.cap.1
  omega
/-- an element's kids, and what stands past them -/
theorem Forest.parts {L : Int} {x : ItemD} {r : List ItemD} (h : Forest L (x :: r)) (hk : x.kind ≠ 2) : Forest (L + 1) (kidsOf x.level r) ∧ Forest L (pastOf x.level r) := by
  have hx := h.head
  have hs := kids_past x.level r
  have hc := h.cap.2
  have hcx : Go.Proofs.Ythifddkmbjnncaa.cap x = x.level + 1 := by unfold Go.Proofs.Ythifddkmbjnncaa.cap; rw [if_neg hk]
  rw [hcx, ← hs] at hc
  obtain ⟨c1, c', c2⟩ := capC_split _ _ _ hc
  have hn := h.nf.tail
  rw [← hs] at hn
  obtain ⟨n1, n2⟩ := hn.split
  have hmk : ∀ y ∈ kidsOf x.level r, y ∈ r := fun y hy => by rw [← hs]; simp [hy]
  have hmp : ∀ y ∈ pastOf x.level r, y ∈ r := fun y hy => by rw [← hs]; simp [hy]
  refine ⟨⟨fun y hy => by have := kids_mem x.level r y hy; omega, by rw [← hx]; exact c1, fun y hy => h.ok y (by simp [hmk y hy]), n1⟩,
    ⟨fun y hy => h.low y (by simp [hmp y hy]), capC_head c2 (fun y t e => by have := past_head x.level r y t e; omega), fun y hy => h.ok y (by simp [hmp y hy]), n2⟩⟩
theorem esc_ne {t o : List UInt8} (h : escL false t = some o) (ht : t ≠ []) : ∃ c s, o = c :: s ∧ c ≠ 60 := by
  cases o with
  | nil =>
    have := undo_esc false t [] h
    have e : escL false [] = some [] := rfl
    exact absurd (esc_inj h e) ht
  | cons c s => exact ⟨c, s, rfl, esc_text h c (by simp)⟩
theorem pr_starts {L : Int} {x : ItemD} {r : List ItemD} (h : Forest L (x :: r)) (R : List UInt8) : (x.kind = 2 ∧ ∃ c t, pr (x :: r) ++ R = c :: t ∧ c ≠ 60) ∨ (x.kind = 1 ∧ ∃ c t, pr (x :: r) ++ R = 60 :: c :: t ∧ c ≠ 47) := by
  rcases h.ok x (by simp) with ⟨k, _, _, o, ho⟩ | ⟨k, _, n, _⟩
  · refine .inl ⟨k, ?_⟩
    have hne : x.text ≠ [] := fun e => h.nf.1 ⟨k, e⟩
    obtain ⟨c, s, e, hc⟩ := esc_ne ho hne
    rw [pr_text k h.cap.2]
    have : escT x.text = c :: s := by unfold escT; rw [ho, ← e]; rfl
    rw [this]
    exact ⟨c, _, rfl, hc⟩
  · refine .inr ⟨k, ?_⟩
    obtain ⟨hne, hall⟩ := name_bytes n
    rw [pr_elem (by omega)]
    cases hn : x.name with
    | nil => exact absurd hn hne
    | cons c s =>
      have hc : nb c = true := by rw [hn] at hall; simp at hall; exact hall.1
      refine ⟨c, _, by unfold tagL; rw [hn]; rfl, fun e => ?_⟩
      subst e; revert hc; decide

theorem pr_inj : ∀ (n : Nat) (a b : List ItemD) (L : Int) (R S : List UInt8), a.length + b.length ≤ n → Forest L a → Forest L b → endR R → endR S → pr a ++ R = pr b ++ S → a = b ∧ R = S := by
  intro n
  induction n with
  | zero =>
    intro a b L R S hn _ _ _ _ h
    have e1 : a = [] := List.eq_nil_of_length_eq_zero (by omega)
    have e2 : b = [] := List.eq_nil_of_length_eq_zero (by omega)
    subst e1; subst e2
    rw [pr_nil] at h
    exact ⟨rfl, h⟩
  | succ n ih =>
    intro a b L R S hn ha hb hR hS h
    have endNot : ∀ (R : List UInt8), endR R → ∀ (c : UInt8) (t : List UInt8), R = c :: t → c = 60 ∧ ∃ u, t = 47 :: u := by
      intro R hR c t e
      rcases hR with h | ⟨u, h⟩
      · rw [h] at e; cases e
      · rw [h] at e
        injection e with e1 e2
        exact ⟨e1.symm, u, e2.symm⟩
    have endNo : ∀ (x : ItemD) (r : List ItemD) (R S : List UInt8), Forest L (x :: r) → endR R → R = pr (x :: r) ++ S → False := by
      intro x r R S hf hR e
      rcases pr_starts hf S with ⟨_, c, t, e2, hc⟩ | ⟨_, c, t, e2, hc⟩
      · rw [e2] at e
        exact hc (endNot R hR c t e).1
      · rw [e2] at e
        obtain ⟨_, u, hu⟩ := endNot R hR 60 _ e
        injection hu with hu _
        exact hc hu
    cases a with
    | nil =>
      cases b with
      | nil => rw [pr_nil] at h; exact ⟨rfl, h⟩
      | cons y s =>
        rw [pr_nil] at h
        exact (endNo y s R S hb hR h).elim
    | cons x r =>
      cases b with
      | nil =>
        rw [pr_nil] at h
        exact (endNo x r S R ha hS h.symm).elim
      | cons y s =>
        have hxl := ha.head
        have hyl := hb.head
        have startOf := pr_starts ha R
        have startOf' := pr_starts hb S
        simp only [List.length_cons] at hn
        rcases startOf with ⟨kx, c, t, ec, hc⟩ | ⟨kx, c, t, ec, hc⟩
        · rcases startOf' with ⟨ky, _⟩ | ⟨_, c', t', ec', _⟩
          · -- two texts
            rcases ha.ok x (by simp) with ⟨_, nx, ax, ox, hox⟩ | ⟨k, _, _, _⟩
            · rcases hb.ok y (by simp) with ⟨_, ny, ay, oy, hoy⟩ | ⟨k, _, _, _⟩
              · rw [pr_text kx ha.cap.2, pr_text ky hb.cap.2, List.append_assoc, List.append_assoc] at h
                have ex : escT x.text = ox := by unfold escT; rw [hox]; rfl
                have ey : escT y.text = oy := by unfold escT; rw [hoy]; rfl
                rw [ex, ey] at h
                have fr : ∀ {x : ItemD} {r : List ItemD}, x.kind = 2 → Forest L (x :: r) → Forest L r := by
                  intro x r k hf
                  have hl := hf.head
                  have hcp := hf.cap.2
                  have : Go.Proofs.Ythifddkmbjnncaa.cap x = L := by unfold Go.Proofs.Ythifddkmbjnncaa.cap; rw [if_pos k]; exact hl
                  rw [this] at hcp
                  exact ⟨fun z hz => hf.low z (by simp [hz]), hcp, fun z hz => hf.ok z (by simp [hz]), hf.nf.tail⟩
                have stop : ∀ {x : ItemD} {r : List ItemD} {R : List UInt8}, x.kind = 2 → Forest L (x :: r) → endR R → ∀ c t, pr r ++ R = c :: t → ¬ c ≠ 60 := by
                  intro x r R k hf hR c t e hne
                  cases r with
                  | nil =>
                    rw [pr_nil] at e
                    exact hne (endNot R hR c t e).1
                  | cons z r =>
                    have hz := (fr k hf)
                    rcases pr_starts hz R with ⟨kz, _⟩ | ⟨_, c', t', e', _⟩
                    · exact hf.nf.2.2.1 ⟨kz, k, by rw [hf.head, hz.head]⟩
                    · rw [e'] at e
                      injection e with e _
                      exact hne e.symm
                obtain ⟨e1, e2⟩ := span_eq (fun b => b ≠ 60) ox oy _ _ (esc_text hox) (esc_text hoy) (stop kx ha hR) (stop ky hb hS) h
                subst e1
                have et := esc_inj hox hoy
                obtain ⟨e3, e4⟩ := ih r s L R S (by omega) (fr kx ha) (fr ky hb) hR hS e2
                refine ⟨?_, e4⟩
                rw [e3]
                congr 1
                exact item_same ⟨by omega, by omega, by rw [nx, ny], et, by rw [ax, ay]⟩
              · omega
            · omega
          · rw [h, ec'] at ec
            injection ec with ec _
            exact absurd ec.symm hc
        · rcases startOf' with ⟨_, c', t', ec', hc'⟩ | ⟨ky, _⟩
          · rw [h, ec'] at ec
            injection ec with ec _
            exact absurd ec hc'
          · rcases ha.ok x (by simp) with ⟨k, _, _, _⟩ | ⟨_, tx, nx, ax⟩
            · omega
            · rcases hb.ok y (by simp) with ⟨k, _, _, _⟩ | ⟨_, ty, ny, ay⟩
              · omega
              · obtain ⟨pk, pp⟩ := ha.parts (by omega)
                obtain ⟨qk, qp⟩ := hb.parts (by omega)
                have kl := kidsOf_le x.level r
                have pl := pastOf_le x.level r
                have kl' := kidsOf_le y.level s
                have pl' := pastOf_le y.level s
                rw [pr_elem (by omega), pr_elem (by omega)] at h
                simp only [List.append_assoc] at h
                have heads : ∀ (K : List ItemD) (nm T : List UInt8), ∀ c t, (if K = [] then [47, 62] else [62] ++ (pr K ++ closeT nm)) ++ T = c :: t → c = 47 ∨ c = 62 := by
                  intro K nm T c t e
                  split at e
                  · injection e with e _; exact .inl e.symm
                  · injection e with e _; exact .inr e.symm
                obtain ⟨e1, e2, h⟩ := tag_inj nx ax ny ay (heads _ _ _) (heads _ _ _) h
                have exy : x = y := item_same ⟨by omega, by omega, e1, by rw [tx, ty], e2⟩
                have hsx := kids_past x.level r
                have hsy := kids_past y.level s
                by_cases hk1 : kidsOf x.level r = []
                · rw [if_pos hk1] at h
                  by_cases hk2 : kidsOf y.level s = []
                  · rw [if_pos hk2] at h
                    injection h with _ h
                    injection h with _ h
                    obtain ⟨e3, e4⟩ := ih _ _ L R S (by omega) pp qp hR hS h
                    refine ⟨?_, e4⟩
                    rw [exy]
                    congr 1
                    rw [← hsx, ← hsy, hk1, hk2, e3]
                  · rw [if_neg hk2] at h
                    injection h with h _
                    exact absurd h (by decide)
                · rw [if_neg hk1] at h
                  by_cases hk2 : kidsOf y.level s = []
                  · rw [if_pos hk2] at h
                    injection h with h _
                    exact absurd h (by decide)
                  · rw [if_neg hk2] at h
                    simp only [List.append_assoc, List.cons_append, List.nil_append] at h
                    injection h with _ h
                    obtain ⟨e3, e4⟩ := ih _ _ (L + 1) _ _ (by omega) pk qk (.inr ⟨_, rfl⟩) (.inr ⟨_, rfl⟩) h
                    rw [e1] at e4
                    injection e4 with _ e4
                    injection e4 with _ e4
                    have e5 : pr (pastOf x.level r) ++ R = pr (pastOf y.level s) ++ S := List.append_cancel_left e4
                    obtain ⟨e6, e7⟩ := ih _ _ L R S (by omega) pp qp hR hS e5
                    refine ⟨?_, e7⟩
                    rw [exy]
                    congr 1
                    rw [← hsx, ← hsy, e3, e6]

theorem Doc.forest {l : List ItemD} (h : Doc l) (hn : NF l) : Forest 0 l :=
  ⟨h.cap.2, h.cap.1, fun y hy => by
    obtain ⟨k, hk⟩ := List.mem_iff_getElem?.1 hy
    exact parts_ok (oneE_zero (h.one k y hk)).2, hn⟩
/-- two documents in normal form that are printed alike are the same -/
theorem print_inj {x y : List ItemD} (hx : Doc x) (hy : Doc y) (nx : NF x) (ny : NF y) (h : nodeAt (normalL x) 0 = nodeAt (normalL y) 0) : x = y := by
  obtain ⟨x0, s, sx⟩ := hx.normal
  obtain ⟨y0, t, sy⟩ := hy.normal
  rw [← sx.pr, ← sy.pr, nf_normal x nx, nf_normal y ny] at h
  exact (pr_inj _ x y 0 [] [] (Nat.le_refl _) (hx.forest nx) (hy.forest ny) (.inl rfl) (.inl rfl) (by rw [List.append_nil, List.append_nil]; exact h)).1
end Go.Proofs.Ythifddkmbjnncaa
