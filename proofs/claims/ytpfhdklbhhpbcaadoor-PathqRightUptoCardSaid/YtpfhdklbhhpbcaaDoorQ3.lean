/-
  Texts of this claim, joined (by a program of the claim's author): NormPlain, PrintPlain, DocPlain, FitPlain, IdemPlain, LawPlain, InjPlain, LexPlain, SortPlain, LexLaw.
-/
import Derived.Test.YtpfhdklbhhpbcaaDoorQ2
import Derived.Test.YtpfhdklbhhpbcaaDoorQ1
import Derived.Lib.Bytealg
import Derived.Sort.Statements
/-
  The plain law of documents made normal: no program in sight.
-/
namespace Go.Proofs.YtpfhdklbhhpbcaaDoor

def nstep (out : List ItemD) (x : ItemD) : List ItemD :=
  if x.kind = 2 ∧ x.text = [] then out
  else match out[out.length - 1]? with
    | none => out ++ [x]
    | some p => if x.kind = 2 ∧ p.kind = 2 ∧ p.level = x.level then out.set (out.length - 1) { p with text := p.text ++ x.text } else out ++ [x]
def normalL (l : List ItemD) : List ItemD := l.foldl nstep []

theorem nstep_void {out : List ItemD} {x : ItemD} (h1 : x.kind = 2) (h2 : x.text = []) : nstep out x = out := by unfold nstep; rw [if_pos ⟨h1, h2⟩]
theorem nstep_first {x : ItemD} (h : ¬ (x.kind = 2 ∧ x.text = [])) : nstep [] x = [x] := by unfold nstep; rw [if_neg h]; rfl
theorem nstep_join {out : List ItemD} {x p : ItemD} (hp : out[out.length - 1]? = some p) (h1 : x.kind = 2) (h2 : x.text ≠ []) (h3 : p.kind = 2) (h4 : p.level = x.level) : nstep out x = out.set (out.length - 1) { p with text := p.text ++ x.text } := by
  unfold nstep; rw [if_neg (fun h => h2 h.2), hp]; exact if_pos ⟨h1, h3, h4⟩
theorem nstep_more {out : List ItemD} {x p : ItemD} (hp : out[out.length - 1]? = some p) (h : ¬ (x.kind = 2 ∧ x.text = [])) (h' : ¬ (x.kind = 2 ∧ p.kind = 2 ∧ p.level = x.level)) : nstep out x = out ++ [x] := by
  unfold nstep; rw [if_neg h, hp]; exact if_neg h'

theorem nstep_app {out : List ItemD} {x : ItemD} (h : ¬ (x.kind = 2 ∧ x.text = [])) (h' : ∀ p, out[out.length - 1]? = some p → ¬ (x.kind = 2 ∧ p.kind = 2 ∧ p.level = x.level)) : nstep out x = out ++ [x] := by
  unfold nstep; rw [if_neg h]
  split
  · rfl
  · rename_i p hp
    exact if_neg (h' p hp)

/-- the bytes of all texts together -/
def textSum (l : List ItemD) : Nat := (l.map (·.text.length)).sum
theorem textSum_snoc (l : List ItemD) (x : ItemD) : textSum (l ++ [x]) = textSum l + x.text.length := by simp [textSum]
theorem textSum_take {l : List ItemD} {k : Nat} {x : ItemD} (hx : l[k]? = some x) : textSum (l.take (k + 1)) = textSum (l.take k) + x.text.length := by
  have hk : k < l.length := (List.getElem?_eq_some_iff.1 hx).1
  rw [List.take_add_one, hx]
  simp [textSum]
theorem textSum_append (l m : List ItemD) : textSum (l ++ m) = textSum l + textSum m := by simp [textSum]
theorem textSum_take_le (l : List ItemD) (k : Nat) : textSum (l.take k) ≤ textSum l := by
  have := textSum_append (l.take k) (l.drop k)
  rw [List.take_append_drop] at this
  omega

def SmallDoc (l : List ItemD) : Prop := SmallItems l ∧ textSum l ≤ 1000000000

/-- what is made normal: its items are of the row's, but for their texts -/
theorem normal_step_mem (P : ItemD → Prop) {out : List ItemD} {x : ItemD} {T : Nat} (ho : ∀ y ∈ out, P { y with text := [] } ∧ y.text.length ≤ T) (hx : P { x with text := [] }) : ∀ y ∈ nstep out x, P { y with text := [] } ∧ y.text.length ≤ T + x.text.length := by
  intro y hy
  unfold nstep at hy
  split at hy
  · have := ho y hy; exact ⟨this.1, by omega⟩
  · split at hy
    · rcases List.mem_append.1 hy with h | h
      · have := ho y h; exact ⟨this.1, by omega⟩
      · simp at h; subst h; exact ⟨hx, by omega⟩
    · rename_i p hp
      split at hy
      · rcases List.mem_or_eq_of_mem_set hy with h | h
        · have := ho y h; exact ⟨this.1, by omega⟩
        · subst h
          have := ho p (List.mem_of_getElem? hp)
          exact ⟨this.1, by simp; omega⟩
      · rcases List.mem_append.1 hy with h | h
        · have := ho y h; exact ⟨this.1, by omega⟩
        · simp at h; subst h; exact ⟨hx, by omega⟩
theorem nstep_length (out : List ItemD) (x : ItemD) : (nstep out x).length ≤ out.length + 1 := by
  unfold nstep
  split
  · omega
  · split
    · simp
    · split <;> simp
theorem normal_fold_mem (P : ItemD → Prop) : ∀ (l out : List ItemD) (T : Nat), (∀ y ∈ out, P { y with text := [] } ∧ y.text.length ≤ T) → (∀ x ∈ l, P { x with text := [] }) → (∀ y ∈ l.foldl nstep out, P { y with text := [] } ∧ y.text.length ≤ T + textSum l) ∧ (l.foldl nstep out).length ≤ out.length + l.length
  | [], out, T, ho, _ => ⟨fun y hy => by have := ho y hy; exact ⟨this.1, by omega⟩, by simp⟩
  | x :: l, out, T, ho, hl => by
    have h1 := normal_step_mem P ho (hl x (by simp))
    have h2 := normal_fold_mem P l (nstep out x) (T + x.text.length) h1 (fun y hy => hl y (by simp [hy]))
    have h3 := nstep_length out x
    refine ⟨fun y hy => ?_, ?_⟩
    · have := h2.1 y hy
      exact ⟨this.1, by simp [textSum] at *; omega⟩
    · have := h2.2
      simp only [List.foldl_cons, List.length_cons]
      omega

theorem SmallItem.untexted {x : ItemD} (h : SmallItem { x with text := [] }) (ht : x.text.length ≤ 1000000000) : SmallItem x := ⟨h.1, ht, h.2.2.1, h.2.2.2.1, h.2.2.2.2⟩
theorem small_of_mem {l : List ItemD} (h : l.length ≤ 1000000000) (hm : ∀ x ∈ l, SmallItem x) : SmallItems l := ⟨h, fun _ _ hx => hm _ (List.mem_of_getElem? hx)⟩
theorem SmallItems.mem {l : List ItemD} (h : SmallItems l) : ∀ x ∈ l, SmallItem x := fun x hx => by
  obtain ⟨k, hk⟩ := List.mem_iff_getElem?.1 hx
  exact h.2 k x hk
theorem normal_small {l : List ItemD} (h : SmallDoc l) : SmallItems (normalL l) := by
  have := normal_fold_mem SmallItem l [] 0 (fun _ h => by cases h) (fun x hx => by
    have := h.1.mem x hx
    exact ⟨this.1, by simp, this.2.2.1, this.2.2.2.1, this.2.2.2.2⟩)
  refine small_of_mem (by have h2 := this.2; have := h.1.1; simp at h2; exact Nat.le_trans h2 this) fun x hx => ?_
  have h3 := this.1 x hx
  exact h3.1.untexted (by have := h.2; omega)
end Go.Proofs.YtpfhdklbhhpbcaaDoor

/-
  The plain law of documents as texts: no program in sight.
-/
namespace Go.Proofs.YtpfhdklbhhpbcaaDoor

def escT (t : List UInt8) : List UInt8 := (escL false t).getD []
def escV (t : List UInt8) : List UInt8 := (escL true t).getD []
def attrT (a : AttrD) : List UInt8 := [32] ++ a.name ++ [61, 34] ++ escV a.value ++ [34]
def tagL (x : ItemD) : List UInt8 := [60] ++ x.name ++ x.attrs.flatMap attrT
def kidsOf (c : Int) (r : List ItemD) : List ItemD := r.takeWhile fun y => decide (c < y.level)
def pastOf (c : Int) (r : List ItemD) : List ItemD := r.dropWhile fun y => decide (c < y.level)
theorem kids_past (c : Int) (r : List ItemD) : kidsOf c r ++ pastOf c r = r := List.takeWhile_append_dropWhile
theorem kidsOf_le (c : Int) (r : List ItemD) : (kidsOf c r).length ≤ r.length := by
  have := congrArg List.length (kids_past c r)
  rw [List.length_append] at this; omega
theorem pastOf_le (c : Int) (r : List ItemD) : (pastOf c r).length ≤ r.length := by
  have := congrArg List.length (kids_past c r)
  rw [List.length_append] at this; omega
theorem past_drop (c : Int) (r : List ItemD) : pastOf c r = r.drop (kidsOf c r).length := by
  have h := kids_past c r
  have : (kidsOf c r ++ pastOf c r).drop (kidsOf c r).length = pastOf c r := List.drop_left
  rw [h] at this; exact this.symm
theorem kids_take (c : Int) (r : List ItemD) : kidsOf c r = r.take (kidsOf c r).length := by
  have h := kids_past c r
  have : (kidsOf c r ++ pastOf c r).take (kidsOf c r).length = kidsOf c r := List.take_left
  rw [h] at this; exact this.symm
theorem kids_mem (c : Int) : ∀ (r : List ItemD), ∀ y ∈ kidsOf c r, c < y.level
  | [], y, h => by cases h
  | x :: r, y, h => by
    unfold kidsOf at h
    rw [List.takeWhile_cons] at h
    split at h
    · rename_i hx
      rcases List.mem_cons.1 h with rfl | h
      · exact of_decide_eq_true hx
      · exact kids_mem c r y h
    · cases h
theorem past_head (c : Int) : ∀ (r : List ItemD) (y : ItemD) (s : List ItemD), pastOf c r = y :: s → y.level ≤ c
  | [], y, s, h => by cases h
  | x :: r, y, s, h => by
    unfold pastOf at h
    rw [List.dropWhile_cons] at h
    split at h
    · exact past_head c r y s h
    · rename_i hx
      injection h with h1 _
      subst h1
      have := of_decide_eq_false (by simpa using hx : decide (c < x.level) = false)
      omega
/-- what stands in front of what is no kid -/
theorem kids_app (c : Int) : ∀ (s rest : List ItemD), (∀ y r, rest = y :: r → y.level ≤ c) → kidsOf c (s ++ rest) = kidsOf c s
  | [], rest, h => by
    cases rest with
    | nil => rfl
    | cons y r =>
      have := h y r rfl
      show List.takeWhile _ (y :: r) = _
      rw [List.takeWhile_cons, if_neg (by simp; omega)]; rfl
  | x :: s, rest, h => by
    show List.takeWhile _ (x :: (s ++ rest)) = List.takeWhile _ (x :: s)
    rw [List.takeWhile_cons, List.takeWhile_cons]
    have := kids_app c s rest h
    unfold kidsOf at this
    rw [this]

/-- an item with what is in it -/
def nodeL (x : ItemD) (kids : List ItemD) (inner : List UInt8) : List UInt8 :=
  if x.kind = 2 then escT x.text else if kids = [] then tagL x ++ [47, 62] else tagL x ++ [62] ++ inner ++ ([60, 47] ++ x.name ++ [62])
/-- items side by side -/
def pr : List ItemD → List UInt8
  | [] => []
  | x :: r => nodeL x (kidsOf x.level r) (pr (kidsOf x.level r)) ++ pr (pastOf x.level r)
termination_by l => l.length
decreasing_by
  · have := kidsOf_le x.level r; simp; omega
  · have := pastOf_le x.level r; simp; omega
theorem pr_nil : pr [] = [] := by rw [pr]
theorem pr_cons (x : ItemD) (r : List ItemD) : pr (x :: r) = nodeL x (kidsOf x.level r) (pr (kidsOf x.level r)) ++ pr (pastOf x.level r) := by rw [pr]
/-- an item of a row, with what is in it -/
def nodeAt (l : List ItemD) (k : Nat) : List UInt8 := match l.drop k with
  | [] => []
  | x :: r => nodeL x (kidsOf x.level r) (pr (kidsOf x.level r))
/-- the number behind an item of a row -/
def endN (l : List ItemD) (k : Nat) : Nat := match l.drop k with
  | [] => 0
  | x :: r => k + 1 + (kidsOf x.level r).length

theorem endN_eq {l : List ItemD} {k : Nat} {x : ItemD} (hx : l[k]? = some x) : endN l k = k + 1 + (kidsOf x.level (l.drop (k + 1))).length := by
  unfold endN; rw [drop_cons hx]
theorem nodeAt_eq {l : List ItemD} {k : Nat} {x : ItemD} (hx : l[k]? = some x) : nodeAt l k = nodeL x (kidsOf x.level (l.drop (k + 1))) (pr (kidsOf x.level (l.drop (k + 1)))) := by
  unfold nodeAt; rw [drop_cons hx]
/-- what is in an item: its numbers are those from the next one on, up to its end -/
theorem kids_seg {l : List ItemD} {k : Nat} {x : ItemD} (hx : l[k]? = some x) : kidsOf x.level (l.drop (k + 1)) = (l.drop (k + 1)).take (endN l k - (k + 1)) := by
  have h := kids_take x.level (l.drop (k + 1))
  rw [endN_eq hx, show k + 1 + (kidsOf x.level (l.drop (k + 1))).length - (k + 1) = (kidsOf x.level (l.drop (k + 1))).length by omega]
  exact h
theorem endN_le {l : List ItemD} {k : Nat} {x : ItemD} (hx : l[k]? = some x) : k < endN l k ∧ endN l k ≤ l.length := by
  have h := kidsOf_le x.level (l.drop (k + 1))
  have hk : k < l.length := (List.getElem?_eq_some_iff.1 hx).1
  rw [endN_eq hx]
  rw [List.length_drop] at h
  omega
theorem seg_step {l : List ItemD} {k n : Nat} {x y : ItemD} (hx : l[k]? = some x) (hkn : k < n) (hn : n < endN l k) (hy : l[n]? = some y) :
    n < endN l n ∧ endN l n ≤ endN l k ∧ pr ((l.drop n).take (endN l k - n)) = nodeAt l n ++ pr ((l.drop (endN l n)).take (endN l k - endN l n)) := by
  obtain ⟨E, hE⟩ : ∃ E, endN l k = E := ⟨_, rfl⟩
  have hEl := (endN_le hx).2
  have hseg := kids_seg hx
  rw [hE] at hn hEl hseg ⊢
  -- what stands between, and behind
  have hyl : x.level < y.level := by
    refine kids_mem x.level (l.drop (k + 1)) y ?_
    rw [hseg]
    refine List.mem_of_getElem? (i := n - (k + 1)) ?_
    rw [List.getElem?_take, if_pos (by omega), List.getElem?_drop, show k + 1 + (n - (k + 1)) = n by omega]
    exact hy
  have hsplit : l.drop (n + 1) = (l.drop (n + 1)).take (E - (n + 1)) ++ l.drop E := by
    have := (List.take_append_drop (E - (n + 1)) (l.drop (n + 1))).symm
    rw [List.drop_drop, show n + 1 + (E - (n + 1)) = E by omega] at this
    exact this
  have hpast : pastOf x.level (l.drop (k + 1)) = l.drop E := by
    rw [past_drop, List.drop_drop]
    congr 1
    rw [← hE, endN_eq hx]
  have hrest : ∀ z r, l.drop E = z :: r → z.level ≤ y.level := fun z r h => by
    have := past_head x.level (l.drop (k + 1)) z r (by rw [hpast]; exact h)
    omega
  obtain ⟨s, hs⟩ : ∃ s, (l.drop (n + 1)).take (E - (n + 1)) = s := ⟨_, rfl⟩
  rw [hs] at hsplit
  have hkids : kidsOf y.level (l.drop (n + 1)) = kidsOf y.level s := by rw [hsplit]; exact kids_app _ _ _ hrest
  have hsl : s.length = E - (n + 1) := by rw [← hs, List.length_take, List.length_drop]; omega
  have hkl := kidsOf_le y.level s
  have hend : endN l n = n + 1 + (kidsOf y.level s).length := by rw [endN_eq hy, hkids]
  refine ⟨by omega, by omega, ?_⟩
  have hseg' : (l.drop n).take (E - n) = y :: s := by
    rw [drop_cons hy, show E - n = (E - (n + 1)) + 1 by omega, List.take_succ_cons, hs]
  rw [hseg', pr_cons, nodeAt_eq hy, hkids, past_drop, hend]
  congr 2
  rw [← hs, List.drop_take, List.drop_drop]
  congr 1
  omega

def printL (l : List ItemD) : List UInt8 × Int := if (checkL l).2 = 0 then (nodeAt (normalL l) 0, 0) else ([], (checkL l).2)
end Go.Proofs.YtpfhdklbhhpbcaaDoor

/-
  The plain law of documents: what a row that was checked is; the two ways to print it come to the same. No program in sight.
-/
namespace Go.Proofs.YtpfhdklbhhpbcaaDoor

/-! What was checked. -/
theorem checkF_ok : ∀ (l : List ItemD) (prev : Option ItemD) (k : Nat), (checkF prev k l).2 = 0 → ∀ (j : Nat) (x : ItemD), l[j]? = some x → oneE (if j = 0 then prev else l[j - 1]?) (k + j) x = 0
  | [], _, _, _, j, x, h => by simp at h
  | y :: r, prev, k, h, j, x, hx => by
    unfold checkF at h
    by_cases h0 : oneE prev k y = 0
    · rw [if_pos h0] at h
      cases j with
      | zero => simp at hx; subst hx; simpa using h0
      | succ j =>
        have := checkF_ok r (some y) (k + 1) h j x (by simpa using hx)
        rw [if_neg (by omega)]
        have e : (y :: r)[j + 1 - 1]? = if j = 0 then some y else r[j - 1]? := by
          cases j with
          | zero => rfl
          | succ j => simp
        rw [e, show k + (j + 1) = k + 1 + j by omega]
        exact this
    · rw [if_neg h0] at h; exact absurd h h0

structure Doc (l : List ItemD) : Prop where
  ne : l ≠ []
  one : ∀ (k : Nat) (x : ItemD), l[k]? = some x → oneE (prevOf l k) k x = 0
theorem checkL_ok {l : List ItemD} (h : (checkL l).2 = 0) : Doc l := by
  unfold checkL at h
  by_cases h0 : l = []
  · rw [if_pos h0] at h; cases h
  · rw [if_neg h0] at h
    refine ⟨h0, fun k x hx => ?_⟩
    have := checkF_ok l none 0 h k x hx
    rw [Nat.zero_add] at this
    exact this
theorem Doc.first {l : List ItemD} (h : Doc l) : ∃ x r, l = x :: r ∧ x.level = 0 ∧ x.kind = 1 := by
  cases l with
  | nil => exact absurd rfl h.ne
  | cons x r =>
    refine ⟨x, r, rfl, ?_⟩
    have h0 := (oneE_zero (h.one 0 x rfl)).1
    have : prevOf (x :: r) 0 = none := rfl
    rw [this] at h0
    unfold placeE at h0
    simp only at h0
    split at h0
    · omega
    · omega
theorem Doc.many {l : List ItemD} (h : Doc l) : l.length ≤ 1000 := by
  rcases Nat.lt_or_ge 1000 l.length with hl | hl
  · have hx : l[1000]? = some l[1000] := List.getElem?_eq_getElem hl
    have h0 := (oneE_zero (h.one 1000 _ hx)).1
    have hp : prevOf l 1000 = some (l[999]'(by omega)) := by unfold prevOf; rw [if_neg (by omega)]; exact List.getElem?_eq_getElem (by omega)
    rw [hp] at h0
    unfold placeE at h0
    simp only at h0
    split at h0
    · omega
    split at h0
    · omega
    · omega
  · exact hl

/-- how deep the next item may stand -/
def cap (x : ItemD) : Int := if x.kind = 2 then x.level else x.level + 1
def capC : Int → List ItemD → Prop
  | _, [] => True
  | c, x :: r => x.level ≤ c ∧ capC (cap x) r
theorem Doc.step {l : List ItemD} (h : Doc l) {k : Nat} {p x : ItemD} (hp : l[k]? = some p) (hx : l[k + 1]? = some x) : 1 ≤ x.level ∧ x.level ≤ cap p := by
  have h0 := (oneE_zero (h.one (k + 1) x hx)).1
  have e : prevOf l (k + 1) = some p := prevOf_succ hp
  rw [e] at h0
  unfold placeE at h0
  simp only at h0
  unfold cap
  split at h0
  · omega
  · split <;> omega
theorem capC_of {l : List ItemD} (hs : ∀ (k : Nat) (p x : ItemD), l[k]? = some p → l[k + 1]? = some x → x.level ≤ cap p) : ∀ (x : ItemD) (r : List ItemD), l = x :: r → capC x.level l := by
  have key : ∀ (r : List ItemD) (x : ItemD), (∀ (k : Nat) (p y : ItemD), (x :: r)[k]? = some p → (x :: r)[k + 1]? = some y → y.level ≤ cap p) → capC (cap x) r := by
    intro r
    induction r with
    | nil => intro x _; trivial
    | cons y r ih =>
      intro x h
      exact ⟨h 0 x y rfl rfl, ih y (fun k p z hp hz => h (k + 1) p z hp hz)⟩
  intro x r e
  subst e
  exact ⟨Int.le_refl _, key r x hs⟩
theorem Doc.cap {l : List ItemD} (h : Doc l) : capC 0 l ∧ ∀ y ∈ l, 0 ≤ y.level := by
  obtain ⟨x, r, rfl, hx0, _⟩ := h.first
  have := capC_of (fun k p y hp hy => (h.step hp hy).2) x r rfl
  rw [hx0] at this
  refine ⟨this, fun y hy => ?_⟩
  obtain ⟨k, hk⟩ := List.mem_iff_getElem?.1 hy
  exact (placeE_zero (oneE_zero (h.one k y hk)).1).1
theorem Doc.below {l : List ItemD} (h : Doc l) {x : ItemD} {r : List ItemD} (e : l = x :: r) : ∀ y ∈ r, 1 ≤ y.level := by
  subst e
  intro y hy
  obtain ⟨k, hk⟩ := List.mem_iff_getElem?.1 hy
  have h1 : (x :: r)[k + 1]? = some y := by simpa using hk
  have h2 : ∃ p, (x :: r)[k]? = some p := ⟨_, List.getElem?_eq_getElem (by have := (List.getElem?_eq_some_iff.1 h1).1; omega)⟩
  obtain ⟨p, hp⟩ := h2
  exact (h.step hp h1).1

/-! Made normal, item by item: the last one is held back. -/
def normP (p : ItemD) : List ItemD → List ItemD
  | [] => [p]
  | x :: r => if x.kind = 2 ∧ x.text = [] then normP p r
    else if x.kind = 2 ∧ p.kind = 2 ∧ p.level = x.level then normP { p with text := p.text ++ x.text } r
    else p :: normP x r
theorem fold_normP : ∀ (l out : List ItemD) (p : ItemD), l.foldl nstep (out ++ [p]) = out ++ normP p l
  | [], out, p => rfl
  | x :: l, out, p => by
    have hl : (out ++ [p])[(out ++ [p]).length - 1]? = some p := by simp
    rw [List.foldl_cons]
    by_cases h1 : x.kind = 2 ∧ x.text = []
    · rw [nstep_void h1.1 h1.2, fold_normP l out p, normP, if_pos h1]
    · by_cases h2 : x.kind = 2 ∧ p.kind = 2 ∧ p.level = x.level
      · have e : nstep (out ++ [p]) x = out ++ [{ p with text := p.text ++ x.text }] := by
          rw [nstep_join hl h2.1 (fun h => h1 ⟨h2.1, h⟩) h2.2.1 h2.2.2]
          simp
        rw [e, fold_normP l out _, normP, if_neg h1, if_pos h2]
      · rw [nstep_more hl h1 h2, fold_normP l (out ++ [p]) x, normP, if_neg h1, if_neg h2]
        simp
theorem normal_first {x : ItemD} {r : List ItemD} (h : x.kind = 1) : normalL (x :: r) = normP x r := by
  unfold normalL
  rw [List.foldl_cons, nstep_first (by rw [h]; simp)]
  exact fold_normP r [] x
theorem capC_more {c c' : Int} (h : c ≤ c') : ∀ {l : List ItemD}, capC c l → capC c' l
  | [], _ => trivial
  | _ :: _, hl => ⟨Int.le_trans hl.1 h, hl.2⟩
theorem normP_cap : ∀ (r : List ItemD) (p : ItemD) (c c' : Int), p.level ≤ c → c' ≤ cap p → capC c' r → capC c (normP p r)
  | [], p, c, c', h, _, _ => ⟨h, trivial⟩
  | x :: r, p, c, c', h, h', hr => by
    unfold normP
    split
    · rename_i h1
      refine normP_cap r p c (cap x) h ?_ hr.2
      have : cap x = x.level := by unfold cap; rw [if_pos h1.1]
      have := hr.1
      omega
    · split
      · rename_i h2
        refine normP_cap r _ c (cap x) h ?_ hr.2
        show cap x ≤ cap { p with text := _ }
        unfold cap
        rw [if_pos h2.1]
        show x.level ≤ (if p.kind = 2 then p.level else p.level + 1)
        rw [if_pos h2.2.1]; omega
      · exact ⟨h, normP_cap r x (cap p) (cap x) (by have := hr.1; omega) (Int.le_refl _) hr.2⟩
theorem normP_mem (P : Int → Prop) : ∀ (r : List ItemD) (p : ItemD), P p.level → (∀ y ∈ r, P y.level) → ∀ y ∈ normP p r, P y.level
  | [], p, hp, _, y, hy => by simp [normP] at hy; subst hy; exact hp
  | x :: r, p, hp, hr, y, hy => by
    unfold normP at hy
    split at hy
    · exact normP_mem P r p hp (fun z hz => hr z (by simp [hz])) y hy
    · split at hy
      · exact normP_mem P r { p with text := p.text ++ x.text } hp (fun z hz => hr z (by simp [hz])) y hy
      · rcases List.mem_cons.1 hy with rfl | hy
        · exact hp
        · exact normP_mem P r x (hr x (by simp)) (fun z hz => hr z (by simp [hz])) y hy
theorem normP_head : ∀ (r : List ItemD) (p : ItemD), p.kind = 1 → ∃ s, normP p r = p :: s ∧ ∀ (P : Int → Prop), (∀ y ∈ r, P y.level) → ∀ y ∈ s, P y.level
  | [], p, _ => ⟨[], rfl, fun _ _ _ h => by cases h⟩
  | x :: r, p, hp => by
    unfold normP
    split
    · obtain ⟨s, h1, h2⟩ := normP_head r p hp
      exact ⟨s, h1, fun P hP => h2 P (fun z hz => hP z (by simp [hz]))⟩
    · rw [if_neg (by rw [hp]; simp)]
      exact ⟨_, rfl, fun P hP => normP_mem P r x (hP x (by simp)) (fun z hz => hP z (by simp [hz]))⟩

/-- what a document is when it has been made normal -/
structure Shape (N : List ItemD) (x : ItemD) (s : List ItemD) : Prop where
  eq : N = x :: s
  level : x.level = 0
  kind : x.kind = 1
  cap : capC 0 N
  zero : ∀ y ∈ N, 0 ≤ y.level
  past : ∀ y ∈ s, 1 ≤ y.level
theorem Doc.normal {l : List ItemD} (h : Doc l) : ∃ x s, Shape (normalL l) x s := by
  obtain ⟨x, r, e, h0, h1⟩ := h.first
  have hc := h.cap
  have hb := h.below e
  subst e
  obtain ⟨s, e2, h2⟩ := normP_head r x h1
  refine ⟨x, s, by rw [normal_first h1]; exact e2, h0, h1, ?_, ?_, h2 (1 ≤ ·) hb⟩
  · rw [normal_first h1]
    exact normP_cap r x 0 (Go.Proofs.YtpfhdklbhhpbcaaDoor.cap x) (by omega) (Int.le_refl _) hc.1.2
  · rw [normal_first h1, e2]
    intro y hy
    rcases List.mem_cons.1 hy with rfl | hy
    · omega
    · have := h2 (1 ≤ ·) hb y hy; omega

/-! The document's way to print: what is open is closed ahead of what is not in it. -/
def closeT (n : List UInt8) : List UInt8 := [60, 47] ++ n ++ [62]
def pops (L : Int) : List (List UInt8) → List UInt8 × List (List UInt8)
  | [] => ([], [])
  | n :: o => if L < (o.length + 1 : Nat) then (closeT n ++ (pops L o).1, (pops L o).2) else ([], n :: o)
def leafB (x : ItemD) : List ItemD → Bool
  | [] => true
  | y :: _ => decide (y.level ≤ x.level)
def mach : List (List UInt8) → List ItemD → List UInt8
  | o, [] => o.flatMap closeT
  | o, x :: r => (pops x.level o).1 ++ (if x.kind = 2 then escT x.text ++ mach (pops x.level o).2 r
      else if leafB x r then tagL x ++ [47, 62] ++ mach (pops x.level o).2 r else tagL x ++ [62] ++ mach (x.name :: (pops x.level o).2) r)
theorem pops_none {L : Int} {o : List (List UInt8)} (h : (o.length : Int) ≤ L) : pops L o = ([], o) := by
  cases o with
  | nil => rfl
  | cons n o => unfold pops; rw [if_neg (by simp at h ⊢; omega)]
theorem mach_pop {n : List UInt8} {o : List (List UInt8)} {s : List ItemD} (h : ∀ y t, s = y :: t → y.level ≤ o.length) : mach (n :: o) s = closeT n ++ mach o s := by
  cases s with
  | nil => rfl
  | cons y t =>
    have := h y t rfl
    unfold mach
    have e : pops y.level (n :: o) = (closeT n ++ (pops y.level o).1, (pops y.level o).2) := by
      rw [pops, if_pos (by simp; omega)]
    rw [e]
    simp
theorem mach_text {o : List (List UInt8)} {x : ItemD} {r : List ItemD} (hl : (o.length : Int) ≤ x.level) (hk : x.kind = 2) : mach o (x :: r) = escT x.text ++ mach o r := by
  rw [mach, pops_none hl, if_pos hk]; rfl
theorem mach_leaf {o : List (List UInt8)} {x : ItemD} {r : List ItemD} (hl : (o.length : Int) ≤ x.level) (hk : x.kind ≠ 2) (h : leafB x r = true) : mach o (x :: r) = tagL x ++ [47, 62] ++ mach o r := by
  rw [mach, pops_none hl, if_neg hk, if_pos h]; rfl
theorem mach_open {o : List (List UInt8)} {x : ItemD} {r : List ItemD} (hl : (o.length : Int) ≤ x.level) (hk : x.kind ≠ 2) (h : leafB x r = false) : mach o (x :: r) = tagL x ++ [62] ++ mach (x.name :: o) r := by
  rw [mach, pops_none hl, if_neg hk, if_neg (by simp [h])]; rfl

theorem capC_split : ∀ (a b : List ItemD) (c : Int), capC c (a ++ b) → capC c a ∧ ∃ c', capC c' b
  | [], b, c, h => ⟨trivial, c, h⟩
  | x :: a, b, c, h => by
    obtain ⟨h1, c', h2⟩ := capC_split a b (cap x) h.2
    exact ⟨⟨h.1, h1⟩, c', h2⟩
theorem capC_head {c c' : Int} : ∀ {l : List ItemD}, capC c l → (∀ y t, l = y :: t → y.level ≤ c') → capC c' l
  | [], _, _ => trivial
  | y :: t, h, h' => ⟨h' y t rfl, h.2⟩
theorem kids_nil {c : Int} {r : List ItemD} (h : capC c r) : kidsOf c r = [] ∧ pastOf c r = r := by
  cases r with
  | nil => exact ⟨rfl, rfl⟩
  | cons y r =>
    have := h.1
    have hd : decide (c < y.level) = false := by simp; omega
    constructor
    · show List.takeWhile _ (y :: r) = []
      rw [List.takeWhile_cons, hd]; rfl
    · show List.dropWhile _ (y :: r) = _
      rw [List.dropWhile_cons, hd]; rfl

theorem mach_seg : ∀ (n : Nat) (b : List ItemD) (o : List (List UInt8)) (rest : List ItemD), b.length ≤ n → (∀ y ∈ b, (o.length : Int) ≤ y.level) → capC o.length b → (∀ y t, rest = y :: t → y.level ≤ o.length) → mach o (b ++ rest) = pr b ++ mach o rest := by
  intro n
  induction n with
  | zero =>
    intro b o rest hb _ _ _
    have : b = [] := List.eq_nil_of_length_eq_zero (by omega)
    subst this
    rw [pr_nil]; rfl
  | succ n ih =>
    intro b o rest hb hlow hcap hrest
    cases b with
    | nil => rw [pr_nil]; rfl
    | cons x r =>
      have hx1 := hlow x (by simp)
      have hx2 := hcap.1
      have hxl : x.level = o.length := by omega
      have hr := hcap.2
      have hlr : ∀ y ∈ r, (o.length : Int) ≤ y.level := fun y hy => hlow y (by simp [hy])
      have hbl : r.length ≤ n := by simp at hb; omega
      rw [pr_cons, List.cons_append]
      by_cases hk : x.kind = 2
      · have hcx : cap x = x.level := by unfold cap; rw [if_pos hk]
        rw [hcx] at hr
        obtain ⟨k1, k2⟩ := kids_nil hr
        have hr' : capC o.length r := by rw [← hxl]; exact hr
        rw [mach_text hx1 hk, ih r o rest hbl hlr hr' hrest, k1, k2]
        have : nodeL x [] (pr []) = escT x.text := by unfold nodeL; rw [if_pos hk]
        rw [this, List.append_assoc]
      · have hcx : cap x = x.level + 1 := by unfold cap; rw [if_neg hk]
        rw [hcx] at hr
        have hsplit := kids_past x.level r
        have hpast : ∀ y t, pastOf x.level r = y :: t → y.level ≤ x.level := fun y t h => past_head x.level r y t h
        have hpr : ∀ y t, pastOf x.level r ++ rest = y :: t → y.level ≤ (o.length : Int) := by
          intro y t h
          cases hp : pastOf x.level r with
          | nil => rw [hp] at h; exact hrest y t h
          | cons z s =>
            rw [hp] at h
            injection h with h1 _
            subst h1
            have := hpast z s hp
            omega
        rw [← hsplit] at hr
        obtain ⟨hc1, c', hc2⟩ := capC_split _ _ _ hr
        have hc2' : capC o.length (pastOf x.level r) := capC_head hc2 (fun y t h => by have := hpast y t h; omega)
        have hkl := kidsOf_le x.level r
        have hpl := pastOf_le x.level r
        have hlp : ∀ y ∈ pastOf x.level r, (o.length : Int) ≤ y.level := fun y hy => hlr y (by rw [← hsplit]; simp [hy])
        by_cases hkn : kidsOf x.level r = []
        · have hleaf : leafB x (r ++ rest) = true := by
            have e : r ++ rest = pastOf x.level r ++ rest := by
              conv => lhs; rw [← hsplit]
              rw [hkn]; rfl
            rw [e]
            cases hp : pastOf x.level r ++ rest with
            | nil => rfl
            | cons y t => have := hpr y t hp; show decide _ = true; simp; omega
          have e : r = pastOf x.level r := by
            conv => lhs; rw [← hsplit]
            rw [hkn]; rfl
          rw [mach_leaf hx1 hk hleaf, hkn]
          have : nodeL x [] (pr []) = tagL x ++ [47, 62] := by unfold nodeL; rw [if_neg hk, if_pos rfl]
          rw [this]
          conv => lhs; rw [e]
          rw [ih _ o rest (by omega) hlp hc2' hrest]
          simp
        · obtain ⟨y, t, hyt⟩ := List.exists_cons_of_ne_nil hkn
          have hyl : x.level < y.level := kids_mem x.level r y (by rw [hyt]; simp)
          have hleaf : leafB x (r ++ rest) = false := by
            have e : r ++ rest = y :: (t ++ (pastOf x.level r ++ rest)) := by
              conv => lhs; rw [← hsplit]
              rw [hyt]; simp
            rw [e]
            show decide _ = false
            simp; omega
          rw [mach_open hx1 hk hleaf]
          have e : r ++ rest = kidsOf x.level r ++ (pastOf x.level r ++ rest) := by
            conv => lhs; rw [← hsplit]
            rw [List.append_assoc]
          have hcl : ((x.name :: o).length : Int) = x.level + 1 := by simp; omega
          rw [e, ih (kidsOf x.level r) (x.name :: o) (pastOf x.level r ++ rest) (by omega)
            (fun z hz => by have := kids_mem x.level r z hz; omega) (by rw [hcl]; exact hc1)
            (fun z u h => by have := hpr z u h; omega)]
          rw [mach_pop hpr, ih (pastOf x.level r) o rest (by omega) hlp hc2' hrest]
          have : nodeL x (kidsOf x.level r) (pr (kidsOf x.level r)) = tagL x ++ [62] ++ pr (kidsOf x.level r) ++ closeT x.name := by
            unfold nodeL; rw [if_neg hk, if_neg hkn]; rfl
          rw [this]
          simp

theorem all_kids (c : Int) : ∀ (s : List ItemD), (∀ y ∈ s, c < y.level) → kidsOf c s = s ∧ pastOf c s = []
  | [], _ => ⟨rfl, rfl⟩
  | y :: s, h => by
    obtain ⟨h1, h2⟩ := all_kids c s (fun z hz => h z (by simp [hz]))
    have hd : decide (c < y.level) = true := by have := h y (by simp); simpa using this
    constructor
    · show List.takeWhile _ (y :: s) = _
      rw [List.takeWhile_cons, hd]
      show y :: kidsOf c s = _
      rw [h1]
    · show List.dropWhile _ (y :: s) = _
      rw [List.dropWhile_cons, hd]
      exact h2
theorem Shape.pr {N : List ItemD} {x : ItemD} {s : List ItemD} (h : Shape N x s) : pr N = nodeAt N 0 := by
  rw [h.eq, pr_cons]
  have hk : kidsOf x.level s = s ∧ pastOf x.level s = [] := all_kids x.level s (fun y hy => by have := h.past y hy; have := h.level; omega)
  rw [hk.2, pr_nil, List.append_nil]
  rfl
theorem Shape.mach {N : List ItemD} {x : ItemD} {s : List ItemD} (h : Shape N x s) : mach [] N = nodeAt N 0 := by
  have := mach_seg N.length N [] [] (Nat.le_refl _) (fun y hy => by have := h.zero y hy; simpa using this) (by simpa using h.cap) (fun y t h => by cases h)
  rw [List.append_nil] at this
  rw [this, ← h.pr]
  show Go.Proofs.YtpfhdklbhhpbcaaDoor.pr N ++ [] = _
  rw [List.append_nil]
end Go.Proofs.YtpfhdklbhhpbcaaDoor

/-
  The plain law of sizes: a document that was checked is printed in not many bytes. No program in sight.
-/
namespace Go.Proofs.YtpfhdklbhhpbcaaDoor

theorem charsF_le (f : Nat) : ∀ (l : List UInt8) (cs : List Int), charsF f l = some cs → cs.length ≤ l.length := by
  induction f with
  | zero =>
    intro l cs h
    unfold charsF at h
    split at h
    · injection h with h; subst h; simp
    · cases h
  | succ f ih =>
    intro l cs h
    unfold charsF at h
    split at h
    · injection h with h; subst h; simp
    · rename_i hl
      split at h
      · cases h
      · rename_i hn
        obtain ⟨ds, hd, rfl⟩ := Option.map_eq_some_iff.1 h
        have := ih _ _ hd
        have hp : 0 < l.length := List.length_pos_iff.2 hl
        rw [List.length_drop] at this
        rw [List.length_cons]; omega
theorem esc_fit (v : Bool) (l : List UInt8) : ((escL v l).getD []).length ≤ 6 * l.length := by
  unfold escL
  cases hc : charsL l with
  | none => simp
  | some cs =>
    have hl := charsF_le _ _ _ hc
    show (cs.flatMap (writtenL v)).length ≤ _
    have : ∀ cs : List Int, (cs.flatMap (writtenL v)).length ≤ 6 * cs.length := by
      intro cs
      induction cs with
      | nil => simp
      | cons c cs ih =>
        have h1 := writtenL_len v c
        simp only [List.flatMap_cons, List.length_append, List.length_cons]
        omega
    have := this cs
    omega

/-! What was checked is not long. -/
structure Fit (x : ItemD) : Prop where
  name : x.name.length ≤ 60
  attrs : x.attrs.length ≤ 20
  each : ∀ a ∈ x.attrs, a.name.length ≤ 60 ∧ a.value.length ≤ 1500
theorem nameL_len {l : List UInt8} (h : nameL l = true) : l.length ≤ 60 := by
  unfold nameL at h
  split at h
  · simp only [Bool.and_eq_true, decide_eq_true_eq] at h; exact h.1
  · cases h
theorem charsE_len {l : List UInt8} (h : charsE l = 0) : l.length ≤ 1500 := by
  unfold charsE at h
  split at h
  · omega
  · split at h
    · omega
    · omega
theorem attrNames_mem : ∀ (l : List AttrD) (last : List UInt8), attrNames last l = true → ∀ a ∈ l, a.name.length ≤ 60
  | [], _, _, _, h => by cases h
  | b :: l, last, h, a, ha => by
    simp only [attrNames, Bool.and_eq_true] at h
    rcases List.mem_cons.1 ha with rfl | ha
    · exact nameL_len h.1.1
    · exact attrNames_mem l b.name h.2 a ha
theorem valuesE_mem : ∀ (l : List AttrD), valuesE l = 0 → ∀ a ∈ l, a.value.length ≤ 1500
  | [], _, _, h => by cases h
  | b :: l, h, a, ha => by
    unfold valuesE at h
    by_cases h0 : charsE b.value = 0
    · rw [if_pos h0] at h
      rcases List.mem_cons.1 ha with rfl | ha
      · exact charsE_len h0
      · exact valuesE_mem l h a ha
    · rw [if_neg h0] at h; exact absurd h h0
theorem parts_fit {x : ItemD} (h : partsE x = 0) : Fit x ∧ x.text.length ≤ 1500 := by
  unfold partsE at h
  split at h
  · rename_i h1
    refine ⟨⟨by rw [h1.2.1]; simp, by rw [h1.2.2]; simp, by rw [h1.2.2]; simp⟩, charsE_len h⟩
  · split at h
    · omega
    · rename_i h2
      have ht : x.text = [] := Decidable.of_not_not fun h => h2 (.inr h)
      by_cases h3 : namesE x = 0
      · rw [if_pos h3] at h
        unfold namesE at h3
        by_cases h4 : (nameL x.name && attrNames [] x.attrs) = true
        · rw [if_pos h4] at h3
          simp only [Bool.and_eq_true] at h4
          refine ⟨⟨nameL_len h4.1, ?_, fun a ha => ⟨attrNames_mem _ _ h4.2 a ha, valuesE_mem _ h a ha⟩⟩, by rw [ht]; simp⟩
          by_cases h5 : 20 < x.attrs.length
          · rw [if_pos h5] at h3; cases h3
          · omega
        · rw [if_neg h4] at h3; cases h3
      · rw [if_neg h3] at h; exact absurd h h3
theorem attrs_fit : ∀ (l : List AttrD), (∀ a ∈ l, a.name.length ≤ 60 ∧ a.value.length ≤ 1500) → (l.flatMap attrT).length ≤ l.length * 9064
  | [], _ => by simp
  | a :: l, h => by
    have h1 := h a (by simp)
    have h2 := attrs_fit l (fun b hb => h b (by simp [hb]))
    have h3 : (escV a.value).length ≤ 6 * a.value.length := esc_fit true a.value
    simp only [List.flatMap_cons, List.length_append, List.length_cons, attrT]
    have e1 : ([] : List UInt8).length = 0 := rfl
    omega
theorem tag_fit {x : ItemD} (h : Fit x) : (tagL x).length ≤ 181341 := by
  have h1 := attrs_fit x.attrs h.each
  have h2 := h.attrs
  have h3 := h.name
  unfold tagL
  simp only [List.length_append, List.length_cons, List.length_nil]
  omega

/-- what an item costs -/
def cost (x : ItemD) : Nat := 6 * x.text.length + (tagL x).length + x.name.length + 6
theorem node_cost (x : ItemD) (k : List ItemD) (i : List UInt8) : (nodeL x k i).length ≤ cost x + i.length := by
  have := esc_fit false x.text
  unfold nodeL cost
  split
  · show (escT x.text).length ≤ _
    unfold escT; omega
  · split
    · simp; omega
    · simp; omega
theorem pr_cost : ∀ (n : Nat) (l : List ItemD), l.length ≤ n → (pr l).length ≤ (l.map cost).sum := by
  intro n
  induction n with
  | zero => intro l h; rw [List.eq_nil_of_length_eq_zero (by omega : l.length = 0), pr_nil]; simp
  | succ n ih =>
    intro l h
    cases l with
    | nil => rw [pr_nil]; simp
    | cons x r =>
      have hk := kidsOf_le x.level r
      have hp := pastOf_le x.level r
      simp at h
      have h1 := node_cost x (kidsOf x.level r) (pr (kidsOf x.level r))
      have h2 := ih (kidsOf x.level r) (by omega)
      have h3 := ih (pastOf x.level r) (by omega)
      have h4 := congrArg (fun l : List ItemD => (l.map cost).sum) (kids_past x.level r)
      simp only [List.map_append, List.sum_append] at h4
      rw [pr_cons, List.length_append, List.map_cons, List.sum_cons]
      omega

theorem textSum_set : ∀ (l : List ItemD) (i : Nat) (p q : ItemD), l[i]? = some p → textSum (l.set i q) + p.text.length = textSum l + q.text.length
  | [], _, _, _, h => by simp at h
  | x :: l, 0, p, q, h => by
    simp at h; subst h
    simp [textSum]; omega
  | x :: l, i + 1, p, q, h => by
    have := textSum_set l i p q (by simpa using h)
    simp only [textSum, List.set_cons_succ, List.map_cons, List.sum_cons] at this ⊢
    omega
theorem textSum_step (out : List ItemD) (x : ItemD) : textSum (nstep out x) ≤ textSum out + x.text.length := by
  unfold nstep
  split
  · omega
  · split
    · rw [textSum_snoc]
      exact Nat.le_refl _
    · rename_i p hp
      split
      · have := textSum_set out _ p { p with text := p.text ++ x.text } hp
        simp at this; omega
      · rw [textSum_snoc]
        exact Nat.le_refl _
theorem textSum_fold : ∀ (l out : List ItemD), textSum (l.foldl nstep out) ≤ textSum out + textSum l
  | [], out => by simp [textSum]
  | x :: l, out => by
    have h1 := textSum_fold l (nstep out x)
    have h2 := textSum_step out x
    have h3 : textSum (x :: l) = x.text.length + textSum l := by simp [textSum]
    rw [List.foldl_cons]
    omega
theorem cost_sum : ∀ (l : List ItemD), (∀ x ∈ l, Fit x) → (l.map cost).sum ≤ 6 * textSum l + l.length * 181407
  | [], _ => by simp
  | x :: l, h => by
    have h1 := cost_sum l (fun y hy => h y (by simp [hy]))
    have h2 := tag_fit (h x (by simp))
    have h3 := (h x (by simp)).name
    have h4 : textSum (x :: l) = x.text.length + textSum l := by simp [textSum]
    have h5 : cost x = 6 * x.text.length + (tagL x).length + x.name.length + 6 := rfl
    rw [List.map_cons, List.sum_cons, List.length_cons, h4]
    omega
theorem textSum_fit : ∀ (l : List ItemD), (∀ x ∈ l, x.text.length ≤ 1500) → textSum l ≤ l.length * 1500
  | [], _ => by simp [textSum]
  | x :: l, h => by
    have h1 := textSum_fit l (fun y hy => h y (by simp [hy]))
    have h2 := h x (by simp)
    have h4 : textSum (x :: l) = x.text.length + textSum l := by simp [textSum]
    rw [h4, List.length_cons]; omega

theorem Doc.parts {l : List ItemD} (h : Doc l) : ∀ x ∈ l, Fit x ∧ x.text.length ≤ 1500 := fun x hx => by
  obtain ⟨k, hk⟩ := List.mem_iff_getElem?.1 hx
  exact parts_fit (oneE_zero (h.one k x hk)).2
theorem Doc.fits {l : List ItemD} (h : Doc l) : (∀ x ∈ normalL l, Fit x) ∧ (normalL l).length ≤ 1000 ∧ textSum (normalL l) ≤ 1500000 := by
  have hp := h.parts
  have hm := h.many
  have h1 := normal_fold_mem Fit l [] 0 (fun _ h => by cases h) (fun x hx => ⟨(hp x hx).1.name, (hp x hx).1.attrs, (hp x hx).1.each⟩)
  have h2 := textSum_fold l []
  have h3 := textSum_fit l (fun x hx => (hp x hx).2)
  refine ⟨fun x hx => ?_, Nat.le_trans h1.2 (by simpa using hm), ?_⟩
  · have := (h1.1 x hx).1
    exact ⟨this.name, this.attrs, this.each⟩
  · have e : textSum ([] : List ItemD) = 0 := rfl
    show textSum (l.foldl nstep []) ≤ _
    omega
theorem Doc.small {l : List ItemD} (h : Doc l) : (nodeAt (normalL l) 0).length ≤ 250000000 := by
  obtain ⟨x, s, hs⟩ := h.normal
  obtain ⟨f1, f2, f3⟩ := h.fits
  rw [← hs.pr]
  have h1 := pr_cost _ (normalL l) (Nat.le_refl _)
  have h2 := cost_sum _ f1
  omega
end Go.Proofs.YtpfhdklbhhpbcaaDoor

/-
  The plain law: what is normal is made normal as it is. No program in sight.
-/
namespace Go.Proofs.YtpfhdklbhhpbcaaDoor

def voidB (x : ItemD) : Prop := x.kind = 2 ∧ x.text = []
def joinB (p x : ItemD) : Prop := x.kind = 2 ∧ p.kind = 2 ∧ p.level = x.level
def nfP (p : ItemD) : List ItemD → Prop
  | [] => True
  | x :: r => ¬ voidB x ∧ ¬ joinB p x ∧ nfP x r
def NF : List ItemD → Prop
  | [] => True
  | x :: r => ¬ voidB x ∧ nfP x r
theorem normP_nf : ∀ (r : List ItemD) (p : ItemD), ¬ voidB p → ∃ q s, normP p r = q :: s ∧ q.level = p.level ∧ q.kind = p.kind ∧ NF (q :: s)
  | [], p, hp => ⟨p, [], rfl, rfl, rfl, hp, trivial⟩
  | x :: r, p, hp => by
    unfold normP
    by_cases h1 : x.kind = 2 ∧ x.text = []
    · rw [if_pos h1]; exact normP_nf r p hp
    · rw [if_neg h1]
      by_cases h2 : x.kind = 2 ∧ p.kind = 2 ∧ p.level = x.level
      · rw [if_pos h2]
        have hne : ¬ voidB { p with text := p.text ++ x.text } := fun h => by
          have := h.2
          simp at this
          exact h1 ⟨h2.1, this.2⟩
        exact normP_nf r { p with text := p.text ++ x.text } hne
      · rw [if_neg h2]
        obtain ⟨q, s, e, k1, k2, k3⟩ := normP_nf r x h1
        refine ⟨p, normP x r, rfl, rfl, rfl, hp, ?_⟩
        rw [e]
        refine ⟨k3.1, fun h => h2 ?_, k3.2⟩
        exact ⟨by rw [← k2]; exact h.1, h.2.1, by rw [← k1]; exact h.2.2⟩
theorem normP_id : ∀ (r : List ItemD) (p : ItemD), nfP p r → normP p r = p :: r
  | [], _, _ => rfl
  | x :: r, p, h => by
    unfold normP
    have h1 : ¬ (x.kind = 2 ∧ x.text = []) := h.1
    have h2 : ¬ (x.kind = 2 ∧ p.kind = 2 ∧ p.level = x.level) := h.2.1
    rw [if_neg h1, if_neg h2, normP_id r x h.2.2]
theorem normal_cases : ∀ (l : List ItemD), normalL l = [] ∨ ∃ x r, ¬ voidB x ∧ normalL l = normP x r
  | [] => .inl rfl
  | x :: l => by
    by_cases h : x.kind = 2 ∧ x.text = []
    · have e : normalL (x :: l) = normalL l := by unfold normalL; rw [List.foldl_cons, nstep_void h.1 h.2]
      rw [e]; exact normal_cases l
    · refine .inr ⟨x, l, h, ?_⟩
      unfold normalL
      rw [List.foldl_cons, nstep_first h]
      exact fold_normP l [] x
theorem normal_nf (l : List ItemD) : NF (normalL l) := by
  rcases normal_cases l with h | ⟨x, r, h1, h2⟩
  · rw [h]; trivial
  · obtain ⟨q, s, e, _, _, h3⟩ := normP_nf r x h1
    rw [h2, e]; exact h3
theorem nf_normal : ∀ (N : List ItemD), NF N → normalL N = N
  | [], _ => rfl
  | x :: r, h => by
    have e : normalL (x :: r) = normP x r := by
      unfold normalL
      rw [List.foldl_cons, nstep_first h.1]
      exact fold_normP r [] x
    rw [e, normP_id r x h.2]
theorem normal_idem (l : List ItemD) : normalL (normalL l) = normalL l := nf_normal _ (normal_nf l)

theorem normal_smallDoc {l : List ItemD} (h : SmallDoc l) : SmallDoc (normalL l) := by
  have h1 := textSum_fold l []
  have e : textSum ([] : List ItemD) = 0 := rfl
  exact ⟨normal_small h, by show textSum (l.foldl nstep []) ≤ _; have := h.2; omega⟩
end Go.Proofs.YtpfhdklbhhpbcaaDoor

/-
  Plain laws of escapes: what is made of two texts; what is undone. No program in sight.
-/
namespace Go.Proofs.YtpfhdklbhhpbcaaDoor

/-! ### Characters and their bytes -/
theorem enc_ne (c : Int) : enc c ≠ [] := by
  unfold enc
  repeat (first | split | simp)

theorem bt_u8 (n : Int) (h0 : 0 ≤ n) (h1 : n < 256) : ((bt n).toNat : Int) = n := bt_toNat n h0 h1

/-- a character's bytes, with whatever behind, begin with it -/
theorem next_enc (c : Int) (hc : charB c = true) (r : List UInt8) : nextL (enc c ++ r) = (c, (enc c).length) := by
  have hb := charB_bd hc
  rcases (by omega : c < 128 ∨ (128 ≤ c ∧ c < 2048) ∨ (2048 ≤ c ∧ c < 65536) ∨ 65536 ≤ c) with h | ⟨h, h'⟩ | ⟨h, h'⟩ | h
  · have he : enc c = [bt c] := by unfold enc; rw [if_pos h]
    have h1 := bt_u8 c (by omega) (by omega)
    rw [he]
    show nextL (bt c :: r) = _
    simp only [nextL, h1]
    have e1 : headN c = 1 := by unfold headN; rw [if_pos h]
    have e2 : headC c = c := by unfold headC; rw [if_pos h]
    rw [e1, e2]
    simp [foldC, hc, he]
  · have he : enc c = [bt (192 + c / 64), bt (128 + c % 64)] := by unfold enc; rw [if_neg (by omega), if_pos (by omega)]
    have h1 := bt_u8 (192 + c / 64) (by omega) (by omega)
    have h2 := bt_u8 (128 + c % 64) (by omega) (by omega)
    rw [he]
    show nextL (bt (192 + c / 64) :: bt (128 + c % 64) :: r) = _
    simp only [nextL, h1]
    have e1 : headN (192 + c / 64) = 2 := by unfold headN; repeat (first | rw [if_pos (by omega)] | rw [if_neg (by omega)])
    have e2 : headC (192 + c / 64) = c / 64 := by unfold headC; repeat (first | rw [if_pos (by omega)] | rw [if_neg (by omega)]); omega
    rw [e1, e2]
    have e3 : foldC (c / 64) [bt (128 + c % 64)] = c := by simp only [foldC, List.foldl]; rw [h2]; omega
    have e4 : contB (bt (128 + c % 64)) = true := by unfold contB; rw [h2]; simp; omega
    simp [e3, e4, hc, he]
  · have he : enc c = [bt (224 + c / 4096), bt (128 + c / 64 % 64), bt (128 + c % 64)] := by unfold enc; rw [if_neg (by omega), if_neg (by omega), if_pos (by omega)]
    have h1 := bt_u8 (224 + c / 4096) (by omega) (by omega)
    have h2 := bt_u8 (128 + c / 64 % 64) (by omega) (by omega)
    have h3 := bt_u8 (128 + c % 64) (by omega) (by omega)
    rw [he]
    show nextL (bt (224 + c / 4096) :: bt (128 + c / 64 % 64) :: bt (128 + c % 64) :: r) = _
    simp only [nextL, h1]
    have e1 : headN (224 + c / 4096) = 3 := by unfold headN; repeat (first | rw [if_pos (by omega)] | rw [if_neg (by omega)])
    have e2 : headC (224 + c / 4096) = c / 4096 := by unfold headC; repeat (first | rw [if_pos (by omega)] | rw [if_neg (by omega)]); omega
    rw [e1, e2]
    have e3 : foldC (c / 4096) [bt (128 + c / 64 % 64), bt (128 + c % 64)] = c := by simp only [foldC, List.foldl]; rw [h2, h3]; omega
    have e4 : contB (bt (128 + c / 64 % 64)) = true := by unfold contB; rw [h2]; simp; omega
    have e5 : contB (bt (128 + c % 64)) = true := by unfold contB; rw [h3]; simp; omega
    simp [e3, e4, e5, hc, he]
  · have he : enc c = [bt (240 + c / 262144), bt (128 + c / 4096 % 64), bt (128 + c / 64 % 64), bt (128 + c % 64)] := by unfold enc; rw [if_neg (by omega), if_neg (by omega), if_neg (by omega)]
    have h1 := bt_u8 (240 + c / 262144) (by omega) (by omega)
    have h2 := bt_u8 (128 + c / 4096 % 64) (by omega) (by omega)
    have h3 := bt_u8 (128 + c / 64 % 64) (by omega) (by omega)
    have h4 := bt_u8 (128 + c % 64) (by omega) (by omega)
    rw [he]
    show nextL (bt (240 + c / 262144) :: bt (128 + c / 4096 % 64) :: bt (128 + c / 64 % 64) :: bt (128 + c % 64) :: r) = _
    simp only [nextL, h1]
    have e1 : headN (240 + c / 262144) = 4 := by unfold headN; repeat (first | rw [if_pos (by omega)] | rw [if_neg (by omega)])
    have e2 : headC (240 + c / 262144) = c / 262144 := by unfold headC; repeat (first | rw [if_pos (by omega)] | rw [if_neg (by omega)]); omega
    rw [e1, e2]
    have e3 : foldC (c / 262144) [bt (128 + c / 4096 % 64), bt (128 + c / 64 % 64), bt (128 + c % 64)] = c := by simp only [foldC, List.foldl]; rw [h2, h3, h4]; omega
    have e4 : contB (bt (128 + c / 4096 % 64)) = true := by unfold contB; rw [h2]; simp; omega
    have e5 : contB (bt (128 + c / 64 % 64)) = true := by unfold contB; rw [h3]; simp; omega
    have e6 : contB (bt (128 + c % 64)) = true := by unfold contB; rw [h4]; simp; omega
    simp [e3, e4, e5, e6, hc, he]

/-- what is told to begin a text is a character, and its bytes begin the text -/
theorem next_back (l : List UInt8) (c : Int) (n : Nat) (h : nextL l = (c, n)) (hn : n ≠ 0) : charB c = true ∧ l = enc c ++ l.drop n ∧ n = (enc c).length := by
  cases l with
  | nil =>
    have h2 : (0 : Nat) = n := congrArg Prod.snd h
    omega
  | cons b t =>
    simp only [nextL] at h
    split at h
    · injection h with _ h; omega
    · rename_i h0
      split at h
      · injection h with _ h; omega
      · rename_i hlen
        split at h
        · rename_i hg
          injection h with h1 h2
          rw [h1] at hg
          simp only [Bool.and_eq_true] at hg
          have he := eq_of_beq hg.2.2
          rw [h2] at he
          have hl : (enc c).length = n := by rw [he, List.length_cons, List.length_take]; omega
          refine ⟨hg.2.1, ?_, hl.symm⟩
          rw [he]
          obtain ⟨m, rfl⟩ : ∃ m, n = m + 1 := ⟨n - 1, by omega⟩
          simp
        · injection h with _ h; omega

/-- a text is made of characters just if it is their bytes, one behind the other -/
theorem chars_enc (cs : List Int) (h : cs.all charB = true) : charsL (cs.flatMap enc) = some cs := by
  induction cs with
  | nil => rfl
  | cons c cs ih =>
    simp only [List.all_cons, Bool.and_eq_true] at h
    have hn := next_enc c h.1 (cs.flatMap enc)
    have hne : enc c ≠ [] := enc_ne c
    rw [List.flatMap_cons, charsL_step _ (by simp [hne]) (by rw [hn]; simpa using hne), hn]
    simp [ih h.2]

theorem chars_back (l : List UInt8) (cs : List Int) (h : charsL l = some cs) : l = cs.flatMap enc ∧ cs.all charB = true := by
  have key : ∀ f (l : List UInt8) cs, l.length ≤ f → charsL l = some cs → l = cs.flatMap enc ∧ cs.all charB = true := by
    intro f
    induction f with
    | zero =>
      intro l cs hl h
      obtain rfl : l = [] := List.eq_nil_of_length_eq_zero (by omega)
      rw [charsL_nil] at h; injection h with h; subst h; exact ⟨rfl, rfl⟩
    | succ f ih =>
      intro l cs hl h
      by_cases hnil : l = []
      · subst hnil; rw [charsL_nil] at h; injection h with h; subst h; exact ⟨rfl, rfl⟩
      · by_cases hn : (nextL l).2 = 0
        · rw [charsL_bad l hnil hn] at h; cases h
        · rw [charsL_step l hnil hn] at h
          obtain ⟨c, n, hq⟩ : ∃ c n, nextL l = (c, n) := ⟨_, _, rfl⟩
          rw [hq] at hn h
          simp only at hn h
          obtain ⟨hc, he, hlen⟩ := next_back l c n hq hn
          cases hr : charsL (l.drop n) with
          | none => rw [hr] at h; cases h
          | some ds =>
            rw [hr] at h
            injection h with h
            have hp : 0 < l.length := List.length_pos_iff.2 hnil
            obtain ⟨h1, h2⟩ := ih _ ds (by rw [List.length_drop]; omega) hr
            subst h
            refine ⟨?_, ?_⟩
            · rw [List.flatMap_cons, ← h1]; exact he
            · rw [List.all_cons, hc, h2]; rfl
  exact key l.length l cs (Nat.le_refl _) h

theorem chars_append (a b : List UInt8) (cs ds : List Int) (ha : charsL a = some cs) (hb : charsL b = some ds) : charsL (a ++ b) = some (cs ++ ds) := by
  obtain ⟨h1, h2⟩ := chars_back a cs ha
  obtain ⟨h3, h4⟩ := chars_back b ds hb
  rw [h1, h3, ← List.flatMap_append]
  exact chars_enc _ (by rw [List.all_append, h2, h4]; rfl)

/-- what is made of two texts is what is made of each -/
theorem esc_append (v : Bool) (a b x y : List UInt8) (ha : escL v a = some x) (hb : escL v b = some y) : escL v (a ++ b) = some (x ++ y) := by
  unfold escL at *
  cases hca : charsL a with
  | none => rw [hca] at ha; cases ha
  | some cs =>
    cases hcb : charsL b with
    | none => rw [hcb] at hb; cases hb
    | some ds =>
      rw [hca] at ha; rw [hcb] at hb
      injection ha with ha; injection hb with hb
      subst ha; subst hb
      rw [chars_append a b cs ds hca hcb]
      simp

/-! ### What was escaped has none of the characters that mean something -/
def plainB (x : UInt8) : Bool := !(x == 60 || x == 62 || x == 34 || x == 9 || x == 10 || x == 13)

theorem bt_plain (n : Int) (h0 : 128 ≤ n) (h1 : n < 256) : plainB (bt n) = true := by
  have h := bt_u8 n (by omega) h1
  have key : ∀ k : UInt8, k.toNat < 128 → (bt n == k) = false := fun k hk => by
    cases hh : (bt n == k) with
    | false => rfl
    | true => have := eq_of_beq hh; rw [this] at h; omega
  unfold plainB
  rw [key 60 (by decide), key 62 (by decide), key 34 (by decide), key 9 (by decide), key 10 (by decide), key 13 (by decide)]
  rfl

theorem putF_plain (c : Int) (h0 : 0 ≤ c) (h : c ≠ 60 ∧ c ≠ 62 ∧ c ≠ 34 ∧ c ≠ 9 ∧ c ≠ 10 ∧ c ≠ 13) : (putF c).all plainB = true := by
  unfold putF
  split
  · rename_i hc
    have hb := charB_bd hc
    unfold enc
    split
    · rename_i h128
      have hx := bt_u8 c h0 (by omega)
      have key : ∀ k : UInt8, (k.toNat : Int) ≠ c → (bt c == k) = false := fun k hk => by
        cases hh : (bt c == k) with
        | false => rfl
        | true => have := eq_of_beq hh; rw [this] at hx; omega
      have : plainB (bt c) = true := by
        unfold plainB
        rw [key 60 (fun h' => h.1 h'.symm), key 62 (fun h' => h.2.1 h'.symm), key 34 (fun h' => h.2.2.1 h'.symm), key 9 (fun h' => h.2.2.2.1 h'.symm), key 10 (fun h' => h.2.2.2.2.1 h'.symm), key 13 (fun h' => h.2.2.2.2.2 h'.symm)]
        rfl
      simp [this]
    · split
      · simp only [List.all_cons, List.all_nil, bt_plain (192 + c / 64) (by omega) (by omega), bt_plain (128 + c % 64) (by omega) (by omega)]; rfl
      · split
        · simp only [List.all_cons, List.all_nil, bt_plain (224 + c / 4096) (by omega) (by omega), bt_plain (128 + c / 64 % 64) (by omega) (by omega), bt_plain (128 + c % 64) (by omega) (by omega)]; rfl
        · simp only [List.all_cons, List.all_nil, bt_plain (240 + c / 262144) (by omega) (by omega), bt_plain (128 + c / 4096 % 64) (by omega) (by omega), bt_plain (128 + c / 64 % 64) (by omega) (by omega), bt_plain (128 + c % 64) (by omega) (by omega)]; rfl
  · rfl

theorem written_plain (c : Int) (h0 : 0 ≤ c) : (writtenL true c).all plainB = true := by
  unfold writtenL
  split
  · decide
  split
  · decide
  split
  · decide
  split
  · decide
  split
  · decide
  split
  · decide
  split
  · decide
  · rename_i h1 h2 h3 h4 h5 h6 h7
    exact putF_plain c h0 ⟨h5, h6, fun h => h7 ⟨h, rfl⟩, fun h => h2 ⟨h, rfl⟩, fun h => h3 ⟨h, rfl⟩, h1⟩

theorem esc_plain (l o : List UInt8) (h : escL true l = some o) : o.all plainB = true := by
  unfold escL at h
  cases hc : charsL l with
  | none => rw [hc] at h; cases h
  | some cs =>
    rw [hc] at h
    injection h with h
    subst h
    obtain ⟨_, hall⟩ := chars_back l cs hc
    rw [List.all_flatMap, List.all_eq_true]
    intro c hcm
    rw [List.all_eq_true] at hall
    exact written_plain c (by have := charB_bd (hall c hcm); omega)

/-! ### What was escaped is no shorter -/
theorem written_longer (c : Int) (hc : charB c = true) : (enc c).length ≤ (writtenL false c).length ∧ (writtenL false c).length ≤ (writtenL true c).length := by
  have hp : putF c = enc c := by unfold putF; rw [if_pos hc]
  have e1 : ∀ k : Int, k < 128 → (enc k).length = 1 := fun k hk => by unfold enc; rw [if_pos hk]; rfl
  unfold writtenL
  by_cases h13 : c = 13
  · subst h13; simp [e1]
  by_cases h9 : c = 9
  · subst h9; simp [hp, e1]
  by_cases h10 : c = 10
  · subst h10; simp [hp, e1]
  by_cases h38 : c = 38
  · subst h38; simp [e1]
  by_cases h60 : c = 60
  · subst h60; simp [e1]
  by_cases h62 : c = 62
  · subst h62; simp [e1]
  by_cases h34 : c = 34
  · subst h34; simp [hp, e1]
  · simp [h13, h9, h10, h38, h60, h62, h34, hp]

theorem flat_le (f g : Int → List UInt8) (cs : List Int) (h : ∀ c ∈ cs, (f c).length ≤ (g c).length) : (cs.flatMap f).length ≤ (cs.flatMap g).length := by
  induction cs with
  | nil => simp
  | cons c cs ih =>
    simp only [List.flatMap_cons, List.length_append]
    have := h c (by simp)
    have := ih (fun c hc => h c (by simp [hc]))
    omega

theorem esc_longer (l a b : List UInt8) (ha : escL false l = some a) (hb : escL true l = some b) : l.length ≤ a.length ∧ a.length ≤ b.length := by
  unfold escL at ha hb
  cases hc : charsL l with
  | none => rw [hc] at ha; cases ha
  | some cs =>
    rw [hc] at ha hb
    injection ha with ha; injection hb with hb
    subst ha; subst hb
    obtain ⟨hl, hall⟩ := chars_back l cs hc
    rw [List.all_eq_true] at hall
    refine ⟨?_, flat_le _ _ cs fun c hcm => (written_longer c (hall c hcm)).2⟩
    rw [hl]
    exact flat_le _ _ cs fun c hcm => (written_longer c (hall c hcm)).1

/-! ### What was escaped is undone to what it was -/
theorem undo_enc (v : Bool) (c : Int) (hc : charB c = true) (r : List UInt8) : stepL v (writtenL v c ++ r) = .inr (enc c, (writtenL v c).length) := by
  have hp : putF c = enc c := by unfold putF; rw [if_pos hc]
  have amp : ∀ (t : List UInt8) (k : Int) (n : Nat), refL (38 :: t) = (k, n) → n ≠ 0 → charB k = true → stepL v (38 :: t) = .inr (enc k, n) := by
    intro t k n h hn hk
    have h38 : nextL (38 :: t) = (38, 1) := next_enc 38 (by decide) t
    simp only [stepL, h38]
    rw [if_neg (by omega), if_neg (by omega)]
    simp only [if_true, h, if_neg hn, hk]
    rw [if_neg (by decide)]
    have : putF k = enc k := by unfold putF; rw [if_pos hk]
    rw [this]
  have lit : ∀ (p : List UInt8) (k : Int) (t : List UInt8), p = 38 :: t → charB k = true → (∀ r, refL (p ++ r) = (k, p.length)) → stepL v (p ++ r) = .inr (enc k, p.length) := by
    intro p k t hp hk h
    have := h r
    rw [hp] at this ⊢
    exact amp _ k _ this (by simp) hk
  unfold writtenL
  by_cases h13 : c = 13
  · subst h13; rw [if_pos rfl]; exact lit _ 13 _ rfl hc (fun r => by rfl)
  rw [if_neg h13]
  by_cases h9 : c = 9 ∧ v = true
  · obtain ⟨rfl, _⟩ := h9; rw [if_pos ⟨rfl, by assumption⟩]; exact lit _ 9 _ rfl hc (fun r => by rfl)
  rw [if_neg h9]
  by_cases h10 : c = 10 ∧ v = true
  · obtain ⟨rfl, _⟩ := h10; rw [if_pos ⟨rfl, by assumption⟩]; exact lit _ 10 _ rfl hc (fun r => by rfl)
  rw [if_neg h10]
  by_cases h38 : c = 38
  · subst h38; rw [if_pos rfl]; exact lit _ 38 _ rfl hc (fun r => by rfl)
  rw [if_neg h38]
  by_cases h60 : c = 60
  · subst h60; rw [if_pos rfl]; exact lit _ 60 _ rfl hc (fun r => by rfl)
  rw [if_neg h60]
  by_cases h62 : c = 62
  · subst h62; rw [if_pos rfl]; exact lit _ 62 _ rfl hc (fun r => by rfl)
  rw [if_neg h62]
  by_cases h34 : c = 34 ∧ v = true
  · obtain ⟨rfl, _⟩ := h34; rw [if_pos ⟨rfl, by assumption⟩]; exact lit _ 34 _ rfl hc (fun r => by rfl)
  rw [if_neg h34, hp]
  have hn := next_enc c hc r
  have hl : (enc c).length ≠ 0 := by simpa using enc_ne c
  simp only [stepL, hn]
  rw [if_neg (by rintro ⟨_, h⟩; omega), if_neg]
  · simp only [if_neg h38, if_neg hl, hc]
    rw [if_neg (by decide), hp]
  · rintro (h | h | ⟨hv, h | h | h⟩)
    · exact hl h
    · exact h13 h
    · exact h34 ⟨h, hv⟩
    · exact h9 ⟨h, hv⟩
    · exact h10 ⟨h, hv⟩

theorem written_ne (v : Bool) (c : Int) (hc : charB c = true) : writtenL v c ≠ [] := by
  have hp : putF c = enc c := by unfold putF; rw [if_pos hc]
  have := enc_ne c
  unfold writtenL
  repeat (first | split | simp | (rw [hp]; exact this))

theorem undo_flat (v : Bool) (cs : List Int) (h : cs.all charB = true) : undoL v (cs.flatMap (writtenL v)) = (cs.flatMap enc, (cs.flatMap (writtenL v)).length, 0) := by
  induction cs with
  | nil => rfl
  | cons c cs ih =>
    simp only [List.all_cons, Bool.and_eq_true] at h
    have hs := undo_enc v c h.1 (cs.flatMap (writtenL v))
    rw [List.flatMap_cons, undoL_step v _ (by simp [written_ne v c h.1]) _ _ hs, List.drop_left, ih h.2]
    simp [joinU]

theorem undo_esc (v : Bool) (l o : List UInt8) (h : escL v l = some o) : undoL v o = (l, o.length, 0) := by
  unfold escL at h
  cases hc : charsL l with
  | none => rw [hc] at h; cases h
  | some cs =>
    rw [hc] at h
    injection h with h
    subst h
    obtain ⟨hl, hall⟩ := chars_back l cs hc
    rw [undo_flat v cs hall, ← hl]
end Go.Proofs.YtpfhdklbhhpbcaaDoor

/-
  The plain law: what is printed tells what was printed. No program in sight.
-/
namespace Go.Proofs.YtpfhdklbhhpbcaaDoor

/-! Bytes. -/
theorem enc_low {c : Int} (h : c < 128) : enc c = [bt c] := by unfold enc; rw [if_pos h]
theorem enc_high {c : Int} (hc : charB c = true) (h : 128 ≤ c) : ∀ b ∈ enc c, 128 ≤ b.toNat := by
  have hb := charB_bd hc
  have key : ∀ n : Int, 128 ≤ n → n < 256 → 128 ≤ (bt n).toNat := fun n h1 h2 => by have := bt_toNat n (by omega) h2; omega
  intro b hm
  unfold enc at hm
  rw [if_neg (by omega)] at hm
  split at hm
  · simp at hm; rcases hm with rfl | rfl <;> exact key _ (by omega) (by omega)
  · split at hm
    · simp at hm; rcases hm with rfl | rfl | rfl <;> exact key _ (by omega) (by omega)
    · simp at hm; rcases hm with rfl | rfl | rfl | rfl <;> exact key _ (by omega) (by omega)
/-- a byte that may be in a name -/
def nb (b : UInt8) : Bool := !(b == 9 || b == 10 || b == 32 || b == 34 || b == 47 || b == 60 || b == 61 || b == 62)
theorem nb_high {b : UInt8} (h : 128 ≤ b.toNat) : nb b = true := by
  have key : ∀ k : UInt8, k.toNat < 128 → (b == k) = false := fun k hk => by
    simp only [beq_eq_false_iff_ne]
    intro e; subst e; omega
  unfold nb
  rw [key 9 (by decide), key 10 (by decide), key 32 (by decide), key 34 (by decide), key 47 (by decide), key 60 (by decide), key 61 (by decide), key 62 (by decide)]
  rfl
theorem bt_ne (c : Int) (k : UInt8) (h0 : 0 ≤ c) (h1 : c < 128) (h : c ≠ k.toNat) : (bt c == k) = false := by
  simp only [beq_eq_false_iff_ne]
  intro e
  have := bt_toNat c h0 (by omega)
  rw [e] at this; omega
theorem part_bytes {c : Int} (hc : charB c = true) (hp : partB c = true) : (enc c).all nb = true := by
  by_cases h : c < 128
  · have hb := charB_bd hc
    have : c ≠ 9 ∧ c ≠ 10 ∧ c ≠ 32 ∧ c ≠ 34 ∧ c ≠ 47 ∧ c ≠ 60 ∧ c ≠ 61 ∧ c ≠ 62 := by
      simp [partB, startB] at hp; omega
    rw [enc_low h]
    simp only [List.all_cons, List.all_nil, Bool.and_true]
    unfold nb
    rw [bt_ne c 9 (by omega) h (by simpa using this.1), bt_ne c 10 (by omega) h (by simpa using this.2.1), bt_ne c 32 (by omega) h (by simpa using this.2.2.1), bt_ne c 34 (by omega) h (by simpa using this.2.2.2.1),
      bt_ne c 47 (by omega) h (by simpa using this.2.2.2.2.1), bt_ne c 60 (by omega) h (by simpa using this.2.2.2.2.2.1), bt_ne c 61 (by omega) h (by simpa using this.2.2.2.2.2.2.1), bt_ne c 62 (by omega) h (by simpa using this.2.2.2.2.2.2.2)]
    rfl
  · rw [List.all_eq_true]
    exact fun b hb => nb_high (enc_high hc (by omega) b hb)
theorem name_bytes {s : List UInt8} (h : nameL s = true) : s ≠ [] ∧ s.all nb = true := by
  unfold nameL at h
  split at h
  · rename_i c cs hcs
    simp only [Bool.and_eq_true, decide_eq_true_eq] at h
    obtain ⟨hs, hall⟩ := chars_back s _ hcs
    refine ⟨(fun e => by rw [e] at hcs; cases hcs), ?_⟩
    rw [hs, List.all_flatMap]
    rw [List.all_eq_true] at hall ⊢
    intro d hd
    refine part_bytes (hall d hd) ?_
    rcases List.mem_cons.1 hd with rfl | hd
    · exact h.2.2.1
    · exact List.all_eq_true.1 h.2.2.2 d hd
  · cases h
theorem written_text (c : Int) (hc : charB c = true) : ∀ b ∈ writtenL false c, b ≠ 60 := by
  intro b hb
  unfold writtenL at hb
  split at hb
  · simp at hb; rcases hb with rfl | rfl | rfl | rfl | rfl <;> decide
  · rw [if_neg (by simp), if_neg (by simp)] at hb
    split at hb
    · simp at hb; rcases hb with rfl | rfl | rfl | rfl | rfl <;> decide
    · split at hb
      · simp at hb; rcases hb with rfl | rfl | rfl | rfl <;> decide
      · rename_i h60
        split at hb
        · simp at hb; rcases hb with rfl | rfl | rfl | rfl <;> decide
        · rw [if_neg (by simp)] at hb
          unfold putF at hb
          rw [if_pos hc] at hb
          have hbd := charB_bd hc
          by_cases h : c < 128
          · rw [enc_low h] at hb
            simp at hb; subst hb
            have := bt_ne c 60 (by omega) h (by simpa using h60)
            simpa using this
          · have := enc_high hc (by omega) b hb
            intro e; subst e; revert this; decide
theorem esc_text {t o : List UInt8} (h : escL false t = some o) : ∀ b ∈ o, b ≠ 60 := by
  unfold escL at h
  obtain ⟨cs, hcs, rfl⟩ := Option.map_eq_some_iff.1 h
  intro b hb
  obtain ⟨c, hc, hb⟩ := List.mem_flatMap.1 hb
  exact written_text c (List.all_eq_true.1 (chars_back t cs hcs).2 c hc) b hb
theorem esc_value {t o : List UInt8} (h : escL true t = some o) : ∀ b ∈ o, b ≠ 34 := by
  have := esc_plain t o h
  rw [List.all_eq_true] at this
  intro b hb e
  subst e
  have := this _ hb
  revert this; decide
theorem esc_inj {v : Bool} {s t o : List UInt8} (h1 : escL v s = some o) (h2 : escL v t = some o) : s = t := by
  have a := undo_esc v s o h1
  have b := undo_esc v t o h2
  rw [a] at b
  injection b

/-! Taking apart. -/
theorem span_eq (p : UInt8 → Prop) : ∀ (a b r s : List UInt8), (∀ x ∈ a, p x) → (∀ x ∈ b, p x) → (∀ x t, r = x :: t → ¬ p x) → (∀ x t, s = x :: t → ¬ p x) → a ++ r = b ++ s → a = b ∧ r = s
  | [], [], r, s, _, _, _, _, h => ⟨rfl, h⟩
  | [], y :: b, r, s, _, hb, hr, _, h => absurd (hb y (by simp)) (hr y _ h)
  | x :: a, [], r, s, ha, _, _, hs, h => absurd (ha x (by simp)) (hs x _ h.symm)
  | x :: a, y :: b, r, s, ha, hb, hr, hs, h => by
    injection h with h1 h2
    obtain ⟨e1, e2⟩ := span_eq p a b r s (fun z hz => ha z (by simp [hz])) (fun z hz => hb z (by simp [hz])) hr hs h2
    exact ⟨by rw [h1, e1], e2⟩

structure AttrOk (a : AttrD) : Prop where
  name : nameL a.name = true
  value : ∃ o, escL true a.value = some o
theorem attrs_inj : ∀ (l m : List AttrD) (r s : List UInt8), (∀ a ∈ l, AttrOk a) → (∀ a ∈ m, AttrOk a) → (∀ x t, r = x :: t → x ≠ 32) → (∀ x t, s = x :: t → x ≠ 32) → l.flatMap attrT ++ r = m.flatMap attrT ++ s → l = m ∧ r = s
  | [], [], r, s, _, _, _, _, h => ⟨rfl, h⟩
  | [], b :: m, r, s, _, _, hr, _, h => by
    exfalso
    have e : ∃ t, r = 32 :: t := by
      rw [List.flatMap_nil, List.nil_append] at h
      rw [h, List.flatMap_cons]
      exact ⟨_, rfl⟩
    obtain ⟨t, e⟩ := e
    exact hr 32 t e rfl
  | a :: l, [], r, s, _, _, _, hs, h => by
    exfalso
    have e : ∃ t, s = 32 :: t := by
      rw [List.flatMap_nil, List.nil_append] at h
      rw [← h, List.flatMap_cons]
      exact ⟨_, rfl⟩
    obtain ⟨t, e⟩ := e
    exact hs 32 t e rfl
  | a :: l, b :: m, r, s, hl, hm, hr, hs, h => by
    obtain ⟨na, oa, hoa⟩ := hl a (by simp)
    obtain ⟨nbm, ob, hob⟩ := hm b (by simp)
    have ea : escV a.value = oa := by unfold escV; rw [hoa]; rfl
    have eb : escV b.value = ob := by unfold escV; rw [hob]; rfl
    simp only [List.flatMap_cons, attrT, ea, eb, List.append_assoc, List.cons_append, List.nil_append] at h
    injection h with _ h
    obtain ⟨e1, h⟩ := span_eq (fun x => nb x = true) a.name b.name _ _ (List.all_eq_true.1 (name_bytes na).2) (List.all_eq_true.1 (name_bytes nbm).2) (fun x t e => by injection e with e _; subst e; decide) (fun x t e => by injection e with e _; subst e; decide) h
    injection h with _ h
    injection h with _ h
    obtain ⟨e2, h⟩ := span_eq (fun x => x ≠ 34) oa ob _ _ (esc_value hoa) (esc_value hob) (fun x t e => by injection e with e _; subst e; decide) (fun x t e => by injection e with e _; subst e; decide) h
    injection h with _ h
    obtain ⟨e3, hrs⟩ := attrs_inj l m r s (fun x hx => hl x (by simp [hx])) (fun x hx => hm x (by simp [hx])) hr hs h
    subst e2
    have e4 := esc_inj hoa hob
    refine ⟨?_, hrs⟩
    rw [e3]
    cases a; cases b
    simp only at e1 e4
    rw [e1, e4]

theorem item_same {x y : ItemD} (h : x.level = y.level ∧ x.kind = y.kind ∧ x.name = y.name ∧ x.text = y.text ∧ x.attrs = y.attrs) : x = y := by
  obtain ⟨h1, h2, h3, h4, h5⟩ := h
  cases x; cases y; simp_all

/-- an item whose parts may be -/
inductive ItemOk (x : ItemD) : Prop
  | text (k : x.kind = 2) (n : x.name = []) (a : x.attrs = []) (t : ∃ o, escL false x.text = some o)
  | elem (k : x.kind = 1) (t : x.text = []) (n : nameL x.name = true) (a : ∀ y ∈ x.attrs, AttrOk y)
theorem count_esc {v : Bool} {l : List UInt8} (h : charsE l = 0) : ∃ o, escL v l = some o := by
  unfold charsE at h
  split at h
  · omega
  · rename_i hc
    unfold countL at hc
    unfold escL
    cases hl : charsL l with
    | none => rw [hl] at hc; simp at hc
    | some cs => exact ⟨_, rfl⟩
theorem attrNames_ok : ∀ (l : List AttrD) (last : List UInt8), attrNames last l = true → ∀ a ∈ l, nameL a.name = true
  | [], _, _, _, h => by cases h
  | b :: l, last, h, a, ha => by
    simp only [attrNames, Bool.and_eq_true] at h
    rcases List.mem_cons.1 ha with rfl | ha
    · exact h.1.1
    · exact attrNames_ok l b.name h.2 a ha
theorem valuesE_ok : ∀ (l : List AttrD), valuesE l = 0 → ∀ a ∈ l, charsE a.value = 0
  | [], _, _, h => by cases h
  | b :: l, h, a, ha => by
    unfold valuesE at h
    by_cases h0 : charsE b.value = 0
    · rw [if_pos h0] at h
      rcases List.mem_cons.1 ha with rfl | ha
      · exact h0
      · exact valuesE_ok l h a ha
    · rw [if_neg h0] at h; exact absurd h h0
theorem parts_ok {x : ItemD} (h : partsE x = 0) : ItemOk x := by
  unfold partsE at h
  split at h
  · rename_i h1
    exact .text h1.1 h1.2.1 h1.2.2 (count_esc h)
  · split at h
    · omega
    · rename_i h2
      have ht : x.text = [] := Decidable.of_not_not fun h => h2 (.inr h)
      have hk : x.kind = 1 := Decidable.of_not_not fun h => h2 (.inl h)
      by_cases h3 : namesE x = 0
      · rw [if_pos h3] at h
        unfold namesE at h3
        by_cases h4 : (nameL x.name && attrNames [] x.attrs) = true
        · simp only [Bool.and_eq_true] at h4
          exact .elem hk ht h4.1 (fun a ha => ⟨attrNames_ok _ _ h4.2 a ha, count_esc (valuesE_ok _ h a ha)⟩)
        · rw [if_neg h4] at h3; cases h3
      · rw [if_neg h3] at h; exact absurd h h3

/-- what may stand behind: an end, or nothing -/
def endR (r : List UInt8) : Prop := r = [] ∨ ∃ t, r = 60 :: 47 :: t
theorem tag_inj {x y : ItemD} {r s : List UInt8} (nx : nameL x.name = true) (ax : ∀ a ∈ x.attrs, AttrOk a) (ny : nameL y.name = true) (ay : ∀ a ∈ y.attrs, AttrOk a)
    (hr : ∀ c t, r = c :: t → c = 47 ∨ c = 62) (hs : ∀ c t, s = c :: t → c = 47 ∨ c = 62) (h : tagL x ++ r = tagL y ++ s) : x.name = y.name ∧ x.attrs = y.attrs ∧ r = s := by
  unfold tagL at h
  simp only [List.append_assoc, List.cons_append, List.nil_append] at h
  injection h with _ h
  have stop : ∀ (l : List AttrD) (r : List UInt8), (∀ c t, r = c :: t → c = 47 ∨ c = 62) → ∀ c t, l.flatMap attrT ++ r = c :: t → ¬ nb c = true := by
    intro l r hr c t e
    cases l with
    | nil =>
      have := hr c t (by simpa using e)
      rcases this with rfl | rfl <;> decide
    | cons a l =>
      simp only [List.flatMap_cons, attrT, List.append_assoc, List.cons_append, List.nil_append] at e
      injection e with e _
      subst e; decide
  obtain ⟨e1, h⟩ := span_eq (fun b => nb b = true) x.name y.name _ _ (List.all_eq_true.1 (name_bytes nx).2) (List.all_eq_true.1 (name_bytes ny).2) (stop _ _ hr) (stop _ _ hs) h
  obtain ⟨e2, h⟩ := attrs_inj x.attrs y.attrs r s ax ay (fun c t e => by rcases hr c t e with rfl | rfl <;> decide) (fun c t e => by rcases hs c t e with rfl | rfl <;> decide) h
  exact ⟨e1, e2, h⟩

theorem pr_text {x : ItemD} {r : List ItemD} (hk : x.kind = 2) (hc : capC (cap x) r) : pr (x :: r) = escT x.text ++ pr r := by
  have : cap x = x.level := by unfold cap; rw [if_pos hk]
  rw [this] at hc
  obtain ⟨k1, k2⟩ := kids_nil hc
  rw [pr_cons, k1, k2]
  have : nodeL x [] (pr []) = escT x.text := by unfold nodeL; rw [if_pos hk]
  rw [this]
theorem pr_elem {x : ItemD} {r : List ItemD} (hk : x.kind ≠ 2) : pr (x :: r) = tagL x ++ ((if kidsOf x.level r = [] then [47, 62] else [62] ++ pr (kidsOf x.level r) ++ closeT x.name) ++ pr (pastOf x.level r)) := by
  rw [pr_cons]
  unfold nodeL
  rw [if_neg hk]
  split
  · simp
  · simp [closeT]

structure Forest (L : Int) (b : List ItemD) : Prop where
  low : ∀ y ∈ b, L ≤ y.level
  cap : capC L b
  ok : ∀ y ∈ b, ItemOk y
  nf : NF b
theorem nfP_split : ∀ (a b : List ItemD) (p : ItemD), nfP p (a ++ b) → nfP p a ∧ NF b
  | [], [], _, _ => ⟨trivial, trivial⟩
  | [], x :: b, p, h => ⟨trivial, h.1, h.2.2⟩
  | x :: a, b, p, h => by
    obtain ⟨h1, h2⟩ := nfP_split a b x h.2.2
    exact ⟨⟨h.1, h.2.1, h1⟩, h2⟩
theorem NF.tail {x : ItemD} {r : List ItemD} (h : NF (x :: r)) : NF r := by
  cases r with
  | nil => trivial
  | cons y r => exact ⟨h.2.1, h.2.2.2⟩
theorem NF.split {a b : List ItemD} (h : NF (a ++ b)) : NF a ∧ NF b := by
  cases a with
  | nil => exact ⟨trivial, h⟩
  | cons x a =>
    obtain ⟨h1, h2⟩ := nfP_split a b x h.2
    exact ⟨⟨h.1, h1⟩, h2⟩
theorem Forest.head {L : Int} {x : ItemD} {r : List ItemD} (h : Forest L (x :: r)) : x.level = L := by
  have h1 := h.low x (by simp)
  have h2 := h.cap.1
  omega
/-- an element's kids, and what stands past them -/
theorem Forest.parts {L : Int} {x : ItemD} {r : List ItemD} (h : Forest L (x :: r)) (hk : x.kind ≠ 2) : Forest (L + 1) (kidsOf x.level r) ∧ Forest L (pastOf x.level r) := by
  have hx := h.head
  have hs := kids_past x.level r
  have hc := h.cap.2
  have hcx : Go.Proofs.YtpfhdklbhhpbcaaDoor.cap x = x.level + 1 := by unfold Go.Proofs.YtpfhdklbhhpbcaaDoor.cap; rw [if_neg hk]
  rw [hcx, ← hs] at hc
  obtain ⟨c1, c', c2⟩ := capC_split _ _ _ hc
  have hn := h.nf.tail
  rw [← hs] at hn
  obtain ⟨n1, n2⟩ := hn.split
  have hmk : ∀ y ∈ kidsOf x.level r, y ∈ r := fun y hy => by rw [← hs]; simp [hy]
  have hmp : ∀ y ∈ pastOf x.level r, y ∈ r := fun y hy => by rw [← hs]; simp [hy]
  refine ⟨⟨fun y hy => by have := kids_mem x.level r y hy; omega, by rw [← hx]; exact c1, fun y hy => h.ok y (by simp [hmk y hy]), n1⟩,
    ⟨fun y hy => h.low y (by simp [hmp y hy]), capC_head c2 (fun y t e => by have := past_head x.level r y t e; omega), fun y hy => h.ok y (by simp [hmp y hy]), n2⟩⟩
theorem esc_ne {t o : List UInt8} (h : escL false t = some o) (ht : t ≠ []) : ∃ c s, o = c :: s ∧ c ≠ 60 := by
  cases o with
  | nil =>
    have := undo_esc false t [] h
    have e : escL false [] = some [] := rfl
    exact absurd (esc_inj h e) ht
  | cons c s => exact ⟨c, s, rfl, esc_text h c (by simp)⟩
theorem pr_starts {L : Int} {x : ItemD} {r : List ItemD} (h : Forest L (x :: r)) (R : List UInt8) : (x.kind = 2 ∧ ∃ c t, pr (x :: r) ++ R = c :: t ∧ c ≠ 60) ∨ (x.kind = 1 ∧ ∃ c t, pr (x :: r) ++ R = 60 :: c :: t ∧ c ≠ 47) := by
  rcases h.ok x (by simp) with ⟨k, _, _, o, ho⟩ | ⟨k, _, n, _⟩
  · refine .inl ⟨k, ?_⟩
    have hne : x.text ≠ [] := fun e => h.nf.1 ⟨k, e⟩
    obtain ⟨c, s, e, hc⟩ := esc_ne ho hne
    rw [pr_text k h.cap.2]
    have : escT x.text = c :: s := by unfold escT; rw [ho, ← e]; rfl
    rw [this]
    exact ⟨c, _, rfl, hc⟩
  · refine .inr ⟨k, ?_⟩
    obtain ⟨hne, hall⟩ := name_bytes n
    rw [pr_elem (by omega)]
    cases hn : x.name with
    | nil => exact absurd hn hne
    | cons c s =>
      have hc : nb c = true := by rw [hn] at hall; simp at hall; exact hall.1
      refine ⟨c, _, by unfold tagL; rw [hn]; rfl, fun e => ?_⟩
      subst e; revert hc; decide

theorem pr_inj : ∀ (n : Nat) (a b : List ItemD) (L : Int) (R S : List UInt8), a.length + b.length ≤ n → Forest L a → Forest L b → endR R → endR S → pr a ++ R = pr b ++ S → a = b ∧ R = S := by
  intro n
  induction n with
  | zero =>
    intro a b L R S hn _ _ _ _ h
    have e1 : a = [] := List.eq_nil_of_length_eq_zero (by omega)
    have e2 : b = [] := List.eq_nil_of_length_eq_zero (by omega)
    subst e1; subst e2
    rw [pr_nil] at h
    exact ⟨rfl, h⟩
  | succ n ih =>
    intro a b L R S hn ha hb hR hS h
    have endNot : ∀ (R : List UInt8), endR R → ∀ (c : UInt8) (t : List UInt8), R = c :: t → c = 60 ∧ ∃ u, t = 47 :: u := by
      intro R hR c t e
      rcases hR with h | ⟨u, h⟩
      · rw [h] at e; cases e
      · rw [h] at e
        injection e with e1 e2
        exact ⟨e1.symm, u, e2.symm⟩
    have endNo : ∀ (x : ItemD) (r : List ItemD) (R S : List UInt8), Forest L (x :: r) → endR R → R = pr (x :: r) ++ S → False := by
      intro x r R S hf hR e
      rcases pr_starts hf S with ⟨_, c, t, e2, hc⟩ | ⟨_, c, t, e2, hc⟩
      · rw [e2] at e
        exact hc (endNot R hR c t e).1
      · rw [e2] at e
        obtain ⟨_, u, hu⟩ := endNot R hR 60 _ e
        injection hu with hu _
        exact hc hu
    cases a with
    | nil =>
      cases b with
      | nil => rw [pr_nil] at h; exact ⟨rfl, h⟩
      | cons y s =>
        rw [pr_nil] at h
        exact (endNo y s R S hb hR h).elim
    | cons x r =>
      cases b with
      | nil =>
        rw [pr_nil] at h
        exact (endNo x r S R ha hS h.symm).elim
      | cons y s =>
        have hxl := ha.head
        have hyl := hb.head
        have startOf := pr_starts ha R
        have startOf' := pr_starts hb S
        simp only [List.length_cons] at hn
        rcases startOf with ⟨kx, c, t, ec, hc⟩ | ⟨kx, c, t, ec, hc⟩
        · rcases startOf' with ⟨ky, _⟩ | ⟨_, c', t', ec', _⟩
          · -- two texts
            rcases ha.ok x (by simp) with ⟨_, nx, ax, ox, hox⟩ | ⟨k, _, _, _⟩
            · rcases hb.ok y (by simp) with ⟨_, ny, ay, oy, hoy⟩ | ⟨k, _, _, _⟩
              · rw [pr_text kx ha.cap.2, pr_text ky hb.cap.2, List.append_assoc, List.append_assoc] at h
                have ex : escT x.text = ox := by unfold escT; rw [hox]; rfl
                have ey : escT y.text = oy := by unfold escT; rw [hoy]; rfl
                rw [ex, ey] at h
                have fr : ∀ {x : ItemD} {r : List ItemD}, x.kind = 2 → Forest L (x :: r) → Forest L r := by
                  intro x r k hf
                  have hl := hf.head
                  have hcp := hf.cap.2
                  have : Go.Proofs.YtpfhdklbhhpbcaaDoor.cap x = L := by unfold Go.Proofs.YtpfhdklbhhpbcaaDoor.cap; rw [if_pos k]; exact hl
                  rw [this] at hcp
                  exact ⟨fun z hz => hf.low z (by simp [hz]), hcp, fun z hz => hf.ok z (by simp [hz]), hf.nf.tail⟩
                have stop : ∀ {x : ItemD} {r : List ItemD} {R : List UInt8}, x.kind = 2 → Forest L (x :: r) → endR R → ∀ c t, pr r ++ R = c :: t → ¬ c ≠ 60 := by
                  intro x r R k hf hR c t e hne
                  cases r with
                  | nil =>
                    rw [pr_nil] at e
                    exact hne (endNot R hR c t e).1
                  | cons z r =>
                    have hz := (fr k hf)
                    rcases pr_starts hz R with ⟨kz, _⟩ | ⟨_, c', t', e', _⟩
                    · exact hf.nf.2.2.1 ⟨kz, k, by rw [hf.head, hz.head]⟩
                    · rw [e'] at e
                      injection e with e _
                      exact hne e.symm
                obtain ⟨e1, e2⟩ := span_eq (fun b => b ≠ 60) ox oy _ _ (esc_text hox) (esc_text hoy) (stop kx ha hR) (stop ky hb hS) h
                subst e1
                have et := esc_inj hox hoy
                obtain ⟨e3, e4⟩ := ih r s L R S (by omega) (fr kx ha) (fr ky hb) hR hS e2
                refine ⟨?_, e4⟩
                rw [e3]
                congr 1
                exact item_same ⟨by omega, by omega, by rw [nx, ny], et, by rw [ax, ay]⟩
              · omega
            · omega
          · rw [h, ec'] at ec
            injection ec with ec _
            exact absurd ec.symm hc
        · rcases startOf' with ⟨_, c', t', ec', hc'⟩ | ⟨ky, _⟩
          · rw [h, ec'] at ec
            injection ec with ec _
            exact absurd ec hc'
          · rcases ha.ok x (by simp) with ⟨k, _, _, _⟩ | ⟨_, tx, nx, ax⟩
            · omega
            · rcases hb.ok y (by simp) with ⟨k, _, _, _⟩ | ⟨_, ty, ny, ay⟩
              · omega
              · obtain ⟨pk, pp⟩ := ha.parts (by omega)
                obtain ⟨qk, qp⟩ := hb.parts (by omega)
                have kl := kidsOf_le x.level r
                have pl := pastOf_le x.level r
                have kl' := kidsOf_le y.level s
                have pl' := pastOf_le y.level s
                rw [pr_elem (by omega), pr_elem (by omega)] at h
                simp only [List.append_assoc] at h
                have heads : ∀ (K : List ItemD) (nm T : List UInt8), ∀ c t, (if K = [] then [47, 62] else [62] ++ (pr K ++ closeT nm)) ++ T = c :: t → c = 47 ∨ c = 62 := by
                  intro K nm T c t e
                  split at e
                  · injection e with e _; exact .inl e.symm
                  · injection e with e _; exact .inr e.symm
                obtain ⟨e1, e2, h⟩ := tag_inj nx ax ny ay (heads _ _ _) (heads _ _ _) h
                have exy : x = y := item_same ⟨by omega, by omega, e1, by rw [tx, ty], e2⟩
                have hsx := kids_past x.level r
                have hsy := kids_past y.level s
                by_cases hk1 : kidsOf x.level r = []
                · rw [if_pos hk1] at h
                  by_cases hk2 : kidsOf y.level s = []
                  · rw [if_pos hk2] at h
                    injection h with _ h
                    injection h with _ h
                    obtain ⟨e3, e4⟩ := ih _ _ L R S (by omega) pp qp hR hS h
                    refine ⟨?_, e4⟩
                    rw [exy]
                    congr 1
                    rw [← hsx, ← hsy, hk1, hk2, e3]
                  · rw [if_neg hk2] at h
                    injection h with h _
                    exact absurd h (by decide)
                · rw [if_neg hk1] at h
                  by_cases hk2 : kidsOf y.level s = []
                  · rw [if_pos hk2] at h
                    injection h with h _
                    exact absurd h (by decide)
                  · rw [if_neg hk2] at h
                    simp only [List.append_assoc, List.cons_append, List.nil_append] at h
                    injection h with _ h
                    obtain ⟨e3, e4⟩ := ih _ _ (L + 1) _ _ (by omega) pk qk (.inr ⟨_, rfl⟩) (.inr ⟨_, rfl⟩) h
                    rw [e1] at e4
                    injection e4 with _ e4
                    injection e4 with _ e4
                    have e5 : pr (pastOf x.level r) ++ R = pr (pastOf y.level s) ++ S := List.append_cancel_left e4
                    obtain ⟨e6, e7⟩ := ih _ _ L R S (by omega) pp qp hR hS e5
                    refine ⟨?_, e7⟩
                    rw [exy]
                    congr 1
                    rw [← hsx, ← hsy, e3, e6]

theorem Doc.forest {l : List ItemD} (h : Doc l) (hn : NF l) : Forest 0 l :=
  ⟨h.cap.2, h.cap.1, fun y hy => by
    obtain ⟨k, hk⟩ := List.mem_iff_getElem?.1 hy
    exact parts_ok (oneE_zero (h.one k y hk)).2, hn⟩
/-- two documents in normal form that are printed alike are the same -/
theorem print_inj {x y : List ItemD} (hx : Doc x) (hy : Doc y) (nx : NF x) (ny : NF y) (h : nodeAt (normalL x) 0 = nodeAt (normalL y) 0) : x = y := by
  obtain ⟨x0, s, sx⟩ := hx.normal
  obtain ⟨y0, t, sy⟩ := hy.normal
  rw [← sx.pr, ← sy.pr, nf_normal x nx, nf_normal y ny] at h
  exact (pr_inj _ x y 0 [] [] (Nat.le_refl _) (hx.forest nx) (hy.forest ny) (.inl rfl) (.inl rfl) (by rw [List.append_nil, List.append_nil]; exact h)).1
end Go.Proofs.YtpfhdklbhhpbcaaDoor

/-
  The plain law of tokens: no program in sight. All places are counted from the token's own beginning.
-/
namespace Go.Proofs.YtpfhdklbhhpbcaaDoor

def blankB (b : UInt8) : Bool := b == 32 || b == 9 || b == 10

structure TokD where
  kind : Int
  name : List UInt8
  text : List UInt8
  attrs : List AttrD
deriving DecidableEq

/-- what a step tells: something, and how many bytes it took; or a place, and an error's number -/
inductive Told (α : Type) where
  | ok (x : α) (n : Nat)
  | bad (k : Nat) (e : Int)
deriving DecidableEq

/-- .. a place further on -/
def Told.past {α : Type} (k : Nat) : Told α → Told α
  | .ok x n => .ok x (k + n)
  | .bad j e => .bad (k + j) e

theorem Told.past_past {α : Type} (j k : Nat) (x : Told α) : (x.past k).past j = x.past (j + k) := by
  cases x <;> simp [Told.past, Nat.add_assoc]
theorem Told.past_zero {α : Type} (x : Told α) : x.past 0 = x := by
  cases x <;> simp [Told.past]

def wordL (l : List UInt8) : List UInt8 := l.takeWhile nb
def skipL (l : List UInt8) : Nat := (l.takeWhile blankB).length

def textT (l : List UInt8) : Told TokD :=
  let t := l.takeWhile (· != 60)
  let u := undoL false t
  if u.2.2 ≠ 0 then .bad u.2.1 u.2.2 else if 1500 < u.1.length then .bad 0 34 else .ok ⟨4, [], u.1, []⟩ t.length

/-- an end, behind its two first bytes -/
def endT (l : List UInt8) : Told TokD :=
  let n := wordL l
  if nameL n = false then .bad 0 31
  else
    let k := n.length + skipL (l.drop n.length)
    if pre [62] (l.drop k) = true then .ok ⟨2, n, [], []⟩ (k + 1) else .bad k 30

/-- by rising names -/
def insA (a : AttrD) : List AttrD → List AttrD
  | [] => [a]
  | b :: r => if Op.bytesLess a.name b.name then a :: b :: r else b :: insA a r
def sortA (l : List AttrD) : List AttrD := l.foldl (fun o a => insA a o) []

/-- a value, behind its quote: where the quote stands is one place ahead -/
def valueT (n : List UInt8) (l : List UInt8) : Told AttrD :=
  let v := l.takeWhile (· != 34)
  if v.length = l.length then .bad (n.length + 2 + v.length) 30
  else
    let u := undoL true v
    if u.2.2 ≠ 0 then .bad (n.length + 2 + u.2.1) u.2.2 else if 1500 < u.1.length then .bad (n.length + 1) 34 else .ok ⟨n, u.1⟩ (n.length + 2 + v.length + 1)

def attrL (l : List UInt8) (bs : List AttrD) : Told AttrD :=
  let n := wordL l
  if nameL n = false then .bad 0 31
  else if 20 ≤ bs.length then .bad 0 33
  else if bs.any (fun a => decide (a.name = n)) then .bad 0 32
  else if pre [61] (l.drop n.length) = false then .bad n.length 30
  else if pre [34] (l.drop (n.length + 1)) = false then .bad (n.length + 1) 30
  else valueT n (l.drop (n.length + 2))

/-- the attributes, and the end of the beginning: which it is, and the attributes bs they came -/
def attrsF : Nat → List UInt8 → List AttrD → Told (Int × List AttrD)
  | 0, _, _ => .bad 0 30
  | f + 1, l, bs =>
    let b := skipL l
    let r := l.drop b
    if pre [62] r = true then .ok (1, bs) (b + 1)
    else if pre [47, 62] r = true then .ok (3, bs) (b + 2)
    else if b = 0 ∨ r = [] then .bad b 30
    else match attrL r bs with
      | .bad k e => .bad (b + k) e
      | .ok a n => (attrsF f (r.drop n) (bs ++ [a])).past (b + n)

/-- a beginning, behind its first byte -/
def beginT (l : List UInt8) : Told TokD :=
  let n := wordL l
  if nameL n = false then .bad 0 31
  else match attrsF (l.length + 1) (l.drop n.length) [] with
    | .bad k e => .bad (n.length + k) e
    | .ok q k => .ok ⟨q.1, n, [], sortA q.2⟩ (n.length + k)

def oneT (l : List UInt8) : Told TokD :=
  if pre [60, 47] l = true then (endT (l.drop 2)).past 2
  else if pre [60] l = true then (beginT (l.drop 1)).past 1
  else textT l

/-- all tokens, each with where it stands -/
def allF : Nat → Nat → List UInt8 → List (Nat × TokD) × Nat × Int
  | 0, _, _ => ([], 0, 0)
  | f + 1, at_, l =>
    if l = [] then ([], 0, 0)
    else match oneT l with
      | .bad k e => ([], at_ + k, e)
      | .ok t n =>
        let r := allF f (at_ + n) (l.drop n)
        if r.2.2 = 0 then ((at_, t) :: r.1, 0, 0) else ([], r.2.1, r.2.2)

/-! ## How far what is told may reach -/
theorem takeWhile_len {α : Type} (p : α → Bool) : ∀ l : List α, (l.takeWhile p).length ≤ l.length
  | [] => by simp
  | a :: l => by
    rw [List.takeWhile_cons]
    split
    · have := takeWhile_len p l; simp; omega
    · simp
theorem wordL_len (l : List UInt8) : (wordL l).length ≤ l.length := takeWhile_len _ _
theorem skipL_len (l : List UInt8) : skipL l ≤ l.length := takeWhile_len _ _

theorem undoF_le (v : Bool) : ∀ (f : Nat) (l : List UInt8), (undoF v f l).2.1 ≤ l.length
  | 0, _ => by simp [undoF]
  | f + 1, l => by
    rw [undoF]
    split
    · simp
    · cases hs : stepL v l with
      | inl e => simp
      | inr q =>
        obtain ⟨t, n⟩ := q
        have := stepL_pos hs
        have ih := undoF_le v f (l.drop n)
        rw [List.length_drop] at ih
        simp only
        split <;> simp only <;> omega
theorem undoL_le (v : Bool) (l : List UInt8) : (undoL v l).2.1 ≤ l.length := undoF_le v _ l

theorem pre1_len {c : UInt8} {l : List UInt8} {k : Nat} (h : pre [c] (l.drop k) = true) : k + 1 ≤ l.length := by
  have := pre_len h
  rw [List.length_drop] at this
  simp at this; omega

def Told.within {α : Type} (lo hi : Nat) : Told α → Prop
  | .ok _ n => lo ≤ n ∧ n ≤ hi
  | .bad k e => k ≤ hi ∧ e ≠ 0

theorem textT_within (l : List UInt8) (h : l ≠ []) (h60 : pre [60] l = false) : (textT l).within 1 l.length := by
  have h1 := takeWhile_len (· != 60) l
  have h2 := undoL_le false (l.takeWhile (· != 60))
  have h3 : 1 ≤ (l.takeWhile (· != 60)).length := by
    cases l with
    | nil => exact absurd rfl h
    | cons a r =>
      have : (a != 60) = true := by
        simp only [pre, List.length_cons, List.length_nil, List.take_succ_cons, List.take_zero] at h60
        cases h : a == 60 with
        | true => rw [eq_of_beq h] at h60; simp at h60
        | false => simp [bne, h]
      rw [List.takeWhile_cons, if_pos this]; simp
  unfold textT
  simp only
  split
  · rename_i h; exact ⟨by omega, h⟩
  · split
    · exact ⟨by omega, by decide⟩
    · exact ⟨h3, h1⟩
theorem endT_within (l : List UInt8) : (endT l).within 1 l.length := by
  have h1 := wordL_len l
  have h2 := skipL_len (l.drop (wordL l).length)
  rw [List.length_drop] at h2
  unfold endT
  simp only
  split
  · exact ⟨by omega, by decide⟩
  · split
    · rename_i h; exact ⟨by omega, pre1_len h⟩
    · exact ⟨by omega, by decide⟩
theorem valueT_within (n l : List UInt8) : (valueT n l).within (n.length + 3) (n.length + 2 + l.length) := by
  have h1 := takeWhile_len (· != 34) l
  have h2 := undoL_le true (l.takeWhile (· != 34))
  unfold valueT
  simp only
  split
  · exact ⟨by omega, by decide⟩
  · split
    · rename_i h; exact ⟨by omega, h⟩
    · split
      · exact ⟨by omega, by decide⟩
      · exact ⟨by omega, by omega⟩
theorem attrL_within (l : List UInt8) (bs : List AttrD) : (attrL l bs).within 3 l.length := by
  have h1 := wordL_len l
  unfold attrL
  simp only
  split
  · exact ⟨by omega, by decide⟩
  · split
    · exact ⟨by omega, by decide⟩
    · split
      · exact ⟨by omega, by decide⟩
      · split
        · exact ⟨by omega, by decide⟩
        · rename_i hp
          have hp1 := pre1_len (by simpa using hp)
          split
          · exact ⟨by omega, by decide⟩
          · rename_i hp'
            have hp2 := pre1_len (by simpa using hp')
            have := valueT_within (wordL l) (l.drop ((wordL l).length + 2))
            rw [List.length_drop] at this
            cases hv : valueT (wordL l) (l.drop ((wordL l).length + 2)) with
            | ok x n => rw [hv] at this; obtain ⟨a, b⟩ := this; exact ⟨by omega, by omega⟩
            | bad k e => rw [hv] at this; obtain ⟨a, b⟩ := this; exact ⟨by omega, b⟩
theorem attrsF_within : ∀ (f : Nat) (l : List UInt8) (bs : List AttrD), (attrsF f l bs).within 1 l.length
  | 0, l, bs => ⟨Nat.zero_le _, by decide⟩
  | f + 1, l, bs => by
    have h1 := skipL_len l
    rw [attrsF]
    split
    · rename_i h; exact ⟨by omega, pre1_len h⟩
    · split
      · rename_i h
        have := pre_len h
        rw [List.length_drop] at this
        simp at this
        exact ⟨by omega, by omega⟩
      · split
        · exact ⟨h1, by decide⟩
        · have := attrL_within (l.drop (skipL l)) bs
          rw [List.length_drop] at this
          cases ha : attrL (l.drop (skipL l)) bs with
          | bad k e => rw [ha] at this; obtain ⟨a, b⟩ := this; exact ⟨by omega, b⟩
          | ok x n =>
            rw [ha] at this; obtain ⟨a, b⟩ := this
            simp only
            have ih := attrsF_within f ((l.drop (skipL l)).drop n) (bs ++ [x])
            rw [List.length_drop, List.length_drop] at ih
            cases hq : attrsF f ((l.drop (skipL l)).drop n) (bs ++ [x]) with
            | ok y m => rw [hq] at ih; obtain ⟨c, d⟩ := ih; exact ⟨by omega, by omega⟩
            | bad k e => rw [hq] at ih; obtain ⟨c, d⟩ := ih; exact ⟨by omega, d⟩
theorem beginT_within (l : List UInt8) : (beginT l).within 1 l.length := by
  have h1 := wordL_len l
  unfold beginT
  simp only
  split
  · exact ⟨by omega, by decide⟩
  · have := attrsF_within (l.length + 1) (l.drop (wordL l).length) []
    rw [List.length_drop] at this
    cases ha : attrsF (l.length + 1) (l.drop (wordL l).length) [] with
    | bad k e => rw [ha] at this; obtain ⟨a, b⟩ := this; exact ⟨by omega, b⟩
    | ok x n => rw [ha] at this; obtain ⟨a, b⟩ := this; exact ⟨by omega, by omega⟩
theorem oneT_within (l : List UInt8) (h : l ≠ []) : (oneT l).within 1 l.length := by
  unfold oneT
  split
  · rename_i hp
    have hl := pre_len hp
    simp at hl
    have := endT_within (l.drop 2)
    rw [List.length_drop] at this
    cases hq : endT (l.drop 2) with
    | ok y m => rw [hq] at this; obtain ⟨c, d⟩ := this; exact ⟨by omega, by omega⟩
    | bad k e => rw [hq] at this; obtain ⟨c, d⟩ := this; exact ⟨by omega, d⟩
  · split
    · rename_i hp
      have hl := pre_len hp
      simp at hl
      have := beginT_within (l.drop 1)
      rw [List.length_drop] at this
      cases hq : beginT (l.drop 1) with
      | ok y m => rw [hq] at this; obtain ⟨c, d⟩ := this; exact ⟨by omega, by omega⟩
      | bad k e => rw [hq] at this; obtain ⟨c, d⟩ := this; exact ⟨by omega, d⟩
    · rename_i hp
      exact textT_within l h (by simpa using hp)

/-- fuel is no matter -/
theorem attrsF_more : ∀ (f : Nat) (l : List UInt8) (bs : List AttrD) (g : Nat), l.length < f → l.length < g → attrsF f l bs = attrsF g l bs
  | 0, _, _, _, h, _ => by omega
  | f + 1, l, bs, 0, _, h => by omega
  | f + 1, l, bs, g + 1, hf, hg => by
    rw [attrsF, attrsF]
    have h1 := skipL_len l
    have := attrL_within (l.drop (skipL l)) bs
    rw [List.length_drop] at this
    cases ha : attrL (l.drop (skipL l)) bs with
    | bad k e => rfl
    | ok x n =>
      rw [ha] at this; obtain ⟨a, b⟩ := this
      simp only
      rw [attrsF_more f ((l.drop (skipL l)).drop n) (bs ++ [x]) g (by simp only [List.length_drop]; omega) (by simp only [List.length_drop]; omega)]
theorem allF_more : ∀ (f : Nat) (at_ : Nat) (l : List UInt8) (g : Nat), l.length < f → l.length < g → allF f at_ l = allF g at_ l
  | 0, _, _, _, h, _ => by omega
  | f + 1, _, l, 0, _, h => by omega
  | f + 1, at_, l, g + 1, hf, hg => by
    rw [allF, allF]
    by_cases hl : l = []
    · rw [if_pos hl, if_pos hl]
    · rw [if_neg hl, if_neg hl]
      have := oneT_within l hl
      cases ho : oneT l with
      | bad k e => rfl
      | ok t n =>
        rw [ho] at this; obtain ⟨a, b⟩ := this
        simp only
        rw [allF_more f (at_ + n) (l.drop n) g (by rw [List.length_drop]; omega) (by rw [List.length_drop]; omega)]

def attrsL (l : List UInt8) (bs : List AttrD) : Told (Int × List AttrD) := attrsF (l.length + 1) l bs
def allL (at_ : Nat) (l : List UInt8) : List (Nat × TokD) × Nat × Int := allF (l.length + 1) at_ l

theorem attrsL_step (l : List UInt8) (bs : List AttrD) (b : Nat) (hb : b = skipL l) (h1 : pre [62] (l.drop b) = false) (h2 : pre [47, 62] (l.drop b) = false) (h3 : b ≠ 0) (h4 : l.drop b ≠ []) (a : AttrD) (n : Nat) (ha : attrL (l.drop b) bs = .ok a n) :
    attrsL l bs = (attrsL (l.drop (b + n)) (bs ++ [a])).past (b + n) := by
  subst hb
  unfold attrsL
  have := attrL_within (l.drop (skipL l)) bs
  rw [ha, List.length_drop] at this
  obtain ⟨c, d⟩ := this
  rw [attrsF]
  simp only [h1, h2, ha, Bool.false_eq_true, if_false]
  rw [if_neg (by intro h; rcases h with h | h; exact h3 h; exact h4 h), List.drop_drop]
  have h5 := skipL_len l
  rw [attrsF_more l.length (l.drop (skipL l + n)) _ ((l.drop (skipL l + n)).length + 1) (by rw [List.length_drop]; omega) (by omega)]
theorem attrsL_bad (l : List UInt8) (bs : List AttrD) (b : Nat) (hb : b = skipL l) (h1 : pre [62] (l.drop b) = false) (h2 : pre [47, 62] (l.drop b) = false) (h3 : b ≠ 0) (h4 : l.drop b ≠ []) (k : Nat) (e : Int) (ha : attrL (l.drop b) bs = .bad k e) :
    attrsL l bs = .bad (b + k) e := by
  subst hb
  unfold attrsL
  rw [attrsF]
  simp only [h1, h2, ha, Bool.false_eq_true, if_false]
  rw [if_neg (by intro h; rcases h with h | h; exact h3 h; exact h4 h)]
theorem attrsL_one (l : List UInt8) (bs : List AttrD) (b : Nat) (hb : b = skipL l) (h1 : pre [62] (l.drop b) = true) : attrsL l bs = .ok (1, bs) (b + 1) := by
  subst hb
  unfold attrsL
  rw [attrsF]
  simp only [h1, if_true]
theorem attrsL_two (l : List UInt8) (bs : List AttrD) (b : Nat) (hb : b = skipL l) (h1 : pre [62] (l.drop b) = false) (h2 : pre [47, 62] (l.drop b) = true) : attrsL l bs = .ok (3, bs) (b + 2) := by
  subst hb
  unfold attrsL
  rw [attrsF]
  simp only [h1, h2, if_true, Bool.false_eq_true, if_false]
theorem attrsL_form (l : List UInt8) (bs : List AttrD) (b : Nat) (hb : b = skipL l) (h1 : pre [62] (l.drop b) = false) (h2 : pre [47, 62] (l.drop b) = false) (h : b = 0 ∨ l.drop b = []) : attrsL l bs = .bad b 30 := by
  subst hb
  unfold attrsL
  rw [attrsF]
  simp only [h1, h2, Bool.false_eq_true, if_false]
  rw [if_pos h]

theorem allL_nil (at_ : Nat) : allL at_ [] = ([], 0, 0) := by simp [allL, allF]
theorem allL_bad (at_ : Nat) (l : List UInt8) (h : l ≠ []) (k : Nat) (e : Int) (ho : oneT l = .bad k e) : allL at_ l = ([], at_ + k, e) := by
  unfold allL
  rw [allF, if_neg h, ho]
theorem allL_step (at_ : Nat) (l : List UInt8) (h : l ≠ []) (t : TokD) (n : Nat) (ho : oneT l = .ok t n) :
    allL at_ l = if (allL (at_ + n) (l.drop n)).2.2 = 0 then ((at_, t) :: (allL (at_ + n) (l.drop n)).1, 0, 0) else ([], (allL (at_ + n) (l.drop n)).2.1, (allL (at_ + n) (l.drop n)).2.2) := by
  unfold allL
  have := oneT_within l h
  rw [ho] at this
  obtain ⟨c, d⟩ := this
  rw [allF, if_neg h, ho]
  simp only
  rw [allF_more l.length (at_ + n) (l.drop n) ((l.drop n).length + 1) (by rw [List.length_drop]; omega) (by omega)]

/-- what is told of all, behind what was told so far -/
def joinT (acc : List (Nat × TokD)) (r : List (Nat × TokD) × Nat × Int) : List (Nat × TokD) × Nat × Int :=
  if r.2.2 = 0 then (acc ++ r.1, 0, 0) else ([], r.2.1, r.2.2)
theorem joinT_bad (acc : List (Nat × TokD)) (k : Nat) (e : Int) (h : e ≠ 0) : joinT acc ([], k, e) = ([], k, e) := by simp [joinT, h]
theorem joinT_nil (acc : List (Nat × TokD)) : joinT acc ([], 0, 0) = (acc, 0, 0) := by simp [joinT]
theorem joinT_step (acc : List (Nat × TokD)) (at_ : Nat) (l : List UInt8) (h : l ≠ []) (t : TokD) (n : Nat) (ho : oneT l = .ok t n) :
    joinT acc (allL at_ l) = joinT (acc ++ [(at_, t)]) (allL (at_ + n) (l.drop n)) := by
  rw [allL_step at_ l h t n ho]
  unfold joinT
  by_cases h0 : (allL (at_ + n) (l.drop n)).2.2 = 0
  · simp [h0]
  · simp [h0]
theorem joinT_one_bad (acc : List (Nat × TokD)) (at_ : Nat) (l : List UInt8) (h : l ≠ []) (k : Nat) (e : Int) (ho : oneT l = .bad k e) : joinT acc (allL at_ l) = ([], at_ + k, e) := by
  have := oneT_within l h
  rw [ho] at this
  rw [allL_bad at_ l h k e ho, joinT_bad _ _ _ this.2]
end Go.Proofs.YtpfhdklbhhpbcaaDoor

/-
  The plain law of attributes by rising names: no program in sight.
-/
namespace Go.Proofs.YtpfhdklbhhpbcaaDoor

theorem less_lt : ∀ (x y : List UInt8), Op.bytesLess x y = decide (x < y)
  | [], [] => by simp [Op.bytesLess]
  | _ :: _, [] => by simp [Op.bytesLess]
  | [], _ :: _ => by simp [Op.bytesLess]
  | a :: x, b :: y => by
    rw [Op.bytesLess, less_lt x y]
    simp only [List.cons_lt_cons_iff]
    by_cases h1 : a < b <;> by_cases h2 : a = b <;> by_cases h3 : x < y <;> simp [h1, h2, h3]

theorem less_irrefl (x : List UInt8) : Op.bytesLess x x = false := by
  rw [less_lt]; exact decide_eq_false (List.lt_irrefl x)
theorem less_trans {x y z : List UInt8} (h : Op.bytesLess x y = true) (h' : Op.bytesLess y z = true) : Op.bytesLess x z = true := by
  rw [less_lt] at *
  exact decide_eq_true (List.lt_trans (of_decide_eq_true h) (of_decide_eq_true h'))
theorem less_tri {x y : List UInt8} (h : Op.bytesLess x y = false) (h' : Op.bytesLess y x = false) : x = y := by
  rw [less_lt] at *
  have h1 := of_decide_eq_false h
  have h2 := of_decide_eq_false h'
  exact List.le_antisymm (List.not_lt.1 h2) (List.not_lt.1 h1)
theorem less_asymm {x y : List UInt8} (h : Op.bytesLess x y = true) : Op.bytesLess y x = false := by
  cases h' : Op.bytesLess y x with
  | false => rfl
  | true => have := less_trans h h'; rw [less_irrefl] at this; cases this
theorem less_ne {x y : List UInt8} (h : Op.bytesLess x y = true) : x ≠ y := by
  intro e; subst e; rw [less_irrefl] at h; cases h
theorem less_ntrans {x y z : List UInt8} (h : Op.bytesLess x y = false) (h' : Op.bytesLess y z = false) : Op.bytesLess x z = false := by
  cases hz : Op.bytesLess x z with
  | false => rfl
  | true =>
    cases hyx : Op.bytesLess y x with
    | true => rw [less_trans hyx hz] at h'; cases h'
    | false => rw [less_tri h hyx] at hz; rw [hz] at h'; cases h'

theorem cmp_less : ∀ (x y : List UInt8), decide (Lib.compareBytes x y < 0) = Op.bytesLess x y
  | [], [] => by simp [Op.bytesLess, Lib.compareBytes]
  | _ :: _, [] => by simp [Op.bytesLess, Lib.compareBytes]
  | [], _ :: _ => by simp [Op.bytesLess, Lib.compareBytes]
  | a :: x, b :: y => by
    rw [Op.bytesLess, Lib.compareBytes, ← cmp_less x y]
    by_cases h1 : a < b
    · simp [h1]
    · by_cases h2 : b < a
      · have h3 : a ≠ b := by intro e; subst e; exact h1 h2
        simp [h1, h2, h3]
      · have h3 : a = b := by
          have h4 := UInt8.not_lt.1 h1
          have h5 := UInt8.not_lt.1 h2
          exact UInt8.le_antisymm h5 h4
        subst h3
        simp

def nameC (a b : AttrD) : Int := Lib.compareBytes a.name b.name
theorem nameC_swo : Sort.SWO (fun a b : AttrD => decide (nameC a b < 0)) where
  irrefl x := by unfold nameC; simp only [cmp_less]; exact less_irrefl _
  trans x y z := by unfold nameC; simp only [cmp_less]; exact less_trans
  ntrans x y z := by unfold nameC; simp only [cmp_less]; exact less_ntrans

def Rise (l : List AttrD) : Prop := l.Pairwise fun a b => Op.bytesLess a.name b.name = true
def Apart (l : List AttrD) : Prop := l.Pairwise fun a b => a.name ≠ b.name

theorem insA_perm (a : AttrD) : ∀ l : List AttrD, (insA a l).Perm (a :: l)
  | [] => List.Perm.refl _
  | b :: r => by
    rw [insA]
    split
    · exact List.Perm.refl _
    · exact ((insA_perm a r).cons b).trans (List.Perm.swap a b r)
theorem sortA_snoc (l : List AttrD) (a : AttrD) : sortA (l ++ [a]) = insA a (sortA l) := by simp [sortA]
theorem fold_perm : ∀ (l o : List AttrD), (l.foldl (fun o a => insA a o) o).Perm (o ++ l)
  | [], o => by simp
  | a :: l, o => by
    rw [List.foldl_cons]
    refine (fold_perm l (insA a o)).trans ?_
    refine ((insA_perm a o).append_right l).trans ?_
    simp only [List.cons_append]
    exact List.perm_middle.symm
theorem sortA_perm (l : List AttrD) : (sortA l).Perm l := by
  have := fold_perm l []
  simpa [sortA] using this
theorem insA_rise {a : AttrD} : ∀ {l : List AttrD}, Rise l → (∀ b ∈ l, b.name ≠ a.name) → Rise (insA a l)
  | [], _, _ => by unfold Rise insA; simp
  | b :: r, h, hn => by
    obtain ⟨hb, hr⟩ := List.pairwise_cons.1 h
    rw [insA]
    split
    · rename_i hl
      refine List.pairwise_cons.2 ⟨fun c hc => ?_, h⟩
      rcases List.mem_cons.1 hc with rfl | hc
      · exact hl
      · exact less_trans hl (hb c hc)
    · rename_i hl
      have hba : Op.bytesLess b.name a.name = true := by
        cases hba : Op.bytesLess b.name a.name with
        | true => rfl
        | false => exact absurd (less_tri hba (by simpa using hl)) (hn b (by simp))
      refine List.pairwise_cons.2 ⟨fun c hc => ?_, insA_rise hr (fun c hc => hn c (by simp [hc]))⟩
      rcases List.mem_cons.1 ((insA_perm a r).mem_iff.1 hc) with rfl | hc
      · exact hba
      · exact hb c hc
theorem fold_rise : ∀ (l o : List AttrD), Rise o → Apart l → (∀ a ∈ l, ∀ b ∈ o, b.name ≠ a.name) → Rise (l.foldl (fun o a => insA a o) o)
  | [], o, h, _, _ => h
  | a :: l, o, h, hl, hn => by
    obtain ⟨h1, h2⟩ := List.pairwise_cons.1 hl
    rw [List.foldl_cons]
    refine fold_rise l _ (insA_rise h (hn a (by simp))) h2 (fun c hc b hb => ?_)
    rcases List.mem_cons.1 ((insA_perm a o).mem_iff.1 hb) with rfl | hb
    · exact h1 c hc
    · exact hn c (by simp [hc]) b hb
theorem sortA_rise {l : List AttrD} (h : Apart l) : Rise (sortA l) := fold_rise l [] List.Pairwise.nil h (fun _ _ _ hb => by cases hb)

theorem rise_unique {l d : List AttrD} (hp : d.Perm l) (hl : Rise l) (hd : d.Pairwise fun a b => Op.bytesLess b.name a.name = false) : d = l := by
  refine List.Perm.eq_of_pairwise (le := fun a b => Op.bytesLess b.name a.name = false) (fun a b ha hb h1 h2 => ?_) hd (hl.imp fun h => less_asymm h) hp
  have hn := less_tri h2 h1
  have ha' := hp.mem_iff.1 ha
  obtain ⟨i, hi, ei⟩ := List.mem_iff_getElem.1 ha'
  obtain ⟨j, hj, ej⟩ := List.mem_iff_getElem.1 hb
  rcases Nat.lt_trichotomy i j with h | h | h
  · have := List.pairwise_iff_getElem.1 hl i j hi hj h
    rw [ei, ej, hn, less_irrefl] at this; cases this
  · subst h; rw [← ei, ← ej]
  · have := List.pairwise_iff_getElem.1 hl j i hj hi h
    rw [ei, ej, hn, less_irrefl] at this; cases this
theorem sort_unique {l d : List AttrD} (hp : d.Perm l) (hl : Apart l) (hd : d.Pairwise fun a b => Op.bytesLess b.name a.name = false) : d = sortA l :=
  rise_unique (hp.trans (sortA_perm l).symm) (sortA_rise hl) hd
instance : Inhabited AttrD := ⟨⟨[], []⟩⟩
theorem sorted_list {d d' : Array AttrD} (hp : Sort.PermIn 0 d.size d d') (hs : Sort.SortedIn (fun a b : AttrD => decide (nameC a b < 0)) 0 d.size d') (hl : Apart d.toList) : d'.toList = sortA d.toList := by
  obtain ⟨h1, _, h3⟩ := hp
  have e1 : d'.extract 0 d.size = d' := by rw [← h1, Array.extract_size]
  have e2 : d.extract 0 d.size = d := Array.extract_size
  rw [e1, e2] at h3
  refine sort_unique h3 hl (List.pairwise_iff_getElem.2 fun i j hi hj hij => ?_)
  have := hs i j (Nat.zero_le _) hij (by simp at hj; omega)
  unfold nameC at this
  simp only [cmp_less] at this
  simp only [Array.length_toList] at hi hj
  rw [getElem!_pos d' i hi, getElem!_pos d' j hj] at this
  simpa using this

/-! ## What is told of attributes -/
theorem any_name {bs : List AttrD} {n : List UInt8} (h : bs.any (fun a => decide (a.name = n)) = false) : ∀ b ∈ bs, b.name ≠ n := by
  intro b hb e
  have := List.any_eq_false.1 h b hb
  simp [e] at this
theorem apart_snoc {bs : List AttrD} {a : AttrD} (h : Apart bs) (hn : ∀ b ∈ bs, b.name ≠ a.name) : Apart (bs ++ [a]) := by
  refine List.pairwise_append.2 ⟨h, List.pairwise_singleton _ _, fun x hx y hy => ?_⟩
  simp at hy; subst hy; exact hn x hx

/-- what each of the attributes is made of -/
structure AttrFine (a : AttrD) : Prop where
  name : nameL a.name = true
  value : ∃ l, (undoL true l).2.2 = 0 ∧ (undoL true l).1 = a.value
  long : a.value.length ≤ 1500

theorem attrL_fine {l : List UInt8} {bs : List AttrD} {a : AttrD} {n : Nat} (h : attrL l bs = .ok a n) : AttrFine a ∧ bs.length < 20 ∧ ∀ b ∈ bs, b.name ≠ a.name := by
  unfold attrL at h
  simp only at h
  split at h
  · cases h
  rename_i h1
  split at h
  · cases h
  rename_i h2
  split at h
  · cases h
  rename_i h3
  split at h
  · cases h
  split at h
  · cases h
  unfold valueT at h
  simp only at h
  split at h
  · cases h
  split at h
  · cases h
  rename_i h4
  split at h
  · cases h
  rename_i h5
  injection h with h _
  subst h
  exact ⟨⟨by simpa using h1, ⟨_, by simpa using h4, rfl⟩, by simpa using h5⟩, by omega, any_name (by simpa using h3)⟩

structure AttrsFine (bs : List AttrD) : Prop where
  apart : Apart bs
  all : ∀ a ∈ bs, AttrFine a
  many : bs.length ≤ 20

theorem attrsFine_nil : AttrsFine [] := ⟨List.Pairwise.nil, fun _ h => (by cases h), by simp⟩
theorem attrsFine_snoc {l : List UInt8} {bs : List AttrD} {a : AttrD} {n : Nat} (hf : AttrsFine bs) (h : attrL l bs = .ok a n) : AttrsFine (bs ++ [a]) := by
  obtain ⟨h1, h2, h3⟩ := attrL_fine h
  refine ⟨apart_snoc hf.apart h3, fun b hb => ?_, by simp; omega⟩
  rcases List.mem_append.1 hb with hb | hb
  · exact hf.all b hb
  · simp at hb; subst hb; exact h1
theorem attrsF_fine : ∀ (f : Nat) (l : List UInt8) (bs : List AttrD) (q : Int × List AttrD) (n : Nat), AttrsFine bs → attrsF f l bs = .ok q n → AttrsFine q.2 ∧ (q.1 = 1 ∨ q.1 = 3)
  | 0, _, _, _, _, _, h => by cases h
  | f + 1, l, bs, q, n, hf, h => by
    rw [attrsF] at h
    split at h
    · injection h with h _; subst h; exact ⟨hf, .inl rfl⟩
    split at h
    · injection h with h _; subst h; exact ⟨hf, .inr rfl⟩
    split at h
    · cases h
    cases ha : attrL (l.drop (skipL l)) bs with
    | bad k e => rw [ha] at h; cases h
    | ok a m =>
      rw [ha] at h
      simp only at h
      cases hq : attrsF f ((l.drop (skipL l)).drop m) (bs ++ [a]) with
      | bad k e => rw [hq] at h; cases h
      | ok r k =>
        rw [hq] at h
        injection h with h _
        subst h
        exact attrsF_fine f _ _ _ _ (attrsFine_snoc hf ha) hq
theorem attrsL_fine {l : List UInt8} {bs : List AttrD} {q : Int × List AttrD} {n : Nat} (hf : AttrsFine bs) (h : attrsL l bs = .ok q n) : AttrsFine q.2 ∧ (q.1 = 1 ∨ q.1 = 3) := attrsF_fine _ _ _ _ _ hf h
end Go.Proofs.YtpfhdklbhhpbcaaDoor

/-
  The plain laws of tokens: what stands behind, blanks, rows, parts: no program in sight.
-/
namespace Go.Proofs.YtpfhdklbhhpbcaaDoor

/-! ## What stands behind is no matter -/
theorem takeWhile_more {α : Type} (p : α → Bool) : ∀ (l m : List α), (l.takeWhile p).length < l.length → (l ++ m).takeWhile p = l.takeWhile p
  | [], _, h => by simp at h
  | a :: l, m, h => by
    rw [List.cons_append, List.takeWhile_cons, List.takeWhile_cons] at *
    split
    · rename_i hp
      rw [if_pos hp] at h
      rw [takeWhile_more p l m (by simp at h; omega)]
    · rfl
theorem takeWhile_stop {α : Type} (p : α → Bool) : ∀ (l : List α) (m : List α), (∀ x t, m = x :: t → p x = false) → (l ++ m).takeWhile p = l.takeWhile p
  | [], [], _ => rfl
  | [], x :: t, h => by rw [List.nil_append, List.takeWhile_cons, h x t rfl]; rfl
  | a :: l, m, h => by
    rw [List.cons_append, List.takeWhile_cons, List.takeWhile_cons]
    split
    · rw [takeWhile_stop p l m h]
    · rfl
theorem takeWhile_twice {α : Type} (p : α → Bool) : ∀ l : List α, (l.takeWhile p).takeWhile p = l.takeWhile p
  | [] => rfl
  | a :: l => by
    rw [List.takeWhile_cons]
    split
    · rename_i h; rw [List.takeWhile_cons, if_pos h, takeWhile_twice p l]
    · rfl
theorem pre_more {p l m : List UInt8} (h : p.length ≤ l.length) : pre p (l ++ m) = pre p l := by
  unfold pre; rw [List.take_append_of_le_length h]
theorem drop_more {α : Type} {l : List α} {k : Nat} (m : List α) (h : k ≤ l.length) : (l ++ m).drop k = l.drop k ++ m := List.drop_append_of_le_length h

theorem wordL_more {l : List UInt8} (m : List UInt8) (h : (wordL l).length < l.length) : wordL (l ++ m) = wordL l := takeWhile_more _ _ _ h
theorem skipL_more {l : List UInt8} (m : List UInt8) (h : skipL l < l.length) : skipL (l ++ m) = skipL l := by
  unfold skipL; rw [takeWhile_more _ _ _ h]

theorem endT_more {l : List UInt8} {t : TokD} {n : Nat} (m : List UInt8) (h : endT l = .ok t n) : endT (l ++ m) = .ok t n := by
  have h0 := h
  unfold endT at h
  simp only at h
  split at h
  · cases h
  split at h
  · rename_i h1 h2
    have hk := pre1_len h2
    have hw := wordL_len l
    have e1 : wordL (l ++ m) = wordL l := wordL_more m (by omega)
    have e2 : skipL ((l ++ m).drop (wordL l).length) = skipL (l.drop (wordL l).length) := by
      rw [drop_more m hw]; exact skipL_more m (by rw [List.length_drop]; omega)
    rw [← h0]
    unfold endT
    simp only [e1, e2]
    rw [drop_more m (by omega), pre_more (by rw [List.length_drop]; simp; omega)]
  · cases h

theorem span_word (l : List UInt8) (p : UInt8 → Bool) : l = l.takeWhile p ++ l.drop (l.takeWhile p).length := by
  have h := List.takeWhile_append_dropWhile (p := p) (l := l)
  have h2 : l.dropWhile p = l.drop (l.takeWhile p).length := by
    conv => rhs; rw [← h]
    rw [show (List.takeWhile p (List.takeWhile p l ++ List.dropWhile p l)) = List.takeWhile p l by rw [h]]
    rw [List.drop_append_of_le_length (Nat.le_refl _), List.drop_length, List.nil_append]
  rw [← h2, h]
theorem pre_cons {c : UInt8} {l : List UInt8} (h : pre [c] l = true) : ∃ t, l = c :: t := by
  cases l with
  | nil => simp [pre] at h
  | cons a t =>
    have := eq_of_beq h
    simp at this
    exact ⟨t, by rw [this]⟩
theorem pre_cons2 {c d : UInt8} {l : List UInt8} (h : pre [c, d] l = true) : ∃ t, l = c :: d :: t := by
  match l, h with
  | [], h => simp [pre] at h
  | [a], h => simp [pre] at h
  | a :: b :: t, h =>
    have := eq_of_beq h
    simp at this
    exact ⟨t, by rw [this.1, this.2]⟩

/-- an attribute: the bytes that it is read of, the last of them a quote -/
theorem attrL_parts {l : List UInt8} {bs : List AttrD} {a : AttrD} {n : Nat} (h : attrL l bs = .ok a n) :
    ∃ u r, l = u ++ [34] ++ r ∧ u.length + 1 = n ∧ ∀ r', attrL (u ++ [34] ++ r') bs = .ok a n := by
  unfold attrL at h
  simp only at h
  split at h
  · cases h
  rename_i h1
  split at h
  · cases h
  rename_i h2
  split at h
  · cases h
  rename_i h3
  split at h
  · cases h
  rename_i h4
  split at h
  · cases h
  rename_i h5
  obtain ⟨t, ht⟩ := pre_cons (by simpa using h4)
  obtain ⟨t', ht'⟩ := pre_cons (by simpa using h5)
  have hl := span_word l nb
  have e1 : l.drop ((wordL l).length + 1) = t := by rw [← List.drop_drop, ht]; rfl
  rw [e1] at ht'
  have e2 : l.drop ((wordL l).length + 2) = t' := by
    rw [show (wordL l).length + 2 = (wordL l).length + 1 + 1 from rfl, ← List.drop_drop, e1, ht']; rfl
  rw [e2] at h
  unfold valueT at h
  simp only at h
  split at h
  · cases h
  rename_i h6
  split at h
  · cases h
  rename_i h7
  split at h
  · cases h
  rename_i h8
  have hv := takeWhile_len (· != 34) t'
  obtain ⟨x, r, hx⟩ : ∃ x r, t'.drop (t'.takeWhile (· != 34)).length = x :: r := by
    cases hd : t'.drop (t'.takeWhile (· != 34)).length with
    | nil => have := congrArg List.length hd; simp at this; omega
    | cons x r => exact ⟨x, r, rfl⟩
  have hsp := span_word t' (· != 34)
  have hx34 : x = 34 := by
    have hd : t'.dropWhile (· != 34) = x :: r := by
      have h' := List.takeWhile_append_dropWhile (p := (· != 34)) (l := t')
      have := h'.trans hsp
      rw [hx] at this
      exact List.append_cancel_left this
    have := List.head?_dropWhile_not (· != 34) t'
    rw [hd] at this
    simpa using this
  subst hx34
  rw [hx] at hsp
  have hfull : l = wordL l ++ 61 :: 34 :: (t'.takeWhile (· != 34)) ++ [34] ++ r := by
    conv => lhs; rw [hl]
    show wordL l ++ l.drop (wordL l).length = _
    rw [ht, ht', hsp]
    simp [hsp.symm]
  refine ⟨wordL l ++ 61 :: 34 :: (t'.takeWhile (· != 34)), r, hfull, ?_, fun r' => ?_⟩
  · injection h with _ h; simp; omega
  · have f0 : ∀ y : List UInt8, (wordL l ++ 61 :: y).takeWhile nb = wordL l := fun y => by
      rw [takeWhile_stop nb _ _ (fun x t e => by injection e with e _; subst e; rfl)]
      unfold wordL
      exact takeWhile_twice nb l
    have g0 : ∀ y : List UInt8, (t'.takeWhile (· != 34) ++ 34 :: y).takeWhile (· != 34) = t'.takeWhile (· != 34) := fun y => by
      rw [takeWhile_stop _ _ _ (fun x t e => by injection e with e _; subst e; rfl)]
      exact takeWhile_twice _ t'
    have f1 : wordL (wordL l ++ 61 :: 34 :: (t'.takeWhile (· != 34)) ++ [34] ++ r') = wordL l := by
      rw [List.append_assoc, List.append_assoc]; exact f0 _
    unfold attrL
    simp only [f1]
    rw [if_neg h1, if_neg h2, if_neg h3]
    have d0 : (wordL l ++ 61 :: 34 :: (t'.takeWhile (· != 34)) ++ [34] ++ r').drop (wordL l).length = 61 :: 34 :: (t'.takeWhile (· != 34) ++ 34 :: r') := by
      rw [List.append_assoc, List.append_assoc, List.drop_append_of_le_length (Nat.le_refl _), List.drop_length]; simp
    have d1 : (wordL l ++ 61 :: 34 :: (t'.takeWhile (· != 34)) ++ [34] ++ r').drop ((wordL l).length + 1) = 34 :: (t'.takeWhile (· != 34) ++ 34 :: r') := by
      rw [← List.drop_drop, d0]; rfl
    have d2 : (wordL l ++ 61 :: 34 :: (t'.takeWhile (· != 34)) ++ [34] ++ r').drop ((wordL l).length + 2) = t'.takeWhile (· != 34) ++ 34 :: r' := by
      rw [show (wordL l).length + 2 = (wordL l).length + 1 + 1 from rfl, ← List.drop_drop, d1]; rfl
    rw [d0, d1, d2, if_neg (by simp [pre]), if_neg (by simp [pre])]
    unfold valueT
    simp only [g0]
    rw [if_neg (by simp), if_neg h7, if_neg h8]
    exact h
theorem attrL_more {l : List UInt8} {bs : List AttrD} {a : AttrD} {n : Nat} (m : List UInt8) (h : attrL l bs = .ok a n) : attrL (l ++ m) bs = .ok a n := by
  obtain ⟨u, r, hl, _, ha⟩ := attrL_parts h
  rw [hl, List.append_assoc]; exact ha _

theorem attrsF_past (m : List UInt8) : ∀ (f g : Nat) (l : List UInt8) (bs : List AttrD) (q : Int × List AttrD) (n : Nat), f ≤ g → attrsF f l bs = .ok q n → attrsF g (l ++ m) bs = .ok q n
  | 0, _, _, _, _, _, _, h => by cases h
  | f + 1, 0, _, _, _, _, hg, _ => by omega
  | f + 1, g + 1, l, bs, q, n, hg, h => by
    have h0 := h
    have hin := attrsF_within (f + 1) l bs
    rw [h] at hin
    rw [attrsF] at h
    have hsk := skipL_len l
    by_cases hb : skipL l = l.length
    · exfalso
      have : l.drop (skipL l) = [] := by rw [hb]; exact List.drop_length
      rw [this] at h
      rw [if_neg (by simp [pre]), if_neg (by simp [pre]), if_pos (.inr rfl)] at h
      cases h
    have e1 : skipL (l ++ m) = skipL l := skipL_more m (by omega)
    have e2 : (l ++ m).drop (skipL l) = l.drop (skipL l) ++ m := drop_more m hsk
    have e3 : pre [62] (l.drop (skipL l) ++ m) = pre [62] (l.drop (skipL l)) := pre_more (by rw [List.length_drop]; simp; omega)
    rw [attrsF]
    simp only [e1, e2, e3]
    split at h
    · rename_i h1; rw [if_pos h1]; exact h
    rename_i h1
    rw [if_neg h1]
    split at h
    · rename_i h2
      rw [pre_more (pre_len h2), if_pos h2]; exact h
    rename_i h2
    split at h
    · cases h
    rename_i h3
    cases ha : attrL (l.drop (skipL l)) bs with
    | bad k e => rw [ha] at h; cases h
    | ok a k =>
      rw [ha] at h
      have hw := attrL_within (l.drop (skipL l)) bs
      rw [ha, List.length_drop] at hw
      obtain ⟨w1, w2⟩ := hw
      rw [pre_more (by rw [List.length_drop]; simp; omega), if_neg h2, if_neg (by
        intro hh
        rcases hh with hh | hh
        · exact h3 (.inl hh)
        · exact h3 (.inr (List.append_eq_nil_iff.1 hh).1))]
      rw [attrL_more m ha]
      simp only at h ⊢
      rw [drop_more m (by rw [List.length_drop]; omega)]
      cases hq : attrsF f ((l.drop (skipL l)).drop k) (bs ++ [a]) with
      | bad k e => rw [hq] at h; cases h
      | ok r j => rw [hq] at h; rw [attrsF_past m f g _ _ _ _ (by omega) hq]; exact h
theorem beginT_more {l : List UInt8} {t : TokD} {n : Nat} (m : List UInt8) (h : beginT l = .ok t n) : beginT (l ++ m) = .ok t n := by
  unfold beginT at h
  simp only at h
  split at h
  · cases h
  rename_i h1
  cases hq : attrsF (l.length + 1) (l.drop (wordL l).length) [] with
  | bad k e => rw [hq] at h; cases h
  | ok q k =>
    rw [hq] at h
    have hw := attrsF_within (l.length + 1) (l.drop (wordL l).length) []
    rw [hq, List.length_drop] at hw
    obtain ⟨w1, w2⟩ := hw
    have e1 : wordL (l ++ m) = wordL l := wordL_more m (by omega)
    unfold beginT
    simp only [e1]
    rw [if_neg h1, drop_more m (wordL_len l), attrsF_past m (l.length + 1) _ _ _ _ _ (by simp) hq]
    exact h
theorem oneT_more {l : List UInt8} {t : TokD} {n : Nat} (m : List UInt8) (h : oneT l = .ok t n) (hk : t.kind ≠ 4) : oneT (l ++ m) = .ok t n := by
  unfold oneT at h
  split at h
  · rename_i h1
    unfold oneT
    rw [pre_more (pre_len h1), if_pos h1, drop_more m (by have := pre_len h1; simpa using this)]
    cases he : endT (l.drop 2) with
    | bad k e => rw [he] at h; cases h
    | ok u k => rw [he] at h; rw [endT_more m he]; exact h
  · rename_i h1
    split at h
    · rename_i h2
      cases hb : beginT (l.drop 1) with
      | bad k e => rw [hb] at h; cases h
      | ok u k =>
        rw [hb] at h
        have hw := beginT_within (l.drop 1)
        rw [hb, List.length_drop] at hw
        obtain ⟨w1, w2⟩ := hw
        unfold oneT
        rw [pre_more (by simp; omega), if_neg h1, pre_more (pre_len h2), if_pos h2, drop_more m (by omega), beginT_more m hb]; exact h
    · exfalso
      unfold textT at h
      simp only at h
      split at h
      · cases h
      split at h
      · cases h
      · injection h with h _; subst h; exact hk rfl
end Go.Proofs.YtpfhdklbhhpbcaaDoor
