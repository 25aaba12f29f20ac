/-
  The plain law of documents as texts: no program in sight.
-/
import Derived.Test.YthifddkmbjnncaaNormPlain
import Derived.Test.YthifddkmbjnncaaEscPlain
namespace Go.Proofs.Ythifddkmbjnncaa

def escT (t : List UInt8) : List UInt8 := (escL false t).getD []
def escV (t : List UInt8) : List UInt8 := (escL true t).getD []
def attrT (a : AttrD) : List UInt8 := [32] ++ a.name ++ [61, 34] ++ escV a.value ++ [34]
def tagL (x : ItemD) : List UInt8 := [60] ++ x.name ++ x.attrs.flatMap attrT
def kidsOf (c : Int) (r : List ItemD) : List ItemD := r.takeWhile fun y => decide (c < y.level)
def pastOf (c : Int) (r : List ItemD) : List ItemD := r.dropWhile fun y => decide (c < y.level)
theorem kids_past (c : Int) (r : List ItemD) : kidsOf c r ++ pastOf c r = r := List.takeWhile_append_dropWhile
theorem kidsOf_le (c : Int) (r : List ItemD) : (kidsOf c r).length ≤ r.length := by
  have := congrArg List.length (kids_past c r)
  rw [List.length_append] at this; omega
theorem pastOf_le (c : Int) (r : List ItemD) : (pastOf c r).length ≤ r.length := by
  have := congrArg List.length (kids_past c r)
  rw [List.length_append] at this; omega
theorem past_drop (c : Int) (r : List ItemD) : pastOf c r = r.drop (kidsOf c r).length := by
  have h := kids_past c r
  have : (kidsOf c r ++ pastOf c r).drop (kidsOf c r).length = pastOf c r := List.drop_left
  rw [h] at this; exact this.symm
theorem kids_take (c : Int) (r : List ItemD) : kidsOf c r = r.take (kidsOf c r).length := by
  have h := kids_past c r
  have : (kidsOf c r ++ pastOf c r).take (kidsOf c r).length = kidsOf c r := List.take_left
  rw [h] at this; exact this.symm
theorem kids_mem (c : Int) : ∀ (r : List ItemD), ∀ y ∈ kidsOf c r, c < y.level
  | [], y, h => by cases h
  | x :: r, y, h => by
    unfold kidsOf at h
    rw [List.takeWhile_cons] at h
    split at h
    · rename_i hx
      rcases List.mem_cons.1 h with rfl | h
      · exact of_decide_eq_true hx
      · exact kids_mem c r y h
    · cases h
theorem past_head (c : Int) : ∀ (r : List ItemD) (y : ItemD) (s : List ItemD), pastOf c r = y :: s → y.level ≤ c
  | [], y, s, h => by cases h
  | x :: r, y, s, h => by
    unfold pastOf at h
    rw [List.dropWhile_cons] at h
    split at h
    · exact past_head c r y s h
    · rename_i hx
      injection h with h1 _
      subst h1
      have := of_decide_eq_false (by simpa using hx : decide (c < x.level) = false)
      omega
/-- what stands in front of what is no kid -/
theorem kids_app (c : Int) : ∀ (s rest : List ItemD), (∀ y r, rest = y :: r → y.level ≤ c) → kidsOf c (s ++ rest) = kidsOf c s
  | [], rest, h => by
    cases rest with
    | nil => rfl
    | cons y r =>
      have := h y r rfl
      show List.takeWhile _ (y :: r) = _
      rw [List.takeWhile_cons, if_neg (by simp; omega)]; rfl
  | x :: s, rest, h => by
    show List.takeWhile _ (x :: (s ++ rest)) = List.takeWhile _ (x :: s)
    rw [List.takeWhile_cons, List.takeWhile_cons]
    have := kids_app c s rest h
    unfold kidsOf at this
    rw [this]

/-- an item with what is in it -/
def nodeL (x : ItemD) (kids : List ItemD) (inner : List UInt8) : List UInt8 :=
  if x.kind = 2 then escT x.text else if kids = [] then tagL x ++ [47, 62] else tagL x ++ [62] ++ inner ++ ([60, 47] ++ x.name ++ [62])
/-- items side by side -/
def pr : List ItemD → List UInt8
  | [] => []
  | x :: r => nodeL x (kidsOf x.level r) (pr (kidsOf x.level r)) ++ pr (pastOf x.level r)
termination_by l => l.length
decreasing_by
  · have := kidsOf_le x.level r; simp; omega
  · have := pastOf_le x.level r; simp; omega
theorem pr_nil : pr [] = [] := by rw [pr]
theorem pr_cons (x : ItemD) (r : List ItemD) : pr (x :: r) = nodeL x (kidsOf x.level r) (pr (kidsOf x.level r)) ++ pr (pastOf x.level r) := by rw [pr]
/-- an item of a row, with what is in it -/
def nodeAt (l : List ItemD) (k : Nat) : List UInt8 := match l.drop k with
  | [] => []
  | x :: r => nodeL x (kidsOf x.level r) (pr (kidsOf x.level r))
/-- the number behind an item of a row -/
def endN (l : List ItemD) (k : Nat) : Nat := match l.drop k with
  | [] => 0
  | x :: r => k + 1 + (kidsOf x.level r).length

theorem endN_eq {l : List ItemD} {k : Nat} {x : ItemD} (hx : l[k]? = some x) : endN l k = k + 1 + (kidsOf x.level (l.drop (k + 1))).length := by
  unfold endN; rw [drop_cons hx]
theorem nodeAt_eq {l : List ItemD} {k : Nat} {x : ItemD} (hx : l[k]? = some x) : nodeAt l k = nodeL x (kidsOf x.level (l.drop (k + 1))) (pr (kidsOf x.level (l.drop (k + 1)))) := by
  unfold nodeAt; rw [drop_cons hx]
/-- what is in an item: its numbers are those from the next one on, up to its end -/
theorem kids_seg {l : List ItemD} {k : Nat} {x : ItemD} (hx : l[k]? = some x) : kidsOf x.level (l.drop (k + 1)) = (l.drop (k + 1)).take (endN l k - (k + 1)) := by
  have h := kids_take x.level (l.drop (k + 1))
  rw [endN_eq hx, show k + 1 + (kidsOf x.level (l.drop (k + 1))).length - (k + 1) = (kidsOf x.level (l.drop (k + 1))).length by omega]
  exact h
theorem endN_le {l : List ItemD} {k : Nat} {x : ItemD} (hx : l[k]? = some x) : k < endN l k ∧ endN l k ≤ l.length := by
  have h := kidsOf_le x.level (l.drop (k + 1))
  have hk : k < l.length := (List.getElem?_eq_some_iff.1 hx).1
  rw [endN_eq hx]
  rw [List.length_drop] at h
  omega
theorem seg_step {l : List ItemD} {k n : Nat} {x y : ItemD} (hx : l[k]? = some x) (hkn : k < n) (hn : n < endN l k) (hy : l[n]? = some y) :
    n < endN l n ∧ endN l n ≤ endN l k ∧ pr ((l.drop n).take (endN l k - n)) = nodeAt l n ++ pr ((l.drop (endN l n)).take (endN l k - endN l n)) := by
  obtain ⟨E, hE⟩ : ∃ E, endN l k = E := ⟨_, rfl⟩
  have hEl := (endN_le hx).2
  have hseg := kids_seg hx
  rw [hE] at hn hEl hseg ⊢
  -- what stands between, and behind
  have hyl : x.level < y.level := by
    refine kids_mem x.level (l.drop (k + 1)) y ?_
    rw [hseg]
    refine List.mem_of_getElem? (i := n - (k + 1)) ?_
    rw [List.getElem?_take, if_pos (by omega), List.getElem?_drop, show k + 1 + (n - (k + 1)) = n by omega]
    exact hy
  have hsplit : l.drop (n + 1) = (l.drop (n + 1)).take (E - (n + 1)) ++ l.drop E := by
    have := (List.take_append_drop (E - (n + 1)) (l.drop (n + 1))).symm
    rw [List.drop_drop, show n + 1 + (E - (n + 1)) = E by omega] at this
    exact this
  have hpast : pastOf x.level (l.drop (k + 1)) = l.drop E := by
    rw [past_drop, List.drop_drop]
    congr 1
    rw [← hE, endN_eq hx]
  have hrest : ∀ z r, l.drop E = z :: r → z.level ≤ y.level := fun z r h => by
    have := past_head x.level (l.drop (k + 1)) z r (by rw [hpast]; exact h)
    omega
  obtain ⟨s, hs⟩ : ∃ s, (l.drop (n + 1)).take (E - (n + 1)) = s := ⟨_, rfl⟩
  rw [hs] at hsplit
  have hkids : kidsOf y.level (l.drop (n + 1)) = kidsOf y.level s := by rw [hsplit]; exact kids_app _ _ _ hrest
  have hsl : s.length = E - (n + 1) := by rw [← hs, List.length_take, List.length_drop]; omega
  have hkl := kidsOf_le y.level s
  have hend : endN l n = n + 1 + (kidsOf y.level s).length := by rw [endN_eq hy, hkids]
  refine ⟨by omega, by omega, ?_⟩
  have hseg' : (l.drop n).take (E - n) = y :: s := by
    rw [drop_cons hy, show E - n = (E - (n + 1)) + 1 by omega, List.take_succ_cons, hs]
  rw [hseg', pr_cons, nodeAt_eq hy, hkids, past_drop, hend]
  congr 2
  rw [← hs, List.drop_take, List.drop_drop]
  congr 1
  omega

def printL (l : List ItemD) : List UInt8 × Int := if (checkL l).2 = 0 then (nodeAt (normalL l) 0, 0) else ([], (checkL l).2)
end Go.Proofs.Ythifddkmbjnncaa
