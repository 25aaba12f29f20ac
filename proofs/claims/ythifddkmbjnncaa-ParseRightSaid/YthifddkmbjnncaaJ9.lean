/-
  Texts of this claim, joined (by a program of the claim's author): ParseLaw, PRd, Close, Add, Take.
-/
import Derived.Test.YthifddkmbjnncaaJ8
import Derived.Test.YthifddkmbjnncaaJ7
import Derived.ArgAppend
/-
  The plain laws of documents that were read: wrapped in an element; where each item stands. No program in sight.
-/
namespace Go.Proofs.Ythifddkmbjnncaa

/-! ## A document in an element -/
def bump (x : ItemD) : ItemD := { x with level := x.level + 1 }
def wItem : ItemD := ⟨0, 1, [119], [], []⟩
def wEnd : List UInt8 := [60, 47, 119, 62]

theorem oneT_w : oneT [60, 119, 62] = .ok ⟨1, [119], [], []⟩ 3 := by decide +kernel
theorem oneT_wend : oneT wEnd = .ok ⟨2, [119], [], []⟩ 4 := by decide +kernel

theorem oneT_end {l : List UInt8} {t : TokD} {n : Nat} (hl : l ≠ []) (h : oneT l = .ok t n) : oneT (l ++ wEnd) = .ok t n := by
  by_cases hk : t.kind = 4
  · rcases oneT_fine h with ⟨_, _, _, h60, _⟩ | ⟨hk', _⟩ | ⟨hk', _⟩
    · cases l with
      | nil => exact absurd rfl hl
      | cons a r =>
        have ha : a ≠ 60 := by
          intro e; subst e; simp [pre] at h60
        have p1 : ∀ x, pre [60, 47] (a :: x) = false := fun x => by
          cases x <;> simp [pre, ha]
        have p2 : ∀ x, pre [60] (a :: x) = false := fun x => by simp [pre, ha]
        unfold oneT at h ⊢
        rw [List.cons_append]
        simp only [p1, p2, Bool.false_eq_true, if_false] at h ⊢
        rw [← h]
        unfold textT
        rw [← List.cons_append, takeWhile_stop _ _ _ (fun x t e => by unfold wEnd at e; injection e with e _; subst e; rfl)]
    · omega
    · omega
  · exact oneT_more wEnd h hk

theorem take_wrap {items : List ItemD} {o : List (List UInt8)} {t : TokD} {q : List ItemD × List (List UInt8)} (h : takeT items o t = .inr q) :
    takeT (wItem :: items.map bump) ([119] :: o) t = .inr (wItem :: q.1.map bump, [119] :: q.2) ∨
    (takeT (wItem :: items.map bump) ([119] :: o) t = .inl 42 ∨ takeT (wItem :: items.map bump) ([119] :: o) t = .inl 43) ∧ ((∃ x ∈ q.1, 39 ≤ x.level) ∨ 1000 ≤ q.1.length) := by
  unfold takeT at h
  split at h
  · rename_i hk
    split at h
    · rename_i hl
      injection h with h
      subst h
      left
      cases o with
      | nil => simp at hl
      | cons a o =>
        unfold takeT
        rw [if_pos hk, if_pos (by rw [List.getLast?_cons_cons]; exact hl), List.dropLast_cons_cons]
    · cases h
  rename_i hk
  split at h
  · cases h
  rename_i he
  injection h with h
  subst h
  have hlev : (itemOf o.length t).level = o.length := by unfold itemOf; split <;> rfl
  have hb : bump (itemOf o.length t) = itemOf ([119] :: o).length t := by
    unfold itemOf bump
    split <;> simp
  have ha : addE (wItem :: items.map bump) ([119] :: o) t.kind = if 39 ≤ o.length then 42 else if 999 ≤ items.length then 43 else 0 := by
    unfold addE
    rw [if_neg (by intro h; exact absurd h.1 (by simp))]
    simp only [List.length_cons, List.length_map]
    by_cases h1 : 39 ≤ o.length
    · rw [if_pos (by omega), if_pos h1]
    · rw [if_neg (by omega), if_neg h1]
      by_cases h2 : 999 ≤ items.length
      · rw [if_pos (by omega), if_pos h2]
      · rw [if_neg (by omega), if_neg h2]
  unfold takeT
  rw [if_neg hk, ha]
  by_cases h1 : 39 ≤ o.length
  · right
    rw [if_pos h1, if_pos (by decide)]
    exact ⟨.inl rfl, .inl ⟨_, List.mem_append_right _ (List.mem_singleton.2 rfl), by rw [hlev]; omega⟩⟩
  · rw [if_neg h1]
    by_cases h2 : 999 ≤ items.length
    · right
      rw [if_pos h2, if_pos (by decide)]
      exact ⟨.inr rfl, .inr (by simp; omega)⟩
    · left
      rw [if_neg h2, if_neg (by decide)]
      rw [← hb]
      simp only [List.map_append, List.map_cons, List.map_nil, List.cons_append, Sum.inr.injEq, Prod.mk.injEq, true_and]
      split <;> simp

theorem parse_prefix : ∀ (k : Nat) (l : List UInt8) (at_ : Nat) (items : List ItemD) (o : List (List UInt8)), l.length ≤ k → (parseL at_ l items o).2.2 = 0 → items <+: (parseL at_ l items o).1 ∧ (parseL at_ l items o).2.1 = 0
  | k, l, at_, items, o, hk, h => by
    by_cases hl : l = []
    · subst hl
      rw [parseL_nil] at h ⊢
      unfold endP at h ⊢
      split at h
      · cases h
      rename_i hne
      rw [if_neg hne]
      split at h
      · cases h
      rename_i ho
      rw [if_neg ho]
      exact ⟨List.prefix_refl _, rfl⟩
    · cases ho : oneT l with
      | bad j e =>
        exfalso
        rw [parseL_bad at_ l items o hl j e ho] at h
        have := oneT_within l hl
        rw [ho] at this
        exact this.2 h
      | ok t n =>
        have hw := oneT_within l hl
        rw [ho] at hw
        obtain ⟨hw1, hw2⟩ := hw
        cases ht : takeT items o t with
        | inl e =>
          exfalso
          rw [parseL_no at_ l items o hl t n ho e ht] at h
          have he : e = 0 := h
          subst he
          unfold takeT at ht
          split at ht
          · split at ht
            · cases ht
            · injection ht with ht; omega
          · split at ht
            · rename_i hne; injection ht with ht; exact hne ht
            · cases ht
        | inr q =>
          rw [parseL_step at_ l items o hl t n ho q ht] at h ⊢
          match k, hk with
          | 0, hk => exact absurd (List.eq_nil_of_length_eq_zero (by omega)) hl
          | k + 1, hk =>
            obtain ⟨h1, h2⟩ := parse_prefix k (l.drop n) (at_ + n) q.1 q.2 (by rw [List.length_drop]; omega) h
            refine ⟨List.IsPrefix.trans ?_ h1, h2⟩
            unfold takeT at ht
            split at ht
            · split at ht
              · injection ht with ht; subst ht; exact List.prefix_refl _
              · cases ht
            · split at ht
              · cases ht
              · injection ht with ht; subst ht; exact List.prefix_append _ _

theorem parse_wrap : ∀ (k : Nat) (l : List UInt8) (at_ at' : Nat) (items : List ItemD) (o : List (List UInt8)), l.length ≤ k → (parseL at_ l items o).2.2 = 0 →
    parseL at' (l ++ wEnd) (wItem :: items.map bump) ([119] :: o) = (wItem :: (parseL at_ l items o).1.map bump, 0, 0) ∨
    ((parseL at' (l ++ wEnd) (wItem :: items.map bump) ([119] :: o)).2.2 = 42 ∨ (parseL at' (l ++ wEnd) (wItem :: items.map bump) ([119] :: o)).2.2 = 43) ∧ ((∃ x ∈ (parseL at_ l items o).1, 39 ≤ x.level) ∨ 1000 ≤ (parseL at_ l items o).1.length)
  | k, l, at_, at', items, o, hk, h => by
    by_cases hl : l = []
    · subst hl
      left
      rw [parseL_nil] at h ⊢
      unfold endP at h ⊢
      split at h
      · cases h
      rename_i hne
      rw [if_neg hne]
      split at h
      · cases h
      rename_i ho
      rw [if_neg ho]
      have ho : o = [] := by simpa using ho
      subst ho
      rw [List.nil_append, parseL_step at' wEnd _ _ (by decide) _ _ oneT_wend (wItem :: items.map bump, []) (by unfold takeT; rw [if_pos rfl, if_pos (by decide)]; rfl)]
      rw [show wEnd.drop 4 = [] from rfl, parseL_nil]
      unfold endP
      rw [if_neg (by simp), if_neg (by simp)]
    · have hla : l ++ wEnd ≠ [] := by simp [hl]
      cases ho : oneT l with
      | bad j e =>
        exfalso
        rw [parseL_bad at_ l items o hl j e ho] at h
        have := oneT_within l hl
        rw [ho] at this
        exact this.2 h
      | ok t n =>
        have hw := oneT_within l hl
        rw [ho] at hw
        obtain ⟨hw1, hw2⟩ := hw
        have ho' := oneT_end hl ho
        cases ht : takeT items o t with
        | inl e =>
          exfalso
          rw [parseL_no at_ l items o hl t n ho e ht] at h
          have he : e = 0 := h
          subst he
          unfold takeT at ht
          split at ht
          · split at ht
            · cases ht
            · injection ht with ht; omega
          · split at ht
            · rename_i hne; injection ht with ht; exact hne ht
            · cases ht
        | inr q =>
          rw [parseL_step at_ l items o hl t n ho q ht] at h ⊢
          match k, hk with
          | 0, hk => exact absurd (List.eq_nil_of_length_eq_zero (by omega)) hl
          | k + 1, hk =>
            rcases take_wrap ht with hq | ⟨he, hd⟩
            · rw [parseL_step at' _ _ _ hla t n ho' _ hq, drop_more wEnd hw2]
              exact parse_wrap k (l.drop n) (at_ + n) (at' + n) q.1 q.2 (by rw [List.length_drop]; omega) h
            · right
              obtain ⟨hpre, _⟩ := parse_prefix k (l.drop n) (at_ + n) q.1 q.2 (by rw [List.length_drop]; omega) h
              refine ⟨?_, ?_⟩
              · rcases he with he | he
                · left; rw [parseL_no at' _ _ _ hla t n ho' _ he]
                · right; rw [parseL_no at' _ _ _ hla t n ho' _ he]
              · rcases hd with ⟨x, hx, hx39⟩ | hd
                · exact .inl ⟨x, hpre.subset hx, hx39⟩
                · exact .inr (Nat.le_trans hd hpre.length_le)

def wrapT (l : List UInt8) : List UInt8 := [60, 119, 62] ++ l ++ wEnd
theorem parse_wraps {l : List UInt8} (h : (parseL 0 l [] []).2.2 = 0) :
    (parseL 0 (wrapT l) [] [] = (wItem :: (parseL 0 l [] []).1.map bump, 0, 0) ∧ (∀ x ∈ (parseL 0 l [] []).1, x.level + 1 < 40) ∧ (parseL 0 l [] []).1.length + 1 ≤ 1000) ∨
    ((parseL 0 (wrapT l) [] []).2.2 = 42 ∨ (parseL 0 (wrapT l) [] []).2.2 = 43) ∧ ((∃ x ∈ (parseL 0 l [] []).1, 39 ≤ x.level) ∨ 1000 ≤ (parseL 0 l [] []).1.length) := by
  have h1 : parseL 0 (wrapT l) [] [] = parseL 3 (l ++ wEnd) [wItem] [[119]] := by
    have ho : oneT (wrapT l) = .ok ⟨1, [119], [], []⟩ 3 := by
      unfold wrapT; rw [List.append_assoc]; exact oneT_more _ oneT_w (by decide)
    rw [parseL_step 0 (wrapT l) [] [] (by unfold wrapT; simp) _ _ ho ([wItem], [[119]]) rfl]
    rfl
  have hw := parse_wrap l.length l 0 3 [] [] (Nat.le_refl _) h
  rw [List.map_nil, ← h1] at hw
  rcases hw with hw | hw
  · left
    have hc := parse_check (wrapT l).length (wrapT l) 0 [] [] (Nat.le_refl _) read_nil (by rw [hw])
    rw [hw] at hc
    have hd := checkL_ok (by rw [hc])
    refine ⟨hw, fun x hx => ?_, by have := hd.many; simpa using this⟩
    obtain ⟨j, hj⟩ := List.mem_iff_getElem?.1 hx
    have hb : (wItem :: (parseL 0 l [] []).1.map bump)[j + 1]? = some (bump x) := by simp [hj]
    have h0 := (oneE_zero (hd.one (j + 1) _ hb)).1
    obtain ⟨p, hp⟩ : ∃ p, prevOf (wItem :: (parseL 0 l [] []).1.map bump) (j + 1) = some p := by
      have hlt := (List.getElem?_eq_some_iff.1 hb).1
      exact ⟨_, prevOf_succ (List.getElem?_eq_getElem (by omega))⟩
    rw [hp] at h0
    unfold placeE at h0
    simp only at h0
    split at h0
    · omega
    split at h0
    · omega
    · rename_i h40
      simp only [bump] at h40
      omega
  · exact .inr hw

/-! ## Where each item stands -/
theorem endN_in {l : List ItemD} {k n : Nat} {x y : ItemD} (hx : l[k]? = some x) (hk : k < n) (hn : n < endN l k) (hy : l[n]? = some y) : x.level < y.level := by
  rw [endN_eq hx] at hn
  refine kids_mem x.level (l.drop (k + 1)) y ?_
  rw [kids_take]
  refine List.mem_iff_getElem?.2 ⟨n - (k + 1), ?_⟩
  rw [List.getElem?_take, if_pos (by omega), List.getElem?_drop]
  rw [show k + 1 + (n - (k + 1)) = n by omega]; exact hy
theorem endN_out {l : List ItemD} {k : Nat} {x y : ItemD} (hx : l[k]? = some x) (hy : l[endN l k]? = some y) : y.level ≤ x.level := by
  rw [endN_eq hx] at hy
  have hd := past_drop x.level (l.drop (k + 1))
  rw [List.drop_drop] at hd
  have hh := drop_cons hy
  rw [hh] at hd
  exact past_head x.level _ y _ hd

/-- the innermost item that stands ahead of the place n and is less deep than c; -1: none -/
def parN (l : List ItemD) (c : Int) : Nat → Int
  | 0 => -1
  | n + 1 => match l[n]? with
    | some x => if x.level < c then n else parN l c n
    | none => parN l c n
theorem parN_spec (l : List ItemD) (c : Int) : ∀ k, k ≤ l.length → (parN l c k = -1 ∧ ∀ n x, n < k → l[n]? = some x → c ≤ x.level) ∨ (∃ p x, parN l c k = (p : Nat) ∧ p < k ∧ l[p]? = some x ∧ x.level < c ∧ ∀ n y, p < n → n < k → l[n]? = some y → c ≤ y.level)
  | 0, _ => .inl ⟨rfl, fun n x h _ => by omega⟩
  | k + 1, hk => by
    have hx : l[k]? = some l[k] := List.getElem?_eq_getElem _
    by_cases hc : l[k].level < c
    · right
      refine ⟨k, l[k], ?_, by omega, hx, hc, fun n y h1 h2 _ => by omega⟩
      rw [parN, hx]; simp only; rw [if_pos hc]
    · have e : parN l c (k + 1) = parN l c k := by rw [parN, hx]; simp only; rw [if_neg hc]
      rw [e]
      rcases parN_spec l c k (by omega) with ⟨h1, h2⟩ | ⟨p, x, h1, h2, h3, h4, h5⟩
      · left
        refine ⟨h1, fun n x hn hx' => ?_⟩
        by_cases hnk : n = k
        · subst hnk; rw [hx] at hx'; injection hx' with hx'; subst hx'; omega
        · exact h2 n x (by omega) hx'
      · right
        refine ⟨p, x, h1, by omega, h3, h4, fun n y hn1 hn2 hy => ?_⟩
        by_cases hnk : n = k
        · subst hnk; rw [hx] at hy; injection hy with hy; subst hy; omega
        · exact h5 n y hn1 (by omega) hy

theorem Doc.kind {l : List ItemD} (h : Doc l) {k : Nat} {x : ItemD} (hx : l[k]? = some x) : x.kind = 1 ∨ x.kind = 2 := by
  have h0 := (oneE_zero (h.one k x hx)).2
  unfold partsE at h0
  split at h0
  · rename_i h; exact .inr h.1
  split at h0
  · omega
  · rename_i h1
    left
    by_cases h2 : x.kind = 1
    · exact h2
    · exact absurd (.inl h2) h1
theorem Doc.shape0 {l : List ItemD} (h : Doc l) : endN l 0 = l.length := by
  obtain ⟨x, r, rfl, hx, _⟩ := h.first
  have hx0 : (x :: r)[0]? = some x := rfl
  have hle := endN_le hx0
  rcases Nat.lt_or_ge (endN (x :: r) 0) (x :: r).length with hlt | hge
  · have hy : (x :: r)[endN (x :: r) 0]? = some (x :: r)[endN (x :: r) 0] := List.getElem?_eq_getElem hlt
    have h1 := endN_out hx0 hy
    obtain ⟨j, hj⟩ : ∃ j, endN (x :: r) 0 = j + 1 := ⟨endN (x :: r) 0 - 1, by omega⟩
    have hm : (x :: r)[endN (x :: r) 0] ∈ r := by
      have : (x :: r)[endN (x :: r) 0]? = r[j]? := by rw [hj]; simp
      rw [this] at hy
      exact List.mem_of_getElem? hy
    have := h.below rfl _ hm
    omega
  · omega
theorem Doc.shape {l : List ItemD} (h : Doc l) {k : Nat} {x : ItemD} (hk : 0 < k) (hx : l[k]? = some x) :
    ∃ p y, parN l x.level k = (p : Nat) ∧ p < k ∧ l[p]? = some y ∧ y.kind = 1 ∧ y.level = x.level - 1 ∧ endN l k ≤ endN l p := by
  have hkl := (List.getElem?_eq_some_iff.1 hx).1
  obtain ⟨k', rfl⟩ : ∃ k', k = k' + 1 := ⟨k - 1, by omega⟩
  have hxl : 1 ≤ x.level := (h.step (List.getElem?_eq_getElem (by omega)) hx).1
  obtain ⟨x0, r0, e0, hx0, _⟩ := h.first
  have h00 : l[0]? = some x0 := by rw [e0]; rfl
  rcases parN_spec l x.level (k' + 1) (by omega) with ⟨_, h2⟩ | ⟨p, y, h1, h2, h3, h4, h5⟩
  · exfalso
    have := h2 0 x0 (by omega) h00
    omega
  · have hnext : ∃ z, l[p + 1]? = some z ∧ x.level ≤ z.level := by
      by_cases hp : p + 1 = k' + 1
      · rw [hp]; exact ⟨x, hx, Int.le_refl _⟩
      · have hz : l[p + 1]? = some (l[p + 1]'(by omega)) := List.getElem?_eq_getElem _
        exact ⟨_, hz, h5 (p + 1) _ (by omega) (by omega) hz⟩
    obtain ⟨z, hz, hzl⟩ := hnext
    have hcap := (h.step h3 hz).2
    unfold Go.Proofs.Ythifddkmbjnncaa.cap at hcap
    have hk1 : y.kind = 1 := by
      rcases h.kind h3 with h | h
      · exact h
      · rw [if_pos h] at hcap; omega
    rw [if_neg (by omega)] at hcap
    refine ⟨p, y, h1, h2, h3, hk1, by omega, ?_⟩
    have hek := endN_le hx
    have hep := endN_le h3
    rcases Nat.lt_or_ge (endN l p) (endN l (k' + 1)) with hlt | hge
    · exfalso
      obtain ⟨v, hm⟩ : ∃ v, l[endN l p]? = some v := ⟨l[endN l p]'(by omega), List.getElem?_eq_getElem _⟩
      have hout := endN_out h3 hm
      by_cases hmk : endN l p ≤ k'
      · have := h5 (endN l p) _ (by omega) (by omega) hm; omega
      · by_cases hmk1 : endN l p = k' + 1
        · rw [hmk1, hx] at hm
          injection hm with hm
          subst hm
          omega
        · have := endN_in hx (by omega) hlt hm
          omega
    · exact hge
end Go.Proofs.Ythifddkmbjnncaa

/-
  The reader of documents: its block; what is open; the walks of close, add, take.
-/
namespace Go.Proofs.Ythifddkmbjnncaa
open Go.RowKit

theorem infoStr : (Try.prog.info? 9).map (fun i => (i.zero, i.size, i.bytes)) = some (some (.string ByteArray.empty), 1, 16) := by kernel_rfl

/-- Names in a row that is the call's own, or that is full (what was cut off behind it is nobody's). -/
def OpenOwn (w : World) (B : Nat) (A : Option Addr) (c : Nat) (o : List (List UInt8)) : Prop :=
  (A = none ∧ c = 0 ∧ o = []) ∨ ∃ g cur, A = some ⟨g, 0, none⟩ ∧ B ≤ g ∧ w.heap[g]? = some (.cells cur 9 (0, 0)) ∧ o.length ≤ c ∧ c ≤ cur.size ∧ cur.size ≤ maxLen ∧ cur.toList.take o.length = o.map strV ∧ (c = o.length ∨ c = cur.size)

theorem flat1 (o : List (List UInt8)) : o.map strV = o.flatMap fun n => [strV n] := by
  induction o with
  | nil => rfl
  | cons a o ih => simp [ih]

section
variable {w w' : World} {B : Nat} {A : Option Addr} {c : Nat} {o : List (List UInt8)}
theorem OpenOwn.keep (h : OpenOwn w B A c o) (hk : ∀ g cur, A = some ⟨g, 0, none⟩ → w.heap[g]? = some (.cells cur 9 (0, 0)) → w'.heap[g]? = w.heap[g]?) : OpenOwn w' B A c o := by
  rcases h with h | ⟨g, cur, h1, h2, h3, h4⟩
  · exact .inl h
  · exact .inr ⟨g, cur, h1, h2, (hk g cur h1 h3).trans h3, h4⟩
theorem OpenOwn.below (h : OpenOwn w B A c o) (hb : Below w.heap.size w w') : OpenOwn w' B A c o := h.keep fun g _ _ h3 => hb.block g (Array.getElem?_eq_some_iff.1 h3).1
/-- it stands where a block of another type grows or is written -/
theorem OpenOwn.grown (h : OpenOwn w B A c o) {k : Option Nat} (hg : w.grownBy w' k) (hk : ∀ g, k = some g → g < w.heap.size → ∃ cs e, w.heap[g]? = some (.cells cs e (0, 0)) ∧ e ≠ 9) : OpenOwn w' B A c o := h.keep fun g cur _ h3 => by
  have hlt : g < w.heap.size := (Array.getElem?_eq_some_iff.1 h3).1
  refine hg.block g hlt fun e => ?_
  obtain ⟨cs, e', h5, h6⟩ := hk g e.symm hlt
  rw [h3] at h5
  injection h5 with h5
  injection h5 with _ h5
  exact h6 h5.symm
theorem OpenOwn.own (h : w.ownsRow B 9 1 (.slice A o.length c) o.length (o.map strV)) : OpenOwn w B A c o := by
  rcases h.2 with ⟨h1, h2⟩ | ⟨g, cap, cur, h1, h2, h3, h4, h5, h6, h7⟩
  · injection h1 with h1 _ h3
    exact .inl ⟨h1, h3, List.eq_nil_of_length_eq_zero h2⟩
  · injection h1 with h1 _ h8
    subst h8
    rw [Nat.mul_one] at h6 h7
    exact .inr ⟨g, cur, h1, h2, h3, h4, by omega, by omega, h7, .inr h6.symm⟩
theorem OpenOwn.last (h : OpenOwn w B A c o) {k : Nat} {n : List UInt8} (hn : o[k]? = some n) : ∃ g, A = some ⟨g, 0, none⟩ ∧ g < w.heap.size ∧ w.cell? ⟨g, k, none⟩ = some (.string ⟨n.toArray⟩) := by
  rcases h with ⟨_, _, rfl⟩ | ⟨g, cur, h1, h2, h3, h4, h5, h6, h7, _⟩
  · simp at hn
  · refine ⟨g, h1, (Array.getElem?_eq_some_iff.1 h3).1, ?_⟩
    have hk : k < o.length := (List.getElem?_eq_some_iff.1 hn).1
    have h8 : (cur.toList.take o.length)[k]? = (o.map strV)[k]? := by rw [h7]
    rw [List.getElem?_take_of_lt hk, List.getElem?_map, hn, Array.getElem?_toList] at h8
    rw [cell_of_row h3, h8]; rfl
theorem OpenOwn.cut (h : OpenOwn w B A c o) (ho : o ≠ []) : OpenOwn w B A (o.length - 1) o.dropLast := by
  rcases h with ⟨_, _, h⟩ | ⟨g, cur, h1, h2, h3, h4, h5, h6, h7, _⟩
  · exact absurd h ho
  · refine .inr ⟨g, cur, h1, h2, h3, by simp, by omega, h6, ?_, .inl (by simp)⟩
    have := congrArg (List.take (o.length - 1)) h7
    rw [List.take_take, Nat.min_eq_left (Nat.sub_le _ _)] at this
    rw [List.length_dropLast, this, List.dropLast_eq_take, List.map_take]
theorem OpenOwn.cap (h : OpenOwn w B A c o) : o.length ≤ c := by
  rcases h with ⟨_, _, rfl⟩ | ⟨g, cur, h1, h2, h3, h4, _⟩
  · exact Nat.zero_le _
  · exact h4
theorem OpenOwn.capMax (h : OpenOwn w B A c o) : c ≤ maxLen := by
  rcases h with ⟨_, h, _⟩ | ⟨g, cur, h1, h2, h3, h4, h5, h6, _⟩
  · omega
  · omega
end

set_option maxRecDepth 100000 in
theorem appendO {w : World} {ops : Array Oper} {rest : List Oper} {op : Oper} {a : Act} {Q : Exit → Act → World → Prop} (hgd : op.guard = none) (s x : Operand)
    (hop : op.op = .call { callee := .builtin .append, args := #[s, x], argTypes := #[69, 69] })
    (B : Nat) (A : Option Addr) (c : Nat) (o : List (List UInt8)) (n : List UInt8) (hs : a.eval s = .slice A o.length c) (hown : OpenOwn w B A c o) (hB : B ≤ w.heap.size)
    (X : Nat) (hx : a.eval x = .slice (some ⟨X, 0, none⟩) 1 1) (hX : X = w.heap.size) (hn : o.length < 4294967296)
    (h : ∀ A' c' w', OpenOwn w' B A' c' (o ++ [n]) → Below B w w' → (w.alloc (.cells #[strV n] 9)).grownBy w' (Value.slice A o.length c).ownBlock → wpList Try.prog ops Q rest (a.put op.dst (.slice A' (o.length + 1) c')) w') :
    wpList Try.prog ops Q (op :: rest) a (w.alloc (.cells #[strV n] 9)) := by
  have hlen : (o ++ [n]).length = o.length + 1 := by simp
  rcases hown with ⟨rfl, rfl, rfl⟩ | ⟨g, cur, rfl, h2, h3, h4, h5, h6, h7, h8⟩
  · refine appendS hgd s x 69 hop B 9 (.string ByteArray.empty) 1 16 Try.underlying69 infoStr rfl (by decide) _ 0 [] hs (World.ownsRow_nil _ _ _ _) hB X hx hX (news := [strV n]) rfl (by intro u hu; simp at hu; subst hu; rfl) (by omega) (by decide) ?_
    intro ad cc w' hown' hb _ hg
    exact h ad cc w' (OpenOwn.own (o := [n]) hown') hb hg
  · by_cases hc : c = cur.size
    · have hrow : w.ownsRow B 9 1 (.slice (some ⟨g, 0, none⟩) o.length c) o.length (o.map strV) :=
        ⟨by simp, .inr ⟨g, c, cur, rfl, h2, h3, h4, by omega, by omega, by rw [Nat.mul_one]; exact h7⟩⟩
      refine appendS hgd s x 69 hop B 9 (.string ByteArray.empty) 1 16 Try.underlying69 infoStr rfl (by decide) _ o.length (o.map strV) hs hrow hB X hx hX (news := [strV n]) rfl (by intro u hu; simp at hu; subst hu; rfl) hn (by decide) ?_
      intro ad cc w' hown' hb _ hg
      refine h ad cc w' (OpenOwn.own ?_) hb hg
      rw [hlen, List.map_append]
      exact hown'
    · have hcn : c = o.length := by
        rcases h8 with h8 | h8
        · exact h8
        · exact absurd h8 hc
      subst hX
      obtain ⟨i0, hi0, hz0, hz1, hz2⟩ := info_parts infoStr
      have hg : g < w.heap.size := (Array.getElem?_eq_some_iff.1 h3).1
      refine wpList_append_grows _ hgd s x 69 hop 9 i0 (.string ByteArray.empty) 1 16 Try.underlying69 hi0 hz0 hz1 hz2 rfl (by decide) (some ⟨g, 0, none⟩) o.length c (o.map strV) hs (fun e => by cases e) (by simp) ?_ ⟨w.heap.size, 0, none⟩ 1 1 [strV n] hx rfl ?_ (by intro u hu; simp at hu; subst hu; rfl) (by omega) (by unfold maxLen; omega) (by omega) ?_
      · rintro b hb j u hu
        injection hb with hb
        subst hb
        rw [add_zero_block, World.cell?_alloc_lt _ _ _ hg, cell_of_row h3]
        have hj : j < o.length := by have := (List.getElem?_eq_some_iff.1 hu).1; simpa using this
        rw [← h7, List.getElem?_take_of_lt hj, Array.getElem?_toList] at hu
        exact hu
      · intro j u hu
        rw [add_zero_block, World.cell?_alloc_at _ _ _ _ (by simp)]
        have hj : j < 1 := (List.getElem?_eq_some_iff.1 hu).1
        have hj0 : j = 0 := by omega
        subst hj0
        simpa using hu
      · intro v' w' hown' hgr
        obtain ⟨ad, cc, rfl⟩ : ∃ ad cc, v' = .slice ad (o.length + 1) cc := by
          rcases hown'.2 with ⟨_, h0⟩ | ⟨g, c, cur, hv, _⟩
          · omega
          · exact ⟨_, c, hv⟩
        refine h ad cc w' ?_ (((Below.refl B w).alloc hB _).grown hgr (by simp; omega) (fun k hk => by cases hk)) ⟨hgr.os, hgr.tape, hgr.output, hgr.size, fun k hk _ => hgr.block k hk (by simp)⟩
        refine OpenOwn.own ?_
        rw [hlen, List.map_append]
        exact row_base hown' (by simp; omega)
end Go.Proofs.Ythifddkmbjnncaa

/-
  The reader of documents: the walk of close.
-/
namespace Go.Proofs.Ythifddkmbjnncaa
open Go.RowKit

/-- the reader's block -/
def PBlk (w : World) (b : Nat) (IA : Option Addr) (In Ic : Nat) (OA : Option Addr) (On Oc : Nat) : Prop := w.heap[b]? = some (.cells #[.slice IA In Ic, .slice OA On Oc] 71 (0, 0))
/-- what it holds -/
structure PInv (w : World) (B b : Nat) (items : List ItemD) (o : List (List UInt8)) : Prop where
  out : ∃ (S : List Slot) (IA : Option Addr) (Ic : Nat) (OA : Option Addr) (Oc : Nat), PBlk w b IA S.length Ic OA o.length Oc ∧ ItemsOwn w B IA Ic S ∧ (∀ s ∈ S, AttrsOwn w B s.2.1 s.2.2 s.1.attrs) ∧ OpenOwn w B OA Oc o ∧ S.map (·.1) = items
theorem PBlk.lt {w : World} {b : Nat} {IA OA : Option Addr} {In Ic On Oc : Nat} (h : PBlk w b IA In Ic OA On Oc) : b < w.heap.size := (Array.getElem?_eq_some_iff.1 h).1
theorem PBlk.cells {w : World} {b : Nat} {IA OA : Option Addr} {In Ic On Oc : Nat} (h : PBlk w b IA In Ic OA On Oc) : w.cell? ⟨b, 0, none⟩ = some (.slice IA In Ic) ∧ w.cell? ⟨b, 1, none⟩ = some (.slice OA On Oc) ∧ w.frozen? ⟨b, 0, none⟩ = false ∧ w.frozen? ⟨b, 1, none⟩ = false :=
  ⟨by rw [cell_of_row h]; rfl, by rw [cell_of_row h]; rfl, frozen_of_row w b 0 _ _ h, frozen_of_row w b 1 _ _ h⟩
theorem PBlk.below {w w' : World} {b : Nat} {IA OA : Option Addr} {In Ic On Oc : Nat} (h : PBlk w b IA In Ic OA On Oc) (hb : Below w.heap.size w w') : PBlk w' b IA In Ic OA On Oc := (hb.block b h.lt).trans h
theorem PBlk.setOpen {w : World} {b : Nat} {IA OA : Option Addr} {In Ic On Oc : Nat} (h : PBlk w b IA In Ic OA On Oc) (A : Option Addr) (n c : Nat) : PBlk (w.setCell ⟨b, 1, none⟩ (.slice A n c)) b IA In Ic A n c := Lib.heap_setCell_same (i := 1) h _
theorem PBlk.setItems {w : World} {b : Nat} {IA OA : Option Addr} {In Ic On Oc : Nat} (h : PBlk w b IA In Ic OA On Oc) (A : Option Addr) (n c : Nat) : PBlk (w.setCell ⟨b, 0, none⟩ (.slice A n c)) b A n c OA On Oc := Lib.heap_setCell_same (i := 0) h _
theorem PInv.below {w w' : World} {B b : Nat} {items : List ItemD} {o : List (List UInt8)} (h : PInv w B b items o) (hb : Below w.heap.size w w') : PInv w' B b items o := by
  obtain ⟨S, IA, Ic, OA, Oc, h1, h2, h3, h4, h5⟩ := h.out
  exact ⟨S, IA, Ic, OA, Oc, h1.below hb, own_keep h2 hb, fun s hs => own_keep (h3 s hs) hb, h4.below hb, h5⟩
/-- a row of another type stands where the reader's block is written -/
theorem own_set {w : World} {b j : Nat} {IA OA : Option Addr} {In Ic On Oc : Nat} (hp : PBlk w b IA In Ic OA On Oc) (u : Value) {B : Nat} {e : TypeId} {size : Nat} {v : Value} {n : Nat} {xs : List Value} (h : w.ownsRow B e size v n xs) (he : e ≠ 71) : (w.setCell ⟨b, j, none⟩ u).ownsRow B e size v n xs := by
  refine World.ownsRow.kept h (Lib.grownBy_setCell w b j u) ?_
  cases hv : v.ownBlock with
  | none => exact .inl rfl
  | some g =>
    refine .inr fun hg => ?_
    injection hg with hg
    subst hg
    obtain ⟨_, _, cur, hc⟩ := own_type h g hv
    unfold PBlk at hp
    rw [hc] at hp
    injection hp with hp
    injection hp with _ hp
    exact he hp
theorem open_set {w : World} {b j : Nat} {IA OA : Option Addr} {In Ic On Oc : Nat} (hp : PBlk w b IA In Ic OA On Oc) (u : Value) {B : Nat} {A : Option Addr} {c : Nat} {o : List (List UInt8)} (h : OpenOwn w B A c o) : OpenOwn (w.setCell ⟨b, j, none⟩ u) B A c o :=
  h.grown (Lib.grownBy_setCell w b j u) (fun g hg _ => by injection hg with hg; subst hg; exact ⟨_, _, hp, by decide⟩)

theorem get_last {α : Type} {l : List α} (h : l ≠ []) : ∃ x, l[l.length - 1]? = some x ∧ l.getLast? = some x := by
  have hl : 0 < l.length := List.length_pos_iff.2 h
  refine ⟨l[l.length - 1], List.getElem?_eq_getElem (by omega), ?_⟩
  rw [List.getLast?_eq_getElem?]; exact List.getElem?_eq_getElem (by omega)

def tokV (t : TokD) (at_ : Int) (A : Option Addr) (c : Nat) : Value := .agg #[.int .i64 t.kind, .int .i64 at_, .string ⟨t.name.toArray⟩, .string ⟨t.text.toArray⟩, .slice A t.attrs.length c]



set_option maxRecDepth 100000 in
set_option maxHeartbeats 1000000 in
theorem close_any (b B : Nat) (items : List ItemD) (o : List (List UInt8)) (w : World) (h : PInv w B b items o) (hB : B ≤ b) (hBw : B ≤ w.heap.size) (ho : o.length ≤ 1000000000) (t : TokD) (at_ : Int) (A : Option Addr) (c : Nat) (v : Bool) (hv : Hid (decide (o.getLast? = some t.name) = v)) :
    Calls Try.prog 80 #[.pointer (some ⟨b, 0, none⟩), tokV t at_ A c] w fun e w' => e = .returned (.int .i64 (if v then 0 else 41)) ∧ PInv w' B b items (if v then o.dropLast else o) ∧ Below B w w' := by
  obtain ⟨S, IA, Ic, OA, Oc, h1, h2, h3, h4, h5⟩ := h.out
  have HP := Lib.hid h
  obtain ⟨W1, hW1⟩ : ∃ W1, Hid (W1 = w.alloc (.cells #[.int .i64 t.kind, .int .i64 at_, .string ⟨t.name.toArray⟩, .string ⟨t.text.toArray⟩, .slice A t.attrs.length c] 34)) := ⟨_, rfl⟩
  have hbW : Below w.heap.size w W1 := by rw [hW1.out]; exact (Below.refl _ w).alloc (Nat.le_refl _) _
  have y2 : W1.cell? ⟨w.heap.size, 2, none⟩ = some (.string ⟨t.name.toArray⟩) := by rw [hW1.out, World.cell?_alloc_at _ _ _ _ (by simp)]; rfl
  have HB1 := Lib.hid (h1.below hbW)
  have H2 := Lib.hid (own_keep h2 hbW)
  have H3 : Hid (∀ s ∈ S, AttrsOwn W1 B s.2.1 s.2.2 s.1.attrs) := fun s hs => own_keep (h3 s hs) hbW
  have H4 := Lib.hid (h4.below hbW)
  have H5 := Lib.hid h5
  have hz1 : w.heap.size < W1.heap.size := by rw [hW1.out]; simp
  obtain ⟨_, z1, _, zf1⟩ := h1.cells
  have hbl := h1.lt
  have hbne : b ≠ w.heap.size := by omega
  have H4w := Lib.hid h4
  clear h h1 h2 h3 h4 h5
  show Calls Try.prog 80 #[.pointer (some ⟨b, 0, none⟩), .agg #[.int .i64 t.kind, .int .i64 at_, .string ⟨t.name.toArray⟩, .string ⟨t.text.toArray⟩, .slice A t.attrs.length c]] w _
  by_cases h0 : o = []
  · subst h0
    have hv' : v = false := by rw [← hv.out]; simp
    subst hv'
    simp only [List.length_nil] at z1
    go_enter Try.func80, Try.ntmps80
    go_wp2_with fail
    rw [← hW1.out]
    refine wp_region_held_drew (S := fun _ => True) (by kernel_rfl) trivial (fun hHeld => ?_)
    refine wpAnyH_take (i := 0) (oi := ⟨_, _, _, _, _, _⟩) (v := ?_) rfl (by kernel_rfl) (by kernel_rfl) (by kernel_rfl) (fun _ _ _ h => h) (Or.inl ⟨by rfl, ?_⟩) (by assumption) ?_
    rotate_left
    · (intro wS hSw; (try dsimp only at hSw); go_simp); all_goals with_reducible rfl
    try simp only [Act.put, List.setIfInBounds_toArray, List.set_cons_zero, List.set_cons_succ]
    refine wpAnyH_take (i := 1) (oi := ⟨_, _, _, _, _, _⟩) (v := ?_) rfl (by kernel_rfl) (by kernel_rfl) (by kernel_rfl) (fun _ _ _ h => h) (Or.inl ⟨by rfl, ?_⟩) (by assumption) ?_
    rotate_left
    · (intro wS hSw; (try dsimp only at hSw); go_simp); all_goals with_reducible rfl
    try simp only [Act.put, List.setIfInBounds_toArray, List.set_cons_zero, List.set_cons_succ]
    refine wpAnyH_take (i := 2) (oi := ⟨_, _, _, _, _, _⟩) (v := ?_) rfl (by kernel_rfl) (by kernel_rfl) (by kernel_rfl) (fun _ _ _ h => h) (Or.inl ⟨by rfl, ?_⟩) (by assumption) ?_
    rotate_left
    · (intro wS hSw; (try dsimp only at hSw); go_simp); all_goals with_reducible rfl
    try simp only [Act.put, List.setIfInBounds_toArray, List.set_cons_zero, List.set_cons_succ]
    refine wpAnyH_take (i := 3) (oi := ⟨_, _, _, _, _, _⟩) (v := undef) rfl (by kernel_rfl) (by kernel_rfl) (by kernel_rfl) (fun _ _ _ h => h) (Or.inr ⟨by rfl, rfl⟩) (by assumption) ?_
    try simp only [Act.put, List.setIfInBounds_toArray, List.set_cons_zero, List.set_cons_succ]
    refine wpAnyH_take (i := 4) (oi := ⟨_, _, _, _, _, _⟩) (v := undef) rfl (by kernel_rfl) (by kernel_rfl) (by kernel_rfl) (fun _ _ _ h => h) (Or.inr ⟨by rfl, rfl⟩) (by assumption) ?_
    try simp only [Act.put, List.setIfInBounds_toArray, List.set_cons_zero, List.set_cons_succ]
    refine wpAnyH_take (i := 5) (oi := ⟨_, _, _, _, _, _⟩) (v := undef) rfl (by kernel_rfl) (by kernel_rfl) (by kernel_rfl) (fun _ _ _ h => h) (Or.inr ⟨by rfl, rfl⟩) (by assumption) ?_
    try simp only [Act.put, List.setIfInBounds_toArray, List.set_cons_zero, List.set_cons_succ]
    refine wpAnyH_take (i := 6) (oi := ⟨_, _, _, _, _, _⟩) (v := undef) rfl (by kernel_rfl) (by kernel_rfl) (by kernel_rfl) (fun _ _ _ h => h) (Or.inr ⟨by rfl, rfl⟩) (by assumption) ?_
    try simp only [Act.put, List.setIfInBounds_toArray, List.set_cons_zero, List.set_cons_succ]
    refine wpAnyH_take (i := 7) (oi := ⟨_, _, _, _, _, _⟩) (v := undef) rfl (by kernel_rfl) (by kernel_rfl) (by kernel_rfl) (fun _ _ _ h => h) (Or.inr ⟨by rfl, rfl⟩) (by assumption) ?_
    try simp only [Act.put, List.setIfInBounds_toArray, List.set_cons_zero, List.set_cons_succ]
    refine wpAnyH_take (i := 8) (oi := ⟨_, _, _, _, _, _⟩) (v := undef) rfl (by kernel_rfl) (by kernel_rfl) (by kernel_rfl) (fun _ _ _ h => h) (Or.inr ⟨by rfl, rfl⟩) (by assumption) ?_
    try simp only [Act.put, List.setIfInBounds_toArray, List.set_cons_zero, List.set_cons_succ]
    refine wpAnyH_take (i := 9) (oi := ⟨_, _, _, _, _, _⟩) (v := undef) rfl (by kernel_rfl) (by kernel_rfl) (by kernel_rfl) (fun _ _ _ h => h) (Or.inr ⟨by rfl, rfl⟩) (by assumption) ?_
    try simp only [Act.put, List.setIfInBounds_toArray, List.set_cons_zero, List.set_cons_succ]
    refine wpAnyH_take (i := 10) (oi := ⟨_, _, _, _, _, _⟩) (v := undef) rfl (by kernel_rfl) (by kernel_rfl) (by kernel_rfl) (fun _ _ _ h => h) (Or.inr ⟨by rfl, rfl⟩) (by assumption) ?_
    try simp only [Act.put, List.setIfInBounds_toArray, List.set_cons_zero, List.set_cons_succ]
    refine wpAnyH_take (i := 11) (oi := ⟨_, _, _, _, _, _⟩) (v := undef) rfl (by kernel_rfl) (by kernel_rfl) (by kernel_rfl) (fun _ _ _ h => h) (Or.inr ⟨by rfl, rfl⟩) (by assumption) ?_
    try simp only [Act.put, List.setIfInBounds_toArray, List.set_cons_zero, List.set_cons_succ]
    refine wpAnyH_take (i := 12) (oi := ⟨_, _, _, _, _, _⟩) (v := undef) rfl (by kernel_rfl) (by kernel_rfl) (by kernel_rfl) (fun _ _ _ h => h) (Or.inr ⟨by rfl, rfl⟩) (by assumption) ?_
    try simp only [Act.put, List.setIfInBounds_toArray, List.set_cons_zero, List.set_cons_succ]
    refine wpAnyH_take (i := 13) (oi := ⟨_, _, _, _, _, _⟩) (v := undef) rfl (by kernel_rfl) (by kernel_rfl) (by kernel_rfl) (fun _ _ _ h => h) (Or.inr ⟨by rfl, rfl⟩) (by assumption) ?_
    try simp only [Act.put, List.setIfInBounds_toArray, List.set_cons_zero, List.set_cons_succ]
    refine wpAnyH_take (i := 14) (oi := ⟨_, _, _, _, _, _⟩) (v := ?_) rfl (by kernel_rfl) (by kernel_rfl) (by kernel_rfl) (fun _ _ _ h => h) (Or.inl ⟨by rfl, ?_⟩) (by assumption) ?_
    rotate_left
    · (intro wS hSw; (try dsimp only at hSw); go_simp); all_goals with_reducible rfl
    try simp only [Act.put, List.setIfInBounds_toArray, List.set_cons_zero, List.set_cons_succ]
    refine wpAnyH_done (by kernel_rfl) ?_ _
    clear hHeld
    go_wp2_with fail
    go_ret
    exact ⟨rfl, ⟨S, IA, Ic, _, Oc, HB1.out, H2.out, H3.out, H4.out, H5.out⟩, (hbW.mono hBw).drew⟩
  · obtain ⟨x, hx, hxl⟩ := get_last h0
    obtain ⟨g, rfl, hg, hcell⟩ := H4w.out.last hx
    have hpos : 0 < o.length := List.length_pos_iff.2 h0
    have t0 : ((o.length : Int) == 0) = false := by simp; omega
    have hkw : IntKind.i64.wrap ((o.length : Int) - 1) = (o.length : Int) - 1 := IntWalk.i64_in _ (by omega)
    have hkn : ((o.length : Int) - 1).toNat = o.length - 1 := by omega
    have hk0 : (0 : Int) ≤ (o.length : Int) - 1 := by omega
    have hk1 : (o.length : Int) - 1 < o.length := by omega
    have hk2 : (1 : Int) ≤ o.length := by omega
    have hg1 : W1.cell? ⟨g, o.length - 1, none⟩ = some (.string ⟨x.toArray⟩) := (hbW.cell (p := ⟨g, o.length - 1, none⟩) hg).trans hcell
    have HS : Hid (W1.drew.cell? ⟨b, 1, none⟩ = some (.slice (some ⟨g, 0, none⟩) o.length Oc) ∧ W1.drew.cell? ((⟨g, 0, none⟩ : Addr).add (o.length - 1)) = some (.string ⟨x.toArray⟩) ∧ W1.drew.cell? ⟨g, o.length - 1, none⟩ = some (.string ⟨x.toArray⟩) ∧ W1.drew.cell? ⟨w.heap.size, 2, none⟩ = some (.string ⟨t.name.toArray⟩)) :=
      ⟨HB1.out.cells.2.1, by rw [add_zero_block]; exact hg1, hg1, y2⟩
    have hne := Lib.hid h0
    clear h0 hg1 y2
    cases v with
    | true =>
      have hxx : x = t.name := by
        have := of_decide_eq_true hv.out
        rw [hxl] at this
        injection this
      subst hxx
      clear hx hcell
      go_enter Try.func80, Try.ntmps80
      go_wp2_with fail
      rw [← hW1.out]
      refine wp_region_held_drew (S := fun w' => w'.cell? ⟨b, 1, none⟩ = some (.slice (some ⟨g, 0, none⟩) o.length Oc) ∧ w'.cell? ((⟨g, 0, none⟩ : Addr).add (o.length - 1)) = some (.string ⟨t.name.toArray⟩) ∧ w'.cell? ⟨g, o.length - 1, none⟩ = some (.string ⟨t.name.toArray⟩) ∧ w'.cell? ⟨w.heap.size, 2, none⟩ = some (.string ⟨t.name.toArray⟩)) (by kernel_rfl) HS.out (fun hHeld => ?_)
      refine wpAnyH_take (i := 0) (oi := ⟨_, _, _, _, _, _⟩) (v := ?_) rfl (by kernel_rfl) (by kernel_rfl) (by kernel_rfl) (fun _ _ _ h => h) (Or.inl ⟨by rfl, ?_⟩) (by assumption) ?_
      rotate_left
      · (intro wS hSw; (try dsimp only at hSw); go_simp); all_goals with_reducible rfl
      try simp only [Act.put, List.setIfInBounds_toArray, List.set_cons_zero, List.set_cons_succ]
      refine wpAnyH_take (i := 1) (oi := ⟨_, _, _, _, _, _⟩) (v := ?_) rfl (by kernel_rfl) (by kernel_rfl) (by kernel_rfl) (fun _ _ _ h => h) (Or.inl ⟨by rfl, ?_⟩) (by assumption) ?_
      rotate_left
      · (intro wS hSw; (try dsimp only at hSw); go_simp); all_goals with_reducible rfl
      try simp only [Act.put, List.setIfInBounds_toArray, List.set_cons_zero, List.set_cons_succ]
      refine wpAnyH_take (i := 2) (oi := ⟨_, _, _, _, _, _⟩) (v := ?_) rfl (by kernel_rfl) (by kernel_rfl) (by kernel_rfl) (fun _ _ _ h => h) (Or.inl ⟨by rfl, ?_⟩) (by assumption) ?_
      rotate_left
      · (intro wS hSw; (try dsimp only at hSw); go_simp); all_goals with_reducible rfl
      try simp only [Act.put, List.setIfInBounds_toArray, List.set_cons_zero, List.set_cons_succ]
      refine wpAnyH_take (i := 3) (oi := ⟨_, _, _, _, _, _⟩) (v := ?_) rfl (by kernel_rfl) (by kernel_rfl) (by kernel_rfl) (fun _ _ _ h => h) (Or.inl ⟨by rfl, ?_⟩) (by assumption) ?_
      rotate_left
      · (intro wS hSw; (try dsimp only at hSw); go_simp); all_goals with_reducible rfl
      try simp only [Act.put, List.setIfInBounds_toArray, List.set_cons_zero, List.set_cons_succ]
      refine wpAnyH_take (i := 4) (oi := ⟨_, _, _, _, _, _⟩) (v := ?_) rfl (by kernel_rfl) (by kernel_rfl) (by kernel_rfl) (fun _ _ _ h => h) (Or.inl ⟨by rfl, ?_⟩) (by assumption) ?_
      rotate_left
      · (intro wS hSw; (try dsimp only at hSw); go_simp); all_goals with_reducible rfl
      try simp only [Act.put, List.setIfInBounds_toArray, List.set_cons_zero, List.set_cons_succ]
      refine wpAnyH_take (i := 5) (oi := ⟨_, _, _, _, _, _⟩) (v := ?_) rfl (by kernel_rfl) (by kernel_rfl) (by kernel_rfl) (fun _ _ _ h => h) (Or.inl ⟨by rfl, ?_⟩) (by assumption) ?_
      rotate_left
      · (intro wS hSw; (try dsimp only at hSw); go_simp); all_goals with_reducible rfl
      try simp only [Act.put, List.setIfInBounds_toArray, List.set_cons_zero, List.set_cons_succ]
      refine wpAnyH_take (i := 6) (oi := ⟨_, _, _, _, _, _⟩) (v := ?_) rfl (by kernel_rfl) (by kernel_rfl) (by kernel_rfl) (fun _ _ _ h => h) (Or.inl ⟨by rfl, ?_⟩) (by assumption) ?_
      rotate_left
      · (intro wS hSw; (try dsimp only at hSw); go_simp); all_goals with_reducible rfl
      try simp only [Act.put, List.setIfInBounds_toArray, List.set_cons_zero, List.set_cons_succ]
      refine wpAnyH_take (i := 7) (oi := ⟨_, _, _, _, _, _⟩) (v := ?_) rfl (by kernel_rfl) (by kernel_rfl) (by kernel_rfl) (fun _ _ _ h => h) (Or.inl ⟨by rfl, ?_⟩) (by assumption) ?_
      rotate_left
      · (intro wS hSw; (try dsimp only at hSw); go_simp); all_goals with_reducible rfl
      try simp only [Act.put, List.setIfInBounds_toArray, List.set_cons_zero, List.set_cons_succ]
      refine wpAnyH_take (i := 8) (oi := ⟨_, _, _, _, _, _⟩) (v := ?_) rfl (by kernel_rfl) (by kernel_rfl) (by kernel_rfl) (fun _ _ _ h => h) (Or.inl ⟨by rfl, ?_⟩) (by assumption) ?_
      rotate_left
      · (intro wS hSw; (try dsimp only at hSw); go_simp); all_goals with_reducible rfl
      try simp only [Act.put, List.setIfInBounds_toArray, List.set_cons_zero, List.set_cons_succ]
      refine wpAnyH_take (i := 9) (oi := ⟨_, _, _, _, _, _⟩) (v := ?_) rfl (by kernel_rfl) (by kernel_rfl) (by kernel_rfl) (fun _ _ _ h => h) (Or.inl ⟨by rfl, ?_⟩) (by assumption) ?_
      rotate_left
      · (intro wS hSw; (try dsimp only at hSw); go_simp); all_goals with_reducible rfl
      try simp only [Act.put, List.setIfInBounds_toArray, List.set_cons_zero, List.set_cons_succ]
      refine wpAnyH_take (i := 10) (oi := ⟨_, _, _, _, _, _⟩) (v := ?_) rfl (by kernel_rfl) (by kernel_rfl) (by kernel_rfl) (fun _ _ _ h => h) (Or.inl ⟨by rfl, ?_⟩) (by assumption) ?_
      rotate_left
      · (intro wS hSw; (try dsimp only at hSw); go_simp); all_goals with_reducible rfl
      try simp only [Act.put, List.setIfInBounds_toArray, List.set_cons_zero, List.set_cons_succ]
      refine wpAnyH_take (i := 11) (oi := ⟨_, _, _, _, _, _⟩) (v := ?_) rfl (by kernel_rfl) (by kernel_rfl) (by kernel_rfl) (fun _ _ _ h => h) (Or.inl ⟨by rfl, ?_⟩) (by assumption) ?_
      rotate_left
      · (intro wS hSw; (try dsimp only at hSw); go_simp); all_goals with_reducible rfl
      try simp only [Act.put, List.setIfInBounds_toArray, List.set_cons_zero, List.set_cons_succ]
      refine wpAnyH_take (i := 12) (oi := ⟨_, _, _, _, _, _⟩) (v := ?_) rfl (by kernel_rfl) (by kernel_rfl) (by kernel_rfl) (fun _ _ _ h => h) (Or.inl ⟨by rfl, ?_⟩) (by assumption) ?_
      rotate_left
      · (intro wS hSw; (try dsimp only at hSw); go_simp); all_goals with_reducible rfl
      try simp only [Act.put, List.setIfInBounds_toArray, List.set_cons_zero, List.set_cons_succ]
      refine wpAnyH_take (i := 13) (oi := ⟨_, _, _, _, _, _⟩) (v := ?_) rfl (by kernel_rfl) (by kernel_rfl) (by kernel_rfl) (fun _ _ _ h => h) (Or.inl ⟨by rfl, ?_⟩) (by assumption) ?_
      rotate_left
      · (intro wS hSw; (try dsimp only at hSw); go_simp); all_goals with_reducible rfl
      try simp only [Act.put, List.setIfInBounds_toArray, List.set_cons_zero, List.set_cons_succ]
      refine wpAnyH_take (i := 14) (oi := ⟨_, _, _, _, _, _⟩) (v := ?_) rfl (by kernel_rfl) (by kernel_rfl) (by kernel_rfl) (fun _ _ _ h => h) (Or.inl ⟨by rfl, ?_⟩) (by assumption) ?_
      rotate_left
      · (intro wS hSw; (try dsimp only at hSw); go_simp); all_goals with_reducible rfl
      try simp only [Act.put, List.setIfInBounds_toArray, List.set_cons_zero, List.set_cons_succ]
      refine wpAnyH_done (by kernel_rfl) ?_ _
      clear hHeld
      obtain ⟨q1, _⟩ := HS.out
      have hf : W1.drew.frozen? ⟨b, 1, none⟩ = false := HB1.out.cells.2.2.2
      have hcap := H4.out.cap
      have hcmax := H4.out.capMax
      have hc1 : (o.length : Int) - 1 ≤ (Oc : Int) := by omega
      have hc2 : (Oc : Int) ≤ 9223372036854775807 := by unfold maxLen at hcmax; omega
      clear hcap hcmax
      go_wp2_with fail
      go_ret
      refine ⟨rfl, ⟨S, IA, Ic, some ⟨g, 0, none⟩, o.length - 1, ?_, own_set (w := W1.drew) HB1.out _ H2.out (by decide), fun s hs => own_set (w := W1.drew) HB1.out _ (H3.out s hs) (by decide), open_set (w := W1.drew) HB1.out _ (H4.out.cut hne.out), H5.out⟩, ((hbW.mono hBw).drew).setCell hB _⟩
      have := PBlk.setOpen (w := W1.drew) HB1.out (some ⟨g, 0, none⟩) (o.length - 1) (o.length - 1)
      rw [List.length_dropLast]
      exact this
    | false =>
      have hxx : (x == t.name) = false := by
        have := of_decide_eq_false hv.out
        rw [hxl] at this
        simp only [beq_eq_false_iff_ne, ne_eq]
        exact fun e => this (by rw [e])
      clear hx hcell
      go_enter Try.func80, Try.ntmps80
      go_wp2_with fail
      rw [← hW1.out]
      refine wp_region_held_drew (S := fun w' => w'.cell? ⟨b, 1, none⟩ = some (.slice (some ⟨g, 0, none⟩) o.length Oc) ∧ w'.cell? ((⟨g, 0, none⟩ : Addr).add (o.length - 1)) = some (.string ⟨x.toArray⟩) ∧ w'.cell? ⟨g, o.length - 1, none⟩ = some (.string ⟨x.toArray⟩) ∧ w'.cell? ⟨w.heap.size, 2, none⟩ = some (.string ⟨t.name.toArray⟩)) (by kernel_rfl) HS.out (fun hHeld => ?_)
      refine wpAnyH_take (i := 0) (oi := ⟨_, _, _, _, _, _⟩) (v := ?_) rfl (by kernel_rfl) (by kernel_rfl) (by kernel_rfl) (fun _ _ _ h => h) (Or.inl ⟨by rfl, ?_⟩) (by assumption) ?_
      rotate_left
      · (intro wS hSw; (try dsimp only at hSw); go_simp); all_goals with_reducible rfl
      try simp only [Act.put, List.setIfInBounds_toArray, List.set_cons_zero, List.set_cons_succ]
      refine wpAnyH_take (i := 1) (oi := ⟨_, _, _, _, _, _⟩) (v := ?_) rfl (by kernel_rfl) (by kernel_rfl) (by kernel_rfl) (fun _ _ _ h => h) (Or.inl ⟨by rfl, ?_⟩) (by assumption) ?_
      rotate_left
      · (intro wS hSw; (try dsimp only at hSw); go_simp); all_goals with_reducible rfl
      try simp only [Act.put, List.setIfInBounds_toArray, List.set_cons_zero, List.set_cons_succ]
      refine wpAnyH_take (i := 2) (oi := ⟨_, _, _, _, _, _⟩) (v := ?_) rfl (by kernel_rfl) (by kernel_rfl) (by kernel_rfl) (fun _ _ _ h => h) (Or.inl ⟨by rfl, ?_⟩) (by assumption) ?_
      rotate_left
      · (intro wS hSw; (try dsimp only at hSw); go_simp); all_goals with_reducible rfl
      try simp only [Act.put, List.setIfInBounds_toArray, List.set_cons_zero, List.set_cons_succ]
      refine wpAnyH_take (i := 3) (oi := ⟨_, _, _, _, _, _⟩) (v := ?_) rfl (by kernel_rfl) (by kernel_rfl) (by kernel_rfl) (fun _ _ _ h => h) (Or.inl ⟨by rfl, ?_⟩) (by assumption) ?_
      rotate_left
      · (intro wS hSw; (try dsimp only at hSw); go_simp); all_goals with_reducible rfl
      try simp only [Act.put, List.setIfInBounds_toArray, List.set_cons_zero, List.set_cons_succ]
      refine wpAnyH_take (i := 4) (oi := ⟨_, _, _, _, _, _⟩) (v := ?_) rfl (by kernel_rfl) (by kernel_rfl) (by kernel_rfl) (fun _ _ _ h => h) (Or.inl ⟨by rfl, ?_⟩) (by assumption) ?_
      rotate_left
      · (intro wS hSw; (try dsimp only at hSw); go_simp); all_goals with_reducible rfl
      try simp only [Act.put, List.setIfInBounds_toArray, List.set_cons_zero, List.set_cons_succ]
      refine wpAnyH_take (i := 5) (oi := ⟨_, _, _, _, _, _⟩) (v := ?_) rfl (by kernel_rfl) (by kernel_rfl) (by kernel_rfl) (fun _ _ _ h => h) (Or.inl ⟨by rfl, ?_⟩) (by assumption) ?_
      rotate_left
      · (intro wS hSw; (try dsimp only at hSw); go_simp); all_goals with_reducible rfl
      try simp only [Act.put, List.setIfInBounds_toArray, List.set_cons_zero, List.set_cons_succ]
      refine wpAnyH_take (i := 6) (oi := ⟨_, _, _, _, _, _⟩) (v := ?_) rfl (by kernel_rfl) (by kernel_rfl) (by kernel_rfl) (fun _ _ _ h => h) (Or.inl ⟨by rfl, ?_⟩) (by assumption) ?_
      rotate_left
      · (intro wS hSw; (try dsimp only at hSw); go_simp); all_goals with_reducible rfl
      try simp only [Act.put, List.setIfInBounds_toArray, List.set_cons_zero, List.set_cons_succ]
      refine wpAnyH_take (i := 7) (oi := ⟨_, _, _, _, _, _⟩) (v := ?_) rfl (by kernel_rfl) (by kernel_rfl) (by kernel_rfl) (fun _ _ _ h => h) (Or.inl ⟨by rfl, ?_⟩) (by assumption) ?_
      rotate_left
      · (intro wS hSw; (try dsimp only at hSw); go_simp); all_goals with_reducible rfl
      try simp only [Act.put, List.setIfInBounds_toArray, List.set_cons_zero, List.set_cons_succ]
      refine wpAnyH_take (i := 8) (oi := ⟨_, _, _, _, _, _⟩) (v := ?_) rfl (by kernel_rfl) (by kernel_rfl) (by kernel_rfl) (fun _ _ _ h => h) (Or.inl ⟨by rfl, ?_⟩) (by assumption) ?_
      rotate_left
      · (intro wS hSw; (try dsimp only at hSw); go_simp); all_goals with_reducible rfl
      try simp only [Act.put, List.setIfInBounds_toArray, List.set_cons_zero, List.set_cons_succ]
      refine wpAnyH_take (i := 9) (oi := ⟨_, _, _, _, _, _⟩) (v := ?_) rfl (by kernel_rfl) (by kernel_rfl) (by kernel_rfl) (fun _ _ _ h => h) (Or.inl ⟨by rfl, ?_⟩) (by assumption) ?_
      rotate_left
      · (intro wS hSw; (try dsimp only at hSw); go_simp); all_goals with_reducible rfl
      try simp only [Act.put, List.setIfInBounds_toArray, List.set_cons_zero, List.set_cons_succ]
      refine wpAnyH_take (i := 10) (oi := ⟨_, _, _, _, _, _⟩) (v := ?_) rfl (by kernel_rfl) (by kernel_rfl) (by kernel_rfl) (fun _ _ _ h => h) (Or.inl ⟨by rfl, ?_⟩) (by assumption) ?_
      rotate_left
      · (intro wS hSw; (try dsimp only at hSw); go_simp); all_goals with_reducible rfl
      try simp only [Act.put, List.setIfInBounds_toArray, List.set_cons_zero, List.set_cons_succ]
      refine wpAnyH_take (i := 11) (oi := ⟨_, _, _, _, _, _⟩) (v := ?_) rfl (by kernel_rfl) (by kernel_rfl) (by kernel_rfl) (fun _ _ _ h => h) (Or.inl ⟨by rfl, ?_⟩) (by assumption) ?_
      rotate_left
      · (intro wS hSw; (try dsimp only at hSw); go_simp); all_goals with_reducible rfl
      try simp only [Act.put, List.setIfInBounds_toArray, List.set_cons_zero, List.set_cons_succ]
      refine wpAnyH_take (i := 12) (oi := ⟨_, _, _, _, _, _⟩) (v := ?_) rfl (by kernel_rfl) (by kernel_rfl) (by kernel_rfl) (fun _ _ _ h => h) (Or.inl ⟨by rfl, ?_⟩) (by assumption) ?_
      rotate_left
      · (intro wS hSw; (try dsimp only at hSw); go_simp); all_goals with_reducible rfl
      try simp only [Act.put, List.setIfInBounds_toArray, List.set_cons_zero, List.set_cons_succ]
      refine wpAnyH_take (i := 13) (oi := ⟨_, _, _, _, _, _⟩) (v := ?_) rfl (by kernel_rfl) (by kernel_rfl) (by kernel_rfl) (fun _ _ _ h => h) (Or.inl ⟨by rfl, ?_⟩) (by assumption) ?_
      rotate_left
      · (intro wS hSw; (try dsimp only at hSw); go_simp); all_goals with_reducible rfl
      try simp only [Act.put, List.setIfInBounds_toArray, List.set_cons_zero, List.set_cons_succ]
      refine wpAnyH_take (i := 14) (oi := ⟨_, _, _, _, _, _⟩) (v := ?_) rfl (by kernel_rfl) (by kernel_rfl) (by kernel_rfl) (fun _ _ _ h => h) (Or.inl ⟨by rfl, ?_⟩) (by assumption) ?_
      rotate_left
      · (intro wS hSw; (try dsimp only at hSw); go_simp); all_goals with_reducible rfl
      try simp only [Act.put, List.setIfInBounds_toArray, List.set_cons_zero, List.set_cons_succ]
      refine wpAnyH_done (by kernel_rfl) ?_ _
      clear hHeld
      go_wp2_with fail
      go_ret
      exact ⟨rfl, ⟨S, IA, Ic, _, Oc, HB1.out, H2.out, H3.out, H4.out, H5.out⟩, (hbW.mono hBw).drew⟩
end Go.Proofs.Ythifddkmbjnncaa

/-
  The reader of documents: the walk of add.
-/
namespace Go.Proofs.Ythifddkmbjnncaa
open Go.RowKit

/-- why an item of a kind may not be added -/
def addK (items : List ItemD) (o : List (List UInt8)) (kind : Int) : Int :=
  if o = [] ∧ (kind = 2 ∨ items ≠ []) then 40 else if 40 ≤ o.length then 42 else if 1000 ≤ items.length then 43 else 0
def itV (x : ItemD) (A : Option Addr) (c : Nat) : Value := .agg #[.int .i64 x.level, .int .i64 x.kind, .string ⟨x.name.toArray⟩, .string ⟨x.text.toArray⟩, .slice A x.attrs.length c]

def AddPost (w : World) (B b : Nat) (items : List ItemD) (o : List (List UInt8)) (x : ItemD) (E : Int) (e : Ending) (w' : World) : Prop :=
  e = .returned (.int .i64 E) ∧ PInv w' B b (if E = 0 then items ++ [{ x with level := o.length }] else items) o ∧ Below B w w' ∧ (∀ (g : Nat) (cs : Array Value) (ty : TypeId), w.heap[g]? = some (.cells cs ty (0, 0)) → ty ≠ 50 → g ≠ b → w'.heap[g]? = w.heap[g]?)

theorem appendSw {P : Program} {w : World} {o : Oper} {a : Act} {K : Act → World → Prop} {Q : Exit → Act → World → Prop} (s x : Operand) (t : TypeId)
    (ho : o.op = .call { callee := .builtin .append, args := #[s, x], argTypes := #[t, t] })
    (B : Nat) (e : TypeId) (z : Value) (size bytes : Nat) (ht : P.underlying t = some (.slice e)) (hi : (P.info? e).map (fun i => (i.zero, i.size, i.bytes)) = some (some z, size, bytes))
    (hzs : z.cells.size = size) (hsz : 0 < size)
    (v : Value) (n : Nat) (xs : List Value) (news : List Value) (hs : a.eval s = v) (hown : w.ownsRow B e size v n xs) (hB : B ≤ w.heap.size)
    (X : Nat) (hx : a.eval x = .slice (some ⟨X, 0, none⟩) 1 1) (hX : X = w.heap.size) (hnl : news.length = size) (hu : ∀ u ∈ news, u.oneCell' = true) (hn : n < 4294967296) (hby : bytes ≤ 10000)
    (h : ∀ ad c w', w'.ownsRow B e size (.slice ad (n + 1) c) (n + 1) (xs ++ news) → Below B w w' → w.heap.size < w'.heap.size → (w.alloc (.cells news.toArray e)).grownBy w' v.ownBlock → K (a.put o.dst (.slice ad (n + 1) c)) w') :
    o.wp P a (w.alloc (.cells news.toArray e)) K Q := by
  subst hX
  obtain ⟨i0, hi0, hz0, hz1, hz2⟩ := info_parts hi
  have hnews : ∀ j u, news[j]? = some u → (w.alloc (.cells news.toArray e)).cell? ((⟨w.heap.size, 0, none⟩ : Addr).add j) = some u := by
    intro j u hj
    rw [add_zero_block, World.cell?_alloc_at _ _ _ _ (by simp)]
    simpa using hj
  obtain ⟨v', w', hrun, hown', hg, _⟩ := run_append_own (P := P) (w.alloc (.cells news.toArray e)) B t o.type e i0 z size bytes ht hi0 hz0 hz1 hz2 hzs hsz v n xs (hown.alloc _) ⟨w.heap.size, 0, none⟩ 1 1 news (by rw [hnl]; omega) hnews hu (by unfold maxLen; omega) (by
    have : (n + 1) * bytes ≤ 4294967296 * 10000 := Nat.mul_le_mul (by omega) hby
    omega) (by simp; omega)
  obtain ⟨ad, c, rfl⟩ : ∃ ad c, v' = .slice ad (n + 1) c := by
    rcases hown'.2 with ⟨_, h0⟩ | ⟨g, c, cur, hv, _⟩
    · omega
    · exact ⟨_, c, hv⟩
  have hsz' := hg.size
  simp at hsz'
  have hK := h ad c w' hown' (((Below.refl B w).alloc hB _).grown hg (by simp; omega) (fun k hk => (hown.lt k hk).1)) (by omega) hg
  unfold Oper.wp
  simp [execOp, ho, resolve, invoke, builtin, hs, hx, hrun, Result.andThen]
  exact hK


set_option maxRecDepth 100000 in
set_option maxHeartbeats 1000000 in
theorem add_no (b B : Nat) (items : List ItemD) (o : List (List UInt8)) (w : World) (h : PInv w B b items o) (_hB : B ≤ b) (hBw : B ≤ w.heap.size) (ho : o.length ≤ 1000000000) (hi : items.length ≤ 1000000000) (x : ItemD) (A : Option Addr) (c : Nat) (E : Int) (hE : Hid (addK items o x.kind = E)) (hE0 : E ≠ 0) :
    Calls Try.prog 81 #[.pointer (some ⟨b, 0, none⟩), itV x A c] w (AddPost w B b items o x E) := by
  by_cases h0 : o = []
  · by_cases hk : x.kind = 2
    · have HE : Hid (E = 40) := by show _ = _; rw [← hE.out]; unfold addK; rw [if_pos ⟨h0, .inl hk⟩]
      have hk' : (x.kind == 2) = true := by simpa using hk
      have t0 : ((o.length : Int) == 0) = true := by rw [h0]; rfl
      clear hk h0 hE0
      obtain ⟨S, IA, Ic, OA, Oc, h1, h2, h3, h4, h5⟩ := h.out
      have hlen : Hid (S.length = items.length) := by show _ = _; rw [← h5, List.length_map]
      obtain ⟨W1, hW1⟩ : ∃ W1, Hid (W1 = w.alloc (.cells #[.int .i64 o.length, .int .i64 x.kind, .string ⟨x.name.toArray⟩, .string ⟨x.text.toArray⟩, .slice A x.attrs.length c] 50)) := ⟨_, rfl⟩
      have hbW : Below w.heap.size w W1 := by rw [hW1.out]; exact (Below.refl _ w).alloc (Nat.le_refl _) _
      have HB1 := Lib.hid (h1.below hbW)
      have H2 := Lib.hid (own_keep h2 hbW)
      have H3 : Hid (∀ s ∈ S, AttrsOwn W1 B s.2.1 s.2.2 s.1.attrs) := fun s hs => own_keep (h3 s hs) hbW
      have H4 := Lib.hid (h4.below hbW)
      have H5 := Lib.hid h5
      have hz1 : w.heap.size < W1.heap.size := by rw [hW1.out]; simp
      obtain ⟨z0, z1, _, _⟩ := h1.cells
      have hbl := h1.lt
      have hbne : b ≠ w.heap.size := by omega
      have hown2 : ∀ g, (Value.slice IA S.length Ic).ownBlock = some g → g = w.heap.size → False := fun g hg e => by have := (own_type h2 g hg).2.1; omega
      have hownb : (Value.slice IA S.length Ic).ownBlock ≠ some b := fun hg => by
        obtain ⟨_, _, cur, hc⟩ := own_type h2 b hg
        unfold PBlk at h1
        rw [hc] at h1
        injection h1 with h1
        injection h1 with _ h1
        exact absurd h1 (by decide)
      clear h h1 h2 h3 h4 h5
      skip
      show Calls Try.prog 81 #[.pointer (some ⟨b, 0, none⟩), .agg #[.int .i64 x.level, .int .i64 x.kind, .string ⟨x.name.toArray⟩, .string ⟨x.text.toArray⟩, .slice A x.attrs.length c]] w _
      go_enter Try.func81, Try.ntmps81
      go_wp2_with fail
      go_ret
      rw [HE.out]
      refine ⟨rfl, ?_, ?_, fun g cs ty hg _ _ => ?_⟩
      · rw [if_neg (by decide)]
        rw [← hW1.out]
        exact ⟨S, IA, Ic, OA, Oc, HB1.out, H2.out, H3.out, H4.out, H5.out⟩
      · rw [← hW1.out]; exact hbW.mono hBw
      · rw [← hW1.out]; exact hbW.block g (Array.getElem?_eq_some_iff.1 hg).1
    · by_cases hi0 : items = []
      · exfalso
        apply hE0
        rw [← hE.out]; unfold addK
        rw [if_neg (by intro hh; rcases hh.2 with h | h; exact hk h; exact h hi0), if_neg (by rw [h0]; simp), if_neg (by rw [hi0]; simp)]
      · have HE : Hid (E = 40) := by show _ = _; rw [← hE.out]; unfold addK; rw [if_pos ⟨h0, .inr hi0⟩]
        have hk' : (x.kind == 2) = false := by simpa using hk
        have t0 : ((o.length : Int) == 0) = true := by rw [h0]; rfl
        have hpos : 0 < items.length := List.length_pos_iff.2 hi0
        clear hk h0 hE0 hi0
        obtain ⟨S, IA, Ic, OA, Oc, h1, h2, h3, h4, h5⟩ := h.out
        have hlen : Hid (S.length = items.length) := by show _ = _; rw [← h5, List.length_map]
        obtain ⟨W1, hW1⟩ : ∃ W1, Hid (W1 = w.alloc (.cells #[.int .i64 o.length, .int .i64 x.kind, .string ⟨x.name.toArray⟩, .string ⟨x.text.toArray⟩, .slice A x.attrs.length c] 50)) := ⟨_, rfl⟩
        have hbW : Below w.heap.size w W1 := by rw [hW1.out]; exact (Below.refl _ w).alloc (Nat.le_refl _) _
        have HB1 := Lib.hid (h1.below hbW)
        have H2 := Lib.hid (own_keep h2 hbW)
        have H3 : Hid (∀ s ∈ S, AttrsOwn W1 B s.2.1 s.2.2 s.1.attrs) := fun s hs => own_keep (h3 s hs) hbW
        have H4 := Lib.hid (h4.below hbW)
        have H5 := Lib.hid h5
        have hz1 : w.heap.size < W1.heap.size := by rw [hW1.out]; simp
        obtain ⟨z0, z1, _, _⟩ := h1.cells
        have hbl := h1.lt
        have hbne : b ≠ w.heap.size := by omega
        have hown2 : ∀ g, (Value.slice IA S.length Ic).ownBlock = some g → g = w.heap.size → False := fun g hg e => by have := (own_type h2 g hg).2.1; omega
        have hownb : (Value.slice IA S.length Ic).ownBlock ≠ some b := fun hg => by
          obtain ⟨_, _, cur, hc⟩ := own_type h2 b hg
          unfold PBlk at h1
          rw [hc] at h1
          injection h1 with h1
          injection h1 with _ h1
          exact absurd h1 (by decide)
        clear h h1 h2 h3 h4 h5
        have hpos' : 0 < S.length := by have := hlen.out; omega
        show Calls Try.prog 81 #[.pointer (some ⟨b, 0, none⟩), .agg #[.int .i64 x.level, .int .i64 x.kind, .string ⟨x.name.toArray⟩, .string ⟨x.text.toArray⟩, .slice A x.attrs.length c]] w _
        go_enter Try.func81, Try.ntmps81
        go_wp2_with fail
        all_goals try (exfalso; omega)
        go_ret
        rw [HE.out]
        refine ⟨rfl, ?_, ?_, fun g cs ty hg _ _ => ?_⟩
        · rw [if_neg (by decide)]
          rw [← hW1.out]
          exact ⟨S, IA, Ic, OA, Oc, HB1.out, H2.out, H3.out, H4.out, H5.out⟩
        · rw [← hW1.out]; exact hbW.mono hBw
        · rw [← hW1.out]; exact hbW.block g (Array.getElem?_eq_some_iff.1 hg).1
  · have hpos : 0 < o.length := List.length_pos_iff.2 h0
    have t0 : ((o.length : Int) == 0) = false := by simp; omega
    by_cases h40 : 40 ≤ o.length
    · have HE : Hid (E = 42) := by show _ = _; rw [← hE.out]; unfold addK; rw [if_neg (fun hh => h0 hh.1), if_pos h40]
      have h40' : (40 : Int) ≤ o.length := by omega
      clear h0 hE0 h40
      obtain ⟨S, IA, Ic, OA, Oc, h1, h2, h3, h4, h5⟩ := h.out
      have hlen : Hid (S.length = items.length) := by show _ = _; rw [← h5, List.length_map]
      obtain ⟨W1, hW1⟩ : ∃ W1, Hid (W1 = w.alloc (.cells #[.int .i64 o.length, .int .i64 x.kind, .string ⟨x.name.toArray⟩, .string ⟨x.text.toArray⟩, .slice A x.attrs.length c] 50)) := ⟨_, rfl⟩
      have hbW : Below w.heap.size w W1 := by rw [hW1.out]; exact (Below.refl _ w).alloc (Nat.le_refl _) _
      have HB1 := Lib.hid (h1.below hbW)
      have H2 := Lib.hid (own_keep h2 hbW)
      have H3 : Hid (∀ s ∈ S, AttrsOwn W1 B s.2.1 s.2.2 s.1.attrs) := fun s hs => own_keep (h3 s hs) hbW
      have H4 := Lib.hid (h4.below hbW)
      have H5 := Lib.hid h5
      have hz1 : w.heap.size < W1.heap.size := by rw [hW1.out]; simp
      obtain ⟨z0, z1, _, _⟩ := h1.cells
      have hbl := h1.lt
      have hbne : b ≠ w.heap.size := by omega
      have hown2 : ∀ g, (Value.slice IA S.length Ic).ownBlock = some g → g = w.heap.size → False := fun g hg e => by have := (own_type h2 g hg).2.1; omega
      have hownb : (Value.slice IA S.length Ic).ownBlock ≠ some b := fun hg => by
        obtain ⟨_, _, cur, hc⟩ := own_type h2 b hg
        unfold PBlk at h1
        rw [hc] at h1
        injection h1 with h1
        injection h1 with _ h1
        exact absurd h1 (by decide)
      clear h h1 h2 h3 h4 h5
      skip
      show Calls Try.prog 81 #[.pointer (some ⟨b, 0, none⟩), .agg #[.int .i64 x.level, .int .i64 x.kind, .string ⟨x.name.toArray⟩, .string ⟨x.text.toArray⟩, .slice A x.attrs.length c]] w _
      go_enter Try.func81, Try.ntmps81
      go_wp2_with fail
      go_ret
      rw [HE.out]
      refine ⟨rfl, ?_, ?_, fun g cs ty hg _ _ => ?_⟩
      · rw [if_neg (by decide)]
        rw [← hW1.out]
        exact ⟨S, IA, Ic, OA, Oc, HB1.out, H2.out, H3.out, H4.out, H5.out⟩
      · rw [← hW1.out]; exact hbW.mono hBw
      · rw [← hW1.out]; exact hbW.block g (Array.getElem?_eq_some_iff.1 hg).1
    · have h1000 : 1000 ≤ items.length := by
        rcases Nat.lt_or_ge items.length 1000 with hlt | hge
        · exfalso
          apply hE0
          rw [← hE.out]; unfold addK
          rw [if_neg (fun hh => h0 hh.1), if_neg h40, if_neg (by omega)]
        · exact hge
      have HE : Hid (E = 43) := by show _ = _; rw [← hE.out]; unfold addK; rw [if_neg (fun hh => h0 hh.1), if_neg h40, if_pos h1000]
      have h40' : (o.length : Int) < 40 := by omega
      clear h0 hE0 h40
      obtain ⟨S, IA, Ic, OA, Oc, h1, h2, h3, h4, h5⟩ := h.out
      have hlen : Hid (S.length = items.length) := by show _ = _; rw [← h5, List.length_map]
      obtain ⟨W1, hW1⟩ : ∃ W1, Hid (W1 = w.alloc (.cells #[.int .i64 o.length, .int .i64 x.kind, .string ⟨x.name.toArray⟩, .string ⟨x.text.toArray⟩, .slice A x.attrs.length c] 50)) := ⟨_, rfl⟩
      have hbW : Below w.heap.size w W1 := by rw [hW1.out]; exact (Below.refl _ w).alloc (Nat.le_refl _) _
      have HB1 := Lib.hid (h1.below hbW)
      have H2 := Lib.hid (own_keep h2 hbW)
      have H3 : Hid (∀ s ∈ S, AttrsOwn W1 B s.2.1 s.2.2 s.1.attrs) := fun s hs => own_keep (h3 s hs) hbW
      have H4 := Lib.hid (h4.below hbW)
      have H5 := Lib.hid h5
      have hz1 : w.heap.size < W1.heap.size := by rw [hW1.out]; simp
      obtain ⟨z0, z1, _, _⟩ := h1.cells
      have hbl := h1.lt
      have hbne : b ≠ w.heap.size := by omega
      have hown2 : ∀ g, (Value.slice IA S.length Ic).ownBlock = some g → g = w.heap.size → False := fun g hg e => by have := (own_type h2 g hg).2.1; omega
      have hownb : (Value.slice IA S.length Ic).ownBlock ≠ some b := fun hg => by
        obtain ⟨_, _, cur, hc⟩ := own_type h2 b hg
        unfold PBlk at h1
        rw [hc] at h1
        injection h1 with h1
        injection h1 with _ h1
        exact absurd h1 (by decide)
      clear h h1 h2 h3 h4 h5
      have hS : (1000 : Int) ≤ S.length := by have := hlen.out; omega
      show Calls Try.prog 81 #[.pointer (some ⟨b, 0, none⟩), .agg #[.int .i64 x.level, .int .i64 x.kind, .string ⟨x.name.toArray⟩, .string ⟨x.text.toArray⟩, .slice A x.attrs.length c]] w _
      go_enter Try.func81, Try.ntmps81
      go_wp2_with fail
      go_ret
      rw [HE.out]
      refine ⟨rfl, ?_, ?_, fun g cs ty hg _ _ => ?_⟩
      · rw [if_neg (by decide)]
        rw [← hW1.out]
        exact ⟨S, IA, Ic, OA, Oc, HB1.out, H2.out, H3.out, H4.out, H5.out⟩
      · rw [← hW1.out]; exact hbW.mono hBw
      · rw [← hW1.out]; exact hbW.block g (Array.getElem?_eq_some_iff.1 hg).1

theorem cellsI_cell (s : Slot) : ∀ u ∈ cellsI s, u.oneCell' = true := by
  intro u hu
  simp [cellsI, strV] at hu
  rcases hu with rfl | rfl | rfl | rfl | rfl <;> rfl
/-- an item in a block of its own -/
def BoxI (w : World) (g : Nat) (lv : Int) (x : ItemD) (A : Option Addr) (c : Nat) : Prop := w.cell? ⟨g, 0, none⟩ = some (.int .i64 lv) ∧ w.cell? ⟨g, 1, none⟩ = some (.int .i64 x.kind) ∧ w.cell? ⟨g, 2, none⟩ = some (.string ⟨x.name.toArray⟩) ∧ w.cell? ⟨g, 3, none⟩ = some (.string ⟨x.text.toArray⟩) ∧ w.cell? ⟨g, 4, none⟩ = some (.slice A x.attrs.length c)
theorem BoxI.keep {w w' : World} {g : Nat} {lv : Int} {x : ItemD} {A : Option Addr} {c : Nat} (h : BoxI w g lv x A c) (hk : ∀ j, w'.cell? ⟨g, j, none⟩ = w.cell? ⟨g, j, none⟩) : BoxI w' g lv x A c := by
  obtain ⟨h0, h1, h2, h3, h4⟩ := h
  exact ⟨(hk 0).trans h0, (hk 1).trans h1, (hk 2).trans h2, (hk 3).trans h3, (hk 4).trans h4⟩



set_option maxRecDepth 100000 in
set_option maxHeartbeats 1000000 in
theorem add_yes (b B : Nat) (items : List ItemD) (o : List (List UInt8)) (w : World) (h : PInv w B b items o) (hB : B ≤ b) (hBw : B ≤ w.heap.size) (x : ItemD) (A : Option Addr) (c : Nat) (hA : AttrsOwn w B A c x.attrs) (hE : addK items o x.kind = 0) :
    Calls Try.prog 81 #[.pointer (some ⟨b, 0, none⟩), itV x A c] w (AddPost w B b items o x 0) := by
  have hE1 : ¬ (o = [] ∧ (x.kind = 2 ∨ items ≠ [])) := fun hh => by unfold addK at hE; rw [if_pos hh] at hE; exact absurd hE (by decide)
  have hE2 : o.length < 40 := by
    rcases Nat.lt_or_ge o.length 40 with hlt | hge
    · exact hlt
    · exfalso; unfold addK at hE; rw [if_neg hE1, if_pos hge] at hE; exact absurd hE (by decide)
  have hE3 : items.length < 1000 := by
    rcases Nat.lt_or_ge items.length 1000 with hlt | hge
    · exact hlt
    · exfalso; unfold addK at hE; rw [if_neg hE1, if_neg (by omega), if_pos hge] at hE; exact absurd hE (by decide)
  have h40' : (o.length : Int) < 40 := by omega
  have HA : Hid (AttrsOwn (w.alloc (.cells #[.int .i64 o.length, .int .i64 x.kind, .string ⟨x.name.toArray⟩, .string ⟨x.text.toArray⟩, .slice A x.attrs.length c] 50)) B A c x.attrs) := World.ownsRow.alloc hA _
  clear hA hE
  by_cases h0 : o = []
  · have hk' : (x.kind == 2) = false := by
      by_cases hk : x.kind = 2
      · exact absurd ⟨h0, .inl hk⟩ hE1
      · simpa using hk
    have hi0 : items = [] := by
      by_cases hi : items = []
      · exact hi
      · exact absurd ⟨h0, .inr hi⟩ hE1
    have t0 : ((o.length : Int) == 0) = true := by rw [h0]; rfl
    have hil : items.length = 0 := by rw [hi0]; rfl
    have hE1' := Lib.hid hE1
    clear hE1 h0 hi0
    obtain ⟨S, IA, Ic, OA, Oc, h1, h2, h3, h4, h5⟩ := h.out
    have hlen : Hid (S.length = items.length) := by show _ = _; rw [← h5, List.length_map]
    obtain ⟨W1, hW1⟩ : ∃ W1, Hid (W1 = w.alloc (.cells #[.int .i64 o.length, .int .i64 x.kind, .string ⟨x.name.toArray⟩, .string ⟨x.text.toArray⟩, .slice A x.attrs.length c] 50)) := ⟨_, rfl⟩
    have hbW : Below w.heap.size w W1 := by rw [hW1.out]; exact (Below.refl _ w).alloc (Nat.le_refl _) _
    have HB1 := Lib.hid (h1.below hbW)
    have H2 := Lib.hid (own_keep h2 hbW)
    have H3 : Hid (∀ s ∈ S, AttrsOwn W1 B s.2.1 s.2.2 s.1.attrs) := fun s hs => own_keep (h3 s hs) hbW
    have H4 := Lib.hid (h4.below hbW)
    have H5 := Lib.hid h5
    have hz1 : w.heap.size < W1.heap.size := by rw [hW1.out]; simp
    obtain ⟨z0, z1, _, _⟩ := h1.cells
    have hbl := h1.lt
    have hbne : b ≠ w.heap.size := by omega
    have hown2 : ∀ g, (Value.slice IA S.length Ic).ownBlock = some g → g = w.heap.size → False := fun g hg e => by have := (own_type h2 g hg).2.1; omega
    have hownb : (Value.slice IA S.length Ic).ownBlock ≠ some b := fun hg => by
      obtain ⟨_, _, cur, hc⟩ := own_type h2 b hg
      unfold PBlk at h1
      rw [hc] at h1
      injection h1 with h1
      injection h1 with _ h1
      exact absurd h1 (by decide)
    clear h h1 h2 h3 h4 h5
    have hS : S.length ≤ 0 := by have := hlen.out; omega
    show Calls Try.prog 81 #[.pointer (some ⟨b, 0, none⟩), .agg #[.int .i64 x.level, .int .i64 x.kind, .string ⟨x.name.toArray⟩, .string ⟨x.text.toArray⟩, .slice A x.attrs.length c]] w _
    go_enter Try.func81, Try.ntmps81
    go_wp2_with fail
    all_goals try (exfalso; omega)
    have y : ∀ (j : Nat) (u : Value), (#[.int .i64 o.length, .int .i64 x.kind, .string ⟨x.name.toArray⟩, .string ⟨x.text.toArray⟩, .slice A x.attrs.length c] : Array Value)[j]? = some u → W1.cell? ⟨w.heap.size, j, none⟩ = some u := fun j u hu => by rw [hW1.out, World.cell?_alloc_at _ _ _ _ rfl]; exact hu
    have HS : Hid (BoxI W1.drew w.heap.size o.length x A c) := ⟨y 0 _ rfl, y 1 _ rfl, y 2 _ rfl, y 3 _ rfl, y 4 _ rfl⟩
    have hzB : B ≤ W1.drew.heap.size := Nat.le_trans hBw hbW.size
    clear y
    rw [← hW1.out]
    refine wp_region_held_drew (S := fun w' => w'.cell? ⟨w.heap.size, 0, none⟩ = some (.int .i64 o.length) ∧ w'.cell? ⟨w.heap.size, 1, none⟩ = some (.int .i64 x.kind) ∧ w'.cell? ⟨w.heap.size, 2, none⟩ = some (.string ⟨x.name.toArray⟩) ∧ w'.cell? ⟨w.heap.size, 3, none⟩ = some (.string ⟨x.text.toArray⟩) ∧ w'.cell? ⟨w.heap.size, 4, none⟩ = some (.slice A x.attrs.length c)) (by kernel_rfl) HS.out (fun hHeld => ?_)
    refine wpAnyH_take (i := 0) (oi := ⟨_, _, _, _, _, _⟩) (v := ?_) rfl (by kernel_rfl) (by kernel_rfl) (by kernel_rfl) (fun _ _ _ h => h) (Or.inl ⟨by rfl, ?_⟩) (by assumption) ?_
    rotate_left
    · (intro wS hSw; (try dsimp only at hSw); go_simp); all_goals with_reducible rfl
    try simp only [Act.put, List.setIfInBounds_toArray, List.set_cons_zero, List.set_cons_succ]
    refine wpAnyH_take (i := 1) (oi := ⟨_, _, _, _, _, _⟩) (v := ?_) rfl (by kernel_rfl) (by kernel_rfl) (by kernel_rfl) (fun _ _ _ h => h) (Or.inl ⟨by rfl, ?_⟩) (by assumption) ?_
    rotate_left
    · (intro wS hSw; (try dsimp only at hSw); go_simp); all_goals with_reducible rfl
    try simp only [Act.put, List.setIfInBounds_toArray, List.set_cons_zero, List.set_cons_succ]
    refine wpAnyH_take (i := 2) (oi := ⟨_, _, _, _, _, _⟩) (v := ?_) rfl (by kernel_rfl) (by kernel_rfl) (by kernel_rfl) (fun _ _ _ h => h) (Or.inl ⟨by rfl, ?_⟩) (by assumption) ?_
    rotate_left
    · (intro wS hSw; (try dsimp only at hSw); go_simp); all_goals with_reducible rfl
    try simp only [Act.put, List.setIfInBounds_toArray, List.set_cons_zero, List.set_cons_succ]
    refine wpAnyH_take (i := 3) (oi := ⟨_, _, _, _, _, _⟩) (v := ?_) rfl (by kernel_rfl) (by kernel_rfl) (by kernel_rfl) (fun _ _ _ h => h) (Or.inl ⟨by rfl, ?_⟩) (by assumption) ?_
    rotate_left
    · (intro wS hSw; (try dsimp only at hSw); go_simp); all_goals with_reducible rfl
    try simp only [Act.put, List.setIfInBounds_toArray, List.set_cons_zero, List.set_cons_succ]
    refine wpAnyH_take (i := 5) (oi := ⟨_, _, _, _, _, _⟩) (v := ?_) rfl (by kernel_rfl) (by kernel_rfl) (by kernel_rfl) (fun _ _ _ h => h) (Or.inl ⟨by rfl, ?_⟩) (by assumption) ?_
    rotate_left
    · (intro wS hSw; (try dsimp only at hSw); go_simp); all_goals with_reducible rfl
    try simp only [Act.put, List.setIfInBounds_toArray, List.set_cons_zero, List.set_cons_succ]
    have z0d : W1.cell? ⟨b, 0, none⟩ = some (.slice IA S.length Ic) := HB1.out.cells.1
    have z0e : W1.drew.cell? ⟨b, 0, none⟩ = some (.slice IA S.length Ic) := HB1.out.cells.1
    have HS2 : Hid (BoxI (W1.drew.alloc (.cells #[.int .i64 o.length, .int .i64 x.kind, .string ⟨x.name.toArray⟩, .string ⟨x.text.toArray⟩, .slice A x.attrs.length c] 50)) w.heap.size o.length x A c) := BoxI.keep HS.out (fun j => World.cell?_alloc_lt _ _ _ hz1)
    have hbd : b < W1.heap.size := Nat.lt_of_lt_of_le hbl hbW.size
    have z0f : (W1.drew.alloc (.cells #[.int .i64 o.length, .int .i64 x.kind, .string ⟨x.name.toArray⟩, .string ⟨x.text.toArray⟩, .slice A x.attrs.length c] 50)).cell? ⟨b, 0, none⟩ = some (.slice IA S.length Ic) := (World.cell?_alloc_lt _ _ _ hbd).trans z0e
    refine wpAnyH_ready (rs := [4, 6]) (by kernel_rfl) (by simp) ?_
    refine AllReadyH.cons (o := ⟨_, _, _, _, _, _⟩) rfl (fun K hK => ?_) (AllReadyH.cons (o := ⟨_, _, _, _, _, _⟩) rfl (fun K hK => ?_) AllReadyH.nil)
    · go_simp
      refine hK.out _ _ (HS.out) (fun hHeld => ?_)
      clear hK K
      try simp only [Act.put, List.setIfInBounds_toArray, List.set_cons_zero, List.set_cons_succ]
      refine wpAnyH_ready (rs := [6]) (by kernel_rfl) (by simp) ?_
      refine AllReadyH.cons (o := ⟨_, _, _, _, _, _⟩) rfl (fun K hK => ?_) AllReadyH.nil
      go_simp
      refine hK.out _ _ (HS2.out) (fun hHeld => ?_)
      clear hK K
      try simp only [Act.put, List.setIfInBounds_toArray, List.set_cons_zero, List.set_cons_succ]
      refine wpAnyH_ready (rs := [7]) (by kernel_rfl) (by simp) ?_
      refine AllReadyH.cons (o := ⟨_, _, _, _, _, _⟩) rfl (fun K hK => ?_) AllReadyH.nil
      refine appendSw (.tmp 43) (.tmp 45) 45 rfl B 50 (.agg #[.int .i64 0, .int .i64 0, .string ByteArray.empty, .string ByteArray.empty, .slice none 0 0]) 5 72 Try.underlying45 infoItem rfl (by decide) _ S.length _ (cellsI ({ x with level := o.length }, A, c)) rfl H2.out hzB _ rfl rfl (cellsI_length _) (cellsI_cell _) (by omega) (by decide) ?_
      intro a4 c4 w4 hown4 hb4 hz4 hg4
      have hz4' : W1.heap.size < w4.heap.size := hz4
      have HS4 : Hid (BoxI w4 w.heap.size o.length x A c) := BoxI.keep HS2.out (fun j => World.grownBy.cell_far hg4 ⟨w.heap.size, j, none⟩ (by show w.heap.size < _; simp; omega) (fun e => hown2 _ e.symm rfl))
      have HB4 : Hid (PBlk w4 b IA S.length Ic OA o.length Oc) := by
        have h0 : PBlk (W1.drew.alloc (.cells #[.int .i64 o.length, .int .i64 x.kind, .string ⟨x.name.toArray⟩, .string ⟨x.text.toArray⟩, .slice A x.attrs.length c] 50)) b IA S.length Ic OA o.length Oc := PBlk.below (w := W1.drew) HB1.out ((Below.refl _ _).alloc (Nat.le_refl _) _)
        exact (hg4.block b h0.lt (fun e => hownb e.symm)).trans h0
      obtain ⟨k0, _, kf0, _⟩ := HB4.out.cells
      refine hK.out _ _ (HS4.out) (fun hHeld => ?_)
      clear hK K
      try simp only [Act.put, List.setIfInBounds_toArray, List.set_cons_zero, List.set_cons_succ]
      refine wpAnyH_take (i := 8) (oi := ⟨_, _, _, _, _, _⟩) (v := ?_) rfl (by kernel_rfl) (by kernel_rfl) (by kernel_rfl) (fun _ _ _ h => h) (Or.inl ⟨by rfl, ?_⟩) (by assumption) ?_
      rotate_left
      · (intro wS hSw; (try dsimp only at hSw); go_simp); all_goals with_reducible rfl
      try simp only [Act.put, List.setIfInBounds_toArray, List.set_cons_zero, List.set_cons_succ]
      refine wpAnyH_take (i := 9) (oi := ⟨_, _, _, _, _, _⟩) (v := ?_) rfl (by kernel_rfl) (by kernel_rfl) (by kernel_rfl) (fun _ _ _ h => h) (Or.inl ⟨by rfl, ?_⟩) (by assumption) ?_
      rotate_left
      · (intro wS hSw; (try dsimp only at hSw); go_simp); all_goals with_reducible rfl
      try simp only [Act.put, List.setIfInBounds_toArray, List.set_cons_zero, List.set_cons_succ]
      refine wpAnyH_ready (rs := [10]) (by kernel_rfl) (by simp) ?_
      refine AllReadyH.cons (o := ⟨_, _, _, _, _, _⟩) rfl (fun K hK => ?_) AllReadyH.nil
      go_simp
      have HS5 : Hid (BoxI (w4.setCell ⟨b, 0, none⟩ (.slice a4 (S.length + 1) c4)) w.heap.size o.length x A c) := BoxI.keep HS4.out (fun j => World.grownBy.cell_far (Lib.grownBy_setCell w4 b 0 _) ⟨w.heap.size, j, none⟩ (by show w.heap.size < _; omega) (fun e => by injection e with e; have e' : w.heap.size = b := e; omega))
      refine hK.out _ _ (HS5.out) (fun hHeld => ?_)
      clear hK K
      try simp only [Act.put, List.setIfInBounds_toArray, List.set_cons_zero, List.set_cons_succ]
      refine wpAnyH_done (by kernel_rfl) ?_ _
      clear hHeld
      go_wp2_with fail
      go_ret
      have hfin : ItemsOwn w4 B a4 c4 (S ++ [(({ x with level := (o.length : Int) } : ItemD), A, c)]) := by
        unfold ItemsOwn
        rw [List.length_append, List.flatMap_append]
        simpa using hown4
      have halloc : ∀ {e : TypeId} {size : Nat} {v : Value} {n : Nat} {xs : List Value}, W1.ownsRow B e size v n xs → e ≠ 50 → w4.ownsRow B e size v n xs := fun hr he =>
        own_grown (World.ownsRow.alloc (w := W1.drew) hr _) (World.ownsRow.alloc (w := W1.drew) H2.out _) he hg4
      refine ⟨rfl, ?_, (((hbW.mono hBw).drew).trans hb4).setCell hB _, fun g cs ty hg hty hgb => ?_⟩
      rotate_left
      · have hlt : g < w.heap.size := (Array.getElem?_eq_some_iff.1 hg).1
        have hg1 : W1.heap[g]? = w.heap[g]? := hbW.block g hlt
        have hlt1 : g < W1.heap.size := Nat.lt_trans hlt hz1
        have e1 : (w4.setCell ⟨b, 0, none⟩ (.slice a4 (S.length + 1) c4)).heap[g]? = w4.heap[g]? := (Lib.grownBy_setCell w4 b 0 _).block g (by omega) (fun e => by injection e with e; exact hgb e)
        have e2 : w4.heap[g]? = (W1.drew.alloc (.cells #[.int .i64 o.length, .int .i64 x.kind, .string ⟨x.name.toArray⟩, .string ⟨x.text.toArray⟩, .slice A x.attrs.length c] 50)).heap[g]? := hg4.block g (by show g < _; simp; omega) (fun e => by
          obtain ⟨_, _, cur, hc⟩ := own_type (World.ownsRow.alloc (w := W1.drew) H2.out _) g e.symm
          have e3 : (W1.drew.alloc (.cells #[.int .i64 o.length, .int .i64 x.kind, .string ⟨x.name.toArray⟩, .string ⟨x.text.toArray⟩, .slice A x.attrs.length c] 50)).heap[g]? = W1.heap[g]? := heap_alloc_old W1.drew _ hlt1
          rw [e3, hg1, hg] at hc
          injection hc with hc
          injection hc with _ hc
          exact hty hc)
        exact e1.trans (e2.trans ((heap_alloc_old W1.drew _ hlt1).trans hg1))
      rw [if_pos rfl]
      refine ⟨S ++ [(({ x with level := (o.length : Int) } : ItemD), A, c)], a4, c4, OA, Oc, ?_, own_set HB4.out _ hfin (by decide), fun s hs => ?_, ?_, ?_⟩
      · have := HB4.out.setItems a4 (S.length + 1) c4
        rw [List.length_append]
        exact this
      · refine own_set HB4.out _ (halloc (e := 44) ?_ (by decide)) (by decide)
        rcases List.mem_append.1 hs with hm | hm
        · exact H3.out s hm
        · simp at hm; subst hm
          have := HA.out
          rw [← hW1.out] at this
          exact this
      · refine open_set HB4.out _ ?_
        have h0 : OpenOwn (W1.drew.alloc (.cells #[.int .i64 o.length, .int .i64 x.kind, .string ⟨x.name.toArray⟩, .string ⟨x.text.toArray⟩, .slice A x.attrs.length c] 50)) B OA Oc o := OpenOwn.below (w := W1.drew) H4.out ((Below.refl _ _).alloc (Nat.le_refl _) _)
        exact h0.grown hg4 (fun g hg _ => by
          obtain ⟨_, _, cur, hc⟩ := own_type (World.ownsRow.alloc (w := W1.drew) H2.out _) g hg
          exact ⟨cur, _, hc, by decide⟩)
      · rw [List.map_append, H5.out]; rfl
    · go_simp
      refine hK.out _ _ (HS2.out) (fun hHeld => ?_)
      clear hK K
      try simp only [Act.put, List.setIfInBounds_toArray, List.set_cons_zero, List.set_cons_succ]
      refine wpAnyH_ready (rs := [4]) (by kernel_rfl) (by simp) ?_
      refine AllReadyH.cons (o := ⟨_, _, _, _, _, _⟩) rfl (fun K hK => ?_) AllReadyH.nil
      go_simp
      refine hK.out _ _ (HS2.out) (fun hHeld => ?_)
      clear hK K
      try simp only [Act.put, List.setIfInBounds_toArray, List.set_cons_zero, List.set_cons_succ]
      refine wpAnyH_ready (rs := [7]) (by kernel_rfl) (by simp) ?_
      refine AllReadyH.cons (o := ⟨_, _, _, _, _, _⟩) rfl (fun K hK => ?_) AllReadyH.nil
      refine appendSw (.tmp 43) (.tmp 45) 45 rfl B 50 (.agg #[.int .i64 0, .int .i64 0, .string ByteArray.empty, .string ByteArray.empty, .slice none 0 0]) 5 72 Try.underlying45 infoItem rfl (by decide) _ S.length _ (cellsI ({ x with level := o.length }, A, c)) rfl H2.out hzB _ rfl rfl (cellsI_length _) (cellsI_cell _) (by omega) (by decide) ?_
      intro a4 c4 w4 hown4 hb4 hz4 hg4
      have hz4' : W1.heap.size < w4.heap.size := hz4
      have HS4 : Hid (BoxI w4 w.heap.size o.length x A c) := BoxI.keep HS2.out (fun j => World.grownBy.cell_far hg4 ⟨w.heap.size, j, none⟩ (by show w.heap.size < _; simp; omega) (fun e => hown2 _ e.symm rfl))
      have HB4 : Hid (PBlk w4 b IA S.length Ic OA o.length Oc) := by
        have h0 : PBlk (W1.drew.alloc (.cells #[.int .i64 o.length, .int .i64 x.kind, .string ⟨x.name.toArray⟩, .string ⟨x.text.toArray⟩, .slice A x.attrs.length c] 50)) b IA S.length Ic OA o.length Oc := PBlk.below (w := W1.drew) HB1.out ((Below.refl _ _).alloc (Nat.le_refl _) _)
        exact (hg4.block b h0.lt (fun e => hownb e.symm)).trans h0
      obtain ⟨k0, _, kf0, _⟩ := HB4.out.cells
      refine hK.out _ _ (HS4.out) (fun hHeld => ?_)
      clear hK K
      try simp only [Act.put, List.setIfInBounds_toArray, List.set_cons_zero, List.set_cons_succ]
      refine wpAnyH_take (i := 8) (oi := ⟨_, _, _, _, _, _⟩) (v := ?_) rfl (by kernel_rfl) (by kernel_rfl) (by kernel_rfl) (fun _ _ _ h => h) (Or.inl ⟨by rfl, ?_⟩) (by assumption) ?_
      rotate_left
      · (intro wS hSw; (try dsimp only at hSw); go_simp); all_goals with_reducible rfl
      try simp only [Act.put, List.setIfInBounds_toArray, List.set_cons_zero, List.set_cons_succ]
      refine wpAnyH_take (i := 9) (oi := ⟨_, _, _, _, _, _⟩) (v := ?_) rfl (by kernel_rfl) (by kernel_rfl) (by kernel_rfl) (fun _ _ _ h => h) (Or.inl ⟨by rfl, ?_⟩) (by assumption) ?_
      rotate_left
      · (intro wS hSw; (try dsimp only at hSw); go_simp); all_goals with_reducible rfl
      try simp only [Act.put, List.setIfInBounds_toArray, List.set_cons_zero, List.set_cons_succ]
      refine wpAnyH_ready (rs := [10]) (by kernel_rfl) (by simp) ?_
      refine AllReadyH.cons (o := ⟨_, _, _, _, _, _⟩) rfl (fun K hK => ?_) AllReadyH.nil
      go_simp
      have HS5 : Hid (BoxI (w4.setCell ⟨b, 0, none⟩ (.slice a4 (S.length + 1) c4)) w.heap.size o.length x A c) := BoxI.keep HS4.out (fun j => World.grownBy.cell_far (Lib.grownBy_setCell w4 b 0 _) ⟨w.heap.size, j, none⟩ (by show w.heap.size < _; omega) (fun e => by injection e with e; have e' : w.heap.size = b := e; omega))
      refine hK.out _ _ (HS5.out) (fun hHeld => ?_)
      clear hK K
      try simp only [Act.put, List.setIfInBounds_toArray, List.set_cons_zero, List.set_cons_succ]
      refine wpAnyH_done (by kernel_rfl) ?_ _
      clear hHeld
      go_wp2_with fail
      go_ret
      have hfin : ItemsOwn w4 B a4 c4 (S ++ [(({ x with level := (o.length : Int) } : ItemD), A, c)]) := by
        unfold ItemsOwn
        rw [List.length_append, List.flatMap_append]
        simpa using hown4
      have halloc : ∀ {e : TypeId} {size : Nat} {v : Value} {n : Nat} {xs : List Value}, W1.ownsRow B e size v n xs → e ≠ 50 → w4.ownsRow B e size v n xs := fun hr he =>
        own_grown (World.ownsRow.alloc (w := W1.drew) hr _) (World.ownsRow.alloc (w := W1.drew) H2.out _) he hg4
      refine ⟨rfl, ?_, (((hbW.mono hBw).drew).trans hb4).setCell hB _, fun g cs ty hg hty hgb => ?_⟩
      rotate_left
      · have hlt : g < w.heap.size := (Array.getElem?_eq_some_iff.1 hg).1
        have hg1 : W1.heap[g]? = w.heap[g]? := hbW.block g hlt
        have hlt1 : g < W1.heap.size := Nat.lt_trans hlt hz1
        have e1 : (w4.setCell ⟨b, 0, none⟩ (.slice a4 (S.length + 1) c4)).heap[g]? = w4.heap[g]? := (Lib.grownBy_setCell w4 b 0 _).block g (by omega) (fun e => by injection e with e; exact hgb e)
        have e2 : w4.heap[g]? = (W1.drew.alloc (.cells #[.int .i64 o.length, .int .i64 x.kind, .string ⟨x.name.toArray⟩, .string ⟨x.text.toArray⟩, .slice A x.attrs.length c] 50)).heap[g]? := hg4.block g (by show g < _; simp; omega) (fun e => by
          obtain ⟨_, _, cur, hc⟩ := own_type (World.ownsRow.alloc (w := W1.drew) H2.out _) g e.symm
          have e3 : (W1.drew.alloc (.cells #[.int .i64 o.length, .int .i64 x.kind, .string ⟨x.name.toArray⟩, .string ⟨x.text.toArray⟩, .slice A x.attrs.length c] 50)).heap[g]? = W1.heap[g]? := heap_alloc_old W1.drew _ hlt1
          rw [e3, hg1, hg] at hc
          injection hc with hc
          injection hc with _ hc
          exact hty hc)
        exact e1.trans (e2.trans ((heap_alloc_old W1.drew _ hlt1).trans hg1))
      rw [if_pos rfl]
      refine ⟨S ++ [(({ x with level := (o.length : Int) } : ItemD), A, c)], a4, c4, OA, Oc, ?_, own_set HB4.out _ hfin (by decide), fun s hs => ?_, ?_, ?_⟩
      · have := HB4.out.setItems a4 (S.length + 1) c4
        rw [List.length_append]
        exact this
      · refine own_set HB4.out _ (halloc (e := 44) ?_ (by decide)) (by decide)
        rcases List.mem_append.1 hs with hm | hm
        · exact H3.out s hm
        · simp at hm; subst hm
          have := HA.out
          rw [← hW1.out] at this
          exact this
      · refine open_set HB4.out _ ?_
        have h0 : OpenOwn (W1.drew.alloc (.cells #[.int .i64 o.length, .int .i64 x.kind, .string ⟨x.name.toArray⟩, .string ⟨x.text.toArray⟩, .slice A x.attrs.length c] 50)) B OA Oc o := OpenOwn.below (w := W1.drew) H4.out ((Below.refl _ _).alloc (Nat.le_refl _) _)
        exact h0.grown hg4 (fun g hg _ => by
          obtain ⟨_, _, cur, hc⟩ := own_type (World.ownsRow.alloc (w := W1.drew) H2.out _) g hg
          exact ⟨cur, _, hc, by decide⟩)
      · rw [List.map_append, H5.out]; rfl
  · have hpos : 0 < o.length := List.length_pos_iff.2 h0
    have t0 : ((o.length : Int) == 0) = false := by simp; omega
    have hE1' := Lib.hid hE1
    clear hE1 h0
    obtain ⟨S, IA, Ic, OA, Oc, h1, h2, h3, h4, h5⟩ := h.out
    have hlen : Hid (S.length = items.length) := by show _ = _; rw [← h5, List.length_map]
    obtain ⟨W1, hW1⟩ : ∃ W1, Hid (W1 = w.alloc (.cells #[.int .i64 o.length, .int .i64 x.kind, .string ⟨x.name.toArray⟩, .string ⟨x.text.toArray⟩, .slice A x.attrs.length c] 50)) := ⟨_, rfl⟩
    have hbW : Below w.heap.size w W1 := by rw [hW1.out]; exact (Below.refl _ w).alloc (Nat.le_refl _) _
    have HB1 := Lib.hid (h1.below hbW)
    have H2 := Lib.hid (own_keep h2 hbW)
    have H3 : Hid (∀ s ∈ S, AttrsOwn W1 B s.2.1 s.2.2 s.1.attrs) := fun s hs => own_keep (h3 s hs) hbW
    have H4 := Lib.hid (h4.below hbW)
    have H5 := Lib.hid h5
    have hz1 : w.heap.size < W1.heap.size := by rw [hW1.out]; simp
    obtain ⟨z0, z1, _, _⟩ := h1.cells
    have hbl := h1.lt
    have hbne : b ≠ w.heap.size := by omega
    have hown2 : ∀ g, (Value.slice IA S.length Ic).ownBlock = some g → g = w.heap.size → False := fun g hg e => by have := (own_type h2 g hg).2.1; omega
    have hownb : (Value.slice IA S.length Ic).ownBlock ≠ some b := fun hg => by
      obtain ⟨_, _, cur, hc⟩ := own_type h2 b hg
      unfold PBlk at h1
      rw [hc] at h1
      injection h1 with h1
      injection h1 with _ h1
      exact absurd h1 (by decide)
    clear h h1 h2 h3 h4 h5
    have hS : (S.length : Int) < 1000 := by have := hlen.out; omega
    show Calls Try.prog 81 #[.pointer (some ⟨b, 0, none⟩), .agg #[.int .i64 x.level, .int .i64 x.kind, .string ⟨x.name.toArray⟩, .string ⟨x.text.toArray⟩, .slice A x.attrs.length c]] w _
    go_enter Try.func81, Try.ntmps81
    go_wp2_with fail
    have y : ∀ (j : Nat) (u : Value), (#[.int .i64 o.length, .int .i64 x.kind, .string ⟨x.name.toArray⟩, .string ⟨x.text.toArray⟩, .slice A x.attrs.length c] : Array Value)[j]? = some u → W1.cell? ⟨w.heap.size, j, none⟩ = some u := fun j u hu => by rw [hW1.out, World.cell?_alloc_at _ _ _ _ rfl]; exact hu
    have HS : Hid (BoxI W1.drew w.heap.size o.length x A c) := ⟨y 0 _ rfl, y 1 _ rfl, y 2 _ rfl, y 3 _ rfl, y 4 _ rfl⟩
    have hzB : B ≤ W1.drew.heap.size := Nat.le_trans hBw hbW.size
    clear y
    rw [← hW1.out]
    refine wp_region_held_drew (S := fun w' => w'.cell? ⟨w.heap.size, 0, none⟩ = some (.int .i64 o.length) ∧ w'.cell? ⟨w.heap.size, 1, none⟩ = some (.int .i64 x.kind) ∧ w'.cell? ⟨w.heap.size, 2, none⟩ = some (.string ⟨x.name.toArray⟩) ∧ w'.cell? ⟨w.heap.size, 3, none⟩ = some (.string ⟨x.text.toArray⟩) ∧ w'.cell? ⟨w.heap.size, 4, none⟩ = some (.slice A x.attrs.length c)) (by kernel_rfl) HS.out (fun hHeld => ?_)
    refine wpAnyH_take (i := 0) (oi := ⟨_, _, _, _, _, _⟩) (v := ?_) rfl (by kernel_rfl) (by kernel_rfl) (by kernel_rfl) (fun _ _ _ h => h) (Or.inl ⟨by rfl, ?_⟩) (by assumption) ?_
    rotate_left
    · (intro wS hSw; (try dsimp only at hSw); go_simp); all_goals with_reducible rfl
    try simp only [Act.put, List.setIfInBounds_toArray, List.set_cons_zero, List.set_cons_succ]
    refine wpAnyH_take (i := 1) (oi := ⟨_, _, _, _, _, _⟩) (v := ?_) rfl (by kernel_rfl) (by kernel_rfl) (by kernel_rfl) (fun _ _ _ h => h) (Or.inl ⟨by rfl, ?_⟩) (by assumption) ?_
    rotate_left
    · (intro wS hSw; (try dsimp only at hSw); go_simp); all_goals with_reducible rfl
    try simp only [Act.put, List.setIfInBounds_toArray, List.set_cons_zero, List.set_cons_succ]
    refine wpAnyH_take (i := 2) (oi := ⟨_, _, _, _, _, _⟩) (v := ?_) rfl (by kernel_rfl) (by kernel_rfl) (by kernel_rfl) (fun _ _ _ h => h) (Or.inl ⟨by rfl, ?_⟩) (by assumption) ?_
    rotate_left
    · (intro wS hSw; (try dsimp only at hSw); go_simp); all_goals with_reducible rfl
    try simp only [Act.put, List.setIfInBounds_toArray, List.set_cons_zero, List.set_cons_succ]
    refine wpAnyH_take (i := 3) (oi := ⟨_, _, _, _, _, _⟩) (v := ?_) rfl (by kernel_rfl) (by kernel_rfl) (by kernel_rfl) (fun _ _ _ h => h) (Or.inl ⟨by rfl, ?_⟩) (by assumption) ?_
    rotate_left
    · (intro wS hSw; (try dsimp only at hSw); go_simp); all_goals with_reducible rfl
    try simp only [Act.put, List.setIfInBounds_toArray, List.set_cons_zero, List.set_cons_succ]
    refine wpAnyH_take (i := 5) (oi := ⟨_, _, _, _, _, _⟩) (v := ?_) rfl (by kernel_rfl) (by kernel_rfl) (by kernel_rfl) (fun _ _ _ h => h) (Or.inl ⟨by rfl, ?_⟩) (by assumption) ?_
    rotate_left
    · (intro wS hSw; (try dsimp only at hSw); go_simp); all_goals with_reducible rfl
    try simp only [Act.put, List.setIfInBounds_toArray, List.set_cons_zero, List.set_cons_succ]
    have z0d : W1.cell? ⟨b, 0, none⟩ = some (.slice IA S.length Ic) := HB1.out.cells.1
    have z0e : W1.drew.cell? ⟨b, 0, none⟩ = some (.slice IA S.length Ic) := HB1.out.cells.1
    have HS2 : Hid (BoxI (W1.drew.alloc (.cells #[.int .i64 o.length, .int .i64 x.kind, .string ⟨x.name.toArray⟩, .string ⟨x.text.toArray⟩, .slice A x.attrs.length c] 50)) w.heap.size o.length x A c) := BoxI.keep HS.out (fun j => World.cell?_alloc_lt _ _ _ hz1)
    have hbd : b < W1.heap.size := Nat.lt_of_lt_of_le hbl hbW.size
    have z0f : (W1.drew.alloc (.cells #[.int .i64 o.length, .int .i64 x.kind, .string ⟨x.name.toArray⟩, .string ⟨x.text.toArray⟩, .slice A x.attrs.length c] 50)).cell? ⟨b, 0, none⟩ = some (.slice IA S.length Ic) := (World.cell?_alloc_lt _ _ _ hbd).trans z0e
    refine wpAnyH_ready (rs := [4, 6]) (by kernel_rfl) (by simp) ?_
    refine AllReadyH.cons (o := ⟨_, _, _, _, _, _⟩) rfl (fun K hK => ?_) (AllReadyH.cons (o := ⟨_, _, _, _, _, _⟩) rfl (fun K hK => ?_) AllReadyH.nil)
    · go_simp
      refine hK.out _ _ (HS.out) (fun hHeld => ?_)
      clear hK K
      try simp only [Act.put, List.setIfInBounds_toArray, List.set_cons_zero, List.set_cons_succ]
      refine wpAnyH_ready (rs := [6]) (by kernel_rfl) (by simp) ?_
      refine AllReadyH.cons (o := ⟨_, _, _, _, _, _⟩) rfl (fun K hK => ?_) AllReadyH.nil
      go_simp
      refine hK.out _ _ (HS2.out) (fun hHeld => ?_)
      clear hK K
      try simp only [Act.put, List.setIfInBounds_toArray, List.set_cons_zero, List.set_cons_succ]
      refine wpAnyH_ready (rs := [7]) (by kernel_rfl) (by simp) ?_
      refine AllReadyH.cons (o := ⟨_, _, _, _, _, _⟩) rfl (fun K hK => ?_) AllReadyH.nil
      refine appendSw (.tmp 43) (.tmp 45) 45 rfl B 50 (.agg #[.int .i64 0, .int .i64 0, .string ByteArray.empty, .string ByteArray.empty, .slice none 0 0]) 5 72 Try.underlying45 infoItem rfl (by decide) _ S.length _ (cellsI ({ x with level := o.length }, A, c)) rfl H2.out hzB _ rfl rfl (cellsI_length _) (cellsI_cell _) (by omega) (by decide) ?_
      intro a4 c4 w4 hown4 hb4 hz4 hg4
      have hz4' : W1.heap.size < w4.heap.size := hz4
      have HS4 : Hid (BoxI w4 w.heap.size o.length x A c) := BoxI.keep HS2.out (fun j => World.grownBy.cell_far hg4 ⟨w.heap.size, j, none⟩ (by show w.heap.size < _; simp; omega) (fun e => hown2 _ e.symm rfl))
      have HB4 : Hid (PBlk w4 b IA S.length Ic OA o.length Oc) := by
        have h0 : PBlk (W1.drew.alloc (.cells #[.int .i64 o.length, .int .i64 x.kind, .string ⟨x.name.toArray⟩, .string ⟨x.text.toArray⟩, .slice A x.attrs.length c] 50)) b IA S.length Ic OA o.length Oc := PBlk.below (w := W1.drew) HB1.out ((Below.refl _ _).alloc (Nat.le_refl _) _)
        exact (hg4.block b h0.lt (fun e => hownb e.symm)).trans h0
      obtain ⟨k0, _, kf0, _⟩ := HB4.out.cells
      refine hK.out _ _ (HS4.out) (fun hHeld => ?_)
      clear hK K
      try simp only [Act.put, List.setIfInBounds_toArray, List.set_cons_zero, List.set_cons_succ]
      refine wpAnyH_take (i := 8) (oi := ⟨_, _, _, _, _, _⟩) (v := ?_) rfl (by kernel_rfl) (by kernel_rfl) (by kernel_rfl) (fun _ _ _ h => h) (Or.inl ⟨by rfl, ?_⟩) (by assumption) ?_
      rotate_left
      · (intro wS hSw; (try dsimp only at hSw); go_simp); all_goals with_reducible rfl
      try simp only [Act.put, List.setIfInBounds_toArray, List.set_cons_zero, List.set_cons_succ]
      refine wpAnyH_take (i := 9) (oi := ⟨_, _, _, _, _, _⟩) (v := ?_) rfl (by kernel_rfl) (by kernel_rfl) (by kernel_rfl) (fun _ _ _ h => h) (Or.inl ⟨by rfl, ?_⟩) (by assumption) ?_
      rotate_left
      · (intro wS hSw; (try dsimp only at hSw); go_simp); all_goals with_reducible rfl
      try simp only [Act.put, List.setIfInBounds_toArray, List.set_cons_zero, List.set_cons_succ]
      refine wpAnyH_ready (rs := [10]) (by kernel_rfl) (by simp) ?_
      refine AllReadyH.cons (o := ⟨_, _, _, _, _, _⟩) rfl (fun K hK => ?_) AllReadyH.nil
      go_simp
      have HS5 : Hid (BoxI (w4.setCell ⟨b, 0, none⟩ (.slice a4 (S.length + 1) c4)) w.heap.size o.length x A c) := BoxI.keep HS4.out (fun j => World.grownBy.cell_far (Lib.grownBy_setCell w4 b 0 _) ⟨w.heap.size, j, none⟩ (by show w.heap.size < _; omega) (fun e => by injection e with e; have e' : w.heap.size = b := e; omega))
      refine hK.out _ _ (HS5.out) (fun hHeld => ?_)
      clear hK K
      try simp only [Act.put, List.setIfInBounds_toArray, List.set_cons_zero, List.set_cons_succ]
      refine wpAnyH_done (by kernel_rfl) ?_ _
      clear hHeld
      go_wp2_with fail
      go_ret
      have hfin : ItemsOwn w4 B a4 c4 (S ++ [(({ x with level := (o.length : Int) } : ItemD), A, c)]) := by
        unfold ItemsOwn
        rw [List.length_append, List.flatMap_append]
        simpa using hown4
      have halloc : ∀ {e : TypeId} {size : Nat} {v : Value} {n : Nat} {xs : List Value}, W1.ownsRow B e size v n xs → e ≠ 50 → w4.ownsRow B e size v n xs := fun hr he =>
        own_grown (World.ownsRow.alloc (w := W1.drew) hr _) (World.ownsRow.alloc (w := W1.drew) H2.out _) he hg4
      refine ⟨rfl, ?_, (((hbW.mono hBw).drew).trans hb4).setCell hB _, fun g cs ty hg hty hgb => ?_⟩
      rotate_left
      · have hlt : g < w.heap.size := (Array.getElem?_eq_some_iff.1 hg).1
        have hg1 : W1.heap[g]? = w.heap[g]? := hbW.block g hlt
        have hlt1 : g < W1.heap.size := Nat.lt_trans hlt hz1
        have e1 : (w4.setCell ⟨b, 0, none⟩ (.slice a4 (S.length + 1) c4)).heap[g]? = w4.heap[g]? := (Lib.grownBy_setCell w4 b 0 _).block g (by omega) (fun e => by injection e with e; exact hgb e)
        have e2 : w4.heap[g]? = (W1.drew.alloc (.cells #[.int .i64 o.length, .int .i64 x.kind, .string ⟨x.name.toArray⟩, .string ⟨x.text.toArray⟩, .slice A x.attrs.length c] 50)).heap[g]? := hg4.block g (by show g < _; simp; omega) (fun e => by
          obtain ⟨_, _, cur, hc⟩ := own_type (World.ownsRow.alloc (w := W1.drew) H2.out _) g e.symm
          have e3 : (W1.drew.alloc (.cells #[.int .i64 o.length, .int .i64 x.kind, .string ⟨x.name.toArray⟩, .string ⟨x.text.toArray⟩, .slice A x.attrs.length c] 50)).heap[g]? = W1.heap[g]? := heap_alloc_old W1.drew _ hlt1
          rw [e3, hg1, hg] at hc
          injection hc with hc
          injection hc with _ hc
          exact hty hc)
        exact e1.trans (e2.trans ((heap_alloc_old W1.drew _ hlt1).trans hg1))
      rw [if_pos rfl]
      refine ⟨S ++ [(({ x with level := (o.length : Int) } : ItemD), A, c)], a4, c4, OA, Oc, ?_, own_set HB4.out _ hfin (by decide), fun s hs => ?_, ?_, ?_⟩
      · have := HB4.out.setItems a4 (S.length + 1) c4
        rw [List.length_append]
        exact this
      · refine own_set HB4.out _ (halloc (e := 44) ?_ (by decide)) (by decide)
        rcases List.mem_append.1 hs with hm | hm
        · exact H3.out s hm
        · simp at hm; subst hm
          have := HA.out
          rw [← hW1.out] at this
          exact this
      · refine open_set HB4.out _ ?_
        have h0 : OpenOwn (W1.drew.alloc (.cells #[.int .i64 o.length, .int .i64 x.kind, .string ⟨x.name.toArray⟩, .string ⟨x.text.toArray⟩, .slice A x.attrs.length c] 50)) B OA Oc o := OpenOwn.below (w := W1.drew) H4.out ((Below.refl _ _).alloc (Nat.le_refl _) _)
        exact h0.grown hg4 (fun g hg _ => by
          obtain ⟨_, _, cur, hc⟩ := own_type (World.ownsRow.alloc (w := W1.drew) H2.out _) g hg
          exact ⟨cur, _, hc, by decide⟩)
      · rw [List.map_append, H5.out]; rfl
    · go_simp
      refine hK.out _ _ (HS2.out) (fun hHeld => ?_)
      clear hK K
      try simp only [Act.put, List.setIfInBounds_toArray, List.set_cons_zero, List.set_cons_succ]
      refine wpAnyH_ready (rs := [4]) (by kernel_rfl) (by simp) ?_
      refine AllReadyH.cons (o := ⟨_, _, _, _, _, _⟩) rfl (fun K hK => ?_) AllReadyH.nil
      go_simp
      refine hK.out _ _ (HS2.out) (fun hHeld => ?_)
      clear hK K
      try simp only [Act.put, List.setIfInBounds_toArray, List.set_cons_zero, List.set_cons_succ]
      refine wpAnyH_ready (rs := [7]) (by kernel_rfl) (by simp) ?_
      refine AllReadyH.cons (o := ⟨_, _, _, _, _, _⟩) rfl (fun K hK => ?_) AllReadyH.nil
      refine appendSw (.tmp 43) (.tmp 45) 45 rfl B 50 (.agg #[.int .i64 0, .int .i64 0, .string ByteArray.empty, .string ByteArray.empty, .slice none 0 0]) 5 72 Try.underlying45 infoItem rfl (by decide) _ S.length _ (cellsI ({ x with level := o.length }, A, c)) rfl H2.out hzB _ rfl rfl (cellsI_length _) (cellsI_cell _) (by omega) (by decide) ?_
      intro a4 c4 w4 hown4 hb4 hz4 hg4
      have hz4' : W1.heap.size < w4.heap.size := hz4
      have HS4 : Hid (BoxI w4 w.heap.size o.length x A c) := BoxI.keep HS2.out (fun j => World.grownBy.cell_far hg4 ⟨w.heap.size, j, none⟩ (by show w.heap.size < _; simp; omega) (fun e => hown2 _ e.symm rfl))
      have HB4 : Hid (PBlk w4 b IA S.length Ic OA o.length Oc) := by
        have h0 : PBlk (W1.drew.alloc (.cells #[.int .i64 o.length, .int .i64 x.kind, .string ⟨x.name.toArray⟩, .string ⟨x.text.toArray⟩, .slice A x.attrs.length c] 50)) b IA S.length Ic OA o.length Oc := PBlk.below (w := W1.drew) HB1.out ((Below.refl _ _).alloc (Nat.le_refl _) _)
        exact (hg4.block b h0.lt (fun e => hownb e.symm)).trans h0
      obtain ⟨k0, _, kf0, _⟩ := HB4.out.cells
      refine hK.out _ _ (HS4.out) (fun hHeld => ?_)
      clear hK K
      try simp only [Act.put, List.setIfInBounds_toArray, List.set_cons_zero, List.set_cons_succ]
      refine wpAnyH_take (i := 8) (oi := ⟨_, _, _, _, _, _⟩) (v := ?_) rfl (by kernel_rfl) (by kernel_rfl) (by kernel_rfl) (fun _ _ _ h => h) (Or.inl ⟨by rfl, ?_⟩) (by assumption) ?_
      rotate_left
      · (intro wS hSw; (try dsimp only at hSw); go_simp); all_goals with_reducible rfl
      try simp only [Act.put, List.setIfInBounds_toArray, List.set_cons_zero, List.set_cons_succ]
      refine wpAnyH_take (i := 9) (oi := ⟨_, _, _, _, _, _⟩) (v := ?_) rfl (by kernel_rfl) (by kernel_rfl) (by kernel_rfl) (fun _ _ _ h => h) (Or.inl ⟨by rfl, ?_⟩) (by assumption) ?_
      rotate_left
      · (intro wS hSw; (try dsimp only at hSw); go_simp); all_goals with_reducible rfl
      try simp only [Act.put, List.setIfInBounds_toArray, List.set_cons_zero, List.set_cons_succ]
      refine wpAnyH_ready (rs := [10]) (by kernel_rfl) (by simp) ?_
      refine AllReadyH.cons (o := ⟨_, _, _, _, _, _⟩) rfl (fun K hK => ?_) AllReadyH.nil
      go_simp
      have HS5 : Hid (BoxI (w4.setCell ⟨b, 0, none⟩ (.slice a4 (S.length + 1) c4)) w.heap.size o.length x A c) := BoxI.keep HS4.out (fun j => World.grownBy.cell_far (Lib.grownBy_setCell w4 b 0 _) ⟨w.heap.size, j, none⟩ (by show w.heap.size < _; omega) (fun e => by injection e with e; have e' : w.heap.size = b := e; omega))
      refine hK.out _ _ (HS5.out) (fun hHeld => ?_)
      clear hK K
      try simp only [Act.put, List.setIfInBounds_toArray, List.set_cons_zero, List.set_cons_succ]
      refine wpAnyH_done (by kernel_rfl) ?_ _
      clear hHeld
      go_wp2_with fail
      go_ret
      have hfin : ItemsOwn w4 B a4 c4 (S ++ [(({ x with level := (o.length : Int) } : ItemD), A, c)]) := by
        unfold ItemsOwn
        rw [List.length_append, List.flatMap_append]
        simpa using hown4
      have halloc : ∀ {e : TypeId} {size : Nat} {v : Value} {n : Nat} {xs : List Value}, W1.ownsRow B e size v n xs → e ≠ 50 → w4.ownsRow B e size v n xs := fun hr he =>
        own_grown (World.ownsRow.alloc (w := W1.drew) hr _) (World.ownsRow.alloc (w := W1.drew) H2.out _) he hg4
      refine ⟨rfl, ?_, (((hbW.mono hBw).drew).trans hb4).setCell hB _, fun g cs ty hg hty hgb => ?_⟩
      rotate_left
      · have hlt : g < w.heap.size := (Array.getElem?_eq_some_iff.1 hg).1
        have hg1 : W1.heap[g]? = w.heap[g]? := hbW.block g hlt
        have hlt1 : g < W1.heap.size := Nat.lt_trans hlt hz1
        have e1 : (w4.setCell ⟨b, 0, none⟩ (.slice a4 (S.length + 1) c4)).heap[g]? = w4.heap[g]? := (Lib.grownBy_setCell w4 b 0 _).block g (by omega) (fun e => by injection e with e; exact hgb e)
        have e2 : w4.heap[g]? = (W1.drew.alloc (.cells #[.int .i64 o.length, .int .i64 x.kind, .string ⟨x.name.toArray⟩, .string ⟨x.text.toArray⟩, .slice A x.attrs.length c] 50)).heap[g]? := hg4.block g (by show g < _; simp; omega) (fun e => by
          obtain ⟨_, _, cur, hc⟩ := own_type (World.ownsRow.alloc (w := W1.drew) H2.out _) g e.symm
          have e3 : (W1.drew.alloc (.cells #[.int .i64 o.length, .int .i64 x.kind, .string ⟨x.name.toArray⟩, .string ⟨x.text.toArray⟩, .slice A x.attrs.length c] 50)).heap[g]? = W1.heap[g]? := heap_alloc_old W1.drew _ hlt1
          rw [e3, hg1, hg] at hc
          injection hc with hc
          injection hc with _ hc
          exact hty hc)
        exact e1.trans (e2.trans ((heap_alloc_old W1.drew _ hlt1).trans hg1))
      rw [if_pos rfl]
      refine ⟨S ++ [(({ x with level := (o.length : Int) } : ItemD), A, c)], a4, c4, OA, Oc, ?_, own_set HB4.out _ hfin (by decide), fun s hs => ?_, ?_, ?_⟩
      · have := HB4.out.setItems a4 (S.length + 1) c4
        rw [List.length_append]
        exact this
      · refine own_set HB4.out _ (halloc (e := 44) ?_ (by decide)) (by decide)
        rcases List.mem_append.1 hs with hm | hm
        · exact H3.out s hm
        · simp at hm; subst hm
          have := HA.out
          rw [← hW1.out] at this
          exact this
      · refine open_set HB4.out _ ?_
        have h0 : OpenOwn (W1.drew.alloc (.cells #[.int .i64 o.length, .int .i64 x.kind, .string ⟨x.name.toArray⟩, .string ⟨x.text.toArray⟩, .slice A x.attrs.length c] 50)) B OA Oc o := OpenOwn.below (w := W1.drew) H4.out ((Below.refl _ _).alloc (Nat.le_refl _) _)
        exact h0.grown hg4 (fun g hg _ => by
          obtain ⟨_, _, cur, hc⟩ := own_type (World.ownsRow.alloc (w := W1.drew) H2.out _) g hg
          exact ⟨cur, _, hc, by decide⟩)
      · rw [List.map_append, H5.out]; rfl
end Go.Proofs.Ythifddkmbjnncaa

/-
  The reader of documents: the walk of take.
-/
namespace Go.Proofs.Ythifddkmbjnncaa
open Go.RowKit

set_option maxRecDepth 100000 in
theorem appendOw {w : World} {op : Oper} {a : Act} {K : Act → World → Prop} {Q : Exit → Act → World → Prop} (s x : Operand)
    (hop : op.op = .call { callee := .builtin .append, args := #[s, x], argTypes := #[69, 69] })
    (B : Nat) (A : Option Addr) (c : Nat) (o : List (List UInt8)) (n : List UInt8) (hs : a.eval s = .slice A o.length c) (hown : OpenOwn w B A c o) (hB : B ≤ w.heap.size)
    (X : Nat) (hx : a.eval x = .slice (some ⟨X, 0, none⟩) 1 1) (hX : X = w.heap.size) (hn : o.length < 4294967296)
    (h : ∀ A' c' w', OpenOwn w' B A' c' (o ++ [n]) → Below B w w' → w.heap.size < w'.heap.size → (w.alloc (.cells #[strV n] 9)).grownBy w' (Value.slice A o.length c).ownBlock → K (a.put op.dst (.slice A' (o.length + 1) c')) w') :
    op.wp Try.prog a (w.alloc (.cells #[strV n] 9)) K Q := by
  have hlen : (o ++ [n]).length = o.length + 1 := by simp
  rcases hown with ⟨rfl, rfl, rfl⟩ | ⟨g, cur, rfl, h2, h3, h4, h5, h6, h7, h8⟩
  · refine appendSw s x 69 hop B 9 (.string ByteArray.empty) 1 16 Try.underlying69 infoStr rfl (by decide) _ 0 [] [strV n] hs (World.ownsRow_nil _ _ _ _) hB X hx hX rfl (by intro u hu; simp at hu; subst hu; rfl) (by omega) (by decide) ?_
    intro ad cc w' hown' hb hz hg
    exact h ad cc w' (OpenOwn.own (o := [n]) hown') hb hz hg
  · by_cases hc : c = cur.size
    · have hrow : w.ownsRow B 9 1 (.slice (some ⟨g, 0, none⟩) o.length c) o.length (o.map strV) :=
        ⟨by simp, .inr ⟨g, c, cur, rfl, h2, h3, h4, by omega, by omega, by rw [Nat.mul_one]; exact h7⟩⟩
      refine appendSw s x 69 hop B 9 (.string ByteArray.empty) 1 16 Try.underlying69 infoStr rfl (by decide) _ o.length (o.map strV) [strV n] hs hrow hB X hx hX rfl (by intro u hu; simp at hu; subst hu; rfl) hn (by decide) ?_
      intro ad cc w' hown' hb hz hg
      refine h ad cc w' (OpenOwn.own ?_) hb hz hg
      rw [hlen, List.map_append]
      exact hown'
    · have hcn : c = o.length := by
        rcases h8 with h8 | h8
        · exact h8
        · exact absurd h8 hc
      subst hX
      obtain ⟨i0, hi0, hz0, hz1, hz2⟩ := info_parts infoStr
      have hg : g < w.heap.size := (Array.getElem?_eq_some_iff.1 h3).1
      obtain ⟨v', w', hrun, hown', hgr⟩ := run_append_arg_grows (P := Try.prog) (w.alloc (.cells #[strV n] 9)) 69 op.type 9 i0 (.string ByteArray.empty) 1 16 Try.underlying69 hi0 hz0 hz1 hz2 rfl (by decide) ⟨g, 0, none⟩ o.length c (o.map strV) (by simp) (by
        intro j u hu
        rw [add_zero_block, World.cell?_alloc_lt _ _ _ hg, cell_of_row h3]
        have hj : j < o.length := by have := (List.getElem?_eq_some_iff.1 hu).1; simpa using this
        rw [← h7, List.getElem?_take_of_lt hj, Array.getElem?_toList] at hu
        exact hu) ⟨w.heap.size, 0, none⟩ 1 1 [strV n] rfl (by
        intro j u hu
        rw [add_zero_block, World.cell?_alloc_at _ _ _ _ (by simp)]
        have hj : j < 1 := (List.getElem?_eq_some_iff.1 hu).1
        have hj0 : j = 0 := by omega
        subst hj0
        simpa using hu) (by omega) (by unfold maxLen; omega) (by omega)
      obtain ⟨ad, cc, rfl⟩ : ∃ ad cc, v' = .slice ad (o.length + 1) cc := by
        rcases hown'.2 with ⟨_, h0⟩ | ⟨g, c, cur, hv, _⟩
        · omega
        · exact ⟨_, c, hv⟩
      have hsz := hgr.size
      simp at hsz
      have hK := h ad cc w' (OpenOwn.own (by rw [hlen, List.map_append]; exact row_base hown' (by simp; omega))) (((Below.refl B w).alloc hB _).grown hgr (by simp; omega) (fun k hk => by cases hk)) (by omega) ⟨hgr.os, hgr.tape, hgr.output, hgr.size, fun k hk _ => hgr.block k hk (by simp)⟩
      unfold Oper.wp
      simp [execOp, hop, resolve, invoke, builtin, hs, hx, hrun, Result.andThen]
      exact hK

theorem OpenOwn.type {w : World} {B : Nat} {A : Option Addr} {c : Nat} {o : List (List UInt8)} (h : OpenOwn w B A c o) : ∀ g, (Value.slice A o.length c).ownBlock = some g → ∃ cur, w.heap[g]? = some (.cells cur 9 (0, 0)) := by
  intro g hg
  rcases h with ⟨rfl, _, _⟩ | ⟨g', cur, rfl, _, h3, _⟩
  · cases hg
  · injection hg with hg
    have e : g' = g := hg
    subst e
    exact ⟨cur, h3⟩

def TakePost (w : World) (B b : Nat) (V : Int ⊕ (List ItemD × List (List UInt8))) (e : Ending) (w' : World) : Prop :=
  Below B w w' ∧ match V with
  | .inl c => e = .returned (.int .i64 c)
  | .inr q => e = .returned (.int .i64 0) ∧ PInv w' B b q.1 q.2

theorem addE_K (items : List ItemD) (o : List (List UInt8)) (kind k : Int) (h : kind = 4 ↔ k = 2) : addE items o kind = addK items o k := by
  unfold addE addK
  by_cases hk : k = 2
  · simp [hk, h.2 hk]
  · have h4 : ¬ kind = 4 := fun e => hk (h.1 e)
    simp [hk, h4]

theorem add_any (b B : Nat) (items : List ItemD) (o : List (List UInt8)) (w : World) (h : PInv w B b items o) (hB : B ≤ b) (hBw : B ≤ w.heap.size) (ho : o.length ≤ 1000000000) (hi : items.length ≤ 1000000000) (x : ItemD) (A : Option Addr) (c : Nat) (hA : AttrsOwn w B A c x.attrs) (E : Int) (hE : Hid (addK items o x.kind = E)) :
    Calls Try.prog 81 #[.pointer (some ⟨b, 0, none⟩), .agg #[.int .i64 x.level, .int .i64 x.kind, .string ⟨x.name.toArray⟩, .string ⟨x.text.toArray⟩, .slice A x.attrs.length c]] w (AddPost w B b items o x E) := by
  by_cases h0 : E = 0
  · subst h0; exact add_yes b B items o w h hB hBw x A c hA hE.out
  · exact add_no b B items o w h hB hBw ho hi x A c E hE h0




set_option maxRecDepth 100000 in
set_option maxHeartbeats 4000000 in
theorem take_any (b B : Nat) (items : List ItemD) (o : List (List UInt8)) (w : World) (h : PInv w B b items o) (hB : B ≤ b) (hBw : B ≤ w.heap.size) (ho : o.length ≤ 1000000000) (hi : items.length ≤ 1000000000) (t : TokD) (at_ : Int) (A : Option Addr) (c : Nat) (hA : AttrsOwn w B A c t.attrs) (hk : t.kind = 1 ∨ t.kind = 2 ∨ t.kind = 3 ∨ t.kind = 4) (V : Int ⊕ (List ItemD × List (List UInt8))) (hV : Hid (takeT items o t = V)) :
    Calls Try.prog 48 #[.pointer (some ⟨b, 0, none⟩), .agg #[.int .i64 t.kind, .int .i64 at_, .string ⟨t.name.toArray⟩, .string ⟨t.text.toArray⟩, .slice A t.attrs.length c]] w (TakePost w B b V) := by
  obtain ⟨tk, tn, tt, ta⟩ := t
  simp only at hk hA ⊢
  have HA := Lib.hid hA
  have hbl : b < w.heap.size := by obtain ⟨S, IA, Ic, OA, Oc, h1, _⟩ := h.out; exact h1.lt
  clear hA
  rcases hk with rfl | rfl | rfl | rfl
  · obtain ⟨E, hE⟩ : ∃ E, Hid (addE items o 1 = E) := ⟨_, rfl⟩
    have hE' : Hid (addK items o 1 = E) := by show _ = _; rw [← hE.out]; exact (addE_K _ _ _ _ (by decide)).symm
    go_enter Try.func48, Try.ntmps48
    go_wp2_with fail
    obtain ⟨W1, hW1⟩ : ∃ W1, Hid (W1 = (w.alloc (.cells #[.int .i64 1, .int .i64 at_, .string ⟨tn.toArray⟩, .string ⟨tt.toArray⟩, .slice A ta.length c] 34)).alloc (.cells #[.int .i64 0, .int .i64 1, .string ⟨tn.toArray⟩, .string ⟨#[]⟩, .slice A ta.length c] 50)) := ⟨_, rfl⟩
    rw [← hW1.out]
    have hbW : Below w.heap.size w W1 := by rw [hW1.out]; exact ((Below.refl _ w).alloc (Nat.le_refl _) _).alloc (by simp) _
    have hP1 := PInv.below h hbW
    have hz1 : w.heap.size + 1 < W1.heap.size := by rw [hW1.out]; simp
    have y2 : W1.cell? ⟨w.heap.size, 2, none⟩ = some (.string ⟨tn.toArray⟩) := by
      rw [hW1.out, World.cell?_alloc_lt _ _ _ (by simp), World.cell?_alloc_at _ _ _ _ rfl]; rfl
    refine (add_any b B items o W1 hP1 hB (Nat.le_trans hBw hbW.size) ho hi ⟨0, 1, tn, [], ta⟩ A c (own_keep HA.out hbW) E hE').mono ?_
    rintro e W2 ⟨rfl, hP2, hb2, hkeep⟩
    by_cases h0 : E = 0
    · subst h0
      have HV : Hid (V = .inr (items ++ [⟨o.length, 1, tn, [], ta⟩], o ++ [tn])) := by
        show _ = _
        rw [← hV.out]; unfold takeT
        simp only
        rw [if_neg (by decide), hE.out, if_neg (by decide), if_pos trivial]
        rfl
      rw [if_pos rfl] at hP2
      have hP2' : PInv W2 B b (items ++ [⟨o.length, 1, tn, [], ta⟩]) o := hP2
      obtain ⟨S, IA, Ic, OA, Oc, h1, h2, h3, h4, h5⟩ := hP2'.out
      have HB2 := Lib.hid h1
      have H2 := Lib.hid h2
      have H3 : Hid (∀ s ∈ S, AttrsOwn W2 B s.2.1 s.2.2 s.1.attrs) := h3
      have H4 := Lib.hid h4
      have H5 := Lib.hid h5
      have hy : W1.heap[w.heap.size]? = some (.cells #[.int .i64 1, .int .i64 at_, .string ⟨tn.toArray⟩, .string ⟨tt.toArray⟩, .slice A ta.length c] 34 (0, 0)) := by
        rw [hW1.out]; exact heap_alloc2_old _ _ _
      have hy2 := (hkeep _ _ _ hy (by decide) (by omega)).trans hy
      have HS : Hid (W2.drew.cell? ⟨w.heap.size, 2, none⟩ = some (.string ⟨tn.toArray⟩)) := by show W2.cell? _ = _; rw [cell_of_row hy2]; rfl
      have hz2 : w.heap.size < W2.drew.heap.size := (Array.getElem?_eq_some_iff.1 hy2).1
      have hzB : B ≤ W2.drew.heap.size := Nat.le_trans hBw (Nat.le_trans hbW.size hb2.size)
      have hownb : (Value.slice OA o.length Oc).ownBlock ≠ some b := fun hg => by
        obtain ⟨cur, hc⟩ := h4.type b hg
        unfold PBlk at h1
        rw [hc] at h1
        injection h1 with h1
        injection h1 with _ h1
        exact absurd h1 (by decide)
      have hownt : (Value.slice OA o.length Oc).ownBlock ≠ some w.heap.size := fun hg => by
        obtain ⟨cur, hc⟩ := h4.type _ hg
        rw [hc] at hy2
        injection hy2 with hy2
        injection hy2 with _ hy2
        exact absurd hy2 (by decide)
      have hownt2 : ∀ g, (Value.slice OA o.length Oc).ownBlock = some g → ∀ cur e, W2.heap[g]? = some (.cells cur e (0, 0)) → e ≠ 9 → False := fun g hg cur e he hne => by
        obtain ⟨cur', hc⟩ := h4.type _ hg
        rw [hc] at he
        injection he with he
        injection he with _ he
        exact hne he.symm
      clear hy hy2 h1 h2 h3 h4 h5 hP2 hP2' hkeep
      go_wp2_with fail
      have z1d : W2.cell? ⟨b, 1, none⟩ = some (.slice OA o.length Oc) := HB2.out.cells.2.1
      have z1e : W2.drew.cell? ⟨b, 1, none⟩ = some (.slice OA o.length Oc) := HB2.out.cells.2.1
      have HS2 : Hid ((W2.drew.alloc (.cells #[.string ⟨tn.toArray⟩] 9)).cell? ⟨w.heap.size, 2, none⟩ = some (.string ⟨tn.toArray⟩)) := (World.cell?_alloc_lt _ _ _ hz2).trans HS.out
      have hbd : b < W2.heap.size := HB2.out.lt
      have z1f : (W2.drew.alloc (.cells #[.string ⟨tn.toArray⟩] 9)).cell? ⟨b, 1, none⟩ = some (.slice OA o.length Oc) := (World.cell?_alloc_lt _ _ _ hbd).trans z1e
      refine wp_region_held_drew (S := fun w' => w'.cell? ⟨w.heap.size, 2, none⟩ = some (.string ⟨tn.toArray⟩)) (by kernel_rfl) HS.out (fun hHeld => ?_)
      refine wpAnyH_take (i := 0) (oi := ⟨_, _, _, _, _, _⟩) (v := ?_) rfl (by kernel_rfl) (by kernel_rfl) (by kernel_rfl) (fun _ _ _ h => h) (Or.inl ⟨by rfl, ?_⟩) (by assumption) ?_
      rotate_left
      · (intro wS hSw; (try dsimp only at hSw); go_simp); all_goals with_reducible rfl
      try simp only [Act.put, List.setIfInBounds_toArray, List.set_cons_zero, List.set_cons_succ]
      refine wpAnyH_take (i := 1) (oi := ⟨_, _, _, _, _, _⟩) (v := ?_) rfl (by kernel_rfl) (by kernel_rfl) (by kernel_rfl) (fun _ _ _ h => h) (Or.inl ⟨by rfl, ?_⟩) (by assumption) ?_
      rotate_left
      · (intro wS hSw; (try dsimp only at hSw); go_simp); all_goals with_reducible rfl
      try simp only [Act.put, List.setIfInBounds_toArray, List.set_cons_zero, List.set_cons_succ]
      refine wpAnyH_take (i := 2) (oi := ⟨_, _, _, _, _, _⟩) (v := ?_) rfl (by kernel_rfl) (by kernel_rfl) (by kernel_rfl) (fun _ _ _ h => h) (Or.inl ⟨by rfl, ?_⟩) (by assumption) ?_
      rotate_left
      · (intro wS hSw; (try dsimp only at hSw); go_simp); all_goals with_reducible rfl
      try simp only [Act.put, List.setIfInBounds_toArray, List.set_cons_zero, List.set_cons_succ]
      refine wpAnyH_take (i := 3) (oi := ⟨_, _, _, _, _, _⟩) (v := ?_) rfl (by kernel_rfl) (by kernel_rfl) (by kernel_rfl) (fun _ _ _ h => h) (Or.inl ⟨by rfl, ?_⟩) (by assumption) ?_
      rotate_left
      · (intro wS hSw; (try dsimp only at hSw); go_simp); all_goals with_reducible rfl
      try simp only [Act.put, List.setIfInBounds_toArray, List.set_cons_zero, List.set_cons_succ]
      refine wpAnyH_take (i := 5) (oi := ⟨_, _, _, _, _, _⟩) (v := ?_) rfl (by kernel_rfl) (by kernel_rfl) (by kernel_rfl) (fun _ _ _ h => h) (Or.inl ⟨by rfl, ?_⟩) (by assumption) ?_
      rotate_left
      · (intro wS hSw; (try dsimp only at hSw); go_simp); all_goals with_reducible rfl
      try simp only [Act.put, List.setIfInBounds_toArray, List.set_cons_zero, List.set_cons_succ]
      refine wpAnyH_take (i := 6) (oi := ⟨_, _, _, _, _, _⟩) (v := ?_) rfl (by kernel_rfl) (by kernel_rfl) (by kernel_rfl) (fun _ _ _ h => h) (Or.inl ⟨by rfl, ?_⟩) (by assumption) ?_
      rotate_left
      · (intro wS hSw; (try dsimp only at hSw); go_simp); all_goals with_reducible rfl
      try simp only [Act.put, List.setIfInBounds_toArray, List.set_cons_zero, List.set_cons_succ]
      refine wpAnyH_ready (rs := [4, 7]) (by kernel_rfl) (by simp) ?_
      refine AllReadyH.cons (o := ⟨_, _, _, _, _, _⟩) rfl (fun K hK => ?_) (AllReadyH.cons (o := ⟨_, _, _, _, _, _⟩) rfl (fun K hK => ?_) AllReadyH.nil)
      · go_simp
        refine hK.out _ _ (HS.out) (fun hHeld => ?_)
        clear hK K
        try simp only [Act.put, List.setIfInBounds_toArray, List.set_cons_zero, List.set_cons_succ]
        refine wpAnyH_ready (rs := [7]) (by kernel_rfl) (by simp) ?_
        refine AllReadyH.cons (o := ⟨_, _, _, _, _, _⟩) rfl (fun K hK => ?_) AllReadyH.nil
        go_simp
        refine hK.out _ _ (HS2.out) (fun hHeld => ?_)
        clear hK K
        try simp only [Act.put, List.setIfInBounds_toArray, List.set_cons_zero, List.set_cons_succ]
        refine wpAnyH_ready (rs := [8]) (by kernel_rfl) (by simp) ?_
        refine AllReadyH.cons (o := ⟨_, _, _, _, _, _⟩) rfl (fun K hK => ?_) AllReadyH.nil
        refine appendOw (w := W2.drew) (.tmp 38) (.tmp 41) rfl B OA Oc o tn rfl H4.out hzB W2.drew.heap.size rfl rfl (by omega) ?_
        intro a4 c4 w4 hown4 hb4 hz4 hg4
        have hz4' : W2.heap.size < w4.heap.size := hz4
        have HB4 : Hid (PBlk w4 b IA S.length Ic OA o.length Oc) := by
          have h0 : PBlk (W2.drew.alloc (.cells #[.string ⟨tn.toArray⟩] 9)) b IA S.length Ic OA o.length Oc := PBlk.below (w := W2.drew) HB2.out ((Below.refl _ _).alloc (Nat.le_refl _) _)
          exact (hg4.block b h0.lt (fun e => hownb e.symm)).trans h0
        have HS4 : Hid (w4.cell? ⟨w.heap.size, 2, none⟩ = some (.string ⟨tn.toArray⟩)) := (World.grownBy.cell_far hg4 ⟨w.heap.size, 2, none⟩ (by show w.heap.size < _; have : w.heap.size < W2.heap.size := hz2; simp; omega) (fun e => hownt e.symm)).trans HS2.out
        obtain ⟨_, k1, _, kf1⟩ := HB4.out.cells
        refine hK.out _ _ (HS4.out) (fun hHeld => ?_)
        clear hK K
        try simp only [Act.put, List.setIfInBounds_toArray, List.set_cons_zero, List.set_cons_succ]
        refine wpAnyH_take (i := 9) (oi := ⟨_, _, _, _, _, _⟩) (v := ?_) rfl (by kernel_rfl) (by kernel_rfl) (by kernel_rfl) (fun _ _ _ h => h) (Or.inl ⟨by rfl, ?_⟩) (by assumption) ?_
        rotate_left
        · (intro wS hSw; (try dsimp only at hSw); go_simp); all_goals with_reducible rfl
        try simp only [Act.put, List.setIfInBounds_toArray, List.set_cons_zero, List.set_cons_succ]
        refine wpAnyH_take (i := 10) (oi := ⟨_, _, _, _, _, _⟩) (v := ?_) rfl (by kernel_rfl) (by kernel_rfl) (by kernel_rfl) (fun _ _ _ h => h) (Or.inl ⟨by rfl, ?_⟩) (by assumption) ?_
        rotate_left
        · (intro wS hSw; (try dsimp only at hSw); go_simp); all_goals with_reducible rfl
        try simp only [Act.put, List.setIfInBounds_toArray, List.set_cons_zero, List.set_cons_succ]
        refine wpAnyH_ready (rs := [11]) (by kernel_rfl) (by simp) ?_
        refine AllReadyH.cons (o := ⟨_, _, _, _, _, _⟩) rfl (fun K hK => ?_) AllReadyH.nil
        go_simp
        have HS5 : Hid ((w4.setCell ⟨b, 1, none⟩ (.slice a4 (o.length + 1) c4)).cell? ⟨w.heap.size, 2, none⟩ = some (.string ⟨tn.toArray⟩)) := (World.grownBy.cell_far (Lib.grownBy_setCell w4 b 1 _) ⟨w.heap.size, 2, none⟩ (by show w.heap.size < _; have : w.heap.size < W2.heap.size := hz2; omega) (fun e => by injection e with e; have e' : w.heap.size = b := e; omega)).trans HS4.out
        refine hK.out _ _ (HS5.out) (fun hHeld => ?_)
        clear hK K
        try simp only [Act.put, List.setIfInBounds_toArray, List.set_cons_zero, List.set_cons_succ]
        refine wpAnyH_done (by kernel_rfl) ?_ _
        clear hHeld
        go_wp2_with fail
        go_ret
        rw [HV.out]
        have halloc : ∀ {e : TypeId} {size : Nat} {v : Value} {n : Nat} {xs : List Value}, W2.ownsRow B e size v n xs → e ≠ 9 → w4.ownsRow B e size v n xs := fun hr he => by
          refine World.ownsRow.kept (World.ownsRow.alloc (w := W2.drew) hr _) hg4 ?_
          rename_i v _ _
          cases hv : v.ownBlock with
          | none => exact .inl rfl
          | some g =>
            refine .inr fun e => ?_
            obtain ⟨_, _, cur, hc⟩ := own_type hr g hv
            exact hownt2 g e.symm _ _ hc he
        refine ⟨(((hbW.mono hBw).trans hb2).drew.trans hb4).setCell hB _, rfl, ⟨S, IA, Ic, a4, c4, ?_, own_set HB4.out _ (halloc H2.out (by decide)) (by decide), fun s hs => own_set HB4.out _ (halloc (H3.out s hs) (by decide)) (by decide), open_set HB4.out _ hown4, H5.out⟩⟩
        have := HB4.out.setOpen a4 (o.length + 1) c4
        rw [List.length_append]
        exact this
      · go_simp
        refine hK.out _ _ (HS2.out) (fun hHeld => ?_)
        clear hK K
        try simp only [Act.put, List.setIfInBounds_toArray, List.set_cons_zero, List.set_cons_succ]
        refine wpAnyH_ready (rs := [4]) (by kernel_rfl) (by simp) ?_
        refine AllReadyH.cons (o := ⟨_, _, _, _, _, _⟩) rfl (fun K hK => ?_) AllReadyH.nil
        go_simp
        refine hK.out _ _ (HS2.out) (fun hHeld => ?_)
        clear hK K
        try simp only [Act.put, List.setIfInBounds_toArray, List.set_cons_zero, List.set_cons_succ]
        refine wpAnyH_ready (rs := [8]) (by kernel_rfl) (by simp) ?_
        refine AllReadyH.cons (o := ⟨_, _, _, _, _, _⟩) rfl (fun K hK => ?_) AllReadyH.nil
        refine appendOw (w := W2.drew) (.tmp 38) (.tmp 41) rfl B OA Oc o tn rfl H4.out hzB W2.drew.heap.size rfl rfl (by omega) ?_
        intro a4 c4 w4 hown4 hb4 hz4 hg4
        have hz4' : W2.heap.size < w4.heap.size := hz4
        have HB4 : Hid (PBlk w4 b IA S.length Ic OA o.length Oc) := by
          have h0 : PBlk (W2.drew.alloc (.cells #[.string ⟨tn.toArray⟩] 9)) b IA S.length Ic OA o.length Oc := PBlk.below (w := W2.drew) HB2.out ((Below.refl _ _).alloc (Nat.le_refl _) _)
          exact (hg4.block b h0.lt (fun e => hownb e.symm)).trans h0
        have HS4 : Hid (w4.cell? ⟨w.heap.size, 2, none⟩ = some (.string ⟨tn.toArray⟩)) := (World.grownBy.cell_far hg4 ⟨w.heap.size, 2, none⟩ (by show w.heap.size < _; have : w.heap.size < W2.heap.size := hz2; simp; omega) (fun e => hownt e.symm)).trans HS2.out
        obtain ⟨_, k1, _, kf1⟩ := HB4.out.cells
        refine hK.out _ _ (HS4.out) (fun hHeld => ?_)
        clear hK K
        try simp only [Act.put, List.setIfInBounds_toArray, List.set_cons_zero, List.set_cons_succ]
        refine wpAnyH_take (i := 9) (oi := ⟨_, _, _, _, _, _⟩) (v := ?_) rfl (by kernel_rfl) (by kernel_rfl) (by kernel_rfl) (fun _ _ _ h => h) (Or.inl ⟨by rfl, ?_⟩) (by assumption) ?_
        rotate_left
        · (intro wS hSw; (try dsimp only at hSw); go_simp); all_goals with_reducible rfl
        try simp only [Act.put, List.setIfInBounds_toArray, List.set_cons_zero, List.set_cons_succ]
        refine wpAnyH_take (i := 10) (oi := ⟨_, _, _, _, _, _⟩) (v := ?_) rfl (by kernel_rfl) (by kernel_rfl) (by kernel_rfl) (fun _ _ _ h => h) (Or.inl ⟨by rfl, ?_⟩) (by assumption) ?_
        rotate_left
        · (intro wS hSw; (try dsimp only at hSw); go_simp); all_goals with_reducible rfl
        try simp only [Act.put, List.setIfInBounds_toArray, List.set_cons_zero, List.set_cons_succ]
        refine wpAnyH_ready (rs := [11]) (by kernel_rfl) (by simp) ?_
        refine AllReadyH.cons (o := ⟨_, _, _, _, _, _⟩) rfl (fun K hK => ?_) AllReadyH.nil
        go_simp
        have HS5 : Hid ((w4.setCell ⟨b, 1, none⟩ (.slice a4 (o.length + 1) c4)).cell? ⟨w.heap.size, 2, none⟩ = some (.string ⟨tn.toArray⟩)) := (World.grownBy.cell_far (Lib.grownBy_setCell w4 b 1 _) ⟨w.heap.size, 2, none⟩ (by show w.heap.size < _; have : w.heap.size < W2.heap.size := hz2; omega) (fun e => by injection e with e; have e' : w.heap.size = b := e; omega)).trans HS4.out
        refine hK.out _ _ (HS5.out) (fun hHeld => ?_)
        clear hK K
        try simp only [Act.put, List.setIfInBounds_toArray, List.set_cons_zero, List.set_cons_succ]
        refine wpAnyH_done (by kernel_rfl) ?_ _
        clear hHeld
        go_wp2_with fail
        go_ret
        rw [HV.out]
        have halloc : ∀ {e : TypeId} {size : Nat} {v : Value} {n : Nat} {xs : List Value}, W2.ownsRow B e size v n xs → e ≠ 9 → w4.ownsRow B e size v n xs := fun hr he => by
          refine World.ownsRow.kept (World.ownsRow.alloc (w := W2.drew) hr _) hg4 ?_
          rename_i v _ _
          cases hv : v.ownBlock with
          | none => exact .inl rfl
          | some g =>
            refine .inr fun e => ?_
            obtain ⟨_, _, cur, hc⟩ := own_type hr g hv
            exact hownt2 g e.symm _ _ hc he
        refine ⟨(((hbW.mono hBw).trans hb2).drew.trans hb4).setCell hB _, rfl, ⟨S, IA, Ic, a4, c4, ?_, own_set HB4.out _ (halloc H2.out (by decide)) (by decide), fun s hs => own_set HB4.out _ (halloc (H3.out s hs) (by decide)) (by decide), open_set HB4.out _ hown4, H5.out⟩⟩
        have := HB4.out.setOpen a4 (o.length + 1) c4
        rw [List.length_append]
        exact this
    · have HV : Hid (V = .inl E) := by
        show _ = _
        rw [← hV.out]; unfold takeT
        simp only
        rw [if_neg (by decide), hE.out, if_pos h0]
      have h0' : (E == 0) = false := by simpa using h0
      clear h0 hP2
      go_wp2_with fail
      go_ret
      rw [HV.out]
      exact ⟨(hbW.mono hBw).trans hb2, rfl⟩
  · obtain ⟨v, hv⟩ : ∃ v, Hid (decide (o.getLast? = some tn) = v) := ⟨_, rfl⟩
    have HV : Hid (V = if v then .inr (items, o.dropLast) else .inl 41) := by
      show _ = _
      rw [← hV.out, ← hv.out]; unfold takeT
      simp only
      rw [if_pos trivial]
      by_cases hq : o.getLast? = some tn
      · simp [hq]
      · simp [hq]
    go_enter Try.func48, Try.ntmps48
    go_wp2_with fail
    obtain ⟨W1, hW1⟩ : ∃ W1, Hid (W1 = (w.alloc (.cells #[.int .i64 2, .int .i64 at_, .string ⟨tn.toArray⟩, .string ⟨tt.toArray⟩, .slice A ta.length c] 34)).alloc (.cells #[.int .i64 0, .int .i64 1, .string ⟨tn.toArray⟩, .string ⟨#[]⟩, .slice A ta.length c] 50)) := ⟨_, rfl⟩
    rw [← hW1.out]
    have hbW : Below w.heap.size w W1 := by rw [hW1.out]; exact ((Below.refl _ w).alloc (Nat.le_refl _) _).alloc (by simp) _
    have hP1 := PInv.below h hbW
    have hz1 : w.heap.size + 1 < W1.heap.size := by rw [hW1.out]; simp
    cases v with
    | true =>
      refine (close_any b B items o W1 hP1 hB (Nat.le_trans hBw hbW.size) ho ⟨2, tn, tt, ta⟩ at_ A c true hv).mono ?_
      rintro e W2 ⟨rfl, hP2, hb2⟩
      go_wp2_with fail
      go_ret
      rw [HV.out.trans (if_pos trivial)]
      exact ⟨(hbW.mono hBw).trans hb2, rfl, hP2⟩
    | false =>
      refine (close_any b B items o W1 hP1 hB (Nat.le_trans hBw hbW.size) ho ⟨2, tn, tt, ta⟩ at_ A c false hv).mono ?_
      rintro e W2 ⟨rfl, hP2, hb2⟩
      go_wp2_with fail
      go_ret
      rw [HV.out.trans (if_neg (by decide))]
      exact ⟨(hbW.mono hBw).trans hb2, rfl⟩
  · obtain ⟨E, hE⟩ : ∃ E, Hid (addE items o 3 = E) := ⟨_, rfl⟩
    have hE' : Hid (addK items o 1 = E) := by show _ = _; rw [← hE.out]; exact (addE_K _ _ _ _ (by decide)).symm
    go_enter Try.func48, Try.ntmps48
    go_wp2_with fail
    obtain ⟨W1, hW1⟩ : ∃ W1, Hid (W1 = (w.alloc (.cells #[.int .i64 3, .int .i64 at_, .string ⟨tn.toArray⟩, .string ⟨tt.toArray⟩, .slice A ta.length c] 34)).alloc (.cells #[.int .i64 0, .int .i64 1, .string ⟨tn.toArray⟩, .string ⟨#[]⟩, .slice A ta.length c] 50)) := ⟨_, rfl⟩
    rw [← hW1.out]
    have hbW : Below w.heap.size w W1 := by rw [hW1.out]; exact ((Below.refl _ w).alloc (Nat.le_refl _) _).alloc (by simp) _
    have hP1 := PInv.below h hbW
    have hz1 : w.heap.size + 1 < W1.heap.size := by rw [hW1.out]; simp
    refine (add_any b B items o W1 hP1 hB (Nat.le_trans hBw hbW.size) ho hi ⟨0, 1, tn, [], ta⟩ A c (own_keep HA.out hbW) E hE').mono ?_
    rintro e W2 ⟨rfl, hP2, hb2, hkeep⟩
    go_wp2_with fail
    go_ret
    by_cases h0 : E = 0
    · subst h0
      have HV : V = .inr (items ++ [⟨o.length, 1, tn, [], ta⟩], o) := by
        rw [← hV.out]; unfold takeT
        simp only
        rw [if_neg (by decide), hE.out, if_neg (by decide), if_neg (by decide)]
        rfl
      rw [HV]
      rw [if_pos rfl] at hP2
      exact ⟨(hbW.mono hBw).trans hb2, rfl, hP2⟩
    · have HV : V = .inl E := by
        rw [← hV.out]; unfold takeT
        simp only
        rw [if_neg (by decide), hE.out, if_pos h0]
      rw [HV]
      exact ⟨(hbW.mono hBw).trans hb2, rfl⟩
  · obtain ⟨E, hE⟩ : ∃ E, Hid (addE items o 4 = E) := ⟨_, rfl⟩
    have hE' : Hid (addK items o 2 = E) := by show _ = _; rw [← hE.out]; exact (addE_K _ _ _ _ (by decide)).symm
    go_enter Try.func48, Try.ntmps48
    go_wp2_with fail
    obtain ⟨W1, hW1⟩ : ∃ W1, Hid (W1 = (w.alloc (.cells #[.int .i64 4, .int .i64 at_, .string ⟨tn.toArray⟩, .string ⟨tt.toArray⟩, .slice A ta.length c] 34)).alloc (.cells #[.int .i64 0, .int .i64 2, .string ⟨#[]⟩, .string ⟨tt.toArray⟩, .slice none 0 0] 50)) := ⟨_, rfl⟩
    rw [← hW1.out]
    have hbW : Below w.heap.size w W1 := by rw [hW1.out]; exact ((Below.refl _ w).alloc (Nat.le_refl _) _).alloc (by simp) _
    have hP1 := PInv.below h hbW
    have hz1 : w.heap.size + 1 < W1.heap.size := by rw [hW1.out]; simp
    refine (add_any b B items o W1 hP1 hB (Nat.le_trans hBw hbW.size) ho hi ⟨0, 2, [], tt, []⟩ none 0 (World.ownsRow_nil _ _ _ _) E hE').mono ?_
    rintro e W2 ⟨rfl, hP2, hb2, hkeep⟩
    go_wp2_with fail
    go_ret
    by_cases h0 : E = 0
    · subst h0
      have HV : V = .inr (items ++ [⟨o.length, 2, [], tt, []⟩], o) := by
        rw [← hV.out]; unfold takeT
        simp only
        rw [if_neg (by decide), hE.out, if_neg (by decide), if_neg (by decide)]
        rfl
      rw [HV]
      rw [if_pos rfl] at hP2
      exact ⟨(hbW.mono hBw).trans hb2, rfl, hP2⟩
    · have HV : V = .inl E := by
        rw [← hV.out]; unfold takeT
        simp only
        rw [if_neg (by decide), hE.out, if_pos h0]
      rw [HV]
      exact ⟨(hbW.mono hBw).trans hb2, rfl⟩
end Go.Proofs.Ythifddkmbjnncaa
