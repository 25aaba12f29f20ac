/-
  Texts of this claim, joined (by a program of the claim's author): NormPlain, PrintPlain, DocPlain, FitPlain, IdemPlain, LawPlain, InjPlain, LexPlain.
-/
import Derived.Test.YthifddkmbjnncaaLR2
import Derived.Test.YthifddkmbjnncaaLR1
namespace Go.Proofs.Ythifddkmbjnncaa
set_option maxRecDepth 100000
set_option maxHeartbeats 16000000
section
def nstep (out : List ItemD) (x : ItemD) : List ItemD :=
 if x.kind = 2 ∧ x.text = [] then out
 else match out[out.length - 1]? with
  | none => out ++ [x]
  | some p => if x.kind = 2 ∧ p.kind = 2 ∧ p.level = x.level then out.set (out.length - 1) { p with text := p.text ++ x.text } else out ++ [x]
def normalL (l : List ItemD) : List ItemD := l.foldl nstep []
theorem nstep_void {out : List ItemD} {x : ItemD} (h1 : x.kind = 2) (h2 : x.text = []) : nstep out x = out := by unfold nstep; rw [if_pos ⟨h1, h2⟩]
theorem nstep_first {x : ItemD} (h : ¬ (x.kind = 2 ∧ x.text = [])) : nstep [] x = [x] := by unfold nstep; rw [if_neg h]; rfl
theorem nstep_join {out : List ItemD} {x p : ItemD} (hp : out[out.length - 1]? = some p) (h1 : x.kind = 2) (h2 : x.text ≠ []) (h3 : p.kind = 2) (h4 : p.level = x.level) : nstep out x = out.set (out.length - 1) { p with text := p.text ++ x.text } := by
 unfold nstep; rw [if_neg (fun h => h2 h.2), hp]; exact if_pos ⟨h1, h3, h4⟩
theorem nstep_more {out : List ItemD} {x p : ItemD} (hp : out[out.length - 1]? = some p) (h : ¬ (x.kind = 2 ∧ x.text = [])) (h' : ¬ (x.kind = 2 ∧ p.kind = 2 ∧ p.level = x.level)) : nstep out x = out ++ [x] := by
 unfold nstep; rw [if_neg h, hp]; exact if_neg h'
def textSum (l : List ItemD) : Nat := (l.map (·.text.length)).sum
def SmallDoc (l : List ItemD) : Prop := SmallItems l ∧ textSum l ≤ 1000000000
end
section
def escT (t : List UInt8) : List UInt8 := (escL false t).getD []
def escV (t : List UInt8) : List UInt8 := (escL true t).getD []
def attrT (a : AttrD) : List UInt8 := [32] ++ a.name ++ [61, 34] ++ escV a.value ++ [34]
def tagL (x : ItemD) : List UInt8 := [60] ++ x.name ++ x.attrs.flatMap attrT
def kidsOf (c : Int) (r : List ItemD) : List ItemD := r.takeWhile fun y => decide (c < y.level)
def pastOf (c : Int) (r : List ItemD) : List ItemD := r.dropWhile fun y => decide (c < y.level)
theorem kids_past (c : Int) (r : List ItemD) : kidsOf c r ++ pastOf c r = r := List.takeWhile_append_dropWhile
theorem kidsOf_le (c : Int) (r : List ItemD) : (kidsOf c r).length ≤ r.length := by
 have := congrArg List.length (kids_past c r)
 rw [List.length_append] at this; omega
theorem pastOf_le (c : Int) (r : List ItemD) : (pastOf c r).length ≤ r.length := by
 have := congrArg List.length (kids_past c r)
 rw [List.length_append] at this; omega
theorem kids_mem (c : Int) : ∀ (r : List ItemD), ∀ y ∈ kidsOf c r, c < y.level
 | [], y, h => by cases h
 | x :: r, y, h => by
  unfold kidsOf at h
  rw [List.takeWhile_cons] at h
  split at h
  ·rename_i hx
   rcases List.mem_cons.1 h with rfl | h
   ·exact of_decide_eq_true hx
   ·exact kids_mem c r y h
  ·cases h
theorem past_head (c : Int) : ∀ (r : List ItemD) (y : ItemD) (s : List ItemD), pastOf c r = y :: s → y.level ≤ c
 | [], y, s, h => by cases h
 | x :: r, y, s, h => by
  unfold pastOf at h
  rw [List.dropWhile_cons] at h
  split at h
  ·exact past_head c r y s h
  ·rename_i hx
   injection h with h1 _
   subst h1
   have := of_decide_eq_false (by simpa using hx : decide (c < x.level) = false)
   omega
def nodeL (x : ItemD) (kids : List ItemD) (inner : List UInt8) : List UInt8 :=
 if x.kind = 2 then escT x.text else if kids = [] then tagL x ++ [47, 62] else tagL x ++ [62] ++ inner ++ ([60, 47] ++ x.name ++ [62])
def pr : List ItemD → List UInt8
 | [] => []
 | x :: r => nodeL x (kidsOf x.level r) (pr (kidsOf x.level r)) ++ pr (pastOf x.level r)
termination_by l => l.length
decreasing_by
 ·have := kidsOf_le x.level r; simp; omega
 ·have := pastOf_le x.level r; simp; omega
theorem pr_nil : pr [] = [] := by rw [pr]
theorem pr_cons (x : ItemD) (r : List ItemD) : pr (x :: r) = nodeL x (kidsOf x.level r) (pr (kidsOf x.level r)) ++ pr (pastOf x.level r) := by rw [pr]
def nodeAt (l : List ItemD) (k : Nat) : List UInt8 := match l.drop k with
 | [] => []
 | x :: r => nodeL x (kidsOf x.level r) (pr (kidsOf x.level r))
def endN (l : List ItemD) (k : Nat) : Nat := match l.drop k with
 | [] => 0
 | x :: r => k + 1 + (kidsOf x.level r).length
def printL (l : List ItemD) : List UInt8 × Int := if (checkL l).2 = 0 then (nodeAt (normalL l) 0, 0) else ([], (checkL l).2)
end
section
/-! What was checked. -/
structure Doc (l : List ItemD) : Prop where
 ne : l ≠ []
 one : ∀ (k : Nat) (x : ItemD), l[k]? = some x → oneE (prevOf l k) k x = 0
theorem Doc.first {l : List ItemD} (h : Doc l) : ∃ x r, l = x :: r ∧ x.level = 0 ∧ x.kind = 1 := by
 cases l with
 | nil => exact absurd rfl h.ne
 | cons x r =>
  refine ⟨x, r, rfl, ?_⟩
  have h0 := (oneE_zero (h.one 0 x rfl)).1
  have : prevOf (x :: r) 0 = none := rfl
  rw [this] at h0
  unfold placeE at h0
  simp only at h0
  split at h0
  ·omega
  ·omega
theorem Doc.many {l : List ItemD} (h : Doc l) : l.length ≤ 1000 := by
 rcases Nat.lt_or_ge 1000 l.length with hl | hl
 ·have hx : l[1000]? = some l[1000] := List.getElem?_eq_getElem hl
  have h0 := (oneE_zero (h.one 1000 _ hx)).1
  have hp : prevOf l 1000 = some (l[999]'(by omega)) := by unfold prevOf; rw [if_neg (by omega)]; exact List.getElem?_eq_getElem (by omega)
  rw [hp] at h0
  unfold placeE at h0
  simp only at h0
  split at h0
  ·omega
  split at h0
  ·omega
  ·omega
 ·exact hl
def cap (x : ItemD) : Int := if x.kind = 2 then x.level else x.level + 1
def capC : Int → List ItemD → Prop
 | _, [] => True
 | c, x :: r => x.level ≤ c ∧ capC (cap x) r
theorem Doc.step {l : List ItemD} (h : Doc l) {k : Nat} {p x : ItemD} (hp : l[k]? = some p) (hx : l[k + 1]? = some x) : 1 ≤ x.level ∧ x.level ≤ cap p := by
 have h0 := (oneE_zero (h.one (k + 1) x hx)).1
 have e : prevOf l (k + 1) = some p := prevOf_succ hp
 rw [e] at h0
 unfold placeE at h0
 simp only at h0
 unfold cap
 split at h0
 ·omega
 ·split <;> omega
theorem capC_of {l : List ItemD} (hs : ∀ (k : Nat) (p x : ItemD), l[k]? = some p → l[k + 1]? = some x → x.level ≤ cap p) : ∀ (x : ItemD) (r : List ItemD), l = x :: r → capC x.level l := by
 have key : ∀ (r : List ItemD) (x : ItemD), (∀ (k : Nat) (p y : ItemD), (x :: r)[k]? = some p → (x :: r)[k + 1]? = some y → y.level ≤ cap p) → capC (cap x) r := by
  intro r
  induction r with
  | nil => intro x _; trivial
  | cons y r ih =>
   intro x h
   exact ⟨h 0 x y rfl rfl, ih y (fun k p z hp hz => h (k + 1) p z hp hz)⟩
 intro x r e
 subst e
 exact ⟨Int.le_refl _, key r x hs⟩
theorem Doc.cap {l : List ItemD} (h : Doc l) : capC 0 l ∧ ∀ y ∈ l, 0 ≤ y.level := by
 obtain ⟨x, r, rfl, hx0, _⟩ := h.first
 have := capC_of (fun k p y hp hy => (h.step hp hy).2) x r rfl
 rw [hx0] at this
 refine ⟨this, fun y hy => ?_⟩
 obtain ⟨k, hk⟩ := List.mem_iff_getElem?.1 hy
 exact (placeE_zero (oneE_zero (h.one k y hk)).1).1
theorem Doc.below {l : List ItemD} (h : Doc l) {x : ItemD} {r : List ItemD} (e : l = x :: r) : ∀ y ∈ r, 1 ≤ y.level := by
 subst e
 intro y hy
 obtain ⟨k, hk⟩ := List.mem_iff_getElem?.1 hy
 have h1 : (x :: r)[k + 1]? = some y := by simpa using hk
 have h2 : ∃ p, (x :: r)[k]? = some p := ⟨_, List.getElem?_eq_getElem (by have := (List.getElem?_eq_some_iff.1 h1).1; omega)⟩
 obtain ⟨p, hp⟩ := h2
 exact (h.step hp h1).1
/-! Made normal, item by item: the last one is held back. -/
def normP (p : ItemD) : List ItemD → List ItemD
 | [] => [p]
 | x :: r => if x.kind = 2 ∧ x.text = [] then normP p r
  else if x.kind = 2 ∧ p.kind = 2 ∧ p.level = x.level then normP { p with text := p.text ++ x.text } r
  else p :: normP x r
theorem fold_normP : ∀ (l out : List ItemD) (p : ItemD), l.foldl nstep (out ++ [p]) = out ++ normP p l
 | [], out, p => rfl
 | x :: l, out, p => by
  have hl : (out ++ [p])[(out ++ [p]).length - 1]? = some p := by simp
  rw [List.foldl_cons]
  by_cases h1 : x.kind = 2 ∧ x.text = []
  ·rw [nstep_void h1.1 h1.2, fold_normP l out p, normP, if_pos h1]
  ·by_cases h2 : x.kind = 2 ∧ p.kind = 2 ∧ p.level = x.level
   ·have e : nstep (out ++ [p]) x = out ++ [{ p with text := p.text ++ x.text }] := by
     rw [nstep_join hl h2.1 (fun h => h1 ⟨h2.1, h⟩) h2.2.1 h2.2.2]
     simp
    rw [e, fold_normP l out _, normP, if_neg h1, if_pos h2]
   ·rw [nstep_more hl h1 h2, fold_normP l (out ++ [p]) x, normP, if_neg h1, if_neg h2]
    simp
theorem normal_first {x : ItemD} {r : List ItemD} (h : x.kind = 1) : normalL (x :: r) = normP x r := by
 unfold normalL
 rw [List.foldl_cons, nstep_first (by rw [h]; simp)]
 exact fold_normP r [] x
theorem normP_cap : ∀ (r : List ItemD) (p : ItemD) (c c' : Int), p.level ≤ c → c' ≤ cap p → capC c' r → capC c (normP p r)
 | [], p, c, c', h, _, _ => ⟨h, trivial⟩
 | x :: r, p, c, c', h, h', hr => by
  unfold normP
  split
  ·rename_i h1
   refine normP_cap r p c (cap x) h ?_ hr.2
   have : cap x = x.level := by unfold cap; rw [if_pos h1.1]
   have := hr.1
   omega
  ·split
   ·rename_i h2
    refine normP_cap r _ c (cap x) h ?_ hr.2
    show cap x ≤ cap { p with text := _ }
    unfold cap
    rw [if_pos h2.1]
    show x.level ≤ (if p.kind = 2 then p.level else p.level + 1)
    rw [if_pos h2.2.1]; omega
   ·exact ⟨h, normP_cap r x (cap p) (cap x) (by have := hr.1; omega) (Int.le_refl _) hr.2⟩
theorem normP_mem (P : Int → Prop) : ∀ (r : List ItemD) (p : ItemD), P p.level → (∀ y ∈ r, P y.level) → ∀ y ∈ normP p r, P y.level
 | [], p, hp, _, y, hy => by simp [normP] at hy; subst hy; exact hp
 | x :: r, p, hp, hr, y, hy => by
  unfold normP at hy
  split at hy
  ·exact normP_mem P r p hp (fun z hz => hr z (by simp [hz])) y hy
  ·split at hy
   ·exact normP_mem P r { p with text := p.text ++ x.text } hp (fun z hz => hr z (by simp [hz])) y hy
   ·rcases List.mem_cons.1 hy with rfl | hy
    ·exact hp
    ·exact normP_mem P r x (hr x (by simp)) (fun z hz => hr z (by simp [hz])) y hy
theorem normP_head : ∀ (r : List ItemD) (p : ItemD), p.kind = 1 → ∃ s, normP p r = p :: s ∧ ∀ (P : Int → Prop), (∀ y ∈ r, P y.level) → ∀ y ∈ s, P y.level
 | [], p, _ => ⟨[], rfl, fun _ _ _ h => by cases h⟩
 | x :: r, p, hp => by
  unfold normP
  split
  ·obtain ⟨s, h1, h2⟩ := normP_head r p hp
   exact ⟨s, h1, fun P hP => h2 P (fun z hz => hP z (by simp [hz]))⟩
  ·rw [if_neg (by rw [hp]; simp)]
   exact ⟨_, rfl, fun P hP => normP_mem P r x (hP x (by simp)) (fun z hz => hP z (by simp [hz]))⟩
structure Shape (N : List ItemD) (x : ItemD) (s : List ItemD) : Prop where
 eq : N = x :: s
 level : x.level = 0
 kind : x.kind = 1
 cap : capC 0 N
 zero : ∀ y ∈ N, 0 ≤ y.level
 past : ∀ y ∈ s, 1 ≤ y.level
theorem Doc.normal {l : List ItemD} (h : Doc l) : ∃ x s, Shape (normalL l) x s := by
 obtain ⟨x, r, e, h0, h1⟩ := h.first
 have hc := h.cap
 have hb := h.below e
 subst e
 obtain ⟨s, e2, h2⟩ := normP_head r x h1
 refine ⟨x, s, by rw [normal_first h1]; exact e2, h0, h1, ?_, ?_, h2 (1 ≤ ·) hb⟩
 ·rw [normal_first h1]
  exact normP_cap r x 0 (Go.Proofs.Ythifddkmbjnncaa.cap x) (by omega) (Int.le_refl _) hc.1.2
 ·rw [normal_first h1, e2]
  intro y hy
  rcases List.mem_cons.1 hy with rfl | hy
  ·omega
  ·have := h2 (1 ≤ ·) hb y hy; omega
/-! The document's way to print: what is open is closed ahead of what is not in it. -/
def closeT (n : List UInt8) : List UInt8 := [60, 47] ++ n ++ [62]
def pops (L : Int) : List (List UInt8) → List UInt8 × List (List UInt8)
 | [] => ([], [])
 | n :: o => if L < (o.length + 1 : Nat) then (closeT n ++ (pops L o).1, (pops L o).2) else ([], n :: o)
def leafB (x : ItemD) : List ItemD → Bool
 | [] => true
 | y :: _ => decide (y.level ≤ x.level)
def mach : List (List UInt8) → List ItemD → List UInt8
 | o, [] => o.flatMap closeT
 | o, x :: r => (pops x.level o).1 ++ (if x.kind = 2 then escT x.text ++ mach (pops x.level o).2 r
   else if leafB x r then tagL x ++ [47, 62] ++ mach (pops x.level o).2 r else tagL x ++ [62] ++ mach (x.name :: (pops x.level o).2) r)
theorem pops_none {L : Int} {o : List (List UInt8)} (h : (o.length : Int) ≤ L) : pops L o = ([], o) := by
 cases o with
 | nil => rfl
 | cons n o => unfold pops; rw [if_neg (by simp at h ⊢; omega)]
theorem mach_pop {n : List UInt8} {o : List (List UInt8)} {s : List ItemD} (h : ∀ y t, s = y :: t → y.level ≤ o.length) : mach (n :: o) s = closeT n ++ mach o s := by
 cases s with
 | nil => rfl
 | cons y t =>
  have := h y t rfl
  unfold mach
  have e : pops y.level (n :: o) = (closeT n ++ (pops y.level o).1, (pops y.level o).2) := by
   rw [pops, if_pos (by simp; omega)]
  rw [e]
  simp
theorem mach_text {o : List (List UInt8)} {x : ItemD} {r : List ItemD} (hl : (o.length : Int) ≤ x.level) (hk : x.kind = 2) : mach o (x :: r) = escT x.text ++ mach o r := by
 rw [mach, pops_none hl, if_pos hk]; rfl
theorem mach_leaf {o : List (List UInt8)} {x : ItemD} {r : List ItemD} (hl : (o.length : Int) ≤ x.level) (hk : x.kind ≠ 2) (h : leafB x r = true) : mach o (x :: r) = tagL x ++ [47, 62] ++ mach o r := by
 rw [mach, pops_none hl, if_neg hk, if_pos h]; rfl
theorem mach_open {o : List (List UInt8)} {x : ItemD} {r : List ItemD} (hl : (o.length : Int) ≤ x.level) (hk : x.kind ≠ 2) (h : leafB x r = false) : mach o (x :: r) = tagL x ++ [62] ++ mach (x.name :: o) r := by
 rw [mach, pops_none hl, if_neg hk, if_neg (by simp [h])]; rfl
theorem capC_split : ∀ (a b : List ItemD) (c : Int), capC c (a ++ b) → capC c a ∧ ∃ c', capC c' b
 | [], b, c, h => ⟨trivial, c, h⟩
 | x :: a, b, c, h => by
  obtain ⟨h1, c', h2⟩ := capC_split a b (cap x) h.2
  exact ⟨⟨h.1, h1⟩, c', h2⟩
theorem capC_head {c c' : Int} : ∀ {l : List ItemD}, capC c l → (∀ y t, l = y :: t → y.level ≤ c') → capC c' l
 | [], _, _ => trivial
 | y :: t, h, h' => ⟨h' y t rfl, h.2⟩
theorem kids_nil {c : Int} {r : List ItemD} (h : capC c r) : kidsOf c r = [] ∧ pastOf c r = r := by
 cases r with
 | nil => exact ⟨rfl, rfl⟩
 | cons y r =>
  have := h.1
  have hd : decide (c < y.level) = false := by simp; omega
  constructor
  ·show List.takeWhile _ (y :: r) = []
   rw [List.takeWhile_cons, hd]; rfl
  ·show List.dropWhile _ (y :: r) = _
   rw [List.dropWhile_cons, hd]; rfl
theorem mach_seg : ∀ (n : Nat) (b : List ItemD) (o : List (List UInt8)) (rest : List ItemD), b.length ≤ n → (∀ y ∈ b, (o.length : Int) ≤ y.level) → capC o.length b → (∀ y t, rest = y :: t → y.level ≤ o.length) → mach o (b ++ rest) = pr b ++ mach o rest := by
 intro n
 induction n with
 | zero =>
  intro b o rest hb _ _ _
  have : b = [] := List.eq_nil_of_length_eq_zero (by omega)
  subst this
  rw [pr_nil]; rfl
 | succ n ih =>
  intro b o rest hb hlow hcap hrest
  cases b with
  | nil => rw [pr_nil]; rfl
  | cons x r =>
   have hx1 := hlow x (by simp)
   have hx2 := hcap.1
   have hxl : x.level = o.length := by omega
   have hr := hcap.2
   have hlr : ∀ y ∈ r, (o.length : Int) ≤ y.level := fun y hy => hlow y (by simp [hy])
   have hbl : r.length ≤ n := by simp at hb; omega
   rw [pr_cons, List.cons_append]
   by_cases hk : x.kind = 2
   ·have hcx : cap x = x.level := by unfold cap; rw [if_pos hk]
    rw [hcx] at hr
    obtain ⟨k1, k2⟩ := kids_nil hr
    have hr' : capC o.length r := by rw [← hxl]; exact hr
    rw [mach_text hx1 hk, ih r o rest hbl hlr hr' hrest, k1, k2]
    have : nodeL x [] (pr []) = escT x.text := by unfold nodeL; rw [if_pos hk]
    rw [this, List.append_assoc]
   ·have hcx : cap x = x.level + 1 := by unfold cap; rw [if_neg hk]
    rw [hcx] at hr
    have hsplit := kids_past x.level r
    have hpast : ∀ y t, pastOf x.level r = y :: t → y.level ≤ x.level := fun y t h => past_head x.level r y t h
    have hpr : ∀ y t, pastOf x.level r ++ rest = y :: t → y.level ≤ (o.length : Int) := by
     intro y t h
     cases hp : pastOf x.level r with
     | nil => rw [hp] at h; exact hrest y t h
     | cons z s =>
      rw [hp] at h
      injection h with h1 _
      subst h1
      have := hpast z s hp
      omega
    rw [← hsplit] at hr
    obtain ⟨hc1, c', hc2⟩ := capC_split _ _ _ hr
    have hc2' : capC o.length (pastOf x.level r) := capC_head hc2 (fun y t h => by have := hpast y t h; omega)
    have hkl := kidsOf_le x.level r
    have hpl := pastOf_le x.level r
    have hlp : ∀ y ∈ pastOf x.level r, (o.length : Int) ≤ y.level := fun y hy => hlr y (by rw [← hsplit]; simp [hy])
    by_cases hkn : kidsOf x.level r = []
    ·have hleaf : leafB x (r ++ rest) = true := by
      have e : r ++ rest = pastOf x.level r ++ rest := by
       conv => lhs; rw [← hsplit]
       rw [hkn]; rfl
      rw [e]
      cases hp : pastOf x.level r ++ rest with
      | nil => rfl
      | cons y t => have := hpr y t hp; show decide _ = true; simp; omega
     have e : r = pastOf x.level r := by
      conv => lhs; rw [← hsplit]
      rw [hkn]; rfl
     rw [mach_leaf hx1 hk hleaf, hkn]
     have : nodeL x [] (pr []) = tagL x ++ [47, 62] := by unfold nodeL; rw [if_neg hk, if_pos rfl]
     rw [this]
     conv => lhs; rw [e]
     rw [ih _ o rest (by omega) hlp hc2' hrest]
     simp
    ·obtain ⟨y, t, hyt⟩ := List.exists_cons_of_ne_nil hkn
     have hyl : x.level < y.level := kids_mem x.level r y (by rw [hyt]; simp)
     have hleaf : leafB x (r ++ rest) = false := by
      have e : r ++ rest = y :: (t ++ (pastOf x.level r ++ rest)) := by
       conv => lhs; rw [← hsplit]
       rw [hyt]; simp
      rw [e]
      show decide _ = false
      simp; omega
     rw [mach_open hx1 hk hleaf]
     have e : r ++ rest = kidsOf x.level r ++ (pastOf x.level r ++ rest) := by
      conv => lhs; rw [← hsplit]
      rw [List.append_assoc]
     have hcl : ((x.name :: o).length : Int) = x.level + 1 := by simp; omega
     rw [e, ih (kidsOf x.level r) (x.name :: o) (pastOf x.level r ++ rest) (by omega)
      (fun z hz => by have := kids_mem x.level r z hz; omega) (by rw [hcl]; exact hc1)
      (fun z u h => by have := hpr z u h; omega)]
     rw [mach_pop hpr, ih (pastOf x.level r) o rest (by omega) hlp hc2' hrest]
     have : nodeL x (kidsOf x.level r) (pr (kidsOf x.level r)) = tagL x ++ [62] ++ pr (kidsOf x.level r) ++ closeT x.name := by
      unfold nodeL; rw [if_neg hk, if_neg hkn]; rfl
     rw [this]
     simp
theorem all_kids (c : Int) : ∀ (s : List ItemD), (∀ y ∈ s, c < y.level) → kidsOf c s = s ∧ pastOf c s = []
 | [], _ => ⟨rfl, rfl⟩
 | y :: s, h => by
  obtain ⟨h1, h2⟩ := all_kids c s (fun z hz => h z (by simp [hz]))
  have hd : decide (c < y.level) = true := by have := h y (by simp); simpa using this
  constructor
  ·show List.takeWhile _ (y :: s) = _
   rw [List.takeWhile_cons, hd]
   show y :: kidsOf c s = _
   rw [h1]
  ·show List.dropWhile _ (y :: s) = _
   rw [List.dropWhile_cons, hd]
   exact h2
theorem Shape.pr {N : List ItemD} {x : ItemD} {s : List ItemD} (h : Shape N x s) : pr N = nodeAt N 0 := by
 rw [h.eq, pr_cons]
 have hk : kidsOf x.level s = s ∧ pastOf x.level s = [] := all_kids x.level s (fun y hy => by have := h.past y hy; have := h.level; omega)
 rw [hk.2, pr_nil, List.append_nil]
 rfl
theorem Shape.mach {N : List ItemD} {x : ItemD} {s : List ItemD} (h : Shape N x s) : mach [] N = nodeAt N 0 := by
 have := mach_seg N.length N [] [] (Nat.le_refl _) (fun y hy => by have := h.zero y hy; simpa using this) (by simpa using h.cap) (fun y t h => by cases h)
 rw [List.append_nil] at this
 rw [this, ← h.pr]
 show Go.Proofs.Ythifddkmbjnncaa.pr N ++ [] = _
 rw [List.append_nil]
end
section
structure Fit (x : ItemD) : Prop where
 name : x.name.length ≤ 60
 attrs : x.attrs.length ≤ 20
 each : ∀ a ∈ x.attrs, a.name.length ≤ 60 ∧ a.value.length ≤ 1500
def cost (x : ItemD) : Nat := 6 * x.text.length + (tagL x).length + x.name.length + 6
end
section
def voidB (x : ItemD) : Prop := x.kind = 2 ∧ x.text = []
def joinB (p x : ItemD) : Prop := x.kind = 2 ∧ p.kind = 2 ∧ p.level = x.level
def nfP (p : ItemD) : List ItemD → Prop
 | [] => True
 | x :: r => ¬ voidB x ∧ ¬ joinB p x ∧ nfP x r
def NF : List ItemD → Prop
 | [] => True
 | x :: r => ¬ voidB x ∧ nfP x r
end
section
/-! ### Characters and their bytes -/
theorem enc_ne (c : Int) : enc c ≠ [] := by
 unfold enc
 repeat (first | split | simp)
def plainB (x : UInt8) : Bool := !(x == 60 || x == 62 || x == 34 || x == 9 || x == 10 || x == 13)
end
section
/-! Bytes. -/
def nb (b : UInt8) : Bool := !(b == 9 || b == 10 || b == 32 || b == 34 || b == 47 || b == 60 || b == 61 || b == 62)
structure AttrOk (a : AttrD) : Prop where
 name : nameL a.name = true
 value : ∃ o, escL true a.value = some o
inductive ItemOk (x : ItemD) : Prop
 | text (k : x.kind = 2) (n : x.name = []) (a : x.attrs = []) (t : ∃ o, escL false x.text = some o)
 | elem (k : x.kind = 1) (t : x.text = []) (n : nameL x.name = true) (a : ∀ y ∈ x.attrs, AttrOk y)
def endR (r : List UInt8) : Prop := r = [] ∨ ∃ t, r = 60 :: 47 :: t
structure Forest (L : Int) (b : List ItemD) : Prop where
 low : ∀ y ∈ b, L ≤ y.level
 cap : capC L b
 ok : ∀ y ∈ b, ItemOk y
 nf : NF b
theorem nfP_split : ∀ (a b : List ItemD) (p : ItemD), nfP p (a ++ b) → nfP p a ∧ NF b
 | [], [], _, _ => ⟨trivial, trivial⟩
 | [], x :: b, p, h => ⟨trivial, h.1, h.2.2⟩
 | x :: a, b, p, h => by
  obtain ⟨h1, h2⟩ := nfP_split a b x h.2.2
  exact ⟨⟨h.1, h.2.1, h1⟩, h2⟩
theorem NF.split {a b : List ItemD} (h : NF (a ++ b)) : NF a ∧ NF b := by
 cases a with
 | nil => exact ⟨trivial, h⟩
 | cons x a =>
  obtain ⟨h1, h2⟩ := nfP_split a b x h.2
  exact ⟨⟨h.1, h1⟩, h2⟩
theorem Forest.head {L : Int} {x : ItemD} {r : List ItemD} (h : Forest L (x :: r)) : x.level = L := by
 have h1 := h.low x (by simp)
 have h2 := h.cap.1
 omega
end
section
def blankB (b : UInt8) : Bool := b == 32 || b == 9 || b == 10
structure TokD where
 kind : Int
 name : List UInt8
 text : List UInt8
 attrs : List AttrD
deriving DecidableEq
inductive Told (α : Type) where
 | ok (x : α) (n : Nat)
 | bad (k : Nat) (e : Int)
deriving DecidableEq
def Told.past {α : Type} (k : Nat) : Told α → Told α
 | .ok x n => .ok x (k + n)
 | .bad j e => .bad (k + j) e
theorem Told.past_past {α : Type} (j k : Nat) (x : Told α) : (x.past k).past j = x.past (j + k) := by
 cases x <;> simp [Told.past, Nat.add_assoc]
theorem Told.past_zero {α : Type} (x : Told α) : x.past 0 = x := by
 cases x <;> simp [Told.past]
def wordL (l : List UInt8) : List UInt8 := l.takeWhile nb
def skipL (l : List UInt8) : Nat := (l.takeWhile blankB).length
def textT (l : List UInt8) : Told TokD :=
 let t := l.takeWhile (· != 60)
 let u := undoL false t
 if u.2.2 ≠ 0 then .bad u.2.1 u.2.2 else if 1500 < u.1.length then .bad 0 34 else .ok ⟨4, [], u.1, []⟩ t.length
def endT (l : List UInt8) : Told TokD :=
 let n := wordL l
 if nameL n = false then .bad 0 31
 else
  let k := n.length + skipL (l.drop n.length)
  if pre [62] (l.drop k) = true then .ok ⟨2, n, [], []⟩ (k + 1) else .bad k 30
def insA (a : AttrD) : List AttrD → List AttrD
 | [] => [a]
 | b :: r => if Op.bytesLess a.name b.name then a :: b :: r else b :: insA a r
def sortA (l : List AttrD) : List AttrD := l.foldl (fun o a => insA a o) []
def valueT (n : List UInt8) (l : List UInt8) : Told AttrD :=
 let v := l.takeWhile (· != 34)
 if v.length = l.length then .bad (n.length + 2 + v.length) 30
 else
  let u := undoL true v
  if u.2.2 ≠ 0 then .bad (n.length + 2 + u.2.1) u.2.2 else if 1500 < u.1.length then .bad (n.length + 1) 34 else .ok ⟨n, u.1⟩ (n.length + 2 + v.length + 1)
def attrL (l : List UInt8) (bs : List AttrD) : Told AttrD :=
 let n := wordL l
 if nameL n = false then .bad 0 31
 else if 20 ≤ bs.length then .bad 0 33
 else if bs.any (fun a => decide (a.name = n)) then .bad 0 32
 else if pre [61] (l.drop n.length) = false then .bad n.length 30
 else if pre [34] (l.drop (n.length + 1)) = false then .bad (n.length + 1) 30
 else valueT n (l.drop (n.length + 2))
def attrsF : Nat → List UInt8 → List AttrD → Told (Int × List AttrD)
 | 0, _, _ => .bad 0 30
 | f + 1, l, bs =>
  let b := skipL l
  let r := l.drop b
  if pre [62] r = true then .ok (1, bs) (b + 1)
  else if pre [47, 62] r = true then .ok (3, bs) (b + 2)
  else if b = 0 ∨ r = [] then .bad b 30
  else match attrL r bs with
   | .bad k e => .bad (b + k) e
   | .ok a n => (attrsF f (r.drop n) (bs ++ [a])).past (b + n)
def beginT (l : List UInt8) : Told TokD :=
 let n := wordL l
 if nameL n = false then .bad 0 31
 else match attrsF (l.length + 1) (l.drop n.length) [] with
  | .bad k e => .bad (n.length + k) e
  | .ok q k => .ok ⟨q.1, n, [], sortA q.2⟩ (n.length + k)
def oneT (l : List UInt8) : Told TokD :=
 if pre [60, 47] l = true then (endT (l.drop 2)).past 2
 else if pre [60] l = true then (beginT (l.drop 1)).past 1
 else textT l
def allF : Nat → Nat → List UInt8 → List (Nat × TokD) × Nat × Int
 | 0, _, _ => ([], 0, 0)
 | f + 1, at_, l =>
  if l = [] then ([], 0, 0)
  else match oneT l with
   | .bad k e => ([], at_ + k, e)
   | .ok t n =>
    let r := allF f (at_ + n) (l.drop n)
    if r.2.2 = 0 then ((at_, t) :: r.1, 0, 0) else ([], r.2.1, r.2.2)
/-! ## How far what is told may reach -/
theorem takeWhile_len {α : Type} (p : α → Bool) : ∀ l : List α, (l.takeWhile p).length ≤ l.length
 | [] => by simp
 | a :: l => by
  rw [List.takeWhile_cons]
  split
  ·have := takeWhile_len p l; simp; omega
  ·simp
theorem wordL_len (l : List UInt8) : (wordL l).length ≤ l.length := takeWhile_len _ _
theorem skipL_len (l : List UInt8) : skipL l ≤ l.length := takeWhile_len _ _
theorem undoF_le (v : Bool) : ∀ (f : Nat) (l : List UInt8), (undoF v f l).2.1 ≤ l.length
 | 0, _ => by simp [undoF]
 | f + 1, l => by
  rw [undoF]
  split
  ·simp
  ·cases hs : stepL v l with
   | inl e => simp
   | inr q =>
    obtain ⟨t, n⟩ := q
    have := stepL_pos hs
    have ih := undoF_le v f (l.drop n)
    rw [List.length_drop] at ih
    simp only
    split <;> simp only <;> omega
theorem undoL_le (v : Bool) (l : List UInt8) : (undoL v l).2.1 ≤ l.length := undoF_le v _ l
theorem pre1_len {c : UInt8} {l : List UInt8} {k : Nat} (h : pre [c] (l.drop k) = true) : k + 1 ≤ l.length := by
 have := pre_len h
 rw [List.length_drop] at this
 simp at this; omega
def Told.within {α : Type} (lo hi : Nat) : Told α → Prop
 | .ok _ n => lo ≤ n ∧ n ≤ hi
 | .bad k e => k ≤ hi ∧ e ≠ 0
theorem textT_within (l : List UInt8) (h : l ≠ []) (h60 : pre [60] l = false) : (textT l).within 1 l.length := by
 have h1 := takeWhile_len (· != 60) l
 have h2 := undoL_le false (l.takeWhile (· != 60))
 have h3 : 1 ≤ (l.takeWhile (· != 60)).length := by
  cases l with
  | nil => exact absurd rfl h
  | cons a r =>
   have : (a != 60) = true := by
    simp only [pre, List.length_cons, List.length_nil, List.take_succ_cons, List.take_zero] at h60
    cases h : a == 60 with
    | true => rw [eq_of_beq h] at h60; simp at h60
    | false => simp [bne, h]
   rw [List.takeWhile_cons, if_pos this]; simp
 unfold textT
 simp only
 split
 ·rename_i h; exact ⟨by omega, h⟩
 ·split
  ·exact ⟨by omega, by decide⟩
  ·exact ⟨h3, h1⟩
theorem endT_within (l : List UInt8) : (endT l).within 1 l.length := by
 have h1 := wordL_len l
 have h2 := skipL_len (l.drop (wordL l).length)
 rw [List.length_drop] at h2
 unfold endT
 simp only
 split
 ·exact ⟨by omega, by decide⟩
 ·split
  ·rename_i h; exact ⟨by omega, pre1_len h⟩
  ·exact ⟨by omega, by decide⟩
theorem valueT_within (n l : List UInt8) : (valueT n l).within (n.length + 3) (n.length + 2 + l.length) := by
 have h1 := takeWhile_len (· != 34) l
 have h2 := undoL_le true (l.takeWhile (· != 34))
 unfold valueT
 simp only
 split
 ·exact ⟨by omega, by decide⟩
 ·split
  ·rename_i h; exact ⟨by omega, h⟩
  ·split
   ·exact ⟨by omega, by decide⟩
   ·exact ⟨by omega, by omega⟩
theorem attrL_within (l : List UInt8) (bs : List AttrD) : (attrL l bs).within 3 l.length := by
 have h1 := wordL_len l
 unfold attrL
 simp only
 split
 ·exact ⟨by omega, by decide⟩
 ·split
  ·exact ⟨by omega, by decide⟩
  ·split
   ·exact ⟨by omega, by decide⟩
   ·split
    ·exact ⟨by omega, by decide⟩
    ·rename_i hp
     have hp1 := pre1_len (by simpa using hp)
     split
     ·exact ⟨by omega, by decide⟩
     ·rename_i hp'
      have hp2 := pre1_len (by simpa using hp')
      have := valueT_within (wordL l) (l.drop ((wordL l).length + 2))
      rw [List.length_drop] at this
      cases hv : valueT (wordL l) (l.drop ((wordL l).length + 2)) with
      | ok x n => rw [hv] at this; obtain ⟨a, b⟩ := this; exact ⟨by omega, by omega⟩
      | bad k e => rw [hv] at this; obtain ⟨a, b⟩ := this; exact ⟨by omega, b⟩
theorem attrsF_within : ∀ (f : Nat) (l : List UInt8) (bs : List AttrD), (attrsF f l bs).within 1 l.length
 | 0, l, bs => ⟨Nat.zero_le _, by decide⟩
 | f + 1, l, bs => by
  have h1 := skipL_len l
  rw [attrsF]
  split
  ·rename_i h; exact ⟨by omega, pre1_len h⟩
  ·split
   ·rename_i h
    have := pre_len h
    rw [List.length_drop] at this
    simp at this
    exact ⟨by omega, by omega⟩
   ·split
    ·exact ⟨h1, by decide⟩
    ·have := attrL_within (l.drop (skipL l)) bs
     rw [List.length_drop] at this
     cases ha : attrL (l.drop (skipL l)) bs with
     | bad k e => rw [ha] at this; obtain ⟨a, b⟩ := this; exact ⟨by omega, b⟩
     | ok x n =>
      rw [ha] at this; obtain ⟨a, b⟩ := this
      simp only
      have ih := attrsF_within f ((l.drop (skipL l)).drop n) (bs ++ [x])
      rw [List.length_drop, List.length_drop] at ih
      cases hq : attrsF f ((l.drop (skipL l)).drop n) (bs ++ [x]) with
      | ok y m => rw [hq] at ih; obtain ⟨c, d⟩ := ih; exact ⟨by omega, by omega⟩
      | bad k e => rw [hq] at ih; obtain ⟨c, d⟩ := ih; exact ⟨by omega, d⟩
theorem beginT_within (l : List UInt8) : (beginT l).within 1 l.length := by
 have h1 := wordL_len l
 unfold beginT
 simp only
 split
 ·exact ⟨by omega, by decide⟩
 ·have := attrsF_within (l.length + 1) (l.drop (wordL l).length) []
  rw [List.length_drop] at this
  cases ha : attrsF (l.length + 1) (l.drop (wordL l).length) [] with
  | bad k e => rw [ha] at this; obtain ⟨a, b⟩ := this; exact ⟨by omega, b⟩
  | ok x n => rw [ha] at this; obtain ⟨a, b⟩ := this; exact ⟨by omega, by omega⟩
theorem oneT_within (l : List UInt8) (h : l ≠ []) : (oneT l).within 1 l.length := by
 unfold oneT
 split
 ·rename_i hp
  have hl := pre_len hp
  simp at hl
  have := endT_within (l.drop 2)
  rw [List.length_drop] at this
  cases hq : endT (l.drop 2) with
  | ok y m => rw [hq] at this; obtain ⟨c, d⟩ := this; exact ⟨by omega, by omega⟩
  | bad k e => rw [hq] at this; obtain ⟨c, d⟩ := this; exact ⟨by omega, d⟩
 ·split
  ·rename_i hp
   have hl := pre_len hp
   simp at hl
   have := beginT_within (l.drop 1)
   rw [List.length_drop] at this
   cases hq : beginT (l.drop 1) with
   | ok y m => rw [hq] at this; obtain ⟨c, d⟩ := this; exact ⟨by omega, by omega⟩
   | bad k e => rw [hq] at this; obtain ⟨c, d⟩ := this; exact ⟨by omega, d⟩
  ·rename_i hp
   exact textT_within l h (by simpa using hp)
theorem attrsF_more : ∀ (f : Nat) (l : List UInt8) (bs : List AttrD) (g : Nat), l.length < f → l.length < g → attrsF f l bs = attrsF g l bs
 | 0, _, _, _, h, _ => by omega
 | f + 1, l, bs, 0, _, h => by omega
 | f + 1, l, bs, g + 1, hf, hg => by
  rw [attrsF, attrsF]
  have h1 := skipL_len l
  have := attrL_within (l.drop (skipL l)) bs
  rw [List.length_drop] at this
  cases ha : attrL (l.drop (skipL l)) bs with
  | bad k e => rfl
  | ok x n =>
   rw [ha] at this; obtain ⟨a, b⟩ := this
   simp only
   rw [attrsF_more f ((l.drop (skipL l)).drop n) (bs ++ [x]) g (by simp only [List.length_drop]; omega) (by simp only [List.length_drop]; omega)]
theorem allF_more : ∀ (f : Nat) (at_ : Nat) (l : List UInt8) (g : Nat), l.length < f → l.length < g → allF f at_ l = allF g at_ l
 | 0, _, _, _, h, _ => by omega
 | f + 1, _, l, 0, _, h => by omega
 | f + 1, at_, l, g + 1, hf, hg => by
  rw [allF, allF]
  by_cases hl : l = []
  ·rw [if_pos hl, if_pos hl]
  ·rw [if_neg hl, if_neg hl]
   have := oneT_within l hl
   cases ho : oneT l with
   | bad k e => rfl
   | ok t n =>
    rw [ho] at this; obtain ⟨a, b⟩ := this
    simp only
    rw [allF_more f (at_ + n) (l.drop n) g (by rw [List.length_drop]; omega) (by rw [List.length_drop]; omega)]
def attrsL (l : List UInt8) (bs : List AttrD) : Told (Int × List AttrD) := attrsF (l.length + 1) l bs
def allL (at_ : Nat) (l : List UInt8) : List (Nat × TokD) × Nat × Int := allF (l.length + 1) at_ l
theorem attrsL_step (l : List UInt8) (bs : List AttrD) (b : Nat) (hb : b = skipL l) (h1 : pre [62] (l.drop b) = false) (h2 : pre [47, 62] (l.drop b) = false) (h3 : b ≠ 0) (h4 : l.drop b ≠ []) (a : AttrD) (n : Nat) (ha : attrL (l.drop b) bs = .ok a n) :
  attrsL l bs = (attrsL (l.drop (b + n)) (bs ++ [a])).past (b + n) := by
 subst hb
 unfold attrsL
 have := attrL_within (l.drop (skipL l)) bs
 rw [ha, List.length_drop] at this
 obtain ⟨c, d⟩ := this
 rw [attrsF]
 simp only [h1, h2, ha, Bool.false_eq_true, if_false]
 rw [if_neg (by intro h; rcases h with h | h; exact h3 h; exact h4 h), List.drop_drop]
 have h5 := skipL_len l
 rw [attrsF_more l.length (l.drop (skipL l + n)) _ ((l.drop (skipL l + n)).length + 1) (by rw [List.length_drop]; omega) (by omega)]
theorem attrsL_bad (l : List UInt8) (bs : List AttrD) (b : Nat) (hb : b = skipL l) (h1 : pre [62] (l.drop b) = false) (h2 : pre [47, 62] (l.drop b) = false) (h3 : b ≠ 0) (h4 : l.drop b ≠ []) (k : Nat) (e : Int) (ha : attrL (l.drop b) bs = .bad k e) :
  attrsL l bs = .bad (b + k) e := by
 subst hb
 unfold attrsL
 rw [attrsF]
 simp only [h1, h2, ha, Bool.false_eq_true, if_false]
 rw [if_neg (by intro h; rcases h with h | h; exact h3 h; exact h4 h)]
theorem attrsL_one (l : List UInt8) (bs : List AttrD) (b : Nat) (hb : b = skipL l) (h1 : pre [62] (l.drop b) = true) : attrsL l bs = .ok (1, bs) (b + 1) := by
 subst hb
 unfold attrsL
 rw [attrsF]
 simp only [h1, if_true]
theorem attrsL_two (l : List UInt8) (bs : List AttrD) (b : Nat) (hb : b = skipL l) (h1 : pre [62] (l.drop b) = false) (h2 : pre [47, 62] (l.drop b) = true) : attrsL l bs = .ok (3, bs) (b + 2) := by
 subst hb
 unfold attrsL
 rw [attrsF]
 simp only [h1, h2, if_true, Bool.false_eq_true, if_false]
theorem attrsL_form (l : List UInt8) (bs : List AttrD) (b : Nat) (hb : b = skipL l) (h1 : pre [62] (l.drop b) = false) (h2 : pre [47, 62] (l.drop b) = false) (h : b = 0 ∨ l.drop b = []) : attrsL l bs = .bad b 30 := by
 subst hb
 unfold attrsL
 rw [attrsF]
 simp only [h1, h2, Bool.false_eq_true, if_false]
 rw [if_pos h]
theorem allL_nil (at_ : Nat) : allL at_ [] = ([], 0, 0) := by simp [allL, allF]
theorem allL_bad (at_ : Nat) (l : List UInt8) (h : l ≠ []) (k : Nat) (e : Int) (ho : oneT l = .bad k e) : allL at_ l = ([], at_ + k, e) := by
 unfold allL
 rw [allF, if_neg h, ho]
theorem allL_step (at_ : Nat) (l : List UInt8) (h : l ≠ []) (t : TokD) (n : Nat) (ho : oneT l = .ok t n) :
  allL at_ l = if (allL (at_ + n) (l.drop n)).2.2 = 0 then ((at_, t) :: (allL (at_ + n) (l.drop n)).1, 0, 0) else ([], (allL (at_ + n) (l.drop n)).2.1, (allL (at_ + n) (l.drop n)).2.2) := by
 unfold allL
 have := oneT_within l h
 rw [ho] at this
 obtain ⟨c, d⟩ := this
 rw [allF, if_neg h, ho]
 simp only
 rw [allF_more l.length (at_ + n) (l.drop n) ((l.drop n).length + 1) (by rw [List.length_drop]; omega) (by omega)]
def joinT (acc : List (Nat × TokD)) (r : List (Nat × TokD) × Nat × Int) : List (Nat × TokD) × Nat × Int :=
 if r.2.2 = 0 then (acc ++ r.1, 0, 0) else ([], r.2.1, r.2.2)
theorem joinT_bad (acc : List (Nat × TokD)) (k : Nat) (e : Int) (h : e ≠ 0) : joinT acc ([], k, e) = ([], k, e) := by simp [joinT, h]
theorem joinT_nil (acc : List (Nat × TokD)) : joinT acc ([], 0, 0) = (acc, 0, 0) := by simp [joinT]
theorem joinT_step (acc : List (Nat × TokD)) (at_ : Nat) (l : List UInt8) (h : l ≠ []) (t : TokD) (n : Nat) (ho : oneT l = .ok t n) :
  joinT acc (allL at_ l) = joinT (acc ++ [(at_, t)]) (allL (at_ + n) (l.drop n)) := by
 rw [allL_step at_ l h t n ho]
 unfold joinT
 by_cases h0 : (allL (at_ + n) (l.drop n)).2.2 = 0
 ·simp [h0]
 ·simp [h0]
theorem joinT_one_bad (acc : List (Nat × TokD)) (at_ : Nat) (l : List UInt8) (h : l ≠ []) (k : Nat) (e : Int) (ho : oneT l = .bad k e) : joinT acc (allL at_ l) = ([], at_ + k, e) := by
 have := oneT_within l h
 rw [ho] at this
 rw [allL_bad at_ l h k e ho, joinT_bad _ _ _ this.2]
end
end Go.Proofs.Ythifddkmbjnncaa
