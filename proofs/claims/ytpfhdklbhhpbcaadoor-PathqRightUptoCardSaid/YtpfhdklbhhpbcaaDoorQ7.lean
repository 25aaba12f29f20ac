/-
  Texts of this claim, joined (by a program of the claim's author): PathShort, PqA, REsc, Count, PqB, PqC, ShelfT.
-/
import Derived.Test.YtpfhdklbhhpbcaaDoorQ6
import Derived.Test.YtpfhdklbhhpbcaaDoorQ1
import Derived.Test.YtpfhdklbhhpbcaaDoorQ2
import Derived.Laws.StructEq
import Derived.Shelf.Strconv.Itoa3
import Derived.Test.YtpfhdklbhhpbcaaDoorProg
/-
  The plain law: what is written shortly is what it is short for. No program in sight.
-/
namespace Go.Proofs.YtpfhdklbhhpbcaaDoor

/-- a text that may stand for itself behind an axis -/
structure Good (n : List UInt8) : Prop where
  dot : pre [46] n = false
  slash : pre [47] n = false
  axis : axisN n = 0
theorem pre_two {a b : UInt8} {l : List UInt8} (h : pre [a] l = false) : pre [a, b] l = false := by
  cases hp : pre [a, b] l with
  | false => rfl
  | true => rw [pre_first hp] at h; cases h
theorem qstep_good {n : List UInt8} (h : Good n) : qstep (axisT 1 ++ n) = (qstep n).past 7 := by
  obtain ⟨h1, _, h3⟩ := h
  unfold qstep
  rw [h1, pre_two h1, show pre [46, 46] (axisT 1 ++ n) = false from rfl, show pre [46] (axisT 1 ++ n) = false from rfl, if_neg (by decide), if_neg (by decide), if_neg (by decide), if_neg (by decide)]
  simp only
  rw [h3, show axisN (axisT 1 ++ n) = 1 from rfl, show (axisT 1 ++ n).drop (axisT 1).length = n from rfl, show n.drop (axisT 0).length = n from rfl]
  cases ht : qtest n with
  | bad j e => simp [Told.past, axisT]
  | ok t m =>
    simp only
    have e1 : (axisT 1 ++ n).drop ((axisT 1).length + m) = n.drop m := by rw [← List.drop_drop, List.drop_left]
    have e2 : n.drop ((axisT 0).length + m) = n.drop m := by simp [axisT]
    rw [e1, e2]
    cases hq : qpreds (n.drop m) [] with
    | bad j e => simp [Told.past, axisT]; omega
    | ok ps k => simp [Told.past, axisT]; omega
theorem qone_one {m : List UInt8} (h : pre [47] m = false) (ls : List StepD) : qone (47 :: m) ls = if 20 ≤ ls.length then .bad 0 70 else match qstep m with
      | .bad j e => .bad (1 + j) e
      | .ok s k => .ok (ls ++ [s]) (1 + k) := by
  unfold qone
  rw [if_neg (by rw [show pre [47] (47 :: m) = true from pre_same [47] _]; decide)]
  simp only
  rw [show (47 :: m).drop 1 = m from rfl, h]
  simp only [Bool.false_eq_true, false_and, if_false]
  rw [show (47 :: m).drop 1 = m from rfl]
  cases qstep m <;> rfl
theorem qone_two (m : List UInt8) (ls : List StepD) : qone (47 :: 47 :: m) ls = if 20 ≤ ls.length then .bad 0 70 else if 20 ≤ ls.length + 1 then .bad 0 70 else match qstep m with
      | .bad j e => .bad (2 + j) e
      | .ok s k => .ok (ls ++ [⟨3, 4, [], []⟩] ++ [s]) (2 + k) := by
  unfold qone
  rw [if_neg (by rw [show pre [47] (47 :: 47 :: m) = true from pre_same [47] _]; decide)]
  simp only
  rw [show (47 :: 47 :: m).drop 1 = 47 :: m from rfl, show pre [47] (47 :: m) = true from pre_same [47] _]
  simp only [true_and, if_true, List.length_append, List.length_singleton]
  rw [show (47 :: 47 :: m).drop 2 = m from rfl]
  cases qstep m <;> rfl
theorem qone_good {n : List UInt8} (h : Good n) (ls : List StepD) : qone (47 :: (axisT 1 ++ n)) ls = (qone (47 :: n) ls).past 7 ∨ ((∃ e, qone (47 :: (axisT 1 ++ n)) ls = .bad 0 e) ∧ ∃ e, qone (47 :: n) ls = .bad 0 e) := by
  rw [qone_one h.slash, qone_one (show pre [47] (axisT 1 ++ n) = false from rfl)]
  by_cases h20 : 20 ≤ ls.length
  · rw [if_pos h20, if_pos h20]; exact .inr ⟨⟨_, rfl⟩, _, rfl⟩
  · rw [if_neg h20, if_neg h20, qstep_good h]
    refine .inl ?_
    cases qstep n with
    | bad j e => simp [Told.past]; omega
    | ok s m => simp [Told.past]; omega
/-- .. two answers that are alike but for the place -/
def likeT (x y : Told (List StepD)) : Prop := (∃ ls n m, x = .ok ls n ∧ y = .ok ls m) ∨ ((∃ k e, x = .bad k e) ∧ ∃ k e, y = .bad k e)
theorem likeT.past_l {x y : Told (List StepD)} (h : likeT x y) (k : Nat) : likeT (x.past k) y := by
  rcases h with ⟨ls, n, m, h1, h2⟩ | ⟨⟨a, e, h1⟩, h2⟩
  · exact .inl ⟨ls, k + n, m, by rw [h1]; rfl, h2⟩
  · exact .inr ⟨⟨k + a, e, by rw [h1]; rfl⟩, h2⟩
theorem likeT.past_r {x y : Told (List StepD)} (h : likeT x y) (k : Nat) : likeT x (y.past k) := by
  rcases h with ⟨ls, n, m, h1, h2⟩ | ⟨h1, a, e, h2⟩
  · exact .inl ⟨ls, n, k + m, h1, by rw [h2]; rfl⟩
  · exact .inr ⟨h1, k + a, e, by rw [h2]; rfl⟩
theorem likeT.self (x : Told (List StepD)) : likeT x x := by
  cases x with
  | ok ls n => exact .inl ⟨ls, n, n, rfl, rfl⟩
  | bad k e => exact .inr ⟨⟨k, e, rfl⟩, k, e, rfl⟩
theorem short_good {n : List UInt8} (h : Good n) (ls : List StepD) : likeT (qall (47 :: (axisT 1 ++ n)) ls) (qall (47 :: n) ls) := by
  rcases qone_good h ls with h1 | ⟨⟨e, h1⟩, e', h2⟩
  · cases hq : qone (47 :: n) ls with
    | bad k e =>
      rw [hq] at h1
      rw [qall_bad hq, qall_bad h1]
      exact .inr ⟨⟨_, _, rfl⟩, _, _, rfl⟩
    | ok ms m =>
      rw [hq] at h1
      have hw := qone_within (47 :: n) ls
      rw [hq] at hw
      obtain ⟨m', rfl⟩ : ∃ m', m = m' + 1 := ⟨m - 1, by have := hw.1; omega⟩
      have h1' : qone (47 :: (axisT 1 ++ n)) ls = .ok ms (7 + (m' + 1)) := h1
      have d1 : (47 :: (axisT 1 ++ n)).drop (7 + (m' + 1)) = n.drop m' := by
        rw [show 7 + (m' + 1) = (7 + m') + 1 by omega, List.drop_succ_cons, ← List.drop_drop]; rfl
      have d2 : (47 :: n).drop (m' + 1) = n.drop m' := rfl
      by_cases hd : n.drop m' = []
      · rw [qall_end hq (by rw [d2]; exact hd), qall_end h1' (by rw [d1]; exact hd)]
        exact .inl ⟨_, _, _, rfl, rfl⟩
      · rw [qall_step hq (by rw [d2]; exact hd), qall_step h1' (by rw [d1]; exact hd), d1, d2]
        exact ((likeT.self _).past_l _).past_r _
  · rw [qall_bad h1, qall_bad h2]
    exact .inr ⟨⟨_, _, rfl⟩, _, _, rfl⟩

theorem name_head {s : List UInt8} {b : UInt8} {t : List UInt8} (h : s = b :: t) (hb : b = 46 ∨ b = 47) : nameL s = false := by
  cases hn : nameL s with
  | false => rfl
  | true =>
    obtain ⟨c, u, e, _, h46, h47, _⟩ := name_first hn
    rw [h] at e
    injection e with e _
    subst e
    rcases hb with hb | hb
    · exact absurd hb h46
    · exact absurd hb h47
theorem nameL_none : nameL [] = false := by unfold nameL; rw [charsL_nil]
theorem qtest_dot {n : List UInt8} (h : pre [46] n = true ∨ pre [47] n = true) : ∃ k e, qtest n = .bad k e := by
  obtain ⟨b, t, rfl, hb⟩ : ∃ b t, n = b :: t ∧ (b = 46 ∨ b = 47) := by
    rcases h with h | h
    · obtain ⟨t, rfl⟩ := pre_cons h; exact ⟨_, _, rfl, .inl rfl⟩
    · obtain ⟨t, rfl⟩ := pre_cons h; exact ⟨_, _, rfl, .inr rfl⟩
  have hq : qname (b :: t) = .bad 0 70 := by
    unfold qname
    have : nameL ((b :: t).take (partN (b :: t))) = false := by
      cases hp : partN (b :: t) with
      | zero => exact nameL_none
      | succ k => exact name_head (b := b) (t := t.take k) rfl hb
    rw [this, if_pos rfl]
  have hne : ∀ (c : UInt8) (p : List UInt8), c ≠ 46 → c ≠ 47 → pre (c :: p) (b :: t) = false := fun c p h1 h2 => by
    cases hp : pre (c :: p) (b :: t) with
    | false => rfl
    | true =>
      simp only [pre, List.length_cons, List.take_succ_cons, beq_iff_eq, List.cons.injEq] at hp
      rcases hb with rfl | rfl
      · exact absurd hp.1.symm h1
      · exact absurd hp.1.symm h2
  unfold qtest
  rw [hne 42 [] (by decide) (by decide), show pre tText (b :: t) = false from hne 116 _ (by decide) (by decide), show pre tNode (b :: t) = false from hne 110 _ (by decide) (by decide), hq]
  exact ⟨_, _, rfl⟩

/-- an axis' word -/
def wordA (k : Nat) : List UInt8 := (axisT k).take ((axisT k).length - 2)
theorem axis_word (k : Nat) (h1 : 1 ≤ k) (h8 : k < 9) : axisT k = wordA k ++ [58, 58] ∧ nameL (wordA k) = true := by
  have : k = 1 ∨ k = 2 ∨ k = 3 ∨ k = 4 ∨ k = 5 ∨ k = 6 ∨ k = 7 ∨ k = 8 := by omega
  rcases this with rfl | rfl | rfl | rfl | rfl | rfl | rfl | rfl <;> exact ⟨rfl, by decide +kernel⟩
theorem axis_test (k : Nat) (h1 : 1 ≤ k) (h8 : k < 9) (t : List UInt8) : pre [42] (axisT k ++ t) = false ∧ pre tText (axisT k ++ t) = false ∧ pre tNode (axisT k ++ t) = false := by
  have : k = 1 ∨ k = 2 ∨ k = 3 ∨ k = 4 ∨ k = 5 ∨ k = 6 ∨ k = 7 ∨ k = 8 := by omega
  rcases this with rfl | rfl | rfl | rfl | rfl | rfl | rfl | rfl <;> exact ⟨rfl, rfl, rfl⟩
theorem pre_split {p l : List UInt8} (h : pre p l = true) : ∃ t, l = p ++ t := by
  simp only [pre, beq_iff_eq] at h
  exact ⟨l.drop p.length, by conv => lhs; rw [← List.take_append_drop p.length l, h]⟩
theorem qtest_axis {n : List UInt8} (h : axisN n ≠ 0) : ∃ (s t : List UInt8), qtest n = .ok (1, s) s.length ∧ n.drop s.length = 58 :: t := by
  rcases axisF_pre 8 1 n with h0 | ⟨h0, h1, h2⟩
  · exact absurd h0 h
  have hk : axisF 8 1 n = axisN n := rfl
  rw [hk] at h0 h1 h2
  obtain ⟨k, hkk⟩ : ∃ k, axisN n = k := ⟨_, rfl⟩
  rw [hkk] at h0 h1 h2
  obtain ⟨t, rfl⟩ := pre_split h0
  obtain ⟨e, hn⟩ := axis_word k h1 (by omega)
  obtain ⟨a1, a2, a3⟩ := axis_test k h1 (by omega) t
  refine ⟨wordA k, 58 :: t, ?_, ?_⟩
  · unfold qtest
    rw [a1, a2, a3]
    have hst : stopQ (58 :: 58 :: t) := by
      intro x u e
      injection e with e _
      subst e
      exact ⟨by decide, by decide, by decide⟩
    have hq := qname_back (r := 58 :: 58 :: t) hn hst
    have e2 : axisT k ++ t = wordA k ++ 58 :: 58 :: t := by rw [e]; simp
    rw [e2, hq]; rfl
  · have e2 : axisT k ++ t = wordA k ++ 58 :: 58 :: t := by rw [e]; simp
    rw [e2, List.drop_left]
theorem short_bad {n : List UInt8} (h : ¬ Good n) (ls : List StepD) : ∃ k e, qall (47 :: (axisT 1 ++ n)) ls = .bad k e := by
  have hone := qone_one (show pre [47] (axisT 1 ++ n) = false from rfl) ls
  by_cases h20 : 20 ≤ ls.length
  · rw [if_pos h20] at hone
    exact ⟨_, _, qall_bad hone⟩
  rw [if_neg h20] at hone
  have hstep : qstep (axisT 1 ++ n) = match qtest n with
      | .bad j e => .bad (7 + j) e
      | .ok t m => match qpreds (n.drop m) [] with
        | .bad j e => .bad (7 + m + j) e
        | .ok ps k => .ok ⟨1, t.1, t.2, ps⟩ (7 + m + k) := by
    unfold qstep
    rw [show pre [46, 46] (axisT 1 ++ n) = false from rfl, show pre [46] (axisT 1 ++ n) = false from rfl, if_neg (by decide), if_neg (by decide)]
    simp only
    rw [show axisN (axisT 1 ++ n) = 1 from rfl, show (axisT 1 ++ n).drop (axisT 1).length = n from rfl]
    cases qtest n with
    | bad j e => rfl
    | ok t m =>
      simp only
      rw [show (axisT 1 ++ n).drop ((axisT 1).length + m) = n.drop m by rw [← List.drop_drop, List.drop_left]]
      rfl
  by_cases hd : pre [46] n = true ∨ pre [47] n = true
  · obtain ⟨k, e, ht⟩ := qtest_dot hd
    rw [hstep, ht] at hone
    exact ⟨_, _, qall_bad hone⟩
  · have hx : axisN n ≠ 0 := fun e => h ⟨by cases hh : pre [46] n with | false => rfl | true => exact absurd (.inl hh) hd, by cases hh : pre [47] n with | false => rfl | true => exact absurd (.inr hh) hd, e⟩
    obtain ⟨s, t, ht, hdr⟩ := qtest_axis hx
    rw [hstep, ht] at hone
    simp only at hone
    rw [hdr, qpreds_none (show pre [91] (58 :: t) = false from rfl)] at hone
    simp only at hone
    have d : (47 :: (axisT 1 ++ n)).drop (1 + (7 + s.length + 0)) = 58 :: t := by
      rw [show 1 + (7 + s.length + 0) = (7 + s.length) + 1 by omega, List.drop_succ_cons, ← List.drop_drop, ← hdr]; rfl
    rw [qall_step hone (by rw [d]; simp), d]
    have : qone (58 :: t) (ls ++ [⟨1, 1, s, []⟩]) = .bad 0 70 := by unfold qone; rw [if_pos (show pre [47] (58 :: t) = false from rfl)]
    rw [qall_bad this]
    exact ⟨_, _, rfl⟩

/-- two colons side by side stand in a text -/
def colB : List UInt8 → Bool
  | a :: b :: r => (a == 58 && b == 58) || colB (b :: r)
  | _ => false
theorem colB_app : ∀ (s t : List UInt8), colB (s ++ 58 :: 58 :: t) = true
  | [], t => by simp [colB]
  | [a], t => by simp [colB]
  | a :: b :: s, t => by
    show (_ || colB (b :: s ++ 58 :: 58 :: t)) = true
    rw [colB_app (b :: s) t]; simp
theorem good_of {n : List UInt8} (h1 : pre [46] n = false) (h2 : pre [47] n = false) (h3 : colB n = false) : Good n := by
  refine ⟨h1, h2, ?_⟩
  rcases axisF_pre 8 1 n with h0 | ⟨h0, h4, h5⟩
  · exact h0
  exfalso
  obtain ⟨t, ht⟩ := pre_split h0
  obtain ⟨e, _⟩ := axis_word _ h4 (by omega)
  rw [ht, e] at h3
  have := colB_app (wordA (axisF 8 1 n)) t
  rw [show wordA (axisF 8 1 n) ++ [58, 58] ++ t = wordA (axisF 8 1 n) ++ 58 :: 58 :: t by simp] at h3
  rw [this] at h3; cases h3

theorem query_ok {l : List UInt8} (h : (queryL l).2.2 = 0) : l.length ≤ 200 ∧ ∃ n, qall l [] = .ok (queryL l).1 n := by
  unfold queryL at h ⊢
  split at h
  · cases h
  rename_i hl
  rw [if_neg hl]
  refine ⟨by omega, ?_⟩
  cases hq : qall l [] with
  | bad k e =>
    rw [hq] at h
    have hw := qallF_within (l.length + 1) l []
    have : qallF (l.length + 1) l [] = .bad k e := hq
    rw [this] at hw
    exact absurd h hw.2
  | ok ls n => exact ⟨n, rfl⟩
theorem query_of {l : List UInt8} (hl : l.length ≤ 200) {ls : List StepD} {n : Nat} (h : qall l [] = .ok ls n) : queryL l = (ls, 0, 0) := by
  unfold queryL; rw [if_neg (by omega), h]
/-- of a short form and what it is short for -/
def shortP (n x y : List UInt8) : Prop :=
  ((queryL x).2.2 = 0 → (queryL y).2.2 = 0 → (queryL x).1 = (queryL y).1) ∧
  (y.length ≤ 200 → pre [46] n = false → pre [47] n = false → colB n = false → ((queryL x).2.2 = 0 ↔ (queryL y).2.2 = 0))
theorem short_of {n x y : List UInt8} (hlen : x.length ≤ y.length) (hgood : Good n → likeT (qall y []) (qall x [])) (hbad : ¬ Good n → ∃ k e, qall y [] = .bad k e) : shortP n x y := by
  refine ⟨fun hx hy => ?_, fun hl h1 h2 h3 => ?_⟩
  · obtain ⟨lx, nx, ex⟩ := query_ok hx
    obtain ⟨ly, ny, ey⟩ := query_ok hy
    by_cases hg : Good n
    · rcases hgood hg with ⟨ls, a, b, e1, e2⟩ | ⟨⟨a, b, e1⟩, _⟩
      · rw [ey] at e1
        rw [ex] at e2
        injection e1 with e1 _
        injection e2 with e2 _
        rw [e1, e2]
      · rw [ey] at e1; cases e1
    · obtain ⟨k, e, h⟩ := hbad hg
      rw [ey] at h; cases h
  · have hg := good_of h1 h2 h3
    have hw : ∀ l : List UInt8, ∀ k e, qall l [] = .bad k e → e ≠ 0 := fun l k e h => by
      have hw := qallF_within (l.length + 1) l []
      have : qallF (l.length + 1) l [] = .bad k e := h
      rw [this] at hw
      exact hw.2
    rcases hgood hg with ⟨ls, a, b, e1, e2⟩ | ⟨⟨a, b, e1⟩, c, d, e2⟩
    · rw [query_of hl e1, query_of (by omega) e2]
    · unfold queryL
      rw [if_neg (by omega), if_neg (by omega), e1, e2]
      exact ⟨fun h => absurd h (hw _ _ _ e2), fun h => absurd h (hw _ _ _ e1)⟩
theorem short_one (n : List UInt8) : shortP n (47 :: n) (47 :: (axisT 1 ++ n)) := short_of (by simp) (fun h => short_good h []) (fun h => short_bad h [])
def longA : List UInt8 := [47] ++ axisT 3 ++ tNode
theorem qone_longA : qone longA [] = .ok [⟨3, 4, [], []⟩] 27 := by decide +kernel
theorem longA_all (u : List UInt8) : qall (longA ++ 47 :: u) [] = (qall (47 :: u) [⟨3, 4, [], []⟩]).past 27 := by
  have h := qone_slash (u := u) qone_longA
  have hd : (longA ++ 47 :: u).drop 27 = 47 :: u := rfl
  rw [qall_step h (by rw [hd]; simp), hd]
theorem two_all {n : List UInt8} (h : pre [47] n = false) : likeT (qall (47 :: n) [⟨3, 4, [], []⟩]) (qall (47 :: 47 :: n) []) := by
  have hq : (∃ ms m, qone (47 :: n) [⟨3, 4, [], []⟩] = .ok ms (1 + m) ∧ qone (47 :: 47 :: n) [] = .ok ms (2 + m)) ∨ ((∃ k e, qone (47 :: n) [⟨3, 4, [], []⟩] = .bad k e) ∧ ∃ k e, qone (47 :: 47 :: n) [] = .bad k e) := by
    rw [qone_one h, qone_two, if_neg (by decide), if_neg (by decide), if_neg (by decide)]
    cases qstep n with
    | bad j e => exact .inr ⟨⟨_, _, rfl⟩, _, _, rfl⟩
    | ok s m => exact .inl ⟨_, m, rfl, rfl⟩
  rcases hq with ⟨ms, m, h1, h2⟩ | ⟨⟨k, e, h1⟩, k', e', h2⟩
  · have d1 : (47 :: n).drop (1 + m) = n.drop m := by rw [Nat.add_comm, List.drop_succ_cons]
    have d2 : (47 :: 47 :: n).drop (2 + m) = n.drop m := by rw [show 2 + m = m + 1 + 1 by omega, List.drop_succ_cons, List.drop_succ_cons]
    by_cases hd : n.drop m = []
    · rw [qall_end h1 (by rw [d1]; exact hd), qall_end h2 (by rw [d2]; exact hd)]
      exact .inl ⟨_, _, _, rfl, rfl⟩
    · rw [qall_step h1 (by rw [d1]; exact hd), qall_step h2 (by rw [d2]; exact hd), d1, d2]
      exact ((likeT.self _).past_l _).past_r _
  · rw [qall_bad h1, qall_bad h2]
    exact .inr ⟨⟨_, _, rfl⟩, _, _, rfl⟩
theorem likeT.trans {x y z : Told (List StepD)} (h : likeT x y) (h' : likeT y z) : likeT x z := by
  rcases h with ⟨ls, n, m, h1, h2⟩ | ⟨h1, k, e, h2⟩
  · rcases h' with ⟨ms, a, b, h3, h4⟩ | ⟨⟨k, e, h3⟩, _⟩
    · rw [h2] at h3; injection h3 with h3 _; subst h3; exact .inl ⟨_, _, _, h1, h4⟩
    · rw [h2] at h3; cases h3
  · rcases h' with ⟨ms, a, b, h3, _⟩ | ⟨_, h4⟩
    · rw [h2] at h3; cases h3
    · exact .inr ⟨h1, h4⟩
theorem short_two (n : List UInt8) : shortP n (47 :: 47 :: n) (longA ++ 47 :: (axisT 1 ++ n)) := by
  refine short_of (by simp only [List.length_append, List.length_cons]; have h1 : longA.length = 27 := rfl; have h2 : (axisT 1).length = 7 := rfl; omega) (fun h => ?_) (fun h => ?_)
  · rw [longA_all]
    exact ((short_good h _).trans (two_all h.slash)).past_l _
  · obtain ⟨k, e, hk⟩ := short_bad h [⟨3, 4, [], []⟩]
    rw [longA_all, hk]; exact ⟨_, _, rfl⟩
theorem short_self (n : List UInt8) : shortP n [47, 46] ([47] ++ axisT 8 ++ tNode) := by
  have h1 : queryL [47, 46] = ([⟨8, 4, [], []⟩], 0, 0) := by decide +kernel
  have h2 : queryL ([47] ++ axisT 8 ++ tNode) = ([⟨8, 4, [], []⟩], 0, 0) := by decide +kernel
  refine ⟨fun _ _ => by rw [h1, h2], fun _ _ _ _ => by rw [h1, h2]⟩
theorem short_up (n : List UInt8) : shortP n [47, 46, 46] ([47] ++ axisT 4 ++ tNode) := by
  have h1 : queryL [47, 46, 46] = ([⟨4, 4, [], []⟩], 0, 0) := by decide +kernel
  have h2 : queryL ([47] ++ axisT 4 ++ tNode) = ([⟨4, 4, [], []⟩], 0, 0) := by decide +kernel
  refine ⟨fun _ _ => by rw [h1, h2], fun _ _ _ _ => by rw [h1, h2]⟩
end Go.Proofs.YtpfhdklbhhpbcaaDoor

/-
  The walks of all and of pathq.Parse.
-/
namespace Go.Proofs.YtpfhdklbhhpbcaaDoor
open Go.RowKit

def oneTold (k : Nat) (ls : List StepD) : Told StepD → Told (List StepD)
  | .bad j e => .bad (k + j) e
  | .ok s n => .ok (ls ++ [s]) (k + n)
theorem qone_no {l : List UInt8} (h : pre [47] l = false) (ls : List StepD) : qone l ls = .bad 0 70 := by unfold qone; rw [if_pos h]
theorem qone_one' {l : List UInt8} (h : pre [47] l = true) (h2 : pre [47] (l.drop 1) = false) (ls : List StepD) : qone l ls = if 20 ≤ ls.length then .bad 0 70 else oneTold 1 ls (qstep (l.drop 1)) := by
  obtain ⟨m, rfl⟩ := pre_cons h
  rw [qone_one (m := m) h2]
  show (if 20 ≤ ls.length then _ else _) = (if 20 ≤ ls.length then _ else oneTold 1 ls (qstep m))
  cases qstep m <;> rfl
theorem qone_two' {l : List UInt8} (h : pre [47] l = true) (h2 : pre [47] (l.drop 1) = true) (ls : List StepD) : qone l ls = if 20 ≤ ls.length then .bad 0 70 else if 20 ≤ ls.length + 1 then .bad 0 70 else oneTold 2 (ls ++ [⟨3, 4, [], []⟩]) (qstep (l.drop 2)) := by
  obtain ⟨m, rfl⟩ := pre_cons h
  obtain ⟨m, rfl⟩ := pre_cons (l := m) h2
  rw [qone_two]
  show (if 20 ≤ ls.length then _ else if 20 ≤ ls.length + 1 then _ else _) = (if 20 ≤ ls.length then _ else if 20 ≤ ls.length + 1 then _ else oneTold 2 _ (qstep m))
  cases qstep m <;> rfl

/-- the reader with its row -/
structure RowAt (w0 : World) (B b : Nat) (s : ByteArray) (p : Nat) (S : List QSlot) (w : World) (A : Option Addr) (c : Nat) (bd cd : Int) : Prop where
  q : QAt w b ⟨s, p, A, S.length, c, bd, cd⟩
  s : StepsOwn w B A c S
  p : SPreds w B S
  below : Below B w0 w
theorem RowAt.called {w0 w w' : World} {B b : Nat} {s : ByteArray} {p p' : Nat} {S : List QSlot} {A : Option Addr} {c : Nat} {bd cd : Int} (h : RowAt w0 B b s p S w A c bd cd) (hB : B ≤ b) (hBw : B ≤ w0.heap.size) (h2 : QAt w' b ⟨s, p', A, S.length, c, bd, cd⟩) (hg : w.grownBy w' (some b)) : RowAt w0 B b s p' S w' A c bd cd :=
  ⟨h2, h.s.grown h.q hg, h.p.grown h.q hg, h.below.trans (below_of_grown hg hB (Nat.le_trans hBw h.below.size))⟩

/-- what all leaves -/
def AllDone (w : World) (B b : Nat) (s : ByteArray) (V : Told (List StepD)) (e : Ending) (w' : World) : Prop :=
  Below B w w' ∧ match V with
  | .ok ls _ => e = .returned (.bool true) ∧ ∃ p S A c bd cd, QAt w' b ⟨s, p, A, S.length, c, bd, cd⟩ ∧ StepsOwn w' B A c S ∧ SPreds w' B S ∧ S.map (·.1) = ls
  | .bad k c => e = .returned (.bool false) ∧ ∃ r : QRdr, QAt w' b r ∧ r.bad = ((k : Nat) : Int) ∧ r.code = c


set_option maxRecDepth 100000 in
set_option maxHeartbeats 16000000 in
theorem all_any (b B : Nat) (s : ByteArray) (w : World) (h : QAt w b ⟨s, 0, none, 0, 0, 0, 0⟩) (hB : B ≤ b) (hBw : B ≤ w.heap.size) (hs : s.size ≤ 1000000000) (V : Told (List StepD)) (hV : Hid (qall s.data.toList [] = V)) :
    Calls Tryd.prog 26 #[.pointer (some ⟨b, 0, none⟩)] w (AllDone w B b s V) := by
  have HL := Lib.hid (size_toList s)
  have HR0 : Hid (RowAt w B b s 0 [] w none 0 0 0) := ⟨h, World.ownsRow_nil _ _ _ _, (fun _ h => by cases h), Below.refl _ _⟩
  clear h
  go_enter Tryd.func26, Tryd.ntmps26
  go_wp2_with fail
  go_step3
  go_wp2_with fail
  go_step3
  go_wp2_with fail
  go_loopg [] s.size (fun gm wr => ∃ (p : Nat) (S : List QSlot) (ls : List StepD) (A : Option Addr) (c : Nat) (bd cd : Int), p ≤ s.size ∧ gm = s.size - p ∧ Hid (RowAt w B b s p S wr A c bd cd) ∧ Hid (S.map (·.1) = ls) ∧ Hid ((qall (s.data.toList.drop p) ls).past p = V))
  case atStart => exact ⟨0, [], [], none, 0, 0, 0, Nat.zero_le _, rfl, HR0.out, rfl, by show _ = _; rw [List.drop_zero, Told.past_zero]; exact hV.out⟩
  case round =>
    obtain ⟨p, S, ls, A, c, bd, cd, hps, rfl, HR, hls, hin⟩ := hrel
    obtain ⟨_, z1, _⟩ := HR.out.q.all
    cases hm : pre [47] (s.data.toList.drop p) with
    | false =>
      have HM : Hid (pre [47] (s.data.toList.drop p) = false) := hm
      have HV : Hid (V = .bad p 70) := by
        show _ = _
        rw [← hin.out, qall_bad (qone_no hm ls)]; rfl
      clear hm
      go_wp2_with fail
      refine (must_any b _ wr HR.out.q [47] hps hs false HM (by decide)).mono ?_
      rintro e2 w2 ⟨rfl, h2, hg2⟩
      have hb2 := HR.out.below.trans (below_of_grown hg2 hB (Nat.le_trans hBw HR.out.below.size))
      clear z1
      go_wp2_with fail
      try rw [Exit.noGoto_ret]
      go_ret
      rw [HV.out]
      exact ⟨hb2, rfl, _, h2, rfl, rfl⟩
    | true =>
      have HM : Hid (pre [47] (s.data.toList.drop p) = true) := hm
      have hp1 := pre1_len hm
      rw [HL.out] at hp1
      clear hm
      go_wp2_with fail
      refine (must_any b _ wr HR.out.q [47] hps hs true HM (by decide)).mono ?_
      rintro e2 w2 ⟨rfl, h2, hg2⟩
      have HR2 : Hid (RowAt w B b s (p + 1) S w2 A c bd cd) := HR.out.called hB hBw h2 hg2
      clear h2 z1
      go_wp2_with fail
      cases hm : pre [47] (s.data.toList.drop (p + 1)) with
      | false =>
        have HM2 : Hid (pre [47] (s.data.toList.drop (p + 1)) = false) := hm
        have HO0 := qone_one' HM.out (by rw [List.drop_drop]; exact hm) ls
        rw [List.drop_drop] at HO0
        obtain ⟨S1, hS1⟩ : ∃ S1, Hid (S = S1) := ⟨_, rfl⟩
        obtain ⟨P1, hP1e⟩ : ∃ P1, Hid (p + 1 = P1) := ⟨_, rfl⟩
        rw [← hls.out, hS1.out, hP1e.out] at HO0
        have HO2 : qone (s.data.toList.drop p) ls = if 20 ≤ (S1.map (·.1)).length then .bad 0 70 else oneTold (P1 - p) (S1.map (·.1)) (qstep (s.data.toList.drop P1)) := by
          rw [← hls.out, hS1.out, HO0, show P1 - p = 1 by have := hP1e.out; omega]
        have HOn := Lib.hid HO2
        have hP1 : P1 ≤ s.size := by have := hP1e.out; omega
        have hpP : p < P1 := by have := hP1e.out; omega
        clear hm HO0 HO2
        refine (is_any b _ w2 HR2.out.q [47] hp1 hs false HM2 (by decide)).mono ?_
        rintro e3 w3 ⟨rfl, h3, hg3⟩
        have HR1 : Hid (RowAt w B b s P1 S1 w3 A c bd cd) := by
          show RowAt _ _ _ _ _ _ _ _ _ _ _
          rw [← hP1e.out, ← hS1.out]
          exact HR2.out.called hB hBw h3 hg3
        clear h3
        obtain ⟨_, _, z2, _⟩ := HR1.out.q.all
        go_wp2_with fail
        refine (add_any b B _ _ HR1.out.q hB (Nat.le_trans hBw HR1.out.below.size) S1 rfl HR1.out.s HR1.out.p ⟨0, 0, [], []⟩ rfl p).mono ?_
        rintro e5 w5 ⟨hb5, h5⟩
        clear z2
        rcases h5 with ⟨h20, rfl, hq5⟩ | ⟨h20, rfl, A2, c2, hq5, hs5, hp5⟩
        · have HV : Hid (V = .bad p 70) := by
            show _ = _
            have hq20 : qone (s.data.toList.drop p) ls = .bad 0 70 := by rw [HOn.out, if_pos (show 20 ≤ (S1.map (·.1)).length by rw [List.length_map]; exact h20)]
            rw [← hin.out, qall_bad hq20]; rfl
          go_wp2_with fail
          try rw [Exit.noGoto_ret]
          go_ret
          rw [HV.out]
          exact ⟨HR1.out.below.trans hb5, rfl, _, hq5, rfl, rfl⟩
        · have HO1 : Hid (qone (s.data.toList.drop p) ls = oneTold (P1 - p) (S1.map (·.1)) (qstep (s.data.toList.drop P1))) := by
            show _ = _
            rw [HOn.out, if_neg (show ¬ 20 ≤ (S1.map (·.1)).length by rw [List.length_map]; omega)]
          obtain ⟨g, hA2⟩ : ∃ g, A2 = some ⟨g, 0, none⟩ := by
            obtain ⟨g, hg, _⟩ := own_flat cellsS cellsS_length hs5 (by simp)
            exact ⟨g, hg⟩
          subst hA2
          obtain ⟨o, ho⟩ : ∃ o, Hid (S1.length * 4 = o) := ⟨_, rfl⟩
          have HQ5 := Lib.hid hq5
          have HS5 := Lib.hid hs5
          have HP5 := Lib.hid hp5
          have hb6 := Lib.hid (HR1.out.below.trans hb5)
          obtain ⟨_, _, z2, _⟩ := hq5.all
          have l0 : (0 : Int) ≤ (S1.length : Int) := by omega
          have l1 : (S1.length : Int) < ((S1.length + 1 : Nat) : Int) := by omega
          have l2 : S1.length < S1.length + 1 := by omega
          obtain ⟨U, hU⟩ : ∃ U, Hid (qstep (s.data.toList.drop P1) = U) := ⟨_, rfl⟩
          have hw := qstep_within (s.data.toList.drop P1)
          rw [hU.out, List.length_drop, HL.out] at hw
          clear hq5 hs5 hp5 hb5
          go_wp2_with fail
          rw [ho.out]
          refine (step_any b B _ w5 HQ5.out hB (Nat.le_trans hBw hb6.out.size) hP1 hs g S1 HS5.out HP5.out o ho U hU).mono ?_
          rw [hU.out] at HO1
          cases U with
          | bad j d =>
            have HV : Hid (V = .bad (p + (P1 - p + j)) d) := by
              show _ = _
              rw [← hin.out, qall_bad HO1.out]; rfl
            rintro e7 w7 ⟨hb7, rfl, p7, h7⟩
            clear z2
            go_wp2_with fail
            try rw [Exit.noGoto_ret]
            go_ret
            rw [HV.out]
            refine ⟨hb6.out.trans hb7, rfl, _, h7, ?_, rfl⟩
            show ((P1 + j : Nat) : Int) = _
            rw [show p + (P1 - p + j) = P1 + j by omega]
          | ok st n =>
            obtain ⟨wlo, whi⟩ := hw
            rintro e7 w7 ⟨hb7, rfl, h7, A', c', hs7, hp7⟩
            obtain ⟨P2, hP2⟩ : ∃ P2, Hid (P1 + n = P2) := ⟨_, rfl⟩
            have HR7 : Hid (RowAt w B b s P2 (S1 ++ [(st, A', c')]) w7 (some ⟨g, 0, none⟩) c2 bd cd) := by
              refine ⟨?_, hs7, hp7, hb6.out.trans hb7⟩
              rw [← hP2.out, List.length_append]; exact h7
            have HO2 : Hid (qone (s.data.toList.drop p) ls = .ok ((S1 ++ [(st, A', c')]).map (·.1)) (P2 - p)) := by
              show _ = _
              rw [HO1.out]
              show Told.ok (S1.map (·.1) ++ [st]) (P1 - p + n) = _
              rw [List.map_append, show P1 - p + n = P2 - p by have := hP2.out; omega]; rfl
            have hP2l : P2 ≤ s.size := by have := hP2.out; omega
            have hP2g : p < P2 := by have := hP2.out; omega
            have HS : Hid (w7.drew.cell? ⟨b, 0, none⟩ = some (.string s) ∧ w7.drew.cell? ⟨b, 1, none⟩ = some (.int .i64 P2)) := ⟨HR7.out.q.all.1, HR7.out.q.all.2.1⟩
            clear h7 hs7 hp7 hb7 z2 wlo whi
            by_cases hend : P2 = s.size
            · have HV : Hid (V = .ok ((S1 ++ [(st, A', c')]).map (·.1)) (p + (P2 - p))) := by
                show _ = _
                rw [← hin.out, qall_end HO2.out (by rw [List.drop_drop]; exact List.drop_eq_nil_of_le (by rw [HL.out]; omega))]; rfl
              have hcmp : ((P2 : Int) == (s.size : Int)) = true := by simp; omega
              clear hend
              go_wp2_with fail
              refine wp_region_held_drew (S := fun w' => w'.cell? ⟨b, 0, none⟩ = some (.string s) ∧ w'.cell? ⟨b, 1, none⟩ = some (.int .i64 P2)) (by kernel_rfl) HS.out (fun hHeld => ?_)
              refine tks (oi := ⟨_, _, _, _, _, _⟩) (v := ?_) 0 rfl (.inl ⟨by rfl, ?_⟩) ?_; rotate_left
              · (intro wS hSw; (try dsimp only at hSw); go_simp); all_goals with_reducible rfl
              try go_frame
              refine tks (oi := ⟨_, _, _, _, _, _⟩) (v := ?_) 1 rfl (.inl ⟨by rfl, ?_⟩) ?_; rotate_left
              · (intro wS hSw; (try dsimp only at hSw); go_simp); all_goals with_reducible rfl
              try go_frame
              refine tks (oi := ⟨_, _, _, _, _, _⟩) (v := ?_) 2 rfl (.inl ⟨by rfl, ?_⟩) ?_; rotate_left
              · (intro wS hSw; (try dsimp only at hSw); go_simp); all_goals with_reducible rfl
              try go_frame
              refine tks (oi := ⟨_, _, _, _, _, _⟩) (v := ?_) 3 rfl (.inl ⟨by rfl, ?_⟩) ?_; rotate_left
              · (intro wS hSw; (try dsimp only at hSw); go_simp); all_goals with_reducible rfl
              try go_frame
              refine tks (oi := ⟨_, _, _, _, _, _⟩) (v := ?_) 4 rfl (.inl ⟨by rfl, ?_⟩) ?_; rotate_left
              · (intro wS hSw; (try dsimp only at hSw); go_simp); all_goals with_reducible rfl
              try go_frame
              refine tks (oi := ⟨_, _, _, _, _, _⟩) (v := ?_) 5 rfl (.inl ⟨by rfl, ?_⟩) ?_; rotate_left
              · (intro wS hSw; (try dsimp only at hSw); go_simp); all_goals with_reducible rfl
              try go_frame
              refine tks (oi := ⟨_, _, _, _, _, _⟩) (v := ?_) 6 rfl (.inl ⟨by rfl, ?_⟩) ?_; rotate_left
              · (intro wS hSw; (try dsimp only at hSw); go_simp); all_goals with_reducible rfl
              try go_frame
              refine tks (oi := ⟨_, _, _, _, _, _⟩) (v := ?_) 7 rfl (.inl ⟨by rfl, ?_⟩) ?_; rotate_left
              · (intro wS hSw; (try dsimp only at hSw); go_simp); all_goals with_reducible rfl
              try go_frame
              refine tks (oi := ⟨_, _, _, _, _, _⟩) (v := ?_) 8 rfl (.inl ⟨by rfl, ?_⟩) ?_; rotate_left
              · (intro wS hSw; (try dsimp only at hSw); go_simp); all_goals with_reducible rfl
              try go_frame
              refine tks (oi := ⟨_, _, _, _, _, _⟩) (v := ?_) 9 rfl (.inl ⟨by rfl, ?_⟩) ?_; rotate_left
              · (intro wS hSw; (try dsimp only at hSw); go_simp); all_goals with_reducible rfl
              try go_frame
              refine wpAnyH_done (by kernel_rfl) ?_ _
              clear hHeld
              go_wp2_with fail
              try rw [Exit.noGoto_ret]
              go_ret
              rw [HV.out]
              exact ⟨HR7.out.below.drew, rfl, P2, _, _, c2, bd, cd, HR7.out.q, HR7.out.s, HR7.out.p, rfl⟩
            · have hcmp : ((P2 : Int) == (s.size : Int)) = false := by simp; omega
              have HIN : Hid ((qall (s.data.toList.drop P2) ((S1 ++ [(st, A', c')]).map (·.1))).past P2 = V) := by
                show _ = _
                rw [← hin.out, qall_step HO2.out (by rw [List.drop_drop, show p + (P2 - p) = P2 by omega]; intro e; have := congrArg List.length e; rw [List.length_drop, HL.out] at this; simp at this; omega), Told.past_past, List.drop_drop, show p + (P2 - p) = P2 by omega]
              go_wp2_with fail
              refine wp_region_held_drew (S := fun w' => w'.cell? ⟨b, 0, none⟩ = some (.string s) ∧ w'.cell? ⟨b, 1, none⟩ = some (.int .i64 P2)) (by kernel_rfl) HS.out (fun hHeld => ?_)
              refine tks (oi := ⟨_, _, _, _, _, _⟩) (v := ?_) 0 rfl (.inl ⟨by rfl, ?_⟩) ?_; rotate_left
              · (intro wS hSw; (try dsimp only at hSw); go_simp); all_goals with_reducible rfl
              try go_frame
              refine tks (oi := ⟨_, _, _, _, _, _⟩) (v := ?_) 1 rfl (.inl ⟨by rfl, ?_⟩) ?_; rotate_left
              · (intro wS hSw; (try dsimp only at hSw); go_simp); all_goals with_reducible rfl
              try go_frame
              refine tks (oi := ⟨_, _, _, _, _, _⟩) (v := ?_) 2 rfl (.inl ⟨by rfl, ?_⟩) ?_; rotate_left
              · (intro wS hSw; (try dsimp only at hSw); go_simp); all_goals with_reducible rfl
              try go_frame
              refine tks (oi := ⟨_, _, _, _, _, _⟩) (v := ?_) 3 rfl (.inl ⟨by rfl, ?_⟩) ?_; rotate_left
              · (intro wS hSw; (try dsimp only at hSw); go_simp); all_goals with_reducible rfl
              try go_frame
              refine tks (oi := ⟨_, _, _, _, _, _⟩) (v := ?_) 4 rfl (.inl ⟨by rfl, ?_⟩) ?_; rotate_left
              · (intro wS hSw; (try dsimp only at hSw); go_simp); all_goals with_reducible rfl
              try go_frame
              refine tks (oi := ⟨_, _, _, _, _, _⟩) (v := ?_) 5 rfl (.inl ⟨by rfl, ?_⟩) ?_; rotate_left
              · (intro wS hSw; (try dsimp only at hSw); go_simp); all_goals with_reducible rfl
              try go_frame
              refine tks (oi := ⟨_, _, _, _, _, _⟩) (v := ?_) 6 rfl (.inl ⟨by rfl, ?_⟩) ?_; rotate_left
              · (intro wS hSw; (try dsimp only at hSw); go_simp); all_goals with_reducible rfl
              try go_frame
              refine tks (oi := ⟨_, _, _, _, _, _⟩) (v := ?_) 7 rfl (.inl ⟨by rfl, ?_⟩) ?_; rotate_left
              · (intro wS hSw; (try dsimp only at hSw); go_simp); all_goals with_reducible rfl
              try go_frame
              refine tks (oi := ⟨_, _, _, _, _, _⟩) (v := ?_) 8 rfl (.inl ⟨by rfl, ?_⟩) ?_; rotate_left
              · (intro wS hSw; (try dsimp only at hSw); go_simp); all_goals with_reducible rfl
              try go_frame
              refine tks (oi := ⟨_, _, _, _, _, _⟩) (v := ?_) 9 rfl (.inl ⟨by rfl, ?_⟩) ?_; rotate_left
              · (intro wS hSw; (try dsimp only at hSw); go_simp); all_goals with_reducible rfl
              try go_frame
              refine wpAnyH_done (by kernel_rfl) ?_ _
              clear hHeld
              go_wp2_with fail
              go_roundg (s.size - P2)
              case measure => omega
              case rel => exact ⟨P2, _, _, _, c2, bd, cd, hP2l, rfl, ⟨HR7.out.q, HR7.out.s, HR7.out.p, HR7.out.below.drew⟩, rfl, HIN⟩
      | true =>
        have HM2 : Hid (pre [47] (s.data.toList.drop (p + 1)) = true) := hm
        have hp2 := pre1_len hm
        rw [HL.out] at hp2
        have HO0 := qone_two' HM.out (by rw [List.drop_drop]; exact hm) ls
        rw [List.drop_drop] at HO0
        clear hm
        refine (is_any b _ w2 HR2.out.q [47] hp1 hs true HM2 (by decide)).mono ?_
        rintro e3 w3 ⟨rfl, h3, hg3⟩
        have HR3 : Hid (RowAt w B b s (p + 2) S w3 A c bd cd) := HR2.out.called hB hBw h3 hg3
        clear h3
        go_wp2_with fail
        refine (add_any b B _ w3 HR3.out.q hB (Nat.le_trans hBw HR3.out.below.size) S rfl HR3.out.s HR3.out.p ⟨3, 4, [], []⟩ rfl p).mono ?_
        rintro e4 w4 ⟨hb4, h4⟩
        rcases h4 with ⟨h20, rfl, hq4⟩ | ⟨h20, rfl, A1, c1, hq4, hs4, hp4⟩
        · have HV : Hid (V = .bad p 70) := by
            show _ = _
            rw [if_pos (by rw [← hls.out, List.length_map]; exact h20)] at HO0
            rw [← hin.out, qall_bad HO0]; rfl
          go_wp2_with fail
          try rw [Exit.noGoto_ret]
          go_ret
          rw [HV.out]
          exact ⟨HR3.out.below.trans hb4, rfl, _, hq4, rfl, rfl⟩
        · obtain ⟨S1, hS1⟩ : ∃ S1, Hid (S ++ [((⟨3, 4, [], []⟩ : StepD), (none : Option Addr), (0 : Nat))] = S1) := ⟨_, rfl⟩
          obtain ⟨P1, hP1e⟩ : ∃ P1, Hid (p + 2 = P1) := ⟨_, rfl⟩
          have hSm : S1.map (·.1) = ls ++ [⟨3, 4, [], []⟩] := by rw [← hS1.out, List.map_append, hls.out]; rfl
          have HO2 : qone (s.data.toList.drop p) ls = if 20 ≤ (S1.map (·.1)).length then .bad 0 70 else oneTold (P1 - p) (S1.map (·.1)) (qstep (s.data.toList.drop P1)) := by
            rw [HO0, if_neg (by rw [← hls.out, List.length_map]; omega), hSm, List.length_append, hP1e.out, show P1 - p = 2 by have := hP1e.out; omega]; rfl
          have HOn := Lib.hid HO2
          have hP1 : P1 ≤ s.size := by have := hP1e.out; omega
          have hpP : p < P1 := by have := hP1e.out; omega
          have HR1 : Hid (RowAt w B b s P1 S1 w4 A1 c1 bd cd) := by
            show RowAt _ _ _ _ _ _ _ _ _ _ _
            rw [← hP1e.out, ← hS1.out]
            refine ⟨?_, hs4, hp4, HR3.out.below.trans hb4⟩
            rw [List.length_append]; exact hq4
          clear HO0 HO2 hSm hq4 hs4 hp4 hb4 h20
          obtain ⟨_, _, z2, _⟩ := HR1.out.q.all
          go_wp2_with fail
          refine (add_any b B _ _ HR1.out.q hB (Nat.le_trans hBw HR1.out.below.size) S1 rfl HR1.out.s HR1.out.p ⟨0, 0, [], []⟩ rfl p).mono ?_
          rintro e5 w5 ⟨hb5, h5⟩
          clear z2
          rcases h5 with ⟨h20, rfl, hq5⟩ | ⟨h20, rfl, A2, c2, hq5, hs5, hp5⟩
          · have HV : Hid (V = .bad p 70) := by
              show _ = _
              have hq20 : qone (s.data.toList.drop p) ls = .bad 0 70 := by rw [HOn.out, if_pos (show 20 ≤ (S1.map (·.1)).length by rw [List.length_map]; exact h20)]
              rw [← hin.out, qall_bad hq20]; rfl
            go_wp2_with fail
            try rw [Exit.noGoto_ret]
            go_ret
            rw [HV.out]
            exact ⟨HR1.out.below.trans hb5, rfl, _, hq5, rfl, rfl⟩
          · have HO1 : Hid (qone (s.data.toList.drop p) ls = oneTold (P1 - p) (S1.map (·.1)) (qstep (s.data.toList.drop P1))) := by
              show _ = _
              rw [HOn.out, if_neg (show ¬ 20 ≤ (S1.map (·.1)).length by rw [List.length_map]; omega)]
            obtain ⟨g, hA2⟩ : ∃ g, A2 = some ⟨g, 0, none⟩ := by
              obtain ⟨g, hg, _⟩ := own_flat cellsS cellsS_length hs5 (by simp)
              exact ⟨g, hg⟩
            subst hA2
            obtain ⟨o, ho⟩ : ∃ o, Hid (S1.length * 4 = o) := ⟨_, rfl⟩
            have HQ5 := Lib.hid hq5
            have HS5 := Lib.hid hs5
            have HP5 := Lib.hid hp5
            have hb6 := Lib.hid (HR1.out.below.trans hb5)
            obtain ⟨_, _, z2, _⟩ := hq5.all
            have l0 : (0 : Int) ≤ (S1.length : Int) := by omega
            have l1 : (S1.length : Int) < ((S1.length + 1 : Nat) : Int) := by omega
            have l2 : S1.length < S1.length + 1 := by omega
            obtain ⟨U, hU⟩ : ∃ U, Hid (qstep (s.data.toList.drop P1) = U) := ⟨_, rfl⟩
            have hw := qstep_within (s.data.toList.drop P1)
            rw [hU.out, List.length_drop, HL.out] at hw
            clear hq5 hs5 hp5 hb5
            go_wp2_with fail
            rw [ho.out]
            refine (step_any b B _ w5 HQ5.out hB (Nat.le_trans hBw hb6.out.size) hP1 hs g S1 HS5.out HP5.out o ho U hU).mono ?_
            rw [hU.out] at HO1
            cases U with
            | bad j d =>
              have HV : Hid (V = .bad (p + (P1 - p + j)) d) := by
                show _ = _
                rw [← hin.out, qall_bad HO1.out]; rfl
              rintro e7 w7 ⟨hb7, rfl, p7, h7⟩
              clear z2
              go_wp2_with fail
              try rw [Exit.noGoto_ret]
              go_ret
              rw [HV.out]
              refine ⟨hb6.out.trans hb7, rfl, _, h7, ?_, rfl⟩
              show ((P1 + j : Nat) : Int) = _
              rw [show p + (P1 - p + j) = P1 + j by omega]
            | ok st n =>
              obtain ⟨wlo, whi⟩ := hw
              rintro e7 w7 ⟨hb7, rfl, h7, A', c', hs7, hp7⟩
              obtain ⟨P2, hP2⟩ : ∃ P2, Hid (P1 + n = P2) := ⟨_, rfl⟩
              have HR7 : Hid (RowAt w B b s P2 (S1 ++ [(st, A', c')]) w7 (some ⟨g, 0, none⟩) c2 bd cd) := by
                refine ⟨?_, hs7, hp7, hb6.out.trans hb7⟩
                rw [← hP2.out, List.length_append]; exact h7
              have HO2 : Hid (qone (s.data.toList.drop p) ls = .ok ((S1 ++ [(st, A', c')]).map (·.1)) (P2 - p)) := by
                show _ = _
                rw [HO1.out]
                show Told.ok (S1.map (·.1) ++ [st]) (P1 - p + n) = _
                rw [List.map_append, show P1 - p + n = P2 - p by have := hP2.out; omega]; rfl
              have hP2l : P2 ≤ s.size := by have := hP2.out; omega
              have hP2g : p < P2 := by have := hP2.out; omega
              have HS : Hid (w7.drew.cell? ⟨b, 0, none⟩ = some (.string s) ∧ w7.drew.cell? ⟨b, 1, none⟩ = some (.int .i64 P2)) := ⟨HR7.out.q.all.1, HR7.out.q.all.2.1⟩
              clear h7 hs7 hp7 hb7 z2 wlo whi
              by_cases hend : P2 = s.size
              · have HV : Hid (V = .ok ((S1 ++ [(st, A', c')]).map (·.1)) (p + (P2 - p))) := by
                  show _ = _
                  rw [← hin.out, qall_end HO2.out (by rw [List.drop_drop]; exact List.drop_eq_nil_of_le (by rw [HL.out]; omega))]; rfl
                have hcmp : ((P2 : Int) == (s.size : Int)) = true := by simp; omega
                clear hend
                go_wp2_with fail
                refine wp_region_held_drew (S := fun w' => w'.cell? ⟨b, 0, none⟩ = some (.string s) ∧ w'.cell? ⟨b, 1, none⟩ = some (.int .i64 P2)) (by kernel_rfl) HS.out (fun hHeld => ?_)
                refine tks (oi := ⟨_, _, _, _, _, _⟩) (v := ?_) 0 rfl (.inl ⟨by rfl, ?_⟩) ?_; rotate_left
                · (intro wS hSw; (try dsimp only at hSw); go_simp); all_goals with_reducible rfl
                try go_frame
                refine tks (oi := ⟨_, _, _, _, _, _⟩) (v := ?_) 1 rfl (.inl ⟨by rfl, ?_⟩) ?_; rotate_left
                · (intro wS hSw; (try dsimp only at hSw); go_simp); all_goals with_reducible rfl
                try go_frame
                refine tks (oi := ⟨_, _, _, _, _, _⟩) (v := ?_) 2 rfl (.inl ⟨by rfl, ?_⟩) ?_; rotate_left
                · (intro wS hSw; (try dsimp only at hSw); go_simp); all_goals with_reducible rfl
                try go_frame
                refine tks (oi := ⟨_, _, _, _, _, _⟩) (v := ?_) 3 rfl (.inl ⟨by rfl, ?_⟩) ?_; rotate_left
                · (intro wS hSw; (try dsimp only at hSw); go_simp); all_goals with_reducible rfl
                try go_frame
                refine tks (oi := ⟨_, _, _, _, _, _⟩) (v := ?_) 4 rfl (.inl ⟨by rfl, ?_⟩) ?_; rotate_left
                · (intro wS hSw; (try dsimp only at hSw); go_simp); all_goals with_reducible rfl
                try go_frame
                refine tks (oi := ⟨_, _, _, _, _, _⟩) (v := ?_) 5 rfl (.inl ⟨by rfl, ?_⟩) ?_; rotate_left
                · (intro wS hSw; (try dsimp only at hSw); go_simp); all_goals with_reducible rfl
                try go_frame
                refine tks (oi := ⟨_, _, _, _, _, _⟩) (v := ?_) 6 rfl (.inl ⟨by rfl, ?_⟩) ?_; rotate_left
                · (intro wS hSw; (try dsimp only at hSw); go_simp); all_goals with_reducible rfl
                try go_frame
                refine tks (oi := ⟨_, _, _, _, _, _⟩) (v := ?_) 7 rfl (.inl ⟨by rfl, ?_⟩) ?_; rotate_left
                · (intro wS hSw; (try dsimp only at hSw); go_simp); all_goals with_reducible rfl
                try go_frame
                refine tks (oi := ⟨_, _, _, _, _, _⟩) (v := ?_) 8 rfl (.inl ⟨by rfl, ?_⟩) ?_; rotate_left
                · (intro wS hSw; (try dsimp only at hSw); go_simp); all_goals with_reducible rfl
                try go_frame
                refine tks (oi := ⟨_, _, _, _, _, _⟩) (v := ?_) 9 rfl (.inl ⟨by rfl, ?_⟩) ?_; rotate_left
                · (intro wS hSw; (try dsimp only at hSw); go_simp); all_goals with_reducible rfl
                try go_frame
                refine wpAnyH_done (by kernel_rfl) ?_ _
                clear hHeld
                go_wp2_with fail
                try rw [Exit.noGoto_ret]
                go_ret
                rw [HV.out]
                exact ⟨HR7.out.below.drew, rfl, P2, _, _, c2, bd, cd, HR7.out.q, HR7.out.s, HR7.out.p, rfl⟩
              · have hcmp : ((P2 : Int) == (s.size : Int)) = false := by simp; omega
                have HIN : Hid ((qall (s.data.toList.drop P2) ((S1 ++ [(st, A', c')]).map (·.1))).past P2 = V) := by
                  show _ = _
                  rw [← hin.out, qall_step HO2.out (by rw [List.drop_drop, show p + (P2 - p) = P2 by omega]; intro e; have := congrArg List.length e; rw [List.length_drop, HL.out] at this; simp at this; omega), Told.past_past, List.drop_drop, show p + (P2 - p) = P2 by omega]
                go_wp2_with fail
                refine wp_region_held_drew (S := fun w' => w'.cell? ⟨b, 0, none⟩ = some (.string s) ∧ w'.cell? ⟨b, 1, none⟩ = some (.int .i64 P2)) (by kernel_rfl) HS.out (fun hHeld => ?_)
                refine tks (oi := ⟨_, _, _, _, _, _⟩) (v := ?_) 0 rfl (.inl ⟨by rfl, ?_⟩) ?_; rotate_left
                · (intro wS hSw; (try dsimp only at hSw); go_simp); all_goals with_reducible rfl
                try go_frame
                refine tks (oi := ⟨_, _, _, _, _, _⟩) (v := ?_) 1 rfl (.inl ⟨by rfl, ?_⟩) ?_; rotate_left
                · (intro wS hSw; (try dsimp only at hSw); go_simp); all_goals with_reducible rfl
                try go_frame
                refine tks (oi := ⟨_, _, _, _, _, _⟩) (v := ?_) 2 rfl (.inl ⟨by rfl, ?_⟩) ?_; rotate_left
                · (intro wS hSw; (try dsimp only at hSw); go_simp); all_goals with_reducible rfl
                try go_frame
                refine tks (oi := ⟨_, _, _, _, _, _⟩) (v := ?_) 3 rfl (.inl ⟨by rfl, ?_⟩) ?_; rotate_left
                · (intro wS hSw; (try dsimp only at hSw); go_simp); all_goals with_reducible rfl
                try go_frame
                refine tks (oi := ⟨_, _, _, _, _, _⟩) (v := ?_) 4 rfl (.inl ⟨by rfl, ?_⟩) ?_; rotate_left
                · (intro wS hSw; (try dsimp only at hSw); go_simp); all_goals with_reducible rfl
                try go_frame
                refine tks (oi := ⟨_, _, _, _, _, _⟩) (v := ?_) 5 rfl (.inl ⟨by rfl, ?_⟩) ?_; rotate_left
                · (intro wS hSw; (try dsimp only at hSw); go_simp); all_goals with_reducible rfl
                try go_frame
                refine tks (oi := ⟨_, _, _, _, _, _⟩) (v := ?_) 6 rfl (.inl ⟨by rfl, ?_⟩) ?_; rotate_left
                · (intro wS hSw; (try dsimp only at hSw); go_simp); all_goals with_reducible rfl
                try go_frame
                refine tks (oi := ⟨_, _, _, _, _, _⟩) (v := ?_) 7 rfl (.inl ⟨by rfl, ?_⟩) ?_; rotate_left
                · (intro wS hSw; (try dsimp only at hSw); go_simp); all_goals with_reducible rfl
                try go_frame
                refine tks (oi := ⟨_, _, _, _, _, _⟩) (v := ?_) 8 rfl (.inl ⟨by rfl, ?_⟩) ?_; rotate_left
                · (intro wS hSw; (try dsimp only at hSw); go_simp); all_goals with_reducible rfl
                try go_frame
                refine tks (oi := ⟨_, _, _, _, _, _⟩) (v := ?_) 9 rfl (.inl ⟨by rfl, ?_⟩) ?_; rotate_left
                · (intro wS hSw; (try dsimp only at hSw); go_simp); all_goals with_reducible rfl
                try go_frame
                refine wpAnyH_done (by kernel_rfl) ?_ _
                clear hHeld
                go_wp2_with fail
                go_roundg (s.size - P2)
                case measure => omega
                case rel => exact ⟨P2, _, _, _, c2, bd, cd, hP2l, rfl, ⟨HR7.out.q, HR7.out.s, HR7.out.p, HR7.out.below.drew⟩, rfl, HIN⟩

def ParsePost (w : World) (R : List StepD × Nat × Int) (e : Ending) (w' : World) : Prop :=
  Below w.heap.size w w' ∧ ((R.2.2 = 0 ∧ ∃ A c S, e = .returned (.tuple #[.slice A S.length c, .int .i64 0, .int .i64 0]) ∧ StepsOwn w' w.heap.size A c S ∧ SPreds w' w.heap.size S ∧ S.map (·.1) = R.1)
    ∨ (R.2.2 ≠ 0 ∧ e = .returned (.tuple #[.slice none 0 0, .int .i64 R.2.1, .int .i64 R.2.2])))

set_option maxRecDepth 100000 in
set_option maxHeartbeats 4000000 in
theorem Parse_any (s : ByteArray) (w : World) (_hm : s.size ≤ maxLen) (R : List StepD × Nat × Int) (hR : Hid (queryL s.data.toList = R)) :
    Calls Tryd.prog 14 #[.string s] w (ParsePost w R) := by
  have HL := Lib.hid (size_toList s)
  by_cases h200 : 200 < s.size
  · have h' : (200 : Int) < s.size := by omega
    have HR : Hid (R = ([], 0, 71)) := by show _ = _; rw [← hR.out, query_long (by rw [HL.out]; exact h200)]
    clear hR h200
    go_enter Tryd.func14, Tryd.ntmps14
    go_wp2_with fail
    go_ret3
    rw [HR.out]
    exact ⟨Below.refl _ _, .inr ⟨by decide, rfl⟩⟩
  · have h' : (s.size : Int) ≤ 200 := by omega
    have hs : s.size ≤ 1000000000 := by omega
    obtain ⟨V, hV⟩ : ∃ V, Hid (qall s.data.toList [] = V) := ⟨_, rfl⟩
    have hRV := hR.out
    unfold queryL at hRV
    rw [if_neg (by rw [HL.out]; exact h200), hV.out] at hRV
    have hwi := qallF_within (s.data.toList.length + 1) s.data.toList []
    rw [show qallF (s.data.toList.length + 1) s.data.toList [] = V from hV.out] at hwi
    clear hR h200
    obtain ⟨W1, hW1⟩ : ∃ W1, Hid (W1 = w.alloc (.cells #[.string s, .int .i64 0, .slice none 0 0, .int .i64 0, .int .i64 0] 57)) := ⟨_, rfl⟩
    have hb1 : Below w.heap.size w W1 := by rw [hW1.out]; exact (Below.refl _ w).alloc (Nat.le_refl _) _
    have hq1 : QAt W1 w.heap.size ⟨s, 0, none, 0, 0, 0, 0⟩ := by unfold QAt; rw [hW1.out]; exact heap_alloc_new w _
    go_enter Tryd.func14, Tryd.ntmps14
    go_wp2_with fail
    rw [← hW1.out]
    refine (all_any w.heap.size w.heap.size s W1 hq1 (Nat.le_refl _) hb1.size hs V hV).mono ?_
    rintro e w2 ⟨hb2, h2⟩
    have hbb := hb1.trans hb2
    cases V with
    | bad k c =>
      obtain ⟨rfl, r, hq2, hbad, hcode⟩ := h2
      have HR : Hid (R = ([], k, c)) := hRV.symm
      have hc0 : c ≠ 0 := hwi.2
      obtain ⟨_, _, _, z3, z4⟩ := hq2.all
      rw [hbad] at z3
      rw [hcode] at z4
      have HC := Lib.hid hc0
      clear hRV hwi hc0 hq2 hbad hcode
      go_wp2_with fail
      refine wp_region_held_drew (S := fun w' => w'.cell? ⟨w.heap.size, 3, none⟩ = some (.int .i64 k) ∧ w'.cell? ⟨w.heap.size, 4, none⟩ = some (.int .i64 c)) (by kernel_rfl) ⟨z3, z4⟩ (fun hHeld => ?_)
      refine tks (oi := ⟨_, _, _, _, _, _⟩) (v := ?_) 0 rfl (.inl ⟨by rfl, ?_⟩) ?_; rotate_left
      · (intro wS hSw; (try dsimp only at hSw); go_simp); all_goals with_reducible rfl
      try go_frame
      refine tks (oi := ⟨_, _, _, _, _, _⟩) (v := ?_) 1 rfl (.inl ⟨by rfl, ?_⟩) ?_; rotate_left
      · (intro wS hSw; (try dsimp only at hSw); go_simp); all_goals with_reducible rfl
      try go_frame
      refine tks (oi := ⟨_, _, _, _, _, _⟩) (v := ?_) 2 rfl (.inl ⟨by rfl, ?_⟩) ?_; rotate_left
      · (intro wS hSw; (try dsimp only at hSw); go_simp); all_goals with_reducible rfl
      try go_frame
      refine tks (oi := ⟨_, _, _, _, _, _⟩) (v := ?_) 3 rfl (.inl ⟨by rfl, ?_⟩) ?_; rotate_left
      · (intro wS hSw; (try dsimp only at hSw); go_simp); all_goals with_reducible rfl
      try go_frame
      refine tks (oi := ⟨_, _, _, _, _, _⟩) (v := ?_) 4 rfl (.inl ⟨by rfl, ?_⟩) ?_; rotate_left
      · (intro wS hSw; (try dsimp only at hSw); go_simp); all_goals with_reducible rfl
      try go_frame
      refine tks (oi := ⟨_, _, _, _, _, _⟩) (v := ?_) 5 rfl (.inl ⟨by rfl, ?_⟩) ?_; rotate_left
      · (intro wS hSw; (try dsimp only at hSw); go_simp); all_goals with_reducible rfl
      try go_frame
      refine tks (oi := ⟨_, _, _, _, _, _⟩) (v := ?_) 6 rfl (.inl ⟨by rfl, ?_⟩) ?_; rotate_left
      · (intro wS hSw; (try dsimp only at hSw); go_simp); all_goals with_reducible rfl
      try go_frame
      refine tks (oi := ⟨_, _, _, _, _, _⟩) (v := ?_) 7 rfl (.inl ⟨by rfl, ?_⟩) ?_; rotate_left
      · (intro wS hSw; (try dsimp only at hSw); go_simp); all_goals with_reducible rfl
      try go_frame
      refine tks (oi := ⟨_, _, _, _, _, _⟩) (v := ?_) 8 rfl (.inl ⟨by rfl, ?_⟩) ?_; rotate_left
      · (intro wS hSw; (try dsimp only at hSw); go_simp); all_goals with_reducible rfl
      try go_frame
      refine tks (oi := ⟨_, _, _, _, _, _⟩) (v := ?_) 9 rfl (.inl ⟨by rfl, ?_⟩) ?_; rotate_left
      · (intro wS hSw; (try dsimp only at hSw); go_simp); all_goals with_reducible rfl
      try go_frame
      refine tks (oi := ⟨_, _, _, _, _, _⟩) (v := ?_) 10 rfl (.inl ⟨by rfl, ?_⟩) ?_; rotate_left
      · (intro wS hSw; (try dsimp only at hSw); go_simp); all_goals with_reducible rfl
      try go_frame
      refine wpAnyH_done (by kernel_rfl) ?_ _
      clear hHeld
      go_wp2_with fail
      go_ret3
      rw [HR.out]
      exact ⟨hbb.drew, .inr ⟨HC.out, rfl⟩⟩
    | ok ls n =>
      obtain ⟨rfl, p, S, A, c, bd, cd, hq2, hs2, hp2, hm2⟩ := h2
      have HR : Hid (R = (ls, 0, 0)) := hRV.symm
      obtain ⟨_, _, z2, _⟩ := hq2.all
      have HS2 := Lib.hid hs2
      have HP2 := Lib.hid hp2
      have HM2 := Lib.hid hm2
      clear hRV hwi hq2 hs2 hp2 hm2
      go_wp2_with fail
      go_ret3
      rw [HR.out]
      exact ⟨hbb, .inl ⟨rfl, A, c, S, rfl, HS2.out, HP2.out, HM2.out⟩⟩
end Go.Proofs.YtpfhdklbhhpbcaaDoor

/-
  The walks of the document's All, escaped, Text and Value.
-/
namespace Go.Proofs.YtpfhdklbhhpbcaaDoor
open Go.RowKit

theorem infoRune : (Tryd.prog.info? 21).map (fun i => (i.zero, i.size, i.bytes)) = some (some (.int .i32 0), 1, 4) := by kernel_rfl

theorem RNext_as (s : ByteArray) (w : World) (hs : s.size ≤ maxLen) (c : Int) (n : Nat) (h : Hid (nextL s.data.toList = (c, n))) :
    Calls Tryd.prog 52 #[.string s] w (Ret w (.tuple #[.int .i32 c, .int .i64 (n : Nat)])) := by
  have := RNext_any s w hs
  rw [h.out] at this
  exact this

/-- A list of numbers of the call's own. -/
def OwnRunes (w w' : World) (v : Value) (cs : List Int) : Prop := w'.ownsRow w.heap.size 21 1 v cs.length (cs.map (Value.int .i32))
def AllPost (w : World) (r : Option (List Int)) (e : Ending) (w' : World) : Prop :=
  ∃ ad c, e = .returned (.tuple #[.slice ad (r.getD []).length c, .bool r.isSome]) ∧ OwnRunes w w' (.slice ad (r.getD []).length c) (r.getD []) ∧ Below w.heap.size w w'

set_option maxRecDepth 100000 in
set_option maxHeartbeats 1000000 in
theorem RAll_any (s : ByteArray) (w : World) (hs : s.size ≤ 1000000000) :
    Calls Tryd.prog 37 #[.string s] w (AllPost w (charsL s.data.toList)) := by
  go_enter Tryd.func37, Tryd.ntmps37
  go_wp2_with fail
  go_loopw [0, 4] (fun sv v wr => ∃ (t : ByteArray) (acc : List Int) (ad : Option Addr) (cp : Nat), sv = .string t ∧ v = .slice ad acc.length cp ∧ t.size ≤ s.size ∧ Hid (charsL s.data.toList = (charsL t.data.toList).map (acc ++ ·)) ∧ acc.length + t.size ≤ s.size ∧
      wr.ownsRow w.heap.size 21 1 (.slice ad acc.length cp) acc.length (acc.map (Value.int .i32)) ∧ Below w.heap.size w wr) (fun sv _ _ => (strOf sv).size)
  case atStart =>
    refine ⟨s, [], none, 0, rfl, rfl, Nat.le_refl _, ?_, by simp, World.ownsRow_nil _ _ _ _, Below.refl _ _⟩
    show _ = _
    cases charsL s.data.toList <;> simp
  case round =>
    obtain ⟨t, acc, ad, cp, rfl, rfl, hts, hesc, hal, hown, hbel⟩ := hrel
    have hwz := hbel.size
    have hl := size_toList t
    by_cases he : t.toList.isEmpty = true
    · have hnil : t.data.toList = [] := by rw [ByteArray.toList_eq] at he; simpa using he
      have hv : Hid (charsL s.data.toList = some acc) := by
        show _ = _
        rw [hesc.out, hnil, charsL_nil]; simp
      go_wp2_with fail
      go_ret2
      refine ⟨ad, cp, ?_, ?_, hbel⟩
      · rw [hv.out]; rfl
      · rw [hv.out]; exact hown
    · have hne : t.toList.isEmpty = false := by simpa using he
      clear he
      have hnn : Hid (t.data.toList ≠ []) := by
        intro h
        rw [ByteArray.toList_eq, h] at hne
        cases hne
      obtain ⟨c, n, hq⟩ : ∃ c n, Hid (nextL t.data.toList = (c, n)) := ⟨_, _, rfl⟩
      have hle := nextL_le t.data.toList
      rw [hq.out] at hle
      obtain ⟨hn1, hn4⟩ := hle
      rw [hl] at hn1
      simp only at hn1 hn4
      by_cases hn : n = 0
      · have hv : Hid (charsL s.data.toList = none) := by
          show _ = _
          rw [hesc.out, charsL_bad _ hnn.out (by rw [hq.out]; exact hn)]; rfl
        have hn0 : ((n : Int) == 0) = true := by simp [hn]
        clear hn
        go_wp2_with (go_at_call 52; refine (RNext_as t wr (by unfold maxLen; omega) c n hq).mono ?_; rintro e w2 ⟨rfl, hb2⟩)
        go_ret2
        refine ⟨none, 0, ?_, ?_, hbel.trans (hb2.mono (by omega))⟩
        · rw [hv.out]; rfl
        · rw [hv.out]; exact World.ownsRow_nil _ _ _ _
      · have hn0 : ((n : Int) == 0) = false := by simp [hn]
        have hesc' := charsL_step t.data.toList hnn.out (by rw [hq.out]; exact hn)
        rw [hq.out] at hesc'
        have HS := Lib.hid hesc'
        clear hesc'
        have hnp : 1 ≤ n := by omega
        clear hn
        go_wp2_with fail
        refine (RNext_as t wr (by unfold maxLen; omega) c n hq).mono ?_
        rintro e w2 ⟨rfl, hb2⟩
        have hz2 := hb2.size
        have hown2 := own_below hown hb2
        go_wp2_with (at_builtin; refine append1 rfl (.tmp 16) (.tmp 18) 65 rfl w.heap.size 21 (.int .i32 0) 4 Tryd.underlying65 infoRune rfl _ _ _ (.int .i32 c) rfl hown2 (by omega) _ rfl (by simp) rfl (by omega) (by omega) ?_)
        intro g cp2 w3 hown3 hb3 hz3
        go_wp2
        go_roundw
        case rel =>
          have hx : (t.extract n t.size).data.toList = t.data.toList.drop n := Lib.extract_to_end t n
          have hxs : (t.extract n t.size).size = t.size - n := by simp
          refine ⟨t.extract n t.size, acc ++ [c], some ⟨g, 0, none⟩, cp2, rfl, ?_, by omega, ?_, ?_, ?_, ?_⟩
          · rw [List.length_append]; rfl
          · show _ = _
            rw [hesc.out, HS.out, hx]
            cases charsL (t.data.toList.drop n) <;> simp
          · rw [List.length_append, hxs]; simp; omega
          · rw [List.length_append, List.map_append]; exact hown3
          · exact (hbel.trans (hb2.mono (by omega))).trans hb3
        case measure =>
          have hxs : (t.extract n t.size).size = t.size - n := by simp
          show (t.extract n t.size).size < t.size
          omega

theorem charsF_len (f : Nat) : ∀ l cs, charsF f l = some cs → cs.length ≤ l.length := by
  induction f with
  | zero =>
    intro l cs h
    simp only [charsF] at h
    split at h
    · injection h with h; subst h; simp
    · cases h
  | succ f ih =>
    intro l cs h
    simp only [charsF] at h
    split at h
    · injection h with h; subst h; simp
    · split at h
      · cases h
      · rename_i hl hn
        cases hr : charsF f (l.drop (nextL l).2) with
        | none => rw [hr] at h; cases h
        | some ds =>
          rw [hr] at h
          injection h with h
          subst h
          have := ih _ _ hr
          have := (nextL_le l).1
          rw [List.length_drop] at *
          simp only [List.length_cons]; omega
theorem charsL_len (l : List UInt8) (cs : List Int) (h : charsL l = some cs) : cs.length ≤ l.length := charsF_len _ l cs h

set_option maxRecDepth 100000 in
set_option maxHeartbeats 4000000 in
theorem REscaped_true (s : ByteArray) (w : World) (hs : s.size ≤ 1000000000) :
    Calls Tryd.prog 48 #[.string s, .bool true] w (Ret w (.tuple #[.string ⟨((escL true s.data.toList).getD []).toArray⟩, .bool (escL true s.data.toList).isSome])) := by
  obtain ⟨r, hr⟩ : ∃ r, Hid (charsL s.data.toList = r) := ⟨_, rfl⟩
  have hes : Hid (escL true s.data.toList = r.map (fun cs => cs.flatMap (writtenL true))) := by show _ = _; unfold escL; rw [hr.out]
  obtain ⟨cs, hcs⟩ : ∃ cs, Hid (r.getD [] = cs) := ⟨_, rfl⟩
  obtain ⟨b, hbs⟩ : ∃ b, Hid (r.isSome = b) := ⟨_, rfl⟩
  have hfin : Hid (((escL true s.data.toList).getD [] = cs.flatMap (writtenL true)) ∧ (escL true s.data.toList).isSome = b) := by
    have h1 := hcs.out; have h2 := hbs.out
    show _ ∧ _
    rw [hes.out]
    cases r with
    | none => simp at h1 h2; subst h1; subst h2; exact ⟨rfl, rfl⟩
    | some x => simp at h1 h2; subst h1; subst h2; exact ⟨rfl, rfl⟩
  have hlen : cs.length ≤ s.size := by
    have h1 := hcs.out; have h2 := hr.out
    rw [← size_toList s]
    cases r with
    | none => simp at h1; subst h1; simp
    | some x => simp at h1; subst h1; exact charsL_len _ _ h2
  go_enter Tryd.func48, Tryd.ntmps48
  go_wp2_with fail
  refine (RAll_any s w hs).mono ?_
  rw [hr.out]
  rintro e w2 ⟨ad, cp, rfl, hown, hb2⟩
  rw [hcs.out] at hown
  rw [hcs.out, hbs.out]
  have hz2 := hb2.size
  rcases own_shape hown with ⟨rfl, hn0, rfl⟩ | ⟨g, rfl, hg1, hg2⟩
  · have hcn : Hid (cs = []) := List.eq_nil_of_length_eq_zero hn0
    rw [hn0]
    clear hown hn0
    go_wp2_with fail
    refine wp_loop_rounds 1 ?_
    rw [rounds_succ]
    go_wp2_with fail
    go_ret2
    exact ⟨by rw [hfin.out.1, hfin.out.2, hcn.out]; rfl, hb2⟩
  · have HOWN := Lib.hid hown
    clear hown
    go_wp2_with fail
    go_loopw [8, 9] (fun out i wr => ∃ (k : Nat) (acc : List UInt8), k ≤ cs.length ∧ i = .int .i64 k ∧ out = .string ⟨acc.toArray⟩ ∧ Hid (acc = (cs.take k).flatMap (writtenL true)) ∧ acc.length ≤ 6 * k ∧ Below w2.heap.size w2 wr) (fun _ i _ => cs.length - (intOf i).toNat)
    case atStart => exact ⟨0, [], Nat.zero_le _, rfl, rfl, rfl, by simp, Below.refl _ _⟩
    case round =>
      obtain ⟨k, acc, hk, rfl, rfl, hacc, hal, hbel⟩ := hrel
      have hzr := hbel.size
      by_cases hlt : k < cs.length
      · obtain ⟨c, hc⟩ : ∃ c, Hid (cs[k]? = some c) := ⟨cs[k], List.getElem?_eq_getElem _⟩
        have hcell : wr.cell? ⟨g, k, none⟩ = some (.int .i32 c) := by
          rw [hbel.cell (p := ⟨g, k, none⟩) hg2]
          exact own_cell HOWN.out k _ (by rw [List.getElem?_map, hc.out]; rfl)
        have hnext : Hid (acc ++ writtenL true c = (cs.take (k + 1)).flatMap (writtenL true)) := by
          show _ = _
          rw [List.take_add_one, hc.out, hacc.out]; simp
        have hwl := writtenL_len true c
        have hpl := putF_len c
        by_cases h38 : c = 38
        · subst h38
          have hw : Hid (writtenL true 38 = [38, 97, 109, 112, 59]) := by show _ = _; simp [writtenL]
          go_wp2_with fail
          refine (RPut_any _ _).mono ?_
          rintro e w3 ⟨rfl, hb3⟩
          have hcell3 : w3.cell? ⟨g, k, none⟩ = some (.int .i32 38) := by
            rw [hb3.cell (p := ⟨g, k, none⟩) (by show g < _; omega)]; exact hcell
          go_wp2
          go_roundw
          case rel => exact ⟨k + 1, acc ++ writtenL true 38, by omega, by go_num, by rw [hw.out]; exact congrArg Value.string (str_app _ _), hnext, by rw [List.length_append]; omega, hbel.trans (hb3.mono (by omega))⟩
          case measure => simp [intOf]; omega
        by_cases h60 : c = 60
        · subst h60
          have hw : Hid (writtenL true 60 = [38, 108, 116, 59]) := by show _ = _; simp [writtenL]
          go_wp2_with fail
          refine (RPut_any _ _).mono ?_
          rintro e w3 ⟨rfl, hb3⟩
          have hcell3 : w3.cell? ⟨g, k, none⟩ = some (.int .i32 60) := by
            rw [hb3.cell (p := ⟨g, k, none⟩) (by show g < _; omega)]; exact hcell
          go_wp2
          go_roundw
          case rel => exact ⟨k + 1, acc ++ writtenL true 60, by omega, by go_num, by rw [hw.out]; exact congrArg Value.string (str_app _ _), hnext, by rw [List.length_append]; omega, hbel.trans (hb3.mono (by omega))⟩
          case measure => simp [intOf]; omega
        by_cases h62 : c = 62
        · subst h62
          have hw : Hid (writtenL true 62 = [38, 103, 116, 59]) := by show _ = _; simp [writtenL]
          go_wp2_with fail
          refine (RPut_any _ _).mono ?_
          rintro e w3 ⟨rfl, hb3⟩
          have hcell3 : w3.cell? ⟨g, k, none⟩ = some (.int .i32 62) := by
            rw [hb3.cell (p := ⟨g, k, none⟩) (by show g < _; omega)]; exact hcell
          go_wp2
          go_roundw
          case rel => exact ⟨k + 1, acc ++ writtenL true 62, by omega, by go_num, by rw [hw.out]; exact congrArg Value.string (str_app _ _), hnext, by rw [List.length_append]; omega, hbel.trans (hb3.mono (by omega))⟩
          case measure => simp [intOf]; omega
        by_cases h13 : c = 13
        · subst h13
          have hw : Hid (writtenL true 13 = [38, 35, 49, 51, 59]) := by show _ = _; simp [writtenL]
          go_wp2_with fail
          refine (RPut_any _ _).mono ?_
          rintro e w3 ⟨rfl, hb3⟩
          have hcell3 : w3.cell? ⟨g, k, none⟩ = some (.int .i32 13) := by
            rw [hb3.cell (p := ⟨g, k, none⟩) (by show g < _; omega)]; exact hcell
          go_wp2
          go_roundw
          case rel => exact ⟨k + 1, acc ++ writtenL true 13, by omega, by go_num, by rw [hw.out]; exact congrArg Value.string (str_app _ _), hnext, by rw [List.length_append]; omega, hbel.trans (hb3.mono (by omega))⟩
          case measure => simp [intOf]; omega
        by_cases h34 : c = 34
        · subst h34
          have hw : Hid (writtenL true 34 = [38, 113, 117, 111, 116, 59]) := by show _ = _; simp [writtenL]
          go_wp2_with fail
          refine (RPut_any _ _).mono ?_
          rintro e w3 ⟨rfl, hb3⟩
          have hcell3 : w3.cell? ⟨g, k, none⟩ = some (.int .i32 34) := by
            rw [hb3.cell (p := ⟨g, k, none⟩) (by show g < _; omega)]; exact hcell
          go_wp2
          go_roundw
          case rel => exact ⟨k + 1, acc ++ writtenL true 34, by omega, by go_num, by rw [hw.out]; exact congrArg Value.string (str_app _ _), hnext, by rw [List.length_append]; omega, hbel.trans (hb3.mono (by omega))⟩
          case measure => simp [intOf]; omega
        by_cases h9 : c = 9
        · subst h9
          have hw : Hid (writtenL true 9 = [38, 35, 57, 59]) := by show _ = _; simp [writtenL]
          go_wp2_with fail
          refine (RPut_any _ _).mono ?_
          rintro e w3 ⟨rfl, hb3⟩
          have hcell3 : w3.cell? ⟨g, k, none⟩ = some (.int .i32 9) := by
            rw [hb3.cell (p := ⟨g, k, none⟩) (by show g < _; omega)]; exact hcell
          go_wp2
          go_roundw
          case rel => exact ⟨k + 1, acc ++ writtenL true 9, by omega, by go_num, by rw [hw.out]; exact congrArg Value.string (str_app _ _), hnext, by rw [List.length_append]; omega, hbel.trans (hb3.mono (by omega))⟩
          case measure => simp [intOf]; omega
        by_cases h10 : c = 10
        · subst h10
          have hw : Hid (writtenL true 10 = [38, 35, 49, 48, 59]) := by show _ = _; simp [writtenL]
          go_wp2_with fail
          refine (RPut_any _ _).mono ?_
          rintro e w3 ⟨rfl, hb3⟩
          have hcell3 : w3.cell? ⟨g, k, none⟩ = some (.int .i32 10) := by
            rw [hb3.cell (p := ⟨g, k, none⟩) (by show g < _; omega)]; exact hcell
          go_wp2
          go_roundw
          case rel => exact ⟨k + 1, acc ++ writtenL true 10, by omega, by go_num, by rw [hw.out]; exact congrArg Value.string (str_app _ _), hnext, by rw [List.length_append]; omega, hbel.trans (hb3.mono (by omega))⟩
          case measure => simp [intOf]; omega
        have hw : Hid (writtenL true c = putF c) := by show _ = _; simp [writtenL, h38, h60, h62, h13, h34, h9, h10]
        have hb38 : (c == 38) = false := by simp; omega
        have hb60 : (c == 60) = false := by simp; omega
        have hb62 : (c == 62) = false := by simp; omega
        have hb13 : (c == 13) = false := by simp; omega
        have hb34 : (c == 34) = false := by simp; omega
        have hb9 : (c == 9) = false := by simp; omega
        have hb10 : (c == 10) = false := by simp; omega
        clear h38 h60 h62 h13 h34 h9 h10
        go_wp2_with fail
        refine (RPut_any _ _).mono ?_
        rintro e w3 ⟨rfl, hb3⟩
        have hcell3 : w3.cell? ⟨g, k, none⟩ = some (.int .i32 c) := by
          rw [hb3.cell (p := ⟨g, k, none⟩) (by show g < _; omega)]; exact hcell
        go_wp2
        go_roundw
        case rel => exact ⟨k + 1, acc ++ writtenL true c, by omega, by go_num, by rw [hw.out]; exact congrArg Value.string (str_app _ _), hnext, by rw [List.length_append]; omega, hbel.trans (hb3.mono (by omega))⟩
        case measure => simp [intOf]; omega
      · have hk' : k = cs.length := by omega
        have ha : Hid (acc = cs.flatMap (writtenL true)) := by
          have := hacc.out
          rw [hk', List.take_of_length_le (Nat.le_refl _)] at this
          exact this
        clear hk'
        go_wp2_with fail
        go_ret2
        exact ⟨by rw [hfin.out.1, hfin.out.2, ← ha.out]; rfl, hb2.trans (hbel.mono (by omega))⟩

set_option maxRecDepth 100000 in
set_option maxHeartbeats 4000000 in
theorem REscaped_false (s : ByteArray) (w : World) (hs : s.size ≤ 1000000000) :
    Calls Tryd.prog 48 #[.string s, .bool false] w (Ret w (.tuple #[.string ⟨((escL false s.data.toList).getD []).toArray⟩, .bool (escL false s.data.toList).isSome])) := by
  obtain ⟨r, hr⟩ : ∃ r, Hid (charsL s.data.toList = r) := ⟨_, rfl⟩
  have hes : Hid (escL false s.data.toList = r.map (fun cs => cs.flatMap (writtenL false))) := by show _ = _; unfold escL; rw [hr.out]
  obtain ⟨cs, hcs⟩ : ∃ cs, Hid (r.getD [] = cs) := ⟨_, rfl⟩
  obtain ⟨b, hbs⟩ : ∃ b, Hid (r.isSome = b) := ⟨_, rfl⟩
  have hfin : Hid (((escL false s.data.toList).getD [] = cs.flatMap (writtenL false)) ∧ (escL false s.data.toList).isSome = b) := by
    have h1 := hcs.out; have h2 := hbs.out
    show _ ∧ _
    rw [hes.out]
    cases r with
    | none => simp at h1 h2; subst h1; subst h2; exact ⟨rfl, rfl⟩
    | some x => simp at h1 h2; subst h1; subst h2; exact ⟨rfl, rfl⟩
  have hlen : cs.length ≤ s.size := by
    have h1 := hcs.out; have h2 := hr.out
    rw [← size_toList s]
    cases r with
    | none => simp at h1; subst h1; simp
    | some x => simp at h1; subst h1; exact charsL_len _ _ h2
  go_enter Tryd.func48, Tryd.ntmps48
  go_wp2_with fail
  refine (RAll_any s w hs).mono ?_
  rw [hr.out]
  rintro e w2 ⟨ad, cp, rfl, hown, hb2⟩
  rw [hcs.out] at hown
  rw [hcs.out, hbs.out]
  have hz2 := hb2.size
  rcases own_shape hown with ⟨rfl, hn0, rfl⟩ | ⟨g, rfl, hg1, hg2⟩
  · have hcn : Hid (cs = []) := List.eq_nil_of_length_eq_zero hn0
    rw [hn0]
    clear hown hn0
    go_wp2_with fail
    refine wp_loop_rounds 1 ?_
    rw [rounds_succ]
    go_wp2_with fail
    go_ret2
    exact ⟨by rw [hfin.out.1, hfin.out.2, hcn.out]; rfl, hb2⟩
  · have HOWN := Lib.hid hown
    clear hown
    go_wp2_with fail
    go_loopw [8, 9] (fun out i wr => ∃ (k : Nat) (acc : List UInt8), k ≤ cs.length ∧ i = .int .i64 k ∧ out = .string ⟨acc.toArray⟩ ∧ Hid (acc = (cs.take k).flatMap (writtenL false)) ∧ acc.length ≤ 6 * k ∧ Below w2.heap.size w2 wr) (fun _ i _ => cs.length - (intOf i).toNat)
    case atStart => exact ⟨0, [], Nat.zero_le _, rfl, rfl, rfl, by simp, Below.refl _ _⟩
    case round =>
      obtain ⟨k, acc, hk, rfl, rfl, hacc, hal, hbel⟩ := hrel
      have hzr := hbel.size
      by_cases hlt : k < cs.length
      · obtain ⟨c, hc⟩ : ∃ c, Hid (cs[k]? = some c) := ⟨cs[k], List.getElem?_eq_getElem _⟩
        have hcell : wr.cell? ⟨g, k, none⟩ = some (.int .i32 c) := by
          rw [hbel.cell (p := ⟨g, k, none⟩) hg2]
          exact own_cell HOWN.out k _ (by rw [List.getElem?_map, hc.out]; rfl)
        have hnext : Hid (acc ++ writtenL false c = (cs.take (k + 1)).flatMap (writtenL false)) := by
          show _ = _
          rw [List.take_add_one, hc.out, hacc.out]; simp
        have hwl := writtenL_len false c
        have hpl := putF_len c
        by_cases h38 : c = 38
        · subst h38
          have hw : Hid (writtenL false 38 = [38, 97, 109, 112, 59]) := by show _ = _; simp [writtenL]
          go_wp2_with fail
          refine (RPut_any _ _).mono ?_
          rintro e w3 ⟨rfl, hb3⟩
          have hcell3 : w3.cell? ⟨g, k, none⟩ = some (.int .i32 38) := by
            rw [hb3.cell (p := ⟨g, k, none⟩) (by show g < _; omega)]; exact hcell
          go_wp2
          go_roundw
          case rel => exact ⟨k + 1, acc ++ writtenL false 38, by omega, by go_num, by rw [hw.out]; exact congrArg Value.string (str_app _ _), hnext, by rw [List.length_append]; omega, hbel.trans (hb3.mono (by omega))⟩
          case measure => simp [intOf]; omega
        by_cases h60 : c = 60
        · subst h60
          have hw : Hid (writtenL false 60 = [38, 108, 116, 59]) := by show _ = _; simp [writtenL]
          go_wp2_with fail
          refine (RPut_any _ _).mono ?_
          rintro e w3 ⟨rfl, hb3⟩
          have hcell3 : w3.cell? ⟨g, k, none⟩ = some (.int .i32 60) := by
            rw [hb3.cell (p := ⟨g, k, none⟩) (by show g < _; omega)]; exact hcell
          go_wp2
          go_roundw
          case rel => exact ⟨k + 1, acc ++ writtenL false 60, by omega, by go_num, by rw [hw.out]; exact congrArg Value.string (str_app _ _), hnext, by rw [List.length_append]; omega, hbel.trans (hb3.mono (by omega))⟩
          case measure => simp [intOf]; omega
        by_cases h62 : c = 62
        · subst h62
          have hw : Hid (writtenL false 62 = [38, 103, 116, 59]) := by show _ = _; simp [writtenL]
          go_wp2_with fail
          refine (RPut_any _ _).mono ?_
          rintro e w3 ⟨rfl, hb3⟩
          have hcell3 : w3.cell? ⟨g, k, none⟩ = some (.int .i32 62) := by
            rw [hb3.cell (p := ⟨g, k, none⟩) (by show g < _; omega)]; exact hcell
          go_wp2
          go_roundw
          case rel => exact ⟨k + 1, acc ++ writtenL false 62, by omega, by go_num, by rw [hw.out]; exact congrArg Value.string (str_app _ _), hnext, by rw [List.length_append]; omega, hbel.trans (hb3.mono (by omega))⟩
          case measure => simp [intOf]; omega
        by_cases h13 : c = 13
        · subst h13
          have hw : Hid (writtenL false 13 = [38, 35, 49, 51, 59]) := by show _ = _; simp [writtenL]
          go_wp2_with fail
          refine (RPut_any _ _).mono ?_
          rintro e w3 ⟨rfl, hb3⟩
          have hcell3 : w3.cell? ⟨g, k, none⟩ = some (.int .i32 13) := by
            rw [hb3.cell (p := ⟨g, k, none⟩) (by show g < _; omega)]; exact hcell
          go_wp2
          go_roundw
          case rel => exact ⟨k + 1, acc ++ writtenL false 13, by omega, by go_num, by rw [hw.out]; exact congrArg Value.string (str_app _ _), hnext, by rw [List.length_append]; omega, hbel.trans (hb3.mono (by omega))⟩
          case measure => simp [intOf]; omega
        by_cases h34 : c = 34
        · subst h34
          have hw : Hid (writtenL false 34 = putF 34) := by show _ = _; simp [writtenL]
          go_wp2_with fail
          refine (RPut_any _ _).mono ?_
          rintro e w3 ⟨rfl, hb3⟩
          have hcell3 : w3.cell? ⟨g, k, none⟩ = some (.int .i32 34) := by
            rw [hb3.cell (p := ⟨g, k, none⟩) (by show g < _; omega)]; exact hcell
          go_wp2
          go_roundw
          case rel => exact ⟨k + 1, acc ++ writtenL false 34, by omega, by go_num, by rw [hw.out]; exact congrArg Value.string (str_app _ _), hnext, by rw [List.length_append]; omega, hbel.trans (hb3.mono (by omega))⟩
          case measure => simp [intOf]; omega
        by_cases h9 : c = 9
        · subst h9
          have hw : Hid (writtenL false 9 = putF 9) := by show _ = _; simp [writtenL]
          go_wp2_with fail
          refine (RPut_any _ _).mono ?_
          rintro e w3 ⟨rfl, hb3⟩
          have hcell3 : w3.cell? ⟨g, k, none⟩ = some (.int .i32 9) := by
            rw [hb3.cell (p := ⟨g, k, none⟩) (by show g < _; omega)]; exact hcell
          go_wp2
          go_roundw
          case rel => exact ⟨k + 1, acc ++ writtenL false 9, by omega, by go_num, by rw [hw.out]; exact congrArg Value.string (str_app _ _), hnext, by rw [List.length_append]; omega, hbel.trans (hb3.mono (by omega))⟩
          case measure => simp [intOf]; omega
        by_cases h10 : c = 10
        · subst h10
          have hw : Hid (writtenL false 10 = putF 10) := by show _ = _; simp [writtenL]
          go_wp2_with fail
          refine (RPut_any _ _).mono ?_
          rintro e w3 ⟨rfl, hb3⟩
          have hcell3 : w3.cell? ⟨g, k, none⟩ = some (.int .i32 10) := by
            rw [hb3.cell (p := ⟨g, k, none⟩) (by show g < _; omega)]; exact hcell
          go_wp2
          go_roundw
          case rel => exact ⟨k + 1, acc ++ writtenL false 10, by omega, by go_num, by rw [hw.out]; exact congrArg Value.string (str_app _ _), hnext, by rw [List.length_append]; omega, hbel.trans (hb3.mono (by omega))⟩
          case measure => simp [intOf]; omega
        have hw : Hid (writtenL false c = putF c) := by show _ = _; simp [writtenL, h38, h60, h62, h13, h34, h9, h10]
        have hb38 : (c == 38) = false := by simp; omega
        have hb60 : (c == 60) = false := by simp; omega
        have hb62 : (c == 62) = false := by simp; omega
        have hb13 : (c == 13) = false := by simp; omega
        have hb34 : (c == 34) = false := by simp; omega
        have hb9 : (c == 9) = false := by simp; omega
        have hb10 : (c == 10) = false := by simp; omega
        clear h38 h60 h62 h13 h34 h9 h10
        go_wp2_with fail
        refine (RPut_any _ _).mono ?_
        rintro e w3 ⟨rfl, hb3⟩
        have hcell3 : w3.cell? ⟨g, k, none⟩ = some (.int .i32 c) := by
          rw [hb3.cell (p := ⟨g, k, none⟩) (by show g < _; omega)]; exact hcell
        go_wp2
        go_roundw
        case rel => exact ⟨k + 1, acc ++ writtenL false c, by omega, by go_num, by rw [hw.out]; exact congrArg Value.string (str_app _ _), hnext, by rw [List.length_append]; omega, hbel.trans (hb3.mono (by omega))⟩
        case measure => simp [intOf]; omega
      · have hk' : k = cs.length := by omega
        have ha : Hid (acc = cs.flatMap (writtenL false)) := by
          have := hacc.out
          rw [hk', List.take_of_length_le (Nat.le_refl _)] at this
          exact this
        clear hk'
        go_wp2_with fail
        go_ret2
        exact ⟨by rw [hfin.out.1, hfin.out.2, ← ha.out]; rfl, hb2.trans (hbel.mono (by omega))⟩

theorem RValue_any (s : ByteArray) (w : World) (hs : s.size ≤ 1000000000) :
    Calls Tryd.prog 30 #[.string s] w (Ret w (.tuple #[.string ⟨((escL true s.data.toList).getD []).toArray⟩, .bool (escL true s.data.toList).isSome])) := by
  go_enter Tryd.func30, Tryd.ntmps30
  go_wp2_with (go_at_call 48; refine (REscaped_true s w hs).mono ?_; rintro e w2 ⟨rfl, hb2⟩)
  go_ret2
  exact ⟨rfl, hb2⟩
end Go.Proofs.YtpfhdklbhhpbcaaDoor

/-
  The walks of glyph.each without conditions, glyph.Count, ref01.Count, parse.chars, ref04.chars.
-/
namespace Go.Proofs.YtpfhdklbhhpbcaaDoor
open Go.RowKit

set_option maxRecDepth 100000 in
set_option maxHeartbeats 1000000 in
theorem each_none (s : ByteArray) (w : World) (hs : s.size ≤ maxLen) :
    Calls Tryd.prog 32 #[.string s, .slice none 0 0] w (Ret w (.int .i64 (countL s.data.toList))) := by
  unfold maxLen at hs
  go_enter Tryd.func32, Tryd.ntmps32
  go_wp2_with fail
  go_loopw [0, 5] (fun sv mv wr => ∃ (t : ByteArray) (k : Nat), sv = .string t ∧ mv = .int .i64 k ∧ k + t.size ≤ s.size ∧ Hid (charsL s.data.toList = none ↔ charsL t.data.toList = none) ∧ Hid (∀ cs, charsL t.data.toList = some cs → countL s.data.toList = k + cs.length) ∧ Below w.heap.size w wr) (fun sv _ _ => (strOf sv).size)
  case atStart =>
    refine ⟨s, 0, rfl, rfl, by omega, Iff.rfl, ?_, Below.refl _ _⟩
    intro cs hcs
    unfold countL; rw [hcs]; simp
  case round =>
    obtain ⟨t, k, rfl, rfl, hkt, hno, hyes, hbel⟩ := hrel
    have hwr := hbel.size
    have HL := Lib.hid (size_toList t)
    by_cases he : t.toList.isEmpty = true
    · have hnil : t.data.toList = [] := by rw [ByteArray.toList_eq] at he; simpa using he
      have hv : Hid (countL s.data.toList = k) := by
        have := hyes.out [] (by rw [hnil]; rfl)
        show _ = _
        rw [this]; simp
      clear hnil
      go_wp2_with fail
      go_ret
      exact ⟨by rw [hv.out]; rfl, hbel⟩
    · have hne : t.toList.isEmpty = false := by simpa using he
      clear he
      have hnn : Hid (t.data.toList ≠ []) := by
        intro h
        rw [ByteArray.toList_eq, h] at hne
        cases hne
      obtain ⟨c, n, hq⟩ : ∃ c n, Hid (nextL t.data.toList = (c, n)) := ⟨_, _, rfl⟩
      have hle := nextL_le t.data.toList
      rw [hq.out, HL.out] at hle
      obtain ⟨hn1, hn4⟩ := hle
      simp only at hn1 hn4
      by_cases hn : n = 0
      · have hv : Hid (countL s.data.toList = -1) := by
          have := hno.out.2 (charsL_bad _ hnn.out (by rw [hq.out]; exact hn))
          show _ = _
          unfold countL; rw [this]
        have hn0 : ((n : Int) == 0) = true := by simp [hn]
        clear hn
        go_wp2_with (go_at_call 49; refine (Next_as t wr (by unfold maxLen; omega) c n hq).mono ?_; rintro e w2 ⟨rfl, hb2⟩)
        go_ret
        exact ⟨by rw [hv.out]; rfl, hbel.trans (hb2.mono (by omega))⟩
      · have hn0 : ((n : Int) == 0) = false := by simp [hn]
        have hst := charsL_step t.data.toList hnn.out (by rw [hq.out]; exact hn)
        rw [hq.out] at hst
        have HS := Lib.hid hst
        clear hst
        have hnp : 1 ≤ n := by omega
        clear hn
        go_wp2_with fail
        refine (Next_as t wr (by unfold maxLen; omega) c n hq).mono ?_
        rintro e w2 ⟨rfl, hb2⟩
        obtain ⟨wo, rfl⟩ : ∃ wo : World, wo = wr := ⟨_, rfl⟩
        go_wp2_with fail
        refine wp_loop_rounds 1 ?_
        rw [rounds_succ]
        go_wp2_with fail
        go_roundw
        case rel =>
          have hx : (t.extract n t.size).data.toList = t.data.toList.drop n := Lib.extract_to_end t n
          have hxs : (t.extract n t.size).size = t.size - n := by simp
          refine ⟨t.extract n t.size, k + 1, rfl, by go_num, by omega, ?_, ?_, hbel.trans (hb2.mono (by omega))⟩
          · show _ ↔ _
            rw [hno.out, HS.out, hx]
            cases charsL (t.data.toList.drop n) <;> simp
          · intro cs hcs
            rw [hx] at hcs
            have := hyes.out (c :: cs) (by rw [HS.out, hcs]; rfl)
            rw [this, List.length_cons]; omega
        case measure =>
          have hxs : (t.extract n t.size).size = t.size - n := by simp
          show (t.extract n t.size).size < t.size
          omega

theorem Count_any (s : ByteArray) (w : World) (hs : s.size ≤ maxLen) :
    Calls Tryd.prog 36 #[.string s] w (Ret w (.int .i64 (countL s.data.toList))) := by
  go_enter Tryd.func36, Tryd.ntmps36
  go_wp2_with (go_at_call 32; refine (each_none s _ hs).mono ?_; rintro e w2 ⟨rfl, hb2⟩)
  go_ret
  exact ⟨rfl, hb2⟩

theorem Count_as (s : ByteArray) (w : World) (hs : s.size ≤ maxLen) (n : Int) (h : Hid (countL s.data.toList = n)) :
    Calls Tryd.prog 36 #[.string s] w (Ret w (.int .i64 n)) := by
  have := Count_any s w hs
  rw [h.out] at this
  exact this


set_option maxRecDepth 100000 in
set_option maxHeartbeats 1000000 in
theorem RCount_as (s : ByteArray) (w : World) (hs : s.size ≤ 1000000000) (n : Int) (h : Hid (countL s.data.toList = n)) :
    Calls Tryd.prog 40 #[.string s] w (Ret w (.int .i64 n)) := by
  obtain ⟨r, hr⟩ : ∃ r, Hid (charsL s.data.toList = r) := ⟨_, rfl⟩
  have hn := h.out
  unfold countL at hn
  rw [hr.out] at hn
  subst hn
  cases r with
  | none =>
    go_enter Tryd.func40, Tryd.ntmps40
    go_wp2_with fail
    refine (RAll_any s w hs).mono ?_
    rw [hr.out]
    rintro e w2 ⟨ad, cp, rfl, hown, hb2⟩
    clear hown
    go_wp2_with fail
    go_ret
    exact ⟨rfl, hb2⟩
  | some cs =>
    go_enter Tryd.func40, Tryd.ntmps40
    go_wp2_with fail
    refine (RAll_any s w hs).mono ?_
    rw [hr.out]
    rintro e w2 ⟨ad, cp, rfl, hown, hb2⟩
    clear hown
    go_wp2_with fail
    go_ret
    exact ⟨rfl, hb2⟩

end Go.Proofs.YtpfhdklbhhpbcaaDoor

/-
  The walk of pathq.right.
-/
namespace Go.Proofs.YtpfhdklbhhpbcaaDoor
open Go.RowKit

def SmallPred (p : PredD) : Prop := p.name.length ≤ 1000000000 ∧ p.value.length ≤ 1000000000
theorem Count_q (s : List UInt8) (w : World) (hs : s.length ≤ 1000000000) (n : Int) (h : Hid (countL s = n)) :
    Calls Tryd.prog 36 #[.string ⟨s.toArray⟩] w (Ret w (.int .i64 n)) := Count_as _ w (by show s.toArray.size ≤ maxLen; unfold maxLen; simp; omega) n h

set_option maxRecDepth 100000 in
set_option maxHeartbeats 4000000 in
theorem right_1 (num : Int) (name value : List UInt8) (w : World) :
    Calls Tryd.prog 23 #[.agg #[.int .i64 1, .int .i64 num, .string ⟨name.toArray⟩, .string ⟨value.toArray⟩]] w (Ret w (.bool (decide (1 ≤ num ∧ num ≤ 9999) && decide (name = [] ∧ value = [])))) := by
  go_enter Tryd.func23, Tryd.ntmps23
  go_wp2_with fail
  all_goals go_ret
  all_goals refine ⟨?_, (Below.refl _ w).alloc (Nat.le_refl _) _⟩
  all_goals (refine congrArg (fun b => Ending.returned (Value.bool b)) ?_)
  all_goals simp_all
  all_goals omega
set_option maxRecDepth 100000 in
set_option maxHeartbeats 4000000 in
theorem right_2 (num : Int) (name value : List UInt8) (w : World) :
    Calls Tryd.prog 23 #[.agg #[.int .i64 2, .int .i64 num, .string ⟨name.toArray⟩, .string ⟨value.toArray⟩]] w (Ret w (.bool (decide (num = 0 ∧ name = [] ∧ value = [])))) := by
  go_enter Tryd.func23, Tryd.ntmps23
  go_wp2_with fail
  all_goals go_ret
  all_goals refine ⟨?_, (Below.refl _ w).alloc (Nat.le_refl _) _⟩
  all_goals (refine congrArg (fun b => Ending.returned (Value.bool b)) ?_)
  all_goals simp_all

set_option maxRecDepth 100000 in
set_option maxHeartbeats 4000000 in
theorem right_3 (num : Int) (name value : List UInt8) (w : World) (hn : name.length ≤ 1000000000) :
    Calls Tryd.prog 23 #[.agg #[.int .i64 3, .int .i64 num, .string ⟨name.toArray⟩, .string ⟨value.toArray⟩]] w (Ret w (.bool (nameL name && decide (num = 0 ∧ value = [])))) := by
  obtain ⟨v, hv⟩ : ∃ v, Hid (nameL name = v) := ⟨_, rfl⟩
  rw [hv.out]
  obtain ⟨W1, hW1⟩ : ∃ W1, Hid (W1 = w.alloc (.cells #[.int .i64 3, .int .i64 num, .string ⟨name.toArray⟩, .string ⟨value.toArray⟩] 39)) := ⟨_, rfl⟩
  have hb1 : Below w.heap.size w W1 := by rw [hW1.out]; exact (Below.refl _ w).alloc (Nat.le_refl _) _
  have hz1 : w.heap.size < W1.heap.size := by rw [hW1.out]; simp
  have y : ∀ (j : Nat) (u : Value), (#[.int .i64 3, .int .i64 num, .string ⟨name.toArray⟩, .string ⟨value.toArray⟩] : Array Value)[j]? = some u → W1.cell? ⟨w.heap.size, j, none⟩ = some u := fun j u hu => by rw [hW1.out, World.cell?_alloc_at _ _ _ _ rfl]; exact hu
  have HY := Lib.hid y
  clear y
  go_enter Tryd.func23, Tryd.ntmps23
  go_wp2_with fail
  rw [← hW1.out]
  refine (Name_q name W1 hn v hv).mono ?_
  rintro e w2 ⟨rfl, hb2⟩
  have c0 : w2.cell? ⟨w.heap.size, 0, none⟩ = some (.int .i64 3) := (hb2.cell hz1).trans (HY.out 0 _ rfl)
  have c1 : w2.cell? ⟨w.heap.size, 1, none⟩ = some (.int .i64 num) := (hb2.cell hz1).trans (HY.out 1 _ rfl)
  have c2 : w2.cell? ⟨w.heap.size, 2, none⟩ = some (.string ⟨name.toArray⟩) := (hb2.cell hz1).trans (HY.out 2 _ rfl)
  have c3 : w2.cell? ⟨w.heap.size, 3, none⟩ = some (.string ⟨value.toArray⟩) := (hb2.cell hz1).trans (HY.out 3 _ rfl)
  have HB := Lib.hid (hb1.trans (hb2.mono (Nat.le_of_lt hz1)))
  clear hb1 hb2
  cases v with
  | false =>
    go_wp2_with fail
    all_goals go_ret
    all_goals refine ⟨?_, HB.out⟩
    all_goals (refine congrArg (fun b => Ending.returned (Value.bool b)) ?_)
    all_goals simp_all
    all_goals (intros; omega)
  | true =>
    go_wp2_with fail
    all_goals go_ret
    all_goals refine ⟨?_, HB.out⟩
    all_goals (refine congrArg (fun b => Ending.returned (Value.bool b)) ?_)
    all_goals simp_all
    all_goals (intros; omega)
set_option maxRecDepth 100000 in
set_option maxHeartbeats 4000000 in
theorem right_5 (num : Int) (name value : List UInt8) (w : World) (hn : value.length ≤ 1000000000) :
    Calls Tryd.prog 23 #[.agg #[.int .i64 5, .int .i64 num, .string ⟨name.toArray⟩, .string ⟨value.toArray⟩]] w (Ret w (.bool (decide (0 ≤ countL value) && decide (num = 0 ∧ name = [])))) := by
  obtain ⟨n, hv⟩ : ∃ n, Hid (countL value = n) := ⟨_, rfl⟩
  rw [hv.out]
  obtain ⟨W1, hW1⟩ : ∃ W1, Hid (W1 = w.alloc (.cells #[.int .i64 5, .int .i64 num, .string ⟨name.toArray⟩, .string ⟨value.toArray⟩] 39)) := ⟨_, rfl⟩
  have hb1 : Below w.heap.size w W1 := by rw [hW1.out]; exact (Below.refl _ w).alloc (Nat.le_refl _) _
  have hz1 : w.heap.size < W1.heap.size := by rw [hW1.out]; simp
  have y : ∀ (j : Nat) (u : Value), (#[.int .i64 5, .int .i64 num, .string ⟨name.toArray⟩, .string ⟨value.toArray⟩] : Array Value)[j]? = some u → W1.cell? ⟨w.heap.size, j, none⟩ = some u := fun j u hu => by rw [hW1.out, World.cell?_alloc_at _ _ _ _ rfl]; exact hu
  have HY := Lib.hid y
  clear y
  go_enter Tryd.func23, Tryd.ntmps23
  go_wp2_with fail
  rw [← hW1.out]
  refine (Count_q value W1 hn n hv).mono ?_
  rintro e w2 ⟨rfl, hb2⟩
  have c0 : w2.cell? ⟨w.heap.size, 0, none⟩ = some (.int .i64 5) := (hb2.cell hz1).trans (HY.out 0 _ rfl)
  have c1 : w2.cell? ⟨w.heap.size, 1, none⟩ = some (.int .i64 num) := (hb2.cell hz1).trans (HY.out 1 _ rfl)
  have c2 : w2.cell? ⟨w.heap.size, 2, none⟩ = some (.string ⟨name.toArray⟩) := (hb2.cell hz1).trans (HY.out 2 _ rfl)
  have c3 : w2.cell? ⟨w.heap.size, 3, none⟩ = some (.string ⟨value.toArray⟩) := (hb2.cell hz1).trans (HY.out 3 _ rfl)
  have HB := Lib.hid (hb1.trans (hb2.mono (Nat.le_of_lt hz1)))
  clear hb1 hb2
  by_cases h0 : 0 ≤ n
  · have d0 : decide (0 ≤ n) = true := decide_eq_true h0
    rw [d0]
    clear d0
    go_wp2_with fail
    all_goals go_ret
    all_goals refine ⟨?_, HB.out⟩
    all_goals (refine congrArg (fun b => Ending.returned (Value.bool b)) ?_)
    all_goals simp_all
    all_goals (intros; omega)
  · have d0 : decide (0 ≤ n) = false := decide_eq_false h0
    have h0' : n < 0 := by omega
    rw [d0]
    clear h0 d0
    go_wp2_with fail
    all_goals go_ret
    all_goals refine ⟨?_, HB.out⟩
    all_goals (refine congrArg (fun b => Ending.returned (Value.bool b)) ?_)
    all_goals simp_all
    all_goals (intros; omega)
set_option maxRecDepth 100000 in
set_option maxHeartbeats 4000000 in
theorem right_4 (num : Int) (name value : List UInt8) (w : World) (hn : name.length ≤ 1000000000) (hv' : value.length ≤ 1000000000) :
    Calls Tryd.prog 23 #[.agg #[.int .i64 4, .int .i64 num, .string ⟨name.toArray⟩, .string ⟨value.toArray⟩]] w (Ret w (.bool (nameL name && (decide (0 ≤ countL value) && decide (num = 0))))) := by
  obtain ⟨v, hv⟩ : ∃ v, Hid (nameL name = v) := ⟨_, rfl⟩
  obtain ⟨n, hc⟩ : ∃ n, Hid (countL value = n) := ⟨_, rfl⟩
  rw [hv.out, hc.out]
  obtain ⟨W1, hW1⟩ : ∃ W1, Hid (W1 = w.alloc (.cells #[.int .i64 4, .int .i64 num, .string ⟨name.toArray⟩, .string ⟨value.toArray⟩] 39)) := ⟨_, rfl⟩
  have hb1 : Below w.heap.size w W1 := by rw [hW1.out]; exact (Below.refl _ w).alloc (Nat.le_refl _) _
  have hz1 : w.heap.size < W1.heap.size := by rw [hW1.out]; simp
  have y : ∀ (j : Nat) (u : Value), (#[.int .i64 4, .int .i64 num, .string ⟨name.toArray⟩, .string ⟨value.toArray⟩] : Array Value)[j]? = some u → W1.cell? ⟨w.heap.size, j, none⟩ = some u := fun j u hu => by rw [hW1.out, World.cell?_alloc_at _ _ _ _ rfl]; exact hu
  have HY := Lib.hid y
  clear y
  go_enter Tryd.func23, Tryd.ntmps23
  go_wp2_with fail
  rw [← hW1.out]
  refine (Name_q name W1 hn v hv).mono ?_
  rintro e w2 ⟨rfl, hb2⟩
  have hz2 := hb2.size
  have c1 : w2.cell? ⟨w.heap.size, 1, none⟩ = some (.int .i64 num) := (hb2.cell hz1).trans (HY.out 1 _ rfl)
  have c3 : w2.cell? ⟨w.heap.size, 3, none⟩ = some (.string ⟨value.toArray⟩) := (hb2.cell hz1).trans (HY.out 3 _ rfl)
  have HC1 := Lib.hid c1
  have HB := Lib.hid (hb1.trans (hb2.mono (Nat.le_of_lt hz1)))
  clear hb1 hb2
  cases v with
  | false =>
    go_wp2_with fail
    all_goals go_ret
    all_goals refine ⟨?_, HB.out⟩
    all_goals (refine congrArg (fun b => Ending.returned (Value.bool b)) ?_)
    all_goals simp_all
    all_goals (intros; omega)
  | true =>
    go_wp2_with fail
    refine (Count_q value w2 hv' n hc).mono ?_
    rintro e w3 ⟨rfl, hb3⟩
    have c1 : w3.cell? ⟨w.heap.size, 1, none⟩ = some (.int .i64 num) := (hb3.cell (p := ⟨w.heap.size, 1, none⟩) (by show w.heap.size < _; omega)).trans HC1.out
    have HB3 := Lib.hid (HB.out.trans (hb3.mono (by omega)))
    clear hb3 c3
    by_cases h0 : 0 ≤ n
    · have d0 : decide (0 ≤ n) = true := decide_eq_true h0
      rw [d0]
      clear d0
      by_cases hz : num = 0
      · subst hz
        go_wp2_with fail
        all_goals go_ret
        all_goals refine ⟨?_, HB3.out⟩
        all_goals (refine congrArg (fun b => Ending.returned (Value.bool b)) ?_)
        all_goals simp_all
        all_goals (intros; omega)
      · have e0 : (num == 0) = false := by simpa using hz
        rw [decide_eq_false hz]
        clear hz
        go_wp2_with fail
        all_goals go_ret
        all_goals refine ⟨?_, HB3.out⟩
        all_goals (refine congrArg (fun b => Ending.returned (Value.bool b)) ?_)
        all_goals simp_all
        all_goals (intros; omega)
    · have d0 : decide (0 ≤ n) = false := decide_eq_false h0
      have h0' : n < 0 := by omega
      rw [d0]
      clear h0 d0
      go_wp2_with fail
      all_goals go_ret
      all_goals refine ⟨?_, HB3.out⟩
      all_goals (refine congrArg (fun b => Ending.returned (Value.bool b)) ?_)
      all_goals simp_all
      all_goals (intros; omega)
set_option maxRecDepth 100000 in
set_option maxHeartbeats 4000000 in
theorem right_no (k num : Int) (name value : List UInt8) (w : World) (h1 : k ≠ 1) (h2 : k ≠ 2) (h3 : k ≠ 3) (h4 : k ≠ 4) (h5 : k ≠ 5) :
    Calls Tryd.prog 23 #[.agg #[.int .i64 k, .int .i64 num, .string ⟨name.toArray⟩, .string ⟨value.toArray⟩]] w (Ret w (.bool false)) := by
  have e1 : (k == 1) = false := by simpa using h1
  have e2 : (k == 2) = false := by simpa using h2
  have e3 : (k == 3) = false := by simpa using h3
  have e4 : (k == 4) = false := by simpa using h4
  have e5 : (k == 5) = false := by simpa using h5
  clear h1 h2 h3 h4 h5
  go_enter Tryd.func23, Tryd.ntmps23
  go_wp2_with fail
  go_ret
  exact ⟨rfl, (Below.refl _ w).alloc (Nat.le_refl _) _⟩
theorem right_any (p : PredD) (w : World) (hp : SmallPred p) (v : Bool) (hv : Hid (predB p = v)) : Calls Tryd.prog 23 #[.agg (predC p)] w (Ret w (.bool v)) := by
  rw [← hv.out]
  obtain ⟨k, n, name, value⟩ := p
  obtain ⟨hn, hvl⟩ := hp
  unfold predB predC
  simp only
  by_cases h1 : k = 1
  · subst h1; rw [if_pos rfl]; exact right_1 n name value w
  rw [if_neg h1]
  by_cases h2 : k = 2
  · subst h2; rw [if_pos rfl]; exact right_2 n name value w
  rw [if_neg h2]
  by_cases h3 : k = 3
  · subst h3; rw [if_pos rfl]; exact right_3 n name value w hn
  rw [if_neg h3]
  by_cases h4 : k = 4
  · subst h4; rw [if_pos rfl]; exact right_4 n name value w hn hvl
  rw [if_neg h4]
  by_cases h5 : k = 5
  · subst h5; rw [if_pos rfl]; exact right_5 n name value w hvl
  rw [if_neg h5]
  exact right_no k n name value w h1 h2 h3 h4 h5
end Go.Proofs.YtpfhdklbhhpbcaaDoor

/-
  Steps in memory; the walk of pathq.Right.
-/
namespace Go.Proofs.YtpfhdklbhhpbcaaDoor
open Go.RowKit

/-- A row of predicates at an address: four cells each. -/
def PredsAt (w : World) (B : Nat) (A : Option Addr) (l : List PredD) : Prop :=
  0 < l.length → ∃ ad, A = some ad ∧ ad.block < B ∧ ∀ k p, l[k]? = some p → w.cell? (ad.add (k * 4)) = some (.int .i64 p.kind) ∧ w.cell? ⟨(ad.add (k * 4)).block, (ad.add (k * 4)).off + 1, none⟩ = some (.int .i64 p.num) ∧
    w.cell? ⟨(ad.add (k * 4)).block, (ad.add (k * 4)).off + 2, none⟩ = some (.string ⟨p.name.toArray⟩) ∧ w.cell? ⟨(ad.add (k * 4)).block, (ad.add (k * 4)).off + 3, none⟩ = some (.string ⟨p.value.toArray⟩)
/-- A row of steps at an address: four cells each. -/
def StepsAt (w : World) (B : Nat) (A : Option Addr) (l : List StepD) : Prop :=
  0 < l.length → ∃ ad, A = some ad ∧ ad.block < B ∧ ∀ k s, l[k]? = some s → ∃ A' c, PredsAt w B A' s.preds ∧ s.preds.length ≤ c ∧
    w.cell? (ad.add (k * 4)) = some (.int .i64 s.axis) ∧ w.cell? ⟨(ad.add (k * 4)).block, (ad.add (k * 4)).off + 1, none⟩ = some (.int .i64 s.test) ∧
    w.cell? ⟨(ad.add (k * 4)).block, (ad.add (k * 4)).off + 2, none⟩ = some (.string ⟨s.name.toArray⟩) ∧ w.cell? ⟨(ad.add (k * 4)).block, (ad.add (k * 4)).off + 3, none⟩ = some (.slice A' s.preds.length c)
section
variable {w w' : World} {B B' : Nat} {A : Option Addr}
theorem PredsAt.keep {l : List PredD} (h : PredsAt w B A l) (hk : ∀ p : Addr, p.block < B → w'.cell? p = w.cell? p) : PredsAt w' B A l := fun hn => by
  obtain ⟨ad, e, hb, hc⟩ := h hn
  have hk' : ∀ k n, w'.cell? ⟨(ad.add (k * 4)).block, n, none⟩ = w.cell? ⟨(ad.add (k * 4)).block, n, none⟩ := fun k n => hk _ (by show (ad.add _).block < B; rw [block_of_add]; exact hb)
  refine ⟨ad, e, hb, fun k p hp => ?_⟩
  obtain ⟨h0, h1, h2, h3⟩ := hc k p hp
  exact ⟨(hk _ (by rw [block_of_add]; exact hb)).trans h0, (hk' k _).trans h1, (hk' k _).trans h2, (hk' k _).trans h3⟩
theorem PredsAt.more {l : List PredD} (h : PredsAt w B A l) (hB : B ≤ B') : PredsAt w B' A l := fun hn => by
  obtain ⟨ad, e, hb, hc⟩ := h hn
  exact ⟨ad, e, by omega, hc⟩
theorem StepsAt.keep {l : List StepD} (h : StepsAt w B A l) (hk : ∀ p : Addr, p.block < B → w'.cell? p = w.cell? p) : StepsAt w' B A l := fun hn => by
  obtain ⟨ad, e, hb, hc⟩ := h hn
  have hk' : ∀ k n, w'.cell? ⟨(ad.add (k * 4)).block, n, none⟩ = w.cell? ⟨(ad.add (k * 4)).block, n, none⟩ := fun k n => hk _ (by show (ad.add _).block < B; rw [block_of_add]; exact hb)
  refine ⟨ad, e, hb, fun k s hs => ?_⟩
  obtain ⟨A', c, hp, hcc, h0, h1, h2, h3⟩ := hc k s hs
  exact ⟨A', c, hp.keep hk, hcc, (hk _ (by rw [block_of_add]; exact hb)).trans h0, (hk' k _).trans h1, (hk' k _).trans h2, (hk' k _).trans h3⟩
theorem StepsAt.more {l : List StepD} (h : StepsAt w B A l) (hB : B ≤ B') : StepsAt w B' A l := fun hn => by
  obtain ⟨ad, e, hb, hc⟩ := h hn
  refine ⟨ad, e, by omega, fun k s hs => ?_⟩
  obtain ⟨A', c, hp, hcc⟩ := hc k s hs
  exact ⟨A', c, hp.more hB, hcc⟩
theorem PredsAt.below {l : List PredD} (h : PredsAt w B A l) (hb : Below B w w') : PredsAt w' B A l := h.keep fun _ hp => hb.cell hp
theorem StepsAt.below {l : List StepD} (h : StepsAt w B A l) (hb : Below B w w') : StepsAt w' B A l := h.keep fun _ hp => hb.cell hp
theorem StepsAt.later {l : List StepD} (h : StepsAt w w.heap.size A l) (hb : Below w.heap.size w w') : StepsAt w' w'.heap.size A l := (h.below hb).more hb.size
theorem StepsAt.item {ad : Addr} {l : List StepD} (h : StepsAt w B (some ad) l) {k : Nat} {s : StepD} (hs : l[k]? = some s) : ad.block < B ∧ ∃ A' c, PredsAt w B A' s.preds ∧ s.preds.length ≤ c ∧
    w.cell? (ad.add (k * 4)) = some (.int .i64 s.axis) ∧ w.cell? ⟨(ad.add (k * 4)).block, (ad.add (k * 4)).off + 1, none⟩ = some (.int .i64 s.test) ∧
    w.cell? ⟨(ad.add (k * 4)).block, (ad.add (k * 4)).off + 2, none⟩ = some (.string ⟨s.name.toArray⟩) ∧ w.cell? ⟨(ad.add (k * 4)).block, (ad.add (k * 4)).off + 3, none⟩ = some (.slice A' s.preds.length c) := by
  obtain ⟨ad', e, hb, hc⟩ := h (by have := (List.getElem?_eq_some_iff.1 hs).1; omega)
  injection e with e; subst e
  exact ⟨hb, hc k s hs⟩
end
/-- rows of a call's own, as rows at an address -/
theorem PredsOwn.at {w : World} {B : Nat} {A : Option Addr} {c : Nat} {l : List PredD} (h : PredsOwn w B A c l) : PredsAt w w.heap.size A l := fun hl => by
  obtain ⟨g, rfl, hb, hg, _, hc⟩ := own_flat cellsP cellsP_length h hl
  refine ⟨_, rfl, hg, fun k p hp => ?_⟩
  have e : ∀ j u, (cellsP p)[j]? = some u → w.cell? ⟨g, k * 4 + j, none⟩ = some u := fun j u hu => by
    have := hc k p j u hp hu
    rwa [add_zero_block] at this
  rw [add_zero_block]
  exact ⟨e 0 _ rfl, e 1 _ rfl, e 2 _ rfl, e 3 _ rfl⟩
theorem PredsOwn.cap {w : World} {B : Nat} {A : Option Addr} {c : Nat} {l : List PredD} (h : PredsOwn w B A c l) : l.length ≤ c := by
  rcases h.2 with ⟨h1, h2⟩ | ⟨g, cap, cur, h1, _, _, h4, _⟩
  · omega
  · injection h1 with _ _ h3; omega
theorem StepsOwn.at {w : World} {B : Nat} {A : Option Addr} {c : Nat} {S : List QSlot} (h : StepsOwn w B A c S) (hp : SPreds w B S) : StepsAt w w.heap.size A (S.map (·.1)) := fun hl => by
  have hl' : 0 < S.length := by simpa using hl
  obtain ⟨g, rfl, hb, hg, _, hc⟩ := own_flat cellsS cellsS_length h hl'
  refine ⟨_, rfl, hg, fun k s hs => ?_⟩
  rw [List.getElem?_map] at hs
  obtain ⟨x, hx, rfl⟩ := Option.map_eq_some_iff.1 hs
  have h1 := hp x (List.mem_of_getElem? hx)
  have e : ∀ j u, (cellsS x)[j]? = some u → w.cell? ⟨g, k * 4 + j, none⟩ = some u := fun j u hu => by
    have := hc k x j u hx hu
    rwa [add_zero_block] at this
  refine ⟨x.2.1, x.2.2, h1.at, h1.cap, ?_⟩
  rw [add_zero_block]
  exact ⟨e 0 _ rfl, e 1 _ rfl, e 2 _ rfl, e 3 _ rfl⟩

def SmallStep (s : StepD) : Prop := s.name.length ≤ 1000000000 ∧ s.preds.length ≤ 1000000000 ∧ ∀ p ∈ s.preds, SmallPred p
def SmallSteps (l : List StepD) : Prop := l.length ≤ 1000000000 ∧ ∀ s ∈ l, SmallStep s
def nameB (s : StepD) : Bool := if s.test = 1 then nameL s.name else decide (s.name = [])
def headB (s : StepD) : Bool := decide (1 ≤ s.axis ∧ s.axis ≤ 8) && decide (1 ≤ s.test ∧ s.test ≤ 4) && nameB s && decide (s.preds.length ≤ 5)
theorem stepB_head (s : StepD) : stepB s = (headB s && s.preds.all predB) := rfl



set_option maxRecDepth 100000 in
set_option maxHeartbeats 8000000 in
theorem Right_any (l : List StepD) (A : Option Addr) (c : Nat) (w : World) (hA : StepsAt w w.heap.size A l) (hs : SmallSteps l) (R : Bool) (hR : Hid (rightL l = R)) :
    Calls Tryd.prog 12 #[.slice A l.length c] w (Ret w (.bool R)) := by
  have HA := Lib.hid hA
  have HS := Lib.hid hs
  obtain ⟨Q, hQ⟩ : ∃ Q, Hid (l.all stepB = Q) := ⟨_, rfl⟩
  have hRQ := hR.out
  unfold rightL at hRQ
  rw [hQ.out] at hRQ
  have HRQ := Lib.hid hRQ
  have hl := hs.1
  clear hA hs hRQ hR
  go_enter Tryd.func12, Tryd.ntmps12
  go_wp2_with fail
  go_loopw [10] (fun i wr => ∃ (n : Nat), n ≤ l.length ∧ i = .int .i64 (n : Int) ∧ Hid ((l.drop n).all stepB = Q) ∧ Hid (Below w.heap.size w wr)) (fun i _ => l.length - (intOf i).toNat)
  case atStart => exact ⟨0, Nat.zero_le _, by go_num, hQ.out, Below.refl _ _⟩
  case round =>
    obtain ⟨n, hnl, rfl, hin, hbelH⟩ := hrel
    have j0 : (0 : Int) ≤ (n : Int) := by omega
    by_cases hlt : n < l.length
    · obtain ⟨ad, rfl, _⟩ := HA.out (by omega)
      obtain ⟨s, hy⟩ : ∃ s, Hid (l[n]? = some s) := ⟨l[n], List.getElem?_eq_getElem _⟩
      obtain ⟨hb, A', c', hpa, hpc, hs0, hs1, hs2, hs3⟩ := HA.out.item hy.out
      obtain ⟨hsn, hsp, hsm⟩ := HS.out.2 s (List.mem_of_getElem? hy.out)
      have HSM := Lib.hid hsm
      have HPA := Lib.hid hpa
      have hbel := hbelH.out
      have hin' := hin.out
      rw [drop_cons hy.out, List.all_cons, stepB_head] at hin'
      have j1 : (n : Int) < l.length := by omega
      have c0 : wr.cell? (ad.add (n * 4)) = some (.int .i64 s.axis) := (hbel.cell (by rw [block_of_add]; exact hb)).trans hs0
      have c1 : wr.cell? ⟨(ad.add (n * 4)).block, (ad.add (n * 4)).off + 1, none⟩ = some (.int .i64 s.test) := (hbel.cell (by show (ad.add _).block < _; rw [block_of_add]; exact hb)).trans hs1
      have c2 : wr.cell? ⟨(ad.add (n * 4)).block, (ad.add (n * 4)).off + 2, none⟩ = some (.string ⟨s.name.toArray⟩) := (hbel.cell (by show (ad.add _).block < _; rw [block_of_add]; exact hb)).trans hs2
      have c3 : wr.cell? ⟨(ad.add (n * 4)).block, (ad.add (n * 4)).off + 3, none⟩ = some (.slice A' s.preds.length c') := (hbel.cell (by show (ad.add _).block < _; rw [block_of_add]; exact hb)).trans hs3
      clear hs0 hs1 hs2 hs3 hpa hsm hin hbel
      cases hok : headB s with
      | false =>
        have HQ : Hid (Q = false) := by show _ = _; rw [← hin', hok]; rfl
        have HR : Hid (R = false) := by show _ = _; rw [← HRQ.out, HQ.out]; rfl
        clear hin'
        obtain ⟨W1, hW1⟩ : ∃ W1, Hid (W1 = wr.alloc (.cells #[.int .i64 s.axis, .int .i64 s.test, .string ⟨s.name.toArray⟩, .slice A' s.preds.length c'] 37)) := ⟨_, rfl⟩
        have hb1 : Below wr.heap.size wr W1 := by rw [hW1.out]; exact (Below.refl _ wr).alloc (Nat.le_refl _) _
        have hz1 : wr.heap.size < W1.heap.size := by rw [hW1.out]; simp
        have HB1 : Hid (Below w.heap.size w W1) := hbelH.out.trans (hb1.mono hbelH.out.size)
        by_cases ht : s.test = 1
        · have t1 : (s.test == 1) = true := by simpa using ht
          obtain ⟨v, hv⟩ : ∃ v, Hid (nameL s.name = v) := ⟨_, rfl⟩
          have HT := Lib.hid ht
          have hvo := hv.out
          have HOK : Hid ((decide (1 ≤ s.axis ∧ s.axis ≤ 8) && decide (1 ≤ s.test ∧ s.test ≤ 4) && v && decide (s.preds.length ≤ 5)) = false) := by
            show _ = _
            rw [← hok]; unfold headB nameB; rw [if_pos ht, hvo]
          clear ht hvo hok
          have y : ∀ (j : Nat) (u : Value), (#[.int .i64 s.axis, .int .i64 s.test, .string ⟨s.name.toArray⟩, .slice A' s.preds.length c'] : Array Value)[j]? = some u → W1.cell? ⟨wr.heap.size, j, none⟩ = some u := fun j u hu => by rw [hW1.out, World.cell?_alloc_at _ _ _ _ rfl]; exact hu
          have HY := Lib.hid y
          clear y
          go_wp2_with fail
          rw [← hW1.out]
          refine (Name_q s.name W1 hsn v hv).mono ?_
          rintro e w2 ⟨rfl, hb2⟩
          have b0 : w2.cell? ⟨wr.heap.size, 0, none⟩ = some (.int .i64 s.axis) := (hb2.cell hz1).trans (HY.out 0 _ rfl)
          have b1 : w2.cell? ⟨wr.heap.size, 1, none⟩ = some (.int .i64 s.test) := (hb2.cell hz1).trans (HY.out 1 _ rfl)
          have b2 : w2.cell? ⟨wr.heap.size, 2, none⟩ = some (.string ⟨s.name.toArray⟩) := (hb2.cell hz1).trans (HY.out 2 _ rfl)
          have b3 : w2.cell? ⟨wr.heap.size, 3, none⟩ = some (.slice A' s.preds.length c') := (hb2.cell hz1).trans (HY.out 3 _ rfl)
          have HB2 : Hid (Below w.heap.size w w2) := HB1.out.trans (hb2.mono HB1.out.size)
          clear hb2 hb1 c0 c1 c2 c3
          cases v with
          | false =>
            go_wp2_with fail
            all_goals first
              | (go_ret; exact ⟨by rw [HR.out]; rfl, HB2.out⟩)
              | (exfalso; have hok := HOK.out; simp only [Bool.and_eq_false_iff, decide_eq_false_iff_not] at hok; rcases hok with ((hok | hok) | hok) | hok; all_goals first | omega | simp_all)
          | true =>
            go_wp2_with fail
            all_goals first
              | (go_ret; exact ⟨by rw [HR.out]; rfl, HB2.out⟩)
              | (exfalso; have hok := HOK.out; simp only [Bool.and_eq_false_iff, decide_eq_false_iff_not] at hok; rcases hok with ((hok | hok) | hok) | hok; all_goals first | omega | simp_all)
        · have t1 : (s.test == 1) = false := by simpa using ht
          have HOK : Hid ((decide (1 ≤ s.axis ∧ s.axis ≤ 8) && decide (1 ≤ s.test ∧ s.test ≤ 4) && decide (s.name = []) && decide (s.preds.length ≤ 5)) = false) := by
            show _ = _
            rw [← hok]; unfold headB nameB; rw [if_neg ht]
          have t2 : (s.test != 1) = true := by simpa using ht
          clear hok
          go_wp2_with fail
          all_goals first
            | (go_ret; exact ⟨by rw [HR.out]; rfl, hbelH.out.alloc hbelH.out.size _⟩)
            | (exfalso; have hok := HOK.out; simp only [Bool.and_eq_false_iff, decide_eq_false_iff_not] at hok; rcases hok with ((hok | hok) | hok) | hok; all_goals first | omega | simp_all)
      | true =>
        obtain ⟨Q2, hQ2⟩ : ∃ Q2, Hid (s.preds.all predB = Q2) := ⟨_, rfl⟩
        rw [hok, Bool.true_and, hQ2.out] at hin'
        unfold headB nameB at hok
        simp only [Bool.and_eq_true, decide_eq_true_eq] at hok
        obtain ⟨⟨⟨⟨a1, a2⟩, a3, a4⟩, hnm⟩, a5⟩ := hok
        have a5' : (s.preds.length : Int) ≤ 5 := by omega
        obtain ⟨W1, hW1⟩ : ∃ W1, Hid (W1 = wr.alloc (.cells #[.int .i64 s.axis, .int .i64 s.test, .string ⟨s.name.toArray⟩, .slice A' s.preds.length c'] 37)) := ⟨_, rfl⟩
        have hb1 : Below wr.heap.size wr W1 := by rw [hW1.out]; exact (Below.refl _ wr).alloc (Nat.le_refl _) _
        have hz1 : wr.heap.size < W1.heap.size := by rw [hW1.out]; simp
        have HB1 : Hid (Below w.heap.size w W1) := hbelH.out.trans (hb1.mono hbelH.out.size)
        by_cases ht : s.test = 1
        · have t1 : (s.test == 1) = true := by simpa using ht
          obtain ⟨v, hv⟩ : ∃ v, Hid (nameL s.name = v) := ⟨_, rfl⟩
          rw [if_pos ht, hv.out] at hnm
          subst hnm
          clear ht
          have y : ∀ (j : Nat) (u : Value), (#[.int .i64 s.axis, .int .i64 s.test, .string ⟨s.name.toArray⟩, .slice A' s.preds.length c'] : Array Value)[j]? = some u → W1.cell? ⟨wr.heap.size, j, none⟩ = some u := fun j u hu => by rw [hW1.out, World.cell?_alloc_at _ _ _ _ rfl]; exact hu
          have HY := Lib.hid y
          clear y
          go_wp2_with fail
          rw [← hW1.out]
          refine (Name_q s.name W1 hsn true hv).mono ?_
          rintro e w2 ⟨rfl, hb2⟩
          have b0 : w2.cell? ⟨wr.heap.size, 0, none⟩ = some (.int .i64 s.axis) := (hb2.cell hz1).trans (HY.out 0 _ rfl)
          have b1 : w2.cell? ⟨wr.heap.size, 1, none⟩ = some (.int .i64 s.test) := (hb2.cell hz1).trans (HY.out 1 _ rfl)
          have b2 : w2.cell? ⟨wr.heap.size, 2, none⟩ = some (.string ⟨s.name.toArray⟩) := (hb2.cell hz1).trans (HY.out 2 _ rfl)
          have b3 : w2.cell? ⟨wr.heap.size, 3, none⟩ = some (.slice A' s.preds.length c') := (hb2.cell hz1).trans (HY.out 3 _ rfl)
          have HB2 : Hid (Below w.heap.size w w2) := HB1.out.trans (hb2.mono HB1.out.size)
          clear hb2 hb1 c0 c1 c2 c3
          go_wp2_with fail
          clear b0 b1 b2 b3
          go_loopw [63] (fun i wq => ∃ (m : Nat), m ≤ s.preds.length ∧ i = .int .i64 (m : Int) ∧ Hid ((s.preds.drop m).all predB = Q2) ∧ Hid (Below w.heap.size w wq)) (fun i _ => s.preds.length - (intOf i).toNat)
          case atStart => exact ⟨0, Nat.zero_le _, by go_num, hQ2.out, HB2.out⟩
          case round =>
            rename_i wq0 _
            obtain ⟨m, hml, rfl, hin2, hbq⟩ := hrel
            have m0 : (0 : Int) ≤ (m : Int) := by omega
            by_cases hmt : m < s.preds.length
            · obtain ⟨pd, rfl, _⟩ := HPA.out (by omega)
              obtain ⟨x, hx⟩ : ∃ x, Hid (s.preds[m]? = some x) := ⟨s.preds[m], List.getElem?_eq_getElem _⟩
              obtain ⟨pd', he', hpb, hpc'⟩ := HPA.out (by omega)
              injection he' with he'
              subst he'
              obtain ⟨p0, p1, p2, p3⟩ := hpc' m x hx.out
              have q0 := (hbq.out.cell (p := pd.add (m * 4)) (by rw [block_of_add]; exact hpb)).trans p0
              have q1 := (hbq.out.cell (p := ⟨(pd.add (m * 4)).block, (pd.add (m * 4)).off + 1, none⟩) (by show (pd.add _).block < _; rw [block_of_add]; exact hpb)).trans p1
              have q2 := (hbq.out.cell (p := ⟨(pd.add (m * 4)).block, (pd.add (m * 4)).off + 2, none⟩) (by show (pd.add _).block < _; rw [block_of_add]; exact hpb)).trans p2
              have q3 := (hbq.out.cell (p := ⟨(pd.add (m * 4)).block, (pd.add (m * 4)).off + 3, none⟩) (by show (pd.add _).block < _; rw [block_of_add]; exact hpb)).trans p3
              have m1 : (m : Int) < s.preds.length := by omega
              obtain ⟨v, hv⟩ : ∃ v, Hid (predB x = v) := ⟨_, rfl⟩
              have hin3 := hin2.out
              rw [drop_cons hx.out, List.all_cons, hv.out] at hin3
              clear p0 p1 p2 p3 hpc' hin2
              go_wp2_with fail
              refine (right_any x _ (HSM.out x (List.mem_of_getElem? hx.out)) v hv).mono ?_
              rintro e w8 ⟨rfl, hb8⟩
              have hb9 : Hid (Below w.heap.size w w8) := (hbq.out.alloc hbq.out.size _).trans (hb8.mono (by have := hbq.out.size; simp; omega))
              clear q0 q1 q2 q3 hb8
              cases v with
              | false =>
                have HR : Hid (R = false) := by
                  show _ = _
                  rw [← HRQ.out, ← hin', ← hin3]; rfl
                go_wp2_with fail
                go_ret
                exact ⟨by rw [HR.out]; rfl, hb9.out⟩
              | true =>
                have HIN3 : Hid ((s.preds.drop (m + 1)).all predB = Q2) := by show _ = _; rw [← hin3]; rfl
                go_wp2_with fail
                go_roundw
                case rel => exact ⟨m + 1, by omega, by go_num, HIN3, hb9.out⟩
                case measure => simp [intOf]; omega
            · have HQ2 : Hid (Q2 = true) := by
                show _ = _
                rw [← hin2.out, List.drop_eq_nil_of_le (by omega)]; rfl
              have HIN : Hid ((l.drop (n + 1)).all stepB = Q) := by show _ = _; rw [← hin', HQ2.out]; rfl
              have m1 : (s.preds.length : Int) ≤ m := by omega
              clear hin2
              go_wp2_with fail
              go_roundw
              case rel => exact ⟨n + 1, by omega, by go_num, HIN, hbq.out⟩
              case measure => simp [intOf]; omega
        · have t1 : (s.test == 1) = false := by simpa using ht
          rw [if_neg ht] at hnm
          have hnm' : s.name = [] := by simpa using hnm
          rw [hnm'] at c2 hW1
          have t2 : (s.test != 1) = true := by simpa using ht
          clear hnm
          go_wp2_with fail
          rw [← hW1.out]
          clear c0 c1 c2 c3
          go_loopw [63] (fun i wq => ∃ (m : Nat), m ≤ s.preds.length ∧ i = .int .i64 (m : Int) ∧ Hid ((s.preds.drop m).all predB = Q2) ∧ Hid (Below w.heap.size w wq)) (fun i _ => s.preds.length - (intOf i).toNat)
          case atStart => exact ⟨0, Nat.zero_le _, by go_num, hQ2.out, HB1.out⟩
          case round =>
            rename_i wq0 _
            obtain ⟨m, hml, rfl, hin2, hbq⟩ := hrel
            have m0 : (0 : Int) ≤ (m : Int) := by omega
            by_cases hmt : m < s.preds.length
            · obtain ⟨pd, rfl, _⟩ := HPA.out (by omega)
              obtain ⟨x, hx⟩ : ∃ x, Hid (s.preds[m]? = some x) := ⟨s.preds[m], List.getElem?_eq_getElem _⟩
              obtain ⟨pd', he', hpb, hpc'⟩ := HPA.out (by omega)
              injection he' with he'
              subst he'
              obtain ⟨p0, p1, p2, p3⟩ := hpc' m x hx.out
              have q0 := (hbq.out.cell (p := pd.add (m * 4)) (by rw [block_of_add]; exact hpb)).trans p0
              have q1 := (hbq.out.cell (p := ⟨(pd.add (m * 4)).block, (pd.add (m * 4)).off + 1, none⟩) (by show (pd.add _).block < _; rw [block_of_add]; exact hpb)).trans p1
              have q2 := (hbq.out.cell (p := ⟨(pd.add (m * 4)).block, (pd.add (m * 4)).off + 2, none⟩) (by show (pd.add _).block < _; rw [block_of_add]; exact hpb)).trans p2
              have q3 := (hbq.out.cell (p := ⟨(pd.add (m * 4)).block, (pd.add (m * 4)).off + 3, none⟩) (by show (pd.add _).block < _; rw [block_of_add]; exact hpb)).trans p3
              have m1 : (m : Int) < s.preds.length := by omega
              obtain ⟨v, hv⟩ : ∃ v, Hid (predB x = v) := ⟨_, rfl⟩
              have hin3 := hin2.out
              rw [drop_cons hx.out, List.all_cons, hv.out] at hin3
              clear p0 p1 p2 p3 hpc' hin2
              go_wp2_with fail
              refine (right_any x _ (HSM.out x (List.mem_of_getElem? hx.out)) v hv).mono ?_
              rintro e w8 ⟨rfl, hb8⟩
              have hb9 : Hid (Below w.heap.size w w8) := (hbq.out.alloc hbq.out.size _).trans (hb8.mono (by have := hbq.out.size; simp; omega))
              clear q0 q1 q2 q3 hb8
              cases v with
              | false =>
                have HR : Hid (R = false) := by
                  show _ = _
                  rw [← HRQ.out, ← hin', ← hin3]; rfl
                go_wp2_with fail
                go_ret
                exact ⟨by rw [HR.out]; rfl, hb9.out⟩
              | true =>
                have HIN3 : Hid ((s.preds.drop (m + 1)).all predB = Q2) := by show _ = _; rw [← hin3]; rfl
                go_wp2_with fail
                go_roundw
                case rel => exact ⟨m + 1, by omega, by go_num, HIN3, hb9.out⟩
                case measure => simp [intOf]; omega
            · have HQ2 : Hid (Q2 = true) := by
                show _ = _
                rw [← hin2.out, List.drop_eq_nil_of_le (by omega)]; rfl
              have HIN : Hid ((l.drop (n + 1)).all stepB = Q) := by show _ = _; rw [← hin', HQ2.out]; rfl
              have m1 : (s.preds.length : Int) ≤ m := by omega
              clear hin2
              go_wp2_with fail
              go_roundw
              case rel => exact ⟨n + 1, by omega, by go_num, HIN, hbq.out⟩
              case measure => simp [intOf]; omega
    · have HQ : Hid (Q = true) := by
        show _ = _
        rw [← hin.out, List.drop_eq_nil_of_le (by omega)]; rfl
      have hRl : (decide (1 ≤ l.length ∧ l.length ≤ 20)) = R := by rw [← HRQ.out, HQ.out]; rfl
      have j1 : (l.length : Int) ≤ n := by omega
      clear hin
      by_cases h1 : 1 ≤ l.length
      · by_cases h2 : l.length ≤ 20
        · have HR : Hid (R = true) := by show _ = _; rw [← hRl]; simp; omega
          have k1 : (1 : Int) ≤ l.length := by omega
          have k2 : (l.length : Int) ≤ 20 := by omega
          clear hRl h1 h2
          go_wp2_with fail
          go_ret
          exact ⟨by rw [HR.out]; rfl, hbelH.out⟩
        · have HR : Hid (R = false) := by show _ = _; rw [← hRl]; simp; omega
          have k1 : (1 : Int) ≤ l.length := by omega
          have k2 : decide ((l.length : Int) ≤ 20) = false := decide_eq_false (by omega)
          clear hRl h1 h2
          go_wp2_with fail
          go_ret
          exact ⟨by rw [HR.out]; rfl, hbelH.out⟩
      · have HR : Hid (R = false) := by show _ = _; rw [← hRl]; simp; omega
        have k1 : (l.length : Int) < 1 := by omega
        clear hRl h1
        go_wp2_with fail
        go_ret
        exact ⟨by rw [HR.out]; rfl, hbelH.out⟩
end Go.Proofs.YtpfhdklbhhpbcaaDoor

/-
  The contract of strconv.Itoa at this dump, laid by hand (gen_itoa.py).
-/
namespace Go.Proofs
open Go.Shelf Go.RowKit
def Tryd.lays171_ren : Go.Shelf.Ren := ⟨fun | 129 => 79 | 171 => 29 | 243 => 47 | 246 => 58 | 283 => 68 | 284 => 69 | 285 => 70 | 286 => 71 | 317 => 78 | 318 => 80 | 319 => 81 | 320 => 82 | 337 => 85 | 338 => 86 | n => n, fun | 0 => 0 | 2 => 2 | 3 => 3 | 4 => 4 | 5 => 5 | 9 => 9 | 20 => 20 | 37 => 41 | 46 => 90 | 51 => 109 | 53 => 96 | 171 => 95 | 173 => 99 | 212 => 108 | 213 => 110 | 232 => 115 | 233 => 116 | n => n, fun | 17 => 0 | 18 => 1 | 19 => 2 | n => n⟩
theorem Tryd.lays171 : Go.Proofs.LaysM.n171 Tryd.prog Tryd.lays171_ren := {
  mixed := by kernel_rfl
  f129 := Tryd.func79.trans (congrArg some (by kernel_rfl))
  f171 := Tryd.func29.trans (congrArg some (by kernel_rfl))
  f243 := Tryd.func47.trans (congrArg some (by kernel_rfl))
  f246 := Tryd.func58.trans (congrArg some (by kernel_rfl))
  f283 := Tryd.func68.trans (congrArg some (by kernel_rfl))
  f284 := Tryd.func69.trans (congrArg some (by kernel_rfl))
  f285 := Tryd.func70.trans (congrArg some (by kernel_rfl))
  f286 := Tryd.func71.trans (congrArg some (by kernel_rfl))
  f317 := Tryd.func78.trans (congrArg some (by kernel_rfl))
  f318 := Tryd.func80.trans (congrArg some (by kernel_rfl))
  f319 := Tryd.func81.trans (congrArg some (by kernel_rfl))
  f320 := Tryd.func82.trans (congrArg some (by kernel_rfl))
  f337 := Tryd.func85.trans (congrArg some (by kernel_rfl))
  f338 := Tryd.func86.trans (congrArg some (by kernel_rfl))
  t0 := Tryd.underlying0
  a0 := Tryd.isAgg0
  z0 := Tryd.sizeOf0
  v0 := Tryd.zeroValue0
  t2 := Tryd.underlying2
  a2 := Tryd.isAgg2
  z2 := Tryd.sizeOf2
  v2 := Tryd.zeroValue2
  t3 := Tryd.underlying3
  a3 := Tryd.isAgg3
  z3 := Tryd.sizeOf3
  v3 := Tryd.zeroValue3
  t4 := Tryd.underlying4
  a4 := Tryd.isAgg4
  z4 := Tryd.sizeOf4
  v4 := Tryd.zeroValue4
  t5 := Tryd.underlying5
  a5 := Tryd.isAgg5
  z5 := Tryd.sizeOf5
  v5 := Tryd.zeroValue5
  t9 := Tryd.underlying9
  a9 := Tryd.isAgg9
  z9 := Tryd.sizeOf9
  v9 := Tryd.zeroValue9
  t20 := Tryd.underlying20
  a20 := Tryd.isAgg20
  z20 := Tryd.sizeOf20
  v20 := Tryd.zeroValue20
  t37 := Tryd.underlying41
  a37 := Tryd.isAgg41
  z37 := Tryd.sizeOf41
  v37 := Tryd.zeroValue41
  t46 := Tryd.underlying90
  a46 := Tryd.isAgg90
  z46 := Tryd.sizeOf90
  v46 := Tryd.zeroValue90
  t51 := Tryd.underlying109
  a51 := Tryd.isAgg109
  z51 := Tryd.sizeOf109
  v51 := Tryd.zeroValue109
  t53 := Tryd.underlying96
  a53 := Tryd.isAgg96
  z53 := Tryd.sizeOf96
  v53 := Tryd.zeroValue96
  t171 := Tryd.underlying95
  a171 := Tryd.isAgg95
  z171 := Tryd.sizeOf95
  v171 := Tryd.zeroValue95
  t173 := Tryd.underlying99
  a173 := Tryd.isAgg99
  z173 := Tryd.sizeOf99
  v173 := Tryd.zeroValue99
  t212 := Tryd.underlying108
  a212 := Tryd.isAgg108
  z212 := Tryd.sizeOf108
  v212 := Tryd.zeroValue108
  t213 := Tryd.underlying110
  a213 := Tryd.isAgg110
  z213 := Tryd.sizeOf110
  t232 := Tryd.underlying115
  a232 := Tryd.isAgg115
  z232 := Tryd.sizeOf115
  v232 := Tryd.zeroValue115
  t233 := Tryd.underlying116
  a233 := Tryd.isAgg116
  z233 := Tryd.sizeOf116
  v233 := Tryd.zeroValue116
  g17 := by kernel_rfl
  g18 := by kernel_rfl
  g19 := by kernel_rfl
  i0 := by kernel_rfl
  i2 := by kernel_rfl
  i3 := by kernel_rfl
  i4 := by kernel_rfl
  i5 := by kernel_rfl
  i9 := by kernel_rfl
  i20 := by kernel_rfl
  i37 := by kernel_rfl
  i46 := by kernel_rfl
  i51 := by kernel_rfl
  i53 := by kernel_rfl
  i171 := by kernel_rfl
  i173 := by kernel_rfl
  i212 := by kernel_rfl
  i232 := by kernel_rfl
  i233 := by kernel_rfl
  m17 := by kernel_rfl
  m18 := by kernel_rfl
  m19 := by kernel_rfl }
/-- strconv.Itoa -/
theorem Tryd.strconv_Itoa (n : Int) (h0 : -9223372036854775808 ≤ n) (h1 : n ≤ 9223372036854775807) (w : World) (htab : Lib.TabIs Tryd.prog w "internal/strconv.uint64pow10" .u64 Lib.pow10Tab) :
    Calls Tryd.prog 29 #[.int .i64 n] w fun e w' => e = .returned (.string ⟨(Lib.itoa n).toArray⟩) ∧ ∃ k os, w' = Sort.grow (w.drewN k) os := Any.strconv_Itoa Tryd.lays171 n h0 h1 w htab
end Go.Proofs
