/-
  The plain law: what is normal is made normal as it is. No program in sight.
-/
import Derived.Test.YthifddkmbjnncaaFitPlain
namespace Go.Proofs.Ythifddkmbjnncaa

def voidB (x : ItemD) : Prop := x.kind = 2 ∧ x.text = []
def joinB (p x : ItemD) : Prop := x.kind = 2 ∧ p.kind = 2 ∧ p.level = x.level
def nfP (p : ItemD) : List ItemD → Prop
  | [] => True
  | x :: r => ¬ voidB x ∧ ¬ joinB p x ∧ nfP x r
def NF : List ItemD → Prop
  | [] => True
  | x :: r => ¬ voidB x ∧ nfP x r
theorem normP_nf : ∀ (r : List ItemD) (p : ItemD), ¬ voidB p → ∃ q s, normP p r = q :: s ∧ q.level = p.level ∧ q.kind = p.kind ∧ NF (q :: s)
  | [], p, hp => ⟨p, [], rfl, rfl, rfl, hp, trivial⟩
  | x :: r, p, hp => by
    unfold normP
    by_cases h1 : x.kind = 2 ∧ x.text = []
    · rw [if_pos h1]; exact normP_nf r p hp
    · rw [if_neg h1]
      by_cases h2 : x.kind = 2 ∧ p.kind = 2 ∧ p.level = x.level
      · rw [if_pos h2]
        have hne : ¬ voidB { p with text := p.text ++ x.text } := fun h => by
          have := h.2
          simp at this
          exact h1 ⟨h2.1, this.2⟩
        exact normP_nf r { p with text := p.text ++ x.text } hne
      · rw [if_neg h2]
        obtain ⟨q, s, e, k1, k2, k3⟩ := normP_nf r x h1
        refine ⟨p, normP x r, rfl, rfl, rfl, hp, ?_⟩
        rw [e]
        refine ⟨k3.1, fun h => h2 ?_, k3.2⟩
        exact ⟨by rw [← k2]; exact h.1, h.2.1, by rw [← k1]; exact h.2.2⟩
theorem normP_id : ∀ (r : List ItemD) (p : ItemD), nfP p r → normP p r = p :: r
  | [], _, _ => rfl
  | x :: r, p, h => by
    unfold normP
    have h1 : ¬ (x.kind = 2 ∧ x.text = []) := h.1
    have h2 : ¬ (x.kind = 2 ∧ p.kind = 2 ∧ p.level = x.level) := h.2.1
    rw [if_neg h1, if_neg h2, normP_id r x h.2.2]
theorem normal_cases : ∀ (l : List ItemD), normalL l = [] ∨ ∃ x r, ¬ voidB x ∧ normalL l = normP x r
  | [] => .inl rfl
  | x :: l => by
    by_cases h : x.kind = 2 ∧ x.text = []
    · have e : normalL (x :: l) = normalL l := by unfold normalL; rw [List.foldl_cons, nstep_void h.1 h.2]
      rw [e]; exact normal_cases l
    · refine .inr ⟨x, l, h, ?_⟩
      unfold normalL
      rw [List.foldl_cons, nstep_first h]
      exact fold_normP l [] x
theorem normal_nf (l : List ItemD) : NF (normalL l) := by
  rcases normal_cases l with h | ⟨x, r, h1, h2⟩
  · rw [h]; trivial
  · obtain ⟨q, s, e, _, _, h3⟩ := normP_nf r x h1
    rw [h2, e]; exact h3
theorem nf_normal : ∀ (N : List ItemD), NF N → normalL N = N
  | [], _ => rfl
  | x :: r, h => by
    have e : normalL (x :: r) = normP x r := by
      unfold normalL
      rw [List.foldl_cons, nstep_first h.1]
      exact fold_normP r [] x
    rw [e, normP_id r x h.2]
theorem normal_idem (l : List ItemD) : normalL (normalL l) = normalL l := nf_normal _ (normal_nf l)

theorem normal_smallDoc {l : List ItemD} (h : SmallDoc l) : SmallDoc (normalL l) := by
  have h1 := textSum_fold l []
  have e : textSum ([] : List ItemD) = 0 := rfl
  exact ⟨normal_small h, by show textSum (l.foldl nstep []) ≤ _; have := h.2; omega⟩
end Go.Proofs.Ythifddkmbjnncaa
