/-
  A row of tokens in memory, and what stands in it side by side.
-/
import Derived.Test.YthifddkmbjnncaaAlive3
import Derived.Test.YthifddkmbjnncaaLexLaw3
namespace Go.Proofs.Ythifddkmbjnncaa
open Go.RowKit

/-- a token's five cells, where a loop looks for them -/
def TokAt (w : World) (ad : Addr) (k : Nat) (x : TSlot) : Prop :=
  w.cell? (ad.add (k * 5)) = some (.int .i64 x.1.2.kind) ∧ w.cell? ⟨(ad.add (k * 5)).block, (ad.add (k * 5)).off + 1, none⟩ = some (.int .i64 x.1.1) ∧ w.cell? ⟨(ad.add (k * 5)).block, (ad.add (k * 5)).off + 2, none⟩ = some (.string ⟨x.1.2.name.toArray⟩) ∧
    w.cell? ⟨(ad.add (k * 5)).block, (ad.add (k * 5)).off + 3, none⟩ = some (.string ⟨x.1.2.text.toArray⟩) ∧ w.cell? ⟨(ad.add (k * 5)).block, (ad.add (k * 5)).off + 4, none⟩ = some (.slice x.2.1 x.1.2.attrs.length x.2.2)
theorem TokAt.below {w w' : World} {ad : Addr} {k : Nat} {x : TSlot} (h : TokAt w ad k x) (hb : Below w.heap.size w w') (had : ad.block < w.heap.size) : TokAt w' ad k x := by
  have hk' : ∀ n, w'.cell? ⟨(ad.add (k * 5)).block, (ad.add (k * 5)).off + n, none⟩ = w.cell? ⟨(ad.add (k * 5)).block, (ad.add (k * 5)).off + n, none⟩ := fun n => hb.cell (by show (ad.add _).block < _; rw [block_of_add]; exact had)
  obtain ⟨h0, h1, h2, h3, h4⟩ := h
  exact ⟨(hb.cell (by rw [block_of_add]; exact had)).trans h0, (hk' _).trans h1, (hk' _).trans h2, (hk' _).trans h3, (hk' _).trans h4⟩
theorem TokensOwn.at {w : World} {B : Nat} {A : Option Addr} {c : Nat} {S : List TSlot} (h : TokensOwn w B A c S) (hl : 0 < S.length) :
    ∃ ad, A = some ad ∧ ad.block < w.heap.size ∧ ∀ k x, S[k]? = some x → TokAt w ad k x := by
  obtain ⟨g, rfl, hB, hg, hc⟩ := h.cells hl
  refine ⟨⟨g, 0, none⟩, rfl, hg, fun k x hx => ?_⟩
  unfold TokAt
  rw [add_zero_block]
  exact ⟨hc k x 0 _ hx rfl, hc k x 1 _ hx rfl, hc k x 2 _ hx rfl, hc k x 3 _ hx rfl, hc k x 4 _ hx rfl⟩

/-- tokens side by side: each where the one ahead ends -/
def RowOf : Nat → List UInt8 → List (Nat × TokD) → Prop
  | _, l, [] => l = []
  | p, l, (q, t) :: r => q = p ∧ l ≠ [] ∧ ∃ n, oneT l = .ok t n ∧ RowOf (p + n) (l.drop n) r
theorem allF_row : ∀ (f : Nat) (p : Nat) (l : List UInt8), l.length < f → (allF f p l).2.2 = 0 → RowOf p l (allF f p l).1
  | 0, _, _, h, _ => by omega
  | f + 1, p, l, hf, h => by
    rw [allF] at h ⊢
    split
    · rename_i hl; exact hl
    · rename_i hl
      rw [if_neg hl] at h
      have hw := oneT_within l hl
      cases ho : oneT l with
      | bad k e => rw [ho] at h hw; exact absurd h hw.2
      | ok t n =>
        rw [ho] at h hw
        simp only at h ⊢
        split
        · rename_i hq
          obtain ⟨h1, h2⟩ := hw
          exact ⟨rfl, hl, n, ho, allF_row f (p + n) (l.drop n) (by rw [List.length_drop]; omega) hq⟩
        · rename_i hq
          rw [if_neg hq] at h
          exact absurd h hq
theorem rowOf_len : ∀ (T : List (Nat × TokD)) (p : Nat) (l : List UInt8), RowOf p l T → T.length ≤ l.length
  | [], _, _, _ => Nat.zero_le _
  | (q, t) :: r, p, l, h => by
    obtain ⟨rfl, hl, n, ho, hr⟩ := h
    have hw := oneT_within l hl
    rw [ho] at hw
    obtain ⟨h1, h2⟩ := hw
    have := rowOf_len r _ _ hr
    rw [List.length_drop] at this
    simp only [List.length_cons]
    omega
theorem all_row {p : Nat} {l : List UInt8} (h : (allL p l).2.2 = 0) : RowOf p l (allL p l).1 := allF_row _ p l (Nat.lt_succ_self _) h
end Go.Proofs.Ythifddkmbjnncaa
