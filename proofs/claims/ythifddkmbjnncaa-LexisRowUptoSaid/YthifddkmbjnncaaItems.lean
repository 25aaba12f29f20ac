/-
  Documents in memory: rows of items, rows of attributes.
-/
import Derived.Test.YthifddkmbjnncaaKit
import Derived.Test.YthifddkmbjnncaaItemPlain
import Derived.Below
import Derived.Laws.OwnMore
import Derived.Deep.AppendLies
import Derived.Deep.Draws
import Derived.Laws.Rows
namespace Go.Proofs.Ythifddkmbjnncaa
open Go.RowKit

def strV (l : List UInt8) : Value := .string ⟨l.toArray⟩

/-- A row of attributes at an address: two cells each. -/
def AttrsAt (w : World) (B : Nat) (A : Option Addr) (l : List AttrD) : Prop :=
  0 < l.length → ∃ ad, A = some ad ∧ ad.block < B ∧ ∀ k a, l[k]? = some a → w.cell? (ad.add (k * 2)) = some (strV a.name) ∧ w.cell? ⟨(ad.add (k * 2)).block, (ad.add (k * 2)).off + 1, none⟩ = some (strV a.value)

/-- An item's five cells. -/
def itemVal (x : ItemD) (A : Option Addr) (c : Nat) : Array Value := #[.int .i64 x.level, .int .i64 x.kind, strV x.name, strV x.text, .slice A x.attrs.length c]

/-- A row of items at an address: five cells each. -/
def ItemsAt (w : World) (B : Nat) (A : Option Addr) (l : List ItemD) : Prop :=
  0 < l.length → ∃ ad, A = some ad ∧ ad.block < B ∧ ∀ k x, l[k]? = some x → ∃ A' c, AttrsAt w B A' x.attrs ∧ x.attrs.length ≤ c ∧
    w.cell? (ad.add (k * 5)) = some (.int .i64 x.level) ∧ w.cell? ⟨(ad.add (k * 5)).block, (ad.add (k * 5)).off + 1, none⟩ = some (.int .i64 x.kind) ∧ w.cell? ⟨(ad.add (k * 5)).block, (ad.add (k * 5)).off + 2, none⟩ = some (strV x.name) ∧
    w.cell? ⟨(ad.add (k * 5)).block, (ad.add (k * 5)).off + 3, none⟩ = some (strV x.text) ∧ w.cell? ⟨(ad.add (k * 5)).block, (ad.add (k * 5)).off + 4, none⟩ = some (.slice A' x.attrs.length c)

theorem block_of_add (a : Addr) (n : Nat) : (a.add n).block = a.block := by unfold Addr.add; split <;> rfl
theorem add_of_add (a : Addr) (i j : Nat) : (a.add i).add j = a.add (i + j) := by
  unfold Addr.add
  by_cases hi : i = 0 <;> by_cases hj : j = 0 <;> simp [hi, hj, Nat.add_assoc]

section
variable {w w' : World} {B B' : Nat} {A : Option Addr}
theorem AttrsAt.keep {l : List AttrD} (h : AttrsAt w B A l) (hk : ∀ p : Addr, p.block < B → w'.cell? p = w.cell? p) : AttrsAt w' B A l := fun hn => by
  obtain ⟨ad, e, hb, hc⟩ := h hn
  exact ⟨ad, e, hb, fun k a ha => ⟨(hk _ (by rw [block_of_add]; exact hb)).trans (hc k a ha).1, (hk _ (by show (ad.add _).block < B; rw [block_of_add]; exact hb)).trans (hc k a ha).2⟩⟩
theorem AttrsAt.more {l : List AttrD} (h : AttrsAt w B A l) (hB : B ≤ B') : AttrsAt w B' A l := fun hn => by
  obtain ⟨ad, e, hb, hc⟩ := h hn
  exact ⟨ad, e, by omega, hc⟩
theorem AttrsAt.below {l : List AttrD} (h : AttrsAt w B A l) (hb : Below B w w') : AttrsAt w' B A l := h.keep fun _ hp => hb.cell hp
theorem ItemsAt.keep {l : List ItemD} (h : ItemsAt w B A l) (hk : ∀ p : Addr, p.block < B → w'.cell? p = w.cell? p) : ItemsAt w' B A l := fun hn => by
  obtain ⟨ad, e, hb, hc⟩ := h hn
  refine ⟨ad, e, hb, fun k x hx => ?_⟩
  obtain ⟨A', c, ha, hac, h0, h1, h2, h3, h4⟩ := hc k x hx
  have hk' : ∀ n, w'.cell? ⟨(ad.add (k * 5)).block, (ad.add (k * 5)).off + n, none⟩ = w.cell? ⟨(ad.add (k * 5)).block, (ad.add (k * 5)).off + n, none⟩ := fun n => hk _ (by show (ad.add _).block < B; rw [block_of_add]; exact hb)
  exact ⟨A', c, ha.keep hk, hac, (hk _ (by rw [block_of_add]; exact hb)).trans h0, (hk' _).trans h1, (hk' _).trans h2, (hk' _).trans h3, (hk' _).trans h4⟩
theorem ItemsAt.more {l : List ItemD} (h : ItemsAt w B A l) (hB : B ≤ B') : ItemsAt w B' A l := fun hn => by
  obtain ⟨ad, e, hb, hc⟩ := h hn
  refine ⟨ad, e, by omega, fun k x hx => ?_⟩
  obtain ⟨A', c, ha, hr⟩ := hc k x hx
  exact ⟨A', c, ha.more hB, hr⟩
theorem ItemsAt.below {l : List ItemD} (h : ItemsAt w B A l) (hb : Below B w w') : ItemsAt w' B A l := h.keep fun _ hp => hb.cell hp
end
end Go.Proofs.Ythifddkmbjnncaa
