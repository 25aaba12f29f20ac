/-
  Items and attributes of a call's own.
-/
import Derived.Test.YthifddkmbjnncaaOwnS
import Derived.Laws.StructEq
namespace Go.Proofs.Ythifddkmbjnncaa
open Go.RowKit

def cellsA (a : AttrD) : List Value := [strV a.name, strV a.value]
/-- An item, and where its attributes stand. -/
abbrev Slot := ItemD × Option Addr × Nat
def cellsI (s : Slot) : List Value := [.int .i64 s.1.level, .int .i64 s.1.kind, strV s.1.name, strV s.1.text, .slice s.2.1 s.1.attrs.length s.2.2]
theorem cellsA_length (a : AttrD) : (cellsA a).length = 2 := rfl
theorem cellsI_length (s : Slot) : (cellsI s).length = 5 := rfl

/-- Attributes of the call's own. -/
def AttrsOwn (w : World) (B : Nat) (A : Option Addr) (c : Nat) (l : List AttrD) : Prop := w.ownsRow B 44 2 (.slice A l.length c) l.length (l.flatMap cellsA)
def ItemsOwn (w : World) (B : Nat) (A : Option Addr) (c : Nat) (S : List Slot) : Prop := w.ownsRow B 50 5 (.slice A S.length c) S.length (S.flatMap cellsI)

theorem add_zero_block (g k : Nat) : ((⟨g, 0, none⟩ : Addr).add k) = ⟨g, k, none⟩ := by unfold Addr.add; split <;> simp_all

theorem AttrsOwn.at {w : World} {B : Nat} {A : Option Addr} {c : Nat} {l : List AttrD} (h : AttrsOwn w B A c l) : AttrsAt w w.heap.size A l := fun hl => by
  obtain ⟨g, rfl, hb, hg, _, hc⟩ := own_flat cellsA cellsA_length h hl
  refine ⟨_, rfl, hg, fun k a ha => ⟨?_, ?_⟩⟩
  · have := hc k a 0 (strV a.name) ha rfl
    simpa using this
  · have := hc k a 1 (strV a.value) ha rfl
    rw [add_zero_block] at this ⊢
    exact this
theorem AttrsOwn.cap {w : World} {B : Nat} {A : Option Addr} {c : Nat} {l : List AttrD} (h : AttrsOwn w B A c l) : l.length ≤ c := by
  rcases h.2 with ⟨h1, h2⟩ | ⟨g, cap, cur, h1, _, _, h4, _⟩
  · omega
  · injection h1 with _ _ h3; omega
theorem ItemsOwn.at {w : World} {B : Nat} {A : Option Addr} {c : Nat} {S : List Slot} (h : ItemsOwn w B A c S) (ha : ∀ s ∈ S, AttrsAt w w.heap.size s.2.1 s.1.attrs ∧ s.1.attrs.length ≤ s.2.2) : ItemsAt w w.heap.size A (S.map (·.1)) := fun hl => by
  have hl' : 0 < S.length := by simpa using hl
  obtain ⟨g, rfl, hb, hg, _, hc⟩ := own_flat cellsI cellsI_length h hl'
  refine ⟨_, rfl, hg, fun k x hx => ?_⟩
  rw [List.getElem?_map] at hx
  obtain ⟨s, hs, rfl⟩ := Option.map_eq_some_iff.1 hx
  obtain ⟨h1, h2⟩ := ha s (List.mem_of_getElem? hs)
  have e : ∀ j u, (cellsI s)[j]? = some u → w.cell? ⟨g, k * 5 + j, none⟩ = some u := fun j u hu => by
    have := hc k s j u hs hu
    rwa [add_zero_block] at this
  refine ⟨s.2.1, s.2.2, h1, h2, ?_⟩
  rw [add_zero_block]
  exact ⟨e 0 _ rfl, e 1 _ rfl, e 2 _ rfl, e 3 _ rfl, e 4 _ rfl⟩

theorem infoAttr : (Try.prog.info? 44).map (fun i => (i.zero, i.size, i.bytes)) = some (some (.agg #[.string ByteArray.empty, .string ByteArray.empty]), 2, 32) := by kernel_rfl
theorem infoItem : (Try.prog.info? 50).map (fun i => (i.zero, i.size, i.bytes)) = some (some (.agg #[.int .i64 0, .int .i64 0, .string ByteArray.empty, .string ByteArray.empty, .slice none 0 0]), 5, 72) := by kernel_rfl

theorem AttrsAt.flat {w : World} {B : Nat} {ad : Addr} {l : List AttrD} (h : AttrsAt w B (some ad) l) : ∀ j u, (l.flatMap cellsA)[j]? = some u → w.cell? (ad.add j) = some u := by
  intro j u hu
  have hlen := flat_length cellsA 2 cellsA_length l
  have hj : j < l.length * 2 := by rw [← hlen]; exact (List.getElem?_eq_some_iff.1 hu).1
  obtain ⟨q, r, hr, rfl⟩ : ∃ q r, r < 2 ∧ j = q * 2 + r := ⟨j / 2, j % 2, by omega, by omega⟩
  have hq : q < l.length := by omega
  have hx : l[q]? = some l[q] := List.getElem?_eq_getElem hq
  rw [flat_get cellsA 2 cellsA_length l q r _ hx hr] at hu
  obtain ⟨ad', e, _, hc⟩ := h (by omega)
  injection e with e; subst e
  obtain ⟨h0, h1⟩ := hc q _ hx
  match r, hr, hu with
  | 0, _, hu => injection hu with hu; subst hu; exact h0
  | 1, _, hu =>
    injection hu with hu; subst hu
    have : ad.add (q * 2 + 1) = ⟨(ad.add (q * 2)).block, (ad.add (q * 2)).off + 1, none⟩ := by
      rw [← add_of_add]; rfl
    rw [this]; exact h1

theorem cellsA_one (l : List AttrD) : ∀ u ∈ l.flatMap cellsA, u.oneCell' = true := by
  intro u hu
  obtain ⟨a, _, ha⟩ := List.mem_flatMap.1 hu
  simp [cellsA, strV] at ha
  rcases ha with rfl | rfl <;> rfl

def ClonePost (w : World) (l : List AttrD) (e : Ending) (w' : World) : Prop := ∃ A c, e = .returned (.slice A l.length c) ∧ AttrsOwn w' w.heap.size A c l ∧ Below w.heap.size w w'

end Go.Proofs.Ythifddkmbjnncaa
