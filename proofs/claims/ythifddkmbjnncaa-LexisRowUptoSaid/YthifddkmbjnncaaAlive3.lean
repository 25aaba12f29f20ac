/-
  The walk of law03.alive.
-/
import Derived.Test.YthifddkmbjnncaaAll
namespace Go.Proofs.Ythifddkmbjnncaa
open Go.RowKit

def aliveT : List (Nat × TokD) := [(0, ⟨3, [97], [], [⟨[98], [49]⟩]⟩), (10, ⟨4, [], [120], []⟩)]
theorem alive_all : allL 0 [60, 97, 32, 98, 61, 34, 49, 34, 47, 62, 120] = (aliveT, 0, 0) := by decide +kernel
theorem alive_all2 : allL 0 [60, 97, 32, 98, 61, 49, 62] = ([], 5, 30) := by decide +kernel

theorem two_of {α : Type} : ∀ {l : List α}, l.length = 2 → ∃ a b, l = [a, b]
  | [a, b], _ => ⟨a, b, rfl⟩

/-- where the tokens lie, and their attributes -/
theorem TokensOwn.cells {w : World} {B : Nat} {A : Option Addr} {c : Nat} {S : List TSlot} (h : TokensOwn w B A c S) (hl : 0 < S.length) :
    ∃ g, A = some ⟨g, 0, none⟩ ∧ B ≤ g ∧ g < w.heap.size ∧ ∀ k x j u, S[k]? = some x → (cellsT x)[j]? = some u → w.cell? ⟨g, k * 5 + j, none⟩ = some u := by
  obtain ⟨g, rfl, hB, hg, _, hc⟩ := own_flat cellsT cellsT_length h hl
  refine ⟨g, rfl, hB, hg, fun k x j u hx hu => ?_⟩
  have := hc k x j u hx hu
  rwa [add_zero_block] at this
theorem AttrsOwn.cells {w : World} {B : Nat} {A : Option Addr} {c : Nat} {l : List AttrD} (h : AttrsOwn w B A c l) (hl : 0 < l.length) :
    ∃ g, A = some ⟨g, 0, none⟩ ∧ B ≤ g ∧ g < w.heap.size ∧ ∀ k x j u, l[k]? = some x → (cellsA x)[j]? = some u → w.cell? ⟨g, k * 2 + j, none⟩ = some u := by
  obtain ⟨g, rfl, hB, hg, _, hc⟩ := own_flat cellsA cellsA_length h hl
  refine ⟨g, rfl, hB, hg, fun k x j u hx hu => ?_⟩
  have := hc k x j u hx hu
  rwa [add_zero_block] at this

set_option maxRecDepth 100000 in
set_option maxHeartbeats 2000000 in
theorem alive3_any (w : World) : Calls Try.prog 16 #[] w (Ret w (.bool true)) := by
  have HP : Hid (allL 0 (⟨#[60, 97, 32, 98, 61, 34, 49, 34, 47, 62, 120]⟩ : ByteArray).data.toList = (aliveT, 0, 0)) := alive_all
  have HP2 : Hid (allL 0 (⟨#[60, 97, 32, 98, 61, 49, 62]⟩ : ByteArray).data.toList = ([], 5, 30)) := alive_all2
  go_enter Try.func16, Try.ntmps16
  go_wp2_with fail
  refine (All_any _ w (by decide) _ HP).mono ?_
  rintro e w1 ⟨hb1, hpost⟩
  rcases hpost with ⟨_, A, c, S, hee, hown, hat, hS⟩ | ⟨h, _⟩
  · have hlen : S.length = 2 := by have := congrArg List.length hS; simpa [aliveT] using this
    obtain ⟨x0, x1, rfl⟩ := two_of hlen
    obtain ⟨⟨p0, t0⟩, A0, c0⟩ := x0
    obtain ⟨⟨p1, t1⟩, A1, c1⟩ := x1
    simp only [List.map_cons, List.map_nil, aliveT, List.cons.injEq, Prod.mk.injEq, and_true] at hS
    obtain ⟨⟨rfl, rfl⟩, rfl, rfl⟩ := hS
    obtain ⟨g, rfl, hBg, hg, hc⟩ := hown.cells (by simp)
    have ha0 : AttrsOwn w1 w.heap.size A0 c0 [⟨[98], [49]⟩] := hat _ List.mem_cons_self
    obtain ⟨g0, rfl, _, hg0, hc0⟩ := ha0.cells (by simp)
    have y0 : w1.cell? ⟨g, 0, none⟩ = some (.int .i64 3) := hc 0 _ 0 _ rfl rfl
    have y2 : w1.cell? ⟨g, 2, none⟩ = some (.string ⟨#[97]⟩) := hc 0 _ 2 _ rfl rfl
    have y4 : w1.cell? ⟨g, 4, none⟩ = some (.slice (some ⟨g0, 0, none⟩) 1 c0) := hc 0 _ 4 _ rfl rfl
    have y8 : w1.cell? ⟨g, 8, none⟩ = some (.string ⟨#[120]⟩) := hc 1 _ 3 _ rfl rfl
    have y9 : w1.cell? ⟨g0, 1, none⟩ = some (.string ⟨#[49]⟩) := hc0 0 _ 1 _ rfl rfl
    have hee' : e = .returned (.tuple #[.slice (some ⟨g, 0, none⟩) 2 c, .int .i64 0, .int .i64 0]) := hee
    clear hee hown hat ha0 hc hc0
    subst hee'
    go_wp2_with fail
    refine (All_any _ w1 (by decide) _ HP2).mono ?_
    rintro e w2 ⟨hb2, hpost⟩
    rcases hpost with ⟨h, _⟩ | ⟨_, hee⟩
    · exact absurd h (by decide)
    · have hee' : e = .returned (.tuple #[.slice none 0 0, .int .i64 5, .int .i64 30]) := hee
      clear hee
      subst hee'
      rw [← hb2.cell (p := ⟨g, 0, none⟩) hg] at y0
      rw [← hb2.cell (p := ⟨g, 2, none⟩) hg] at y2
      rw [← hb2.cell (p := ⟨g, 4, none⟩) hg] at y4
      rw [← hb2.cell (p := ⟨g, 8, none⟩) hg] at y8
      rw [← hb2.cell (p := ⟨g0, 1, none⟩) hg0] at y9
      go_wp2_with fail
      go_ret
      exact ⟨rfl, hb1.trans (hb2.mono hb1.size)⟩
  · exact absurd rfl h
end Go.Proofs.Ythifddkmbjnncaa
