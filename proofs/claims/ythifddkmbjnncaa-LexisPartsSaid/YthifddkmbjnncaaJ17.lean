/-
  Texts of this claim, joined (by a program of the claim's author): TokSame, Alive3, Ahead3, Toks, Parts3.
-/
import Derived.Test.YthifddkmbjnncaaJ10
import Derived.Test.YthifddkmbjnncaaJ5
import Derived.Test.YthifddkmbjnncaaJ1
import Derived.Test.YthifddkmbjnncaaJ16
/-
  ref03.Same at two tokens that are the same.
-/
namespace Go.Proofs.Ythifddkmbjnncaa
open Go.RowKit

set_option maxRecDepth 100000 in
set_option maxHeartbeats 1000000 in
theorem TokSame_eq (t : TokD) (at_ : Int) (A B : Option Addr) (c d : Nat) (w : World) (hA : AttrsAt w w.heap.size A t.attrs) (hB : AttrsAt w w.heap.size B t.attrs) (hl : t.attrs.length ≤ 1000000000) :
    Calls Try.prog 19 #[.agg #[.int .i64 t.kind, .int .i64 at_, .string ⟨t.name.toArray⟩, .string ⟨t.text.toArray⟩, .slice A t.attrs.length c], .agg #[.int .i64 t.kind, .int .i64 at_, .string ⟨t.name.toArray⟩, .string ⟨t.text.toArray⟩, .slice B t.attrs.length d]] w (Ret w (.bool true)) := by
  have HA := Lib.hid hA
  have HB := Lib.hid hB
  clear hA hB
  go_enter Try.func19, Try.ntmps19
  go_wp2_with fail
  obtain ⟨W1, hW1⟩ : ∃ W1, Hid (W1 = (w.alloc (.cells #[.int .i64 t.kind, .int .i64 at_, .string ⟨t.name.toArray⟩, .string ⟨t.text.toArray⟩, .slice A t.attrs.length c] 33)).alloc (.cells #[.int .i64 t.kind, .int .i64 at_, .string ⟨t.name.toArray⟩, .string ⟨t.text.toArray⟩, .slice B t.attrs.length d] 33)) := ⟨_, rfl⟩
  rw [← hW1.out]
  have hbW : Below w.heap.size w W1 := by rw [hW1.out]; exact ((Below.refl _ w).alloc (Nat.le_refl _) _).alloc (by simp) _
  refine (SameAttrs_any t.attrs t.attrs A B c d W1 ((HA.out.below hbW).more hbW.size) ((HB.out.below hbW).more hbW.size) hl hl true (decide_eq_true rfl)).mono ?_
  rintro e w2 ⟨rfl, hb2⟩
  go_wp2_with fail
  go_ret
  exact ⟨rfl, hbW.trans (hb2.mono hbW.size)⟩
end Go.Proofs.Ythifddkmbjnncaa

/-
  The walk of law03.alive.
-/
namespace Go.Proofs.Ythifddkmbjnncaa
open Go.RowKit

def aliveT : List (Nat × TokD) := [(0, ⟨3, [97], [], [⟨[98], [49]⟩]⟩), (10, ⟨4, [], [120], []⟩)]
theorem alive_all : allL 0 [60, 97, 32, 98, 61, 34, 49, 34, 47, 62, 120] = (aliveT, 0, 0) := by decide +kernel
theorem alive_all2 : allL 0 [60, 97, 32, 98, 61, 49, 62] = ([], 5, 30) := by decide +kernel

theorem two_of {α : Type} : ∀ {l : List α}, l.length = 2 → ∃ a b, l = [a, b]
  | [a, b], _ => ⟨a, b, rfl⟩

/-- where the tokens lie, and their attributes -/
theorem TokensOwn.cells {w : World} {B : Nat} {A : Option Addr} {c : Nat} {S : List TSlot} (h : TokensOwn w B A c S) (hl : 0 < S.length) :
    ∃ g, A = some ⟨g, 0, none⟩ ∧ B ≤ g ∧ g < w.heap.size ∧ ∀ k x j u, S[k]? = some x → (cellsT x)[j]? = some u → w.cell? ⟨g, k * 5 + j, none⟩ = some u := by
  obtain ⟨g, rfl, hB, hg, _, hc⟩ := own_flat cellsT cellsT_length h hl
  refine ⟨g, rfl, hB, hg, fun k x j u hx hu => ?_⟩
  have := hc k x j u hx hu
  rwa [add_zero_block] at this
theorem AttrsOwn.cells {w : World} {B : Nat} {A : Option Addr} {c : Nat} {l : List AttrD} (h : AttrsOwn w B A c l) (hl : 0 < l.length) :
    ∃ g, A = some ⟨g, 0, none⟩ ∧ B ≤ g ∧ g < w.heap.size ∧ ∀ k x j u, l[k]? = some x → (cellsA x)[j]? = some u → w.cell? ⟨g, k * 2 + j, none⟩ = some u := by
  obtain ⟨g, rfl, hB, hg, _, hc⟩ := own_flat cellsA cellsA_length h hl
  refine ⟨g, rfl, hB, hg, fun k x j u hx hu => ?_⟩
  have := hc k x j u hx hu
  rwa [add_zero_block] at this

set_option maxRecDepth 100000 in
set_option maxHeartbeats 2000000 in
theorem alive3_any (w : World) : Calls Try.prog 16 #[] w (Ret w (.bool true)) := by
  have HP : Hid (allL 0 (⟨#[60, 97, 32, 98, 61, 34, 49, 34, 47, 62, 120]⟩ : ByteArray).data.toList = (aliveT, 0, 0)) := alive_all
  have HP2 : Hid (allL 0 (⟨#[60, 97, 32, 98, 61, 49, 62]⟩ : ByteArray).data.toList = ([], 5, 30)) := alive_all2
  go_enter Try.func16, Try.ntmps16
  go_wp2_with fail
  refine (All_any _ w (by decide) _ HP).mono ?_
  rintro e w1 ⟨hb1, hpost⟩
  rcases hpost with ⟨_, A, c, S, hee, hown, hat, hS⟩ | ⟨h, _⟩
  · have hlen : S.length = 2 := by have := congrArg List.length hS; simpa [aliveT] using this
    obtain ⟨x0, x1, rfl⟩ := two_of hlen
    obtain ⟨⟨p0, t0⟩, A0, c0⟩ := x0
    obtain ⟨⟨p1, t1⟩, A1, c1⟩ := x1
    simp only [List.map_cons, List.map_nil, aliveT, List.cons.injEq, Prod.mk.injEq, and_true] at hS
    obtain ⟨⟨rfl, rfl⟩, rfl, rfl⟩ := hS
    obtain ⟨g, rfl, hBg, hg, hc⟩ := hown.cells (by simp)
    have ha0 : AttrsOwn w1 w.heap.size A0 c0 [⟨[98], [49]⟩] := hat _ List.mem_cons_self
    obtain ⟨g0, rfl, _, hg0, hc0⟩ := ha0.cells (by simp)
    have y0 : w1.cell? ⟨g, 0, none⟩ = some (.int .i64 3) := hc 0 _ 0 _ rfl rfl
    have y2 : w1.cell? ⟨g, 2, none⟩ = some (.string ⟨#[97]⟩) := hc 0 _ 2 _ rfl rfl
    have y4 : w1.cell? ⟨g, 4, none⟩ = some (.slice (some ⟨g0, 0, none⟩) 1 c0) := hc 0 _ 4 _ rfl rfl
    have y8 : w1.cell? ⟨g, 8, none⟩ = some (.string ⟨#[120]⟩) := hc 1 _ 3 _ rfl rfl
    have y9 : w1.cell? ⟨g0, 1, none⟩ = some (.string ⟨#[49]⟩) := hc0 0 _ 1 _ rfl rfl
    have hee' : e = .returned (.tuple #[.slice (some ⟨g, 0, none⟩) 2 c, .int .i64 0, .int .i64 0]) := hee
    clear hee hown hat ha0 hc hc0
    subst hee'
    go_wp2_with fail
    refine (All_any _ w1 (by decide) _ HP2).mono ?_
    rintro e w2 ⟨hb2, hpost⟩
    rcases hpost with ⟨h, _⟩ | ⟨_, hee⟩
    · exact absurd h (by decide)
    · have hee' : e = .returned (.tuple #[.slice none 0 0, .int .i64 5, .int .i64 30]) := hee
      clear hee
      subst hee'
      rw [← hb2.cell (p := ⟨g, 0, none⟩) hg] at y0
      rw [← hb2.cell (p := ⟨g, 2, none⟩) hg] at y2
      rw [← hb2.cell (p := ⟨g, 4, none⟩) hg] at y4
      rw [← hb2.cell (p := ⟨g, 8, none⟩) hg] at y8
      rw [← hb2.cell (p := ⟨g0, 1, none⟩) hg0] at y9
      go_wp2_with fail
      go_ret
      exact ⟨rfl, hb1.trans (hb2.mono hb1.size)⟩
  · exact absurd rfl h
end Go.Proofs.Ythifddkmbjnncaa

/-
  The law LexisAhead walked.
-/
namespace Go.Proofs.Ythifddkmbjnncaa
open Go.RowKit

theorem cat_list (s m : ByteArray) : (s ++ m).data.toList = s.data.toList ++ m.data.toList := by simp [ByteArray.data_append]
theorem drop_cat {s m : ByteArray} {p : Nat} (h : p ≤ s.size) : (s ++ m).data.toList.drop p = s.data.toList.drop p ++ m.data.toList := by
  rw [cat_list, drop_more _ (by rw [size_toList]; exact h)]

/-- a token in a block of its own -/
theorem tok_box {w W : World} {cs : Array Value} (hW : W = w.alloc (.cells cs 34)) : (∀ j u, cs[j]? = some u → W.cell? ⟨w.heap.size, j, none⟩ = some u) ∧ w.heap.size < W.heap.size ∧ Below w.heap.size w W := by
  subst hW
  exact ⟨fun j u hu => by rw [World.cell?_alloc_at _ _ _ _ rfl]; exact hu, by simp, (Below.refl _ w).alloc (Nat.le_refl _) _⟩


set_option maxRecDepth 100000 in
set_option maxHeartbeats 2000000 in
theorem walk_LexisAhead (s : ByteArray) (i : Int) (m : ByteArray) (w : World) (_hs : s.size ≤ maxLen) (_ : (Lit.int .i64 i).wf = true) (_hm : m.size ≤ maxLen) : Calls Try.prog 6 #[.string s, .int .i64 i, .string m] w (Ret w (.bool true)) := by
  by_cases hs0 : 20000 < s.size
  · have h1 : (20000 : Int) < s.size := by omega
    clear _hs _hm
    go_enter Try.func6, Try.ntmps6
    go_wp2_with fail
    refine (alive3_any _).mono ?_
    rintro e9 w9 ⟨rfl, hb9⟩
    go_wp2_with fail
    go_ret
    exact ⟨rfl, hb9⟩
  have h1 : (s.size : Int) ≤ 20000 := by omega
  by_cases hm0 : 20000 < m.size
  · have h2 : (20000 : Int) < m.size := by omega
    clear _hs _hm
    go_enter Try.func6, Try.ntmps6
    go_wp2_with fail
    refine (alive3_any _).mono ?_
    rintro e9 w9 ⟨rfl, hb9⟩
    go_wp2_with fail
    go_ret
    exact ⟨rfl, hb9⟩
  have h2 : (m.size : Int) ≤ 20000 := by omega
  have hss : s.size ≤ 1000000000 := by omega
  have hsm : (s ++ m).size ≤ 1000000000 := by rw [ByteArray.size_append]; omega
  have HS0 := Lib.hid hs0
  have HM0 := Lib.hid hm0
  clear _hs _hm hs0 hm0
  by_cases hi : (i < 0 || (s.size : Int) ≤ i) = true
  · go_enter Try.func6, Try.ntmps6
    go_wp2_with fail
    refine (One_out s i w hi).mono ?_
    rintro e w1 ⟨hee, hb1⟩
    have hee' : e = .returned (.tuple #[.agg #[.int .i64 0, .int .i64 0, .string ⟨#[]⟩, .string ⟨#[]⟩, .slice none 0 0], .int .i64 0, .int .i64 i, .int .i64 30]) := hee
    clear hee
    subst hee'
    go_wp2_with fail
    refine (alive3_any _).mono ?_
    rintro e9 w9 ⟨rfl, hb9⟩
    go_wp2_with fail
    go_ret
    exact ⟨rfl, hb1.trans ((((Below.refl _ w1).alloc (Nat.le_refl _) _).trans (hb9.mono (by simp))).mono hb1.size)⟩
  · have hi2 : 0 ≤ i ∧ i < s.size := by simp at hi; omega
    obtain ⟨p, rfl⟩ : ∃ p : Nat, i = p := ⟨i.toNat, by omega⟩
    have hp : p < s.size := by omega
    clear hi hi2
    obtain ⟨V, hV⟩ : ∃ V, Hid (oneT (s.data.toList.drop p) = V) := ⟨_, rfl⟩
    have hne : s.data.toList.drop p ≠ [] := by
      intro e
      have := congrArg List.length e
      rw [List.length_drop, size_toList] at this
      simp at this; omega
    have hwit := oneT_within _ hne
    rw [hV.out] at hwit
    go_enter Try.func6, Try.ntmps6
    go_wp2_with fail
    refine (One_any s p w hp hss V hV).mono ?_
    rintro e1 w1 ⟨hb1, hpost⟩
    cases V with
    | bad k e =>
      have he1 : (e != 0) = true := by simpa using hwit.2
      have hee : e1 = .returned (.tuple #[.agg #[.int .i64 0, .int .i64 0, .string ⟨#[]⟩, .string ⟨#[]⟩, .slice none 0 0], .int .i64 0, .int .i64 (p + k : Nat), .int .i64 e]) := hpost
      clear hwit hpost
      subst hee
      go_wp2_with fail
      refine (alive3_any _).mono ?_
      rintro e9 w9 ⟨rfl, hb9⟩
      go_wp2_with fail
      go_ret
      exact ⟨rfl, hb1.trans ((((Below.refl _ w1).alloc (Nat.le_refl _) _).trans (hb9.mono (by simp))).mono hb1.size)⟩
    | ok t n =>
      obtain ⟨A2, c2, hee0, hA2⟩ := hpost
      have hee : e1 = .returned (.tuple #[.agg #[.int .i64 t.kind, .int .i64 p, .string ⟨t.name.toArray⟩, .string ⟨t.text.toArray⟩, .slice A2 t.attrs.length c2], .int .i64 (p + n : Nat), .int .i64 0, .int .i64 0]) := hee0
      clear hee0
      subst hee
      by_cases hk4 : t.kind = 4
      · have k4 : (t.kind == 4) = true := by simpa using hk4
        clear hk4
        go_wp2_with fail
        refine (alive3_any _).mono ?_
        rintro e9 w9 ⟨rfl, hb9⟩
        go_wp2_with fail
        go_ret
        exact ⟨rfl, hb1.trans ((((Below.refl _ w1).alloc (Nat.le_refl _) _).trans (hb9.mono (by simp))).mono hb1.size)⟩
      · have k4 : (t.kind == 4) = false := by simpa using hk4
        obtain ⟨W2, hW2⟩ : ∃ W2, Hid (W2 = w1.alloc (.cells #[.int .i64 t.kind, .int .i64 p, .string ⟨t.name.toArray⟩, .string ⟨t.text.toArray⟩, .slice A2 t.attrs.length c2] 34)) := ⟨_, rfl⟩
        obtain ⟨hy, hz2, hbW2⟩ := tok_box hW2.out
        have hp2 : p < (s ++ m).size := by rw [ByteArray.size_append]; omega
        have hV2 : Hid (oneT ((s ++ m).data.toList.drop p) = .ok t n) := by
          show _ = _
          rw [drop_cat (Nat.le_of_lt hp)]
          exact oneT_more _ hV.out hk4
        have HA2 := Lib.hid hA2
        have HY : Hid (∀ (j : Nat) (u : Value), (#[.int .i64 t.kind, .int .i64 p, .string ⟨t.name.toArray⟩, .string ⟨t.text.toArray⟩, .slice A2 t.attrs.length c2] : Array Value)[j]? = some u → W2.cell? ⟨w1.heap.size, j, none⟩ = some u) := hy
        have hmany : t.attrs.length ≤ 1000000000 := by have := (tok_parts hV.out).2.2.2.1; omega
        clear hk4 hA2 hy
        go_wp2_with fail
        rw [← hW2.out]
        refine (One_any (s ++ m) p W2 hp2 hsm _ hV2).mono ?_
        rintro e3 w3 ⟨hb3, hpost3⟩
        obtain ⟨A4, c4, hee0, hA4⟩ := hpost3
        have hee : e3 = .returned (.tuple #[.agg #[.int .i64 t.kind, .int .i64 p, .string ⟨t.name.toArray⟩, .string ⟨t.text.toArray⟩, .slice A4 t.attrs.length c4], .int .i64 (p + n : Nat), .int .i64 0, .int .i64 0]) := hee0
        clear hee0
        subst hee
        obtain ⟨W4, hW4⟩ : ∃ W4, Hid (W4 = w3.alloc (.cells #[.int .i64 t.kind, .int .i64 p, .string ⟨t.name.toArray⟩, .string ⟨t.text.toArray⟩, .slice A4 t.attrs.length c4] 34)) := ⟨_, rfl⟩
        obtain ⟨hy4, hz4, hbW4⟩ := tok_box hW4.out
        have HA4 := Lib.hid hA4
        clear hA4
        go_wp2_with fail
        rw [← hW4.out]
        refine (alive3_any W4).mono ?_
        rintro e5 w5 ⟨rfl, hb5⟩
        have hb25 : Below W2.heap.size W2 w5 := hb3.trans ((hbW4.trans (hb5.mono hbW4.size)).mono hb3.size)
        have hb35 : Below w3.heap.size w3 w5 := hbW4.trans (hb5.mono hbW4.size)
        have y := fun j => hb25.cell (p := ⟨w1.heap.size, j, none⟩) hz2
        have y0 := (y 0).trans (HY.out 0 _ rfl)
        have y1 := (y 1).trans (HY.out 1 _ rfl)
        have y2 := (y 2).trans (HY.out 2 _ rfl)
        have y3 := (y 3).trans (HY.out 3 _ rfl)
        have y4 := (y 4).trans (HY.out 4 _ rfl)
        have z := fun j => hb5.cell (p := ⟨w3.heap.size, j, none⟩) hz4
        have z0 := (z 0).trans (hy4 0 _ rfl)
        have z1 := (z 1).trans (hy4 1 _ rfl)
        have z2 := (z 2).trans (hy4 2 _ rfl)
        have z3 := (z 3).trans (hy4 3 _ rfl)
        have z4 := (z 4).trans (hy4 4 _ rfl)
        have hAt : AttrsAt w5 w5.heap.size A2 t.attrs := ((AttrsOwn.at HA2.out).below (hbW2.trans (hb25.mono hbW2.size))).more (Nat.le_trans hbW2.size hb25.size)
        have hBt : AttrsAt w5 w5.heap.size A4 t.attrs := ((AttrsOwn.at HA4.out).below hb35).more hb35.size
        have HAT := Lib.hid hAt
        have HBT := Lib.hid hBt
        clear y z hy4 hAt hBt
        go_wp2_with fail
        refine (TokSame_eq t p A2 A4 c2 c4 w5 HAT.out HBT.out hmany).mono ?_
        rintro e6 w6 ⟨rfl, hb6⟩
        go_wp2_with fail
        go_ret
        exact ⟨rfl, hb1.trans ((hbW2.trans ((hb25.trans (hb6.mono hb25.size)).mono hbW2.size)).mono hb1.size)⟩
end Go.Proofs.Ythifddkmbjnncaa

/-
  A row of tokens in memory, and what stands in it side by side.
-/
namespace Go.Proofs.Ythifddkmbjnncaa
open Go.RowKit

/-- a token's five cells, where a loop looks for them -/
def TokAt (w : World) (ad : Addr) (k : Nat) (x : TSlot) : Prop :=
  w.cell? (ad.add (k * 5)) = some (.int .i64 x.1.2.kind) ∧ w.cell? ⟨(ad.add (k * 5)).block, (ad.add (k * 5)).off + 1, none⟩ = some (.int .i64 x.1.1) ∧ w.cell? ⟨(ad.add (k * 5)).block, (ad.add (k * 5)).off + 2, none⟩ = some (.string ⟨x.1.2.name.toArray⟩) ∧
    w.cell? ⟨(ad.add (k * 5)).block, (ad.add (k * 5)).off + 3, none⟩ = some (.string ⟨x.1.2.text.toArray⟩) ∧ w.cell? ⟨(ad.add (k * 5)).block, (ad.add (k * 5)).off + 4, none⟩ = some (.slice x.2.1 x.1.2.attrs.length x.2.2)
theorem TokAt.below {w w' : World} {ad : Addr} {k : Nat} {x : TSlot} (h : TokAt w ad k x) (hb : Below w.heap.size w w') (had : ad.block < w.heap.size) : TokAt w' ad k x := by
  have hk' : ∀ n, w'.cell? ⟨(ad.add (k * 5)).block, (ad.add (k * 5)).off + n, none⟩ = w.cell? ⟨(ad.add (k * 5)).block, (ad.add (k * 5)).off + n, none⟩ := fun n => hb.cell (by show (ad.add _).block < _; rw [block_of_add]; exact had)
  obtain ⟨h0, h1, h2, h3, h4⟩ := h
  exact ⟨(hb.cell (by rw [block_of_add]; exact had)).trans h0, (hk' _).trans h1, (hk' _).trans h2, (hk' _).trans h3, (hk' _).trans h4⟩
theorem TokensOwn.at {w : World} {B : Nat} {A : Option Addr} {c : Nat} {S : List TSlot} (h : TokensOwn w B A c S) (hl : 0 < S.length) :
    ∃ ad, A = some ad ∧ ad.block < w.heap.size ∧ ∀ k x, S[k]? = some x → TokAt w ad k x := by
  obtain ⟨g, rfl, hB, hg, hc⟩ := h.cells hl
  refine ⟨⟨g, 0, none⟩, rfl, hg, fun k x hx => ?_⟩
  unfold TokAt
  rw [add_zero_block]
  exact ⟨hc k x 0 _ hx rfl, hc k x 1 _ hx rfl, hc k x 2 _ hx rfl, hc k x 3 _ hx rfl, hc k x 4 _ hx rfl⟩

/-- tokens side by side: each where the one ahead ends -/
def RowOf : Nat → List UInt8 → List (Nat × TokD) → Prop
  | _, l, [] => l = []
  | p, l, (q, t) :: r => q = p ∧ l ≠ [] ∧ ∃ n, oneT l = .ok t n ∧ RowOf (p + n) (l.drop n) r
theorem allF_row : ∀ (f : Nat) (p : Nat) (l : List UInt8), l.length < f → (allF f p l).2.2 = 0 → RowOf p l (allF f p l).1
  | 0, _, _, h, _ => by omega
  | f + 1, p, l, hf, h => by
    rw [allF] at h ⊢
    split
    · rename_i hl; exact hl
    · rename_i hl
      rw [if_neg hl] at h
      have hw := oneT_within l hl
      cases ho : oneT l with
      | bad k e => rw [ho] at h hw; exact absurd h hw.2
      | ok t n =>
        rw [ho] at h hw
        simp only at h ⊢
        split
        · rename_i hq
          obtain ⟨h1, h2⟩ := hw
          exact ⟨rfl, hl, n, ho, allF_row f (p + n) (l.drop n) (by rw [List.length_drop]; omega) hq⟩
        · rename_i hq
          rw [if_neg hq] at h
          exact absurd h hq
theorem rowOf_len : ∀ (T : List (Nat × TokD)) (p : Nat) (l : List UInt8), RowOf p l T → T.length ≤ l.length
  | [], _, _, _ => Nat.zero_le _
  | (q, t) :: r, p, l, h => by
    obtain ⟨rfl, hl, n, ho, hr⟩ := h
    have hw := oneT_within l hl
    rw [ho] at hw
    obtain ⟨h1, h2⟩ := hw
    have := rowOf_len r _ _ hr
    rw [List.length_drop] at this
    simp only [List.length_cons]
    omega
theorem all_row {p : Nat} {l : List UInt8} (h : (allL p l).2.2 = 0) : RowOf p l (allL p l).1 := allF_row _ p l (Nat.lt_succ_self _) h
end Go.Proofs.Ythifddkmbjnncaa

/-
  The law LexisParts walked.
-/
namespace Go.Proofs.Ythifddkmbjnncaa
open Go.RowKit

/-- what is told of each of the tokens of a row -/
theorem row_parts : ∀ (T : List (Nat × TokD)) (p : Nat) (l : List UInt8), RowOf p l T → ∀ x ∈ T, ∃ (m : List UInt8) (n : Nat), m.length ≤ l.length ∧ oneT m = .ok x.2 n
  | [], _, _, _, x, h => by cases h
  | (q, t) :: r, p, l, h, x, hx => by
    obtain ⟨rfl, hl, n, ho, hr⟩ := h
    rcases List.mem_cons.1 hx with rfl | hx
    · exact ⟨l, n, Nat.le_refl _, ho⟩
    · obtain ⟨m, n', h1, h2⟩ := row_parts r _ _ hr x hx
      rw [List.length_drop] at h1
      exact ⟨m, n', by omega, h2⟩

theorem AttrsOwn.item {w : World} {B : Nat} {A : Option Addr} {c : Nat} {l : List AttrD} (h : AttrsOwn w B A c l) (hl : 0 < l.length) :
    ∃ ad, A = some ad ∧ ad.block < w.heap.size ∧ ∀ k a, l[k]? = some a → w.cell? (ad.add (k * 2)) = some (.string ⟨a.name.toArray⟩) ∧ w.cell? ⟨(ad.add (k * 2)).block, (ad.add (k * 2)).off + 1, none⟩ = some (.string ⟨a.value.toArray⟩) :=
  AttrsOwn.at h hl

theorem charsE_count {l : List UInt8} (h : charsE l = 0) : 0 ≤ countL l ∧ l.length ≤ 1500 := by
  unfold charsE at h
  split at h
  · cases h
  · split at h
    · cases h
    · omega

structure AFine (N : Nat) (a : AttrD) : Prop where
  name : nameL a.name = true
  nlen : a.name.length ≤ N
  cnt : 0 ≤ countL a.value
  vlen : a.value.length ≤ 1500
structure TFine (N : Nat) (t : TokD) : Prop where
  kind : t.kind = 1 ∨ t.kind = 2 ∨ t.kind = 3 ∨ t.kind = 4
  name : t.kind < 4 → nameL t.name = true
  four : t.kind = 4 → t.name = []
  nlen : t.name.length ≤ N
  cnt : 0 ≤ countL t.text
  tlen : t.text.length ≤ 1500
  many : t.attrs.length ≤ 20
  rise : Rise t.attrs
  attrs : ∀ a ∈ t.attrs, AFine N a
theorem tok_kind4 {l : List UInt8} {t : TokD} {n : Nat} (h : oneT l = .ok t n) : t.kind = 1 ∨ t.kind = 2 ∨ t.kind = 3 ∨ t.kind = 4 := by
  rcases oneT_fine h with ⟨hk, _⟩ | ⟨hk, _⟩ | ⟨hk, _⟩
  · exact .inr (.inr (.inr hk))
  · exact .inr (.inl hk)
  · rcases hk with hk | hk
    · exact .inl hk
    · exact .inr (.inr (.inl hk))
theorem tok_fine {m : List UInt8} {t : TokD} {n N : Nat} (h : oneT m = .ok t n) (hN : m.length ≤ N) : TFine N t := by
  have hp := tok_parts h
  have hs := tok_sm h
  have hc := charsE_count hp.2.2.1
  exact ⟨tok_kind4 h, hp.1, hp.2.1, Nat.le_trans hs.name hN, hc.1, hc.2, hp.2.2.2.1, hp.2.2.2.2.1, fun a ha => by
    have h1 := hp.2.2.2.2.2 a ha
    have h2 := charsE_count h1.2
    exact ⟨h1.1, Nat.le_trans (hs.attrs a ha).1 hN, h2.1, h2.2⟩⟩


set_option maxRecDepth 100000 in
set_option maxHeartbeats 4000000 in
theorem walk_LexisParts (s : ByteArray) (w : World) (_hm : s.size ≤ maxLen) : Calls Try.prog 7 #[.string s] w (Ret w (.bool true)) := by
  by_cases hs0 : 20000 < s.size
  · have h1 : (20000 : Int) < s.size := by omega
    clear _hm
    go_enter Try.func7, Try.ntmps7
    go_wp2_with fail
    refine (alive3_any _).mono ?_
    rintro e9 w9 ⟨rfl, hb9⟩
    go_wp2_with fail
    go_ret
    exact ⟨rfl, hb9⟩
  have h1 : (s.size : Int) ≤ 20000 := by omega
  have hss : s.size ≤ 1000000000 := by omega
  have HS0 := Lib.hid hs0
  clear _hm hs0
  obtain ⟨R, hR⟩ : ∃ R, Hid (allL 0 s.data.toList = R) := ⟨_, rfl⟩
  go_enter Try.func7, Try.ntmps7
  go_wp2_with fail
  refine (All_any s w hss R hR).mono ?_
  rintro e w1 ⟨hb1, hpost⟩
  rcases hpost with ⟨hR0, A, c, S, rfl, hown, hat, hS⟩ | ⟨hR0, rfl⟩
  · have hrow0 : RowOf 0 s.data.toList (S.map (·.1)) := by
      rw [hS, ← hR.out]
      exact all_row (by rw [hR.out]; exact hR0)
    have HSZ : S.length ≤ 1000000000 := by
      have := rowOf_len _ _ _ hrow0
      rw [size_toList, List.length_map] at this
      omega
    have HFI : Hid (∀ x ∈ S, TFine 20000 x.1.2) := fun x hx => by
      obtain ⟨m, n, hm1, hm2⟩ := row_parts _ _ _ hrow0 x.1 (List.mem_map.2 ⟨x, hx, rfl⟩)
      rw [size_toList] at hm1
      exact tok_fine hm2 (by have := HS0.out; omega)
    have HOWN := Lib.hid hown
    have HAT : Hid (TAttrs w1 w.heap.size S) := hat
    clear hown hat hS hR0 hrow0
    go_wp2_with fail
    go_loopw [22] (fun i wr => ∃ (k : Nat), k ≤ S.length ∧ i = .int .i64 (k : Int) ∧ Hid (Below w1.heap.size w1 wr)) (fun i _ => S.length - (intOf i).toNat)
    case atStart => exact ⟨0, Nat.zero_le _, rfl, (Below.refl _ _ : Below w1.heap.size w1 w1)⟩
    case round =>
      obtain ⟨k, hk, rfl, hbel⟩ := hrel
      rename World => wo
      by_cases hlt : k < S.length
      · obtain ⟨ad, rfl, had, hc⟩ := HOWN.out.at (by omega)
        obtain ⟨⟨⟨q, t⟩, A1, c1⟩, hx⟩ : ∃ x, S[k]? = some x := ⟨S[k], List.getElem?_eq_getElem _⟩
        have hmem := List.mem_of_getElem? hx
        have HF : Hid (TFine 20000 t) := HFI.out _ hmem
        have hown1 : AttrsOwn w1 w.heap.size A1 c1 t.attrs := HAT.out _ hmem
        have htk := (hc k _ hx).below hbel.out had
        unfold TokAt at htk
        obtain ⟨h0, h1, h2, h3, h4⟩ := htk
        simp only at h0 h1 h2 h3 h4
        obtain ⟨W1, hW1⟩ : ∃ W1, Hid (W1 = wo.alloc (.cells #[.int .i64 t.kind, .int .i64 q, .string ⟨t.name.toArray⟩, .string ⟨t.text.toArray⟩, .slice A1 t.attrs.length c1] 34)) := ⟨_, rfl⟩
        obtain ⟨hy, hz1, hbb0⟩ := tok_box hW1.out
        have hbW0 := Lib.hid hbb0
        have HY : Hid (∀ (j : Nat) (u : Value), (#[.int .i64 t.kind, .int .i64 q, .string ⟨t.name.toArray⟩, .string ⟨t.text.toArray⟩, .slice A1 t.attrs.length c1] : Array Value)[j]? = some u → W1.cell? ⟨wo.heap.size, j, none⟩ = some u) := hy
        have HATT : Hid (AttrsAt W1 W1.heap.size A1 t.attrs) := ((AttrsOwn.at hown1).below (hbel.out.trans (hbb0.mono hbel.out.size))).more (Nat.le_trans hbel.out.size hbb0.size)
        have x0 := hy 0 _ rfl
        have x2 := hy 2 _ rfl
        have x3 := hy 3 _ rfl
        obtain ⟨cv0, hcv⟩ : ∃ cv, Hid (countL t.text = cv) := ⟨_, rfl⟩
        have hcv0 : 0 ≤ cv0 := by rw [← hcv.out]; exact HF.out.cnt
        have htl : (t.text.length : Int) ≤ 1500 := by have := HF.out.tlen; omega
        have hal : (t.attrs.length : Int) ≤ 20 := by have := HF.out.many; omega
        have htn : t.text.length ≤ 1500 := HF.out.tlen
        clear hx hmem hown1 hc hy hbb0
        by_cases hk4 : t.kind = 4
        · have k4 : (t.kind == 4) = true := by simpa using hk4
          have hnm := HF.out.four hk4
          have hnn : (t.name == []) = true := by rw [hnm]; rfl
          have k5 : 4 ≤ t.kind := by omega
          have hW1n : Hid (W1 = wo.alloc (.cells #[.int .i64 t.kind, .int .i64 q, .string ⟨#[]⟩, .string ⟨t.text.toArray⟩, .slice A1 t.attrs.length c1] 34)) := by show _ = _; rw [hW1.out, hnm]
          clear hk4
          go_wp2_with fail
          rw [← hW1n.out]
          refine (Count_as _ W1 (by show t.text.toArray.size ≤ maxLen; unfold maxLen; simp; omega) cv0 hcv).mono ?_
          rintro e3 WW ⟨rfl, hb3⟩
          have hbW : Hid (Below W1.heap.size W1 WW) := hb3
          have HGG : Hid (wo.heap.size < WW.heap.size) := Nat.lt_of_lt_of_le hz1 hbW.out.size
          have y := fun j => hbW.out.cell (p := ⟨wo.heap.size, j, none⟩) hz1
          have y3 := (y 3).trans (HY.out 3 _ rfl)
          have y4 := (y 4).trans (HY.out 4 _ rfl)
          have y0 : True := trivial
          have y1 : True := trivial
          have y2 : True := trivial
          have HY4 := Lib.hid y4
          clear y
          clear x0 x2 x3 h0 h1 h2 h3 h4
          go_wp2_with fail
          clear y0 y1 y2 y3 y4
          go_loopw [66] (fun i wr => ∃ (j : Nat), j ≤ t.attrs.length ∧ i = .int .i64 (j : Int) ∧ Hid (Below WW.heap.size WW wr)) (fun i _ => t.attrs.length - (intOf i).toNat)
          case atStart => exact ⟨0, Nat.zero_le _, rfl, (Below.refl _ _ : Below WW.heap.size WW WW)⟩
          case round =>
            obtain ⟨j, hj, rfl, hbi⟩ := hrel
            by_cases hjl : j < t.attrs.length
            · obtain ⟨a, ha⟩ : ∃ a, Hid (t.attrs[j]? = some a) := ⟨t.attrs[j], List.getElem?_eq_getElem _⟩
              have hfa := HF.out.attrs a (List.mem_of_getElem? ha.out)
              have hATi := (HATT.out.below (hbW.out.trans (hbi.out.mono hbW.out.size))).more (Nat.le_trans hbW.out.size hbi.out.size)
              obtain ⟨bd, hbd, hbb, hcc⟩ := hATi (by omega)
              subst hbd
              obtain ⟨a0, a1⟩ := hcc j a ha.out
              unfold strV at a0 a1
              have hfn : Hid (nameL a.name = true) := hfa.name
              have hnl : a.name.length ≤ 1000000000 := by have := hfa.nlen; omega
              have hvl : a.value.length ≤ 1000000000 := by have := hfa.vlen; omega
              obtain ⟨cv, hcv⟩ : ∃ cv, Hid (countL a.value = cv) := ⟨_, rfl⟩
              have hcv0 : 0 ≤ cv := by rw [← hcv.out]; exact hfa.cnt
              have hcvd : decide (cv < 0) = false := by simp; omega
              have hvl5 : (a.value.length : Int) ≤ 1500 := by have := hfa.vlen; omega
              obtain ⟨W5, hW5⟩ : ∃ W5, Hid (W5 = wr.alloc (.cells #[.string ⟨a.name.toArray⟩, .string ⟨a.value.toArray⟩] 44)) := ⟨_, rfl⟩
              have hbW5 : Below wr.heap.size wr W5 := by rw [hW5.out]; exact (Below.refl _ wr).alloc (Nat.le_refl _) _
              have hz5 : wr.heap.size < W5.heap.size := by rw [hW5.out]; simp
              have b0 : W5.cell? ⟨wr.heap.size, 0, none⟩ = some (.string ⟨a.name.toArray⟩) := by rw [hW5.out, World.cell?_alloc_at _ _ _ _ rfl]; rfl
              have b1 : W5.cell? ⟨wr.heap.size, 1, none⟩ = some (.string ⟨a.value.toArray⟩) := by rw [hW5.out, World.cell?_alloc_at _ _ _ _ rfl]; rfl
              have hbWi : Below WW.heap.size WW W5 := hbi.out.trans (hbW5.mono hbi.out.size)
              have HB5 := Lib.hid hbWi
              have HB56 := Lib.hid hbW5
              have HA5 : Hid (AttrsAt W5 W5.heap.size (some bd) t.attrs) := (hATi.below hbW5).more hbW5.size
              have k0 : (0 : Int) ≤ (j : Int) := by omega
              have k1 : (j : Int) < t.attrs.length := by omega
              have HFA := Lib.hid hfa
              clear hfa hcc hATi hbWi hbW5
              by_cases hj0 : j = 0
              · have hk2 : ¬ (0 < j) := by omega
                have hk1 : decide ((0 : Int) < (j : Int)) = false := by simp; omega
                have HS : Hid (∀ w', Below W5.heap.size W5 w' → w'.cell? ⟨wr.heap.size, 0, none⟩ = some (.string ⟨a.name.toArray⟩) ∧ w'.cell? ⟨wr.heap.size, 1, none⟩ = some (.string ⟨a.value.toArray⟩)) := fun w' hb' =>
                  ⟨(hb'.cell (p := ⟨wr.heap.size, 0, none⟩) hz5).trans b0, (hb'.cell (p := ⟨wr.heap.size, 1, none⟩) hz5).trans b1⟩
                clear b0 b1 hj0
                go_wp2_with fail
                rw [← hW5.out]
                refine wp_region_held_drew (S := fun w' => w'.cell? ⟨wr.heap.size, 0, none⟩ = some (.string ⟨a.name.toArray⟩) ∧ w'.cell? ⟨wr.heap.size, 1, none⟩ = some (.string ⟨a.value.toArray⟩)) (by kernel_rfl) (HS.out _ (Below.refl _ W5).drew) (fun hHeld => ?_)
                refine tk (oi := ⟨_, _, _, _, _, _⟩) (v := ?_) 0 rfl (by kernel_rfl) (fun _ _ _ h => h) (.inl ⟨by rfl, ?_⟩) (by assumption) ?_; rotate_left
                · (intro wS hSw; (try dsimp only at hSw); go_simp); all_goals with_reducible rfl
                try go_frame
                refine tk (oi := ⟨_, _, _, _, _, _⟩) (v := ?_) 1 rfl (by kernel_rfl) (fun _ _ _ h => h) (.inl ⟨by rfl, ?_⟩) (by assumption) ?_; rotate_left
                · (intro wS hSw; (try dsimp only at hSw); go_simp); all_goals with_reducible rfl
                try go_frame
                refine wpAnyH_ready (rs := [2]) (by kernel_rfl) (by simp) ?_
                refine AllReadyH.cons (o := ⟨_, _, _, _, _, _⟩) rfl (fun K hK => ?_) AllReadyH.nil
                go_simp
                refine (Name_l a.name W5.drew hnl true hfn).mono ?_
                rintro e6 w6 ⟨rfl, hb6⟩
                have hb6' : Below W5.heap.size W5 w6 := ((Below.refl _ W5).drew).trans hb6
                go_wp2_with fail
                refine hK.out _ _ (HS.out _ hb6') (fun hHeld => ?_)
                clear hK K
                try go_frame
                refine tk (oi := ⟨_, _, _, _, _, _⟩) (v := ?_) 3 rfl (by kernel_rfl) (fun _ _ _ h => h) (.inl ⟨by rfl, ?_⟩) (by assumption) ?_; rotate_left
                · (intro wS hSw; (try dsimp only at hSw); go_simp); all_goals with_reducible rfl
                try go_frame
                refine tk (oi := ⟨_, _, _, _, _, _⟩) (v := ?_) 4 rfl (by kernel_rfl) (fun _ _ _ h => h) (.inl ⟨by rfl, ?_⟩) (by assumption) ?_; rotate_left
                · (intro wS hSw; (try dsimp only at hSw); go_simp); all_goals with_reducible rfl
                try go_frame
                refine tk (oi := ⟨_, _, _, _, _, _⟩) (v := ?_) 5 rfl (by kernel_rfl) (fun _ _ _ h => h) (.inl ⟨by rfl, ?_⟩) (by assumption) ?_; rotate_left
                · (intro wS hSw; (try dsimp only at hSw); go_simp); all_goals with_reducible rfl
                try go_frame
                refine tk (oi := ⟨_, _, _, _, _, _⟩) (v := ?_) 6 rfl (by kernel_rfl) (fun _ _ _ h => h) (.inl ⟨by rfl, ?_⟩) (by assumption) ?_; rotate_left
                · (intro wS hSw; (try dsimp only at hSw); go_simp); all_goals with_reducible rfl
                try go_frame
                refine tk (oi := ⟨_, _, _, _, _, _⟩) (v := ?_) 7 rfl (by kernel_rfl) (fun _ _ _ h => h) (.inl ⟨by rfl, ?_⟩) (by assumption) ?_; rotate_left
                · (intro wS hSw; (try dsimp only at hSw); go_simp); all_goals with_reducible rfl
                try go_frame
                refine tk (oi := ⟨_, _, _, _, _, _⟩) (v := undef) 8 rfl (by kernel_rfl) (fun _ _ _ h => h) (.inr ⟨by rfl, rfl⟩) (by assumption) ?_
                try go_frame
                refine tk (oi := ⟨_, _, _, _, _, _⟩) (v := undef) 9 rfl (by kernel_rfl) (fun _ _ _ h => h) (.inr ⟨by rfl, rfl⟩) (by assumption) ?_
                try go_frame
                refine tk (oi := ⟨_, _, _, _, _, _⟩) (v := undef) 10 rfl (by kernel_rfl) (fun _ _ _ h => h) (.inr ⟨by rfl, rfl⟩) (by assumption) ?_
                try go_frame
                refine tk (oi := ⟨_, _, _, _, _, _⟩) (v := undef) 11 rfl (by kernel_rfl) (fun _ _ _ h => h) (.inr ⟨by rfl, rfl⟩) (by assumption) ?_
                try go_frame
                refine tk (oi := ⟨_, _, _, _, _, _⟩) (v := undef) 12 rfl (by kernel_rfl) (fun _ _ _ h => h) (.inr ⟨by rfl, rfl⟩) (by assumption) ?_
                try go_frame
                refine tk (oi := ⟨_, _, _, _, _, _⟩) (v := undef) 13 rfl (by kernel_rfl) (fun _ _ _ h => h) (.inr ⟨by rfl, rfl⟩) (by assumption) ?_
                try go_frame
                refine tk (oi := ⟨_, _, _, _, _, _⟩) (v := undef) 14 rfl (by kernel_rfl) (fun _ _ _ h => h) (.inr ⟨by rfl, rfl⟩) (by assumption) ?_
                try go_frame
                refine tk (oi := ⟨_, _, _, _, _, _⟩) (v := undef) 15 rfl (by kernel_rfl) (fun _ _ _ h => h) (.inr ⟨by rfl, rfl⟩) (by assumption) ?_
                try go_frame
                refine tk (oi := ⟨_, _, _, _, _, _⟩) (v := undef) 16 rfl (by kernel_rfl) (fun _ _ _ h => h) (.inr ⟨by rfl, rfl⟩) (by assumption) ?_
                try go_frame
                refine tk (oi := ⟨_, _, _, _, _, _⟩) (v := undef) 17 rfl (by kernel_rfl) (fun _ _ _ h => h) (.inr ⟨by rfl, rfl⟩) (by assumption) ?_
                try go_frame
                refine tk (oi := ⟨_, _, _, _, _, _⟩) (v := ?_) 18 rfl (by kernel_rfl) (fun _ _ _ h => h) (.inl ⟨by rfl, ?_⟩) (by assumption) ?_; rotate_left
                · (intro wS hSw; (try dsimp only at hSw); go_simp); all_goals with_reducible rfl
                try go_frame
                refine tk (oi := ⟨_, _, _, _, _, _⟩) (v := ?_) 19 rfl (by kernel_rfl) (fun _ _ _ h => h) (.inl ⟨by rfl, ?_⟩) (by assumption) ?_; rotate_left
                · (intro wS hSw; (try dsimp only at hSw); go_simp); all_goals with_reducible rfl
                try go_frame
                refine tk (oi := ⟨_, _, _, _, _, _⟩) (v := ?_) 20 rfl (by kernel_rfl) (fun _ _ _ h => h) (.inl ⟨by rfl, ?_⟩) (by assumption) ?_; rotate_left
                · (intro wS hSw; (try dsimp only at hSw); go_simp); all_goals with_reducible rfl
                try go_frame
                refine tk (oi := ⟨_, _, _, _, _, _⟩) (v := ?_) 21 rfl (by kernel_rfl) (fun _ _ _ h => h) (.inl ⟨by rfl, ?_⟩) (by assumption) ?_; rotate_left
                · (intro wS hSw; (try dsimp only at hSw); go_simp); all_goals with_reducible rfl
                try go_frame
                refine tk (oi := ⟨_, _, _, _, _, _⟩) (v := ?_) 22 rfl (by kernel_rfl) (fun _ _ _ h => h) (.inl ⟨by rfl, ?_⟩) (by assumption) ?_; rotate_left
                · (intro wS hSw; (try dsimp only at hSw); go_simp); all_goals with_reducible rfl
                try go_frame
                refine wpAnyH_ready (rs := [23]) (by kernel_rfl) (by simp) ?_
                refine AllReadyH.cons (o := ⟨_, _, _, _, _, _⟩) rfl (fun K hK => ?_) AllReadyH.nil
                go_simp
                refine (Count_as _ w6 (by show a.value.toArray.size ≤ maxLen; unfold maxLen; simp; omega) cv hcv).mono ?_
                rintro e7 w7 ⟨rfl, hb7⟩
                have hb7' : Below W5.heap.size W5 w7 := hb6'.trans (hb7.mono hb6'.size)
                go_wp2_with fail
                refine hK.out _ _ (HS.out _ hb7') (fun hHeld => ?_)
                clear hK K
                try go_frame
                refine tk (oi := ⟨_, _, _, _, _, _⟩) (v := ?_) 24 rfl (by kernel_rfl) (fun _ _ _ h => h) (.inl ⟨by rfl, ?_⟩) (by assumption) ?_; rotate_left
                · (intro wS hSw; (try dsimp only at hSw); go_simp); all_goals with_reducible rfl
                try go_frame
                refine tk (oi := ⟨_, _, _, _, _, _⟩) (v := ?_) 25 rfl (by kernel_rfl) (fun _ _ _ h => h) (.inl ⟨by rfl, ?_⟩) (by assumption) ?_; rotate_left
                · (intro wS hSw; (try dsimp only at hSw); go_simp); all_goals with_reducible rfl
                try go_frame
                refine tk (oi := ⟨_, _, _, _, _, _⟩) (v := ?_) 26 rfl (by kernel_rfl) (fun _ _ _ h => h) (.inl ⟨by rfl, ?_⟩) (by assumption) ?_; rotate_left
                · (intro wS hSw; (try dsimp only at hSw); go_simp); all_goals with_reducible rfl
                try go_frame
                refine tk (oi := ⟨_, _, _, _, _, _⟩) (v := ?_) 27 rfl (by kernel_rfl) (fun _ _ _ h => h) (.inl ⟨by rfl, ?_⟩) (by assumption) ?_; rotate_left
                · (intro wS hSw; (try dsimp only at hSw); go_simp); all_goals with_reducible rfl
                try go_frame
                refine tk (oi := ⟨_, _, _, _, _, _⟩) (v := ?_) 28 rfl (by kernel_rfl) (fun _ _ _ h => h) (.inl ⟨by rfl, ?_⟩) (by assumption) ?_; rotate_left
                · (intro wS hSw; (try dsimp only at hSw); go_simp); all_goals with_reducible rfl
                try go_frame
                refine tk (oi := ⟨_, _, _, _, _, _⟩) (v := ?_) 29 rfl (by kernel_rfl) (fun _ _ _ h => h) (.inl ⟨by rfl, ?_⟩) (by assumption) ?_; rotate_left
                · (intro wS hSw; (try dsimp only at hSw); go_simp); all_goals with_reducible rfl
                try go_frame
                refine tk (oi := ⟨_, _, _, _, _, _⟩) (v := ?_) 30 rfl (by kernel_rfl) (fun _ _ _ h => h) (.inl ⟨by rfl, ?_⟩) (by assumption) ?_; rotate_left
                · (intro wS hSw; (try dsimp only at hSw); go_simp); all_goals with_reducible rfl
                try go_frame
                refine tk (oi := ⟨_, _, _, _, _, _⟩) (v := ?_) 31 rfl (by kernel_rfl) (fun _ _ _ h => h) (.inl ⟨by rfl, ?_⟩) (by assumption) ?_; rotate_left
                · (intro wS hSw; (try dsimp only at hSw); go_simp); all_goals with_reducible rfl
                try go_frame
                refine wpAnyH_done (by kernel_rfl) ?_ _
                clear hHeld
                go_wp2_with fail
                go_roundw
                case rel => exact ⟨j + 1, by omega, by go_num, HB5.out.trans (hb7'.mono HB5.out.size)⟩
                case measure => simp [intOf]; omega
              · obtain ⟨pa, hpa⟩ : ∃ pa, Hid (t.attrs[j - 1]? = some pa) := ⟨t.attrs[j - 1], List.getElem?_eq_getElem _⟩
                have hk2 : 0 < j := by omega
                have hk1 : decide ((0 : Int) < (j : Int)) = true := by simp; omega
                have hkw : IntKind.i64.wrap ((j : Int) - 1) = (j : Int) - 1 := IntWalk.i64_in _ (by omega)
                have hkn : ((j : Int) - 1).toNat = j - 1 := by omega
                have hkl0 : (0 : Int) ≤ (j : Int) - 1 := by omega
                have hkl1 : (j : Int) - 1 < t.attrs.length := by omega
                have hkl2 : (1 : Int) ≤ j := by omega
                have hless : Op.bytesLess pa.name a.name = true := by
                  have hr := HF.out.rise
                  have h1 := hpa.out
                  have h2 := ha.out
                  obtain ⟨l1, e1⟩ := List.getElem?_eq_some_iff.1 h1
                  obtain ⟨l2, e2⟩ := List.getElem?_eq_some_iff.1 h2
                  have := List.pairwise_iff_getElem.1 hr (j - 1) j l1 l2 (by omega)
                  rw [e1, e2] at this; exact this
                have hl1 : Op.bytesLess a.name pa.name = false := less_asymm hless
                have hl2 : (a.name == pa.name) = false := beq_eq_false_iff_ne.2 (fun e => less_ne hless e.symm)
                have HS : Hid (∀ w', Below W5.heap.size W5 w' → w'.cell? ⟨wr.heap.size, 0, none⟩ = some (.string ⟨a.name.toArray⟩) ∧ w'.cell? ⟨wr.heap.size, 1, none⟩ = some (.string ⟨a.value.toArray⟩) ∧ w'.cell? ⟨wo.heap.size, 4, none⟩ = some (.slice (some bd) t.attrs.length c1) ∧ w'.cell? (bd.add ((j - 1) * 2)) = some (.string ⟨pa.name.toArray⟩)) := fun w' hb' => by
                  refine ⟨(hb'.cell (p := ⟨wr.heap.size, 0, none⟩) hz5).trans b0, (hb'.cell (p := ⟨wr.heap.size, 1, none⟩) hz5).trans b1, ?_, ?_⟩
                  · have hz : wo.heap.size < W5.heap.size := Nat.lt_of_lt_of_le HGG.out HB5.out.size
                    rw [hb'.cell (p := ⟨wo.heap.size, 4, none⟩) hz, HB5.out.cell (p := ⟨wo.heap.size, 4, none⟩) HGG.out]
                    exact HY4.out
                  · obtain ⟨bd', e, _, hc⟩ := (HA5.out.below hb') (by omega)
                    injection e with e; subst e
                    exact (hc (j - 1) pa hpa.out).1
                clear b0 b1 hj0 hless
                go_wp2_with fail
                rw [← hW5.out]
                refine wp_region_held_drew (S := fun w' => w'.cell? ⟨wr.heap.size, 0, none⟩ = some (.string ⟨a.name.toArray⟩) ∧ w'.cell? ⟨wr.heap.size, 1, none⟩ = some (.string ⟨a.value.toArray⟩) ∧ w'.cell? ⟨wo.heap.size, 4, none⟩ = some (.slice (some bd) t.attrs.length c1) ∧ w'.cell? (bd.add ((j - 1) * 2)) = some (.string ⟨pa.name.toArray⟩)) (by kernel_rfl) (HS.out _ (Below.refl _ W5).drew) (fun hHeld => ?_)
                refine tk (oi := ⟨_, _, _, _, _, _⟩) (v := ?_) 0 rfl (by kernel_rfl) (fun _ _ _ h => h) (.inl ⟨by rfl, ?_⟩) (by assumption) ?_; rotate_left
                · (intro wS hSw; (try dsimp only at hSw); go_simp); all_goals with_reducible rfl
                try go_frame
                refine tk (oi := ⟨_, _, _, _, _, _⟩) (v := ?_) 1 rfl (by kernel_rfl) (fun _ _ _ h => h) (.inl ⟨by rfl, ?_⟩) (by assumption) ?_; rotate_left
                · (intro wS hSw; (try dsimp only at hSw); go_simp); all_goals with_reducible rfl
                try go_frame
                refine wpAnyH_ready (rs := [2]) (by kernel_rfl) (by simp) ?_
                refine AllReadyH.cons (o := ⟨_, _, _, _, _, _⟩) rfl (fun K hK => ?_) AllReadyH.nil
                go_simp
                refine (Name_l a.name W5.drew hnl true hfn).mono ?_
                rintro e6 w6 ⟨rfl, hb6⟩
                have hb6' : Below W5.heap.size W5 w6 := ((Below.refl _ W5).drew).trans hb6
                go_wp2_with fail
                refine hK.out _ _ (HS.out _ hb6') (fun hHeld => ?_)
                clear hK K
                try go_frame
                refine tk (oi := ⟨_, _, _, _, _, _⟩) (v := ?_) 3 rfl (by kernel_rfl) (fun _ _ _ h => h) (.inl ⟨by rfl, ?_⟩) (by assumption) ?_; rotate_left
                · (intro wS hSw; (try dsimp only at hSw); go_simp); all_goals with_reducible rfl
                try go_frame
                refine tk (oi := ⟨_, _, _, _, _, _⟩) (v := ?_) 4 rfl (by kernel_rfl) (fun _ _ _ h => h) (.inl ⟨by rfl, ?_⟩) (by assumption) ?_; rotate_left
                · (intro wS hSw; (try dsimp only at hSw); go_simp); all_goals with_reducible rfl
                try go_frame
                refine tk (oi := ⟨_, _, _, _, _, _⟩) (v := ?_) 5 rfl (by kernel_rfl) (fun _ _ _ h => h) (.inl ⟨by rfl, ?_⟩) (by assumption) ?_; rotate_left
                · (intro wS hSw; (try dsimp only at hSw); go_simp); all_goals with_reducible rfl
                try go_frame
                refine tk (oi := ⟨_, _, _, _, _, _⟩) (v := ?_) 6 rfl (by kernel_rfl) (fun _ _ _ h => h) (.inl ⟨by rfl, ?_⟩) (by assumption) ?_; rotate_left
                · (intro wS hSw; (try dsimp only at hSw); go_simp); all_goals with_reducible rfl
                try go_frame
                refine tk (oi := ⟨_, _, _, _, _, _⟩) (v := ?_) 7 rfl (by kernel_rfl) (fun _ _ _ h => h) (.inl ⟨by rfl, ?_⟩) (by assumption) ?_; rotate_left
                · (intro wS hSw; (try dsimp only at hSw); go_simp); all_goals with_reducible rfl
                try go_frame
                refine tk (oi := ⟨_, _, _, _, _, _⟩) (v := ?_) 8 rfl (by kernel_rfl) (fun _ _ _ h => h) (.inl ⟨by rfl, ?_⟩) (by assumption) ?_; rotate_left
                · (intro wS hSw; (try dsimp only at hSw); go_simp); all_goals with_reducible rfl
                try go_frame
                refine tk (oi := ⟨_, _, _, _, _, _⟩) (v := ?_) 9 rfl (by kernel_rfl) (fun _ _ _ h => h) (.inl ⟨by rfl, ?_⟩) (by assumption) ?_; rotate_left
                · (intro wS hSw; (try dsimp only at hSw); go_simp); all_goals with_reducible rfl
                try go_frame
                refine tk (oi := ⟨_, _, _, _, _, _⟩) (v := ?_) 10 rfl (by kernel_rfl) (fun _ _ _ h => h) (.inl ⟨by rfl, ?_⟩) (by assumption) ?_; rotate_left
                · (intro wS hSw; (try dsimp only at hSw); go_simp); all_goals with_reducible rfl
                try go_frame
                refine tk (oi := ⟨_, _, _, _, _, _⟩) (v := ?_) 11 rfl (by kernel_rfl) (fun _ _ _ h => h) (.inl ⟨by rfl, ?_⟩) (by assumption) ?_; rotate_left
                · (intro wS hSw; (try dsimp only at hSw); go_simp); all_goals with_reducible rfl
                try go_frame
                refine tk (oi := ⟨_, _, _, _, _, _⟩) (v := ?_) 12 rfl (by kernel_rfl) (fun _ _ _ h => h) (.inl ⟨by rfl, ?_⟩) (by assumption) ?_; rotate_left
                · (intro wS hSw; (try dsimp only at hSw); go_simp); all_goals with_reducible rfl
                try go_frame
                refine tk (oi := ⟨_, _, _, _, _, _⟩) (v := ?_) 13 rfl (by kernel_rfl) (fun _ _ _ h => h) (.inl ⟨by rfl, ?_⟩) (by assumption) ?_; rotate_left
                · (intro wS hSw; (try dsimp only at hSw); go_simp); all_goals with_reducible rfl
                try go_frame
                refine tk (oi := ⟨_, _, _, _, _, _⟩) (v := ?_) 14 rfl (by kernel_rfl) (fun _ _ _ h => h) (.inl ⟨by rfl, ?_⟩) (by assumption) ?_; rotate_left
                · (intro wS hSw; (try dsimp only at hSw); go_simp); all_goals with_reducible rfl
                try go_frame
                refine tk (oi := ⟨_, _, _, _, _, _⟩) (v := ?_) 15 rfl (by kernel_rfl) (fun _ _ _ h => h) (.inl ⟨by rfl, ?_⟩) (by assumption) ?_; rotate_left
                · (intro wS hSw; (try dsimp only at hSw); go_simp); all_goals with_reducible rfl
                try go_frame
                refine tk (oi := ⟨_, _, _, _, _, _⟩) (v := ?_) 16 rfl (by kernel_rfl) (fun _ _ _ h => h) (.inl ⟨by rfl, ?_⟩) (by assumption) ?_; rotate_left
                · (intro wS hSw; (try dsimp only at hSw); go_simp); all_goals with_reducible rfl
                try go_frame
                refine tk (oi := ⟨_, _, _, _, _, _⟩) (v := ?_) 17 rfl (by kernel_rfl) (fun _ _ _ h => h) (.inl ⟨by rfl, ?_⟩) (by assumption) ?_; rotate_left
                · (intro wS hSw; (try dsimp only at hSw); go_simp); all_goals with_reducible rfl
                try go_frame
                refine tk (oi := ⟨_, _, _, _, _, _⟩) (v := ?_) 18 rfl (by kernel_rfl) (fun _ _ _ h => h) (.inl ⟨by rfl, ?_⟩) (by assumption) ?_; rotate_left
                · (intro wS hSw; (try dsimp only at hSw); go_simp); all_goals with_reducible rfl
                try go_frame
                refine tk (oi := ⟨_, _, _, _, _, _⟩) (v := ?_) 19 rfl (by kernel_rfl) (fun _ _ _ h => h) (.inl ⟨by rfl, ?_⟩) (by assumption) ?_; rotate_left
                · (intro wS hSw; (try dsimp only at hSw); go_simp); all_goals with_reducible rfl
                try go_frame
                refine tk (oi := ⟨_, _, _, _, _, _⟩) (v := ?_) 20 rfl (by kernel_rfl) (fun _ _ _ h => h) (.inl ⟨by rfl, ?_⟩) (by assumption) ?_; rotate_left
                · (intro wS hSw; (try dsimp only at hSw); go_simp); all_goals with_reducible rfl
                try go_frame
                refine tk (oi := ⟨_, _, _, _, _, _⟩) (v := ?_) 21 rfl (by kernel_rfl) (fun _ _ _ h => h) (.inl ⟨by rfl, ?_⟩) (by assumption) ?_; rotate_left
                · (intro wS hSw; (try dsimp only at hSw); go_simp); all_goals with_reducible rfl
                try go_frame
                refine tk (oi := ⟨_, _, _, _, _, _⟩) (v := ?_) 22 rfl (by kernel_rfl) (fun _ _ _ h => h) (.inl ⟨by rfl, ?_⟩) (by assumption) ?_; rotate_left
                · (intro wS hSw; (try dsimp only at hSw); go_simp); all_goals with_reducible rfl
                try go_frame
                refine wpAnyH_ready (rs := [23]) (by kernel_rfl) (by simp) ?_
                refine AllReadyH.cons (o := ⟨_, _, _, _, _, _⟩) rfl (fun K hK => ?_) AllReadyH.nil
                go_simp
                refine (Count_as _ w6 (by show a.value.toArray.size ≤ maxLen; unfold maxLen; simp; omega) cv hcv).mono ?_
                rintro e7 w7 ⟨rfl, hb7⟩
                have hb7' : Below W5.heap.size W5 w7 := hb6'.trans (hb7.mono hb6'.size)
                go_wp2_with fail
                refine hK.out _ _ (HS.out _ hb7') (fun hHeld => ?_)
                clear hK K
                try go_frame
                refine tk (oi := ⟨_, _, _, _, _, _⟩) (v := ?_) 24 rfl (by kernel_rfl) (fun _ _ _ h => h) (.inl ⟨by rfl, ?_⟩) (by assumption) ?_; rotate_left
                · (intro wS hSw; (try dsimp only at hSw); go_simp); all_goals with_reducible rfl
                try go_frame
                refine tk (oi := ⟨_, _, _, _, _, _⟩) (v := ?_) 25 rfl (by kernel_rfl) (fun _ _ _ h => h) (.inl ⟨by rfl, ?_⟩) (by assumption) ?_; rotate_left
                · (intro wS hSw; (try dsimp only at hSw); go_simp); all_goals with_reducible rfl
                try go_frame
                refine tk (oi := ⟨_, _, _, _, _, _⟩) (v := ?_) 26 rfl (by kernel_rfl) (fun _ _ _ h => h) (.inl ⟨by rfl, ?_⟩) (by assumption) ?_; rotate_left
                · (intro wS hSw; (try dsimp only at hSw); go_simp); all_goals with_reducible rfl
                try go_frame
                refine tk (oi := ⟨_, _, _, _, _, _⟩) (v := ?_) 27 rfl (by kernel_rfl) (fun _ _ _ h => h) (.inl ⟨by rfl, ?_⟩) (by assumption) ?_; rotate_left
                · (intro wS hSw; (try dsimp only at hSw); go_simp); all_goals with_reducible rfl
                try go_frame
                refine tk (oi := ⟨_, _, _, _, _, _⟩) (v := ?_) 28 rfl (by kernel_rfl) (fun _ _ _ h => h) (.inl ⟨by rfl, ?_⟩) (by assumption) ?_; rotate_left
                · (intro wS hSw; (try dsimp only at hSw); go_simp); all_goals with_reducible rfl
                try go_frame
                refine tk (oi := ⟨_, _, _, _, _, _⟩) (v := ?_) 29 rfl (by kernel_rfl) (fun _ _ _ h => h) (.inl ⟨by rfl, ?_⟩) (by assumption) ?_; rotate_left
                · (intro wS hSw; (try dsimp only at hSw); go_simp); all_goals with_reducible rfl
                try go_frame
                refine tk (oi := ⟨_, _, _, _, _, _⟩) (v := ?_) 30 rfl (by kernel_rfl) (fun _ _ _ h => h) (.inl ⟨by rfl, ?_⟩) (by assumption) ?_; rotate_left
                · (intro wS hSw; (try dsimp only at hSw); go_simp); all_goals with_reducible rfl
                try go_frame
                refine tk (oi := ⟨_, _, _, _, _, _⟩) (v := ?_) 31 rfl (by kernel_rfl) (fun _ _ _ h => h) (.inl ⟨by rfl, ?_⟩) (by assumption) ?_; rotate_left
                · (intro wS hSw; (try dsimp only at hSw); go_simp); all_goals with_reducible rfl
                try go_frame
                refine wpAnyH_done (by kernel_rfl) ?_ _
                clear hHeld
                go_wp2_with fail
                go_roundw
                case rel => exact ⟨j + 1, by omega, by go_num, HB5.out.trans (hb7'.mono HB5.out.size)⟩
                case measure => simp [intOf]; omega
            · go_wp2_with fail
              go_roundw
              case rel => exact ⟨k + 1, by omega, by go_num, hbel.out.trans ((hbW0.out.trans ((hbW.out.trans (hbi.out.mono hbW.out.size)).mono hbW0.out.size)).mono hbel.out.size)⟩
              case measure => simp [intOf]; omega
        · have k4 : (t.kind == 4) = false := by simpa using hk4
          have k5 : t.kind < 4 := by have := HF.out.kind; omega
          have hnm : Hid (nameL t.name = true) := HF.out.name k5
          have hnl : t.name.length ≤ 1000000000 := by have := HF.out.nlen; omega
          clear hk4
          go_wp2_with fail
          rw [← hW1.out]
          refine (Name_l t.name W1 hnl true hnm).mono ?_
          rintro e2 W2 ⟨rfl, hb2⟩
          have x3' := (hb2.cell (p := ⟨wo.heap.size, 3, none⟩) hz1).trans x3
          have x0' := (hb2.cell (p := ⟨wo.heap.size, 0, none⟩) hz1).trans x0
          go_wp2_with fail
          refine (Count_as _ W2 (by show t.text.toArray.size ≤ maxLen; unfold maxLen; simp; omega) cv0 hcv).mono ?_
          rintro e3 WW ⟨rfl, hb3⟩
          have hbW : Hid (Below W1.heap.size W1 WW) := (hb2.trans (hb3.mono hb2.size))
          have HGG : Hid (wo.heap.size < WW.heap.size) := Nat.lt_of_lt_of_le hz1 hbW.out.size
          have y := fun j => hbW.out.cell (p := ⟨wo.heap.size, j, none⟩) hz1
          have y3 := (y 3).trans (HY.out 3 _ rfl)
          have y4 := (y 4).trans (HY.out 4 _ rfl)
          have y0 : True := trivial
          have y1 : True := trivial
          have y2 : True := trivial
          have HY4 := Lib.hid y4
          clear y
          clear x0 x2 x3 x3' x0' h0 h1 h2 h3 h4
          go_wp2_with fail
          clear y0 y1 y2 y3 y4
          go_loopw [66] (fun i wr => ∃ (j : Nat), j ≤ t.attrs.length ∧ i = .int .i64 (j : Int) ∧ Hid (Below WW.heap.size WW wr)) (fun i _ => t.attrs.length - (intOf i).toNat)
          case atStart => exact ⟨0, Nat.zero_le _, rfl, (Below.refl _ _ : Below WW.heap.size WW WW)⟩
          case round =>
            obtain ⟨j, hj, rfl, hbi⟩ := hrel
            by_cases hjl : j < t.attrs.length
            · obtain ⟨a, ha⟩ : ∃ a, Hid (t.attrs[j]? = some a) := ⟨t.attrs[j], List.getElem?_eq_getElem _⟩
              have hfa := HF.out.attrs a (List.mem_of_getElem? ha.out)
              have hATi := (HATT.out.below (hbW.out.trans (hbi.out.mono hbW.out.size))).more (Nat.le_trans hbW.out.size hbi.out.size)
              obtain ⟨bd, hbd, hbb, hcc⟩ := hATi (by omega)
              subst hbd
              obtain ⟨a0, a1⟩ := hcc j a ha.out
              unfold strV at a0 a1
              have hfn : Hid (nameL a.name = true) := hfa.name
              have hnl : a.name.length ≤ 1000000000 := by have := hfa.nlen; omega
              have hvl : a.value.length ≤ 1000000000 := by have := hfa.vlen; omega
              obtain ⟨cv, hcv⟩ : ∃ cv, Hid (countL a.value = cv) := ⟨_, rfl⟩
              have hcv0 : 0 ≤ cv := by rw [← hcv.out]; exact hfa.cnt
              have hcvd : decide (cv < 0) = false := by simp; omega
              have hvl5 : (a.value.length : Int) ≤ 1500 := by have := hfa.vlen; omega
              obtain ⟨W5, hW5⟩ : ∃ W5, Hid (W5 = wr.alloc (.cells #[.string ⟨a.name.toArray⟩, .string ⟨a.value.toArray⟩] 44)) := ⟨_, rfl⟩
              have hbW5 : Below wr.heap.size wr W5 := by rw [hW5.out]; exact (Below.refl _ wr).alloc (Nat.le_refl _) _
              have hz5 : wr.heap.size < W5.heap.size := by rw [hW5.out]; simp
              have b0 : W5.cell? ⟨wr.heap.size, 0, none⟩ = some (.string ⟨a.name.toArray⟩) := by rw [hW5.out, World.cell?_alloc_at _ _ _ _ rfl]; rfl
              have b1 : W5.cell? ⟨wr.heap.size, 1, none⟩ = some (.string ⟨a.value.toArray⟩) := by rw [hW5.out, World.cell?_alloc_at _ _ _ _ rfl]; rfl
              have hbWi : Below WW.heap.size WW W5 := hbi.out.trans (hbW5.mono hbi.out.size)
              have HB5 := Lib.hid hbWi
              have HB56 := Lib.hid hbW5
              have HA5 : Hid (AttrsAt W5 W5.heap.size (some bd) t.attrs) := (hATi.below hbW5).more hbW5.size
              have k0 : (0 : Int) ≤ (j : Int) := by omega
              have k1 : (j : Int) < t.attrs.length := by omega
              have HFA := Lib.hid hfa
              clear hfa hcc hATi hbWi hbW5
              by_cases hj0 : j = 0
              · have hk2 : ¬ (0 < j) := by omega
                have hk1 : decide ((0 : Int) < (j : Int)) = false := by simp; omega
                have HS : Hid (∀ w', Below W5.heap.size W5 w' → w'.cell? ⟨wr.heap.size, 0, none⟩ = some (.string ⟨a.name.toArray⟩) ∧ w'.cell? ⟨wr.heap.size, 1, none⟩ = some (.string ⟨a.value.toArray⟩)) := fun w' hb' =>
                  ⟨(hb'.cell (p := ⟨wr.heap.size, 0, none⟩) hz5).trans b0, (hb'.cell (p := ⟨wr.heap.size, 1, none⟩) hz5).trans b1⟩
                clear b0 b1 hj0
                go_wp2_with fail
                rw [← hW5.out]
                refine wp_region_held_drew (S := fun w' => w'.cell? ⟨wr.heap.size, 0, none⟩ = some (.string ⟨a.name.toArray⟩) ∧ w'.cell? ⟨wr.heap.size, 1, none⟩ = some (.string ⟨a.value.toArray⟩)) (by kernel_rfl) (HS.out _ (Below.refl _ W5).drew) (fun hHeld => ?_)
                refine tk (oi := ⟨_, _, _, _, _, _⟩) (v := ?_) 0 rfl (by kernel_rfl) (fun _ _ _ h => h) (.inl ⟨by rfl, ?_⟩) (by assumption) ?_; rotate_left
                · (intro wS hSw; (try dsimp only at hSw); go_simp); all_goals with_reducible rfl
                try go_frame
                refine tk (oi := ⟨_, _, _, _, _, _⟩) (v := ?_) 1 rfl (by kernel_rfl) (fun _ _ _ h => h) (.inl ⟨by rfl, ?_⟩) (by assumption) ?_; rotate_left
                · (intro wS hSw; (try dsimp only at hSw); go_simp); all_goals with_reducible rfl
                try go_frame
                refine wpAnyH_ready (rs := [2]) (by kernel_rfl) (by simp) ?_
                refine AllReadyH.cons (o := ⟨_, _, _, _, _, _⟩) rfl (fun K hK => ?_) AllReadyH.nil
                go_simp
                refine (Name_l a.name W5.drew hnl true hfn).mono ?_
                rintro e6 w6 ⟨rfl, hb6⟩
                have hb6' : Below W5.heap.size W5 w6 := ((Below.refl _ W5).drew).trans hb6
                go_wp2_with fail
                refine hK.out _ _ (HS.out _ hb6') (fun hHeld => ?_)
                clear hK K
                try go_frame
                refine tk (oi := ⟨_, _, _, _, _, _⟩) (v := ?_) 3 rfl (by kernel_rfl) (fun _ _ _ h => h) (.inl ⟨by rfl, ?_⟩) (by assumption) ?_; rotate_left
                · (intro wS hSw; (try dsimp only at hSw); go_simp); all_goals with_reducible rfl
                try go_frame
                refine tk (oi := ⟨_, _, _, _, _, _⟩) (v := ?_) 4 rfl (by kernel_rfl) (fun _ _ _ h => h) (.inl ⟨by rfl, ?_⟩) (by assumption) ?_; rotate_left
                · (intro wS hSw; (try dsimp only at hSw); go_simp); all_goals with_reducible rfl
                try go_frame
                refine tk (oi := ⟨_, _, _, _, _, _⟩) (v := ?_) 5 rfl (by kernel_rfl) (fun _ _ _ h => h) (.inl ⟨by rfl, ?_⟩) (by assumption) ?_; rotate_left
                · (intro wS hSw; (try dsimp only at hSw); go_simp); all_goals with_reducible rfl
                try go_frame
                refine tk (oi := ⟨_, _, _, _, _, _⟩) (v := ?_) 6 rfl (by kernel_rfl) (fun _ _ _ h => h) (.inl ⟨by rfl, ?_⟩) (by assumption) ?_; rotate_left
                · (intro wS hSw; (try dsimp only at hSw); go_simp); all_goals with_reducible rfl
                try go_frame
                refine tk (oi := ⟨_, _, _, _, _, _⟩) (v := ?_) 7 rfl (by kernel_rfl) (fun _ _ _ h => h) (.inl ⟨by rfl, ?_⟩) (by assumption) ?_; rotate_left
                · (intro wS hSw; (try dsimp only at hSw); go_simp); all_goals with_reducible rfl
                try go_frame
                refine tk (oi := ⟨_, _, _, _, _, _⟩) (v := undef) 8 rfl (by kernel_rfl) (fun _ _ _ h => h) (.inr ⟨by rfl, rfl⟩) (by assumption) ?_
                try go_frame
                refine tk (oi := ⟨_, _, _, _, _, _⟩) (v := undef) 9 rfl (by kernel_rfl) (fun _ _ _ h => h) (.inr ⟨by rfl, rfl⟩) (by assumption) ?_
                try go_frame
                refine tk (oi := ⟨_, _, _, _, _, _⟩) (v := undef) 10 rfl (by kernel_rfl) (fun _ _ _ h => h) (.inr ⟨by rfl, rfl⟩) (by assumption) ?_
                try go_frame
                refine tk (oi := ⟨_, _, _, _, _, _⟩) (v := undef) 11 rfl (by kernel_rfl) (fun _ _ _ h => h) (.inr ⟨by rfl, rfl⟩) (by assumption) ?_
                try go_frame
                refine tk (oi := ⟨_, _, _, _, _, _⟩) (v := undef) 12 rfl (by kernel_rfl) (fun _ _ _ h => h) (.inr ⟨by rfl, rfl⟩) (by assumption) ?_
                try go_frame
                refine tk (oi := ⟨_, _, _, _, _, _⟩) (v := undef) 13 rfl (by kernel_rfl) (fun _ _ _ h => h) (.inr ⟨by rfl, rfl⟩) (by assumption) ?_
                try go_frame
                refine tk (oi := ⟨_, _, _, _, _, _⟩) (v := undef) 14 rfl (by kernel_rfl) (fun _ _ _ h => h) (.inr ⟨by rfl, rfl⟩) (by assumption) ?_
                try go_frame
                refine tk (oi := ⟨_, _, _, _, _, _⟩) (v := undef) 15 rfl (by kernel_rfl) (fun _ _ _ h => h) (.inr ⟨by rfl, rfl⟩) (by assumption) ?_
                try go_frame
                refine tk (oi := ⟨_, _, _, _, _, _⟩) (v := undef) 16 rfl (by kernel_rfl) (fun _ _ _ h => h) (.inr ⟨by rfl, rfl⟩) (by assumption) ?_
                try go_frame
                refine tk (oi := ⟨_, _, _, _, _, _⟩) (v := undef) 17 rfl (by kernel_rfl) (fun _ _ _ h => h) (.inr ⟨by rfl, rfl⟩) (by assumption) ?_
                try go_frame
                refine tk (oi := ⟨_, _, _, _, _, _⟩) (v := ?_) 18 rfl (by kernel_rfl) (fun _ _ _ h => h) (.inl ⟨by rfl, ?_⟩) (by assumption) ?_; rotate_left
                · (intro wS hSw; (try dsimp only at hSw); go_simp); all_goals with_reducible rfl
                try go_frame
                refine tk (oi := ⟨_, _, _, _, _, _⟩) (v := ?_) 19 rfl (by kernel_rfl) (fun _ _ _ h => h) (.inl ⟨by rfl, ?_⟩) (by assumption) ?_; rotate_left
                · (intro wS hSw; (try dsimp only at hSw); go_simp); all_goals with_reducible rfl
                try go_frame
                refine tk (oi := ⟨_, _, _, _, _, _⟩) (v := ?_) 20 rfl (by kernel_rfl) (fun _ _ _ h => h) (.inl ⟨by rfl, ?_⟩) (by assumption) ?_; rotate_left
                · (intro wS hSw; (try dsimp only at hSw); go_simp); all_goals with_reducible rfl
                try go_frame
                refine tk (oi := ⟨_, _, _, _, _, _⟩) (v := ?_) 21 rfl (by kernel_rfl) (fun _ _ _ h => h) (.inl ⟨by rfl, ?_⟩) (by assumption) ?_; rotate_left
                · (intro wS hSw; (try dsimp only at hSw); go_simp); all_goals with_reducible rfl
                try go_frame
                refine tk (oi := ⟨_, _, _, _, _, _⟩) (v := ?_) 22 rfl (by kernel_rfl) (fun _ _ _ h => h) (.inl ⟨by rfl, ?_⟩) (by assumption) ?_; rotate_left
                · (intro wS hSw; (try dsimp only at hSw); go_simp); all_goals with_reducible rfl
                try go_frame
                refine wpAnyH_ready (rs := [23]) (by kernel_rfl) (by simp) ?_
                refine AllReadyH.cons (o := ⟨_, _, _, _, _, _⟩) rfl (fun K hK => ?_) AllReadyH.nil
                go_simp
                refine (Count_as _ w6 (by show a.value.toArray.size ≤ maxLen; unfold maxLen; simp; omega) cv hcv).mono ?_
                rintro e7 w7 ⟨rfl, hb7⟩
                have hb7' : Below W5.heap.size W5 w7 := hb6'.trans (hb7.mono hb6'.size)
                go_wp2_with fail
                refine hK.out _ _ (HS.out _ hb7') (fun hHeld => ?_)
                clear hK K
                try go_frame
                refine tk (oi := ⟨_, _, _, _, _, _⟩) (v := ?_) 24 rfl (by kernel_rfl) (fun _ _ _ h => h) (.inl ⟨by rfl, ?_⟩) (by assumption) ?_; rotate_left
                · (intro wS hSw; (try dsimp only at hSw); go_simp); all_goals with_reducible rfl
                try go_frame
                refine tk (oi := ⟨_, _, _, _, _, _⟩) (v := ?_) 25 rfl (by kernel_rfl) (fun _ _ _ h => h) (.inl ⟨by rfl, ?_⟩) (by assumption) ?_; rotate_left
                · (intro wS hSw; (try dsimp only at hSw); go_simp); all_goals with_reducible rfl
                try go_frame
                refine tk (oi := ⟨_, _, _, _, _, _⟩) (v := ?_) 26 rfl (by kernel_rfl) (fun _ _ _ h => h) (.inl ⟨by rfl, ?_⟩) (by assumption) ?_; rotate_left
                · (intro wS hSw; (try dsimp only at hSw); go_simp); all_goals with_reducible rfl
                try go_frame
                refine tk (oi := ⟨_, _, _, _, _, _⟩) (v := ?_) 27 rfl (by kernel_rfl) (fun _ _ _ h => h) (.inl ⟨by rfl, ?_⟩) (by assumption) ?_; rotate_left
                · (intro wS hSw; (try dsimp only at hSw); go_simp); all_goals with_reducible rfl
                try go_frame
                refine tk (oi := ⟨_, _, _, _, _, _⟩) (v := ?_) 28 rfl (by kernel_rfl) (fun _ _ _ h => h) (.inl ⟨by rfl, ?_⟩) (by assumption) ?_; rotate_left
                · (intro wS hSw; (try dsimp only at hSw); go_simp); all_goals with_reducible rfl
                try go_frame
                refine tk (oi := ⟨_, _, _, _, _, _⟩) (v := ?_) 29 rfl (by kernel_rfl) (fun _ _ _ h => h) (.inl ⟨by rfl, ?_⟩) (by assumption) ?_; rotate_left
                · (intro wS hSw; (try dsimp only at hSw); go_simp); all_goals with_reducible rfl
                try go_frame
                refine tk (oi := ⟨_, _, _, _, _, _⟩) (v := ?_) 30 rfl (by kernel_rfl) (fun _ _ _ h => h) (.inl ⟨by rfl, ?_⟩) (by assumption) ?_; rotate_left
                · (intro wS hSw; (try dsimp only at hSw); go_simp); all_goals with_reducible rfl
                try go_frame
                refine tk (oi := ⟨_, _, _, _, _, _⟩) (v := ?_) 31 rfl (by kernel_rfl) (fun _ _ _ h => h) (.inl ⟨by rfl, ?_⟩) (by assumption) ?_; rotate_left
                · (intro wS hSw; (try dsimp only at hSw); go_simp); all_goals with_reducible rfl
                try go_frame
                refine wpAnyH_done (by kernel_rfl) ?_ _
                clear hHeld
                go_wp2_with fail
                go_roundw
                case rel => exact ⟨j + 1, by omega, by go_num, HB5.out.trans (hb7'.mono HB5.out.size)⟩
                case measure => simp [intOf]; omega
              · obtain ⟨pa, hpa⟩ : ∃ pa, Hid (t.attrs[j - 1]? = some pa) := ⟨t.attrs[j - 1], List.getElem?_eq_getElem _⟩
                have hk2 : 0 < j := by omega
                have hk1 : decide ((0 : Int) < (j : Int)) = true := by simp; omega
                have hkw : IntKind.i64.wrap ((j : Int) - 1) = (j : Int) - 1 := IntWalk.i64_in _ (by omega)
                have hkn : ((j : Int) - 1).toNat = j - 1 := by omega
                have hkl0 : (0 : Int) ≤ (j : Int) - 1 := by omega
                have hkl1 : (j : Int) - 1 < t.attrs.length := by omega
                have hkl2 : (1 : Int) ≤ j := by omega
                have hless : Op.bytesLess pa.name a.name = true := by
                  have hr := HF.out.rise
                  have h1 := hpa.out
                  have h2 := ha.out
                  obtain ⟨l1, e1⟩ := List.getElem?_eq_some_iff.1 h1
                  obtain ⟨l2, e2⟩ := List.getElem?_eq_some_iff.1 h2
                  have := List.pairwise_iff_getElem.1 hr (j - 1) j l1 l2 (by omega)
                  rw [e1, e2] at this; exact this
                have hl1 : Op.bytesLess a.name pa.name = false := less_asymm hless
                have hl2 : (a.name == pa.name) = false := beq_eq_false_iff_ne.2 (fun e => less_ne hless e.symm)
                have HS : Hid (∀ w', Below W5.heap.size W5 w' → w'.cell? ⟨wr.heap.size, 0, none⟩ = some (.string ⟨a.name.toArray⟩) ∧ w'.cell? ⟨wr.heap.size, 1, none⟩ = some (.string ⟨a.value.toArray⟩) ∧ w'.cell? ⟨wo.heap.size, 4, none⟩ = some (.slice (some bd) t.attrs.length c1) ∧ w'.cell? (bd.add ((j - 1) * 2)) = some (.string ⟨pa.name.toArray⟩)) := fun w' hb' => by
                  refine ⟨(hb'.cell (p := ⟨wr.heap.size, 0, none⟩) hz5).trans b0, (hb'.cell (p := ⟨wr.heap.size, 1, none⟩) hz5).trans b1, ?_, ?_⟩
                  · have hz : wo.heap.size < W5.heap.size := Nat.lt_of_lt_of_le HGG.out HB5.out.size
                    rw [hb'.cell (p := ⟨wo.heap.size, 4, none⟩) hz, HB5.out.cell (p := ⟨wo.heap.size, 4, none⟩) HGG.out]
                    exact HY4.out
                  · obtain ⟨bd', e, _, hc⟩ := (HA5.out.below hb') (by omega)
                    injection e with e; subst e
                    exact (hc (j - 1) pa hpa.out).1
                clear b0 b1 hj0 hless
                go_wp2_with fail
                rw [← hW5.out]
                refine wp_region_held_drew (S := fun w' => w'.cell? ⟨wr.heap.size, 0, none⟩ = some (.string ⟨a.name.toArray⟩) ∧ w'.cell? ⟨wr.heap.size, 1, none⟩ = some (.string ⟨a.value.toArray⟩) ∧ w'.cell? ⟨wo.heap.size, 4, none⟩ = some (.slice (some bd) t.attrs.length c1) ∧ w'.cell? (bd.add ((j - 1) * 2)) = some (.string ⟨pa.name.toArray⟩)) (by kernel_rfl) (HS.out _ (Below.refl _ W5).drew) (fun hHeld => ?_)
                refine tk (oi := ⟨_, _, _, _, _, _⟩) (v := ?_) 0 rfl (by kernel_rfl) (fun _ _ _ h => h) (.inl ⟨by rfl, ?_⟩) (by assumption) ?_; rotate_left
                · (intro wS hSw; (try dsimp only at hSw); go_simp); all_goals with_reducible rfl
                try go_frame
                refine tk (oi := ⟨_, _, _, _, _, _⟩) (v := ?_) 1 rfl (by kernel_rfl) (fun _ _ _ h => h) (.inl ⟨by rfl, ?_⟩) (by assumption) ?_; rotate_left
                · (intro wS hSw; (try dsimp only at hSw); go_simp); all_goals with_reducible rfl
                try go_frame
                refine wpAnyH_ready (rs := [2]) (by kernel_rfl) (by simp) ?_
                refine AllReadyH.cons (o := ⟨_, _, _, _, _, _⟩) rfl (fun K hK => ?_) AllReadyH.nil
                go_simp
                refine (Name_l a.name W5.drew hnl true hfn).mono ?_
                rintro e6 w6 ⟨rfl, hb6⟩
                have hb6' : Below W5.heap.size W5 w6 := ((Below.refl _ W5).drew).trans hb6
                go_wp2_with fail
                refine hK.out _ _ (HS.out _ hb6') (fun hHeld => ?_)
                clear hK K
                try go_frame
                refine tk (oi := ⟨_, _, _, _, _, _⟩) (v := ?_) 3 rfl (by kernel_rfl) (fun _ _ _ h => h) (.inl ⟨by rfl, ?_⟩) (by assumption) ?_; rotate_left
                · (intro wS hSw; (try dsimp only at hSw); go_simp); all_goals with_reducible rfl
                try go_frame
                refine tk (oi := ⟨_, _, _, _, _, _⟩) (v := ?_) 4 rfl (by kernel_rfl) (fun _ _ _ h => h) (.inl ⟨by rfl, ?_⟩) (by assumption) ?_; rotate_left
                · (intro wS hSw; (try dsimp only at hSw); go_simp); all_goals with_reducible rfl
                try go_frame
                refine tk (oi := ⟨_, _, _, _, _, _⟩) (v := ?_) 5 rfl (by kernel_rfl) (fun _ _ _ h => h) (.inl ⟨by rfl, ?_⟩) (by assumption) ?_; rotate_left
                · (intro wS hSw; (try dsimp only at hSw); go_simp); all_goals with_reducible rfl
                try go_frame
                refine tk (oi := ⟨_, _, _, _, _, _⟩) (v := ?_) 6 rfl (by kernel_rfl) (fun _ _ _ h => h) (.inl ⟨by rfl, ?_⟩) (by assumption) ?_; rotate_left
                · (intro wS hSw; (try dsimp only at hSw); go_simp); all_goals with_reducible rfl
                try go_frame
                refine tk (oi := ⟨_, _, _, _, _, _⟩) (v := ?_) 7 rfl (by kernel_rfl) (fun _ _ _ h => h) (.inl ⟨by rfl, ?_⟩) (by assumption) ?_; rotate_left
                · (intro wS hSw; (try dsimp only at hSw); go_simp); all_goals with_reducible rfl
                try go_frame
                refine tk (oi := ⟨_, _, _, _, _, _⟩) (v := ?_) 8 rfl (by kernel_rfl) (fun _ _ _ h => h) (.inl ⟨by rfl, ?_⟩) (by assumption) ?_; rotate_left
                · (intro wS hSw; (try dsimp only at hSw); go_simp); all_goals with_reducible rfl
                try go_frame
                refine tk (oi := ⟨_, _, _, _, _, _⟩) (v := ?_) 9 rfl (by kernel_rfl) (fun _ _ _ h => h) (.inl ⟨by rfl, ?_⟩) (by assumption) ?_; rotate_left
                · (intro wS hSw; (try dsimp only at hSw); go_simp); all_goals with_reducible rfl
                try go_frame
                refine tk (oi := ⟨_, _, _, _, _, _⟩) (v := ?_) 10 rfl (by kernel_rfl) (fun _ _ _ h => h) (.inl ⟨by rfl, ?_⟩) (by assumption) ?_; rotate_left
                · (intro wS hSw; (try dsimp only at hSw); go_simp); all_goals with_reducible rfl
                try go_frame
                refine tk (oi := ⟨_, _, _, _, _, _⟩) (v := ?_) 11 rfl (by kernel_rfl) (fun _ _ _ h => h) (.inl ⟨by rfl, ?_⟩) (by assumption) ?_; rotate_left
                · (intro wS hSw; (try dsimp only at hSw); go_simp); all_goals with_reducible rfl
                try go_frame
                refine tk (oi := ⟨_, _, _, _, _, _⟩) (v := ?_) 12 rfl (by kernel_rfl) (fun _ _ _ h => h) (.inl ⟨by rfl, ?_⟩) (by assumption) ?_; rotate_left
                · (intro wS hSw; (try dsimp only at hSw); go_simp); all_goals with_reducible rfl
                try go_frame
                refine tk (oi := ⟨_, _, _, _, _, _⟩) (v := ?_) 13 rfl (by kernel_rfl) (fun _ _ _ h => h) (.inl ⟨by rfl, ?_⟩) (by assumption) ?_; rotate_left
                · (intro wS hSw; (try dsimp only at hSw); go_simp); all_goals with_reducible rfl
                try go_frame
                refine tk (oi := ⟨_, _, _, _, _, _⟩) (v := ?_) 14 rfl (by kernel_rfl) (fun _ _ _ h => h) (.inl ⟨by rfl, ?_⟩) (by assumption) ?_; rotate_left
                · (intro wS hSw; (try dsimp only at hSw); go_simp); all_goals with_reducible rfl
                try go_frame
                refine tk (oi := ⟨_, _, _, _, _, _⟩) (v := ?_) 15 rfl (by kernel_rfl) (fun _ _ _ h => h) (.inl ⟨by rfl, ?_⟩) (by assumption) ?_; rotate_left
                · (intro wS hSw; (try dsimp only at hSw); go_simp); all_goals with_reducible rfl
                try go_frame
                refine tk (oi := ⟨_, _, _, _, _, _⟩) (v := ?_) 16 rfl (by kernel_rfl) (fun _ _ _ h => h) (.inl ⟨by rfl, ?_⟩) (by assumption) ?_; rotate_left
                · (intro wS hSw; (try dsimp only at hSw); go_simp); all_goals with_reducible rfl
                try go_frame
                refine tk (oi := ⟨_, _, _, _, _, _⟩) (v := ?_) 17 rfl (by kernel_rfl) (fun _ _ _ h => h) (.inl ⟨by rfl, ?_⟩) (by assumption) ?_; rotate_left
                · (intro wS hSw; (try dsimp only at hSw); go_simp); all_goals with_reducible rfl
                try go_frame
                refine tk (oi := ⟨_, _, _, _, _, _⟩) (v := ?_) 18 rfl (by kernel_rfl) (fun _ _ _ h => h) (.inl ⟨by rfl, ?_⟩) (by assumption) ?_; rotate_left
                · (intro wS hSw; (try dsimp only at hSw); go_simp); all_goals with_reducible rfl
                try go_frame
                refine tk (oi := ⟨_, _, _, _, _, _⟩) (v := ?_) 19 rfl (by kernel_rfl) (fun _ _ _ h => h) (.inl ⟨by rfl, ?_⟩) (by assumption) ?_; rotate_left
                · (intro wS hSw; (try dsimp only at hSw); go_simp); all_goals with_reducible rfl
                try go_frame
                refine tk (oi := ⟨_, _, _, _, _, _⟩) (v := ?_) 20 rfl (by kernel_rfl) (fun _ _ _ h => h) (.inl ⟨by rfl, ?_⟩) (by assumption) ?_; rotate_left
                · (intro wS hSw; (try dsimp only at hSw); go_simp); all_goals with_reducible rfl
                try go_frame
                refine tk (oi := ⟨_, _, _, _, _, _⟩) (v := ?_) 21 rfl (by kernel_rfl) (fun _ _ _ h => h) (.inl ⟨by rfl, ?_⟩) (by assumption) ?_; rotate_left
                · (intro wS hSw; (try dsimp only at hSw); go_simp); all_goals with_reducible rfl
                try go_frame
                refine tk (oi := ⟨_, _, _, _, _, _⟩) (v := ?_) 22 rfl (by kernel_rfl) (fun _ _ _ h => h) (.inl ⟨by rfl, ?_⟩) (by assumption) ?_; rotate_left
                · (intro wS hSw; (try dsimp only at hSw); go_simp); all_goals with_reducible rfl
                try go_frame
                refine wpAnyH_ready (rs := [23]) (by kernel_rfl) (by simp) ?_
                refine AllReadyH.cons (o := ⟨_, _, _, _, _, _⟩) rfl (fun K hK => ?_) AllReadyH.nil
                go_simp
                refine (Count_as _ w6 (by show a.value.toArray.size ≤ maxLen; unfold maxLen; simp; omega) cv hcv).mono ?_
                rintro e7 w7 ⟨rfl, hb7⟩
                have hb7' : Below W5.heap.size W5 w7 := hb6'.trans (hb7.mono hb6'.size)
                go_wp2_with fail
                refine hK.out _ _ (HS.out _ hb7') (fun hHeld => ?_)
                clear hK K
                try go_frame
                refine tk (oi := ⟨_, _, _, _, _, _⟩) (v := ?_) 24 rfl (by kernel_rfl) (fun _ _ _ h => h) (.inl ⟨by rfl, ?_⟩) (by assumption) ?_; rotate_left
                · (intro wS hSw; (try dsimp only at hSw); go_simp); all_goals with_reducible rfl
                try go_frame
                refine tk (oi := ⟨_, _, _, _, _, _⟩) (v := ?_) 25 rfl (by kernel_rfl) (fun _ _ _ h => h) (.inl ⟨by rfl, ?_⟩) (by assumption) ?_; rotate_left
                · (intro wS hSw; (try dsimp only at hSw); go_simp); all_goals with_reducible rfl
                try go_frame
                refine tk (oi := ⟨_, _, _, _, _, _⟩) (v := ?_) 26 rfl (by kernel_rfl) (fun _ _ _ h => h) (.inl ⟨by rfl, ?_⟩) (by assumption) ?_; rotate_left
                · (intro wS hSw; (try dsimp only at hSw); go_simp); all_goals with_reducible rfl
                try go_frame
                refine tk (oi := ⟨_, _, _, _, _, _⟩) (v := ?_) 27 rfl (by kernel_rfl) (fun _ _ _ h => h) (.inl ⟨by rfl, ?_⟩) (by assumption) ?_; rotate_left
                · (intro wS hSw; (try dsimp only at hSw); go_simp); all_goals with_reducible rfl
                try go_frame
                refine tk (oi := ⟨_, _, _, _, _, _⟩) (v := ?_) 28 rfl (by kernel_rfl) (fun _ _ _ h => h) (.inl ⟨by rfl, ?_⟩) (by assumption) ?_; rotate_left
                · (intro wS hSw; (try dsimp only at hSw); go_simp); all_goals with_reducible rfl
                try go_frame
                refine tk (oi := ⟨_, _, _, _, _, _⟩) (v := ?_) 29 rfl (by kernel_rfl) (fun _ _ _ h => h) (.inl ⟨by rfl, ?_⟩) (by assumption) ?_; rotate_left
                · (intro wS hSw; (try dsimp only at hSw); go_simp); all_goals with_reducible rfl
                try go_frame
                refine tk (oi := ⟨_, _, _, _, _, _⟩) (v := ?_) 30 rfl (by kernel_rfl) (fun _ _ _ h => h) (.inl ⟨by rfl, ?_⟩) (by assumption) ?_; rotate_left
                · (intro wS hSw; (try dsimp only at hSw); go_simp); all_goals with_reducible rfl
                try go_frame
                refine tk (oi := ⟨_, _, _, _, _, _⟩) (v := ?_) 31 rfl (by kernel_rfl) (fun _ _ _ h => h) (.inl ⟨by rfl, ?_⟩) (by assumption) ?_; rotate_left
                · (intro wS hSw; (try dsimp only at hSw); go_simp); all_goals with_reducible rfl
                try go_frame
                refine wpAnyH_done (by kernel_rfl) ?_ _
                clear hHeld
                go_wp2_with fail
                go_roundw
                case rel => exact ⟨j + 1, by omega, by go_num, HB5.out.trans (hb7'.mono HB5.out.size)⟩
                case measure => simp [intOf]; omega
            · go_wp2_with fail
              go_roundw
              case rel => exact ⟨k + 1, by omega, by go_num, hbel.out.trans ((hbW0.out.trans ((hbW.out.trans (hbi.out.mono hbW.out.size)).mono hbW0.out.size)).mono hbel.out.size)⟩
              case measure => simp [intOf]; omega
      · go_wp2_with fail
        refine (alive3_any wo).mono ?_
        rintro e w4 ⟨rfl, hb4⟩
        go_wp2_with fail
        go_ret
        exact ⟨rfl, hb1.trans ((hbel.out.trans (hb4.mono hbel.out.size)).mono hb1.size)⟩
  · go_wp2_with fail
    refine wp_loop_rounds 1 ?_
    rw [rounds_succ]
    go_wp2_with fail
    refine (alive3_any w1).mono ?_
    rintro e w4 ⟨rfl, hb4⟩
    go_wp2_with fail
    go_ret
    exact ⟨rfl, hb1.trans (hb4.mono hb1.size)⟩
end Go.Proofs.Ythifddkmbjnncaa
