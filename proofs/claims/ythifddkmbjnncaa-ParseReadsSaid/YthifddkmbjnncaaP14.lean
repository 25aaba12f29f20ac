/-
  Texts of this claim, joined (by a program of the claim's author): SameR, Reads4.
-/
import Derived.Test.YthifddkmbjnncaaP1
import Derived.Test.YthifddkmbjnncaaP5
import Derived.Test.YthifddkmbjnncaaP10
import Derived.Deep.RegionHeld3
import Derived.Test.YthifddkmbjnncaaP13
/-
  The walks of ref04.Same, and of scribe.Same with what it calls.
-/
namespace Go.Proofs.Ythifddkmbjnncaa
open Go.RowKit

/-- The cells of two items. -/
def TwoAt (ad bd : Addr) (k : Nat) (x y : ItemD) (A B : Option Addr) (c d : Nat) (w : World) : Prop :=
  w.cell? (ad.add (k * 5)) = some (.int .i64 x.level) ∧ w.cell? ⟨(ad.add (k * 5)).block, (ad.add (k * 5)).off + 1, none⟩ = some (.int .i64 x.kind) ∧ w.cell? ⟨(ad.add (k * 5)).block, (ad.add (k * 5)).off + 2, none⟩ = some (.string ⟨x.name.toArray⟩) ∧
  w.cell? ⟨(ad.add (k * 5)).block, (ad.add (k * 5)).off + 3, none⟩ = some (.string ⟨x.text.toArray⟩) ∧ w.cell? ⟨(ad.add (k * 5)).block, (ad.add (k * 5)).off + 4, none⟩ = some (.slice A x.attrs.length c) ∧
  w.cell? (bd.add (k * 5)) = some (.int .i64 y.level) ∧ w.cell? ⟨(bd.add (k * 5)).block, (bd.add (k * 5)).off + 1, none⟩ = some (.int .i64 y.kind) ∧ w.cell? ⟨(bd.add (k * 5)).block, (bd.add (k * 5)).off + 2, none⟩ = some (.string ⟨y.name.toArray⟩) ∧
  w.cell? ⟨(bd.add (k * 5)).block, (bd.add (k * 5)).off + 3, none⟩ = some (.string ⟨y.text.toArray⟩) ∧ w.cell? ⟨(bd.add (k * 5)).block, (bd.add (k * 5)).off + 4, none⟩ = some (.slice B y.attrs.length d)

theorem TwoAt.keep {ad bd : Addr} {k : Nat} {x y : ItemD} {A B : Option Addr} {c d : Nat} {w w' : World} (h : TwoAt ad bd k x y A B c d w) {N : Nat} (ha : ad.block < N) (hb : bd.block < N) (hw : Below N w w') : TwoAt ad bd k x y A B c d w' := by
  obtain ⟨h0, h1, h2, h3, h4, g0, g1, g2, g3, g4⟩ := h
  have ka : ∀ j, w'.cell? ⟨(ad.add (k * 5)).block, j, none⟩ = w.cell? ⟨(ad.add (k * 5)).block, j, none⟩ := fun j => hw.cell (by show (ad.add _).block < _; rw [block_of_add]; exact ha)
  have kb : ∀ j, w'.cell? ⟨(bd.add (k * 5)).block, j, none⟩ = w.cell? ⟨(bd.add (k * 5)).block, j, none⟩ := fun j => hw.cell (by show (bd.add _).block < _; rw [block_of_add]; exact hb)
  exact ⟨(hw.cell (by rw [block_of_add]; exact ha)).trans h0, (ka _).trans h1, (ka _).trans h2, (ka _).trans h3, (ka _).trans h4, (hw.cell (by rw [block_of_add]; exact hb)).trans g0, (kb _).trans g1, (kb _).trans g2, (kb _).trans g3, (kb _).trans g4⟩

theorem drop_eq_cons {α : Type} {l m : List α} {k : Nat} {a b : α} (ha : l[k]? = some a) (hb : m[k]? = some b) : l.drop k = m.drop k ↔ (a = b ∧ l.drop (k + 1) = m.drop (k + 1)) := by
  rw [drop_cons ha, drop_cons hb]
  simp
theorem item_eq (x y : ItemD) : x = y ↔ (x.level = y.level ∧ x.kind = y.kind ∧ x.name = y.name ∧ x.text = y.text ∧ x.attrs = y.attrs) := by
  constructor
  · rintro rfl; exact ⟨rfl, rfl, rfl, rfl, rfl⟩
  · rintro ⟨h1, h2, h3, h4, h5⟩; cases x; cases y; simp_all


set_option maxRecDepth 100000 in
set_option maxHeartbeats 4000000 in
theorem RSame_any (l m : List ItemD) (A B : Option Addr) (c d : Nat) (w : World) (hA : ItemsAt w w.heap.size A l) (hB : ItemsAt w w.heap.size B m) (hl : SmallItems l) (hm : SmallItems m) (R : Bool) (hR : Hid (decide (l = m) = R)) :
    Calls Try.prog 26 #[.slice A l.length c, .slice B m.length d] w (Ret w (.bool R)) := by
  have HA := Lib.hid hA
  have HB := Lib.hid hB
  obtain ⟨hl1, hl2⟩ := hl
  obtain ⟨hm1, hm2⟩ := hm
  have HL := Lib.hid hl2
  have HM := Lib.hid hm2
  clear hA hB hl2 hm2
  by_cases hne : l.length = m.length
  · have hR0 : Hid (decide (l.drop 0 = m.drop 0) = R) := hR
    have t0 : ((l.length : Int) != m.length) = false := by simp [hne]
    have HNE := Lib.hid hne
    clear hne hR
    go_enter Try.func26, Try.ntmps26
    go_wp2_with fail
    go_loopw [5] (fun i wr => ∃ (k : Nat), k ≤ l.length ∧ i = .int .i64 k ∧ Hid (decide (l.drop k = m.drop k) = R) ∧ Below w.heap.size w wr) (fun i _ => l.length - (intOf i).toNat)
    case atStart => exact ⟨0, Nat.zero_le _, rfl, hR0, Below.refl _ _⟩
    case round =>
      obtain ⟨k, hk, rfl, hin, hbel⟩ := hrel
      have hzr := hbel.size
      by_cases hlt : k < l.length
      · have hlm : k < m.length := by have := HNE.out; omega
        obtain ⟨x, hx⟩ : ∃ x, Hid (l[k]? = some x) := ⟨l[k], List.getElem?_eq_getElem _⟩
        obtain ⟨y, hy⟩ : ∃ y, Hid (m[k]? = some y) := ⟨m[k], List.getElem?_eq_getElem _⟩
        obtain ⟨ad, hAd, _, _⟩ := HA.out (by omega)
        obtain ⟨bd, hBd, _, _⟩ := HB.out (by omega)
        subst hAd; subst hBd
        obtain ⟨hab, A', c', hat, _, h0, h1, h2, h3, h4⟩ := HA.out.item hx.out
        obtain ⟨hbb, B', d', hbt, _, g0, g1, g2, g3, g4⟩ := HB.out.item hy.out
        have HTW : Hid (TwoAt ad bd k x y A' B' c' d' wr.drew) := TwoAt.keep (w := w) ⟨h0, h1, h2, h3, h4, g0, g1, g2, g3, g4⟩ hab hbb hbel.drew
        have HAT := Lib.hid hat
        have HBT := Lib.hid hbt
        clear h0 h1 h2 h3 h4 g0 g1 g2 g3 g4 hat hbt
        have hsx := (HL.out k x hx.out).2.2.1
        have hsy := (HM.out k y hy.out).2.2.1
        have hlt' : (k : Int) < l.length := by omega
        have hlm' : (k : Int) < m.length := by omega
        have hk0 : (0 : Int) ≤ (k : Int) := by omega
        have hin' := hin.out
        have hde := drop_eq_cons hx.out hy.out
        rw [item_eq] at hde
        have HDE := Lib.hid hde
        clear hde
        by_cases e1 : x.level = y.level
        · have f1 : (x.level != y.level) = false := by simp [e1]
          by_cases e2 : x.kind = y.kind
          · have f2 : (x.kind != y.kind) = false := by simp [e2]
            by_cases e3 : x.name = y.name
            · have f3 : (x.name == y.name) = true := by simp [e3]
              by_cases e4 : x.text = y.text
              · have f4 : (x.text == y.text) = true := by simp [e4]
                obtain ⟨q, hq⟩ : ∃ q, Hid (decide (x.attrs = y.attrs) = q) := ⟨_, rfl⟩
                cases q with
                | true =>
                  have HIN : Hid (decide (l.drop (k + 1) = m.drop (k + 1)) = R) := by
                    show _ = _
                    have e5 : x.attrs = y.attrs := of_decide_eq_true hq.out
                    rw [← hin']
                    exact decide_eq_decide.2 ⟨fun h => HDE.out.2 ⟨⟨e1, e2, e3, e4, e5⟩, h⟩, fun h => (HDE.out.1 h).2⟩
                  clear e1 e2 e3 e4 hin' hin
                  go_wp2_with fail
                  refine wp_region_held_drew (S := fun w' => w'.cell? (ad.add (k * 5)) = some (.int .i64 x.level) ∧ w'.cell? ⟨(ad.add (k * 5)).block, (ad.add (k * 5)).off + 1, none⟩ = some (.int .i64 x.kind) ∧ w'.cell? ⟨(ad.add (k * 5)).block, (ad.add (k * 5)).off + 2, none⟩ = some (.string ⟨x.name.toArray⟩) ∧ w'.cell? ⟨(ad.add (k * 5)).block, (ad.add (k * 5)).off + 3, none⟩ = some (.string ⟨x.text.toArray⟩) ∧ w'.cell? ⟨(ad.add (k * 5)).block, (ad.add (k * 5)).off + 4, none⟩ = some (.slice A' x.attrs.length c') ∧ w'.cell? (bd.add (k * 5)) = some (.int .i64 y.level) ∧ w'.cell? ⟨(bd.add (k * 5)).block, (bd.add (k * 5)).off + 1, none⟩ = some (.int .i64 y.kind) ∧ w'.cell? ⟨(bd.add (k * 5)).block, (bd.add (k * 5)).off + 2, none⟩ = some (.string ⟨y.name.toArray⟩) ∧ w'.cell? ⟨(bd.add (k * 5)).block, (bd.add (k * 5)).off + 3, none⟩ = some (.string ⟨y.text.toArray⟩) ∧ w'.cell? ⟨(bd.add (k * 5)).block, (bd.add (k * 5)).off + 4, none⟩ = some (.slice B' y.attrs.length d')) (by kernel_rfl) HTW.out (fun hHeld => ?_)
                  refine tks (oi := ⟨_, _, _, _, _, _⟩) (v := ?_) 0 rfl (.inl ⟨by rfl, ?_⟩) ?_; rotate_left
                  · (intro wS hSw; (try dsimp only at hSw); go_simp); all_goals with_reducible rfl
                  try go_frame
                  refine tks (oi := ⟨_, _, _, _, _, _⟩) (v := ?_) 1 rfl (.inl ⟨by rfl, ?_⟩) ?_; rotate_left
                  · (intro wS hSw; (try dsimp only at hSw); go_simp); all_goals with_reducible rfl
                  try go_frame
                  refine tks (oi := ⟨_, _, _, _, _, _⟩) (v := ?_) 2 rfl (.inl ⟨by rfl, ?_⟩) ?_; rotate_left
                  · (intro wS hSw; (try dsimp only at hSw); go_simp); all_goals with_reducible rfl
                  try go_frame
                  refine tks (oi := ⟨_, _, _, _, _, _⟩) (v := ?_) 3 rfl (.inl ⟨by rfl, ?_⟩) ?_; rotate_left
                  · (intro wS hSw; (try dsimp only at hSw); go_simp); all_goals with_reducible rfl
                  try go_frame
                  refine tks (oi := ⟨_, _, _, _, _, _⟩) (v := ?_) 4 rfl (.inl ⟨by rfl, ?_⟩) ?_; rotate_left
                  · (intro wS hSw; (try dsimp only at hSw); go_simp); all_goals with_reducible rfl
                  try go_frame
                  refine tks (oi := ⟨_, _, _, _, _, _⟩) (v := ?_) 5 rfl (.inl ⟨by rfl, ?_⟩) ?_; rotate_left
                  · (intro wS hSw; (try dsimp only at hSw); go_simp); all_goals with_reducible rfl
                  try go_frame
                  refine tks (oi := ⟨_, _, _, _, _, _⟩) (v := ?_) 6 rfl (.inl ⟨by rfl, ?_⟩) ?_; rotate_left
                  · (intro wS hSw; (try dsimp only at hSw); go_simp); all_goals with_reducible rfl
                  try go_frame
                  refine tks (oi := ⟨_, _, _, _, _, _⟩) (v := ?_) 7 rfl (.inl ⟨by rfl, ?_⟩) ?_; rotate_left
                  · (intro wS hSw; (try dsimp only at hSw); go_simp); all_goals with_reducible rfl
                  try go_frame
                  refine tks (oi := ⟨_, _, _, _, _, _⟩) (v := ?_) 8 rfl (.inl ⟨by rfl, ?_⟩) ?_; rotate_left
                  · (intro wS hSw; (try dsimp only at hSw); go_simp); all_goals with_reducible rfl
                  try go_frame
                  refine tks (oi := ⟨_, _, _, _, _, _⟩) (v := ?_) 9 rfl (.inl ⟨by rfl, ?_⟩) ?_; rotate_left
                  · (intro wS hSw; (try dsimp only at hSw); go_simp); all_goals with_reducible rfl
                  try go_frame
                  refine tks (oi := ⟨_, _, _, _, _, _⟩) (v := ?_) 10 rfl (.inl ⟨by rfl, ?_⟩) ?_; rotate_left
                  · (intro wS hSw; (try dsimp only at hSw); go_simp); all_goals with_reducible rfl
                  try go_frame
                  refine tks (oi := ⟨_, _, _, _, _, _⟩) (v := ?_) 11 rfl (.inl ⟨by rfl, ?_⟩) ?_; rotate_left
                  · (intro wS hSw; (try dsimp only at hSw); go_simp); all_goals with_reducible rfl
                  try go_frame
                  refine tks (oi := ⟨_, _, _, _, _, _⟩) (v := ?_) 12 rfl (.inl ⟨by rfl, ?_⟩) ?_; rotate_left
                  · (intro wS hSw; (try dsimp only at hSw); go_simp); all_goals with_reducible rfl
                  try go_frame
                  refine tks (oi := ⟨_, _, _, _, _, _⟩) (v := ?_) 13 rfl (.inl ⟨by rfl, ?_⟩) ?_; rotate_left
                  · (intro wS hSw; (try dsimp only at hSw); go_simp); all_goals with_reducible rfl
                  try go_frame
                  refine tks (oi := ⟨_, _, _, _, _, _⟩) (v := ?_) 14 rfl (.inl ⟨by rfl, ?_⟩) ?_; rotate_left
                  · (intro wS hSw; (try dsimp only at hSw); go_simp); all_goals with_reducible rfl
                  try go_frame
                  refine tks (oi := ⟨_, _, _, _, _, _⟩) (v := ?_) 15 rfl (.inl ⟨by rfl, ?_⟩) ?_; rotate_left
                  · (intro wS hSw; (try dsimp only at hSw); go_simp); all_goals with_reducible rfl
                  try go_frame
                  refine tks (oi := ⟨_, _, _, _, _, _⟩) (v := ?_) 16 rfl (.inl ⟨by rfl, ?_⟩) ?_; rotate_left
                  · (intro wS hSw; (try dsimp only at hSw); go_simp); all_goals with_reducible rfl
                  try go_frame
                  refine tks (oi := ⟨_, _, _, _, _, _⟩) (v := ?_) 17 rfl (.inl ⟨by rfl, ?_⟩) ?_; rotate_left
                  · (intro wS hSw; (try dsimp only at hSw); go_simp); all_goals with_reducible rfl
                  try go_frame
                  refine tks (oi := ⟨_, _, _, _, _, _⟩) (v := ?_) 18 rfl (.inl ⟨by rfl, ?_⟩) ?_; rotate_left
                  · (intro wS hSw; (try dsimp only at hSw); go_simp); all_goals with_reducible rfl
                  try go_frame
                  refine tks (oi := ⟨_, _, _, _, _, _⟩) (v := ?_) 19 rfl (.inl ⟨by rfl, ?_⟩) ?_; rotate_left
                  · (intro wS hSw; (try dsimp only at hSw); go_simp); all_goals with_reducible rfl
                  try go_frame
                  refine tks (oi := ⟨_, _, _, _, _, _⟩) (v := ?_) 20 rfl (.inl ⟨by rfl, ?_⟩) ?_; rotate_left
                  · (intro wS hSw; (try dsimp only at hSw); go_simp); all_goals with_reducible rfl
                  try go_frame
                  refine tks (oi := ⟨_, _, _, _, _, _⟩) (v := ?_) 21 rfl (.inl ⟨by rfl, ?_⟩) ?_; rotate_left
                  · (intro wS hSw; (try dsimp only at hSw); go_simp); all_goals with_reducible rfl
                  try go_frame
                  refine tks (oi := ⟨_, _, _, _, _, _⟩) (v := ?_) 22 rfl (.inl ⟨by rfl, ?_⟩) ?_; rotate_left
                  · (intro wS hSw; (try dsimp only at hSw); go_simp); all_goals with_reducible rfl
                  try go_frame
                  refine tks (oi := ⟨_, _, _, _, _, _⟩) (v := ?_) 23 rfl (.inl ⟨by rfl, ?_⟩) ?_; rotate_left
                  · (intro wS hSw; (try dsimp only at hSw); go_simp); all_goals with_reducible rfl
                  try go_frame
                  refine tks (oi := ⟨_, _, _, _, _, _⟩) (v := ?_) 24 rfl (.inl ⟨by rfl, ?_⟩) ?_; rotate_left
                  · (intro wS hSw; (try dsimp only at hSw); go_simp); all_goals with_reducible rfl
                  try go_frame
                  refine tks (oi := ⟨_, _, _, _, _, _⟩) (v := ?_) 25 rfl (.inl ⟨by rfl, ?_⟩) ?_; rotate_left
                  · (intro wS hSw; (try dsimp only at hSw); go_simp); all_goals with_reducible rfl
                  try go_frame
                  refine tks (oi := ⟨_, _, _, _, _, _⟩) (v := ?_) 26 rfl (.inl ⟨by rfl, ?_⟩) ?_; rotate_left
                  · (intro wS hSw; (try dsimp only at hSw); go_simp); all_goals with_reducible rfl
                  try go_frame
                  refine tks (oi := ⟨_, _, _, _, _, _⟩) (v := ?_) 27 rfl (.inl ⟨by rfl, ?_⟩) ?_; rotate_left
                  · (intro wS hSw; (try dsimp only at hSw); go_simp); all_goals with_reducible rfl
                  try go_frame
                  refine tks (oi := ⟨_, _, _, _, _, _⟩) (v := ?_) 28 rfl (.inl ⟨by rfl, ?_⟩) ?_; rotate_left
                  · (intro wS hSw; (try dsimp only at hSw); go_simp); all_goals with_reducible rfl
                  try go_frame
                  refine tks (oi := ⟨_, _, _, _, _, _⟩) (v := ?_) 29 rfl (.inl ⟨by rfl, ?_⟩) ?_; rotate_left
                  · (intro wS hSw; (try dsimp only at hSw); go_simp); all_goals with_reducible rfl
                  try go_frame
                  refine tks (oi := ⟨_, _, _, _, _, _⟩) (v := ?_) 30 rfl (.inl ⟨by rfl, ?_⟩) ?_; rotate_left
                  · (intro wS hSw; (try dsimp only at hSw); go_simp); all_goals with_reducible rfl
                  try go_frame
                  refine tks (oi := ⟨_, _, _, _, _, _⟩) (v := ?_) 31 rfl (.inl ⟨by rfl, ?_⟩) ?_; rotate_left
                  · (intro wS hSw; (try dsimp only at hSw); go_simp); all_goals with_reducible rfl
                  try go_frame
                  refine tks (oi := ⟨_, _, _, _, _, _⟩) (v := ?_) 32 rfl (.inl ⟨by rfl, ?_⟩) ?_; rotate_left
                  · (intro wS hSw; (try dsimp only at hSw); go_simp); all_goals with_reducible rfl
                  try go_frame
                  refine tks (oi := ⟨_, _, _, _, _, _⟩) (v := ?_) 33 rfl (.inl ⟨by rfl, ?_⟩) ?_; rotate_left
                  · (intro wS hSw; (try dsimp only at hSw); go_simp); all_goals with_reducible rfl
                  try go_frame
                  refine tks (oi := ⟨_, _, _, _, _, _⟩) (v := ?_) 34 rfl (.inl ⟨by rfl, ?_⟩) ?_; rotate_left
                  · (intro wS hSw; (try dsimp only at hSw); go_simp); all_goals with_reducible rfl
                  try go_frame
                  refine tks (oi := ⟨_, _, _, _, _, _⟩) (v := ?_) 35 rfl (.inl ⟨by rfl, ?_⟩) ?_; rotate_left
                  · (intro wS hSw; (try dsimp only at hSw); go_simp); all_goals with_reducible rfl
                  try go_frame
                  refine tks (oi := ⟨_, _, _, _, _, _⟩) (v := ?_) 36 rfl (.inl ⟨by rfl, ?_⟩) ?_; rotate_left
                  · (intro wS hSw; (try dsimp only at hSw); go_simp); all_goals with_reducible rfl
                  try go_frame
                  refine tks (oi := ⟨_, _, _, _, _, _⟩) (v := ?_) 37 rfl (.inl ⟨by rfl, ?_⟩) ?_; rotate_left
                  · (intro wS hSw; (try dsimp only at hSw); go_simp); all_goals with_reducible rfl
                  try go_frame
                  refine tks (oi := ⟨_, _, _, _, _, _⟩) (v := ?_) 38 rfl (.inl ⟨by rfl, ?_⟩) ?_; rotate_left
                  · (intro wS hSw; (try dsimp only at hSw); go_simp); all_goals with_reducible rfl
                  try go_frame
                  refine tks (oi := ⟨_, _, _, _, _, _⟩) (v := ?_) 39 rfl (.inl ⟨by rfl, ?_⟩) ?_; rotate_left
                  · (intro wS hSw; (try dsimp only at hSw); go_simp); all_goals with_reducible rfl
                  try go_frame
                  refine tks (oi := ⟨_, _, _, _, _, _⟩) (v := ?_) 40 rfl (.inl ⟨by rfl, ?_⟩) ?_; rotate_left
                  · (intro wS hSw; (try dsimp only at hSw); go_simp); all_goals with_reducible rfl
                  try go_frame
                  refine tks (oi := ⟨_, _, _, _, _, _⟩) (v := ?_) 41 rfl (.inl ⟨by rfl, ?_⟩) ?_; rotate_left
                  · (intro wS hSw; (try dsimp only at hSw); go_simp); all_goals with_reducible rfl
                  try go_frame
                  refine tks (oi := ⟨_, _, _, _, _, _⟩) (v := ?_) 42 rfl (.inl ⟨by rfl, ?_⟩) ?_; rotate_left
                  · (intro wS hSw; (try dsimp only at hSw); go_simp); all_goals with_reducible rfl
                  try go_frame
                  refine tks (oi := ⟨_, _, _, _, _, _⟩) (v := ?_) 43 rfl (.inl ⟨by rfl, ?_⟩) ?_; rotate_left
                  · (intro wS hSw; (try dsimp only at hSw); go_simp); all_goals with_reducible rfl
                  try go_frame
                  refine tks (oi := ⟨_, _, _, _, _, _⟩) (v := ?_) 44 rfl (.inl ⟨by rfl, ?_⟩) ?_; rotate_left
                  · (intro wS hSw; (try dsimp only at hSw); go_simp); all_goals with_reducible rfl
                  try go_frame
                  refine tks (oi := ⟨_, _, _, _, _, _⟩) (v := ?_) 45 rfl (.inl ⟨by rfl, ?_⟩) ?_; rotate_left
                  · (intro wS hSw; (try dsimp only at hSw); go_simp); all_goals with_reducible rfl
                  try go_frame
                  refine tks (oi := ⟨_, _, _, _, _, _⟩) (v := ?_) 46 rfl (.inl ⟨by rfl, ?_⟩) ?_; rotate_left
                  · (intro wS hSw; (try dsimp only at hSw); go_simp); all_goals with_reducible rfl
                  try go_frame
                  refine tks (oi := ⟨_, _, _, _, _, _⟩) (v := ?_) 47 rfl (.inl ⟨by rfl, ?_⟩) ?_; rotate_left
                  · (intro wS hSw; (try dsimp only at hSw); go_simp); all_goals with_reducible rfl
                  try go_frame
                  refine tks (oi := ⟨_, _, _, _, _, _⟩) (v := ?_) 48 rfl (.inl ⟨by rfl, ?_⟩) ?_; rotate_left
                  · (intro wS hSw; (try dsimp only at hSw); go_simp); all_goals with_reducible rfl
                  try go_frame
                  refine tks (oi := ⟨_, _, _, _, _, _⟩) (v := ?_) 49 rfl (.inl ⟨by rfl, ?_⟩) ?_; rotate_left
                  · (intro wS hSw; (try dsimp only at hSw); go_simp); all_goals with_reducible rfl
                  try go_frame
                  refine tks (oi := ⟨_, _, _, _, _, _⟩) (v := ?_) 50 rfl (.inl ⟨by rfl, ?_⟩) ?_; rotate_left
                  · (intro wS hSw; (try dsimp only at hSw); go_simp); all_goals with_reducible rfl
                  try go_frame
                  refine tks (oi := ⟨_, _, _, _, _, _⟩) (v := ?_) 51 rfl (.inl ⟨by rfl, ?_⟩) ?_; rotate_left
                  · (intro wS hSw; (try dsimp only at hSw); go_simp); all_goals with_reducible rfl
                  try go_frame
                  refine tks (oi := ⟨_, _, _, _, _, _⟩) (v := ?_) 52 rfl (.inl ⟨by rfl, ?_⟩) ?_; rotate_left
                  · (intro wS hSw; (try dsimp only at hSw); go_simp); all_goals with_reducible rfl
                  try go_frame
                  refine tks (oi := ⟨_, _, _, _, _, _⟩) (v := ?_) 53 rfl (.inl ⟨by rfl, ?_⟩) ?_; rotate_left
                  · (intro wS hSw; (try dsimp only at hSw); go_simp); all_goals with_reducible rfl
                  try go_frame
                  refine tks (oi := ⟨_, _, _, _, _, _⟩) (v := ?_) 54 rfl (.inl ⟨by rfl, ?_⟩) ?_; rotate_left
                  · (intro wS hSw; (try dsimp only at hSw); go_simp); all_goals with_reducible rfl
                  try go_frame
                  refine tks (oi := ⟨_, _, _, _, _, _⟩) (v := ?_) 55 rfl (.inl ⟨by rfl, ?_⟩) ?_; rotate_left
                  · (intro wS hSw; (try dsimp only at hSw); go_simp); all_goals with_reducible rfl
                  try go_frame
                  refine tks (oi := ⟨_, _, _, _, _, _⟩) (v := ?_) 56 rfl (.inl ⟨by rfl, ?_⟩) ?_; rotate_left
                  · (intro wS hSw; (try dsimp only at hSw); go_simp); all_goals with_reducible rfl
                  try go_frame
                  refine tks (oi := ⟨_, _, _, _, _, _⟩) (v := ?_) 57 rfl (.inl ⟨by rfl, ?_⟩) ?_; rotate_left
                  · (intro wS hSw; (try dsimp only at hSw); go_simp); all_goals with_reducible rfl
                  try go_frame
                  refine tks (oi := ⟨_, _, _, _, _, _⟩) (v := ?_) 58 rfl (.inl ⟨by rfl, ?_⟩) ?_; rotate_left
                  · (intro wS hSw; (try dsimp only at hSw); go_simp); all_goals with_reducible rfl
                  try go_frame
                  refine tks (oi := ⟨_, _, _, _, _, _⟩) (v := ?_) 59 rfl (.inl ⟨by rfl, ?_⟩) ?_; rotate_left
                  · (intro wS hSw; (try dsimp only at hSw); go_simp); all_goals with_reducible rfl
                  try go_frame
                  refine tks (oi := ⟨_, _, _, _, _, _⟩) (v := ?_) 60 rfl (.inl ⟨by rfl, ?_⟩) ?_; rotate_left
                  · (intro wS hSw; (try dsimp only at hSw); go_simp); all_goals with_reducible rfl
                  try go_frame
                  refine wpAnyH_ready (rs := [61]) (by kernel_rfl) (by simp) ?_
                  refine AllReadyH.cons (o := ⟨_, _, _, _, _, _⟩) rfl (fun K hK => ?_) AllReadyH.nil
                  go_simp
                  refine (SameAttrs_any x.attrs y.attrs A' B' c' d' _ ((HAT.out.below hbel.drew).more hbel.drew.size) ((HBT.out.below hbel.drew).more hbel.drew.size) hsx hsy true hq).mono ?_; rintro e w3 ⟨rfl, hb3⟩
                  go_wp2_with fail
                  refine hK.out _ _ (HTW.out.keep hab hbb (hb3.mono hbel.drew.size)) (fun hHeld => ?_)
                  clear hK K
                  try go_frame
                  refine tks (oi := ⟨_, _, _, _, _, _⟩) (v := ?_) 62 rfl (.inl ⟨by rfl, ?_⟩) ?_; rotate_left
                  · (intro wS hSw; (try dsimp only at hSw); go_simp); all_goals with_reducible rfl
                  try go_frame
                  refine tks (oi := ⟨_, _, _, _, _, _⟩) (v := ?_) 63 rfl (.inl ⟨by rfl, ?_⟩) ?_; rotate_left
                  · (intro wS hSw; (try dsimp only at hSw); go_simp); all_goals with_reducible rfl
                  try go_frame
                  refine wpAnyH_done (by kernel_rfl) ?_ _
                  have hb3' := hbel.drew.trans (hb3.mono hbel.drew.size)
                  clear hHeld
                  go_wp2_with fail
                  go_roundw
                  case rel => exact ⟨k + 1, by omega, by go_num, HIN, hb3'⟩
                  case measure => simp [intOf]; omega
                | false =>
                  have HIN : Hid (R = false) := by
                    show _ = _
                    have e5 : x.attrs ≠ y.attrs := of_decide_eq_false hq.out
                    rw [← hin']
                    simp only [decide_eq_false_iff_not]
                    intro h
                    exact e5 (HDE.out.1 h).1.2.2.2.2
                  clear e1 e2 e3 e4 hin' hin
                  go_wp2_with fail
                  refine wp_region_held_drew (S := fun w' => w'.cell? (ad.add (k * 5)) = some (.int .i64 x.level) ∧ w'.cell? ⟨(ad.add (k * 5)).block, (ad.add (k * 5)).off + 1, none⟩ = some (.int .i64 x.kind) ∧ w'.cell? ⟨(ad.add (k * 5)).block, (ad.add (k * 5)).off + 2, none⟩ = some (.string ⟨x.name.toArray⟩) ∧ w'.cell? ⟨(ad.add (k * 5)).block, (ad.add (k * 5)).off + 3, none⟩ = some (.string ⟨x.text.toArray⟩) ∧ w'.cell? ⟨(ad.add (k * 5)).block, (ad.add (k * 5)).off + 4, none⟩ = some (.slice A' x.attrs.length c') ∧ w'.cell? (bd.add (k * 5)) = some (.int .i64 y.level) ∧ w'.cell? ⟨(bd.add (k * 5)).block, (bd.add (k * 5)).off + 1, none⟩ = some (.int .i64 y.kind) ∧ w'.cell? ⟨(bd.add (k * 5)).block, (bd.add (k * 5)).off + 2, none⟩ = some (.string ⟨y.name.toArray⟩) ∧ w'.cell? ⟨(bd.add (k * 5)).block, (bd.add (k * 5)).off + 3, none⟩ = some (.string ⟨y.text.toArray⟩) ∧ w'.cell? ⟨(bd.add (k * 5)).block, (bd.add (k * 5)).off + 4, none⟩ = some (.slice B' y.attrs.length d')) (by kernel_rfl) HTW.out (fun hHeld => ?_)
                  refine tks (oi := ⟨_, _, _, _, _, _⟩) (v := ?_) 0 rfl (.inl ⟨by rfl, ?_⟩) ?_; rotate_left
                  · (intro wS hSw; (try dsimp only at hSw); go_simp); all_goals with_reducible rfl
                  try go_frame
                  refine tks (oi := ⟨_, _, _, _, _, _⟩) (v := ?_) 1 rfl (.inl ⟨by rfl, ?_⟩) ?_; rotate_left
                  · (intro wS hSw; (try dsimp only at hSw); go_simp); all_goals with_reducible rfl
                  try go_frame
                  refine tks (oi := ⟨_, _, _, _, _, _⟩) (v := ?_) 2 rfl (.inl ⟨by rfl, ?_⟩) ?_; rotate_left
                  · (intro wS hSw; (try dsimp only at hSw); go_simp); all_goals with_reducible rfl
                  try go_frame
                  refine tks (oi := ⟨_, _, _, _, _, _⟩) (v := ?_) 3 rfl (.inl ⟨by rfl, ?_⟩) ?_; rotate_left
                  · (intro wS hSw; (try dsimp only at hSw); go_simp); all_goals with_reducible rfl
                  try go_frame
                  refine tks (oi := ⟨_, _, _, _, _, _⟩) (v := ?_) 4 rfl (.inl ⟨by rfl, ?_⟩) ?_; rotate_left
                  · (intro wS hSw; (try dsimp only at hSw); go_simp); all_goals with_reducible rfl
                  try go_frame
                  refine tks (oi := ⟨_, _, _, _, _, _⟩) (v := ?_) 5 rfl (.inl ⟨by rfl, ?_⟩) ?_; rotate_left
                  · (intro wS hSw; (try dsimp only at hSw); go_simp); all_goals with_reducible rfl
                  try go_frame
                  refine tks (oi := ⟨_, _, _, _, _, _⟩) (v := ?_) 6 rfl (.inl ⟨by rfl, ?_⟩) ?_; rotate_left
                  · (intro wS hSw; (try dsimp only at hSw); go_simp); all_goals with_reducible rfl
                  try go_frame
                  refine tks (oi := ⟨_, _, _, _, _, _⟩) (v := ?_) 7 rfl (.inl ⟨by rfl, ?_⟩) ?_; rotate_left
                  · (intro wS hSw; (try dsimp only at hSw); go_simp); all_goals with_reducible rfl
                  try go_frame
                  refine tks (oi := ⟨_, _, _, _, _, _⟩) (v := ?_) 8 rfl (.inl ⟨by rfl, ?_⟩) ?_; rotate_left
                  · (intro wS hSw; (try dsimp only at hSw); go_simp); all_goals with_reducible rfl
                  try go_frame
                  refine tks (oi := ⟨_, _, _, _, _, _⟩) (v := ?_) 9 rfl (.inl ⟨by rfl, ?_⟩) ?_; rotate_left
                  · (intro wS hSw; (try dsimp only at hSw); go_simp); all_goals with_reducible rfl
                  try go_frame
                  refine tks (oi := ⟨_, _, _, _, _, _⟩) (v := ?_) 10 rfl (.inl ⟨by rfl, ?_⟩) ?_; rotate_left
                  · (intro wS hSw; (try dsimp only at hSw); go_simp); all_goals with_reducible rfl
                  try go_frame
                  refine tks (oi := ⟨_, _, _, _, _, _⟩) (v := ?_) 11 rfl (.inl ⟨by rfl, ?_⟩) ?_; rotate_left
                  · (intro wS hSw; (try dsimp only at hSw); go_simp); all_goals with_reducible rfl
                  try go_frame
                  refine tks (oi := ⟨_, _, _, _, _, _⟩) (v := ?_) 12 rfl (.inl ⟨by rfl, ?_⟩) ?_; rotate_left
                  · (intro wS hSw; (try dsimp only at hSw); go_simp); all_goals with_reducible rfl
                  try go_frame
                  refine tks (oi := ⟨_, _, _, _, _, _⟩) (v := ?_) 13 rfl (.inl ⟨by rfl, ?_⟩) ?_; rotate_left
                  · (intro wS hSw; (try dsimp only at hSw); go_simp); all_goals with_reducible rfl
                  try go_frame
                  refine tks (oi := ⟨_, _, _, _, _, _⟩) (v := ?_) 14 rfl (.inl ⟨by rfl, ?_⟩) ?_; rotate_left
                  · (intro wS hSw; (try dsimp only at hSw); go_simp); all_goals with_reducible rfl
                  try go_frame
                  refine tks (oi := ⟨_, _, _, _, _, _⟩) (v := ?_) 15 rfl (.inl ⟨by rfl, ?_⟩) ?_; rotate_left
                  · (intro wS hSw; (try dsimp only at hSw); go_simp); all_goals with_reducible rfl
                  try go_frame
                  refine tks (oi := ⟨_, _, _, _, _, _⟩) (v := ?_) 16 rfl (.inl ⟨by rfl, ?_⟩) ?_; rotate_left
                  · (intro wS hSw; (try dsimp only at hSw); go_simp); all_goals with_reducible rfl
                  try go_frame
                  refine tks (oi := ⟨_, _, _, _, _, _⟩) (v := ?_) 17 rfl (.inl ⟨by rfl, ?_⟩) ?_; rotate_left
                  · (intro wS hSw; (try dsimp only at hSw); go_simp); all_goals with_reducible rfl
                  try go_frame
                  refine tks (oi := ⟨_, _, _, _, _, _⟩) (v := ?_) 18 rfl (.inl ⟨by rfl, ?_⟩) ?_; rotate_left
                  · (intro wS hSw; (try dsimp only at hSw); go_simp); all_goals with_reducible rfl
                  try go_frame
                  refine tks (oi := ⟨_, _, _, _, _, _⟩) (v := ?_) 19 rfl (.inl ⟨by rfl, ?_⟩) ?_; rotate_left
                  · (intro wS hSw; (try dsimp only at hSw); go_simp); all_goals with_reducible rfl
                  try go_frame
                  refine tks (oi := ⟨_, _, _, _, _, _⟩) (v := ?_) 20 rfl (.inl ⟨by rfl, ?_⟩) ?_; rotate_left
                  · (intro wS hSw; (try dsimp only at hSw); go_simp); all_goals with_reducible rfl
                  try go_frame
                  refine tks (oi := ⟨_, _, _, _, _, _⟩) (v := ?_) 21 rfl (.inl ⟨by rfl, ?_⟩) ?_; rotate_left
                  · (intro wS hSw; (try dsimp only at hSw); go_simp); all_goals with_reducible rfl
                  try go_frame
                  refine tks (oi := ⟨_, _, _, _, _, _⟩) (v := ?_) 22 rfl (.inl ⟨by rfl, ?_⟩) ?_; rotate_left
                  · (intro wS hSw; (try dsimp only at hSw); go_simp); all_goals with_reducible rfl
                  try go_frame
                  refine tks (oi := ⟨_, _, _, _, _, _⟩) (v := ?_) 23 rfl (.inl ⟨by rfl, ?_⟩) ?_; rotate_left
                  · (intro wS hSw; (try dsimp only at hSw); go_simp); all_goals with_reducible rfl
                  try go_frame
                  refine tks (oi := ⟨_, _, _, _, _, _⟩) (v := ?_) 24 rfl (.inl ⟨by rfl, ?_⟩) ?_; rotate_left
                  · (intro wS hSw; (try dsimp only at hSw); go_simp); all_goals with_reducible rfl
                  try go_frame
                  refine tks (oi := ⟨_, _, _, _, _, _⟩) (v := ?_) 25 rfl (.inl ⟨by rfl, ?_⟩) ?_; rotate_left
                  · (intro wS hSw; (try dsimp only at hSw); go_simp); all_goals with_reducible rfl
                  try go_frame
                  refine tks (oi := ⟨_, _, _, _, _, _⟩) (v := ?_) 26 rfl (.inl ⟨by rfl, ?_⟩) ?_; rotate_left
                  · (intro wS hSw; (try dsimp only at hSw); go_simp); all_goals with_reducible rfl
                  try go_frame
                  refine tks (oi := ⟨_, _, _, _, _, _⟩) (v := ?_) 27 rfl (.inl ⟨by rfl, ?_⟩) ?_; rotate_left
                  · (intro wS hSw; (try dsimp only at hSw); go_simp); all_goals with_reducible rfl
                  try go_frame
                  refine tks (oi := ⟨_, _, _, _, _, _⟩) (v := ?_) 28 rfl (.inl ⟨by rfl, ?_⟩) ?_; rotate_left
                  · (intro wS hSw; (try dsimp only at hSw); go_simp); all_goals with_reducible rfl
                  try go_frame
                  refine tks (oi := ⟨_, _, _, _, _, _⟩) (v := ?_) 29 rfl (.inl ⟨by rfl, ?_⟩) ?_; rotate_left
                  · (intro wS hSw; (try dsimp only at hSw); go_simp); all_goals with_reducible rfl
                  try go_frame
                  refine tks (oi := ⟨_, _, _, _, _, _⟩) (v := ?_) 30 rfl (.inl ⟨by rfl, ?_⟩) ?_; rotate_left
                  · (intro wS hSw; (try dsimp only at hSw); go_simp); all_goals with_reducible rfl
                  try go_frame
                  refine tks (oi := ⟨_, _, _, _, _, _⟩) (v := ?_) 31 rfl (.inl ⟨by rfl, ?_⟩) ?_; rotate_left
                  · (intro wS hSw; (try dsimp only at hSw); go_simp); all_goals with_reducible rfl
                  try go_frame
                  refine tks (oi := ⟨_, _, _, _, _, _⟩) (v := ?_) 32 rfl (.inl ⟨by rfl, ?_⟩) ?_; rotate_left
                  · (intro wS hSw; (try dsimp only at hSw); go_simp); all_goals with_reducible rfl
                  try go_frame
                  refine tks (oi := ⟨_, _, _, _, _, _⟩) (v := ?_) 33 rfl (.inl ⟨by rfl, ?_⟩) ?_; rotate_left
                  · (intro wS hSw; (try dsimp only at hSw); go_simp); all_goals with_reducible rfl
                  try go_frame
                  refine tks (oi := ⟨_, _, _, _, _, _⟩) (v := ?_) 34 rfl (.inl ⟨by rfl, ?_⟩) ?_; rotate_left
                  · (intro wS hSw; (try dsimp only at hSw); go_simp); all_goals with_reducible rfl
                  try go_frame
                  refine tks (oi := ⟨_, _, _, _, _, _⟩) (v := ?_) 35 rfl (.inl ⟨by rfl, ?_⟩) ?_; rotate_left
                  · (intro wS hSw; (try dsimp only at hSw); go_simp); all_goals with_reducible rfl
                  try go_frame
                  refine tks (oi := ⟨_, _, _, _, _, _⟩) (v := ?_) 36 rfl (.inl ⟨by rfl, ?_⟩) ?_; rotate_left
                  · (intro wS hSw; (try dsimp only at hSw); go_simp); all_goals with_reducible rfl
                  try go_frame
                  refine tks (oi := ⟨_, _, _, _, _, _⟩) (v := ?_) 37 rfl (.inl ⟨by rfl, ?_⟩) ?_; rotate_left
                  · (intro wS hSw; (try dsimp only at hSw); go_simp); all_goals with_reducible rfl
                  try go_frame
                  refine tks (oi := ⟨_, _, _, _, _, _⟩) (v := ?_) 38 rfl (.inl ⟨by rfl, ?_⟩) ?_; rotate_left
                  · (intro wS hSw; (try dsimp only at hSw); go_simp); all_goals with_reducible rfl
                  try go_frame
                  refine tks (oi := ⟨_, _, _, _, _, _⟩) (v := ?_) 39 rfl (.inl ⟨by rfl, ?_⟩) ?_; rotate_left
                  · (intro wS hSw; (try dsimp only at hSw); go_simp); all_goals with_reducible rfl
                  try go_frame
                  refine tks (oi := ⟨_, _, _, _, _, _⟩) (v := ?_) 40 rfl (.inl ⟨by rfl, ?_⟩) ?_; rotate_left
                  · (intro wS hSw; (try dsimp only at hSw); go_simp); all_goals with_reducible rfl
                  try go_frame
                  refine tks (oi := ⟨_, _, _, _, _, _⟩) (v := ?_) 41 rfl (.inl ⟨by rfl, ?_⟩) ?_; rotate_left
                  · (intro wS hSw; (try dsimp only at hSw); go_simp); all_goals with_reducible rfl
                  try go_frame
                  refine tks (oi := ⟨_, _, _, _, _, _⟩) (v := ?_) 42 rfl (.inl ⟨by rfl, ?_⟩) ?_; rotate_left
                  · (intro wS hSw; (try dsimp only at hSw); go_simp); all_goals with_reducible rfl
                  try go_frame
                  refine tks (oi := ⟨_, _, _, _, _, _⟩) (v := ?_) 43 rfl (.inl ⟨by rfl, ?_⟩) ?_; rotate_left
                  · (intro wS hSw; (try dsimp only at hSw); go_simp); all_goals with_reducible rfl
                  try go_frame
                  refine tks (oi := ⟨_, _, _, _, _, _⟩) (v := ?_) 44 rfl (.inl ⟨by rfl, ?_⟩) ?_; rotate_left
                  · (intro wS hSw; (try dsimp only at hSw); go_simp); all_goals with_reducible rfl
                  try go_frame
                  refine tks (oi := ⟨_, _, _, _, _, _⟩) (v := ?_) 45 rfl (.inl ⟨by rfl, ?_⟩) ?_; rotate_left
                  · (intro wS hSw; (try dsimp only at hSw); go_simp); all_goals with_reducible rfl
                  try go_frame
                  refine tks (oi := ⟨_, _, _, _, _, _⟩) (v := ?_) 46 rfl (.inl ⟨by rfl, ?_⟩) ?_; rotate_left
                  · (intro wS hSw; (try dsimp only at hSw); go_simp); all_goals with_reducible rfl
                  try go_frame
                  refine tks (oi := ⟨_, _, _, _, _, _⟩) (v := ?_) 47 rfl (.inl ⟨by rfl, ?_⟩) ?_; rotate_left
                  · (intro wS hSw; (try dsimp only at hSw); go_simp); all_goals with_reducible rfl
                  try go_frame
                  refine tks (oi := ⟨_, _, _, _, _, _⟩) (v := ?_) 48 rfl (.inl ⟨by rfl, ?_⟩) ?_; rotate_left
                  · (intro wS hSw; (try dsimp only at hSw); go_simp); all_goals with_reducible rfl
                  try go_frame
                  refine tks (oi := ⟨_, _, _, _, _, _⟩) (v := ?_) 49 rfl (.inl ⟨by rfl, ?_⟩) ?_; rotate_left
                  · (intro wS hSw; (try dsimp only at hSw); go_simp); all_goals with_reducible rfl
                  try go_frame
                  refine tks (oi := ⟨_, _, _, _, _, _⟩) (v := ?_) 50 rfl (.inl ⟨by rfl, ?_⟩) ?_; rotate_left
                  · (intro wS hSw; (try dsimp only at hSw); go_simp); all_goals with_reducible rfl
                  try go_frame
                  refine tks (oi := ⟨_, _, _, _, _, _⟩) (v := ?_) 51 rfl (.inl ⟨by rfl, ?_⟩) ?_; rotate_left
                  · (intro wS hSw; (try dsimp only at hSw); go_simp); all_goals with_reducible rfl
                  try go_frame
                  refine tks (oi := ⟨_, _, _, _, _, _⟩) (v := ?_) 52 rfl (.inl ⟨by rfl, ?_⟩) ?_; rotate_left
                  · (intro wS hSw; (try dsimp only at hSw); go_simp); all_goals with_reducible rfl
                  try go_frame
                  refine tks (oi := ⟨_, _, _, _, _, _⟩) (v := ?_) 53 rfl (.inl ⟨by rfl, ?_⟩) ?_; rotate_left
                  · (intro wS hSw; (try dsimp only at hSw); go_simp); all_goals with_reducible rfl
                  try go_frame
                  refine tks (oi := ⟨_, _, _, _, _, _⟩) (v := ?_) 54 rfl (.inl ⟨by rfl, ?_⟩) ?_; rotate_left
                  · (intro wS hSw; (try dsimp only at hSw); go_simp); all_goals with_reducible rfl
                  try go_frame
                  refine tks (oi := ⟨_, _, _, _, _, _⟩) (v := ?_) 55 rfl (.inl ⟨by rfl, ?_⟩) ?_; rotate_left
                  · (intro wS hSw; (try dsimp only at hSw); go_simp); all_goals with_reducible rfl
                  try go_frame
                  refine tks (oi := ⟨_, _, _, _, _, _⟩) (v := ?_) 56 rfl (.inl ⟨by rfl, ?_⟩) ?_; rotate_left
                  · (intro wS hSw; (try dsimp only at hSw); go_simp); all_goals with_reducible rfl
                  try go_frame
                  refine tks (oi := ⟨_, _, _, _, _, _⟩) (v := ?_) 57 rfl (.inl ⟨by rfl, ?_⟩) ?_; rotate_left
                  · (intro wS hSw; (try dsimp only at hSw); go_simp); all_goals with_reducible rfl
                  try go_frame
                  refine tks (oi := ⟨_, _, _, _, _, _⟩) (v := ?_) 58 rfl (.inl ⟨by rfl, ?_⟩) ?_; rotate_left
                  · (intro wS hSw; (try dsimp only at hSw); go_simp); all_goals with_reducible rfl
                  try go_frame
                  refine tks (oi := ⟨_, _, _, _, _, _⟩) (v := ?_) 59 rfl (.inl ⟨by rfl, ?_⟩) ?_; rotate_left
                  · (intro wS hSw; (try dsimp only at hSw); go_simp); all_goals with_reducible rfl
                  try go_frame
                  refine tks (oi := ⟨_, _, _, _, _, _⟩) (v := ?_) 60 rfl (.inl ⟨by rfl, ?_⟩) ?_; rotate_left
                  · (intro wS hSw; (try dsimp only at hSw); go_simp); all_goals with_reducible rfl
                  try go_frame
                  refine wpAnyH_ready (rs := [61]) (by kernel_rfl) (by simp) ?_
                  refine AllReadyH.cons (o := ⟨_, _, _, _, _, _⟩) rfl (fun K hK => ?_) AllReadyH.nil
                  go_simp
                  refine (SameAttrs_any x.attrs y.attrs A' B' c' d' _ ((HAT.out.below hbel.drew).more hbel.drew.size) ((HBT.out.below hbel.drew).more hbel.drew.size) hsx hsy false hq).mono ?_; rintro e w3 ⟨rfl, hb3⟩
                  go_wp2_with fail
                  refine hK.out _ _ (HTW.out.keep hab hbb (hb3.mono hbel.drew.size)) (fun hHeld => ?_)
                  clear hK K
                  try go_frame
                  refine tks (oi := ⟨_, _, _, _, _, _⟩) (v := ?_) 62 rfl (.inl ⟨by rfl, ?_⟩) ?_; rotate_left
                  · (intro wS hSw; (try dsimp only at hSw); go_simp); all_goals with_reducible rfl
                  try go_frame
                  refine tks (oi := ⟨_, _, _, _, _, _⟩) (v := ?_) 63 rfl (.inl ⟨by rfl, ?_⟩) ?_; rotate_left
                  · (intro wS hSw; (try dsimp only at hSw); go_simp); all_goals with_reducible rfl
                  try go_frame
                  refine wpAnyH_done (by kernel_rfl) ?_ _
                  have hb3' := hbel.drew.trans (hb3.mono hbel.drew.size)
                  clear hHeld
                  go_wp2_with fail
                  go_ret
                  exact ⟨by rw [HIN.out]; rfl, hb3'⟩
              · skip
                have HIN : Hid (R = false) := by
                  show _ = _
                  rw [← hin']
                  simp only [decide_eq_false_iff_not]
                  intro h
                  exact e4 (HDE.out.1 h).1.2.2.2.1
                have f4 : (x.text == y.text) = false := by simp [e4]
                clear e1 e2 e3 e4
                clear hin' hin
                go_wp2_with fail
                refine wp_region_held_drew (S := fun w' => w'.cell? (ad.add (k * 5)) = some (.int .i64 x.level) ∧ w'.cell? ⟨(ad.add (k * 5)).block, (ad.add (k * 5)).off + 1, none⟩ = some (.int .i64 x.kind) ∧ w'.cell? ⟨(ad.add (k * 5)).block, (ad.add (k * 5)).off + 2, none⟩ = some (.string ⟨x.name.toArray⟩) ∧ w'.cell? ⟨(ad.add (k * 5)).block, (ad.add (k * 5)).off + 3, none⟩ = some (.string ⟨x.text.toArray⟩) ∧ w'.cell? ⟨(ad.add (k * 5)).block, (ad.add (k * 5)).off + 4, none⟩ = some (.slice A' x.attrs.length c') ∧ w'.cell? (bd.add (k * 5)) = some (.int .i64 y.level) ∧ w'.cell? ⟨(bd.add (k * 5)).block, (bd.add (k * 5)).off + 1, none⟩ = some (.int .i64 y.kind) ∧ w'.cell? ⟨(bd.add (k * 5)).block, (bd.add (k * 5)).off + 2, none⟩ = some (.string ⟨y.name.toArray⟩) ∧ w'.cell? ⟨(bd.add (k * 5)).block, (bd.add (k * 5)).off + 3, none⟩ = some (.string ⟨y.text.toArray⟩) ∧ w'.cell? ⟨(bd.add (k * 5)).block, (bd.add (k * 5)).off + 4, none⟩ = some (.slice B' y.attrs.length d')) (by kernel_rfl) HTW.out (fun hHeld => ?_)
                refine tks (oi := ⟨_, _, _, _, _, _⟩) (v := ?_) 0 rfl (.inl ⟨by rfl, ?_⟩) ?_; rotate_left
                · (intro wS hSw; (try dsimp only at hSw); go_simp); all_goals with_reducible rfl
                try go_frame
                refine tks (oi := ⟨_, _, _, _, _, _⟩) (v := ?_) 1 rfl (.inl ⟨by rfl, ?_⟩) ?_; rotate_left
                · (intro wS hSw; (try dsimp only at hSw); go_simp); all_goals with_reducible rfl
                try go_frame
                refine tks (oi := ⟨_, _, _, _, _, _⟩) (v := ?_) 2 rfl (.inl ⟨by rfl, ?_⟩) ?_; rotate_left
                · (intro wS hSw; (try dsimp only at hSw); go_simp); all_goals with_reducible rfl
                try go_frame
                refine tks (oi := ⟨_, _, _, _, _, _⟩) (v := ?_) 3 rfl (.inl ⟨by rfl, ?_⟩) ?_; rotate_left
                · (intro wS hSw; (try dsimp only at hSw); go_simp); all_goals with_reducible rfl
                try go_frame
                refine tks (oi := ⟨_, _, _, _, _, _⟩) (v := ?_) 4 rfl (.inl ⟨by rfl, ?_⟩) ?_; rotate_left
                · (intro wS hSw; (try dsimp only at hSw); go_simp); all_goals with_reducible rfl
                try go_frame
                refine tks (oi := ⟨_, _, _, _, _, _⟩) (v := ?_) 5 rfl (.inl ⟨by rfl, ?_⟩) ?_; rotate_left
                · (intro wS hSw; (try dsimp only at hSw); go_simp); all_goals with_reducible rfl
                try go_frame
                refine tks (oi := ⟨_, _, _, _, _, _⟩) (v := ?_) 6 rfl (.inl ⟨by rfl, ?_⟩) ?_; rotate_left
                · (intro wS hSw; (try dsimp only at hSw); go_simp); all_goals with_reducible rfl
                try go_frame
                refine tks (oi := ⟨_, _, _, _, _, _⟩) (v := ?_) 7 rfl (.inl ⟨by rfl, ?_⟩) ?_; rotate_left
                · (intro wS hSw; (try dsimp only at hSw); go_simp); all_goals with_reducible rfl
                try go_frame
                refine tks (oi := ⟨_, _, _, _, _, _⟩) (v := ?_) 8 rfl (.inl ⟨by rfl, ?_⟩) ?_; rotate_left
                · (intro wS hSw; (try dsimp only at hSw); go_simp); all_goals with_reducible rfl
                try go_frame
                refine tks (oi := ⟨_, _, _, _, _, _⟩) (v := ?_) 9 rfl (.inl ⟨by rfl, ?_⟩) ?_; rotate_left
                · (intro wS hSw; (try dsimp only at hSw); go_simp); all_goals with_reducible rfl
                try go_frame
                refine tks (oi := ⟨_, _, _, _, _, _⟩) (v := ?_) 10 rfl (.inl ⟨by rfl, ?_⟩) ?_; rotate_left
                · (intro wS hSw; (try dsimp only at hSw); go_simp); all_goals with_reducible rfl
                try go_frame
                refine tks (oi := ⟨_, _, _, _, _, _⟩) (v := ?_) 11 rfl (.inl ⟨by rfl, ?_⟩) ?_; rotate_left
                · (intro wS hSw; (try dsimp only at hSw); go_simp); all_goals with_reducible rfl
                try go_frame
                refine tks (oi := ⟨_, _, _, _, _, _⟩) (v := ?_) 12 rfl (.inl ⟨by rfl, ?_⟩) ?_; rotate_left
                · (intro wS hSw; (try dsimp only at hSw); go_simp); all_goals with_reducible rfl
                try go_frame
                refine tks (oi := ⟨_, _, _, _, _, _⟩) (v := ?_) 13 rfl (.inl ⟨by rfl, ?_⟩) ?_; rotate_left
                · (intro wS hSw; (try dsimp only at hSw); go_simp); all_goals with_reducible rfl
                try go_frame
                refine tks (oi := ⟨_, _, _, _, _, _⟩) (v := ?_) 14 rfl (.inl ⟨by rfl, ?_⟩) ?_; rotate_left
                · (intro wS hSw; (try dsimp only at hSw); go_simp); all_goals with_reducible rfl
                try go_frame
                refine tks (oi := ⟨_, _, _, _, _, _⟩) (v := ?_) 15 rfl (.inl ⟨by rfl, ?_⟩) ?_; rotate_left
                · (intro wS hSw; (try dsimp only at hSw); go_simp); all_goals with_reducible rfl
                try go_frame
                refine tks (oi := ⟨_, _, _, _, _, _⟩) (v := ?_) 16 rfl (.inl ⟨by rfl, ?_⟩) ?_; rotate_left
                · (intro wS hSw; (try dsimp only at hSw); go_simp); all_goals with_reducible rfl
                try go_frame
                refine tks (oi := ⟨_, _, _, _, _, _⟩) (v := ?_) 17 rfl (.inl ⟨by rfl, ?_⟩) ?_; rotate_left
                · (intro wS hSw; (try dsimp only at hSw); go_simp); all_goals with_reducible rfl
                try go_frame
                refine tks (oi := ⟨_, _, _, _, _, _⟩) (v := ?_) 18 rfl (.inl ⟨by rfl, ?_⟩) ?_; rotate_left
                · (intro wS hSw; (try dsimp only at hSw); go_simp); all_goals with_reducible rfl
                try go_frame
                refine tks (oi := ⟨_, _, _, _, _, _⟩) (v := ?_) 19 rfl (.inl ⟨by rfl, ?_⟩) ?_; rotate_left
                · (intro wS hSw; (try dsimp only at hSw); go_simp); all_goals with_reducible rfl
                try go_frame
                refine tks (oi := ⟨_, _, _, _, _, _⟩) (v := ?_) 20 rfl (.inl ⟨by rfl, ?_⟩) ?_; rotate_left
                · (intro wS hSw; (try dsimp only at hSw); go_simp); all_goals with_reducible rfl
                try go_frame
                refine tks (oi := ⟨_, _, _, _, _, _⟩) (v := ?_) 21 rfl (.inl ⟨by rfl, ?_⟩) ?_; rotate_left
                · (intro wS hSw; (try dsimp only at hSw); go_simp); all_goals with_reducible rfl
                try go_frame
                refine tks (oi := ⟨_, _, _, _, _, _⟩) (v := ?_) 22 rfl (.inl ⟨by rfl, ?_⟩) ?_; rotate_left
                · (intro wS hSw; (try dsimp only at hSw); go_simp); all_goals with_reducible rfl
                try go_frame
                refine tks (oi := ⟨_, _, _, _, _, _⟩) (v := ?_) 23 rfl (.inl ⟨by rfl, ?_⟩) ?_; rotate_left
                · (intro wS hSw; (try dsimp only at hSw); go_simp); all_goals with_reducible rfl
                try go_frame
                refine tks (oi := ⟨_, _, _, _, _, _⟩) (v := ?_) 24 rfl (.inl ⟨by rfl, ?_⟩) ?_; rotate_left
                · (intro wS hSw; (try dsimp only at hSw); go_simp); all_goals with_reducible rfl
                try go_frame
                refine tks (oi := ⟨_, _, _, _, _, _⟩) (v := ?_) 25 rfl (.inl ⟨by rfl, ?_⟩) ?_; rotate_left
                · (intro wS hSw; (try dsimp only at hSw); go_simp); all_goals with_reducible rfl
                try go_frame
                refine tks (oi := ⟨_, _, _, _, _, _⟩) (v := ?_) 26 rfl (.inl ⟨by rfl, ?_⟩) ?_; rotate_left
                · (intro wS hSw; (try dsimp only at hSw); go_simp); all_goals with_reducible rfl
                try go_frame
                refine tks (oi := ⟨_, _, _, _, _, _⟩) (v := ?_) 27 rfl (.inl ⟨by rfl, ?_⟩) ?_; rotate_left
                · (intro wS hSw; (try dsimp only at hSw); go_simp); all_goals with_reducible rfl
                try go_frame
                refine tks (oi := ⟨_, _, _, _, _, _⟩) (v := ?_) 28 rfl (.inl ⟨by rfl, ?_⟩) ?_; rotate_left
                · (intro wS hSw; (try dsimp only at hSw); go_simp); all_goals with_reducible rfl
                try go_frame
                refine tks (oi := ⟨_, _, _, _, _, _⟩) (v := ?_) 29 rfl (.inl ⟨by rfl, ?_⟩) ?_; rotate_left
                · (intro wS hSw; (try dsimp only at hSw); go_simp); all_goals with_reducible rfl
                try go_frame
                refine tks (oi := ⟨_, _, _, _, _, _⟩) (v := ?_) 30 rfl (.inl ⟨by rfl, ?_⟩) ?_; rotate_left
                · (intro wS hSw; (try dsimp only at hSw); go_simp); all_goals with_reducible rfl
                try go_frame
                refine tks (oi := ⟨_, _, _, _, _, _⟩) (v := ?_) 31 rfl (.inl ⟨by rfl, ?_⟩) ?_; rotate_left
                · (intro wS hSw; (try dsimp only at hSw); go_simp); all_goals with_reducible rfl
                try go_frame
                refine tks (oi := ⟨_, _, _, _, _, _⟩) (v := ?_) 32 rfl (.inl ⟨by rfl, ?_⟩) ?_; rotate_left
                · (intro wS hSw; (try dsimp only at hSw); go_simp); all_goals with_reducible rfl
                try go_frame
                refine tks (oi := ⟨_, _, _, _, _, _⟩) (v := ?_) 33 rfl (.inl ⟨by rfl, ?_⟩) ?_; rotate_left
                · (intro wS hSw; (try dsimp only at hSw); go_simp); all_goals with_reducible rfl
                try go_frame
                refine tks (oi := ⟨_, _, _, _, _, _⟩) (v := ?_) 34 rfl (.inl ⟨by rfl, ?_⟩) ?_; rotate_left
                · (intro wS hSw; (try dsimp only at hSw); go_simp); all_goals with_reducible rfl
                try go_frame
                refine tks (oi := ⟨_, _, _, _, _, _⟩) (v := ?_) 35 rfl (.inl ⟨by rfl, ?_⟩) ?_; rotate_left
                · (intro wS hSw; (try dsimp only at hSw); go_simp); all_goals with_reducible rfl
                try go_frame
                refine tks (oi := ⟨_, _, _, _, _, _⟩) (v := ?_) 36 rfl (.inl ⟨by rfl, ?_⟩) ?_; rotate_left
                · (intro wS hSw; (try dsimp only at hSw); go_simp); all_goals with_reducible rfl
                try go_frame
                refine tks (oi := ⟨_, _, _, _, _, _⟩) (v := ?_) 37 rfl (.inl ⟨by rfl, ?_⟩) ?_; rotate_left
                · (intro wS hSw; (try dsimp only at hSw); go_simp); all_goals with_reducible rfl
                try go_frame
                refine tks (oi := ⟨_, _, _, _, _, _⟩) (v := ?_) 38 rfl (.inl ⟨by rfl, ?_⟩) ?_; rotate_left
                · (intro wS hSw; (try dsimp only at hSw); go_simp); all_goals with_reducible rfl
                try go_frame
                refine tks (oi := ⟨_, _, _, _, _, _⟩) (v := ?_) 39 rfl (.inl ⟨by rfl, ?_⟩) ?_; rotate_left
                · (intro wS hSw; (try dsimp only at hSw); go_simp); all_goals with_reducible rfl
                try go_frame
                refine tks (oi := ⟨_, _, _, _, _, _⟩) (v := ?_) 40 rfl (.inl ⟨by rfl, ?_⟩) ?_; rotate_left
                · (intro wS hSw; (try dsimp only at hSw); go_simp); all_goals with_reducible rfl
                try go_frame
                refine tks (oi := ⟨_, _, _, _, _, _⟩) (v := ?_) 41 rfl (.inl ⟨by rfl, ?_⟩) ?_; rotate_left
                · (intro wS hSw; (try dsimp only at hSw); go_simp); all_goals with_reducible rfl
                try go_frame
                refine tks (oi := ⟨_, _, _, _, _, _⟩) (v := ?_) 42 rfl (.inl ⟨by rfl, ?_⟩) ?_; rotate_left
                · (intro wS hSw; (try dsimp only at hSw); go_simp); all_goals with_reducible rfl
                try go_frame
                refine tks (oi := ⟨_, _, _, _, _, _⟩) (v := ?_) 43 rfl (.inl ⟨by rfl, ?_⟩) ?_; rotate_left
                · (intro wS hSw; (try dsimp only at hSw); go_simp); all_goals with_reducible rfl
                try go_frame
                refine tks (oi := ⟨_, _, _, _, _, _⟩) (v := ?_) 44 rfl (.inl ⟨by rfl, ?_⟩) ?_; rotate_left
                · (intro wS hSw; (try dsimp only at hSw); go_simp); all_goals with_reducible rfl
                try go_frame
                refine tks (oi := ⟨_, _, _, _, _, _⟩) (v := ?_) 45 rfl (.inl ⟨by rfl, ?_⟩) ?_; rotate_left
                · (intro wS hSw; (try dsimp only at hSw); go_simp); all_goals with_reducible rfl
                try go_frame
                refine tks (oi := ⟨_, _, _, _, _, _⟩) (v := ?_) 46 rfl (.inl ⟨by rfl, ?_⟩) ?_; rotate_left
                · (intro wS hSw; (try dsimp only at hSw); go_simp); all_goals with_reducible rfl
                try go_frame
                refine tks (oi := ⟨_, _, _, _, _, _⟩) (v := ?_) 47 rfl (.inl ⟨by rfl, ?_⟩) ?_; rotate_left
                · (intro wS hSw; (try dsimp only at hSw); go_simp); all_goals with_reducible rfl
                try go_frame
                refine tks (oi := ⟨_, _, _, _, _, _⟩) (v := ?_) 48 rfl (.inl ⟨by rfl, ?_⟩) ?_; rotate_left
                · (intro wS hSw; (try dsimp only at hSw); go_simp); all_goals with_reducible rfl
                try go_frame
                refine tks (oi := ⟨_, _, _, _, _, _⟩) (v := ?_) 49 rfl (.inl ⟨by rfl, ?_⟩) ?_; rotate_left
                · (intro wS hSw; (try dsimp only at hSw); go_simp); all_goals with_reducible rfl
                try go_frame
                refine tks (oi := ⟨_, _, _, _, _, _⟩) (v := ?_) 50 rfl (.inl ⟨by rfl, ?_⟩) ?_; rotate_left
                · (intro wS hSw; (try dsimp only at hSw); go_simp); all_goals with_reducible rfl
                try go_frame
                refine tks (oi := ⟨_, _, _, _, _, _⟩) (v := undef) 51 rfl (.inr ⟨by rfl, rfl⟩) ?_
                try go_frame
                refine tks (oi := ⟨_, _, _, _, _, _⟩) (v := undef) 52 rfl (.inr ⟨by rfl, rfl⟩) ?_
                try go_frame
                refine tks (oi := ⟨_, _, _, _, _, _⟩) (v := undef) 53 rfl (.inr ⟨by rfl, rfl⟩) ?_
                try go_frame
                refine tks (oi := ⟨_, _, _, _, _, _⟩) (v := undef) 54 rfl (.inr ⟨by rfl, rfl⟩) ?_
                try go_frame
                refine tks (oi := ⟨_, _, _, _, _, _⟩) (v := undef) 55 rfl (.inr ⟨by rfl, rfl⟩) ?_
                try go_frame
                refine tks (oi := ⟨_, _, _, _, _, _⟩) (v := undef) 56 rfl (.inr ⟨by rfl, rfl⟩) ?_
                try go_frame
                refine tks (oi := ⟨_, _, _, _, _, _⟩) (v := undef) 57 rfl (.inr ⟨by rfl, rfl⟩) ?_
                try go_frame
                refine tks (oi := ⟨_, _, _, _, _, _⟩) (v := undef) 58 rfl (.inr ⟨by rfl, rfl⟩) ?_
                try go_frame
                refine tks (oi := ⟨_, _, _, _, _, _⟩) (v := undef) 59 rfl (.inr ⟨by rfl, rfl⟩) ?_
                try go_frame
                refine tks (oi := ⟨_, _, _, _, _, _⟩) (v := undef) 60 rfl (.inr ⟨by rfl, rfl⟩) ?_
                try go_frame
                refine tks (oi := ⟨_, _, _, _, _, _⟩) (v := undef) 61 rfl (.inr ⟨by rfl, rfl⟩) ?_
                try go_frame
                refine tks (oi := ⟨_, _, _, _, _, _⟩) (v := undef) 62 rfl (.inr ⟨by rfl, rfl⟩) ?_
                try go_frame
                refine tks (oi := ⟨_, _, _, _, _, _⟩) (v := ?_) 63 rfl (.inl ⟨by rfl, ?_⟩) ?_; rotate_left
                · (intro wS hSw; (try dsimp only at hSw); go_simp); all_goals with_reducible rfl
                try go_frame
                refine wpAnyH_done (by kernel_rfl) ?_ _
                clear hHeld
                go_wp2_with fail
                go_ret
                exact ⟨by rw [HIN.out]; rfl, hbel.drew⟩
            · skip
              have HIN : Hid (R = false) := by
                show _ = _
                rw [← hin']
                simp only [decide_eq_false_iff_not]
                intro h
                exact e3 (HDE.out.1 h).1.2.2.1
              have f3 : (x.name == y.name) = false := by simp [e3]
              clear e1 e2 e3
              clear hin' hin
              go_wp2_with fail
              refine wp_region_held_drew (S := fun w' => w'.cell? (ad.add (k * 5)) = some (.int .i64 x.level) ∧ w'.cell? ⟨(ad.add (k * 5)).block, (ad.add (k * 5)).off + 1, none⟩ = some (.int .i64 x.kind) ∧ w'.cell? ⟨(ad.add (k * 5)).block, (ad.add (k * 5)).off + 2, none⟩ = some (.string ⟨x.name.toArray⟩) ∧ w'.cell? ⟨(ad.add (k * 5)).block, (ad.add (k * 5)).off + 3, none⟩ = some (.string ⟨x.text.toArray⟩) ∧ w'.cell? ⟨(ad.add (k * 5)).block, (ad.add (k * 5)).off + 4, none⟩ = some (.slice A' x.attrs.length c') ∧ w'.cell? (bd.add (k * 5)) = some (.int .i64 y.level) ∧ w'.cell? ⟨(bd.add (k * 5)).block, (bd.add (k * 5)).off + 1, none⟩ = some (.int .i64 y.kind) ∧ w'.cell? ⟨(bd.add (k * 5)).block, (bd.add (k * 5)).off + 2, none⟩ = some (.string ⟨y.name.toArray⟩) ∧ w'.cell? ⟨(bd.add (k * 5)).block, (bd.add (k * 5)).off + 3, none⟩ = some (.string ⟨y.text.toArray⟩) ∧ w'.cell? ⟨(bd.add (k * 5)).block, (bd.add (k * 5)).off + 4, none⟩ = some (.slice B' y.attrs.length d')) (by kernel_rfl) HTW.out (fun hHeld => ?_)
              refine tks (oi := ⟨_, _, _, _, _, _⟩) (v := ?_) 0 rfl (.inl ⟨by rfl, ?_⟩) ?_; rotate_left
              · (intro wS hSw; (try dsimp only at hSw); go_simp); all_goals with_reducible rfl
              try go_frame
              refine tks (oi := ⟨_, _, _, _, _, _⟩) (v := ?_) 1 rfl (.inl ⟨by rfl, ?_⟩) ?_; rotate_left
              · (intro wS hSw; (try dsimp only at hSw); go_simp); all_goals with_reducible rfl
              try go_frame
              refine tks (oi := ⟨_, _, _, _, _, _⟩) (v := ?_) 2 rfl (.inl ⟨by rfl, ?_⟩) ?_; rotate_left
              · (intro wS hSw; (try dsimp only at hSw); go_simp); all_goals with_reducible rfl
              try go_frame
              refine tks (oi := ⟨_, _, _, _, _, _⟩) (v := ?_) 3 rfl (.inl ⟨by rfl, ?_⟩) ?_; rotate_left
              · (intro wS hSw; (try dsimp only at hSw); go_simp); all_goals with_reducible rfl
              try go_frame
              refine tks (oi := ⟨_, _, _, _, _, _⟩) (v := ?_) 4 rfl (.inl ⟨by rfl, ?_⟩) ?_; rotate_left
              · (intro wS hSw; (try dsimp only at hSw); go_simp); all_goals with_reducible rfl
              try go_frame
              refine tks (oi := ⟨_, _, _, _, _, _⟩) (v := ?_) 5 rfl (.inl ⟨by rfl, ?_⟩) ?_; rotate_left
              · (intro wS hSw; (try dsimp only at hSw); go_simp); all_goals with_reducible rfl
              try go_frame
              refine tks (oi := ⟨_, _, _, _, _, _⟩) (v := ?_) 6 rfl (.inl ⟨by rfl, ?_⟩) ?_; rotate_left
              · (intro wS hSw; (try dsimp only at hSw); go_simp); all_goals with_reducible rfl
              try go_frame
              refine tks (oi := ⟨_, _, _, _, _, _⟩) (v := ?_) 7 rfl (.inl ⟨by rfl, ?_⟩) ?_; rotate_left
              · (intro wS hSw; (try dsimp only at hSw); go_simp); all_goals with_reducible rfl
              try go_frame
              refine tks (oi := ⟨_, _, _, _, _, _⟩) (v := ?_) 8 rfl (.inl ⟨by rfl, ?_⟩) ?_; rotate_left
              · (intro wS hSw; (try dsimp only at hSw); go_simp); all_goals with_reducible rfl
              try go_frame
              refine tks (oi := ⟨_, _, _, _, _, _⟩) (v := ?_) 9 rfl (.inl ⟨by rfl, ?_⟩) ?_; rotate_left
              · (intro wS hSw; (try dsimp only at hSw); go_simp); all_goals with_reducible rfl
              try go_frame
              refine tks (oi := ⟨_, _, _, _, _, _⟩) (v := ?_) 10 rfl (.inl ⟨by rfl, ?_⟩) ?_; rotate_left
              · (intro wS hSw; (try dsimp only at hSw); go_simp); all_goals with_reducible rfl
              try go_frame
              refine tks (oi := ⟨_, _, _, _, _, _⟩) (v := ?_) 11 rfl (.inl ⟨by rfl, ?_⟩) ?_; rotate_left
              · (intro wS hSw; (try dsimp only at hSw); go_simp); all_goals with_reducible rfl
              try go_frame
              refine tks (oi := ⟨_, _, _, _, _, _⟩) (v := ?_) 12 rfl (.inl ⟨by rfl, ?_⟩) ?_; rotate_left
              · (intro wS hSw; (try dsimp only at hSw); go_simp); all_goals with_reducible rfl
              try go_frame
              refine tks (oi := ⟨_, _, _, _, _, _⟩) (v := ?_) 13 rfl (.inl ⟨by rfl, ?_⟩) ?_; rotate_left
              · (intro wS hSw; (try dsimp only at hSw); go_simp); all_goals with_reducible rfl
              try go_frame
              refine tks (oi := ⟨_, _, _, _, _, _⟩) (v := ?_) 14 rfl (.inl ⟨by rfl, ?_⟩) ?_; rotate_left
              · (intro wS hSw; (try dsimp only at hSw); go_simp); all_goals with_reducible rfl
              try go_frame
              refine tks (oi := ⟨_, _, _, _, _, _⟩) (v := ?_) 15 rfl (.inl ⟨by rfl, ?_⟩) ?_; rotate_left
              · (intro wS hSw; (try dsimp only at hSw); go_simp); all_goals with_reducible rfl
              try go_frame
              refine tks (oi := ⟨_, _, _, _, _, _⟩) (v := ?_) 16 rfl (.inl ⟨by rfl, ?_⟩) ?_; rotate_left
              · (intro wS hSw; (try dsimp only at hSw); go_simp); all_goals with_reducible rfl
              try go_frame
              refine tks (oi := ⟨_, _, _, _, _, _⟩) (v := ?_) 17 rfl (.inl ⟨by rfl, ?_⟩) ?_; rotate_left
              · (intro wS hSw; (try dsimp only at hSw); go_simp); all_goals with_reducible rfl
              try go_frame
              refine tks (oi := ⟨_, _, _, _, _, _⟩) (v := ?_) 18 rfl (.inl ⟨by rfl, ?_⟩) ?_; rotate_left
              · (intro wS hSw; (try dsimp only at hSw); go_simp); all_goals with_reducible rfl
              try go_frame
              refine tks (oi := ⟨_, _, _, _, _, _⟩) (v := ?_) 19 rfl (.inl ⟨by rfl, ?_⟩) ?_; rotate_left
              · (intro wS hSw; (try dsimp only at hSw); go_simp); all_goals with_reducible rfl
              try go_frame
              refine tks (oi := ⟨_, _, _, _, _, _⟩) (v := ?_) 20 rfl (.inl ⟨by rfl, ?_⟩) ?_; rotate_left
              · (intro wS hSw; (try dsimp only at hSw); go_simp); all_goals with_reducible rfl
              try go_frame
              refine tks (oi := ⟨_, _, _, _, _, _⟩) (v := ?_) 21 rfl (.inl ⟨by rfl, ?_⟩) ?_; rotate_left
              · (intro wS hSw; (try dsimp only at hSw); go_simp); all_goals with_reducible rfl
              try go_frame
              refine tks (oi := ⟨_, _, _, _, _, _⟩) (v := ?_) 22 rfl (.inl ⟨by rfl, ?_⟩) ?_; rotate_left
              · (intro wS hSw; (try dsimp only at hSw); go_simp); all_goals with_reducible rfl
              try go_frame
              refine tks (oi := ⟨_, _, _, _, _, _⟩) (v := ?_) 23 rfl (.inl ⟨by rfl, ?_⟩) ?_; rotate_left
              · (intro wS hSw; (try dsimp only at hSw); go_simp); all_goals with_reducible rfl
              try go_frame
              refine tks (oi := ⟨_, _, _, _, _, _⟩) (v := ?_) 24 rfl (.inl ⟨by rfl, ?_⟩) ?_; rotate_left
              · (intro wS hSw; (try dsimp only at hSw); go_simp); all_goals with_reducible rfl
              try go_frame
              refine tks (oi := ⟨_, _, _, _, _, _⟩) (v := ?_) 25 rfl (.inl ⟨by rfl, ?_⟩) ?_; rotate_left
              · (intro wS hSw; (try dsimp only at hSw); go_simp); all_goals with_reducible rfl
              try go_frame
              refine tks (oi := ⟨_, _, _, _, _, _⟩) (v := ?_) 26 rfl (.inl ⟨by rfl, ?_⟩) ?_; rotate_left
              · (intro wS hSw; (try dsimp only at hSw); go_simp); all_goals with_reducible rfl
              try go_frame
              refine tks (oi := ⟨_, _, _, _, _, _⟩) (v := ?_) 27 rfl (.inl ⟨by rfl, ?_⟩) ?_; rotate_left
              · (intro wS hSw; (try dsimp only at hSw); go_simp); all_goals with_reducible rfl
              try go_frame
              refine tks (oi := ⟨_, _, _, _, _, _⟩) (v := ?_) 28 rfl (.inl ⟨by rfl, ?_⟩) ?_; rotate_left
              · (intro wS hSw; (try dsimp only at hSw); go_simp); all_goals with_reducible rfl
              try go_frame
              refine tks (oi := ⟨_, _, _, _, _, _⟩) (v := ?_) 29 rfl (.inl ⟨by rfl, ?_⟩) ?_; rotate_left
              · (intro wS hSw; (try dsimp only at hSw); go_simp); all_goals with_reducible rfl
              try go_frame
              refine tks (oi := ⟨_, _, _, _, _, _⟩) (v := ?_) 30 rfl (.inl ⟨by rfl, ?_⟩) ?_; rotate_left
              · (intro wS hSw; (try dsimp only at hSw); go_simp); all_goals with_reducible rfl
              try go_frame
              refine tks (oi := ⟨_, _, _, _, _, _⟩) (v := ?_) 31 rfl (.inl ⟨by rfl, ?_⟩) ?_; rotate_left
              · (intro wS hSw; (try dsimp only at hSw); go_simp); all_goals with_reducible rfl
              try go_frame
              refine tks (oi := ⟨_, _, _, _, _, _⟩) (v := ?_) 32 rfl (.inl ⟨by rfl, ?_⟩) ?_; rotate_left
              · (intro wS hSw; (try dsimp only at hSw); go_simp); all_goals with_reducible rfl
              try go_frame
              refine tks (oi := ⟨_, _, _, _, _, _⟩) (v := ?_) 33 rfl (.inl ⟨by rfl, ?_⟩) ?_; rotate_left
              · (intro wS hSw; (try dsimp only at hSw); go_simp); all_goals with_reducible rfl
              try go_frame
              refine tks (oi := ⟨_, _, _, _, _, _⟩) (v := ?_) 34 rfl (.inl ⟨by rfl, ?_⟩) ?_; rotate_left
              · (intro wS hSw; (try dsimp only at hSw); go_simp); all_goals with_reducible rfl
              try go_frame
              refine tks (oi := ⟨_, _, _, _, _, _⟩) (v := ?_) 35 rfl (.inl ⟨by rfl, ?_⟩) ?_; rotate_left
              · (intro wS hSw; (try dsimp only at hSw); go_simp); all_goals with_reducible rfl
              try go_frame
              refine tks (oi := ⟨_, _, _, _, _, _⟩) (v := ?_) 36 rfl (.inl ⟨by rfl, ?_⟩) ?_; rotate_left
              · (intro wS hSw; (try dsimp only at hSw); go_simp); all_goals with_reducible rfl
              try go_frame
              refine tks (oi := ⟨_, _, _, _, _, _⟩) (v := ?_) 37 rfl (.inl ⟨by rfl, ?_⟩) ?_; rotate_left
              · (intro wS hSw; (try dsimp only at hSw); go_simp); all_goals with_reducible rfl
              try go_frame
              refine tks (oi := ⟨_, _, _, _, _, _⟩) (v := undef) 38 rfl (.inr ⟨by rfl, rfl⟩) ?_
              try go_frame
              refine tks (oi := ⟨_, _, _, _, _, _⟩) (v := undef) 39 rfl (.inr ⟨by rfl, rfl⟩) ?_
              try go_frame
              refine tks (oi := ⟨_, _, _, _, _, _⟩) (v := undef) 40 rfl (.inr ⟨by rfl, rfl⟩) ?_
              try go_frame
              refine tks (oi := ⟨_, _, _, _, _, _⟩) (v := undef) 41 rfl (.inr ⟨by rfl, rfl⟩) ?_
              try go_frame
              refine tks (oi := ⟨_, _, _, _, _, _⟩) (v := undef) 42 rfl (.inr ⟨by rfl, rfl⟩) ?_
              try go_frame
              refine tks (oi := ⟨_, _, _, _, _, _⟩) (v := undef) 43 rfl (.inr ⟨by rfl, rfl⟩) ?_
              try go_frame
              refine tks (oi := ⟨_, _, _, _, _, _⟩) (v := undef) 44 rfl (.inr ⟨by rfl, rfl⟩) ?_
              try go_frame
              refine tks (oi := ⟨_, _, _, _, _, _⟩) (v := undef) 45 rfl (.inr ⟨by rfl, rfl⟩) ?_
              try go_frame
              refine tks (oi := ⟨_, _, _, _, _, _⟩) (v := undef) 46 rfl (.inr ⟨by rfl, rfl⟩) ?_
              try go_frame
              refine tks (oi := ⟨_, _, _, _, _, _⟩) (v := undef) 47 rfl (.inr ⟨by rfl, rfl⟩) ?_
              try go_frame
              refine tks (oi := ⟨_, _, _, _, _, _⟩) (v := undef) 48 rfl (.inr ⟨by rfl, rfl⟩) ?_
              try go_frame
              refine tks (oi := ⟨_, _, _, _, _, _⟩) (v := ?_) 49 rfl (.inl ⟨by rfl, ?_⟩) ?_; rotate_left
              · (intro wS hSw; (try dsimp only at hSw); go_simp); all_goals with_reducible rfl
              try go_frame
              refine tks (oi := ⟨_, _, _, _, _, _⟩) (v := ?_) 50 rfl (.inl ⟨by rfl, ?_⟩) ?_; rotate_left
              · (intro wS hSw; (try dsimp only at hSw); go_simp); all_goals with_reducible rfl
              try go_frame
              refine tks (oi := ⟨_, _, _, _, _, _⟩) (v := undef) 51 rfl (.inr ⟨by rfl, rfl⟩) ?_
              try go_frame
              refine tks (oi := ⟨_, _, _, _, _, _⟩) (v := undef) 52 rfl (.inr ⟨by rfl, rfl⟩) ?_
              try go_frame
              refine tks (oi := ⟨_, _, _, _, _, _⟩) (v := undef) 53 rfl (.inr ⟨by rfl, rfl⟩) ?_
              try go_frame
              refine tks (oi := ⟨_, _, _, _, _, _⟩) (v := undef) 54 rfl (.inr ⟨by rfl, rfl⟩) ?_
              try go_frame
              refine tks (oi := ⟨_, _, _, _, _, _⟩) (v := undef) 55 rfl (.inr ⟨by rfl, rfl⟩) ?_
              try go_frame
              refine tks (oi := ⟨_, _, _, _, _, _⟩) (v := undef) 56 rfl (.inr ⟨by rfl, rfl⟩) ?_
              try go_frame
              refine tks (oi := ⟨_, _, _, _, _, _⟩) (v := undef) 57 rfl (.inr ⟨by rfl, rfl⟩) ?_
              try go_frame
              refine tks (oi := ⟨_, _, _, _, _, _⟩) (v := undef) 58 rfl (.inr ⟨by rfl, rfl⟩) ?_
              try go_frame
              refine tks (oi := ⟨_, _, _, _, _, _⟩) (v := undef) 59 rfl (.inr ⟨by rfl, rfl⟩) ?_
              try go_frame
              refine tks (oi := ⟨_, _, _, _, _, _⟩) (v := undef) 60 rfl (.inr ⟨by rfl, rfl⟩) ?_
              try go_frame
              refine tks (oi := ⟨_, _, _, _, _, _⟩) (v := undef) 61 rfl (.inr ⟨by rfl, rfl⟩) ?_
              try go_frame
              refine tks (oi := ⟨_, _, _, _, _, _⟩) (v := undef) 62 rfl (.inr ⟨by rfl, rfl⟩) ?_
              try go_frame
              refine tks (oi := ⟨_, _, _, _, _, _⟩) (v := ?_) 63 rfl (.inl ⟨by rfl, ?_⟩) ?_; rotate_left
              · (intro wS hSw; (try dsimp only at hSw); go_simp); all_goals with_reducible rfl
              try go_frame
              refine wpAnyH_done (by kernel_rfl) ?_ _
              clear hHeld
              go_wp2_with fail
              go_ret
              exact ⟨by rw [HIN.out]; rfl, hbel.drew⟩
          · skip
            have HIN : Hid (R = false) := by
              show _ = _
              rw [← hin']
              simp only [decide_eq_false_iff_not]
              intro h
              exact e2 (HDE.out.1 h).1.2.1
            have f2 : (x.kind != y.kind) = true := by simp [e2]
            clear e1 e2
            clear hin' hin
            go_wp2_with fail
            refine wp_region_held_drew (S := fun w' => w'.cell? (ad.add (k * 5)) = some (.int .i64 x.level) ∧ w'.cell? ⟨(ad.add (k * 5)).block, (ad.add (k * 5)).off + 1, none⟩ = some (.int .i64 x.kind) ∧ w'.cell? ⟨(ad.add (k * 5)).block, (ad.add (k * 5)).off + 2, none⟩ = some (.string ⟨x.name.toArray⟩) ∧ w'.cell? ⟨(ad.add (k * 5)).block, (ad.add (k * 5)).off + 3, none⟩ = some (.string ⟨x.text.toArray⟩) ∧ w'.cell? ⟨(ad.add (k * 5)).block, (ad.add (k * 5)).off + 4, none⟩ = some (.slice A' x.attrs.length c') ∧ w'.cell? (bd.add (k * 5)) = some (.int .i64 y.level) ∧ w'.cell? ⟨(bd.add (k * 5)).block, (bd.add (k * 5)).off + 1, none⟩ = some (.int .i64 y.kind) ∧ w'.cell? ⟨(bd.add (k * 5)).block, (bd.add (k * 5)).off + 2, none⟩ = some (.string ⟨y.name.toArray⟩) ∧ w'.cell? ⟨(bd.add (k * 5)).block, (bd.add (k * 5)).off + 3, none⟩ = some (.string ⟨y.text.toArray⟩) ∧ w'.cell? ⟨(bd.add (k * 5)).block, (bd.add (k * 5)).off + 4, none⟩ = some (.slice B' y.attrs.length d')) (by kernel_rfl) HTW.out (fun hHeld => ?_)
            refine tks (oi := ⟨_, _, _, _, _, _⟩) (v := ?_) 0 rfl (.inl ⟨by rfl, ?_⟩) ?_; rotate_left
            · (intro wS hSw; (try dsimp only at hSw); go_simp); all_goals with_reducible rfl
            try go_frame
            refine tks (oi := ⟨_, _, _, _, _, _⟩) (v := ?_) 1 rfl (.inl ⟨by rfl, ?_⟩) ?_; rotate_left
            · (intro wS hSw; (try dsimp only at hSw); go_simp); all_goals with_reducible rfl
            try go_frame
            refine tks (oi := ⟨_, _, _, _, _, _⟩) (v := ?_) 2 rfl (.inl ⟨by rfl, ?_⟩) ?_; rotate_left
            · (intro wS hSw; (try dsimp only at hSw); go_simp); all_goals with_reducible rfl
            try go_frame
            refine tks (oi := ⟨_, _, _, _, _, _⟩) (v := ?_) 3 rfl (.inl ⟨by rfl, ?_⟩) ?_; rotate_left
            · (intro wS hSw; (try dsimp only at hSw); go_simp); all_goals with_reducible rfl
            try go_frame
            refine tks (oi := ⟨_, _, _, _, _, _⟩) (v := ?_) 4 rfl (.inl ⟨by rfl, ?_⟩) ?_; rotate_left
            · (intro wS hSw; (try dsimp only at hSw); go_simp); all_goals with_reducible rfl
            try go_frame
            refine tks (oi := ⟨_, _, _, _, _, _⟩) (v := ?_) 5 rfl (.inl ⟨by rfl, ?_⟩) ?_; rotate_left
            · (intro wS hSw; (try dsimp only at hSw); go_simp); all_goals with_reducible rfl
            try go_frame
            refine tks (oi := ⟨_, _, _, _, _, _⟩) (v := ?_) 6 rfl (.inl ⟨by rfl, ?_⟩) ?_; rotate_left
            · (intro wS hSw; (try dsimp only at hSw); go_simp); all_goals with_reducible rfl
            try go_frame
            refine tks (oi := ⟨_, _, _, _, _, _⟩) (v := ?_) 7 rfl (.inl ⟨by rfl, ?_⟩) ?_; rotate_left
            · (intro wS hSw; (try dsimp only at hSw); go_simp); all_goals with_reducible rfl
            try go_frame
            refine tks (oi := ⟨_, _, _, _, _, _⟩) (v := ?_) 8 rfl (.inl ⟨by rfl, ?_⟩) ?_; rotate_left
            · (intro wS hSw; (try dsimp only at hSw); go_simp); all_goals with_reducible rfl
            try go_frame
            refine tks (oi := ⟨_, _, _, _, _, _⟩) (v := ?_) 9 rfl (.inl ⟨by rfl, ?_⟩) ?_; rotate_left
            · (intro wS hSw; (try dsimp only at hSw); go_simp); all_goals with_reducible rfl
            try go_frame
            refine tks (oi := ⟨_, _, _, _, _, _⟩) (v := ?_) 10 rfl (.inl ⟨by rfl, ?_⟩) ?_; rotate_left
            · (intro wS hSw; (try dsimp only at hSw); go_simp); all_goals with_reducible rfl
            try go_frame
            refine tks (oi := ⟨_, _, _, _, _, _⟩) (v := ?_) 11 rfl (.inl ⟨by rfl, ?_⟩) ?_; rotate_left
            · (intro wS hSw; (try dsimp only at hSw); go_simp); all_goals with_reducible rfl
            try go_frame
            refine tks (oi := ⟨_, _, _, _, _, _⟩) (v := ?_) 12 rfl (.inl ⟨by rfl, ?_⟩) ?_; rotate_left
            · (intro wS hSw; (try dsimp only at hSw); go_simp); all_goals with_reducible rfl
            try go_frame
            refine tks (oi := ⟨_, _, _, _, _, _⟩) (v := ?_) 13 rfl (.inl ⟨by rfl, ?_⟩) ?_; rotate_left
            · (intro wS hSw; (try dsimp only at hSw); go_simp); all_goals with_reducible rfl
            try go_frame
            refine tks (oi := ⟨_, _, _, _, _, _⟩) (v := ?_) 14 rfl (.inl ⟨by rfl, ?_⟩) ?_; rotate_left
            · (intro wS hSw; (try dsimp only at hSw); go_simp); all_goals with_reducible rfl
            try go_frame
            refine tks (oi := ⟨_, _, _, _, _, _⟩) (v := ?_) 15 rfl (.inl ⟨by rfl, ?_⟩) ?_; rotate_left
            · (intro wS hSw; (try dsimp only at hSw); go_simp); all_goals with_reducible rfl
            try go_frame
            refine tks (oi := ⟨_, _, _, _, _, _⟩) (v := ?_) 16 rfl (.inl ⟨by rfl, ?_⟩) ?_; rotate_left
            · (intro wS hSw; (try dsimp only at hSw); go_simp); all_goals with_reducible rfl
            try go_frame
            refine tks (oi := ⟨_, _, _, _, _, _⟩) (v := ?_) 17 rfl (.inl ⟨by rfl, ?_⟩) ?_; rotate_left
            · (intro wS hSw; (try dsimp only at hSw); go_simp); all_goals with_reducible rfl
            try go_frame
            refine tks (oi := ⟨_, _, _, _, _, _⟩) (v := ?_) 18 rfl (.inl ⟨by rfl, ?_⟩) ?_; rotate_left
            · (intro wS hSw; (try dsimp only at hSw); go_simp); all_goals with_reducible rfl
            try go_frame
            refine tks (oi := ⟨_, _, _, _, _, _⟩) (v := ?_) 19 rfl (.inl ⟨by rfl, ?_⟩) ?_; rotate_left
            · (intro wS hSw; (try dsimp only at hSw); go_simp); all_goals with_reducible rfl
            try go_frame
            refine tks (oi := ⟨_, _, _, _, _, _⟩) (v := ?_) 20 rfl (.inl ⟨by rfl, ?_⟩) ?_; rotate_left
            · (intro wS hSw; (try dsimp only at hSw); go_simp); all_goals with_reducible rfl
            try go_frame
            refine tks (oi := ⟨_, _, _, _, _, _⟩) (v := ?_) 21 rfl (.inl ⟨by rfl, ?_⟩) ?_; rotate_left
            · (intro wS hSw; (try dsimp only at hSw); go_simp); all_goals with_reducible rfl
            try go_frame
            refine tks (oi := ⟨_, _, _, _, _, _⟩) (v := ?_) 22 rfl (.inl ⟨by rfl, ?_⟩) ?_; rotate_left
            · (intro wS hSw; (try dsimp only at hSw); go_simp); all_goals with_reducible rfl
            try go_frame
            refine tks (oi := ⟨_, _, _, _, _, _⟩) (v := ?_) 23 rfl (.inl ⟨by rfl, ?_⟩) ?_; rotate_left
            · (intro wS hSw; (try dsimp only at hSw); go_simp); all_goals with_reducible rfl
            try go_frame
            refine tks (oi := ⟨_, _, _, _, _, _⟩) (v := ?_) 24 rfl (.inl ⟨by rfl, ?_⟩) ?_; rotate_left
            · (intro wS hSw; (try dsimp only at hSw); go_simp); all_goals with_reducible rfl
            try go_frame
            refine tks (oi := ⟨_, _, _, _, _, _⟩) (v := undef) 25 rfl (.inr ⟨by rfl, rfl⟩) ?_
            try go_frame
            refine tks (oi := ⟨_, _, _, _, _, _⟩) (v := undef) 26 rfl (.inr ⟨by rfl, rfl⟩) ?_
            try go_frame
            refine tks (oi := ⟨_, _, _, _, _, _⟩) (v := undef) 27 rfl (.inr ⟨by rfl, rfl⟩) ?_
            try go_frame
            refine tks (oi := ⟨_, _, _, _, _, _⟩) (v := undef) 28 rfl (.inr ⟨by rfl, rfl⟩) ?_
            try go_frame
            refine tks (oi := ⟨_, _, _, _, _, _⟩) (v := undef) 29 rfl (.inr ⟨by rfl, rfl⟩) ?_
            try go_frame
            refine tks (oi := ⟨_, _, _, _, _, _⟩) (v := undef) 30 rfl (.inr ⟨by rfl, rfl⟩) ?_
            try go_frame
            refine tks (oi := ⟨_, _, _, _, _, _⟩) (v := undef) 31 rfl (.inr ⟨by rfl, rfl⟩) ?_
            try go_frame
            refine tks (oi := ⟨_, _, _, _, _, _⟩) (v := undef) 32 rfl (.inr ⟨by rfl, rfl⟩) ?_
            try go_frame
            refine tks (oi := ⟨_, _, _, _, _, _⟩) (v := undef) 33 rfl (.inr ⟨by rfl, rfl⟩) ?_
            try go_frame
            refine tks (oi := ⟨_, _, _, _, _, _⟩) (v := undef) 34 rfl (.inr ⟨by rfl, rfl⟩) ?_
            try go_frame
            refine tks (oi := ⟨_, _, _, _, _, _⟩) (v := undef) 35 rfl (.inr ⟨by rfl, rfl⟩) ?_
            try go_frame
            refine tks (oi := ⟨_, _, _, _, _, _⟩) (v := ?_) 36 rfl (.inl ⟨by rfl, ?_⟩) ?_; rotate_left
            · (intro wS hSw; (try dsimp only at hSw); go_simp); all_goals with_reducible rfl
            try go_frame
            refine tks (oi := ⟨_, _, _, _, _, _⟩) (v := ?_) 37 rfl (.inl ⟨by rfl, ?_⟩) ?_; rotate_left
            · (intro wS hSw; (try dsimp only at hSw); go_simp); all_goals with_reducible rfl
            try go_frame
            refine tks (oi := ⟨_, _, _, _, _, _⟩) (v := undef) 38 rfl (.inr ⟨by rfl, rfl⟩) ?_
            try go_frame
            refine tks (oi := ⟨_, _, _, _, _, _⟩) (v := undef) 39 rfl (.inr ⟨by rfl, rfl⟩) ?_
            try go_frame
            refine tks (oi := ⟨_, _, _, _, _, _⟩) (v := undef) 40 rfl (.inr ⟨by rfl, rfl⟩) ?_
            try go_frame
            refine tks (oi := ⟨_, _, _, _, _, _⟩) (v := undef) 41 rfl (.inr ⟨by rfl, rfl⟩) ?_
            try go_frame
            refine tks (oi := ⟨_, _, _, _, _, _⟩) (v := undef) 42 rfl (.inr ⟨by rfl, rfl⟩) ?_
            try go_frame
            refine tks (oi := ⟨_, _, _, _, _, _⟩) (v := undef) 43 rfl (.inr ⟨by rfl, rfl⟩) ?_
            try go_frame
            refine tks (oi := ⟨_, _, _, _, _, _⟩) (v := undef) 44 rfl (.inr ⟨by rfl, rfl⟩) ?_
            try go_frame
            refine tks (oi := ⟨_, _, _, _, _, _⟩) (v := undef) 45 rfl (.inr ⟨by rfl, rfl⟩) ?_
            try go_frame
            refine tks (oi := ⟨_, _, _, _, _, _⟩) (v := undef) 46 rfl (.inr ⟨by rfl, rfl⟩) ?_
            try go_frame
            refine tks (oi := ⟨_, _, _, _, _, _⟩) (v := undef) 47 rfl (.inr ⟨by rfl, rfl⟩) ?_
            try go_frame
            refine tks (oi := ⟨_, _, _, _, _, _⟩) (v := undef) 48 rfl (.inr ⟨by rfl, rfl⟩) ?_
            try go_frame
            refine tks (oi := ⟨_, _, _, _, _, _⟩) (v := ?_) 49 rfl (.inl ⟨by rfl, ?_⟩) ?_; rotate_left
            · (intro wS hSw; (try dsimp only at hSw); go_simp); all_goals with_reducible rfl
            try go_frame
            refine tks (oi := ⟨_, _, _, _, _, _⟩) (v := ?_) 50 rfl (.inl ⟨by rfl, ?_⟩) ?_; rotate_left
            · (intro wS hSw; (try dsimp only at hSw); go_simp); all_goals with_reducible rfl
            try go_frame
            refine tks (oi := ⟨_, _, _, _, _, _⟩) (v := undef) 51 rfl (.inr ⟨by rfl, rfl⟩) ?_
            try go_frame
            refine tks (oi := ⟨_, _, _, _, _, _⟩) (v := undef) 52 rfl (.inr ⟨by rfl, rfl⟩) ?_
            try go_frame
            refine tks (oi := ⟨_, _, _, _, _, _⟩) (v := undef) 53 rfl (.inr ⟨by rfl, rfl⟩) ?_
            try go_frame
            refine tks (oi := ⟨_, _, _, _, _, _⟩) (v := undef) 54 rfl (.inr ⟨by rfl, rfl⟩) ?_
            try go_frame
            refine tks (oi := ⟨_, _, _, _, _, _⟩) (v := undef) 55 rfl (.inr ⟨by rfl, rfl⟩) ?_
            try go_frame
            refine tks (oi := ⟨_, _, _, _, _, _⟩) (v := undef) 56 rfl (.inr ⟨by rfl, rfl⟩) ?_
            try go_frame
            refine tks (oi := ⟨_, _, _, _, _, _⟩) (v := undef) 57 rfl (.inr ⟨by rfl, rfl⟩) ?_
            try go_frame
            refine tks (oi := ⟨_, _, _, _, _, _⟩) (v := undef) 58 rfl (.inr ⟨by rfl, rfl⟩) ?_
            try go_frame
            refine tks (oi := ⟨_, _, _, _, _, _⟩) (v := undef) 59 rfl (.inr ⟨by rfl, rfl⟩) ?_
            try go_frame
            refine tks (oi := ⟨_, _, _, _, _, _⟩) (v := undef) 60 rfl (.inr ⟨by rfl, rfl⟩) ?_
            try go_frame
            refine tks (oi := ⟨_, _, _, _, _, _⟩) (v := undef) 61 rfl (.inr ⟨by rfl, rfl⟩) ?_
            try go_frame
            refine tks (oi := ⟨_, _, _, _, _, _⟩) (v := undef) 62 rfl (.inr ⟨by rfl, rfl⟩) ?_
            try go_frame
            refine tks (oi := ⟨_, _, _, _, _, _⟩) (v := ?_) 63 rfl (.inl ⟨by rfl, ?_⟩) ?_; rotate_left
            · (intro wS hSw; (try dsimp only at hSw); go_simp); all_goals with_reducible rfl
            try go_frame
            refine wpAnyH_done (by kernel_rfl) ?_ _
            clear hHeld
            go_wp2_with fail
            go_ret
            exact ⟨by rw [HIN.out]; rfl, hbel.drew⟩
        · skip
          have HIN : Hid (R = false) := by
            show _ = _
            rw [← hin']
            simp only [decide_eq_false_iff_not]
            intro h
            exact e1 (HDE.out.1 h).1.1
          have f1 : (x.level != y.level) = true := by simp [e1]
          clear e1
          clear hin' hin
          go_wp2_with fail
          refine wp_region_held_drew (S := fun w' => w'.cell? (ad.add (k * 5)) = some (.int .i64 x.level) ∧ w'.cell? ⟨(ad.add (k * 5)).block, (ad.add (k * 5)).off + 1, none⟩ = some (.int .i64 x.kind) ∧ w'.cell? ⟨(ad.add (k * 5)).block, (ad.add (k * 5)).off + 2, none⟩ = some (.string ⟨x.name.toArray⟩) ∧ w'.cell? ⟨(ad.add (k * 5)).block, (ad.add (k * 5)).off + 3, none⟩ = some (.string ⟨x.text.toArray⟩) ∧ w'.cell? ⟨(ad.add (k * 5)).block, (ad.add (k * 5)).off + 4, none⟩ = some (.slice A' x.attrs.length c') ∧ w'.cell? (bd.add (k * 5)) = some (.int .i64 y.level) ∧ w'.cell? ⟨(bd.add (k * 5)).block, (bd.add (k * 5)).off + 1, none⟩ = some (.int .i64 y.kind) ∧ w'.cell? ⟨(bd.add (k * 5)).block, (bd.add (k * 5)).off + 2, none⟩ = some (.string ⟨y.name.toArray⟩) ∧ w'.cell? ⟨(bd.add (k * 5)).block, (bd.add (k * 5)).off + 3, none⟩ = some (.string ⟨y.text.toArray⟩) ∧ w'.cell? ⟨(bd.add (k * 5)).block, (bd.add (k * 5)).off + 4, none⟩ = some (.slice B' y.attrs.length d')) (by kernel_rfl) HTW.out (fun hHeld => ?_)
          refine tks (oi := ⟨_, _, _, _, _, _⟩) (v := ?_) 0 rfl (.inl ⟨by rfl, ?_⟩) ?_; rotate_left
          · (intro wS hSw; (try dsimp only at hSw); go_simp); all_goals with_reducible rfl
          try go_frame
          refine tks (oi := ⟨_, _, _, _, _, _⟩) (v := ?_) 1 rfl (.inl ⟨by rfl, ?_⟩) ?_; rotate_left
          · (intro wS hSw; (try dsimp only at hSw); go_simp); all_goals with_reducible rfl
          try go_frame
          refine tks (oi := ⟨_, _, _, _, _, _⟩) (v := ?_) 2 rfl (.inl ⟨by rfl, ?_⟩) ?_; rotate_left
          · (intro wS hSw; (try dsimp only at hSw); go_simp); all_goals with_reducible rfl
          try go_frame
          refine tks (oi := ⟨_, _, _, _, _, _⟩) (v := ?_) 3 rfl (.inl ⟨by rfl, ?_⟩) ?_; rotate_left
          · (intro wS hSw; (try dsimp only at hSw); go_simp); all_goals with_reducible rfl
          try go_frame
          refine tks (oi := ⟨_, _, _, _, _, _⟩) (v := ?_) 4 rfl (.inl ⟨by rfl, ?_⟩) ?_; rotate_left
          · (intro wS hSw; (try dsimp only at hSw); go_simp); all_goals with_reducible rfl
          try go_frame
          refine tks (oi := ⟨_, _, _, _, _, _⟩) (v := ?_) 5 rfl (.inl ⟨by rfl, ?_⟩) ?_; rotate_left
          · (intro wS hSw; (try dsimp only at hSw); go_simp); all_goals with_reducible rfl
          try go_frame
          refine tks (oi := ⟨_, _, _, _, _, _⟩) (v := ?_) 6 rfl (.inl ⟨by rfl, ?_⟩) ?_; rotate_left
          · (intro wS hSw; (try dsimp only at hSw); go_simp); all_goals with_reducible rfl
          try go_frame
          refine tks (oi := ⟨_, _, _, _, _, _⟩) (v := ?_) 7 rfl (.inl ⟨by rfl, ?_⟩) ?_; rotate_left
          · (intro wS hSw; (try dsimp only at hSw); go_simp); all_goals with_reducible rfl
          try go_frame
          refine tks (oi := ⟨_, _, _, _, _, _⟩) (v := ?_) 8 rfl (.inl ⟨by rfl, ?_⟩) ?_; rotate_left
          · (intro wS hSw; (try dsimp only at hSw); go_simp); all_goals with_reducible rfl
          try go_frame
          refine tks (oi := ⟨_, _, _, _, _, _⟩) (v := ?_) 9 rfl (.inl ⟨by rfl, ?_⟩) ?_; rotate_left
          · (intro wS hSw; (try dsimp only at hSw); go_simp); all_goals with_reducible rfl
          try go_frame
          refine tks (oi := ⟨_, _, _, _, _, _⟩) (v := ?_) 10 rfl (.inl ⟨by rfl, ?_⟩) ?_; rotate_left
          · (intro wS hSw; (try dsimp only at hSw); go_simp); all_goals with_reducible rfl
          try go_frame
          refine tks (oi := ⟨_, _, _, _, _, _⟩) (v := ?_) 11 rfl (.inl ⟨by rfl, ?_⟩) ?_; rotate_left
          · (intro wS hSw; (try dsimp only at hSw); go_simp); all_goals with_reducible rfl
          try go_frame
          refine tks (oi := ⟨_, _, _, _, _, _⟩) (v := undef) 12 rfl (.inr ⟨by rfl, rfl⟩) ?_
          try go_frame
          refine tks (oi := ⟨_, _, _, _, _, _⟩) (v := undef) 13 rfl (.inr ⟨by rfl, rfl⟩) ?_
          try go_frame
          refine tks (oi := ⟨_, _, _, _, _, _⟩) (v := undef) 14 rfl (.inr ⟨by rfl, rfl⟩) ?_
          try go_frame
          refine tks (oi := ⟨_, _, _, _, _, _⟩) (v := undef) 15 rfl (.inr ⟨by rfl, rfl⟩) ?_
          try go_frame
          refine tks (oi := ⟨_, _, _, _, _, _⟩) (v := undef) 16 rfl (.inr ⟨by rfl, rfl⟩) ?_
          try go_frame
          refine tks (oi := ⟨_, _, _, _, _, _⟩) (v := undef) 17 rfl (.inr ⟨by rfl, rfl⟩) ?_
          try go_frame
          refine tks (oi := ⟨_, _, _, _, _, _⟩) (v := undef) 18 rfl (.inr ⟨by rfl, rfl⟩) ?_
          try go_frame
          refine tks (oi := ⟨_, _, _, _, _, _⟩) (v := undef) 19 rfl (.inr ⟨by rfl, rfl⟩) ?_
          try go_frame
          refine tks (oi := ⟨_, _, _, _, _, _⟩) (v := undef) 20 rfl (.inr ⟨by rfl, rfl⟩) ?_
          try go_frame
          refine tks (oi := ⟨_, _, _, _, _, _⟩) (v := undef) 21 rfl (.inr ⟨by rfl, rfl⟩) ?_
          try go_frame
          refine tks (oi := ⟨_, _, _, _, _, _⟩) (v := undef) 22 rfl (.inr ⟨by rfl, rfl⟩) ?_
          try go_frame
          refine tks (oi := ⟨_, _, _, _, _, _⟩) (v := ?_) 23 rfl (.inl ⟨by rfl, ?_⟩) ?_; rotate_left
          · (intro wS hSw; (try dsimp only at hSw); go_simp); all_goals with_reducible rfl
          try go_frame
          refine tks (oi := ⟨_, _, _, _, _, _⟩) (v := ?_) 24 rfl (.inl ⟨by rfl, ?_⟩) ?_; rotate_left
          · (intro wS hSw; (try dsimp only at hSw); go_simp); all_goals with_reducible rfl
          try go_frame
          refine tks (oi := ⟨_, _, _, _, _, _⟩) (v := undef) 25 rfl (.inr ⟨by rfl, rfl⟩) ?_
          try go_frame
          refine tks (oi := ⟨_, _, _, _, _, _⟩) (v := undef) 26 rfl (.inr ⟨by rfl, rfl⟩) ?_
          try go_frame
          refine tks (oi := ⟨_, _, _, _, _, _⟩) (v := undef) 27 rfl (.inr ⟨by rfl, rfl⟩) ?_
          try go_frame
          refine tks (oi := ⟨_, _, _, _, _, _⟩) (v := undef) 28 rfl (.inr ⟨by rfl, rfl⟩) ?_
          try go_frame
          refine tks (oi := ⟨_, _, _, _, _, _⟩) (v := undef) 29 rfl (.inr ⟨by rfl, rfl⟩) ?_
          try go_frame
          refine tks (oi := ⟨_, _, _, _, _, _⟩) (v := undef) 30 rfl (.inr ⟨by rfl, rfl⟩) ?_
          try go_frame
          refine tks (oi := ⟨_, _, _, _, _, _⟩) (v := undef) 31 rfl (.inr ⟨by rfl, rfl⟩) ?_
          try go_frame
          refine tks (oi := ⟨_, _, _, _, _, _⟩) (v := undef) 32 rfl (.inr ⟨by rfl, rfl⟩) ?_
          try go_frame
          refine tks (oi := ⟨_, _, _, _, _, _⟩) (v := undef) 33 rfl (.inr ⟨by rfl, rfl⟩) ?_
          try go_frame
          refine tks (oi := ⟨_, _, _, _, _, _⟩) (v := undef) 34 rfl (.inr ⟨by rfl, rfl⟩) ?_
          try go_frame
          refine tks (oi := ⟨_, _, _, _, _, _⟩) (v := undef) 35 rfl (.inr ⟨by rfl, rfl⟩) ?_
          try go_frame
          refine tks (oi := ⟨_, _, _, _, _, _⟩) (v := ?_) 36 rfl (.inl ⟨by rfl, ?_⟩) ?_; rotate_left
          · (intro wS hSw; (try dsimp only at hSw); go_simp); all_goals with_reducible rfl
          try go_frame
          refine tks (oi := ⟨_, _, _, _, _, _⟩) (v := ?_) 37 rfl (.inl ⟨by rfl, ?_⟩) ?_; rotate_left
          · (intro wS hSw; (try dsimp only at hSw); go_simp); all_goals with_reducible rfl
          try go_frame
          refine tks (oi := ⟨_, _, _, _, _, _⟩) (v := undef) 38 rfl (.inr ⟨by rfl, rfl⟩) ?_
          try go_frame
          refine tks (oi := ⟨_, _, _, _, _, _⟩) (v := undef) 39 rfl (.inr ⟨by rfl, rfl⟩) ?_
          try go_frame
          refine tks (oi := ⟨_, _, _, _, _, _⟩) (v := undef) 40 rfl (.inr ⟨by rfl, rfl⟩) ?_
          try go_frame
          refine tks (oi := ⟨_, _, _, _, _, _⟩) (v := undef) 41 rfl (.inr ⟨by rfl, rfl⟩) ?_
          try go_frame
          refine tks (oi := ⟨_, _, _, _, _, _⟩) (v := undef) 42 rfl (.inr ⟨by rfl, rfl⟩) ?_
          try go_frame
          refine tks (oi := ⟨_, _, _, _, _, _⟩) (v := undef) 43 rfl (.inr ⟨by rfl, rfl⟩) ?_
          try go_frame
          refine tks (oi := ⟨_, _, _, _, _, _⟩) (v := undef) 44 rfl (.inr ⟨by rfl, rfl⟩) ?_
          try go_frame
          refine tks (oi := ⟨_, _, _, _, _, _⟩) (v := undef) 45 rfl (.inr ⟨by rfl, rfl⟩) ?_
          try go_frame
          refine tks (oi := ⟨_, _, _, _, _, _⟩) (v := undef) 46 rfl (.inr ⟨by rfl, rfl⟩) ?_
          try go_frame
          refine tks (oi := ⟨_, _, _, _, _, _⟩) (v := undef) 47 rfl (.inr ⟨by rfl, rfl⟩) ?_
          try go_frame
          refine tks (oi := ⟨_, _, _, _, _, _⟩) (v := undef) 48 rfl (.inr ⟨by rfl, rfl⟩) ?_
          try go_frame
          refine tks (oi := ⟨_, _, _, _, _, _⟩) (v := ?_) 49 rfl (.inl ⟨by rfl, ?_⟩) ?_; rotate_left
          · (intro wS hSw; (try dsimp only at hSw); go_simp); all_goals with_reducible rfl
          try go_frame
          refine tks (oi := ⟨_, _, _, _, _, _⟩) (v := ?_) 50 rfl (.inl ⟨by rfl, ?_⟩) ?_; rotate_left
          · (intro wS hSw; (try dsimp only at hSw); go_simp); all_goals with_reducible rfl
          try go_frame
          refine tks (oi := ⟨_, _, _, _, _, _⟩) (v := undef) 51 rfl (.inr ⟨by rfl, rfl⟩) ?_
          try go_frame
          refine tks (oi := ⟨_, _, _, _, _, _⟩) (v := undef) 52 rfl (.inr ⟨by rfl, rfl⟩) ?_
          try go_frame
          refine tks (oi := ⟨_, _, _, _, _, _⟩) (v := undef) 53 rfl (.inr ⟨by rfl, rfl⟩) ?_
          try go_frame
          refine tks (oi := ⟨_, _, _, _, _, _⟩) (v := undef) 54 rfl (.inr ⟨by rfl, rfl⟩) ?_
          try go_frame
          refine tks (oi := ⟨_, _, _, _, _, _⟩) (v := undef) 55 rfl (.inr ⟨by rfl, rfl⟩) ?_
          try go_frame
          refine tks (oi := ⟨_, _, _, _, _, _⟩) (v := undef) 56 rfl (.inr ⟨by rfl, rfl⟩) ?_
          try go_frame
          refine tks (oi := ⟨_, _, _, _, _, _⟩) (v := undef) 57 rfl (.inr ⟨by rfl, rfl⟩) ?_
          try go_frame
          refine tks (oi := ⟨_, _, _, _, _, _⟩) (v := undef) 58 rfl (.inr ⟨by rfl, rfl⟩) ?_
          try go_frame
          refine tks (oi := ⟨_, _, _, _, _, _⟩) (v := undef) 59 rfl (.inr ⟨by rfl, rfl⟩) ?_
          try go_frame
          refine tks (oi := ⟨_, _, _, _, _, _⟩) (v := undef) 60 rfl (.inr ⟨by rfl, rfl⟩) ?_
          try go_frame
          refine tks (oi := ⟨_, _, _, _, _, _⟩) (v := undef) 61 rfl (.inr ⟨by rfl, rfl⟩) ?_
          try go_frame
          refine tks (oi := ⟨_, _, _, _, _, _⟩) (v := undef) 62 rfl (.inr ⟨by rfl, rfl⟩) ?_
          try go_frame
          refine tks (oi := ⟨_, _, _, _, _, _⟩) (v := ?_) 63 rfl (.inl ⟨by rfl, ?_⟩) ?_; rotate_left
          · (intro wS hSw; (try dsimp only at hSw); go_simp); all_goals with_reducible rfl
          try go_frame
          refine wpAnyH_done (by kernel_rfl) ?_ _
          clear hHeld
          go_wp2_with fail
          go_ret
          exact ⟨by rw [HIN.out]; rfl, hbel.drew⟩
      · have HIN : Hid (R = true) := by
          show _ = _
          have := HNE.out
          rw [← hin.out, List.drop_eq_nil_of_le (by omega), List.drop_eq_nil_of_le (by omega)]; rfl
        have hk' : k = l.length := by omega
        subst hk'
        clear hin hlt hk
        go_wp2_with fail
        go_ret
        exact ⟨by rw [HIN.out]; rfl, hbel⟩
  · have hv : Hid (R = false) := by
      show _ = _
      rw [← hR.out]
      simp only [decide_eq_false_iff_not]
      intro h; rw [h] at hne; exact hne rfl
    have t0 : ((l.length : Int) != m.length) = true := by simp; omega
    clear hne hR
    go_enter Try.func26, Try.ntmps26
    go_wp2_with fail
    go_ret
    exact ⟨by rw [hv.out]; rfl, Below.refl _ _⟩

end Go.Proofs.Ythifddkmbjnncaa

/-
  The law ParseReads walked.
-/
namespace Go.Proofs.Ythifddkmbjnncaa
open Go.RowKit

set_option maxRecDepth 100000 in
set_option maxHeartbeats 1000000 in
theorem walk_ParseReads (s : ByteArray) (w : World) (_hm : s.size ≤ maxLen) : Calls Try.prog 8 #[.string s] w (Ret w (.bool true)) := by
  by_cases hbig : 20000 < s.size
  · have hb' : (20000 : Int) < s.size := by omega
    clear _hm
    go_enter Try.func8, Try.ntmps8
    go_wp2_with fail
    refine (alive4_any w).mono ?_
    rintro e1 w1 ⟨rfl, hb1⟩
    go_wp2_with fail
    go_ret
    exact ⟨rfl, hb1⟩
  · have hb' : (s.size : Int) ≤ 20000 := by omega
    have hs : s.size ≤ 100000000 := by omega
    obtain ⟨R, hR⟩ : ∃ R, Hid (parseL 0 s.data.toList [] [] = R) := ⟨_, rfl⟩
    have HBIG := Lib.hid hbig
    clear _hm hbig
    go_enter Try.func8, Try.ntmps8
    go_wp2_with fail
    refine (Parse_any s w hs R hR).mono ?_
    rintro e w1 ⟨hb1, hpost⟩
    rcases hpost with ⟨hR0, A, c, S, rfl, hown, hat, hS⟩ | ⟨hR0, rfl⟩
    · have hR0' : (parseL 0 s.data.toList [] []).2.2 = 0 := by rw [hR.out]; exact hR0
      obtain ⟨l, hlS⟩ : ∃ l, Hid (S.map (·.1) = l) := ⟨_, rfl⟩
      have hlR : l = (parseL 0 s.data.toList [] []).1 := by rw [← hlS.out, hS, hR.out]
      have hlen : Hid (S.length = l.length) := by show _ = _; rw [← hlS.out, List.length_map]
      have hRl : Hid (R.1 = l) := by show _ = _; rw [← hS, hlS.out]
      have hsm : Hid (SmallItems l) := by
        show SmallItems _
        rw [hlR]
        exact small_of_sm (N := s.data.toList.length) (by rw [size_toList]; omega) (by have := parse_many hR0'; omega) parse_sm
      have HAT : Hid (ItemsAt w1 w1.heap.size A l) := by
        show ItemsAt _ _ _ _
        rw [← hlS.out]; exact items_at hown hat
      have HR0 := Lib.hid hR0
      clear hown hat hS hR0 hR0' hlR
      rw [hlen.out]
      go_wp2_with fail
      refine (RParse_any s w1 hs R hR).mono ?_
      rintro e2 w2 ⟨hb2, hpost2⟩
      rcases hpost2 with ⟨_, A2, c2, S2, hee, hown2, hat2, hS2⟩ | ⟨hR1, _⟩
      · have hlen2 : S2.length = l.length := by
          have := congrArg List.length (hS2.trans hRl.out)
          rwa [List.length_map] at this
        rw [hlen2] at hee
        subst hee
        have HAT2 : Hid (ItemsAt w2 w2.heap.size A2 l) := by
          show ItemsAt _ _ _ _
          rw [← hRl.out, ← hS2]; exact items_at hown2 hat2
        clear hown2 hat2 hS2 hlen2
        go_wp2_with fail
        refine (alive4_any w2).mono ?_
        rintro e3 w3 ⟨rfl, hb3⟩
        go_wp2_with fail
        have hb13 : Below w1.heap.size w1 w3 := hb2.trans (hb3.mono hb2.size)
        refine (RSame_any l l A A2 c c2 w3 ((HAT.out.below hb13).more hb13.size) ((HAT2.out.below hb3).more hb3.size) hsm.out hsm.out true (decide_eq_true rfl)).mono ?_
        rintro e4 w4 ⟨rfl, hb4⟩
        go_wp2_with fail
        go_ret
        exact ⟨rfl, hb1.trans ((hb13.trans (hb4.mono hb13.size)).mono hb1.size)⟩
      · exact absurd HR0.out hR1
    · obtain ⟨ra, re, hra⟩ : ∃ (ra : Nat) (re : Int), Hid (R.2.1 = ra ∧ R.2.2 = re) := ⟨_, _, rfl, rfl⟩
      have HR0 := Lib.hid hR0
      rw [hra.out.1, hra.out.2]
      clear hR0
      go_wp2_with fail
      refine (RParse_any s w1 hs R hR).mono ?_
      rintro e2 w2 ⟨hb2, hpost2⟩
      rcases hpost2 with ⟨hR1, _⟩ | ⟨_, hee⟩
      · exact absurd hR1 HR0.out
      · rw [hra.out.1, hra.out.2] at hee
        subst hee
        go_wp2_with fail
        refine (alive4_any w2).mono ?_
        rintro e3 w3 ⟨rfl, hb3⟩
        go_wp2_with fail
        have hb13 : Below w1.heap.size w1 w3 := hb2.trans (hb3.mono hb2.size)
        have hn : ItemsAt w3 w3.heap.size none [] := items_at (S := []) (B := w3.heap.size) (c := 0) (World.ownsRow_nil _ _ _ _) (fun _ h => absurd h List.not_mem_nil)
        have hsn : SmallItems [] := ⟨by simp, fun k x h => by simp at h⟩
        refine (RSame_any [] [] none none 0 0 w3 hn hn hsn hsn true (decide_eq_true rfl)).mono ?_
        rintro e4 w4 ⟨rfl, hb4⟩
        go_wp2_with fail
        go_ret
        exact ⟨rfl, hb1.trans ((hb13.trans (hb4.mono hb13.size)).mono hb1.size)⟩
end Go.Proofs.Ythifddkmbjnncaa
