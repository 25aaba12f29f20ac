/-
  Texts of this claim, joined (by a program of the claim's author): PqG, PqH.
-/
import Derived.Test.YtpfhdklbhhpbcaaDoorQ1
import Derived.Test.YtpfhdklbhhpbcaaDoorQ8
import Derived.Laws.StructEq
/-
  The walk of ref07.Same.
-/
namespace Go.Proofs.YtpfhdklbhhpbcaaDoor
open Go.RowKit

theorem beq_str (a c : List UInt8) : (ByteArray.toList ⟨a.toArray⟩ == ByteArray.toList ⟨c.toArray⟩) = decide (a = c) := by
  rw [ByteArray.toList_eq, ByteArray.toList_eq]
  show (a.toArray.toList == c.toArray.toList) = _
  cases h : (a == c) <;> simp_all
theorem pred_neq (k n k' n' : Int) (a b c d : List UInt8) (w : World) : (binOp .neq 39 (.agg #[.int .i64 k, .int .i64 n, .string ⟨a.toArray⟩, .string ⟨b.toArray⟩]) (.agg #[.int .i64 k', .int .i64 n', .string ⟨c.toArray⟩, .string ⟨d.toArray⟩])).run Tryd.prog w = .ok (.bool (!(decide (k = k') && decide (n = n') && decide (a = c) && decide (b = d)))) w := by
  rw [run_neq_struct, run_equalIn_struct w 9999 _ _ _ (by kernel_rfl) (by kernel_rfl)]
  rw [← beq_str a c, ← beq_str b d]
  generalize (⟨a.toArray⟩ : ByteArray) = x
  generalize (⟨b.toArray⟩ : ByteArray) = y
  generalize (⟨c.toArray⟩ : ByteArray) = z
  generalize (⟨d.toArray⟩ : ByteArray) = v
  simp [go_sem]
  by_cases h0 : k = k' <;> by_cases h9 : n = n' <;> by_cases h1 : x.toList = z.toList <;> by_cases h2 : y.toList = v.toList <;> simp [h0, h9, h1, h2]

theorem drop_eq_cons {α : Type} {l m : List α} {k : Nat} {a b : α} (ha : l[k]? = some a) (hb : m[k]? = some b) : l.drop k = m.drop k ↔ (a = b ∧ l.drop (k + 1) = m.drop (k + 1)) := by
  rw [drop_cons ha, drop_cons hb]
  simp
theorem step_eq (x y : StepD) : x = y ↔ (x.axis = y.axis ∧ x.test = y.test ∧ x.name = y.name ∧ x.preds = y.preds) := by
  constructor
  · rintro rfl; exact ⟨rfl, rfl, rfl, rfl⟩
  · rintro ⟨h1, h2, h3, h4⟩; cases x; cases y; simp_all
theorem pred_eq (x y : PredD) : x = y ↔ (x.kind = y.kind ∧ x.num = y.num ∧ x.name = y.name ∧ x.value = y.value) := by
  constructor
  · rintro rfl; exact ⟨rfl, rfl, rfl, rfl⟩
  · rintro ⟨h1, h2, h3, h4⟩; cases x; cases y; simp_all

def FourAt (ad : Addr) (k : Nat) (s : StepD) (A : Option Addr) (c : Nat) (w : World) : Prop :=
  w.cell? (ad.add (k * 4)) = some (.int .i64 s.axis) ∧ w.cell? ⟨(ad.add (k * 4)).block, (ad.add (k * 4)).off + 1, none⟩ = some (.int .i64 s.test) ∧ w.cell? ⟨(ad.add (k * 4)).block, (ad.add (k * 4)).off + 2, none⟩ = some (.string ⟨s.name.toArray⟩) ∧ w.cell? ⟨(ad.add (k * 4)).block, (ad.add (k * 4)).off + 3, none⟩ = some (.slice A s.preds.length c)
theorem FourAt.keep {ad : Addr} {k : Nat} {s : StepD} {A : Option Addr} {c : Nat} {w w' : World} (h : FourAt ad k s A c w) {N : Nat} (hb : ad.block < N) (hw : Below N w w') : FourAt ad k s A c w' := by
  have hk : ∀ j, w'.cell? ⟨(ad.add (k * 4)).block, j, none⟩ = w.cell? ⟨(ad.add (k * 4)).block, j, none⟩ := fun j => hw.cell (by show (ad.add _).block < _; rw [block_of_add]; exact hb)
  exact ⟨(hw.cell (by rw [block_of_add]; exact hb)).trans h.1, (hk _).trans h.2.1, (hk _).trans h.2.2.1, (hk _).trans h.2.2.2⟩
def PAt (ad : Addr) (k : Nat) (p : PredD) (w : World) : Prop :=
  w.cell? (ad.add (k * 4)) = some (.int .i64 p.kind) ∧ w.cell? ⟨(ad.add (k * 4)).block, (ad.add (k * 4)).off + 1, none⟩ = some (.int .i64 p.num) ∧ w.cell? ⟨(ad.add (k * 4)).block, (ad.add (k * 4)).off + 2, none⟩ = some (.string ⟨p.name.toArray⟩) ∧ w.cell? ⟨(ad.add (k * 4)).block, (ad.add (k * 4)).off + 3, none⟩ = some (.string ⟨p.value.toArray⟩)
theorem PAt.keep {ad : Addr} {k : Nat} {s : PredD} {w w' : World} (h : PAt ad k s w) {N : Nat} (hb : ad.block < N) (hw : Below N w w') : PAt ad k s w' := by
  have hk : ∀ j, w'.cell? ⟨(ad.add (k * 4)).block, j, none⟩ = w.cell? ⟨(ad.add (k * 4)).block, j, none⟩ := fun j => hw.cell (by show (ad.add _).block < _; rw [block_of_add]; exact hb)
  exact ⟨(hw.cell (by rw [block_of_add]; exact hb)).trans h.1, (hk _).trans h.2.1, (hk _).trans h.2.2.1, (hk _).trans h.2.2.2⟩


set_option maxRecDepth 100000 in
set_option maxHeartbeats 8000000 in
theorem Same7_any (l m : List StepD) (A B : Option Addr) (c d : Nat) (w : World) (hA : StepsAt w w.heap.size A l) (hB : StepsAt w w.heap.size B m) (hl : SmallSteps l) (hm : SmallSteps m) (R : Bool) (hR : Hid (decide (l = m) = R)) :
    Calls Tryd.prog 15 #[.slice A l.length c, .slice B m.length d] w (Ret w (.bool R)) := by
  have HA := Lib.hid hA
  have HB := Lib.hid hB
  obtain ⟨hl1, hl2⟩ := hl
  obtain ⟨hm1, hm2⟩ := hm
  have HL := Lib.hid hl2
  have HM := Lib.hid hm2
  clear hA hB hl2 hm2
  by_cases hne : l.length = m.length
  · have hR0 : Hid (decide (l.drop 0 = m.drop 0) = R) := hR
    have t0 : ((l.length : Int) != m.length) = false := by simp [hne]
    have HNE := Lib.hid hne
    clear hne hR
    go_enter Tryd.func15, Tryd.ntmps15
    go_wp2_with fail
    go_loopw [5] (fun i wr => ∃ (k : Nat), k ≤ l.length ∧ i = .int .i64 (k : Int) ∧ Hid (decide (l.drop k = m.drop k) = R) ∧ Hid (Below w.heap.size w wr)) (fun i _ => l.length - (intOf i).toNat)
    case atStart => exact ⟨0, Nat.zero_le _, by go_num, hR0, Below.refl _ _⟩
    case round =>
      obtain ⟨k, hk, rfl, hin, hbel⟩ := hrel
      have hzr := hbel.out.size
      have hk0 : (0 : Int) ≤ (k : Int) := by omega
      by_cases hlt : k < l.length
      · have hlm : k < m.length := by have := HNE.out; omega
        obtain ⟨x, hx⟩ : ∃ x, Hid (l[k]? = some x) := ⟨l[k], List.getElem?_eq_getElem _⟩
        obtain ⟨y, hy⟩ : ∃ y, Hid (m[k]? = some y) := ⟨m[k], List.getElem?_eq_getElem _⟩
        obtain ⟨ad, hAd, _, _⟩ := HA.out (by omega)
        obtain ⟨bd, hBd, _, _⟩ := HB.out (by omega)
        subst hAd; subst hBd
        obtain ⟨hab, A', c', hat, _, h0, h1, h2, h3⟩ := HA.out.item hx.out
        obtain ⟨hbb, B', d', hbt, _, g0, g1, g2, g3⟩ := HB.out.item hy.out
        have HX : Hid (FourAt ad k x A' c' wr.drew) := FourAt.keep (w := w) ⟨h0, h1, h2, h3⟩ hab hbel.out.drew
        have HY : Hid (FourAt bd k y B' d' wr.drew) := FourAt.keep (w := w) ⟨g0, g1, g2, g3⟩ hbb hbel.out.drew
        have HX0 : Hid (FourAt ad k x A' c' w) := ⟨h0, h1, h2, h3⟩
        have HY0 : Hid (FourAt bd k y B' d' w) := ⟨g0, g1, g2, g3⟩
        have HAT := Lib.hid hat
        have HBT := Lib.hid hbt
        have hxp := (HL.out x (List.mem_of_getElem? hx.out)).2.1
        have hyp := (HM.out y (List.mem_of_getElem? hy.out)).2.1
        have hlt' : (k : Int) < l.length := by omega
        have hlm' : (k : Int) < m.length := by omega
        have hin' := hin.out
        have hde := drop_eq_cons hx.out hy.out
        rw [step_eq] at hde
        have HDE := Lib.hid hde
        clear hde h0 h1 h2 h3 g0 g1 g2 g3 hat hbt
        by_cases e1 : x.axis = y.axis
        · have f1 : (x.axis != y.axis) = false := by simp [e1]
          by_cases e2 : x.test = y.test
          · have f2 : (x.test != y.test) = false := by simp [e2]
            by_cases e3 : x.name = y.name
            · have f3 : (x.name == y.name) = true := by simp [e3]
              by_cases e4 : x.preds.length = y.preds.length
              · have f4 : ((x.preds.length : Int) != (y.preds.length : Int)) = false := by simp [e4]
                have HE := Lib.hid (show x.axis = y.axis ∧ x.test = y.test ∧ x.name = y.name ∧ x.preds.length = y.preds.length from ⟨e1, e2, e3, e4⟩)
                clear e1 e2 e3 e4 hin'
                go_wp2_with fail
                refine wp_region_held_drew (S := fun w' => w'.cell? (ad.add (k * 4)) = some (.int .i64 x.axis) ∧ w'.cell? ⟨(ad.add (k * 4)).block, (ad.add (k * 4)).off + 1, none⟩ = some (.int .i64 x.test) ∧ w'.cell? ⟨(ad.add (k * 4)).block, (ad.add (k * 4)).off + 2, none⟩ = some (.string ⟨x.name.toArray⟩) ∧ w'.cell? ⟨(ad.add (k * 4)).block, (ad.add (k * 4)).off + 3, none⟩ = some (.slice A' x.preds.length c') ∧ w'.cell? (bd.add (k * 4)) = some (.int .i64 y.axis) ∧ w'.cell? ⟨(bd.add (k * 4)).block, (bd.add (k * 4)).off + 1, none⟩ = some (.int .i64 y.test) ∧ w'.cell? ⟨(bd.add (k * 4)).block, (bd.add (k * 4)).off + 2, none⟩ = some (.string ⟨y.name.toArray⟩) ∧ w'.cell? ⟨(bd.add (k * 4)).block, (bd.add (k * 4)).off + 3, none⟩ = some (.slice B' y.preds.length d')) (by kernel_rfl) ⟨HX.out.1, HX.out.2.1, HX.out.2.2.1, HX.out.2.2.2, HY.out.1, HY.out.2.1, HY.out.2.2.1, HY.out.2.2.2⟩ (fun hHeld => ?_)
                refine tks (oi := ⟨_, _, _, _, _, _⟩) (v := ?_) 0 rfl (.inl ⟨by rfl, ?_⟩) ?_; rotate_left
                · (intro wS hSw; (try dsimp only at hSw); go_simp); all_goals with_reducible rfl
                try go_frame
                refine tks (oi := ⟨_, _, _, _, _, _⟩) (v := ?_) 1 rfl (.inl ⟨by rfl, ?_⟩) ?_; rotate_left
                · (intro wS hSw; (try dsimp only at hSw); go_simp); all_goals with_reducible rfl
                try go_frame
                refine tks (oi := ⟨_, _, _, _, _, _⟩) (v := ?_) 2 rfl (.inl ⟨by rfl, ?_⟩) ?_; rotate_left
                · (intro wS hSw; (try dsimp only at hSw); go_simp); all_goals with_reducible rfl
                try go_frame
                refine tks (oi := ⟨_, _, _, _, _, _⟩) (v := ?_) 3 rfl (.inl ⟨by rfl, ?_⟩) ?_; rotate_left
                · (intro wS hSw; (try dsimp only at hSw); go_simp); all_goals with_reducible rfl
                try go_frame
                refine tks (oi := ⟨_, _, _, _, _, _⟩) (v := ?_) 4 rfl (.inl ⟨by rfl, ?_⟩) ?_; rotate_left
                · (intro wS hSw; (try dsimp only at hSw); go_simp); all_goals with_reducible rfl
                try go_frame
                refine tks (oi := ⟨_, _, _, _, _, _⟩) (v := ?_) 5 rfl (.inl ⟨by rfl, ?_⟩) ?_; rotate_left
                · (intro wS hSw; (try dsimp only at hSw); go_simp); all_goals with_reducible rfl
                try go_frame
                refine tks (oi := ⟨_, _, _, _, _, _⟩) (v := ?_) 6 rfl (.inl ⟨by rfl, ?_⟩) ?_; rotate_left
                · (intro wS hSw; (try dsimp only at hSw); go_simp); all_goals with_reducible rfl
                try go_frame
                refine tks (oi := ⟨_, _, _, _, _, _⟩) (v := ?_) 7 rfl (.inl ⟨by rfl, ?_⟩) ?_; rotate_left
                · (intro wS hSw; (try dsimp only at hSw); go_simp); all_goals with_reducible rfl
                try go_frame
                refine tks (oi := ⟨_, _, _, _, _, _⟩) (v := ?_) 8 rfl (.inl ⟨by rfl, ?_⟩) ?_; rotate_left
                · (intro wS hSw; (try dsimp only at hSw); go_simp); all_goals with_reducible rfl
                try go_frame
                refine tks (oi := ⟨_, _, _, _, _, _⟩) (v := ?_) 9 rfl (.inl ⟨by rfl, ?_⟩) ?_; rotate_left
                · (intro wS hSw; (try dsimp only at hSw); go_simp); all_goals with_reducible rfl
                try go_frame
                refine tks (oi := ⟨_, _, _, _, _, _⟩) (v := ?_) 10 rfl (.inl ⟨by rfl, ?_⟩) ?_; rotate_left
                · (intro wS hSw; (try dsimp only at hSw); go_simp); all_goals with_reducible rfl
                try go_frame
                refine tks (oi := ⟨_, _, _, _, _, _⟩) (v := ?_) 11 rfl (.inl ⟨by rfl, ?_⟩) ?_; rotate_left
                · (intro wS hSw; (try dsimp only at hSw); go_simp); all_goals with_reducible rfl
                try go_frame
                refine tks (oi := ⟨_, _, _, _, _, _⟩) (v := ?_) 12 rfl (.inl ⟨by rfl, ?_⟩) ?_; rotate_left
                · (intro wS hSw; (try dsimp only at hSw); go_simp); all_goals with_reducible rfl
                try go_frame
                refine tks (oi := ⟨_, _, _, _, _, _⟩) (v := ?_) 13 rfl (.inl ⟨by rfl, ?_⟩) ?_; rotate_left
                · (intro wS hSw; (try dsimp only at hSw); go_simp); all_goals with_reducible rfl
                try go_frame
                refine tks (oi := ⟨_, _, _, _, _, _⟩) (v := ?_) 14 rfl (.inl ⟨by rfl, ?_⟩) ?_; rotate_left
                · (intro wS hSw; (try dsimp only at hSw); go_simp); all_goals with_reducible rfl
                try go_frame
                refine tks (oi := ⟨_, _, _, _, _, _⟩) (v := ?_) 15 rfl (.inl ⟨by rfl, ?_⟩) ?_; rotate_left
                · (intro wS hSw; (try dsimp only at hSw); go_simp); all_goals with_reducible rfl
                try go_frame
                refine tks (oi := ⟨_, _, _, _, _, _⟩) (v := ?_) 16 rfl (.inl ⟨by rfl, ?_⟩) ?_; rotate_left
                · (intro wS hSw; (try dsimp only at hSw); go_simp); all_goals with_reducible rfl
                try go_frame
                refine tks (oi := ⟨_, _, _, _, _, _⟩) (v := ?_) 17 rfl (.inl ⟨by rfl, ?_⟩) ?_; rotate_left
                · (intro wS hSw; (try dsimp only at hSw); go_simp); all_goals with_reducible rfl
                try go_frame
                refine tks (oi := ⟨_, _, _, _, _, _⟩) (v := ?_) 18 rfl (.inl ⟨by rfl, ?_⟩) ?_; rotate_left
                · (intro wS hSw; (try dsimp only at hSw); go_simp); all_goals with_reducible rfl
                try go_frame
                refine tks (oi := ⟨_, _, _, _, _, _⟩) (v := ?_) 19 rfl (.inl ⟨by rfl, ?_⟩) ?_; rotate_left
                · (intro wS hSw; (try dsimp only at hSw); go_simp); all_goals with_reducible rfl
                try go_frame
                refine tks (oi := ⟨_, _, _, _, _, _⟩) (v := ?_) 20 rfl (.inl ⟨by rfl, ?_⟩) ?_; rotate_left
                · (intro wS hSw; (try dsimp only at hSw); go_simp); all_goals with_reducible rfl
                try go_frame
                refine tks (oi := ⟨_, _, _, _, _, _⟩) (v := ?_) 21 rfl (.inl ⟨by rfl, ?_⟩) ?_; rotate_left
                · (intro wS hSw; (try dsimp only at hSw); go_simp); all_goals with_reducible rfl
                try go_frame
                refine tks (oi := ⟨_, _, _, _, _, _⟩) (v := ?_) 22 rfl (.inl ⟨by rfl, ?_⟩) ?_; rotate_left
                · (intro wS hSw; (try dsimp only at hSw); go_simp); all_goals with_reducible rfl
                try go_frame
                refine tks (oi := ⟨_, _, _, _, _, _⟩) (v := ?_) 23 rfl (.inl ⟨by rfl, ?_⟩) ?_; rotate_left
                · (intro wS hSw; (try dsimp only at hSw); go_simp); all_goals with_reducible rfl
                try go_frame
                refine tks (oi := ⟨_, _, _, _, _, _⟩) (v := ?_) 24 rfl (.inl ⟨by rfl, ?_⟩) ?_; rotate_left
                · (intro wS hSw; (try dsimp only at hSw); go_simp); all_goals with_reducible rfl
                try go_frame
                refine tks (oi := ⟨_, _, _, _, _, _⟩) (v := ?_) 25 rfl (.inl ⟨by rfl, ?_⟩) ?_; rotate_left
                · (intro wS hSw; (try dsimp only at hSw); go_simp); all_goals with_reducible rfl
                try go_frame
                refine tks (oi := ⟨_, _, _, _, _, _⟩) (v := ?_) 26 rfl (.inl ⟨by rfl, ?_⟩) ?_; rotate_left
                · (intro wS hSw; (try dsimp only at hSw); go_simp); all_goals with_reducible rfl
                try go_frame
                refine tks (oi := ⟨_, _, _, _, _, _⟩) (v := ?_) 27 rfl (.inl ⟨by rfl, ?_⟩) ?_; rotate_left
                · (intro wS hSw; (try dsimp only at hSw); go_simp); all_goals with_reducible rfl
                try go_frame
                refine tks (oi := ⟨_, _, _, _, _, _⟩) (v := ?_) 28 rfl (.inl ⟨by rfl, ?_⟩) ?_; rotate_left
                · (intro wS hSw; (try dsimp only at hSw); go_simp); all_goals with_reducible rfl
                try go_frame
                refine tks (oi := ⟨_, _, _, _, _, _⟩) (v := ?_) 29 rfl (.inl ⟨by rfl, ?_⟩) ?_; rotate_left
                · (intro wS hSw; (try dsimp only at hSw); go_simp); all_goals with_reducible rfl
                try go_frame
                refine tks (oi := ⟨_, _, _, _, _, _⟩) (v := ?_) 30 rfl (.inl ⟨by rfl, ?_⟩) ?_; rotate_left
                · (intro wS hSw; (try dsimp only at hSw); go_simp); all_goals with_reducible rfl
                try go_frame
                refine tks (oi := ⟨_, _, _, _, _, _⟩) (v := ?_) 31 rfl (.inl ⟨by rfl, ?_⟩) ?_; rotate_left
                · (intro wS hSw; (try dsimp only at hSw); go_simp); all_goals with_reducible rfl
                try go_frame
                refine tks (oi := ⟨_, _, _, _, _, _⟩) (v := ?_) 32 rfl (.inl ⟨by rfl, ?_⟩) ?_; rotate_left
                · (intro wS hSw; (try dsimp only at hSw); go_simp); all_goals with_reducible rfl
                try go_frame
                refine tks (oi := ⟨_, _, _, _, _, _⟩) (v := ?_) 33 rfl (.inl ⟨by rfl, ?_⟩) ?_; rotate_left
                · (intro wS hSw; (try dsimp only at hSw); go_simp); all_goals with_reducible rfl
                try go_frame
                refine tks (oi := ⟨_, _, _, _, _, _⟩) (v := ?_) 34 rfl (.inl ⟨by rfl, ?_⟩) ?_; rotate_left
                · (intro wS hSw; (try dsimp only at hSw); go_simp); all_goals with_reducible rfl
                try go_frame
                refine tks (oi := ⟨_, _, _, _, _, _⟩) (v := ?_) 35 rfl (.inl ⟨by rfl, ?_⟩) ?_; rotate_left
                · (intro wS hSw; (try dsimp only at hSw); go_simp); all_goals with_reducible rfl
                try go_frame
                refine tks (oi := ⟨_, _, _, _, _, _⟩) (v := ?_) 36 rfl (.inl ⟨by rfl, ?_⟩) ?_; rotate_left
                · (intro wS hSw; (try dsimp only at hSw); go_simp); all_goals with_reducible rfl
                try go_frame
                refine tks (oi := ⟨_, _, _, _, _, _⟩) (v := ?_) 37 rfl (.inl ⟨by rfl, ?_⟩) ?_; rotate_left
                · (intro wS hSw; (try dsimp only at hSw); go_simp); all_goals with_reducible rfl
                try go_frame
                refine tks (oi := ⟨_, _, _, _, _, _⟩) (v := ?_) 38 rfl (.inl ⟨by rfl, ?_⟩) ?_; rotate_left
                · (intro wS hSw; (try dsimp only at hSw); go_simp); all_goals with_reducible rfl
                try go_frame
                refine tks (oi := ⟨_, _, _, _, _, _⟩) (v := ?_) 39 rfl (.inl ⟨by rfl, ?_⟩) ?_; rotate_left
                · (intro wS hSw; (try dsimp only at hSw); go_simp); all_goals with_reducible rfl
                try go_frame
                refine tks (oi := ⟨_, _, _, _, _, _⟩) (v := ?_) 40 rfl (.inl ⟨by rfl, ?_⟩) ?_; rotate_left
                · (intro wS hSw; (try dsimp only at hSw); go_simp); all_goals with_reducible rfl
                try go_frame
                refine tks (oi := ⟨_, _, _, _, _, _⟩) (v := ?_) 41 rfl (.inl ⟨by rfl, ?_⟩) ?_; rotate_left
                · (intro wS hSw; (try dsimp only at hSw); go_simp); all_goals with_reducible rfl
                try go_frame
                refine tks (oi := ⟨_, _, _, _, _, _⟩) (v := ?_) 42 rfl (.inl ⟨by rfl, ?_⟩) ?_; rotate_left
                · (intro wS hSw; (try dsimp only at hSw); go_simp); all_goals with_reducible rfl
                try go_frame
                refine tks (oi := ⟨_, _, _, _, _, _⟩) (v := ?_) 43 rfl (.inl ⟨by rfl, ?_⟩) ?_; rotate_left
                · (intro wS hSw; (try dsimp only at hSw); go_simp); all_goals with_reducible rfl
                try go_frame
                refine tks (oi := ⟨_, _, _, _, _, _⟩) (v := ?_) 44 rfl (.inl ⟨by rfl, ?_⟩) ?_; rotate_left
                · (intro wS hSw; (try dsimp only at hSw); go_simp); all_goals with_reducible rfl
                try go_frame
                refine tks (oi := ⟨_, _, _, _, _, _⟩) (v := ?_) 45 rfl (.inl ⟨by rfl, ?_⟩) ?_; rotate_left
                · (intro wS hSw; (try dsimp only at hSw); go_simp); all_goals with_reducible rfl
                try go_frame
                refine tks (oi := ⟨_, _, _, _, _, _⟩) (v := ?_) 46 rfl (.inl ⟨by rfl, ?_⟩) ?_; rotate_left
                · (intro wS hSw; (try dsimp only at hSw); go_simp); all_goals with_reducible rfl
                try go_frame
                refine tks (oi := ⟨_, _, _, _, _, _⟩) (v := ?_) 47 rfl (.inl ⟨by rfl, ?_⟩) ?_; rotate_left
                · (intro wS hSw; (try dsimp only at hSw); go_simp); all_goals with_reducible rfl
                try go_frame
                refine tks (oi := ⟨_, _, _, _, _, _⟩) (v := ?_) 48 rfl (.inl ⟨by rfl, ?_⟩) ?_; rotate_left
                · (intro wS hSw; (try dsimp only at hSw); go_simp); all_goals with_reducible rfl
                try go_frame
                refine tks (oi := ⟨_, _, _, _, _, _⟩) (v := ?_) 49 rfl (.inl ⟨by rfl, ?_⟩) ?_; rotate_left
                · (intro wS hSw; (try dsimp only at hSw); go_simp); all_goals with_reducible rfl
                try go_frame
                refine tks (oi := ⟨_, _, _, _, _, _⟩) (v := ?_) 50 rfl (.inl ⟨by rfl, ?_⟩) ?_; rotate_left
                · (intro wS hSw; (try dsimp only at hSw); go_simp); all_goals with_reducible rfl
                try go_frame
                refine tks (oi := ⟨_, _, _, _, _, _⟩) (v := ?_) 51 rfl (.inl ⟨by rfl, ?_⟩) ?_; rotate_left
                · (intro wS hSw; (try dsimp only at hSw); go_simp); all_goals with_reducible rfl
                try go_frame
                refine wpAnyH_done (by kernel_rfl) ?_ _
                clear hHeld
                obtain ⟨P, hP⟩ : ∃ P, Hid (decide (x.preds = y.preds) = P) := ⟨_, rfl⟩
                go_wp2_with fail
                go_loopw [6] (fun i wq => ∃ (j : Nat), j ≤ x.preds.length ∧ i = .int .i64 (j : Int) ∧ Hid (decide (x.preds.drop j = y.preds.drop j) = P) ∧ Hid (Below w.heap.size w wq)) (fun i _ => x.preds.length - (intOf i).toNat)
                case atStart => exact ⟨0, Nat.zero_le _, by go_num, hP, hbel.out.drew⟩
                case round =>
                  rename_i wq0 _
                  obtain ⟨j, hj, rfl, hin2, hbq⟩ := hrel
                  have hj0 : (0 : Int) ≤ (j : Int) := by omega
                  have HX2 : Hid (FourAt ad k x A' c' wr.drew) := FourAt.keep HX0.out hab hbq.out.drew
                  have HY2 : Hid (FourAt bd k y B' d' wr.drew) := FourAt.keep HY0.out hbb hbq.out.drew
                  have z3 : wr.cell? ⟨(ad.add (k * 4)).block, (ad.add (k * 4)).off + 3, none⟩ = some (.slice A' x.preds.length c') := HX2.out.2.2.2
                  have hle := HE.out.2.2.2
                  have HLE := Lib.hid hle
                  by_cases hjt : j < x.preds.length
                  · have hjy : j < y.preds.length := by omega
                    obtain ⟨u, hu⟩ : ∃ u, Hid (x.preds[j]? = some u) := ⟨x.preds[j], List.getElem?_eq_getElem _⟩
                    obtain ⟨v, hv⟩ : ∃ v, Hid (y.preds[j]? = some v) := ⟨y.preds[j], List.getElem?_eq_getElem _⟩
                    obtain ⟨pa, hpa, hpab, hpac⟩ := HAT.out (by omega)
                    obtain ⟨pb, hpb, hpbb, hpbc⟩ := HBT.out (by omega)
                    subst hpa; subst hpb
                    have HU : Hid (PAt pa j u wr.drew) := PAt.keep (w := w) (hpac j u hu.out) hpab hbq.out.drew
                    have HV : Hid (PAt pb j v wr.drew) := PAt.keep (w := w) (hpbc j v hv.out) hpbb hbq.out.drew
                    have q1 : (j : Int) < x.preds.length := by omega
                    have q2 : (j : Int) < y.preds.length := by omega
                    have hde2 := drop_eq_cons hu.out hv.out
                    rw [pred_eq] at hde2
                    have HDE2 := Lib.hid hde2
                    have hin3 := hin2.out
                    have hneq := fun w' => pred_neq u.kind u.num v.kind v.num u.name u.value v.name v.value w'
                    by_cases he : u.kind = v.kind ∧ u.num = v.num ∧ u.name = v.name ∧ u.value = v.value
                    · have HIN2 : Hid (decide (x.preds.drop (j + 1) = y.preds.drop (j + 1)) = P) := by
                        show _ = _
                        rw [← hin3]
                        exact decide_eq_decide.2 ⟨fun h => HDE2.out.2 ⟨he, h⟩, fun h => (HDE2.out.1 h).2⟩
                      have he' : (decide (u.kind = v.kind) && decide (u.num = v.num) && decide (u.name = v.name) && decide (u.value = v.value)) = true := by simp [he]
                      simp only [he', Bool.not_true] at hneq
                      clear he he' hin3 hin2 hde2 hpac hpbc hle
                      go_wp2_with fail
                      refine wp_region_held_drew (S := fun w' => w'.cell? ⟨(ad.add (k * 4)).block, (ad.add (k * 4)).off + 3, none⟩ = some (.slice (some pa) x.preds.length c') ∧ w'.cell? ⟨(bd.add (k * 4)).block, (bd.add (k * 4)).off + 3, none⟩ = some (.slice (some pb) y.preds.length d') ∧ w'.cell? (pa.add (j * 4)) = some (.int .i64 u.kind) ∧ w'.cell? ⟨(pa.add (j * 4)).block, (pa.add (j * 4)).off + 1, none⟩ = some (.int .i64 u.num) ∧ w'.cell? ⟨(pa.add (j * 4)).block, (pa.add (j * 4)).off + 2, none⟩ = some (.string ⟨u.name.toArray⟩) ∧ w'.cell? ⟨(pa.add (j * 4)).block, (pa.add (j * 4)).off + 3, none⟩ = some (.string ⟨u.value.toArray⟩) ∧ w'.cell? (pb.add (j * 4)) = some (.int .i64 v.kind) ∧ w'.cell? ⟨(pb.add (j * 4)).block, (pb.add (j * 4)).off + 1, none⟩ = some (.int .i64 v.num) ∧ w'.cell? ⟨(pb.add (j * 4)).block, (pb.add (j * 4)).off + 2, none⟩ = some (.string ⟨v.name.toArray⟩) ∧ w'.cell? ⟨(pb.add (j * 4)).block, (pb.add (j * 4)).off + 3, none⟩ = some (.string ⟨v.value.toArray⟩)) (by kernel_rfl) ⟨HX2.out.2.2.2, HY2.out.2.2.2, HU.out.1, HU.out.2.1, HU.out.2.2.1, HU.out.2.2.2, HV.out.1, HV.out.2.1, HV.out.2.2.1, HV.out.2.2.2⟩ (fun hHeld => ?_)
                      refine tks (oi := ⟨_, _, _, _, _, _⟩) (v := ?_) 0 rfl (.inl ⟨by rfl, ?_⟩) ?_; rotate_left
                      · (intro wS hSw; (try dsimp only at hSw); go_simp); all_goals with_reducible rfl
                      try go_frame
                      refine tks (oi := ⟨_, _, _, _, _, _⟩) (v := ?_) 1 rfl (.inl ⟨by rfl, ?_⟩) ?_; rotate_left
                      · (intro wS hSw; (try dsimp only at hSw); go_simp); all_goals with_reducible rfl
                      try go_frame
                      refine tks (oi := ⟨_, _, _, _, _, _⟩) (v := ?_) 2 rfl (.inl ⟨by rfl, ?_⟩) ?_; rotate_left
                      · (intro wS hSw; (try dsimp only at hSw); go_simp); all_goals with_reducible rfl
                      try go_frame
                      refine tks (oi := ⟨_, _, _, _, _, _⟩) (v := ?_) 3 rfl (.inl ⟨by rfl, ?_⟩) ?_; rotate_left
                      · (intro wS hSw; (try dsimp only at hSw); go_simp); all_goals with_reducible rfl
                      try go_frame
                      refine tks (oi := ⟨_, _, _, _, _, _⟩) (v := ?_) 4 rfl (.inl ⟨by rfl, ?_⟩) ?_; rotate_left
                      · (intro wS hSw; (try dsimp only at hSw); go_simp); all_goals with_reducible rfl
                      try go_frame
                      refine tks (oi := ⟨_, _, _, _, _, _⟩) (v := ?_) 5 rfl (.inl ⟨by rfl, ?_⟩) ?_; rotate_left
                      · (intro wS hSw; (try dsimp only at hSw); go_simp); all_goals with_reducible rfl
                      try go_frame
                      refine tks (oi := ⟨_, _, _, _, _, _⟩) (v := ?_) 6 rfl (.inl ⟨by rfl, ?_⟩) ?_; rotate_left
                      · (intro wS hSw; (try dsimp only at hSw); go_simp); all_goals with_reducible rfl
                      try go_frame
                      refine tks (oi := ⟨_, _, _, _, _, _⟩) (v := ?_) 7 rfl (.inl ⟨by rfl, ?_⟩) ?_; rotate_left
                      · (intro wS hSw; (try dsimp only at hSw); go_simp); all_goals with_reducible rfl
                      try go_frame
                      refine tks (oi := ⟨_, _, _, _, _, _⟩) (v := ?_) 8 rfl (.inl ⟨by rfl, ?_⟩) ?_; rotate_left
                      · (intro wS hSw; (try dsimp only at hSw); go_simp); all_goals with_reducible rfl
                      try go_frame
                      refine tks (oi := ⟨_, _, _, _, _, _⟩) (v := ?_) 9 rfl (.inl ⟨by rfl, ?_⟩) ?_; rotate_left
                      · (intro wS hSw; (try dsimp only at hSw); go_simp); all_goals with_reducible rfl
                      try go_frame
                      refine tks (oi := ⟨_, _, _, _, _, _⟩) (v := ?_) 10 rfl (.inl ⟨by rfl, ?_⟩) ?_; rotate_left
                      · (intro wS hSw; (try dsimp only at hSw); go_simp); all_goals with_reducible rfl
                      try go_frame
                      refine tks (oi := ⟨_, _, _, _, _, _⟩) (v := ?_) 11 rfl (.inl ⟨by rfl, ?_⟩) ?_; rotate_left
                      · (intro wS hSw; (try dsimp only at hSw); go_simp); all_goals with_reducible rfl
                      try go_frame
                      refine tks (oi := ⟨_, _, _, _, _, _⟩) (v := ?_) 12 rfl (.inl ⟨by rfl, ?_⟩) ?_; rotate_left
                      · (intro wS hSw; (try dsimp only at hSw); go_simp); all_goals with_reducible rfl
                      try go_frame
                      refine tks (oi := ⟨_, _, _, _, _, _⟩) (v := ?_) 13 rfl (.inl ⟨by rfl, ?_⟩) ?_; rotate_left
                      · (intro wS hSw; (try dsimp only at hSw); go_simp); all_goals with_reducible rfl
                      try go_frame
                      refine tks (oi := ⟨_, _, _, _, _, _⟩) (v := ?_) 14 rfl (.inl ⟨by rfl, ?_⟩) ?_; rotate_left
                      · (intro wS hSw; (try dsimp only at hSw); go_simp); all_goals with_reducible rfl
                      try go_frame
                      refine tks (oi := ⟨_, _, _, _, _, _⟩) (v := ?_) 15 rfl (.inl ⟨by rfl, ?_⟩) ?_; rotate_left
                      · (intro wS hSw; (try dsimp only at hSw); go_simp); all_goals with_reducible rfl
                      try go_frame
                      refine tks (oi := ⟨_, _, _, _, _, _⟩) (v := ?_) 16 rfl (.inl ⟨by rfl, ?_⟩) ?_; rotate_left
                      · (intro wS hSw; (try dsimp only at hSw); go_simp); all_goals with_reducible rfl
                      try go_frame
                      refine wpAnyH_done (by kernel_rfl) ?_ _
                      clear hneq hHeld
                      go_wp2_with fail
                      go_roundw
                      case rel => exact ⟨j + 1, by omega, by go_num, HIN2, hbq.out.drew⟩
                      case measure => simp [intOf]; omega
                    · have HIN : Hid (R = false) := by
                        show _ = _
                        rw [← hin.out]
                        simp only [decide_eq_false_iff_not]
                        intro h
                        have h1 := (HDE.out.1 h).1.2.2.2
                        rw [h1] at hu
                        have h2 := hu.out.symm.trans hv.out
                        injection h2 with h2
                        subst h2
                        exact he ⟨rfl, rfl, rfl, rfl⟩
                      have he' : (decide (u.kind = v.kind) && decide (u.num = v.num) && decide (u.name = v.name) && decide (u.value = v.value)) = false := by
                        cases h : (decide (u.kind = v.kind) && decide (u.num = v.num) && decide (u.name = v.name) && decide (u.value = v.value)) with
                        | false => rfl
                        | true =>
                          simp only [Bool.and_eq_true, decide_eq_true_eq] at h
                          exact absurd ⟨h.1.1.1, h.1.1.2, h.1.2, h.2⟩ he
                      simp only [he', Bool.not_false] at hneq
                      clear he he' hin3 hin2 hde2 hpac hpbc hle
                      go_wp2_with fail
                      refine wp_region_held_drew (S := fun w' => w'.cell? ⟨(ad.add (k * 4)).block, (ad.add (k * 4)).off + 3, none⟩ = some (.slice (some pa) x.preds.length c') ∧ w'.cell? ⟨(bd.add (k * 4)).block, (bd.add (k * 4)).off + 3, none⟩ = some (.slice (some pb) y.preds.length d') ∧ w'.cell? (pa.add (j * 4)) = some (.int .i64 u.kind) ∧ w'.cell? ⟨(pa.add (j * 4)).block, (pa.add (j * 4)).off + 1, none⟩ = some (.int .i64 u.num) ∧ w'.cell? ⟨(pa.add (j * 4)).block, (pa.add (j * 4)).off + 2, none⟩ = some (.string ⟨u.name.toArray⟩) ∧ w'.cell? ⟨(pa.add (j * 4)).block, (pa.add (j * 4)).off + 3, none⟩ = some (.string ⟨u.value.toArray⟩) ∧ w'.cell? (pb.add (j * 4)) = some (.int .i64 v.kind) ∧ w'.cell? ⟨(pb.add (j * 4)).block, (pb.add (j * 4)).off + 1, none⟩ = some (.int .i64 v.num) ∧ w'.cell? ⟨(pb.add (j * 4)).block, (pb.add (j * 4)).off + 2, none⟩ = some (.string ⟨v.name.toArray⟩) ∧ w'.cell? ⟨(pb.add (j * 4)).block, (pb.add (j * 4)).off + 3, none⟩ = some (.string ⟨v.value.toArray⟩)) (by kernel_rfl) ⟨HX2.out.2.2.2, HY2.out.2.2.2, HU.out.1, HU.out.2.1, HU.out.2.2.1, HU.out.2.2.2, HV.out.1, HV.out.2.1, HV.out.2.2.1, HV.out.2.2.2⟩ (fun hHeld => ?_)
                      refine tks (oi := ⟨_, _, _, _, _, _⟩) (v := ?_) 0 rfl (.inl ⟨by rfl, ?_⟩) ?_; rotate_left
                      · (intro wS hSw; (try dsimp only at hSw); go_simp); all_goals with_reducible rfl
                      try go_frame
                      refine tks (oi := ⟨_, _, _, _, _, _⟩) (v := ?_) 1 rfl (.inl ⟨by rfl, ?_⟩) ?_; rotate_left
                      · (intro wS hSw; (try dsimp only at hSw); go_simp); all_goals with_reducible rfl
                      try go_frame
                      refine tks (oi := ⟨_, _, _, _, _, _⟩) (v := ?_) 2 rfl (.inl ⟨by rfl, ?_⟩) ?_; rotate_left
                      · (intro wS hSw; (try dsimp only at hSw); go_simp); all_goals with_reducible rfl
                      try go_frame
                      refine tks (oi := ⟨_, _, _, _, _, _⟩) (v := ?_) 3 rfl (.inl ⟨by rfl, ?_⟩) ?_; rotate_left
                      · (intro wS hSw; (try dsimp only at hSw); go_simp); all_goals with_reducible rfl
                      try go_frame
                      refine tks (oi := ⟨_, _, _, _, _, _⟩) (v := ?_) 4 rfl (.inl ⟨by rfl, ?_⟩) ?_; rotate_left
                      · (intro wS hSw; (try dsimp only at hSw); go_simp); all_goals with_reducible rfl
                      try go_frame
                      refine tks (oi := ⟨_, _, _, _, _, _⟩) (v := ?_) 5 rfl (.inl ⟨by rfl, ?_⟩) ?_; rotate_left
                      · (intro wS hSw; (try dsimp only at hSw); go_simp); all_goals with_reducible rfl
                      try go_frame
                      refine tks (oi := ⟨_, _, _, _, _, _⟩) (v := ?_) 6 rfl (.inl ⟨by rfl, ?_⟩) ?_; rotate_left
                      · (intro wS hSw; (try dsimp only at hSw); go_simp); all_goals with_reducible rfl
                      try go_frame
                      refine tks (oi := ⟨_, _, _, _, _, _⟩) (v := ?_) 7 rfl (.inl ⟨by rfl, ?_⟩) ?_; rotate_left
                      · (intro wS hSw; (try dsimp only at hSw); go_simp); all_goals with_reducible rfl
                      try go_frame
                      refine tks (oi := ⟨_, _, _, _, _, _⟩) (v := ?_) 8 rfl (.inl ⟨by rfl, ?_⟩) ?_; rotate_left
                      · (intro wS hSw; (try dsimp only at hSw); go_simp); all_goals with_reducible rfl
                      try go_frame
                      refine tks (oi := ⟨_, _, _, _, _, _⟩) (v := ?_) 9 rfl (.inl ⟨by rfl, ?_⟩) ?_; rotate_left
                      · (intro wS hSw; (try dsimp only at hSw); go_simp); all_goals with_reducible rfl
                      try go_frame
                      refine tks (oi := ⟨_, _, _, _, _, _⟩) (v := ?_) 10 rfl (.inl ⟨by rfl, ?_⟩) ?_; rotate_left
                      · (intro wS hSw; (try dsimp only at hSw); go_simp); all_goals with_reducible rfl
                      try go_frame
                      refine tks (oi := ⟨_, _, _, _, _, _⟩) (v := ?_) 11 rfl (.inl ⟨by rfl, ?_⟩) ?_; rotate_left
                      · (intro wS hSw; (try dsimp only at hSw); go_simp); all_goals with_reducible rfl
                      try go_frame
                      refine tks (oi := ⟨_, _, _, _, _, _⟩) (v := ?_) 12 rfl (.inl ⟨by rfl, ?_⟩) ?_; rotate_left
                      · (intro wS hSw; (try dsimp only at hSw); go_simp); all_goals with_reducible rfl
                      try go_frame
                      refine tks (oi := ⟨_, _, _, _, _, _⟩) (v := ?_) 13 rfl (.inl ⟨by rfl, ?_⟩) ?_; rotate_left
                      · (intro wS hSw; (try dsimp only at hSw); go_simp); all_goals with_reducible rfl
                      try go_frame
                      refine tks (oi := ⟨_, _, _, _, _, _⟩) (v := ?_) 14 rfl (.inl ⟨by rfl, ?_⟩) ?_; rotate_left
                      · (intro wS hSw; (try dsimp only at hSw); go_simp); all_goals with_reducible rfl
                      try go_frame
                      refine tks (oi := ⟨_, _, _, _, _, _⟩) (v := ?_) 15 rfl (.inl ⟨by rfl, ?_⟩) ?_; rotate_left
                      · (intro wS hSw; (try dsimp only at hSw); go_simp); all_goals with_reducible rfl
                      try go_frame
                      refine tks (oi := ⟨_, _, _, _, _, _⟩) (v := ?_) 16 rfl (.inl ⟨by rfl, ?_⟩) ?_; rotate_left
                      · (intro wS hSw; (try dsimp only at hSw); go_simp); all_goals with_reducible rfl
                      try go_frame
                      refine wpAnyH_done (by kernel_rfl) ?_ _
                      clear hneq hHeld
                      go_wp2_with fail
                      go_ret
                      exact ⟨by rw [HIN.out]; rfl, hbq.out.drew⟩
                  · have hPt : P = true := by
                      rw [← hin2.out, List.drop_eq_nil_of_le (by omega), List.drop_eq_nil_of_le (by omega)]; rfl
                    have HIN : Hid (decide (l.drop (k + 1) = m.drop (k + 1)) = R) := by
                      show _ = _
                      have h1 := hP.out
                      rw [hPt] at h1
                      have h2 : x.preds = y.preds := of_decide_eq_true h1
                      rw [← hin.out]
                      exact decide_eq_decide.2 ⟨fun h => HDE.out.2 ⟨⟨HE.out.1, HE.out.2.1, HE.out.2.2.1, h2⟩, h⟩, fun h => (HDE.out.1 h).2⟩
                    have q1 : (x.preds.length : Int) ≤ j := by omega
                    clear hPt hle hin2
                    go_wp2_with fail
                    go_roundw
                    case rel => exact ⟨k + 1, by omega, by go_num, HIN, hbq.out⟩
                    case measure => simp [intOf]; omega
              · have HIN : Hid (R = false) := by
                  show _ = _
                  rw [← hin']
                  simp only [decide_eq_false_iff_not]
                  intro h
                  exact e4 (by rw [(HDE.out.1 h).1.2.2.2])
                have f4 : ((x.preds.length : Int) != (y.preds.length : Int)) = true := by simp; omega
                clear e1 e2 e3 e4 hin' hin
                go_wp2_with fail
                refine wp_region_held_drew (S := fun w' => w'.cell? (ad.add (k * 4)) = some (.int .i64 x.axis) ∧ w'.cell? ⟨(ad.add (k * 4)).block, (ad.add (k * 4)).off + 1, none⟩ = some (.int .i64 x.test) ∧ w'.cell? ⟨(ad.add (k * 4)).block, (ad.add (k * 4)).off + 2, none⟩ = some (.string ⟨x.name.toArray⟩) ∧ w'.cell? ⟨(ad.add (k * 4)).block, (ad.add (k * 4)).off + 3, none⟩ = some (.slice A' x.preds.length c') ∧ w'.cell? (bd.add (k * 4)) = some (.int .i64 y.axis) ∧ w'.cell? ⟨(bd.add (k * 4)).block, (bd.add (k * 4)).off + 1, none⟩ = some (.int .i64 y.test) ∧ w'.cell? ⟨(bd.add (k * 4)).block, (bd.add (k * 4)).off + 2, none⟩ = some (.string ⟨y.name.toArray⟩) ∧ w'.cell? ⟨(bd.add (k * 4)).block, (bd.add (k * 4)).off + 3, none⟩ = some (.slice B' y.preds.length d')) (by kernel_rfl) ⟨HX.out.1, HX.out.2.1, HX.out.2.2.1, HX.out.2.2.2, HY.out.1, HY.out.2.1, HY.out.2.2.1, HY.out.2.2.2⟩ (fun hHeld => ?_)
                refine tks (oi := ⟨_, _, _, _, _, _⟩) (v := ?_) 0 rfl (.inl ⟨by rfl, ?_⟩) ?_; rotate_left
                · (intro wS hSw; (try dsimp only at hSw); go_simp); all_goals with_reducible rfl
                try go_frame
                refine tks (oi := ⟨_, _, _, _, _, _⟩) (v := ?_) 1 rfl (.inl ⟨by rfl, ?_⟩) ?_; rotate_left
                · (intro wS hSw; (try dsimp only at hSw); go_simp); all_goals with_reducible rfl
                try go_frame
                refine tks (oi := ⟨_, _, _, _, _, _⟩) (v := ?_) 2 rfl (.inl ⟨by rfl, ?_⟩) ?_; rotate_left
                · (intro wS hSw; (try dsimp only at hSw); go_simp); all_goals with_reducible rfl
                try go_frame
                refine tks (oi := ⟨_, _, _, _, _, _⟩) (v := ?_) 3 rfl (.inl ⟨by rfl, ?_⟩) ?_; rotate_left
                · (intro wS hSw; (try dsimp only at hSw); go_simp); all_goals with_reducible rfl
                try go_frame
                refine tks (oi := ⟨_, _, _, _, _, _⟩) (v := ?_) 4 rfl (.inl ⟨by rfl, ?_⟩) ?_; rotate_left
                · (intro wS hSw; (try dsimp only at hSw); go_simp); all_goals with_reducible rfl
                try go_frame
                refine tks (oi := ⟨_, _, _, _, _, _⟩) (v := ?_) 5 rfl (.inl ⟨by rfl, ?_⟩) ?_; rotate_left
                · (intro wS hSw; (try dsimp only at hSw); go_simp); all_goals with_reducible rfl
                try go_frame
                refine tks (oi := ⟨_, _, _, _, _, _⟩) (v := ?_) 6 rfl (.inl ⟨by rfl, ?_⟩) ?_; rotate_left
                · (intro wS hSw; (try dsimp only at hSw); go_simp); all_goals with_reducible rfl
                try go_frame
                refine tks (oi := ⟨_, _, _, _, _, _⟩) (v := ?_) 7 rfl (.inl ⟨by rfl, ?_⟩) ?_; rotate_left
                · (intro wS hSw; (try dsimp only at hSw); go_simp); all_goals with_reducible rfl
                try go_frame
                refine tks (oi := ⟨_, _, _, _, _, _⟩) (v := ?_) 8 rfl (.inl ⟨by rfl, ?_⟩) ?_; rotate_left
                · (intro wS hSw; (try dsimp only at hSw); go_simp); all_goals with_reducible rfl
                try go_frame
                refine tks (oi := ⟨_, _, _, _, _, _⟩) (v := ?_) 9 rfl (.inl ⟨by rfl, ?_⟩) ?_; rotate_left
                · (intro wS hSw; (try dsimp only at hSw); go_simp); all_goals with_reducible rfl
                try go_frame
                refine tks (oi := ⟨_, _, _, _, _, _⟩) (v := ?_) 10 rfl (.inl ⟨by rfl, ?_⟩) ?_; rotate_left
                · (intro wS hSw; (try dsimp only at hSw); go_simp); all_goals with_reducible rfl
                try go_frame
                refine tks (oi := ⟨_, _, _, _, _, _⟩) (v := ?_) 11 rfl (.inl ⟨by rfl, ?_⟩) ?_; rotate_left
                · (intro wS hSw; (try dsimp only at hSw); go_simp); all_goals with_reducible rfl
                try go_frame
                refine tks (oi := ⟨_, _, _, _, _, _⟩) (v := ?_) 12 rfl (.inl ⟨by rfl, ?_⟩) ?_; rotate_left
                · (intro wS hSw; (try dsimp only at hSw); go_simp); all_goals with_reducible rfl
                try go_frame
                refine tks (oi := ⟨_, _, _, _, _, _⟩) (v := ?_) 13 rfl (.inl ⟨by rfl, ?_⟩) ?_; rotate_left
                · (intro wS hSw; (try dsimp only at hSw); go_simp); all_goals with_reducible rfl
                try go_frame
                refine tks (oi := ⟨_, _, _, _, _, _⟩) (v := ?_) 14 rfl (.inl ⟨by rfl, ?_⟩) ?_; rotate_left
                · (intro wS hSw; (try dsimp only at hSw); go_simp); all_goals with_reducible rfl
                try go_frame
                refine tks (oi := ⟨_, _, _, _, _, _⟩) (v := ?_) 15 rfl (.inl ⟨by rfl, ?_⟩) ?_; rotate_left
                · (intro wS hSw; (try dsimp only at hSw); go_simp); all_goals with_reducible rfl
                try go_frame
                refine tks (oi := ⟨_, _, _, _, _, _⟩) (v := ?_) 16 rfl (.inl ⟨by rfl, ?_⟩) ?_; rotate_left
                · (intro wS hSw; (try dsimp only at hSw); go_simp); all_goals with_reducible rfl
                try go_frame
                refine tks (oi := ⟨_, _, _, _, _, _⟩) (v := ?_) 17 rfl (.inl ⟨by rfl, ?_⟩) ?_; rotate_left
                · (intro wS hSw; (try dsimp only at hSw); go_simp); all_goals with_reducible rfl
                try go_frame
                refine tks (oi := ⟨_, _, _, _, _, _⟩) (v := ?_) 18 rfl (.inl ⟨by rfl, ?_⟩) ?_; rotate_left
                · (intro wS hSw; (try dsimp only at hSw); go_simp); all_goals with_reducible rfl
                try go_frame
                refine tks (oi := ⟨_, _, _, _, _, _⟩) (v := ?_) 19 rfl (.inl ⟨by rfl, ?_⟩) ?_; rotate_left
                · (intro wS hSw; (try dsimp only at hSw); go_simp); all_goals with_reducible rfl
                try go_frame
                refine tks (oi := ⟨_, _, _, _, _, _⟩) (v := ?_) 20 rfl (.inl ⟨by rfl, ?_⟩) ?_; rotate_left
                · (intro wS hSw; (try dsimp only at hSw); go_simp); all_goals with_reducible rfl
                try go_frame
                refine tks (oi := ⟨_, _, _, _, _, _⟩) (v := ?_) 21 rfl (.inl ⟨by rfl, ?_⟩) ?_; rotate_left
                · (intro wS hSw; (try dsimp only at hSw); go_simp); all_goals with_reducible rfl
                try go_frame
                refine tks (oi := ⟨_, _, _, _, _, _⟩) (v := ?_) 22 rfl (.inl ⟨by rfl, ?_⟩) ?_; rotate_left
                · (intro wS hSw; (try dsimp only at hSw); go_simp); all_goals with_reducible rfl
                try go_frame
                refine tks (oi := ⟨_, _, _, _, _, _⟩) (v := ?_) 23 rfl (.inl ⟨by rfl, ?_⟩) ?_; rotate_left
                · (intro wS hSw; (try dsimp only at hSw); go_simp); all_goals with_reducible rfl
                try go_frame
                refine tks (oi := ⟨_, _, _, _, _, _⟩) (v := ?_) 24 rfl (.inl ⟨by rfl, ?_⟩) ?_; rotate_left
                · (intro wS hSw; (try dsimp only at hSw); go_simp); all_goals with_reducible rfl
                try go_frame
                refine tks (oi := ⟨_, _, _, _, _, _⟩) (v := ?_) 25 rfl (.inl ⟨by rfl, ?_⟩) ?_; rotate_left
                · (intro wS hSw; (try dsimp only at hSw); go_simp); all_goals with_reducible rfl
                try go_frame
                refine tks (oi := ⟨_, _, _, _, _, _⟩) (v := ?_) 26 rfl (.inl ⟨by rfl, ?_⟩) ?_; rotate_left
                · (intro wS hSw; (try dsimp only at hSw); go_simp); all_goals with_reducible rfl
                try go_frame
                refine tks (oi := ⟨_, _, _, _, _, _⟩) (v := ?_) 27 rfl (.inl ⟨by rfl, ?_⟩) ?_; rotate_left
                · (intro wS hSw; (try dsimp only at hSw); go_simp); all_goals with_reducible rfl
                try go_frame
                refine tks (oi := ⟨_, _, _, _, _, _⟩) (v := ?_) 28 rfl (.inl ⟨by rfl, ?_⟩) ?_; rotate_left
                · (intro wS hSw; (try dsimp only at hSw); go_simp); all_goals with_reducible rfl
                try go_frame
                refine tks (oi := ⟨_, _, _, _, _, _⟩) (v := ?_) 29 rfl (.inl ⟨by rfl, ?_⟩) ?_; rotate_left
                · (intro wS hSw; (try dsimp only at hSw); go_simp); all_goals with_reducible rfl
                try go_frame
                refine tks (oi := ⟨_, _, _, _, _, _⟩) (v := ?_) 30 rfl (.inl ⟨by rfl, ?_⟩) ?_; rotate_left
                · (intro wS hSw; (try dsimp only at hSw); go_simp); all_goals with_reducible rfl
                try go_frame
                refine tks (oi := ⟨_, _, _, _, _, _⟩) (v := ?_) 31 rfl (.inl ⟨by rfl, ?_⟩) ?_; rotate_left
                · (intro wS hSw; (try dsimp only at hSw); go_simp); all_goals with_reducible rfl
                try go_frame
                refine tks (oi := ⟨_, _, _, _, _, _⟩) (v := ?_) 32 rfl (.inl ⟨by rfl, ?_⟩) ?_; rotate_left
                · (intro wS hSw; (try dsimp only at hSw); go_simp); all_goals with_reducible rfl
                try go_frame
                refine tks (oi := ⟨_, _, _, _, _, _⟩) (v := ?_) 33 rfl (.inl ⟨by rfl, ?_⟩) ?_; rotate_left
                · (intro wS hSw; (try dsimp only at hSw); go_simp); all_goals with_reducible rfl
                try go_frame
                refine tks (oi := ⟨_, _, _, _, _, _⟩) (v := ?_) 34 rfl (.inl ⟨by rfl, ?_⟩) ?_; rotate_left
                · (intro wS hSw; (try dsimp only at hSw); go_simp); all_goals with_reducible rfl
                try go_frame
                refine tks (oi := ⟨_, _, _, _, _, _⟩) (v := ?_) 35 rfl (.inl ⟨by rfl, ?_⟩) ?_; rotate_left
                · (intro wS hSw; (try dsimp only at hSw); go_simp); all_goals with_reducible rfl
                try go_frame
                refine tks (oi := ⟨_, _, _, _, _, _⟩) (v := ?_) 36 rfl (.inl ⟨by rfl, ?_⟩) ?_; rotate_left
                · (intro wS hSw; (try dsimp only at hSw); go_simp); all_goals with_reducible rfl
                try go_frame
                refine tks (oi := ⟨_, _, _, _, _, _⟩) (v := ?_) 37 rfl (.inl ⟨by rfl, ?_⟩) ?_; rotate_left
                · (intro wS hSw; (try dsimp only at hSw); go_simp); all_goals with_reducible rfl
                try go_frame
                refine tks (oi := ⟨_, _, _, _, _, _⟩) (v := ?_) 38 rfl (.inl ⟨by rfl, ?_⟩) ?_; rotate_left
                · (intro wS hSw; (try dsimp only at hSw); go_simp); all_goals with_reducible rfl
                try go_frame
                refine tks (oi := ⟨_, _, _, _, _, _⟩) (v := ?_) 39 rfl (.inl ⟨by rfl, ?_⟩) ?_; rotate_left
                · (intro wS hSw; (try dsimp only at hSw); go_simp); all_goals with_reducible rfl
                try go_frame
                refine tks (oi := ⟨_, _, _, _, _, _⟩) (v := ?_) 40 rfl (.inl ⟨by rfl, ?_⟩) ?_; rotate_left
                · (intro wS hSw; (try dsimp only at hSw); go_simp); all_goals with_reducible rfl
                try go_frame
                refine tks (oi := ⟨_, _, _, _, _, _⟩) (v := ?_) 41 rfl (.inl ⟨by rfl, ?_⟩) ?_; rotate_left
                · (intro wS hSw; (try dsimp only at hSw); go_simp); all_goals with_reducible rfl
                try go_frame
                refine tks (oi := ⟨_, _, _, _, _, _⟩) (v := ?_) 42 rfl (.inl ⟨by rfl, ?_⟩) ?_; rotate_left
                · (intro wS hSw; (try dsimp only at hSw); go_simp); all_goals with_reducible rfl
                try go_frame
                refine tks (oi := ⟨_, _, _, _, _, _⟩) (v := ?_) 43 rfl (.inl ⟨by rfl, ?_⟩) ?_; rotate_left
                · (intro wS hSw; (try dsimp only at hSw); go_simp); all_goals with_reducible rfl
                try go_frame
                refine tks (oi := ⟨_, _, _, _, _, _⟩) (v := ?_) 44 rfl (.inl ⟨by rfl, ?_⟩) ?_; rotate_left
                · (intro wS hSw; (try dsimp only at hSw); go_simp); all_goals with_reducible rfl
                try go_frame
                refine tks (oi := ⟨_, _, _, _, _, _⟩) (v := ?_) 45 rfl (.inl ⟨by rfl, ?_⟩) ?_; rotate_left
                · (intro wS hSw; (try dsimp only at hSw); go_simp); all_goals with_reducible rfl
                try go_frame
                refine tks (oi := ⟨_, _, _, _, _, _⟩) (v := ?_) 46 rfl (.inl ⟨by rfl, ?_⟩) ?_; rotate_left
                · (intro wS hSw; (try dsimp only at hSw); go_simp); all_goals with_reducible rfl
                try go_frame
                refine tks (oi := ⟨_, _, _, _, _, _⟩) (v := ?_) 47 rfl (.inl ⟨by rfl, ?_⟩) ?_; rotate_left
                · (intro wS hSw; (try dsimp only at hSw); go_simp); all_goals with_reducible rfl
                try go_frame
                refine tks (oi := ⟨_, _, _, _, _, _⟩) (v := ?_) 48 rfl (.inl ⟨by rfl, ?_⟩) ?_; rotate_left
                · (intro wS hSw; (try dsimp only at hSw); go_simp); all_goals with_reducible rfl
                try go_frame
                refine tks (oi := ⟨_, _, _, _, _, _⟩) (v := ?_) 49 rfl (.inl ⟨by rfl, ?_⟩) ?_; rotate_left
                · (intro wS hSw; (try dsimp only at hSw); go_simp); all_goals with_reducible rfl
                try go_frame
                refine tks (oi := ⟨_, _, _, _, _, _⟩) (v := ?_) 50 rfl (.inl ⟨by rfl, ?_⟩) ?_; rotate_left
                · (intro wS hSw; (try dsimp only at hSw); go_simp); all_goals with_reducible rfl
                try go_frame
                refine tks (oi := ⟨_, _, _, _, _, _⟩) (v := ?_) 51 rfl (.inl ⟨by rfl, ?_⟩) ?_; rotate_left
                · (intro wS hSw; (try dsimp only at hSw); go_simp); all_goals with_reducible rfl
                try go_frame
                refine wpAnyH_done (by kernel_rfl) ?_ _
                clear hHeld
                go_wp2_with fail
                go_ret
                exact ⟨by rw [HIN.out]; rfl, hbel.out.drew⟩
            · have HIN : Hid (R = false) := by
                show _ = _
                rw [← hin']
                simp only [decide_eq_false_iff_not]
                intro h
                exact e3 (HDE.out.1 h).1.2.2.1
              have f3 : (x.name == y.name) = false := by simp [e3]
              clear e1 e2 e3 hin' hin
              go_wp2_with fail
              refine wp_region_held_drew (S := fun w' => w'.cell? (ad.add (k * 4)) = some (.int .i64 x.axis) ∧ w'.cell? ⟨(ad.add (k * 4)).block, (ad.add (k * 4)).off + 1, none⟩ = some (.int .i64 x.test) ∧ w'.cell? ⟨(ad.add (k * 4)).block, (ad.add (k * 4)).off + 2, none⟩ = some (.string ⟨x.name.toArray⟩) ∧ w'.cell? ⟨(ad.add (k * 4)).block, (ad.add (k * 4)).off + 3, none⟩ = some (.slice A' x.preds.length c') ∧ w'.cell? (bd.add (k * 4)) = some (.int .i64 y.axis) ∧ w'.cell? ⟨(bd.add (k * 4)).block, (bd.add (k * 4)).off + 1, none⟩ = some (.int .i64 y.test) ∧ w'.cell? ⟨(bd.add (k * 4)).block, (bd.add (k * 4)).off + 2, none⟩ = some (.string ⟨y.name.toArray⟩) ∧ w'.cell? ⟨(bd.add (k * 4)).block, (bd.add (k * 4)).off + 3, none⟩ = some (.slice B' y.preds.length d')) (by kernel_rfl) ⟨HX.out.1, HX.out.2.1, HX.out.2.2.1, HX.out.2.2.2, HY.out.1, HY.out.2.1, HY.out.2.2.1, HY.out.2.2.2⟩ (fun hHeld => ?_)
              refine tks (oi := ⟨_, _, _, _, _, _⟩) (v := ?_) 0 rfl (.inl ⟨by rfl, ?_⟩) ?_; rotate_left
              · (intro wS hSw; (try dsimp only at hSw); go_simp); all_goals with_reducible rfl
              try go_frame
              refine tks (oi := ⟨_, _, _, _, _, _⟩) (v := ?_) 1 rfl (.inl ⟨by rfl, ?_⟩) ?_; rotate_left
              · (intro wS hSw; (try dsimp only at hSw); go_simp); all_goals with_reducible rfl
              try go_frame
              refine tks (oi := ⟨_, _, _, _, _, _⟩) (v := ?_) 2 rfl (.inl ⟨by rfl, ?_⟩) ?_; rotate_left
              · (intro wS hSw; (try dsimp only at hSw); go_simp); all_goals with_reducible rfl
              try go_frame
              refine tks (oi := ⟨_, _, _, _, _, _⟩) (v := ?_) 3 rfl (.inl ⟨by rfl, ?_⟩) ?_; rotate_left
              · (intro wS hSw; (try dsimp only at hSw); go_simp); all_goals with_reducible rfl
              try go_frame
              refine tks (oi := ⟨_, _, _, _, _, _⟩) (v := ?_) 4 rfl (.inl ⟨by rfl, ?_⟩) ?_; rotate_left
              · (intro wS hSw; (try dsimp only at hSw); go_simp); all_goals with_reducible rfl
              try go_frame
              refine tks (oi := ⟨_, _, _, _, _, _⟩) (v := ?_) 5 rfl (.inl ⟨by rfl, ?_⟩) ?_; rotate_left
              · (intro wS hSw; (try dsimp only at hSw); go_simp); all_goals with_reducible rfl
              try go_frame
              refine tks (oi := ⟨_, _, _, _, _, _⟩) (v := ?_) 6 rfl (.inl ⟨by rfl, ?_⟩) ?_; rotate_left
              · (intro wS hSw; (try dsimp only at hSw); go_simp); all_goals with_reducible rfl
              try go_frame
              refine tks (oi := ⟨_, _, _, _, _, _⟩) (v := ?_) 7 rfl (.inl ⟨by rfl, ?_⟩) ?_; rotate_left
              · (intro wS hSw; (try dsimp only at hSw); go_simp); all_goals with_reducible rfl
              try go_frame
              refine tks (oi := ⟨_, _, _, _, _, _⟩) (v := ?_) 8 rfl (.inl ⟨by rfl, ?_⟩) ?_; rotate_left
              · (intro wS hSw; (try dsimp only at hSw); go_simp); all_goals with_reducible rfl
              try go_frame
              refine tks (oi := ⟨_, _, _, _, _, _⟩) (v := ?_) 9 rfl (.inl ⟨by rfl, ?_⟩) ?_; rotate_left
              · (intro wS hSw; (try dsimp only at hSw); go_simp); all_goals with_reducible rfl
              try go_frame
              refine tks (oi := ⟨_, _, _, _, _, _⟩) (v := ?_) 10 rfl (.inl ⟨by rfl, ?_⟩) ?_; rotate_left
              · (intro wS hSw; (try dsimp only at hSw); go_simp); all_goals with_reducible rfl
              try go_frame
              refine tks (oi := ⟨_, _, _, _, _, _⟩) (v := ?_) 11 rfl (.inl ⟨by rfl, ?_⟩) ?_; rotate_left
              · (intro wS hSw; (try dsimp only at hSw); go_simp); all_goals with_reducible rfl
              try go_frame
              refine tks (oi := ⟨_, _, _, _, _, _⟩) (v := ?_) 12 rfl (.inl ⟨by rfl, ?_⟩) ?_; rotate_left
              · (intro wS hSw; (try dsimp only at hSw); go_simp); all_goals with_reducible rfl
              try go_frame
              refine tks (oi := ⟨_, _, _, _, _, _⟩) (v := ?_) 13 rfl (.inl ⟨by rfl, ?_⟩) ?_; rotate_left
              · (intro wS hSw; (try dsimp only at hSw); go_simp); all_goals with_reducible rfl
              try go_frame
              refine tks (oi := ⟨_, _, _, _, _, _⟩) (v := ?_) 14 rfl (.inl ⟨by rfl, ?_⟩) ?_; rotate_left
              · (intro wS hSw; (try dsimp only at hSw); go_simp); all_goals with_reducible rfl
              try go_frame
              refine tks (oi := ⟨_, _, _, _, _, _⟩) (v := ?_) 15 rfl (.inl ⟨by rfl, ?_⟩) ?_; rotate_left
              · (intro wS hSw; (try dsimp only at hSw); go_simp); all_goals with_reducible rfl
              try go_frame
              refine tks (oi := ⟨_, _, _, _, _, _⟩) (v := ?_) 16 rfl (.inl ⟨by rfl, ?_⟩) ?_; rotate_left
              · (intro wS hSw; (try dsimp only at hSw); go_simp); all_goals with_reducible rfl
              try go_frame
              refine tks (oi := ⟨_, _, _, _, _, _⟩) (v := ?_) 17 rfl (.inl ⟨by rfl, ?_⟩) ?_; rotate_left
              · (intro wS hSw; (try dsimp only at hSw); go_simp); all_goals with_reducible rfl
              try go_frame
              refine tks (oi := ⟨_, _, _, _, _, _⟩) (v := ?_) 18 rfl (.inl ⟨by rfl, ?_⟩) ?_; rotate_left
              · (intro wS hSw; (try dsimp only at hSw); go_simp); all_goals with_reducible rfl
              try go_frame
              refine tks (oi := ⟨_, _, _, _, _, _⟩) (v := ?_) 19 rfl (.inl ⟨by rfl, ?_⟩) ?_; rotate_left
              · (intro wS hSw; (try dsimp only at hSw); go_simp); all_goals with_reducible rfl
              try go_frame
              refine tks (oi := ⟨_, _, _, _, _, _⟩) (v := ?_) 20 rfl (.inl ⟨by rfl, ?_⟩) ?_; rotate_left
              · (intro wS hSw; (try dsimp only at hSw); go_simp); all_goals with_reducible rfl
              try go_frame
              refine tks (oi := ⟨_, _, _, _, _, _⟩) (v := ?_) 21 rfl (.inl ⟨by rfl, ?_⟩) ?_; rotate_left
              · (intro wS hSw; (try dsimp only at hSw); go_simp); all_goals with_reducible rfl
              try go_frame
              refine tks (oi := ⟨_, _, _, _, _, _⟩) (v := ?_) 22 rfl (.inl ⟨by rfl, ?_⟩) ?_; rotate_left
              · (intro wS hSw; (try dsimp only at hSw); go_simp); all_goals with_reducible rfl
              try go_frame
              refine tks (oi := ⟨_, _, _, _, _, _⟩) (v := ?_) 23 rfl (.inl ⟨by rfl, ?_⟩) ?_; rotate_left
              · (intro wS hSw; (try dsimp only at hSw); go_simp); all_goals with_reducible rfl
              try go_frame
              refine tks (oi := ⟨_, _, _, _, _, _⟩) (v := ?_) 24 rfl (.inl ⟨by rfl, ?_⟩) ?_; rotate_left
              · (intro wS hSw; (try dsimp only at hSw); go_simp); all_goals with_reducible rfl
              try go_frame
              refine tks (oi := ⟨_, _, _, _, _, _⟩) (v := ?_) 25 rfl (.inl ⟨by rfl, ?_⟩) ?_; rotate_left
              · (intro wS hSw; (try dsimp only at hSw); go_simp); all_goals with_reducible rfl
              try go_frame
              refine tks (oi := ⟨_, _, _, _, _, _⟩) (v := ?_) 26 rfl (.inl ⟨by rfl, ?_⟩) ?_; rotate_left
              · (intro wS hSw; (try dsimp only at hSw); go_simp); all_goals with_reducible rfl
              try go_frame
              refine tks (oi := ⟨_, _, _, _, _, _⟩) (v := ?_) 27 rfl (.inl ⟨by rfl, ?_⟩) ?_; rotate_left
              · (intro wS hSw; (try dsimp only at hSw); go_simp); all_goals with_reducible rfl
              try go_frame
              refine tks (oi := ⟨_, _, _, _, _, _⟩) (v := ?_) 28 rfl (.inl ⟨by rfl, ?_⟩) ?_; rotate_left
              · (intro wS hSw; (try dsimp only at hSw); go_simp); all_goals with_reducible rfl
              try go_frame
              refine tks (oi := ⟨_, _, _, _, _, _⟩) (v := ?_) 29 rfl (.inl ⟨by rfl, ?_⟩) ?_; rotate_left
              · (intro wS hSw; (try dsimp only at hSw); go_simp); all_goals with_reducible rfl
              try go_frame
              refine tks (oi := ⟨_, _, _, _, _, _⟩) (v := ?_) 30 rfl (.inl ⟨by rfl, ?_⟩) ?_; rotate_left
              · (intro wS hSw; (try dsimp only at hSw); go_simp); all_goals with_reducible rfl
              try go_frame
              refine tks (oi := ⟨_, _, _, _, _, _⟩) (v := ?_) 31 rfl (.inl ⟨by rfl, ?_⟩) ?_; rotate_left
              · (intro wS hSw; (try dsimp only at hSw); go_simp); all_goals with_reducible rfl
              try go_frame
              refine tks (oi := ⟨_, _, _, _, _, _⟩) (v := ?_) 32 rfl (.inl ⟨by rfl, ?_⟩) ?_; rotate_left
              · (intro wS hSw; (try dsimp only at hSw); go_simp); all_goals with_reducible rfl
              try go_frame
              refine tks (oi := ⟨_, _, _, _, _, _⟩) (v := ?_) 33 rfl (.inl ⟨by rfl, ?_⟩) ?_; rotate_left
              · (intro wS hSw; (try dsimp only at hSw); go_simp); all_goals with_reducible rfl
              try go_frame
              refine tks (oi := ⟨_, _, _, _, _, _⟩) (v := ?_) 34 rfl (.inl ⟨by rfl, ?_⟩) ?_; rotate_left
              · (intro wS hSw; (try dsimp only at hSw); go_simp); all_goals with_reducible rfl
              try go_frame
              refine tks (oi := ⟨_, _, _, _, _, _⟩) (v := ?_) 35 rfl (.inl ⟨by rfl, ?_⟩) ?_; rotate_left
              · (intro wS hSw; (try dsimp only at hSw); go_simp); all_goals with_reducible rfl
              try go_frame
              refine tks (oi := ⟨_, _, _, _, _, _⟩) (v := ?_) 36 rfl (.inl ⟨by rfl, ?_⟩) ?_; rotate_left
              · (intro wS hSw; (try dsimp only at hSw); go_simp); all_goals with_reducible rfl
              try go_frame
              refine tks (oi := ⟨_, _, _, _, _, _⟩) (v := ?_) 37 rfl (.inl ⟨by rfl, ?_⟩) ?_; rotate_left
              · (intro wS hSw; (try dsimp only at hSw); go_simp); all_goals with_reducible rfl
              try go_frame
              refine tks (oi := ⟨_, _, _, _, _, _⟩) (v := undef) 38 rfl (.inr ⟨by rfl, rfl⟩) ?_
              try go_frame
              refine tks (oi := ⟨_, _, _, _, _, _⟩) (v := undef) 39 rfl (.inr ⟨by rfl, rfl⟩) ?_
              try go_frame
              refine tks (oi := ⟨_, _, _, _, _, _⟩) (v := undef) 40 rfl (.inr ⟨by rfl, rfl⟩) ?_
              try go_frame
              refine tks (oi := ⟨_, _, _, _, _, _⟩) (v := undef) 41 rfl (.inr ⟨by rfl, rfl⟩) ?_
              try go_frame
              refine tks (oi := ⟨_, _, _, _, _, _⟩) (v := undef) 42 rfl (.inr ⟨by rfl, rfl⟩) ?_
              try go_frame
              refine tks (oi := ⟨_, _, _, _, _, _⟩) (v := undef) 43 rfl (.inr ⟨by rfl, rfl⟩) ?_
              try go_frame
              refine tks (oi := ⟨_, _, _, _, _, _⟩) (v := undef) 44 rfl (.inr ⟨by rfl, rfl⟩) ?_
              try go_frame
              refine tks (oi := ⟨_, _, _, _, _, _⟩) (v := undef) 45 rfl (.inr ⟨by rfl, rfl⟩) ?_
              try go_frame
              refine tks (oi := ⟨_, _, _, _, _, _⟩) (v := undef) 46 rfl (.inr ⟨by rfl, rfl⟩) ?_
              try go_frame
              refine tks (oi := ⟨_, _, _, _, _, _⟩) (v := undef) 47 rfl (.inr ⟨by rfl, rfl⟩) ?_
              try go_frame
              refine tks (oi := ⟨_, _, _, _, _, _⟩) (v := undef) 48 rfl (.inr ⟨by rfl, rfl⟩) ?_
              try go_frame
              refine tks (oi := ⟨_, _, _, _, _, _⟩) (v := undef) 49 rfl (.inr ⟨by rfl, rfl⟩) ?_
              try go_frame
              refine tks (oi := ⟨_, _, _, _, _, _⟩) (v := undef) 50 rfl (.inr ⟨by rfl, rfl⟩) ?_
              try go_frame
              refine tks (oi := ⟨_, _, _, _, _, _⟩) (v := ?_) 51 rfl (.inl ⟨by rfl, ?_⟩) ?_; rotate_left
              · (intro wS hSw; (try dsimp only at hSw); go_simp); all_goals with_reducible rfl
              try go_frame
              refine wpAnyH_done (by kernel_rfl) ?_ _
              clear hHeld
              go_wp2_with fail
              go_ret
              exact ⟨by rw [HIN.out]; rfl, hbel.out.drew⟩
          · have HIN : Hid (R = false) := by
              show _ = _
              rw [← hin']
              simp only [decide_eq_false_iff_not]
              intro h
              exact e2 (HDE.out.1 h).1.2.1
            have f2 : (x.test != y.test) = true := by simp [e2]
            clear e1 e2 hin' hin
            go_wp2_with fail
            refine wp_region_held_drew (S := fun w' => w'.cell? (ad.add (k * 4)) = some (.int .i64 x.axis) ∧ w'.cell? ⟨(ad.add (k * 4)).block, (ad.add (k * 4)).off + 1, none⟩ = some (.int .i64 x.test) ∧ w'.cell? ⟨(ad.add (k * 4)).block, (ad.add (k * 4)).off + 2, none⟩ = some (.string ⟨x.name.toArray⟩) ∧ w'.cell? ⟨(ad.add (k * 4)).block, (ad.add (k * 4)).off + 3, none⟩ = some (.slice A' x.preds.length c') ∧ w'.cell? (bd.add (k * 4)) = some (.int .i64 y.axis) ∧ w'.cell? ⟨(bd.add (k * 4)).block, (bd.add (k * 4)).off + 1, none⟩ = some (.int .i64 y.test) ∧ w'.cell? ⟨(bd.add (k * 4)).block, (bd.add (k * 4)).off + 2, none⟩ = some (.string ⟨y.name.toArray⟩) ∧ w'.cell? ⟨(bd.add (k * 4)).block, (bd.add (k * 4)).off + 3, none⟩ = some (.slice B' y.preds.length d')) (by kernel_rfl) ⟨HX.out.1, HX.out.2.1, HX.out.2.2.1, HX.out.2.2.2, HY.out.1, HY.out.2.1, HY.out.2.2.1, HY.out.2.2.2⟩ (fun hHeld => ?_)
            refine tks (oi := ⟨_, _, _, _, _, _⟩) (v := ?_) 0 rfl (.inl ⟨by rfl, ?_⟩) ?_; rotate_left
            · (intro wS hSw; (try dsimp only at hSw); go_simp); all_goals with_reducible rfl
            try go_frame
            refine tks (oi := ⟨_, _, _, _, _, _⟩) (v := ?_) 1 rfl (.inl ⟨by rfl, ?_⟩) ?_; rotate_left
            · (intro wS hSw; (try dsimp only at hSw); go_simp); all_goals with_reducible rfl
            try go_frame
            refine tks (oi := ⟨_, _, _, _, _, _⟩) (v := ?_) 2 rfl (.inl ⟨by rfl, ?_⟩) ?_; rotate_left
            · (intro wS hSw; (try dsimp only at hSw); go_simp); all_goals with_reducible rfl
            try go_frame
            refine tks (oi := ⟨_, _, _, _, _, _⟩) (v := ?_) 3 rfl (.inl ⟨by rfl, ?_⟩) ?_; rotate_left
            · (intro wS hSw; (try dsimp only at hSw); go_simp); all_goals with_reducible rfl
            try go_frame
            refine tks (oi := ⟨_, _, _, _, _, _⟩) (v := ?_) 4 rfl (.inl ⟨by rfl, ?_⟩) ?_; rotate_left
            · (intro wS hSw; (try dsimp only at hSw); go_simp); all_goals with_reducible rfl
            try go_frame
            refine tks (oi := ⟨_, _, _, _, _, _⟩) (v := ?_) 5 rfl (.inl ⟨by rfl, ?_⟩) ?_; rotate_left
            · (intro wS hSw; (try dsimp only at hSw); go_simp); all_goals with_reducible rfl
            try go_frame
            refine tks (oi := ⟨_, _, _, _, _, _⟩) (v := ?_) 6 rfl (.inl ⟨by rfl, ?_⟩) ?_; rotate_left
            · (intro wS hSw; (try dsimp only at hSw); go_simp); all_goals with_reducible rfl
            try go_frame
            refine tks (oi := ⟨_, _, _, _, _, _⟩) (v := ?_) 7 rfl (.inl ⟨by rfl, ?_⟩) ?_; rotate_left
            · (intro wS hSw; (try dsimp only at hSw); go_simp); all_goals with_reducible rfl
            try go_frame
            refine tks (oi := ⟨_, _, _, _, _, _⟩) (v := ?_) 8 rfl (.inl ⟨by rfl, ?_⟩) ?_; rotate_left
            · (intro wS hSw; (try dsimp only at hSw); go_simp); all_goals with_reducible rfl
            try go_frame
            refine tks (oi := ⟨_, _, _, _, _, _⟩) (v := ?_) 9 rfl (.inl ⟨by rfl, ?_⟩) ?_; rotate_left
            · (intro wS hSw; (try dsimp only at hSw); go_simp); all_goals with_reducible rfl
            try go_frame
            refine tks (oi := ⟨_, _, _, _, _, _⟩) (v := ?_) 10 rfl (.inl ⟨by rfl, ?_⟩) ?_; rotate_left
            · (intro wS hSw; (try dsimp only at hSw); go_simp); all_goals with_reducible rfl
            try go_frame
            refine tks (oi := ⟨_, _, _, _, _, _⟩) (v := ?_) 11 rfl (.inl ⟨by rfl, ?_⟩) ?_; rotate_left
            · (intro wS hSw; (try dsimp only at hSw); go_simp); all_goals with_reducible rfl
            try go_frame
            refine tks (oi := ⟨_, _, _, _, _, _⟩) (v := ?_) 12 rfl (.inl ⟨by rfl, ?_⟩) ?_; rotate_left
            · (intro wS hSw; (try dsimp only at hSw); go_simp); all_goals with_reducible rfl
            try go_frame
            refine tks (oi := ⟨_, _, _, _, _, _⟩) (v := ?_) 13 rfl (.inl ⟨by rfl, ?_⟩) ?_; rotate_left
            · (intro wS hSw; (try dsimp only at hSw); go_simp); all_goals with_reducible rfl
            try go_frame
            refine tks (oi := ⟨_, _, _, _, _, _⟩) (v := ?_) 14 rfl (.inl ⟨by rfl, ?_⟩) ?_; rotate_left
            · (intro wS hSw; (try dsimp only at hSw); go_simp); all_goals with_reducible rfl
            try go_frame
            refine tks (oi := ⟨_, _, _, _, _, _⟩) (v := ?_) 15 rfl (.inl ⟨by rfl, ?_⟩) ?_; rotate_left
            · (intro wS hSw; (try dsimp only at hSw); go_simp); all_goals with_reducible rfl
            try go_frame
            refine tks (oi := ⟨_, _, _, _, _, _⟩) (v := ?_) 16 rfl (.inl ⟨by rfl, ?_⟩) ?_; rotate_left
            · (intro wS hSw; (try dsimp only at hSw); go_simp); all_goals with_reducible rfl
            try go_frame
            refine tks (oi := ⟨_, _, _, _, _, _⟩) (v := ?_) 17 rfl (.inl ⟨by rfl, ?_⟩) ?_; rotate_left
            · (intro wS hSw; (try dsimp only at hSw); go_simp); all_goals with_reducible rfl
            try go_frame
            refine tks (oi := ⟨_, _, _, _, _, _⟩) (v := ?_) 18 rfl (.inl ⟨by rfl, ?_⟩) ?_; rotate_left
            · (intro wS hSw; (try dsimp only at hSw); go_simp); all_goals with_reducible rfl
            try go_frame
            refine tks (oi := ⟨_, _, _, _, _, _⟩) (v := ?_) 19 rfl (.inl ⟨by rfl, ?_⟩) ?_; rotate_left
            · (intro wS hSw; (try dsimp only at hSw); go_simp); all_goals with_reducible rfl
            try go_frame
            refine tks (oi := ⟨_, _, _, _, _, _⟩) (v := ?_) 20 rfl (.inl ⟨by rfl, ?_⟩) ?_; rotate_left
            · (intro wS hSw; (try dsimp only at hSw); go_simp); all_goals with_reducible rfl
            try go_frame
            refine tks (oi := ⟨_, _, _, _, _, _⟩) (v := ?_) 21 rfl (.inl ⟨by rfl, ?_⟩) ?_; rotate_left
            · (intro wS hSw; (try dsimp only at hSw); go_simp); all_goals with_reducible rfl
            try go_frame
            refine tks (oi := ⟨_, _, _, _, _, _⟩) (v := ?_) 22 rfl (.inl ⟨by rfl, ?_⟩) ?_; rotate_left
            · (intro wS hSw; (try dsimp only at hSw); go_simp); all_goals with_reducible rfl
            try go_frame
            refine tks (oi := ⟨_, _, _, _, _, _⟩) (v := ?_) 23 rfl (.inl ⟨by rfl, ?_⟩) ?_; rotate_left
            · (intro wS hSw; (try dsimp only at hSw); go_simp); all_goals with_reducible rfl
            try go_frame
            refine tks (oi := ⟨_, _, _, _, _, _⟩) (v := ?_) 24 rfl (.inl ⟨by rfl, ?_⟩) ?_; rotate_left
            · (intro wS hSw; (try dsimp only at hSw); go_simp); all_goals with_reducible rfl
            try go_frame
            refine tks (oi := ⟨_, _, _, _, _, _⟩) (v := undef) 25 rfl (.inr ⟨by rfl, rfl⟩) ?_
            try go_frame
            refine tks (oi := ⟨_, _, _, _, _, _⟩) (v := undef) 26 rfl (.inr ⟨by rfl, rfl⟩) ?_
            try go_frame
            refine tks (oi := ⟨_, _, _, _, _, _⟩) (v := undef) 27 rfl (.inr ⟨by rfl, rfl⟩) ?_
            try go_frame
            refine tks (oi := ⟨_, _, _, _, _, _⟩) (v := undef) 28 rfl (.inr ⟨by rfl, rfl⟩) ?_
            try go_frame
            refine tks (oi := ⟨_, _, _, _, _, _⟩) (v := undef) 29 rfl (.inr ⟨by rfl, rfl⟩) ?_
            try go_frame
            refine tks (oi := ⟨_, _, _, _, _, _⟩) (v := undef) 30 rfl (.inr ⟨by rfl, rfl⟩) ?_
            try go_frame
            refine tks (oi := ⟨_, _, _, _, _, _⟩) (v := undef) 31 rfl (.inr ⟨by rfl, rfl⟩) ?_
            try go_frame
            refine tks (oi := ⟨_, _, _, _, _, _⟩) (v := undef) 32 rfl (.inr ⟨by rfl, rfl⟩) ?_
            try go_frame
            refine tks (oi := ⟨_, _, _, _, _, _⟩) (v := undef) 33 rfl (.inr ⟨by rfl, rfl⟩) ?_
            try go_frame
            refine tks (oi := ⟨_, _, _, _, _, _⟩) (v := undef) 34 rfl (.inr ⟨by rfl, rfl⟩) ?_
            try go_frame
            refine tks (oi := ⟨_, _, _, _, _, _⟩) (v := undef) 35 rfl (.inr ⟨by rfl, rfl⟩) ?_
            try go_frame
            refine tks (oi := ⟨_, _, _, _, _, _⟩) (v := ?_) 36 rfl (.inl ⟨by rfl, ?_⟩) ?_; rotate_left
            · (intro wS hSw; (try dsimp only at hSw); go_simp); all_goals with_reducible rfl
            try go_frame
            refine tks (oi := ⟨_, _, _, _, _, _⟩) (v := ?_) 37 rfl (.inl ⟨by rfl, ?_⟩) ?_; rotate_left
            · (intro wS hSw; (try dsimp only at hSw); go_simp); all_goals with_reducible rfl
            try go_frame
            refine tks (oi := ⟨_, _, _, _, _, _⟩) (v := undef) 38 rfl (.inr ⟨by rfl, rfl⟩) ?_
            try go_frame
            refine tks (oi := ⟨_, _, _, _, _, _⟩) (v := undef) 39 rfl (.inr ⟨by rfl, rfl⟩) ?_
            try go_frame
            refine tks (oi := ⟨_, _, _, _, _, _⟩) (v := undef) 40 rfl (.inr ⟨by rfl, rfl⟩) ?_
            try go_frame
            refine tks (oi := ⟨_, _, _, _, _, _⟩) (v := undef) 41 rfl (.inr ⟨by rfl, rfl⟩) ?_
            try go_frame
            refine tks (oi := ⟨_, _, _, _, _, _⟩) (v := undef) 42 rfl (.inr ⟨by rfl, rfl⟩) ?_
            try go_frame
            refine tks (oi := ⟨_, _, _, _, _, _⟩) (v := undef) 43 rfl (.inr ⟨by rfl, rfl⟩) ?_
            try go_frame
            refine tks (oi := ⟨_, _, _, _, _, _⟩) (v := undef) 44 rfl (.inr ⟨by rfl, rfl⟩) ?_
            try go_frame
            refine tks (oi := ⟨_, _, _, _, _, _⟩) (v := undef) 45 rfl (.inr ⟨by rfl, rfl⟩) ?_
            try go_frame
            refine tks (oi := ⟨_, _, _, _, _, _⟩) (v := undef) 46 rfl (.inr ⟨by rfl, rfl⟩) ?_
            try go_frame
            refine tks (oi := ⟨_, _, _, _, _, _⟩) (v := undef) 47 rfl (.inr ⟨by rfl, rfl⟩) ?_
            try go_frame
            refine tks (oi := ⟨_, _, _, _, _, _⟩) (v := undef) 48 rfl (.inr ⟨by rfl, rfl⟩) ?_
            try go_frame
            refine tks (oi := ⟨_, _, _, _, _, _⟩) (v := undef) 49 rfl (.inr ⟨by rfl, rfl⟩) ?_
            try go_frame
            refine tks (oi := ⟨_, _, _, _, _, _⟩) (v := undef) 50 rfl (.inr ⟨by rfl, rfl⟩) ?_
            try go_frame
            refine tks (oi := ⟨_, _, _, _, _, _⟩) (v := ?_) 51 rfl (.inl ⟨by rfl, ?_⟩) ?_; rotate_left
            · (intro wS hSw; (try dsimp only at hSw); go_simp); all_goals with_reducible rfl
            try go_frame
            refine wpAnyH_done (by kernel_rfl) ?_ _
            clear hHeld
            go_wp2_with fail
            go_ret
            exact ⟨by rw [HIN.out]; rfl, hbel.out.drew⟩
        · have HIN : Hid (R = false) := by
            show _ = _
            rw [← hin']
            simp only [decide_eq_false_iff_not]
            intro h
            exact e1 (HDE.out.1 h).1.1
          have f1 : (x.axis != y.axis) = true := by simp [e1]
          clear e1 hin' hin
          go_wp2_with fail
          refine wp_region_held_drew (S := fun w' => w'.cell? (ad.add (k * 4)) = some (.int .i64 x.axis) ∧ w'.cell? ⟨(ad.add (k * 4)).block, (ad.add (k * 4)).off + 1, none⟩ = some (.int .i64 x.test) ∧ w'.cell? ⟨(ad.add (k * 4)).block, (ad.add (k * 4)).off + 2, none⟩ = some (.string ⟨x.name.toArray⟩) ∧ w'.cell? ⟨(ad.add (k * 4)).block, (ad.add (k * 4)).off + 3, none⟩ = some (.slice A' x.preds.length c') ∧ w'.cell? (bd.add (k * 4)) = some (.int .i64 y.axis) ∧ w'.cell? ⟨(bd.add (k * 4)).block, (bd.add (k * 4)).off + 1, none⟩ = some (.int .i64 y.test) ∧ w'.cell? ⟨(bd.add (k * 4)).block, (bd.add (k * 4)).off + 2, none⟩ = some (.string ⟨y.name.toArray⟩) ∧ w'.cell? ⟨(bd.add (k * 4)).block, (bd.add (k * 4)).off + 3, none⟩ = some (.slice B' y.preds.length d')) (by kernel_rfl) ⟨HX.out.1, HX.out.2.1, HX.out.2.2.1, HX.out.2.2.2, HY.out.1, HY.out.2.1, HY.out.2.2.1, HY.out.2.2.2⟩ (fun hHeld => ?_)
          refine tks (oi := ⟨_, _, _, _, _, _⟩) (v := ?_) 0 rfl (.inl ⟨by rfl, ?_⟩) ?_; rotate_left
          · (intro wS hSw; (try dsimp only at hSw); go_simp); all_goals with_reducible rfl
          try go_frame
          refine tks (oi := ⟨_, _, _, _, _, _⟩) (v := ?_) 1 rfl (.inl ⟨by rfl, ?_⟩) ?_; rotate_left
          · (intro wS hSw; (try dsimp only at hSw); go_simp); all_goals with_reducible rfl
          try go_frame
          refine tks (oi := ⟨_, _, _, _, _, _⟩) (v := ?_) 2 rfl (.inl ⟨by rfl, ?_⟩) ?_; rotate_left
          · (intro wS hSw; (try dsimp only at hSw); go_simp); all_goals with_reducible rfl
          try go_frame
          refine tks (oi := ⟨_, _, _, _, _, _⟩) (v := ?_) 3 rfl (.inl ⟨by rfl, ?_⟩) ?_; rotate_left
          · (intro wS hSw; (try dsimp only at hSw); go_simp); all_goals with_reducible rfl
          try go_frame
          refine tks (oi := ⟨_, _, _, _, _, _⟩) (v := ?_) 4 rfl (.inl ⟨by rfl, ?_⟩) ?_; rotate_left
          · (intro wS hSw; (try dsimp only at hSw); go_simp); all_goals with_reducible rfl
          try go_frame
          refine tks (oi := ⟨_, _, _, _, _, _⟩) (v := ?_) 5 rfl (.inl ⟨by rfl, ?_⟩) ?_; rotate_left
          · (intro wS hSw; (try dsimp only at hSw); go_simp); all_goals with_reducible rfl
          try go_frame
          refine tks (oi := ⟨_, _, _, _, _, _⟩) (v := ?_) 6 rfl (.inl ⟨by rfl, ?_⟩) ?_; rotate_left
          · (intro wS hSw; (try dsimp only at hSw); go_simp); all_goals with_reducible rfl
          try go_frame
          refine tks (oi := ⟨_, _, _, _, _, _⟩) (v := ?_) 7 rfl (.inl ⟨by rfl, ?_⟩) ?_; rotate_left
          · (intro wS hSw; (try dsimp only at hSw); go_simp); all_goals with_reducible rfl
          try go_frame
          refine tks (oi := ⟨_, _, _, _, _, _⟩) (v := ?_) 8 rfl (.inl ⟨by rfl, ?_⟩) ?_; rotate_left
          · (intro wS hSw; (try dsimp only at hSw); go_simp); all_goals with_reducible rfl
          try go_frame
          refine tks (oi := ⟨_, _, _, _, _, _⟩) (v := ?_) 9 rfl (.inl ⟨by rfl, ?_⟩) ?_; rotate_left
          · (intro wS hSw; (try dsimp only at hSw); go_simp); all_goals with_reducible rfl
          try go_frame
          refine tks (oi := ⟨_, _, _, _, _, _⟩) (v := ?_) 10 rfl (.inl ⟨by rfl, ?_⟩) ?_; rotate_left
          · (intro wS hSw; (try dsimp only at hSw); go_simp); all_goals with_reducible rfl
          try go_frame
          refine tks (oi := ⟨_, _, _, _, _, _⟩) (v := ?_) 11 rfl (.inl ⟨by rfl, ?_⟩) ?_; rotate_left
          · (intro wS hSw; (try dsimp only at hSw); go_simp); all_goals with_reducible rfl
          try go_frame
          refine tks (oi := ⟨_, _, _, _, _, _⟩) (v := undef) 12 rfl (.inr ⟨by rfl, rfl⟩) ?_
          try go_frame
          refine tks (oi := ⟨_, _, _, _, _, _⟩) (v := undef) 13 rfl (.inr ⟨by rfl, rfl⟩) ?_
          try go_frame
          refine tks (oi := ⟨_, _, _, _, _, _⟩) (v := undef) 14 rfl (.inr ⟨by rfl, rfl⟩) ?_
          try go_frame
          refine tks (oi := ⟨_, _, _, _, _, _⟩) (v := undef) 15 rfl (.inr ⟨by rfl, rfl⟩) ?_
          try go_frame
          refine tks (oi := ⟨_, _, _, _, _, _⟩) (v := undef) 16 rfl (.inr ⟨by rfl, rfl⟩) ?_
          try go_frame
          refine tks (oi := ⟨_, _, _, _, _, _⟩) (v := undef) 17 rfl (.inr ⟨by rfl, rfl⟩) ?_
          try go_frame
          refine tks (oi := ⟨_, _, _, _, _, _⟩) (v := undef) 18 rfl (.inr ⟨by rfl, rfl⟩) ?_
          try go_frame
          refine tks (oi := ⟨_, _, _, _, _, _⟩) (v := undef) 19 rfl (.inr ⟨by rfl, rfl⟩) ?_
          try go_frame
          refine tks (oi := ⟨_, _, _, _, _, _⟩) (v := undef) 20 rfl (.inr ⟨by rfl, rfl⟩) ?_
          try go_frame
          refine tks (oi := ⟨_, _, _, _, _, _⟩) (v := undef) 21 rfl (.inr ⟨by rfl, rfl⟩) ?_
          try go_frame
          refine tks (oi := ⟨_, _, _, _, _, _⟩) (v := undef) 22 rfl (.inr ⟨by rfl, rfl⟩) ?_
          try go_frame
          refine tks (oi := ⟨_, _, _, _, _, _⟩) (v := ?_) 23 rfl (.inl ⟨by rfl, ?_⟩) ?_; rotate_left
          · (intro wS hSw; (try dsimp only at hSw); go_simp); all_goals with_reducible rfl
          try go_frame
          refine tks (oi := ⟨_, _, _, _, _, _⟩) (v := ?_) 24 rfl (.inl ⟨by rfl, ?_⟩) ?_; rotate_left
          · (intro wS hSw; (try dsimp only at hSw); go_simp); all_goals with_reducible rfl
          try go_frame
          refine tks (oi := ⟨_, _, _, _, _, _⟩) (v := undef) 25 rfl (.inr ⟨by rfl, rfl⟩) ?_
          try go_frame
          refine tks (oi := ⟨_, _, _, _, _, _⟩) (v := undef) 26 rfl (.inr ⟨by rfl, rfl⟩) ?_
          try go_frame
          refine tks (oi := ⟨_, _, _, _, _, _⟩) (v := undef) 27 rfl (.inr ⟨by rfl, rfl⟩) ?_
          try go_frame
          refine tks (oi := ⟨_, _, _, _, _, _⟩) (v := undef) 28 rfl (.inr ⟨by rfl, rfl⟩) ?_
          try go_frame
          refine tks (oi := ⟨_, _, _, _, _, _⟩) (v := undef) 29 rfl (.inr ⟨by rfl, rfl⟩) ?_
          try go_frame
          refine tks (oi := ⟨_, _, _, _, _, _⟩) (v := undef) 30 rfl (.inr ⟨by rfl, rfl⟩) ?_
          try go_frame
          refine tks (oi := ⟨_, _, _, _, _, _⟩) (v := undef) 31 rfl (.inr ⟨by rfl, rfl⟩) ?_
          try go_frame
          refine tks (oi := ⟨_, _, _, _, _, _⟩) (v := undef) 32 rfl (.inr ⟨by rfl, rfl⟩) ?_
          try go_frame
          refine tks (oi := ⟨_, _, _, _, _, _⟩) (v := undef) 33 rfl (.inr ⟨by rfl, rfl⟩) ?_
          try go_frame
          refine tks (oi := ⟨_, _, _, _, _, _⟩) (v := undef) 34 rfl (.inr ⟨by rfl, rfl⟩) ?_
          try go_frame
          refine tks (oi := ⟨_, _, _, _, _, _⟩) (v := undef) 35 rfl (.inr ⟨by rfl, rfl⟩) ?_
          try go_frame
          refine tks (oi := ⟨_, _, _, _, _, _⟩) (v := ?_) 36 rfl (.inl ⟨by rfl, ?_⟩) ?_; rotate_left
          · (intro wS hSw; (try dsimp only at hSw); go_simp); all_goals with_reducible rfl
          try go_frame
          refine tks (oi := ⟨_, _, _, _, _, _⟩) (v := ?_) 37 rfl (.inl ⟨by rfl, ?_⟩) ?_; rotate_left
          · (intro wS hSw; (try dsimp only at hSw); go_simp); all_goals with_reducible rfl
          try go_frame
          refine tks (oi := ⟨_, _, _, _, _, _⟩) (v := undef) 38 rfl (.inr ⟨by rfl, rfl⟩) ?_
          try go_frame
          refine tks (oi := ⟨_, _, _, _, _, _⟩) (v := undef) 39 rfl (.inr ⟨by rfl, rfl⟩) ?_
          try go_frame
          refine tks (oi := ⟨_, _, _, _, _, _⟩) (v := undef) 40 rfl (.inr ⟨by rfl, rfl⟩) ?_
          try go_frame
          refine tks (oi := ⟨_, _, _, _, _, _⟩) (v := undef) 41 rfl (.inr ⟨by rfl, rfl⟩) ?_
          try go_frame
          refine tks (oi := ⟨_, _, _, _, _, _⟩) (v := undef) 42 rfl (.inr ⟨by rfl, rfl⟩) ?_
          try go_frame
          refine tks (oi := ⟨_, _, _, _, _, _⟩) (v := undef) 43 rfl (.inr ⟨by rfl, rfl⟩) ?_
          try go_frame
          refine tks (oi := ⟨_, _, _, _, _, _⟩) (v := undef) 44 rfl (.inr ⟨by rfl, rfl⟩) ?_
          try go_frame
          refine tks (oi := ⟨_, _, _, _, _, _⟩) (v := undef) 45 rfl (.inr ⟨by rfl, rfl⟩) ?_
          try go_frame
          refine tks (oi := ⟨_, _, _, _, _, _⟩) (v := undef) 46 rfl (.inr ⟨by rfl, rfl⟩) ?_
          try go_frame
          refine tks (oi := ⟨_, _, _, _, _, _⟩) (v := undef) 47 rfl (.inr ⟨by rfl, rfl⟩) ?_
          try go_frame
          refine tks (oi := ⟨_, _, _, _, _, _⟩) (v := undef) 48 rfl (.inr ⟨by rfl, rfl⟩) ?_
          try go_frame
          refine tks (oi := ⟨_, _, _, _, _, _⟩) (v := undef) 49 rfl (.inr ⟨by rfl, rfl⟩) ?_
          try go_frame
          refine tks (oi := ⟨_, _, _, _, _, _⟩) (v := undef) 50 rfl (.inr ⟨by rfl, rfl⟩) ?_
          try go_frame
          refine tks (oi := ⟨_, _, _, _, _, _⟩) (v := ?_) 51 rfl (.inl ⟨by rfl, ?_⟩) ?_; rotate_left
          · (intro wS hSw; (try dsimp only at hSw); go_simp); all_goals with_reducible rfl
          try go_frame
          refine wpAnyH_done (by kernel_rfl) ?_ _
          clear hHeld
          go_wp2_with fail
          go_ret
          exact ⟨by rw [HIN.out]; rfl, hbel.out.drew⟩
      · have HIN : Hid (R = true) := by
          show _ = _
          have := HNE.out
          rw [← hin.out, List.drop_eq_nil_of_le (by omega), List.drop_eq_nil_of_le (by omega)]; rfl
        have hk1 : (l.length : Int) ≤ k := by omega
        clear hin
        go_wp2_with fail
        go_ret
        exact ⟨by rw [HIN.out]; rfl, hbel.out⟩
  · have HIN : Hid (R = false) := by
      show _ = _
      rw [← hR.out]
      simp only [decide_eq_false_iff_not]
      intro h
      exact hne (by rw [h])
    have t0 : ((l.length : Int) != m.length) = true := by simp; omega
    clear hne hR
    go_enter Tryd.func15, Tryd.ntmps15
    go_wp2_with fail
    go_ret
    exact ⟨by rw [HIN.out]; rfl, Below.refl _ _⟩
end Go.Proofs.YtpfhdklbhhpbcaaDoor

/-
  The law PathqAgain walked.
-/
namespace Go.Proofs.YtpfhdklbhhpbcaaDoor
open Go.RowKit

/-! What was read is small. -/
theorem undoF_len (v : Bool) : ∀ (f : Nat) (l : List UInt8), (undoF v f l).1.length ≤ 4 * l.length
  | 0, _ => by simp [undoF]
  | f + 1, l => by
    rw [undoF]
    split
    · simp
    · cases hs : stepL v l with
      | inl e => simp
      | inr q =>
        obtain ⟨t, n⟩ := q
        obtain ⟨h1, h2, h3⟩ := stepL_pos hs
        have ih := undoF_len v f (l.drop n)
        rw [List.length_drop] at ih
        simp only
        split
        · simp only [List.length_append]; omega
        · simp
theorem qvalue_len {l s : List UInt8} {n : Nat} (h : qvalue l = .ok s n) : s.length ≤ 4 * l.length := by
  unfold qvalue at h
  split at h
  · cases h
  simp only at h
  split at h
  · cases h
  split at h
  · cases h
  injection h with h _
  subst h
  have h1 := undoF_len true ((l.drop 1).takeWhile (· != 34)).length ((l.drop 1).takeWhile (· != 34))
  have h2 := takeWhile_len (· != 34) (l.drop 1)
  rw [List.length_drop] at h2
  show (undoF true _ _).1.length ≤ _
  omega
theorem qattr_len {l : List UInt8} {p : PredD} {n : Nat} (h : qattr l = .ok p n) : p.value.length ≤ 4 * l.length := by
  unfold qattr at h
  split at h
  · cases h
  split at h
  · injection h with h _; subst h; simp
  · split at h
    · cases h
    rename_i v k hv
    have h1 := qvalue_len hv
    rw [List.length_drop] at h1
    injection h with h _
    subst h
    show v.length ≤ _
    omega
theorem qpred_len {l : List UInt8} {p : PredD} {n : Nat} (h : qpred l = .ok p n) : p.value.length ≤ 4 * l.length := by
  unfold qpred at h
  split at h
  · obtain ⟨m, h1, _⟩ := past_ok h
    have := qattr_len h1
    rw [List.length_drop] at this; omega
  split at h
  · injection h with h _; subst h; simp
  split at h
  · split at h
    · cases h
    split at h
    · cases h
    rename_i v k hv
    have h1 := qvalue_len hv
    rw [List.length_drop] at h1
    injection h with h _
    subst h
    show v.length ≤ _
    omega
  · split at h
    · cases h
    · injection h with h _; subst h; simp
theorem qpredsF_len (N : Nat) : ∀ (f : Nat) (l : List UInt8) (ps qs : List PredD) (n : Nat), 4 * l.length ≤ N → qpredsF f l ps = .ok qs n → (∀ p ∈ ps, p.value.length ≤ N) → ∀ p ∈ qs, p.value.length ≤ N
  | 0, _, _, _, _, _, h, _ => by cases h
  | f + 1, l, ps, qs, n, hN, h, hp => by
    rw [qpredsF] at h
    split at h
    · injection h with h _; subst h; exact hp
    split at h
    · cases h
    split at h
    · cases h
    rename_i p k hq
    split at h
    · cases h
    obtain ⟨m, h1, _⟩ := past_ok h
    refine qpredsF_len N f _ _ _ _ (by rw [List.length_drop]; omega) h1 (fun x hx => ?_)
    rcases List.mem_append.1 hx with hx | hx
    · exact hp x hx
    · simp at hx; subst hx
      have := qpred_len hq
      rw [List.length_drop] at this; omega
theorem qstep_len {l : List UInt8} {s : StepD} {n : Nat} (h : qstep l = .ok s n) : ∀ p ∈ s.preds, p.value.length ≤ 4 * l.length := by
  unfold qstep at h
  split at h
  · injection h with h _; subst h; intro p hp; cases hp
  split at h
  · injection h with h _; subst h; intro p hp; cases hp
  simp only at h
  split at h
  · cases h
  split at h
  · cases h
  rename_i ps k hps
  injection h with h _
  subst h
  exact qpredsF_len (4 * l.length) _ _ _ _ _ (by rw [List.length_drop]; omega) hps (fun _ h => by cases h)
theorem qone_len (N : Nat) {l : List UInt8} {ls ls' : List StepD} {n : Nat} (hN : 4 * l.length ≤ N) (h : qone l ls = .ok ls' n) (hp : ∀ s ∈ ls, ∀ p ∈ s.preds, p.value.length ≤ N) : ∀ s ∈ ls', ∀ p ∈ s.preds, p.value.length ≤ N := by
  obtain ⟨ms, s, k, m, rfl, _, hs, hm⟩ := qone_parts h
  intro x hx
  rcases List.mem_append.1 hx with hx | hx
  · rcases hm with rfl | rfl
    · exact hp x hx
    · rcases List.mem_append.1 hx with hx | hx
      · exact hp x hx
      · simp at hx; subst hx; intro p hp'; cases hp'
  · simp at hx; subst hx
    intro p hp'
    have := qstep_len hs p hp'
    rw [List.length_drop] at this; omega
theorem qallF_len (N : Nat) : ∀ (f : Nat) (l : List UInt8) (ls ls' : List StepD) (n : Nat), 4 * l.length ≤ N → qallF f l ls = .ok ls' n → (∀ s ∈ ls, ∀ p ∈ s.preds, p.value.length ≤ N) → ∀ s ∈ ls', ∀ p ∈ s.preds, p.value.length ≤ N
  | 0, _, _, _, _, _, h, _ => by cases h
  | f + 1, l, ls, ls', n, hN, h, hp => by
    rw [qallF] at h
    cases hq : qone l ls with
    | bad k e => rw [hq] at h; cases h
    | ok ms k =>
      rw [hq] at h
      simp only at h
      have h1 := qone_len N hN hq hp
      split at h
      · injection h with h _; subst h; exact h1
      · obtain ⟨m, h2, _⟩ := past_ok h
        exact qallF_len N f _ _ _ _ (by rw [List.length_drop]; omega) h2 h1
theorem query_small {l : List UInt8} (h : (queryL l).2.2 = 0) : SmallSteps (queryL l).1 ∧ fitQ (queryL l).1 := by
  obtain ⟨hl, n, hq⟩ := query_ok h
  obtain ⟨hr, _⟩ := query_right h
  have hv := qallF_len 800 _ _ _ _ _ (by omega) hq (fun _ h => by cases h)
  unfold rightL at hr
  simp only [Bool.and_eq_true, decide_eq_true_eq, List.all_eq_true] at hr
  obtain ⟨hs, _, h20⟩ := hr
  have hname : ∀ {s : List UInt8}, nameL s = true → s.length ≤ 60 := fun h => nameL_len h
  have hpred : ∀ s ∈ (queryL l).1, ∀ p ∈ s.preds, p.name.length ≤ 60 ∧ p.value.length ≤ 800 := fun s hsm p hp => by
    refine ⟨?_, hv s hsm p hp⟩
    have h1 := hs s hsm
    unfold stepB at h1
    simp only [Bool.and_eq_true, List.all_eq_true] at h1
    have h2 := h1.2 p hp
    unfold predB at h2
    split at h2
    · simp only [Bool.and_eq_true, decide_eq_true_eq] at h2; rw [h2.2.1]; simp
    split at h2
    · simp only [decide_eq_true_eq] at h2; rw [h2.2.1]; simp
    split at h2
    · simp only [Bool.and_eq_true] at h2; exact hname h2.1
    split at h2
    · simp only [Bool.and_eq_true] at h2; exact hname h2.1
    split at h2
    · simp only [Bool.and_eq_true, decide_eq_true_eq] at h2; rw [h2.2.2]; simp
    · cases h2
  have hstep : ∀ s ∈ (queryL l).1, s.name.length ≤ 60 ∧ s.preds.length ≤ 5 := fun s hsm => by
    have h1 := hs s hsm
    unfold stepB at h1
    simp only [Bool.and_eq_true, decide_eq_true_eq] at h1
    refine ⟨?_, h1.1.2⟩
    have h2 := h1.1.1.2
    split at h2
    · exact hname h2
    · have : s.name = [] := by simpa using h2
      rw [this]; simp
  refine ⟨⟨by omega, fun s hsm => ⟨by have := (hstep s hsm).1; omega, by have := (hstep s hsm).2; omega, fun p hp => ⟨by have := (hpred s hsm p hp).1; omega, by have := (hpred s hsm p hp).2; omega⟩⟩⟩, ?_⟩
  -- how long it is, written
  have hpT : ∀ s ∈ (queryL l).1, ∀ p ∈ s.preds, (predT p).length ≤ 10000 := fun s hsm p hp => by
    obtain ⟨h1, h2⟩ := hpred s hsm p hp
    have h3 := esc_fit true p.value
    have h3' : (escV p.value).length ≤ 6 * p.value.length := h3
    unfold predT
    split
    · rename_i hk
      have h4 := hs s hsm
      unfold stepB at h4
      simp only [Bool.and_eq_true, List.all_eq_true] at h4
      have h5 := h4.2 p hp
      unfold predB at h5
      rw [if_pos hk] at h5
      simp only [Bool.and_eq_true, decide_eq_true_eq] at h5
      have h6 := ndig_le p.num.toNat (by omega)
      rw [← Lib.decDigits_length] at h6
      simp only [List.length_append, List.length_singleton]; omega
    split
    · decide
    split
    · simp only [List.length_append, List.length_cons, List.length_nil]; omega
    split
    · simp only [List.length_append, List.length_cons, List.length_nil]; omega
    · simp only [List.length_append, List.length_cons, List.length_nil, tText]; omega
  have hflat : ∀ (ps : List PredD) (M : Nat), (∀ p ∈ ps, (predT p).length ≤ M) → (ps.flatMap predT).length ≤ ps.length * M := by
    intro ps M h
    induction ps with
    | nil => simp
    | cons p ps ih =>
      have h1 := h p (by simp)
      have h2 := ih (fun q hq => h q (by simp [hq]))
      rw [List.flatMap_cons, List.length_append, List.length_cons, Nat.add_mul]; omega
  have hax : ∀ k, (axisT k).length ≤ 100 := fun k => by
    match k with
    | 0 => decide
    | 1 => decide
    | 2 => decide
    | 3 => decide
    | 4 => decide
    | 5 => decide
    | 6 => decide
    | 7 => decide
    | 8 => decide
    | n + 9 => exact Nat.zero_le _
  have hte : ∀ k : Int, (testT k).length ≤ 100 := fun k => by
    unfold testT
    split <;> decide
  have hsT : ∀ s ∈ (queryL l).1, (stepT s).length ≤ 100000 := fun s hsm => by
    obtain ⟨h1, h2⟩ := hstep s hsm
    have h3 := hflat s.preds 10000 (hpT s hsm)
    have h4 : s.preds.length * 10000 ≤ 5 * 10000 := Nat.mul_le_mul_right _ h2
    have h5 := hax s.axis.toNat
    have h6 := hte s.test
    unfold stepT
    simp only [List.length_append, List.length_singleton]
    omega
  have hall : ∀ (ls : List StepD), (∀ s ∈ ls, (stepT s).length ≤ 100000) → (queryT ls).length ≤ ls.length * 100000 := by
    intro ls h
    induction ls with
    | nil => simp [queryT]
    | cons s ls ih =>
      have h1 := h s (by simp)
      have h2 := ih (fun q hq => h q (by simp [hq]))
      show (stepT s ++ queryT ls).length ≤ _
      rw [List.length_append, List.length_cons, Nat.add_mul]; omega
  unfold fitQ
  have h7 := hall _ hsT
  have h8 : (queryL l).1.length * 100000 ≤ 20 * 100000 := Nat.mul_le_mul_right _ h20
  omega

theorem steps_at {w : World} {B : Nat} {A : Option Addr} {c : Nat} {S : List QSlot} (h : StepsOwn w B A c S) (hp : SPreds w B S) : StepsAt w w.heap.size A (S.map (·.1)) := h.at hp

set_option maxRecDepth 100000 in
set_option maxHeartbeats 4000000 in
theorem walk_PathqAgain (s : ByteArray) (w : World) (hm : s.size ≤ maxLen) (htab : Tab w) : Calls Tryd.prog 5 #[.string s] w (Ret w (.bool true)) := by
  have HTAB := Lib.hid htab
  obtain ⟨R, hR⟩ : ∃ R, Hid (queryL s.data.toList = R) := ⟨_, rfl⟩
  clear htab
  go_enter Tryd.func5, Tryd.ntmps5
  go_wp2_with fail
  refine (Parse_any s w hm R hR).mono ?_
  rintro e w1 ⟨hb1, hp1⟩
  have hT1 := Lib.hid (HTAB.out.keep hb1)
  rcases hp1 with ⟨h0, A, c, S, rfl, hs1, hsp1, hm1⟩ | ⟨h, rfl⟩
  · have hq0 : (queryL s.data.toList).2.2 = 0 := by rw [hR.out]; exact h0
    obtain ⟨l, hl⟩ : ∃ l, Hid ((queryL s.data.toList).1 = l) := ⟨_, rfl⟩
    have hSl : S.map (·.1) = l := by rw [hm1, ← hR.out, hl.out]
    have hlen : Hid (S.length = l.length) := by show _ = _; rw [← hSl, List.length_map]
    have HAT : Hid (StepsAt w1 w1.heap.size A l) := by show StepsAt _ _ _ _; rw [← hSl]; exact hs1.at hsp1
    obtain ⟨hsm, hfit⟩ := query_small hq0
    rw [hl.out] at hsm hfit
    have hrt := (query_right hq0).1
    rw [hl.out] at hrt
    have HSM := Lib.hid hsm
    have HFIT := Lib.hid hfit
    have HRT : Hid (rightL l = true) := hrt
    obtain ⟨T, hT⟩ : ∃ T, Hid (queryT l = T) := ⟨_, rfl⟩
    clear hs1 hsp1 hm1 hSl h0 hq0 hsm hfit hrt
    go_wp2_with fail
    rw [hlen.out]
    refine (Print_any l A c w1 HAT.out HSM.out HFIT.out hT1.out true HRT T (show Hid ((if true then queryT l else []) = T) from hT.out)).mono ?_
    rintro e w2 ⟨rfl, hb2⟩
    have hw2 := Lib.hid (hb1.trans (hb2.mono hb1.size))
    have hT2 := Lib.hid (hT1.out.keep hb2)
    have HAT2 : Hid (StepsAt w2 w2.heap.size A l) := HAT.out.later hb2
    have htl : T.length ≤ 100000000000000 := by rw [← hT.out]; exact HFIT.out
    have htm : (⟨T.toArray⟩ : ByteArray).size ≤ maxLen := by show T.toArray.size ≤ maxLen; unfold maxLen; simp; omega
    by_cases h200 : 200 < T.length
    · have HQ2 : Hid (queryL (⟨T.toArray⟩ : ByteArray).data.toList = ([], 0, 71)) := by
        show queryL T = _
        exact query_long h200
      have t200 : (200 : Int) < (T.length : Int) := by omega
      clear h200
      go_wp2_with fail
      refine (Parse_any ⟨T.toArray⟩ w2 htm _ HQ2).mono ?_
      rintro e w3 ⟨hb3, hp3⟩
      rcases hp3 with ⟨h, _⟩ | ⟨_, rfl⟩
      · have h' : (71 : Int) = 0 := h
        exact absurd h' (by decide)
      have hw3 := Lib.hid (hw2.out.trans (hb3.mono hw2.out.size))
      have HAT3 : Hid (StepsAt w3 w3.heap.size A l) := HAT2.out.later hb3
      go_wp2_with fail
      refine (alive7_any w3 (hT2.out.keep hb3)).mono ?_
      rintro e w4 ⟨rfl, hb4⟩
      have hw4 := Lib.hid (hw3.out.trans (hb4.mono hw3.out.size))
      go_wp2_with fail
      try rw [hlen.out]
      refine (Right_any l A c w4 (HAT3.out.later hb4) HSM.out true HRT).mono ?_
      rintro e w5 ⟨rfl, hb5⟩
      go_wp2_with fail
      go_ret
      exact ⟨rfl, hw4.out.trans (hb5.mono hw4.out.size)⟩
    · have HQ2 : Hid (queryL (⟨T.toArray⟩ : ByteArray).data.toList = (l, 0, 0)) := by
        show queryL T = _
        rw [← hT.out]
        exact query_back HRT.out (by rw [hT.out]; omega)
      have t200 : (T.length : Int) ≤ 200 := by omega
      clear h200
      go_wp2_with fail
      refine (Parse_any ⟨T.toArray⟩ w2 htm _ HQ2).mono ?_
      rintro e w3 ⟨hb3, hp3⟩
      rcases hp3 with ⟨_, A3, c3, S3, rfl, hs3, hsp3, hm3⟩ | ⟨h, _⟩
      case inr => exact absurd rfl h
      have hm3' : S3.map (·.1) = l := hm3
      have hlen3 : Hid (S3.length = l.length) := by show _ = _; rw [← hm3', List.length_map]
      have HAT3' : Hid (StepsAt w3 w3.heap.size A3 l) := by show StepsAt _ _ _ _; rw [← hm3']; exact hs3.at hsp3
      have hw3 := Lib.hid (hw2.out.trans (hb3.mono hw2.out.size))
      have HAT3 : Hid (StepsAt w3 w3.heap.size A l) := HAT2.out.later hb3
      clear hs3 hsp3 hm3 hm3'
      go_wp2_with fail
      refine (alive7_any w3 (hT2.out.keep hb3)).mono ?_
      rintro e w4 ⟨rfl, hb4⟩
      have hw4 := Lib.hid (hw3.out.trans (hb4.mono hw3.out.size))
      have HAT4 := Lib.hid (HAT3.out.later hb4)
      have HAT4' := Lib.hid (HAT3'.out.later hb4)
      go_wp2_with fail
      try rw [hlen.out]
      refine (Right_any l A c w4 HAT4.out HSM.out true HRT).mono ?_
      rintro e w5 ⟨rfl, hb5⟩
      have hw5 := Lib.hid (hw4.out.trans (hb5.mono hw4.out.size))
      go_wp2_with fail
      rw [hlen3.out]
      try rw [hlen.out]
      refine (Same7_any l l A A3 c c3 w5 (HAT4.out.later hb5) (HAT4'.out.later hb5) HSM.out HSM.out true (by show _ = _; simp)).mono ?_
      rintro e w6 ⟨rfl, hb6⟩
      go_wp2_with fail
      go_ret
      exact ⟨rfl, hw5.out.trans (hb6.mono hw5.out.size)⟩
  · obtain ⟨l, k, c⟩ := R
    have h0 : (c != 0) = true := by simpa using h
    have h1 : (c == 0) = false := by simpa using h
    clear h
    go_wp2_with fail
    refine (alive7_any w1 hT1.out).mono ?_
    rintro e w2 ⟨rfl, hb2⟩
    go_wp2_with fail
    go_ret
    exact ⟨rfl, hb1.trans (hb2.mono hb1.size)⟩
end Go.Proofs.YtpfhdklbhhpbcaaDoor
