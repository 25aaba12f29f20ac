/-
  Texts of this claim, joined (by a program of the claim's author): SameA, SameQ, SameP, ShelfI, ShelfP, Refer, Undo, IdemPlain, LawPlain.
-/
import Derived.Test.YthifddkmbjnncaaS1
import Derived.Test.YthifddkmbjnncaaS2
import Derived.Deep.RegionHeld3
import Derived.Laws.StructEq
import Derived.Test.YthifddkmbjnncaaS4
import Derived.Shelf.Small.Strs
import Derived.Test.YthifddkmbjnncaaProg
import Derived.Shelf.Strings.Prefix
import Derived.ScopeJumps
/-
  The walks of ref03.SameAttrs and of slices.Equal at attributes.
-/
namespace Go.Proofs.Ythifddkmbjnncaa
open Go.RowKit

theorem beq_str (a c : List UInt8) : (ByteArray.toList ⟨a.toArray⟩ == ByteArray.toList ⟨c.toArray⟩) = decide (a = c) := by
  rw [ByteArray.toList_eq, ByteArray.toList_eq]
  show (a.toArray.toList == c.toArray.toList) = _
  cases h : (a == c) <;> simp_all

theorem attr_neq (a b c d : List UInt8) (w : World) : (binOp .neq 44 (.agg #[.string ⟨a.toArray⟩, .string ⟨b.toArray⟩]) (.agg #[.string ⟨c.toArray⟩, .string ⟨d.toArray⟩])).run Try.prog w = .ok (.bool (!(decide (a = c) && decide (b = d)))) w := by
  rw [run_neq_struct, run_equalIn_struct w 9999 _ _ _ (by kernel_rfl) (by kernel_rfl)]
  rw [← beq_str a c, ← beq_str b d]
  generalize (⟨a.toArray⟩ : ByteArray) = x
  generalize (⟨b.toArray⟩ : ByteArray) = y
  generalize (⟨c.toArray⟩ : ByteArray) = z
  generalize (⟨d.toArray⟩ : ByteArray) = v
  simp [go_sem]
  by_cases h1 : x.toList = z.toList <;> by_cases h2 : y.toList = v.toList <;> simp [h1, h2]

set_option maxRecDepth 100000 in
set_option maxHeartbeats 2000000 in
theorem SameAttrs_any (l m : List AttrD) (A B : Option Addr) (c d : Nat) (w : World) (hA : AttrsAt w w.heap.size A l) (hB : AttrsAt w w.heap.size B m) (hl : l.length ≤ 1000000000) (hm : m.length ≤ 1000000000) (R : Bool) (hR : Hid (decide (l = m) = R)) :
    Calls Try.prog 39 #[.slice A l.length c, .slice B m.length d] w (Ret w (.bool R)) := by
  have HA := Lib.hid hA
  have HB := Lib.hid hB
  clear hA hB
  by_cases hne : l.length = m.length
  · have hR0 : Hid (decide (l.drop 0 = m.drop 0) = R) := hR
    have t0 : ((l.length : Int) != m.length) = false := by simp [hne]
    have HNE := Lib.hid hne
    clear hne hR
    go_enter Try.func39, Try.ntmps39
    go_wp2_with fail
    go_loopw [5] (fun i wr => ∃ (k : Nat), k ≤ l.length ∧ i = .int .i64 k ∧ Hid (decide (l.drop k = m.drop k) = R) ∧ Below w.heap.size w wr) (fun i _ => l.length - (intOf i).toNat)
    case atStart => exact ⟨0, Nat.zero_le _, rfl, hR0, Below.refl _ _⟩
    case round =>
      obtain ⟨k, hk, rfl, hin, hbel⟩ := hrel
      have hzr := hbel.size
      by_cases hlt : k < l.length
      · have hlm : k < m.length := by have := HNE.out; omega
        obtain ⟨a, ha⟩ : ∃ a, Hid (l[k]? = some a) := ⟨l[k], List.getElem?_eq_getElem _⟩
        obtain ⟨b, hb⟩ : ∃ b, Hid (m[k]? = some b) := ⟨m[k], List.getElem?_eq_getElem _⟩
        obtain ⟨ad, hAd, hab, hac⟩ := HA.out (by omega)
        obtain ⟨bd, hBd, hbb, hbc⟩ := HB.out (by omega)
        subst hAd; subst hBd
        have hlt' : (k : Int) < l.length := by omega
        have hlm' : (k : Int) < m.length := by omega
        have hk0 : (0 : Int) ≤ (k : Int) := by omega
        have HS : Hid (wr.drew.cell? (ad.add (k * 2)) = some (.string ⟨a.name.toArray⟩) ∧ wr.drew.cell? ⟨(ad.add (k * 2)).block, (ad.add (k * 2)).off + 1, none⟩ = some (.string ⟨a.value.toArray⟩) ∧ wr.drew.cell? (bd.add (k * 2)) = some (.string ⟨b.name.toArray⟩) ∧ wr.drew.cell? ⟨(bd.add (k * 2)).block, (bd.add (k * 2)).off + 1, none⟩ = some (.string ⟨b.value.toArray⟩)) := by
          have hb' := hbel.drew
          refine ⟨?_, ?_, ?_, ?_⟩
          · rw [hb'.cell (by rw [block_of_add]; exact hab)]; exact (hac k a ha.out).1
          · rw [hb'.cell (by show (ad.add _).block < _; rw [block_of_add]; exact hab)]; exact (hac k a ha.out).2
          · rw [hb'.cell (by rw [block_of_add]; exact hbb)]; exact (hbc k b hb.out).1
          · rw [hb'.cell (by show (bd.add _).block < _; rw [block_of_add]; exact hbb)]; exact (hbc k b hb.out).2
        clear hac hbc
        have hin' := hin.out
        rw [drop_cons ha.out, drop_cons hb.out] at hin'
        have hneq := fun w' => attr_neq a.name a.value b.name b.value w'
        by_cases he : a.name = b.name ∧ a.value = b.value
        · have HIN : Hid (decide (l.drop (k + 1) = m.drop (k + 1)) = R) := by
            show _ = _
            rw [← hin']
            have : a = b := by cases a; cases b; simp_all
            simp [this]
          have he' : (decide (a.name = b.name) && decide (a.value = b.value)) = true := by simpa using he
          simp only [he', Bool.not_true] at hneq
          clear he he' hin' hin
          go_wp2_with fail
          refine wp_region_held_drew (S := fun w' => w'.cell? (ad.add (k * 2)) = some (.string ⟨a.name.toArray⟩) ∧ w'.cell? ⟨(ad.add (k * 2)).block, (ad.add (k * 2)).off + 1, none⟩ = some (.string ⟨a.value.toArray⟩) ∧ w'.cell? (bd.add (k * 2)) = some (.string ⟨b.name.toArray⟩) ∧ w'.cell? ⟨(bd.add (k * 2)).block, (bd.add (k * 2)).off + 1, none⟩ = some (.string ⟨b.value.toArray⟩)) (by kernel_rfl) HS.out (fun hHeld => ?_)
          refine tks (oi := ⟨_, _, _, _, _, _⟩) (v := ?_) 0 rfl (.inl ⟨by rfl, ?_⟩) ?_; rotate_left
          · (intro wS hSw; (try dsimp only at hSw); go_simp); all_goals with_reducible rfl
          try go_frame
          refine tks (oi := ⟨_, _, _, _, _, _⟩) (v := ?_) 1 rfl (.inl ⟨by rfl, ?_⟩) ?_; rotate_left
          · (intro wS hSw; (try dsimp only at hSw); go_simp); all_goals with_reducible rfl
          try go_frame
          refine tks (oi := ⟨_, _, _, _, _, _⟩) (v := ?_) 2 rfl (.inl ⟨by rfl, ?_⟩) ?_; rotate_left
          · (intro wS hSw; (try dsimp only at hSw); go_simp); all_goals with_reducible rfl
          try go_frame
          refine tks (oi := ⟨_, _, _, _, _, _⟩) (v := ?_) 3 rfl (.inl ⟨by rfl, ?_⟩) ?_; rotate_left
          · (intro wS hSw; (try dsimp only at hSw); go_simp); all_goals with_reducible rfl
          try go_frame
          refine tks (oi := ⟨_, _, _, _, _, _⟩) (v := ?_) 4 rfl (.inl ⟨by rfl, ?_⟩) ?_; rotate_left
          · (intro wS hSw; (try dsimp only at hSw); go_simp); all_goals with_reducible rfl
          try go_frame
          refine tks (oi := ⟨_, _, _, _, _, _⟩) (v := ?_) 5 rfl (.inl ⟨by rfl, ?_⟩) ?_; rotate_left
          · (intro wS hSw; (try dsimp only at hSw); go_simp); all_goals with_reducible rfl
          try go_frame
          refine tks (oi := ⟨_, _, _, _, _, _⟩) (v := ?_) 6 rfl (.inl ⟨by rfl, ?_⟩) ?_; rotate_left
          · (intro wS hSw; (try dsimp only at hSw); go_simp); all_goals with_reducible rfl
          try go_frame
          refine tks (oi := ⟨_, _, _, _, _, _⟩) (v := ?_) 7 rfl (.inl ⟨by rfl, ?_⟩) ?_; rotate_left
          · (intro wS hSw; (try dsimp only at hSw); go_simp); all_goals with_reducible rfl
          try go_frame
          refine tks (oi := ⟨_, _, _, _, _, _⟩) (v := ?_) 8 rfl (.inl ⟨by rfl, ?_⟩) ?_; rotate_left
          · (intro wS hSw; (try dsimp only at hSw); go_simp); all_goals with_reducible rfl
          try go_frame
          refine wpAnyH_done (by kernel_rfl) ?_ _
          clear hneq hHeld
          go_wp2_with fail
          go_roundw
          case rel => exact ⟨k + 1, by omega, by go_num, HIN, hbel.drew⟩
          case measure => simp [intOf]; omega
        · have HIN : Hid (R = false) := by
            show _ = _
            rw [← hin']
            have : a ≠ b := fun h => he (by rw [h]; exact ⟨rfl, rfl⟩)
            simp [this]
          have he' : (decide (a.name = b.name) && decide (a.value = b.value)) = false := by
            cases h : (decide (a.name = b.name) && decide (a.value = b.value)) with
            | false => rfl
            | true => exact absurd (by simpa using h) he
          simp only [he', Bool.not_false] at hneq
          clear he he' hin' hin
          go_wp2_with fail
          refine wp_region_held_drew (S := fun w' => w'.cell? (ad.add (k * 2)) = some (.string ⟨a.name.toArray⟩) ∧ w'.cell? ⟨(ad.add (k * 2)).block, (ad.add (k * 2)).off + 1, none⟩ = some (.string ⟨a.value.toArray⟩) ∧ w'.cell? (bd.add (k * 2)) = some (.string ⟨b.name.toArray⟩) ∧ w'.cell? ⟨(bd.add (k * 2)).block, (bd.add (k * 2)).off + 1, none⟩ = some (.string ⟨b.value.toArray⟩)) (by kernel_rfl) HS.out (fun hHeld => ?_)
          refine tks (oi := ⟨_, _, _, _, _, _⟩) (v := ?_) 0 rfl (.inl ⟨by rfl, ?_⟩) ?_; rotate_left
          · (intro wS hSw; (try dsimp only at hSw); go_simp); all_goals with_reducible rfl
          try go_frame
          refine tks (oi := ⟨_, _, _, _, _, _⟩) (v := ?_) 1 rfl (.inl ⟨by rfl, ?_⟩) ?_; rotate_left
          · (intro wS hSw; (try dsimp only at hSw); go_simp); all_goals with_reducible rfl
          try go_frame
          refine tks (oi := ⟨_, _, _, _, _, _⟩) (v := ?_) 2 rfl (.inl ⟨by rfl, ?_⟩) ?_; rotate_left
          · (intro wS hSw; (try dsimp only at hSw); go_simp); all_goals with_reducible rfl
          try go_frame
          refine tks (oi := ⟨_, _, _, _, _, _⟩) (v := ?_) 3 rfl (.inl ⟨by rfl, ?_⟩) ?_; rotate_left
          · (intro wS hSw; (try dsimp only at hSw); go_simp); all_goals with_reducible rfl
          try go_frame
          refine tks (oi := ⟨_, _, _, _, _, _⟩) (v := ?_) 4 rfl (.inl ⟨by rfl, ?_⟩) ?_; rotate_left
          · (intro wS hSw; (try dsimp only at hSw); go_simp); all_goals with_reducible rfl
          try go_frame
          refine tks (oi := ⟨_, _, _, _, _, _⟩) (v := ?_) 5 rfl (.inl ⟨by rfl, ?_⟩) ?_; rotate_left
          · (intro wS hSw; (try dsimp only at hSw); go_simp); all_goals with_reducible rfl
          try go_frame
          refine tks (oi := ⟨_, _, _, _, _, _⟩) (v := ?_) 6 rfl (.inl ⟨by rfl, ?_⟩) ?_; rotate_left
          · (intro wS hSw; (try dsimp only at hSw); go_simp); all_goals with_reducible rfl
          try go_frame
          refine tks (oi := ⟨_, _, _, _, _, _⟩) (v := ?_) 7 rfl (.inl ⟨by rfl, ?_⟩) ?_; rotate_left
          · (intro wS hSw; (try dsimp only at hSw); go_simp); all_goals with_reducible rfl
          try go_frame
          refine tks (oi := ⟨_, _, _, _, _, _⟩) (v := ?_) 8 rfl (.inl ⟨by rfl, ?_⟩) ?_; rotate_left
          · (intro wS hSw; (try dsimp only at hSw); go_simp); all_goals with_reducible rfl
          try go_frame
          refine wpAnyH_done (by kernel_rfl) ?_ _
          clear hneq hHeld
          go_wp2_with fail
          go_ret
          exact ⟨by rw [HIN.out]; rfl, hbel.drew⟩
      · have HIN : Hid (R = true) := by
          show _ = _
          have := HNE.out
          rw [← hin.out, List.drop_eq_nil_of_le (by omega), List.drop_eq_nil_of_le (by omega)]; rfl
        have hk' : k = l.length := by omega
        subst hk'
        clear hin hlt hk
        go_wp2_with fail
        go_ret
        exact ⟨by rw [HIN.out]; rfl, hbel⟩
  · have hv : Hid (R = false) := by
      show _ = _
      rw [← hR.out]
      simp only [decide_eq_false_iff_not]
      intro h; rw [h] at hne; exact hne rfl
    have t0 : ((l.length : Int) != m.length) = true := by simp; omega
    clear hne hR
    go_enter Try.func39, Try.ntmps39
    go_wp2_with fail
    go_ret
    exact ⟨by rw [hv.out]; rfl, Below.refl _ _⟩

set_option maxRecDepth 100000 in
set_option maxHeartbeats 2000000 in
theorem EqualA_any (l m : List AttrD) (A B : Option Addr) (c d : Nat) (w : World) (hA : AttrsAt w w.heap.size A l) (hB : AttrsAt w w.heap.size B m) (hl : l.length ≤ 1000000000) (hm : m.length ≤ 1000000000) (R : Bool) (hR : Hid (decide (l = m) = R)) :
    Calls Try.prog 61 #[.slice A l.length c, .slice B m.length d] w (Ret w (.bool R)) := by
  have HA := Lib.hid hA
  have HB := Lib.hid hB
  clear hA hB
  by_cases hne : l.length = m.length
  · have hR0 : Hid (decide (l.drop 0 = m.drop 0) = R) := hR
    have t0 : ((l.length : Int) != m.length) = false := by simp [hne]
    have HNE := Lib.hid hne
    clear hne hR
    go_enter Try.func61, Try.ntmps61
    go_wp2_with fail
    go_loopw [13] (fun i wr => ∃ (k : Nat), k ≤ l.length ∧ i = .int .i64 k ∧ Hid (decide (l.drop k = m.drop k) = R) ∧ Below w.heap.size w wr) (fun i _ => l.length - (intOf i).toNat)
    case atStart => exact ⟨0, Nat.zero_le _, rfl, hR0, Below.refl _ _⟩
    case round =>
      obtain ⟨k, hk, rfl, hin, hbel⟩ := hrel
      have hzr := hbel.size
      by_cases hlt : k < l.length
      · have hlm : k < m.length := by have := HNE.out; omega
        obtain ⟨a, ha⟩ : ∃ a, Hid (l[k]? = some a) := ⟨l[k], List.getElem?_eq_getElem _⟩
        obtain ⟨b, hb⟩ : ∃ b, Hid (m[k]? = some b) := ⟨m[k], List.getElem?_eq_getElem _⟩
        obtain ⟨ad, hAd, hab, hac⟩ := HA.out (by omega)
        obtain ⟨bd, hBd, hbb, hbc⟩ := HB.out (by omega)
        subst hAd; subst hBd
        have hlt' : (k : Int) < l.length := by omega
        have hlm' : (k : Int) < m.length := by omega
        have hk0 : (0 : Int) ≤ (k : Int) := by omega
        have HS : Hid (wr.drew.cell? (ad.add (k * 2)) = some (.string ⟨a.name.toArray⟩) ∧ wr.drew.cell? ⟨(ad.add (k * 2)).block, (ad.add (k * 2)).off + 1, none⟩ = some (.string ⟨a.value.toArray⟩) ∧ wr.drew.cell? (bd.add (k * 2)) = some (.string ⟨b.name.toArray⟩) ∧ wr.drew.cell? ⟨(bd.add (k * 2)).block, (bd.add (k * 2)).off + 1, none⟩ = some (.string ⟨b.value.toArray⟩)) := by
          have hb' := hbel.drew
          refine ⟨?_, ?_, ?_, ?_⟩
          · rw [hb'.cell (by rw [block_of_add]; exact hab)]; exact (hac k a ha.out).1
          · rw [hb'.cell (by show (ad.add _).block < _; rw [block_of_add]; exact hab)]; exact (hac k a ha.out).2
          · rw [hb'.cell (by rw [block_of_add]; exact hbb)]; exact (hbc k b hb.out).1
          · rw [hb'.cell (by show (bd.add _).block < _; rw [block_of_add]; exact hbb)]; exact (hbc k b hb.out).2
        clear hac hbc
        have hin' := hin.out
        rw [drop_cons ha.out, drop_cons hb.out] at hin'
        have hneq := fun w' => attr_neq a.name a.value b.name b.value w'
        by_cases he : a.name = b.name ∧ a.value = b.value
        · have HIN : Hid (decide (l.drop (k + 1) = m.drop (k + 1)) = R) := by
            show _ = _
            rw [← hin']
            have : a = b := by cases a; cases b; simp_all
            simp [this]
          have he' : (decide (a.name = b.name) && decide (a.value = b.value)) = true := by simpa using he
          simp only [he', Bool.not_true] at hneq
          clear he he' hin' hin
          go_wp2_with fail
          refine wp_region_held_drew (S := fun w' => w'.cell? (ad.add (k * 2)) = some (.string ⟨a.name.toArray⟩) ∧ w'.cell? ⟨(ad.add (k * 2)).block, (ad.add (k * 2)).off + 1, none⟩ = some (.string ⟨a.value.toArray⟩) ∧ w'.cell? (bd.add (k * 2)) = some (.string ⟨b.name.toArray⟩) ∧ w'.cell? ⟨(bd.add (k * 2)).block, (bd.add (k * 2)).off + 1, none⟩ = some (.string ⟨b.value.toArray⟩)) (by kernel_rfl) HS.out (fun hHeld => ?_)
          refine tks (oi := ⟨_, _, _, _, _, _⟩) (v := ?_) 0 rfl (.inl ⟨by rfl, ?_⟩) ?_; rotate_left
          · (intro wS hSw; (try dsimp only at hSw); go_simp); all_goals with_reducible rfl
          try go_frame
          refine tks (oi := ⟨_, _, _, _, _, _⟩) (v := ?_) 1 rfl (.inl ⟨by rfl, ?_⟩) ?_; rotate_left
          · (intro wS hSw; (try dsimp only at hSw); go_simp); all_goals with_reducible rfl
          try go_frame
          refine tks (oi := ⟨_, _, _, _, _, _⟩) (v := ?_) 2 rfl (.inl ⟨by rfl, ?_⟩) ?_; rotate_left
          · (intro wS hSw; (try dsimp only at hSw); go_simp); all_goals with_reducible rfl
          try go_frame
          refine tks (oi := ⟨_, _, _, _, _, _⟩) (v := ?_) 3 rfl (.inl ⟨by rfl, ?_⟩) ?_; rotate_left
          · (intro wS hSw; (try dsimp only at hSw); go_simp); all_goals with_reducible rfl
          try go_frame
          refine tks (oi := ⟨_, _, _, _, _, _⟩) (v := ?_) 4 rfl (.inl ⟨by rfl, ?_⟩) ?_; rotate_left
          · (intro wS hSw; (try dsimp only at hSw); go_simp); all_goals with_reducible rfl
          try go_frame
          refine tks (oi := ⟨_, _, _, _, _, _⟩) (v := ?_) 5 rfl (.inl ⟨by rfl, ?_⟩) ?_; rotate_left
          · (intro wS hSw; (try dsimp only at hSw); go_simp); all_goals with_reducible rfl
          try go_frame
          refine tks (oi := ⟨_, _, _, _, _, _⟩) (v := ?_) 6 rfl (.inl ⟨by rfl, ?_⟩) ?_; rotate_left
          · (intro wS hSw; (try dsimp only at hSw); go_simp); all_goals with_reducible rfl
          try go_frame
          refine tks (oi := ⟨_, _, _, _, _, _⟩) (v := ?_) 7 rfl (.inl ⟨by rfl, ?_⟩) ?_; rotate_left
          · (intro wS hSw; (try dsimp only at hSw); go_simp); all_goals with_reducible rfl
          try go_frame
          refine tks (oi := ⟨_, _, _, _, _, _⟩) (v := ?_) 8 rfl (.inl ⟨by rfl, ?_⟩) ?_; rotate_left
          · (intro wS hSw; (try dsimp only at hSw); go_simp); all_goals with_reducible rfl
          try go_frame
          refine wpAnyH_done (by kernel_rfl) ?_ _
          clear hneq hHeld
          go_wp2_with fail
          go_roundw
          case rel => exact ⟨k + 1, by omega, by go_num, HIN, hbel.drew⟩
          case measure => simp [intOf]; omega
        · have HIN : Hid (R = false) := by
            show _ = _
            rw [← hin']
            have : a ≠ b := fun h => he (by rw [h]; exact ⟨rfl, rfl⟩)
            simp [this]
          have he' : (decide (a.name = b.name) && decide (a.value = b.value)) = false := by
            cases h : (decide (a.name = b.name) && decide (a.value = b.value)) with
            | false => rfl
            | true => exact absurd (by simpa using h) he
          simp only [he', Bool.not_false] at hneq
          clear he he' hin' hin
          go_wp2_with fail
          refine wp_region_held_drew (S := fun w' => w'.cell? (ad.add (k * 2)) = some (.string ⟨a.name.toArray⟩) ∧ w'.cell? ⟨(ad.add (k * 2)).block, (ad.add (k * 2)).off + 1, none⟩ = some (.string ⟨a.value.toArray⟩) ∧ w'.cell? (bd.add (k * 2)) = some (.string ⟨b.name.toArray⟩) ∧ w'.cell? ⟨(bd.add (k * 2)).block, (bd.add (k * 2)).off + 1, none⟩ = some (.string ⟨b.value.toArray⟩)) (by kernel_rfl) HS.out (fun hHeld => ?_)
          refine tks (oi := ⟨_, _, _, _, _, _⟩) (v := ?_) 0 rfl (.inl ⟨by rfl, ?_⟩) ?_; rotate_left
          · (intro wS hSw; (try dsimp only at hSw); go_simp); all_goals with_reducible rfl
          try go_frame
          refine tks (oi := ⟨_, _, _, _, _, _⟩) (v := ?_) 1 rfl (.inl ⟨by rfl, ?_⟩) ?_; rotate_left
          · (intro wS hSw; (try dsimp only at hSw); go_simp); all_goals with_reducible rfl
          try go_frame
          refine tks (oi := ⟨_, _, _, _, _, _⟩) (v := ?_) 2 rfl (.inl ⟨by rfl, ?_⟩) ?_; rotate_left
          · (intro wS hSw; (try dsimp only at hSw); go_simp); all_goals with_reducible rfl
          try go_frame
          refine tks (oi := ⟨_, _, _, _, _, _⟩) (v := ?_) 3 rfl (.inl ⟨by rfl, ?_⟩) ?_; rotate_left
          · (intro wS hSw; (try dsimp only at hSw); go_simp); all_goals with_reducible rfl
          try go_frame
          refine tks (oi := ⟨_, _, _, _, _, _⟩) (v := ?_) 4 rfl (.inl ⟨by rfl, ?_⟩) ?_; rotate_left
          · (intro wS hSw; (try dsimp only at hSw); go_simp); all_goals with_reducible rfl
          try go_frame
          refine tks (oi := ⟨_, _, _, _, _, _⟩) (v := ?_) 5 rfl (.inl ⟨by rfl, ?_⟩) ?_; rotate_left
          · (intro wS hSw; (try dsimp only at hSw); go_simp); all_goals with_reducible rfl
          try go_frame
          refine tks (oi := ⟨_, _, _, _, _, _⟩) (v := ?_) 6 rfl (.inl ⟨by rfl, ?_⟩) ?_; rotate_left
          · (intro wS hSw; (try dsimp only at hSw); go_simp); all_goals with_reducible rfl
          try go_frame
          refine tks (oi := ⟨_, _, _, _, _, _⟩) (v := ?_) 7 rfl (.inl ⟨by rfl, ?_⟩) ?_; rotate_left
          · (intro wS hSw; (try dsimp only at hSw); go_simp); all_goals with_reducible rfl
          try go_frame
          refine tks (oi := ⟨_, _, _, _, _, _⟩) (v := ?_) 8 rfl (.inl ⟨by rfl, ?_⟩) ?_; rotate_left
          · (intro wS hSw; (try dsimp only at hSw); go_simp); all_goals with_reducible rfl
          try go_frame
          refine wpAnyH_done (by kernel_rfl) ?_ _
          clear hneq hHeld
          go_wp2_with fail
          go_ret
          exact ⟨by rw [HIN.out]; rfl, hbel.drew⟩
      · have HIN : Hid (R = true) := by
          show _ = _
          have := HNE.out
          rw [← hin.out, List.drop_eq_nil_of_le (by omega), List.drop_eq_nil_of_le (by omega)]; rfl
        have hk' : k = l.length := by omega
        subst hk'
        clear hin hlt hk
        go_wp2_with fail
        go_ret
        exact ⟨by rw [HIN.out]; rfl, hbel⟩
  · have hv : Hid (R = false) := by
      show _ = _
      rw [← hR.out]
      simp only [decide_eq_false_iff_not]
      intro h; rw [h] at hne; exact hne rfl
    have t0 : ((l.length : Int) != m.length) = true := by simp; omega
    clear hne hR
    go_enter Try.func61, Try.ntmps61
    go_wp2_with fail
    go_ret
    exact ⟨by rw [hv.out]; rfl, Below.refl _ _⟩
end Go.Proofs.Ythifddkmbjnncaa

/-
  Two items, cell by cell.
-/
namespace Go.Proofs.Ythifddkmbjnncaa
open Go.RowKit

/-- The cells of two items. -/
def TwoAt (ad bd : Addr) (k : Nat) (x y : ItemD) (A B : Option Addr) (c d : Nat) (w : World) : Prop :=
  w.cell? (ad.add (k * 5)) = some (.int .i64 x.level) ∧ w.cell? ⟨(ad.add (k * 5)).block, (ad.add (k * 5)).off + 1, none⟩ = some (.int .i64 x.kind) ∧ w.cell? ⟨(ad.add (k * 5)).block, (ad.add (k * 5)).off + 2, none⟩ = some (.string ⟨x.name.toArray⟩) ∧
  w.cell? ⟨(ad.add (k * 5)).block, (ad.add (k * 5)).off + 3, none⟩ = some (.string ⟨x.text.toArray⟩) ∧ w.cell? ⟨(ad.add (k * 5)).block, (ad.add (k * 5)).off + 4, none⟩ = some (.slice A x.attrs.length c) ∧
  w.cell? (bd.add (k * 5)) = some (.int .i64 y.level) ∧ w.cell? ⟨(bd.add (k * 5)).block, (bd.add (k * 5)).off + 1, none⟩ = some (.int .i64 y.kind) ∧ w.cell? ⟨(bd.add (k * 5)).block, (bd.add (k * 5)).off + 2, none⟩ = some (.string ⟨y.name.toArray⟩) ∧
  w.cell? ⟨(bd.add (k * 5)).block, (bd.add (k * 5)).off + 3, none⟩ = some (.string ⟨y.text.toArray⟩) ∧ w.cell? ⟨(bd.add (k * 5)).block, (bd.add (k * 5)).off + 4, none⟩ = some (.slice B y.attrs.length d)

theorem TwoAt.keep {ad bd : Addr} {k : Nat} {x y : ItemD} {A B : Option Addr} {c d : Nat} {w w' : World} (h : TwoAt ad bd k x y A B c d w) {N : Nat} (ha : ad.block < N) (hb : bd.block < N) (hw : Below N w w') : TwoAt ad bd k x y A B c d w' := by
  obtain ⟨h0, h1, h2, h3, h4, g0, g1, g2, g3, g4⟩ := h
  have ka : ∀ j, w'.cell? ⟨(ad.add (k * 5)).block, j, none⟩ = w.cell? ⟨(ad.add (k * 5)).block, j, none⟩ := fun j => hw.cell (by show (ad.add _).block < _; rw [block_of_add]; exact ha)
  have kb : ∀ j, w'.cell? ⟨(bd.add (k * 5)).block, j, none⟩ = w.cell? ⟨(bd.add (k * 5)).block, j, none⟩ := fun j => hw.cell (by show (bd.add _).block < _; rw [block_of_add]; exact hb)
  exact ⟨(hw.cell (by rw [block_of_add]; exact ha)).trans h0, (ka _).trans h1, (ka _).trans h2, (ka _).trans h3, (ka _).trans h4, (hw.cell (by rw [block_of_add]; exact hb)).trans g0, (kb _).trans g1, (kb _).trans g2, (kb _).trans g3, (kb _).trans g4⟩

theorem drop_eq_cons {α : Type} {l m : List α} {k : Nat} {a b : α} (ha : l[k]? = some a) (hb : m[k]? = some b) : l.drop k = m.drop k ↔ (a = b ∧ l.drop (k + 1) = m.drop (k + 1)) := by
  rw [drop_cons ha, drop_cons hb]
  simp
theorem item_eq (x y : ItemD) : x = y ↔ (x.level = y.level ∧ x.kind = y.kind ∧ x.name = y.name ∧ x.text = y.text ∧ x.attrs = y.attrs) := by
  constructor
  · rintro rfl; exact ⟨rfl, rfl, rfl, rfl, rfl⟩
  · rintro ⟨h1, h2, h3, h4, h5⟩; cases x; cases y; simp_all
end Go.Proofs.Ythifddkmbjnncaa

/-
  The walks of scribe.Same, and of what it calls.
-/
namespace Go.Proofs.Ythifddkmbjnncaa
open Go.RowKit

set_option maxRecDepth 100000 in
set_option maxHeartbeats 4000000 in
theorem Same1_any (x y : ItemD) (A B : Option Addr) (c d : Nat) (w : World) (hA : AttrsAt w w.heap.size A x.attrs) (hB : AttrsAt w w.heap.size B y.attrs) (hx : x.attrs.length ≤ 1000000000) (hy : y.attrs.length ≤ 1000000000) (R : Bool) (hR : Hid (decide (x = y) = R)) :
    Calls Try.prog 60 #[.agg (itemVal x A c), .agg (itemVal y B d)] w (Ret w (.bool R)) := by
  have HA := Lib.hid hA
  have HB := Lib.hid hB
  clear hA hB
  have hin := hR.out
  have hd : decide (x = y) = (decide (x.level = y.level) && decide (x.kind = y.kind) && decide (x.name = y.name) && decide (x.text = y.text) && decide (x.attrs = y.attrs)) := by
    rw [Bool.eq_iff_iff]
    simp only [decide_eq_true_eq, Bool.and_eq_true]
    rw [item_eq]
    constructor
    · rintro ⟨h1, h2, h3, h4, h5⟩; exact ⟨⟨⟨⟨h1, h2⟩, h3⟩, h4⟩, h5⟩
    · rintro ⟨⟨⟨⟨h1, h2⟩, h3⟩, h4⟩, h5⟩; exact ⟨h1, h2, h3, h4, h5⟩
  rw [hd] at hin
  clear hd hR
  unfold itemVal strV
  by_cases e1 : x.level = y.level
  · have f1 : (x.level == y.level) = true := by simp [e1]
    by_cases e2 : x.kind = y.kind
    · have f2 : (x.kind == y.kind) = true := by simp [e2]
      by_cases e3 : x.name = y.name
      · have f3 : (x.name == y.name) = true := by simp [e3]
        by_cases e4 : x.text = y.text
        · have f4 : (x.text == y.text) = true := by simp [e4]
          simp only [e1, e2, e3, e4, decide_true, Bool.true_and] at hin
          have hq : Hid (decide (x.attrs = y.attrs) = R) := hin
          clear hin e1 e2 e3 e4
          go_enter Try.func60, Try.ntmps60
          go_wp2_with fail
          refine (EqualA_any x.attrs y.attrs A B c d _ ((HA.out.below (((Below.refl _ w).alloc (Nat.le_refl _) _).alloc (by simp) _)).more (by simp; omega)) ((HB.out.below (((Below.refl _ w).alloc (Nat.le_refl _) _).alloc (by simp) _)).more (by simp; omega)) hx hy R hq).mono ?_; rintro e w3 ⟨rfl, hb3⟩
          go_wp2_with fail
          go_ret
          exact ⟨rfl, (((Below.refl _ w).alloc (Nat.le_refl _) _).alloc (by simp) _).trans (hb3.mono (by simp; omega))⟩
        · have f4 : (x.text == y.text) = false := by simp [e4]
          have hv : Hid (R = false) := by show _ = _; rw [← hin]; simp [e4]
          clear hin e1 e2 e3 e4
          go_enter Try.func60, Try.ntmps60
          go_wp2_with fail
          go_ret
          exact ⟨by rw [hv.out]; rfl, (((Below.refl _ w).alloc (Nat.le_refl _) _).alloc (by simp) _)⟩
      · have f3 : (x.name == y.name) = false := by simp [e3]
        have hv : Hid (R = false) := by show _ = _; rw [← hin]; simp [e3]
        clear hin e1 e2 e3
        go_enter Try.func60, Try.ntmps60
        go_wp2_with fail
        go_ret
        exact ⟨by rw [hv.out]; rfl, (((Below.refl _ w).alloc (Nat.le_refl _) _).alloc (by simp) _)⟩
    · have f2 : (x.kind == y.kind) = false := by simp [e2]
      have hv : Hid (R = false) := by show _ = _; rw [← hin]; simp [e2]
      clear hin e1 e2
      go_enter Try.func60, Try.ntmps60
      go_wp2_with fail
      go_ret
      exact ⟨by rw [hv.out]; rfl, (((Below.refl _ w).alloc (Nat.le_refl _) _).alloc (by simp) _)⟩
  · have f1 : (x.level == y.level) = false := by simp [e1]
    have hv : Hid (R = false) := by show _ = _; rw [← hin]; simp [e1]
    clear hin e1
    go_enter Try.func60, Try.ntmps60
    go_wp2_with fail
    go_ret
    exact ⟨by rw [hv.out]; rfl, (((Below.refl _ w).alloc (Nat.le_refl _) _).alloc (by simp) _)⟩

theorem cell_lift {w w' : World} {B : Nat} (hb : Below B w w') {bl : Nat} (h : bl < B) : ∀ j, w'.cell? ⟨bl, j, none⟩ = w.cell? ⟨bl, j, none⟩ := fun _ => hb.cell h

set_option maxRecDepth 100000 in
set_option maxHeartbeats 4000000 in
theorem EqualF_any (l m : List ItemD) (A B : Option Addr) (c d : Nat) (w : World) (hA : ItemsAt w w.heap.size A l) (hB : ItemsAt w w.heap.size B m) (hl : SmallItems l) (hm : SmallItems m) (R : Bool) (hR : Hid (decide (l = m) = R)) :
    Calls Try.prog 59 #[.slice A l.length c, .slice B m.length d, .func (.func 60) #[] #[]] w (Ret w (.bool R)) := by
  have HA := Lib.hid hA
  have HB := Lib.hid hB
  obtain ⟨hl1, hl2⟩ := hl
  obtain ⟨hm1, hm2⟩ := hm
  have HL := Lib.hid hl2
  have HM := Lib.hid hm2
  clear hA hB hl2 hm2
  by_cases hne : l.length = m.length
  · have hR0 : Hid (decide (l.drop 0 = m.drop 0) = R) := hR
    have t0 : ((l.length : Int) != m.length) = false := by simp [hne]
    have HNE := Lib.hid hne
    clear hne hR
    go_enter Try.func59, Try.ntmps59
    go_wp2_with fail
    go_loopw [17] (fun i wr => ∃ (k : Nat), k ≤ l.length ∧ i = .int .i64 k ∧ Hid (decide (l.drop k = m.drop k) = R) ∧ Below w.heap.size w wr) (fun i _ => l.length - (intOf i).toNat)
    case atStart => exact ⟨0, Nat.zero_le _, rfl, hR0, Below.refl _ _⟩
    case round =>
      obtain ⟨k, hk, rfl, hin, hbel⟩ := hrel
      have hzr := hbel.size
      by_cases hlt : k < l.length
      · have hlm : k < m.length := by have := HNE.out; omega
        obtain ⟨x, hx⟩ : ∃ x, Hid (l[k]? = some x) := ⟨l[k], List.getElem?_eq_getElem _⟩
        obtain ⟨y, hy⟩ : ∃ y, Hid (m[k]? = some y) := ⟨m[k], List.getElem?_eq_getElem _⟩
        have hAr := HA.out.below hbel
        have hBr := HB.out.below hbel
        obtain ⟨ad, hAd, _, _⟩ := hAr (by omega)
        obtain ⟨bd, hBd, _, _⟩ := hBr (by omega)
        subst hAd; subst hBd
        obtain ⟨hab, A', c', hat, _, h0, h1, h2, h3, h4⟩ := hAr.item hx.out
        obtain ⟨hbb, B', d', hbt, _, g0, g1, g2, g3, g4⟩ := hBr.item hy.out
        unfold strV at h2 h3 g2 g3
        have hab1 : (ad.add (k * 5)).block < wr.heap.size := by rw [block_of_add]; omega
        have hbb1 : (bd.add (k * 5)).block < wr.heap.size := by rw [block_of_add]; omega
        have hbb2 : (bd.add (k * 5)).block < (wr.alloc (.cells #[.int .i64 x.level, .int .i64 x.kind, .string ⟨x.name.toArray⟩, .string ⟨x.text.toArray⟩, .slice A' x.attrs.length c'] 50)).heap.size := by simp; omega
        have kb := cell_lift (w' := wr.alloc (.cells #[.int .i64 x.level, .int .i64 x.kind, .string ⟨x.name.toArray⟩, .string ⟨x.text.toArray⟩, .slice A' x.attrs.length c'] 50)) ((Below.refl _ wr).alloc (Nat.le_refl _) _) hbb1
        have HAT := Lib.hid (hat.more hzr)
        have HBT := Lib.hid (hbt.more hzr)
        clear hat hbt hAr hBr
        have hsx := (HL.out k x hx.out).2.2.1
        have hsy := (HM.out k y hy.out).2.2.1
        have hlt' : (k : Int) < l.length := by omega
        have hlm' : (k : Int) < m.length := by omega
        have hin' := hin.out
        have hde := drop_eq_cons hx.out hy.out
        have HDE := Lib.hid hde
        clear hde
        obtain ⟨q, hq⟩ : ∃ q, Hid (decide (x = y) = q) := ⟨_, rfl⟩
        clear hin
        have hz1 : ∀ (o o' : Obj), Below wr.heap.size wr ((wr.alloc o).alloc o') := fun o o' => ((Below.refl _ wr).alloc (Nat.le_refl _) _).alloc (by simp) _
        have HZ := Lib.hid hz1
        clear hz1
        cases q with
        | true =>
          have HIN : Hid (decide (l.drop (k + 1) = m.drop (k + 1)) = R) := by
            show _ = _
            have e5 : x = y := of_decide_eq_true hq.out
            rw [← hin']
            exact decide_eq_decide.2 ⟨fun h => HDE.out.2 ⟨e5, h⟩, fun h => (HDE.out.1 h).2⟩
          clear hin'
          go_wp2_with fail
          refine (Same1_any x y A' B' c' d' _ ((HAT.out.below (HZ.out _ _)).more (HZ.out _ _).size) ((HBT.out.below (HZ.out _ _)).more (HZ.out _ _).size) hsx hsy true hq).mono ?_; rintro e w3 ⟨rfl, hb3⟩
          have hb3' : Below w.heap.size w w3 := hbel.trans (((HZ.out _ _).mono hzr).trans (hb3.mono (by simp; omega)))
          clear h0 h1 h2 h3 h4 g0 g1 g2 g3 g4 kb
          go_wp2_with fail
          go_roundw
          case rel => exact ⟨k + 1, by omega, by go_num, HIN, hb3'⟩
          case measure => simp [intOf]; omega
        | false =>
          have HIN : Hid (R = false) := by
            show _ = _
            have e5 : x ≠ y := of_decide_eq_false hq.out
            rw [← hin']
            simp only [decide_eq_false_iff_not]
            intro h
            exact e5 (HDE.out.1 h).1
          clear hin'
          go_wp2_with fail
          refine (Same1_any x y A' B' c' d' _ ((HAT.out.below (HZ.out _ _)).more (HZ.out _ _).size) ((HBT.out.below (HZ.out _ _)).more (HZ.out _ _).size) hsx hsy false hq).mono ?_; rintro e w3 ⟨rfl, hb3⟩
          have hb3' : Below w.heap.size w w3 := hbel.trans (((HZ.out _ _).mono hzr).trans (hb3.mono (by simp; omega)))
          clear h0 h1 h2 h3 h4 g0 g1 g2 g3 g4 kb
          go_wp2_with fail
          go_ret
          exact ⟨by rw [HIN.out]; rfl, hb3'⟩
      · have HIN : Hid (R = true) := by
          show _ = _
          have := HNE.out
          rw [← hin.out, List.drop_eq_nil_of_le (by omega), List.drop_eq_nil_of_le (by omega)]; rfl
        have hk' : k = l.length := by omega
        subst hk'
        clear hin hlt hk
        go_wp2_with fail
        go_ret
        exact ⟨by rw [HIN.out]; rfl, hbel⟩
  · have hv : Hid (R = false) := by
      show _ = _
      rw [← hR.out]
      simp only [decide_eq_false_iff_not]
      intro h; rw [h] at hne; exact hne rfl
    have t0 : ((l.length : Int) != m.length) = true := by simp; omega
    clear hne hR
    go_enter Try.func59, Try.ntmps59
    go_wp2_with fail
    go_ret
    exact ⟨by rw [hv.out]; rfl, Below.refl _ _⟩

set_option maxRecDepth 100000 in
theorem Same_any (l m : List ItemD) (A B : Option Addr) (c d : Nat) (w : World) (hA : ItemsAt w w.heap.size A l) (hB : ItemsAt w w.heap.size B m) (hl : SmallItems l) (hm : SmallItems m) (R : Bool) (hR : Hid (decide (l = m) = R)) :
    Calls Try.prog 37 #[.slice A l.length c, .slice B m.length d] w (Ret w (.bool R)) := by
  go_enter Try.func37, Try.ntmps37
  go_wp2_with fail
  refine (EqualF_any l m A B c d w hA hB hl hm R hR).mono ?_; rintro e w3 ⟨rfl, hb3⟩
  go_wp2_with fail
  go_ret
  exact ⟨rfl, hb3⟩
end Go.Proofs.Ythifddkmbjnncaa

/-
  The contracts of strings.IndexByte and strings.Compare at this dump, laid by hand (gen_shelf.py).
-/
namespace Go.Proofs
open Go.Shelf Go.RowKit
def Try.lays137_ren : Go.Shelf.Ren := ⟨fun | 137 => 66 | 217 => 95 | 266 => 115 | n => n, fun | 3 => 3 | 5 => 5 | 9 => 9 | n => n, fun | n => n⟩
theorem Try.lays137 : Go.Proofs.Lays.n137 Try.prog Try.lays137_ren := {
  mixed := by kernel_rfl
  f137 := Try.func66.trans (congrArg some (by kernel_rfl))
  f217 := Try.func95.trans (congrArg some (by kernel_rfl))
  f266 := Try.func115.trans (congrArg some (by kernel_rfl))
  t3 := Try.underlying3
  a3 := Try.isAgg3
  z3 := Try.sizeOf3
  v3 := Try.zeroValue3
  t5 := Try.underlying5
  a5 := Try.isAgg5
  z5 := Try.sizeOf5
  v5 := Try.zeroValue5
  t9 := Try.underlying9
  a9 := Try.isAgg9
  z9 := Try.sizeOf9
  v9 := Try.zeroValue9 }
/-- strings.IndexByte -/
theorem Try.strings_IndexByte (s : ByteArray) (c : Int) (w : World) :
    Calls Try.prog 66 #[.string s, .int .u8 c] w fun e w' => e = .returned (.int .i64 (Lib.indexByte s.data.toList c.toNat.toUInt8)) ∧ w' = w := Any.strings_IndexByte Try.lays137 s c w
def Try.lays106_ren : Go.Shelf.Ren := ⟨fun | 106 => 76 | 213 => 101 | 265 => 129 | n => n, fun | 3 => 3 | 9 => 9 | n => n, fun | n => n⟩
theorem Try.lays106 : Go.Proofs.Lays.n106 Try.prog Try.lays106_ren := {
  mixed := by kernel_rfl
  f106 := Try.func76.trans (congrArg some (by kernel_rfl))
  f213 := Try.func101.trans (congrArg some (by kernel_rfl))
  f265 := Try.func129.trans (congrArg some (by kernel_rfl))
  t3 := Try.underlying3
  a3 := Try.isAgg3
  z3 := Try.sizeOf3
  v3 := Try.zeroValue3
  t9 := Try.underlying9
  a9 := Try.isAgg9
  z9 := Try.sizeOf9
  v9 := Try.zeroValue9 }
/-- strings.Compare -/
theorem Try.strings_Compare (a b : ByteArray) (w : World) :
    Calls Try.prog 76 #[.string a, .string b] w fun e w' => e = .returned (.int .i64 (Lib.compareBytes a.data.toList b.data.toList)) ∧ w' = w := Any.strings_Compare Try.lays106 a b w
end Go.Proofs

/-
  strings.HasPrefix's contract at this dump, laid by hand (gen_shelf.py).
-/
namespace Go.Proofs
open Go.Shelf Go.RowKit
def Try.lays99_ren : Go.Shelf.Ren := ⟨fun | 99 => 69 | 206 => 97 | n => n, fun | 3 => 3 | 4 => 4 | 9 => 9 | n => n, fun | n => n⟩
theorem Try.lays99 : Go.Proofs.Lays.n99 Try.prog Try.lays99_ren := {
  mixed := by kernel_rfl
  f99 := Try.func69.trans (congrArg some (by kernel_rfl))
  f206 := Try.func97.trans (congrArg some (by kernel_rfl))
  t3 := Try.underlying3
  a3 := Try.isAgg3
  z3 := Try.sizeOf3
  v3 := Try.zeroValue3
  t4 := Try.underlying4
  a4 := Try.isAgg4
  z4 := Try.sizeOf4
  v4 := Try.zeroValue4
  t9 := Try.underlying9
  a9 := Try.isAgg9
  z9 := Try.sizeOf9
  v9 := Try.zeroValue9 }
/-- strings.HasPrefix -/
theorem Try.strings_HasPrefix (s p : ByteArray) (w : World) :
    Calls Try.prog 69 #[.string s, .string p] w fun e w' => e = .returned (.bool (Lib.hasPrefix s.data.toList p.data.toList)) ∧ w' = w := Any.strings_HasPrefix Try.lays99 s p w
end Go.Proofs

/-
  The walks of escape.digit and escape.reference.
-/
namespace Go.Proofs.Ythifddkmbjnncaa
open Go.RowKit

set_option maxRecDepth 100000 in
set_option maxHeartbeats 1000000 in
theorem digit_any (x base : Int) (w : World) (h0 : 0 ≤ x) (h1 : x < 256) :
    Calls Try.prog 138 #[.int .u8 x, .int .i32 base] w fun e w' => e = .returned (.int .i32 (digitV base x)) ∧ w = w' := by
  go_enter Try.func138, Try.ntmps138
  go_wp2
  all_goals go_ret
  all_goals (refine ⟨ret_int ?_, rfl⟩)
  all_goals (unfold digitV; repeat (first | omega | split))

theorem digit_as (x base : Int) (w : World) (h0 : 0 ≤ x) (h1 : x < 256) (d : Int) (h : Hid (digitV base x = d)) :
    Calls Try.prog 138 #[.int .u8 x, .int .i32 base] w fun e w' => e = .returned (.int .i32 d) ∧ w = w' := by
  have := digit_any x base w h0 h1
  rw [h.out] at this
  exact this

theorem isPrefixOf_pre : ∀ (p l : List UInt8), p.isPrefixOf l = pre p l
  | [], l => by cases l <;> rfl
  | a :: p, [] => rfl
  | a :: p, b :: l => by
    have ih := isPrefixOf_pre p l
    have e : pre (a :: p) (b :: l) = ((b == a) && pre p l) := by
      unfold pre; rw [List.length_cons, List.take_succ_cons]; exact List.cons_beq_cons
    rw [e, ← ih, List.isPrefixOf]
    congr 1
    rw [Bool.eq_iff_iff, beq_iff_eq, beq_iff_eq]; exact eq_comm

theorem hasPrefix_pre (s : ByteArray) (p : List UInt8) (w : World) :
    Calls Try.prog 69 #[.string s, .string ⟨p.toArray⟩] w fun e w' => e = .returned (.bool (pre p s.data.toList)) ∧ w = w' := by
  refine (Try.strings_HasPrefix s ⟨p.toArray⟩ w).mono ?_
  rintro e w' ⟨rfl, rfl⟩
  exact ⟨ret_bool (isPrefixOf_pre _ _), rfl⟩

set_option maxRecDepth 100000 in
set_option maxHeartbeats 1000000 in
theorem reference_0 (s : ByteArray) (w : World) (h0 : pre [38, 97, 109, 112, 59] s.data.toList = true) :
    Calls Try.prog 116 #[.string s] w (Ret w (.tuple #[.int .i32 38, .int .i64 5])) := by
  go_enter Try.func116, Try.ntmps116
  go_wp2
  go_step3
  go_wp2
  refine wp_loop_rounds 6 ?_
  rw [rounds_succ]
  go_wp2_with (first | (go_at_call 69; refine (hasPrefix_pre _ _ _).mono ?_; rintro e w' ⟨rfl, rfl⟩) | go_in)
  rw [Exit.noGoto_ret]
  go_ret2
  exact ⟨rfl, (Below.refl _ _).alloc (Nat.le_refl _) _⟩

set_option maxRecDepth 100000 in
set_option maxHeartbeats 1000000 in
theorem reference_1 (s : ByteArray) (w : World) (h0 : pre [38, 97, 109, 112, 59] s.data.toList = false) (h1 : pre [38, 108, 116, 59] s.data.toList = true) :
    Calls Try.prog 116 #[.string s] w (Ret w (.tuple #[.int .i32 60, .int .i64 4])) := by
  go_enter Try.func116, Try.ntmps116
  go_wp2
  go_step3
  go_wp2
  refine wp_loop_rounds 6 ?_
  rw [rounds_succ]
  go_wp2_with (first | (go_at_call 69; refine (hasPrefix_pre _ _ _).mono ?_; rintro e w' ⟨rfl, rfl⟩) | go_in)
  rw [rounds_succ]
  go_wp2_with (first | (go_at_call 69; refine (hasPrefix_pre _ _ _).mono ?_; rintro e w' ⟨rfl, rfl⟩) | go_in)
  rw [Exit.noGoto_ret]
  go_ret2
  exact ⟨rfl, (Below.refl _ _).alloc (Nat.le_refl _) _⟩

set_option maxRecDepth 100000 in
set_option maxHeartbeats 1000000 in
theorem reference_2 (s : ByteArray) (w : World) (h0 : pre [38, 97, 109, 112, 59] s.data.toList = false) (h1 : pre [38, 108, 116, 59] s.data.toList = false) (h2 : pre [38, 103, 116, 59] s.data.toList = true) :
    Calls Try.prog 116 #[.string s] w (Ret w (.tuple #[.int .i32 62, .int .i64 4])) := by
  go_enter Try.func116, Try.ntmps116
  go_wp2
  go_step3
  go_wp2
  refine wp_loop_rounds 6 ?_
  rw [rounds_succ]
  go_wp2_with (first | (go_at_call 69; refine (hasPrefix_pre _ _ _).mono ?_; rintro e w' ⟨rfl, rfl⟩) | go_in)
  rw [rounds_succ]
  go_wp2_with (first | (go_at_call 69; refine (hasPrefix_pre _ _ _).mono ?_; rintro e w' ⟨rfl, rfl⟩) | go_in)
  rw [rounds_succ]
  go_wp2_with (first | (go_at_call 69; refine (hasPrefix_pre _ _ _).mono ?_; rintro e w' ⟨rfl, rfl⟩) | go_in)
  rw [Exit.noGoto_ret]
  go_ret2
  exact ⟨rfl, (Below.refl _ _).alloc (Nat.le_refl _) _⟩

set_option maxRecDepth 100000 in
set_option maxHeartbeats 1000000 in
theorem reference_3 (s : ByteArray) (w : World) (h0 : pre [38, 97, 109, 112, 59] s.data.toList = false) (h1 : pre [38, 108, 116, 59] s.data.toList = false) (h2 : pre [38, 103, 116, 59] s.data.toList = false) (h3 : pre [38, 113, 117, 111, 116, 59] s.data.toList = true) :
    Calls Try.prog 116 #[.string s] w (Ret w (.tuple #[.int .i32 34, .int .i64 6])) := by
  go_enter Try.func116, Try.ntmps116
  go_wp2
  go_step3
  go_wp2
  refine wp_loop_rounds 6 ?_
  rw [rounds_succ]
  go_wp2_with (first | (go_at_call 69; refine (hasPrefix_pre _ _ _).mono ?_; rintro e w' ⟨rfl, rfl⟩) | go_in)
  rw [rounds_succ]
  go_wp2_with (first | (go_at_call 69; refine (hasPrefix_pre _ _ _).mono ?_; rintro e w' ⟨rfl, rfl⟩) | go_in)
  rw [rounds_succ]
  go_wp2_with (first | (go_at_call 69; refine (hasPrefix_pre _ _ _).mono ?_; rintro e w' ⟨rfl, rfl⟩) | go_in)
  rw [rounds_succ]
  go_wp2_with (first | (go_at_call 69; refine (hasPrefix_pre _ _ _).mono ?_; rintro e w' ⟨rfl, rfl⟩) | go_in)
  rw [Exit.noGoto_ret]
  go_ret2
  exact ⟨rfl, (Below.refl _ _).alloc (Nat.le_refl _) _⟩

set_option maxRecDepth 100000 in
set_option maxHeartbeats 1000000 in
theorem reference_4 (s : ByteArray) (w : World) (h0 : pre [38, 97, 109, 112, 59] s.data.toList = false) (h1 : pre [38, 108, 116, 59] s.data.toList = false) (h2 : pre [38, 103, 116, 59] s.data.toList = false) (h3 : pre [38, 113, 117, 111, 116, 59] s.data.toList = false) (h4 : pre [38, 97, 112, 111, 115, 59] s.data.toList = true) :
    Calls Try.prog 116 #[.string s] w (Ret w (.tuple #[.int .i32 39, .int .i64 6])) := by
  go_enter Try.func116, Try.ntmps116
  go_wp2
  go_step3
  go_wp2
  refine wp_loop_rounds 6 ?_
  rw [rounds_succ]
  go_wp2_with (first | (go_at_call 69; refine (hasPrefix_pre _ _ _).mono ?_; rintro e w' ⟨rfl, rfl⟩) | go_in)
  rw [rounds_succ]
  go_wp2_with (first | (go_at_call 69; refine (hasPrefix_pre _ _ _).mono ?_; rintro e w' ⟨rfl, rfl⟩) | go_in)
  rw [rounds_succ]
  go_wp2_with (first | (go_at_call 69; refine (hasPrefix_pre _ _ _).mono ?_; rintro e w' ⟨rfl, rfl⟩) | go_in)
  rw [rounds_succ]
  go_wp2_with (first | (go_at_call 69; refine (hasPrefix_pre _ _ _).mono ?_; rintro e w' ⟨rfl, rfl⟩) | go_in)
  rw [rounds_succ]
  go_wp2_with (first | (go_at_call 69; refine (hasPrefix_pre _ _ _).mono ?_; rintro e w' ⟨rfl, rfl⟩) | go_in)
  rw [Exit.noGoto_ret]
  go_ret2
  exact ⟨rfl, (Below.refl _ _).alloc (Nat.le_refl _) _⟩

set_option maxRecDepth 100000 in
set_option maxHeartbeats 1000000 in
theorem reference_none (s : ByteArray) (w : World) (h0 : pre [38, 97, 109, 112, 59] s.data.toList = false) (h1 : pre [38, 108, 116, 59] s.data.toList = false) (h2 : pre [38, 103, 116, 59] s.data.toList = false) (h3 : pre [38, 113, 117, 111, 116, 59] s.data.toList = false) (h4 : pre [38, 97, 112, 111, 115, 59] s.data.toList = false) (h5 : pre [38, 35] s.data.toList = false) :
    Calls Try.prog 116 #[.string s] w (Ret w (.tuple #[.int .i32 0, .int .i64 0])) := by
  go_enter Try.func116, Try.ntmps116
  go_wp2
  refine wp_scope_jumps 0 (fun a' w' => a'.defers = [] ∧ a'.tmps.size = 68 ∧ Below w.heap.size w w') (fun _ _ => 0) rfl ?_ ?_
  · go_wp2
    refine wp_loop_rounds 6 ?_
    rw [rounds_succ]
    go_wp2_with (first | (go_at_call 69; refine (hasPrefix_pre _ _ _).mono ?_; rintro e w' ⟨rfl, rfl⟩) | go_in)
    rw [rounds_succ]
    go_wp2_with (first | (go_at_call 69; refine (hasPrefix_pre _ _ _).mono ?_; rintro e w' ⟨rfl, rfl⟩) | go_in)
    rw [rounds_succ]
    go_wp2_with (first | (go_at_call 69; refine (hasPrefix_pre _ _ _).mono ?_; rintro e w' ⟨rfl, rfl⟩) | go_in)
    rw [rounds_succ]
    go_wp2_with (first | (go_at_call 69; refine (hasPrefix_pre _ _ _).mono ?_; rintro e w' ⟨rfl, rfl⟩) | go_in)
    rw [rounds_succ]
    go_wp2_with (first | (go_at_call 69; refine (hasPrefix_pre _ _ _).mono ?_; rintro e w' ⟨rfl, rfl⟩) | go_in)
    rw [rounds_succ]
    go_wp2_with (first | (go_at_call 69; refine (hasPrefix_pre _ _ _).mono ?_; rintro e w' ⟨rfl, rfl⟩) | go_in)
    go_step3
    refine ⟨rfl, rfl, rfl, (Below.refl _ _).alloc (Nat.le_refl _) _⟩
  · rintro ⟨tmps, defers⟩ w' ⟨rfl, hsz, hb⟩
    simp only at hsz
    go_wp2
    simp only [Exit.jump]
    go_ret2
    exact ⟨by simp [hsz], hb⟩

set_option maxRecDepth 100000 in
set_option maxHeartbeats 2000000 in
theorem reference_ten (s : ByteArray) (w : World) (_hs : s.size ≤ maxLen) (h0 : pre [38, 97, 109, 112, 59] s.data.toList = false) (h1 : pre [38, 108, 116, 59] s.data.toList = false) (h2 : pre [38, 103, 116, 59] s.data.toList = false) (h3 : pre [38, 113, 117, 111, 116, 59] s.data.toList = false) (h4 : pre [38, 97, 112, 111, 115, 59] s.data.toList = false) (h5 : pre [38, 35] s.data.toList = true) (h6 : pre [38, 35, 120] s.data.toList = false) (hat : 2 ≤ s.size) (V : Int × Nat) (hV : Hid (V = pick 2 (scanL 10 0 0 (s.data.toList.drop 2)))) :
    Calls Try.prog 116 #[.string s] w (Ret w (.tuple #[.int .i32 V.1, .int .i64 (V.2 : Nat)])) := by
  unfold maxLen at _hs
  have hl := size_toList s
  have HL := Lib.hid hl
  clear hl
  have H0 := Lib.hid h0; have H1 := Lib.hid h1
  go_enter Try.func116, Try.ntmps116
  go_wp2
  refine wp_scope_jumps 0 (fun a' w' => a'.defers = [] ∧ a'.tmps.size = 68 ∧ Below w.heap.size w w' ∧ V = (0, 0)) (fun _ _ => 0) rfl ?_ ?_
  · go_wp2
    refine wp_loop_rounds 6 ?_
    rw [rounds_succ]
    go_wp2_with (first | (go_at_call 69; refine (hasPrefix_pre _ _ _).mono ?_; rintro e w' ⟨rfl, rfl⟩) | go_in)
    rw [rounds_succ]
    go_wp2_with (first | (go_at_call 69; refine (hasPrefix_pre _ _ _).mono ?_; rintro e w' ⟨rfl, rfl⟩) | go_in)
    rw [rounds_succ]
    go_wp2_with (first | (go_at_call 69; refine (hasPrefix_pre _ _ _).mono ?_; rintro e w' ⟨rfl, rfl⟩) | go_in)
    rw [rounds_succ]
    go_wp2_with (first | (go_at_call 69; refine (hasPrefix_pre _ _ _).mono ?_; rintro e w' ⟨rfl, rfl⟩) | go_in)
    rw [rounds_succ]
    go_wp2_with (first | (go_at_call 69; refine (hasPrefix_pre _ _ _).mono ?_; rintro e w' ⟨rfl, rfl⟩) | go_in)
    rw [rounds_succ]
    go_wp2_with (first | (go_at_call 69; refine (hasPrefix_pre _ _ _).mono ?_; rintro e w' ⟨rfl, rfl⟩) | go_in)

    go_loop [4, 10] (fun c i => ∃ (k : Nat) (cv : Int), k ≤ 7 ∧ 2 + k ≤ s.size ∧ i = .int .i64 ((2 + k : Nat) : Int) ∧ c = .int .i32 cv ∧ 0 ≤ cv ∧ cv < 16 ^ k ∧ Hid (V = pick 2 (scanL 10 k cv (s.data.toList.drop (2 + k))))) (fun _ i => s.size - (intOf i).toNat)
    case atStart => exact ⟨0, 0, by omega, by omega, rfl, rfl, by omega, by decide, hV⟩
    case round =>
      obtain ⟨k, cv, hk7, hks, rfl, rfl, hc0, hc1, hsc⟩ := hrel
      have hp16 : (16 : Int) ^ k ≤ 268435456 := by
        rcases (by omega : k = 0 ∨ k = 1 ∨ k = 2 ∨ k = 3 ∨ k = 4 ∨ k = 5 ∨ k = 6 ∨ k = 7) with rfl | rfl | rfl | rfl | rfl | rfl | rfl | rfl <;> decide
      have hp6 : k < 7 → (16 : Int) ^ k ≤ 16777216 := by
        intro h
        rcases (by omega : k = 0 ∨ k = 1 ∨ k = 2 ∨ k = 3 ∨ k = 4 ∨ k = 5 ∨ k = 6) with rfl | rfl | rfl | rfl | rfl | rfl | rfl <;> decide
      have hcv : cv < 268435456 := by omega
      have hcv6 : k < 7 → cv < 16777216 := fun h => by have := hp6 h; omega
      have HC1 := Lib.hid hc1
      have HC6 := Lib.hid hcv6
      clear hc1 hp16 hp6 hcv6
      by_cases hend : s.size ≤ 2 + k
      · have hv : Hid (V = (0, 0)) := by
          have : s.data.toList.drop (2 + k) = [] := List.drop_eq_nil_of_le (by have := HL.out; omega)
          show _ = _
          rw [hsc.out, this]; rfl
        go_wp2_with fail
        go_step3
        go_wp2_with fail
        simp only [Exit.jump]
        go_ret2
        exact ⟨by rw [hv.out]; rfl, (Below.refl _ _).alloc (Nat.le_refl _) _⟩
      · have hj : 2 + k < s.size := by omega
        obtain ⟨x, HX⟩ : ∃ x, Hid (s.data.toList[2 + k]? = some x) := ⟨s.data.toList[2 + k]'(by have := HL.out; omega), List.getElem?_eq_getElem _⟩
        have hsx : s[2 + k] = x := getk_of s (2 + k) x HX.out hj
        have hdr : s.data.toList.drop (2 + k) = x :: s.data.toList.drop (2 + k + 1) := by
          have hj' : 2 + k < s.data.toList.length := by have := HL.out; omega
          have hg := HX.out
          rw [List.getElem?_eq_getElem hj'] at hg
          rw [List.drop_eq_getElem_cons hj', Option.some.inj hg]
        have HDR := Lib.hid hdr
        clear hdr
        have hx1 : (x.toNat : Int) < 256 := by have := x.toNat_lt; omega
        have hxe : (x = 59) ↔ (x.toNat : Int) = 59 := by
          constructor
          · rintro rfl; rfl
          · intro h; exact UInt8.toNat_inj.1 (by have : (59 : UInt8).toNat = 59 := rfl; omega)
        have HXE := Lib.hid hxe
        clear hxe
        by_cases hA : (x.toNat : Int) = 59 ∧ 0 < k
        · obtain ⟨hA1, hA2⟩ := hA
          have hv : Hid (V = (cv, 2 + k + 1)) := by
            show _ = _
            rw [hsc.out, HDR.out]
            simp only [scanL]
            rw [if_pos ⟨HXE.out.2 hA1, hA2⟩]; rfl
          have hx59 : ((x.toNat : Int) == 59) = true := by simp [hA1]
          clear hA1
          go_wp2_with fail
          simp only [Exit.jump]
          go_ret2
          exact ⟨by rw [hv.out]; exact ret_ii rfl (by omega), (Below.refl _ _).alloc (Nat.le_refl _) _⟩
        · have hcond : ¬ (x = 59 ∧ 0 < k) := fun h => hA ⟨HXE.out.1 h.1, h.2⟩
          have hstep : scanL 10 k cv (s.data.toList.drop (2 + k)) = if digitV 10 x.toNat < 0 ∨ 7 ≤ k then none else scanL 10 (k + 1) (cv * 10 + digitV 10 x.toNat) (s.data.toList.drop (2 + k + 1)) := by
            rw [HDR.out]; simp only [scanL]; rw [if_neg hcond]
          have hdb := digitV_bd 10 x.toNat
          have h59d : (x.toNat : Int) = 59 → digitV 10 x.toNat = -1 := fun h => by rw [h]; decide
          generalize hdv : digitV 10 x.toNat = dv at *
          have HDV := Lib.hid hdv
          clear hdv hcond
          obtain ⟨hdb0, hdb1⟩ := hdb
          have HS := Lib.hid hstep
          clear hstep
          by_cases hB : dv < 0 ∨ 7 ≤ k
          · have hv : Hid (V = (0, 0)) := by
              show _ = _
              rw [hsc.out, HS.out, if_pos hB]; rfl
            by_cases h59 : (x.toNat : Int) = 59
            · have hk0 : k ≤ 0 := by omega
              have hdv1 := h59d h59
              have hx59 : ((x.toNat : Int) == 59) = true := by simp [h59]
              have hlt0 : dv < 0 := by omega
              clear h59 h59d hA hdv1 hB
              go_wp2_with (go_at_call 138; refine (digit_as _ _ _ (by omega) (by omega) dv HDV).mono ?_; rintro e w' ⟨rfl, rfl⟩)
              go_step3
              exact ⟨rfl, rfl, rfl, (Below.refl _ _).alloc (Nat.le_refl _) _, hv.out⟩
            · have hx59 : ((x.toNat : Int) == 59) = false := by simp [h59]
              clear h59 h59d hA
              by_cases hlt0 : dv < 0
              · clear hB
                go_wp2_with (go_at_call 138; refine (digit_as _ _ _ (by omega) (by omega) dv HDV).mono ?_; rintro e w' ⟨rfl, rfl⟩)
                go_step3
                exact ⟨rfl, rfl, rfl, (Below.refl _ _).alloc (Nat.le_refl _) _, hv.out⟩
              · have h7 : 7 ≤ k := by omega
                clear hB
                go_wp2_with (go_at_call 138; refine (digit_as _ _ _ (by omega) (by omega) dv HDV).mono ?_; rintro e w' ⟨rfl, rfl⟩)
                go_step3
                exact ⟨rfl, rfl, rfl, (Below.refl _ _).alloc (Nat.le_refl _) _, hv.out⟩
          · have hlt0 : 0 ≤ dv := by omega
            have hk7 : k < 7 := by omega
            have hcv7 := HC6.out hk7
            have hpw : cv * 10 + dv < 16 ^ (k + 1) := by
              have := HC1.out
              rw [Int.pow_succ]; omega
            have HPW := Lib.hid hpw
            have hsn : Hid (V = pick 2 (scanL 10 (k + 1) (cv * 10 + dv) (s.data.toList.drop (2 + k + 1)))) := by
              show _ = _
              rw [hsc.out, HS.out, if_neg hB]
            clear hpw hB
            by_cases h59 : (x.toNat : Int) = 59
            · have := h59d h59
              omega
            · have hx59 : ((x.toNat : Int) == 59) = false := by simp [h59]
              clear h59 h59d hA
              go_wp2_with (go_at_call 138; refine (digit_as _ _ _ (by omega) (by omega) dv HDV).mono ?_; rintro e w' ⟨rfl, rfl⟩)
              go_round
              case rel => exact ⟨k + 1, cv * 10 + dv, by omega, by omega, by go_num, rfl, by omega, HPW.out, hsn⟩
              case measure => simp [intOf]; omega
  · rintro ⟨tmps, defers⟩ w' ⟨rfl, hsz, hb, hv⟩
    simp only at hsz
    subst hv
    go_wp2
    simp only [Exit.jump]
    go_ret2
    exact ⟨by simp [hsz], hb⟩

set_option maxRecDepth 100000 in
set_option maxHeartbeats 2000000 in
theorem reference_hex (s : ByteArray) (w : World) (_hs : s.size ≤ maxLen) (h0 : pre [38, 97, 109, 112, 59] s.data.toList = false) (h1 : pre [38, 108, 116, 59] s.data.toList = false) (h2 : pre [38, 103, 116, 59] s.data.toList = false) (h3 : pre [38, 113, 117, 111, 116, 59] s.data.toList = false) (h4 : pre [38, 97, 112, 111, 115, 59] s.data.toList = false) (h5 : pre [38, 35] s.data.toList = true) (h6 : pre [38, 35, 120] s.data.toList = true) (hat : 3 ≤ s.size) (V : Int × Nat) (hV : Hid (V = pick 3 (scanL 16 0 0 (s.data.toList.drop 3)))) :
    Calls Try.prog 116 #[.string s] w (Ret w (.tuple #[.int .i32 V.1, .int .i64 (V.2 : Nat)])) := by
  unfold maxLen at _hs
  have hl := size_toList s
  have HL := Lib.hid hl
  clear hl
  have H0 := Lib.hid h0; have H1 := Lib.hid h1
  go_enter Try.func116, Try.ntmps116
  go_wp2
  refine wp_scope_jumps 0 (fun a' w' => a'.defers = [] ∧ a'.tmps.size = 68 ∧ Below w.heap.size w w' ∧ V = (0, 0)) (fun _ _ => 0) rfl ?_ ?_
  · go_wp2
    refine wp_loop_rounds 6 ?_
    rw [rounds_succ]
    go_wp2_with (first | (go_at_call 69; refine (hasPrefix_pre _ _ _).mono ?_; rintro e w' ⟨rfl, rfl⟩) | go_in)
    rw [rounds_succ]
    go_wp2_with (first | (go_at_call 69; refine (hasPrefix_pre _ _ _).mono ?_; rintro e w' ⟨rfl, rfl⟩) | go_in)
    rw [rounds_succ]
    go_wp2_with (first | (go_at_call 69; refine (hasPrefix_pre _ _ _).mono ?_; rintro e w' ⟨rfl, rfl⟩) | go_in)
    rw [rounds_succ]
    go_wp2_with (first | (go_at_call 69; refine (hasPrefix_pre _ _ _).mono ?_; rintro e w' ⟨rfl, rfl⟩) | go_in)
    rw [rounds_succ]
    go_wp2_with (first | (go_at_call 69; refine (hasPrefix_pre _ _ _).mono ?_; rintro e w' ⟨rfl, rfl⟩) | go_in)
    rw [rounds_succ]
    go_wp2_with (first | (go_at_call 69; refine (hasPrefix_pre _ _ _).mono ?_; rintro e w' ⟨rfl, rfl⟩) | go_in)

    go_loop [4, 10] (fun c i => ∃ (k : Nat) (cv : Int), k ≤ 7 ∧ 3 + k ≤ s.size ∧ i = .int .i64 ((3 + k : Nat) : Int) ∧ c = .int .i32 cv ∧ 0 ≤ cv ∧ cv < 16 ^ k ∧ Hid (V = pick 3 (scanL 16 k cv (s.data.toList.drop (3 + k))))) (fun _ i => s.size - (intOf i).toNat)
    case atStart => exact ⟨0, 0, by omega, by omega, rfl, rfl, by omega, by decide, hV⟩
    case round =>
      obtain ⟨k, cv, hk7, hks, rfl, rfl, hc0, hc1, hsc⟩ := hrel
      have hp16 : (16 : Int) ^ k ≤ 268435456 := by
        rcases (by omega : k = 0 ∨ k = 1 ∨ k = 2 ∨ k = 3 ∨ k = 4 ∨ k = 5 ∨ k = 6 ∨ k = 7) with rfl | rfl | rfl | rfl | rfl | rfl | rfl | rfl <;> decide
      have hp6 : k < 7 → (16 : Int) ^ k ≤ 16777216 := by
        intro h
        rcases (by omega : k = 0 ∨ k = 1 ∨ k = 2 ∨ k = 3 ∨ k = 4 ∨ k = 5 ∨ k = 6) with rfl | rfl | rfl | rfl | rfl | rfl | rfl <;> decide
      have hcv : cv < 268435456 := by omega
      have hcv6 : k < 7 → cv < 16777216 := fun h => by have := hp6 h; omega
      have HC1 := Lib.hid hc1
      have HC6 := Lib.hid hcv6
      clear hc1 hp16 hp6 hcv6
      by_cases hend : s.size ≤ 3 + k
      · have hv : Hid (V = (0, 0)) := by
          have : s.data.toList.drop (3 + k) = [] := List.drop_eq_nil_of_le (by have := HL.out; omega)
          show _ = _
          rw [hsc.out, this]; rfl
        go_wp2_with fail
        go_step3
        go_wp2_with fail
        simp only [Exit.jump]
        go_ret2
        exact ⟨by rw [hv.out]; rfl, (Below.refl _ _).alloc (Nat.le_refl _) _⟩
      · have hj : 3 + k < s.size := by omega
        obtain ⟨x, HX⟩ : ∃ x, Hid (s.data.toList[3 + k]? = some x) := ⟨s.data.toList[3 + k]'(by have := HL.out; omega), List.getElem?_eq_getElem _⟩
        have hsx : s[3 + k] = x := getk_of s (3 + k) x HX.out hj
        have hdr : s.data.toList.drop (3 + k) = x :: s.data.toList.drop (3 + k + 1) := by
          have hj' : 3 + k < s.data.toList.length := by have := HL.out; omega
          have hg := HX.out
          rw [List.getElem?_eq_getElem hj'] at hg
          rw [List.drop_eq_getElem_cons hj', Option.some.inj hg]
        have HDR := Lib.hid hdr
        clear hdr
        have hx1 : (x.toNat : Int) < 256 := by have := x.toNat_lt; omega
        have hxe : (x = 59) ↔ (x.toNat : Int) = 59 := by
          constructor
          · rintro rfl; rfl
          · intro h; exact UInt8.toNat_inj.1 (by have : (59 : UInt8).toNat = 59 := rfl; omega)
        have HXE := Lib.hid hxe
        clear hxe
        by_cases hA : (x.toNat : Int) = 59 ∧ 0 < k
        · obtain ⟨hA1, hA2⟩ := hA
          have hv : Hid (V = (cv, 3 + k + 1)) := by
            show _ = _
            rw [hsc.out, HDR.out]
            simp only [scanL]
            rw [if_pos ⟨HXE.out.2 hA1, hA2⟩]; rfl
          have hx59 : ((x.toNat : Int) == 59) = true := by simp [hA1]
          clear hA1
          go_wp2_with fail
          simp only [Exit.jump]
          go_ret2
          exact ⟨by rw [hv.out]; exact ret_ii rfl (by omega), (Below.refl _ _).alloc (Nat.le_refl _) _⟩
        · have hcond : ¬ (x = 59 ∧ 0 < k) := fun h => hA ⟨HXE.out.1 h.1, h.2⟩
          have hstep : scanL 16 k cv (s.data.toList.drop (3 + k)) = if digitV 16 x.toNat < 0 ∨ 7 ≤ k then none else scanL 16 (k + 1) (cv * 16 + digitV 16 x.toNat) (s.data.toList.drop (3 + k + 1)) := by
            rw [HDR.out]; simp only [scanL]; rw [if_neg hcond]
          have hdb := digitV_bd 16 x.toNat
          have h59d : (x.toNat : Int) = 59 → digitV 16 x.toNat = -1 := fun h => by rw [h]; decide
          generalize hdv : digitV 16 x.toNat = dv at *
          have HDV := Lib.hid hdv
          clear hdv hcond
          obtain ⟨hdb0, hdb1⟩ := hdb
          have HS := Lib.hid hstep
          clear hstep
          by_cases hB : dv < 0 ∨ 7 ≤ k
          · have hv : Hid (V = (0, 0)) := by
              show _ = _
              rw [hsc.out, HS.out, if_pos hB]; rfl
            by_cases h59 : (x.toNat : Int) = 59
            · have hk0 : k ≤ 0 := by omega
              have hdv1 := h59d h59
              have hx59 : ((x.toNat : Int) == 59) = true := by simp [h59]
              have hlt0 : dv < 0 := by omega
              clear h59 h59d hA hdv1 hB
              go_wp2_with (go_at_call 138; refine (digit_as _ _ _ (by omega) (by omega) dv HDV).mono ?_; rintro e w' ⟨rfl, rfl⟩)
              go_step3
              exact ⟨rfl, rfl, rfl, (Below.refl _ _).alloc (Nat.le_refl _) _, hv.out⟩
            · have hx59 : ((x.toNat : Int) == 59) = false := by simp [h59]
              clear h59 h59d hA
              by_cases hlt0 : dv < 0
              · clear hB
                go_wp2_with (go_at_call 138; refine (digit_as _ _ _ (by omega) (by omega) dv HDV).mono ?_; rintro e w' ⟨rfl, rfl⟩)
                go_step3
                exact ⟨rfl, rfl, rfl, (Below.refl _ _).alloc (Nat.le_refl _) _, hv.out⟩
              · have h7 : 7 ≤ k := by omega
                clear hB
                go_wp2_with (go_at_call 138; refine (digit_as _ _ _ (by omega) (by omega) dv HDV).mono ?_; rintro e w' ⟨rfl, rfl⟩)
                go_step3
                exact ⟨rfl, rfl, rfl, (Below.refl _ _).alloc (Nat.le_refl _) _, hv.out⟩
          · have hlt0 : 0 ≤ dv := by omega
            have hk7 : k < 7 := by omega
            have hcv7 := HC6.out hk7
            have hpw : cv * 16 + dv < 16 ^ (k + 1) := by
              have := HC1.out
              rw [Int.pow_succ]; omega
            have HPW := Lib.hid hpw
            have hsn : Hid (V = pick 3 (scanL 16 (k + 1) (cv * 16 + dv) (s.data.toList.drop (3 + k + 1)))) := by
              show _ = _
              rw [hsc.out, HS.out, if_neg hB]
            clear hpw hB
            by_cases h59 : (x.toNat : Int) = 59
            · have := h59d h59
              omega
            · have hx59 : ((x.toNat : Int) == 59) = false := by simp [h59]
              clear h59 h59d hA
              go_wp2_with (go_at_call 138; refine (digit_as _ _ _ (by omega) (by omega) dv HDV).mono ?_; rintro e w' ⟨rfl, rfl⟩)
              go_round
              case rel => exact ⟨k + 1, cv * 16 + dv, by omega, by omega, by go_num, rfl, by omega, HPW.out, hsn⟩
              case measure => simp [intOf]; omega
  · rintro ⟨tmps, defers⟩ w' ⟨rfl, hsz, hb, hv⟩
    simp only at hsz
    subst hv
    go_wp2
    simp only [Exit.jump]
    go_ret2
    exact ⟨by simp [hsz], hb⟩


/-- escape.reference: any text. -/
theorem reference_any (s : ByteArray) (w : World) (hs : s.size ≤ maxLen) :
    Calls Try.prog 116 #[.string s] w (Ret w (.tuple #[.int .i32 (refL s.data.toList).1, .int .i64 ((refL s.data.toList).2 : Nat)])) := by
  have hl := size_toList s
  unfold refL
  by_cases h0 : pre [38, 97, 109, 112, 59] s.data.toList = true
  · rw [if_pos h0]; exact reference_0 s w h0
  by_cases h1 : pre [38, 108, 116, 59] s.data.toList = true
  · rw [if_neg h0, if_pos h1]; exact reference_1 s w (by simpa using h0) h1
  by_cases h2 : pre [38, 103, 116, 59] s.data.toList = true
  · rw [if_neg h0, if_neg h1, if_pos h2]; exact reference_2 s w (by simpa using h0) (by simpa using h1) h2
  by_cases h3 : pre [38, 113, 117, 111, 116, 59] s.data.toList = true
  · rw [if_neg h0, if_neg h1, if_neg h2, if_pos h3]; exact reference_3 s w (by simpa using h0) (by simpa using h1) (by simpa using h2) h3
  by_cases h4 : pre [38, 97, 112, 111, 115, 59] s.data.toList = true
  · rw [if_neg h0, if_neg h1, if_neg h2, if_neg h3, if_pos h4]; exact reference_4 s w (by simpa using h0) (by simpa using h1) (by simpa using h2) (by simpa using h3) h4
  rw [if_neg h0, if_neg h1, if_neg h2, if_neg h3, if_neg h4]
  by_cases h5 : pre [38, 35] s.data.toList = true
  · rw [if_pos h5]
    have h5l := pre_len h5
    by_cases h6 : pre [38, 35, 120] s.data.toList = true
    · rw [if_pos h6]
      have h6l := pre_len h6
      exact reference_hex s w hs (by simpa using h0) (by simpa using h1) (by simpa using h2) (by simpa using h3) (by simpa using h4) h5 h6 (by rw [← hl]; exact h6l) _ rfl
    · rw [if_neg h6]
      exact reference_ten s w hs (by simpa using h0) (by simpa using h1) (by simpa using h2) (by simpa using h3) (by simpa using h4) h5 (by simpa using h6) (by rw [← hl]; exact h5l) _ rfl
  · rw [if_neg h5]
    exact reference_none s w (by simpa using h0) (by simpa using h1) (by simpa using h2) (by simpa using h3) (by simpa using h4) (by simpa using h5)
end Go.Proofs.Ythifddkmbjnncaa

/-
  The walk of escape.Undo.
-/
namespace Go.Proofs.Ythifddkmbjnncaa
open Go.RowKit

theorem reference_as (s : ByteArray) (w : World) (hs : s.size ≤ maxLen) (c : Int) (n : Nat) (h : Hid (refL s.data.toList = (c, n))) :
    Calls Try.prog 116 #[.string s] w (Ret w (.tuple #[.int .i32 c, .int .i64 (n : Nat)])) := by
  have := reference_any s w hs
  rw [h.out] at this
  exact this

theorem stepL_lt {v : Bool} {l : List UInt8} {c : Int} {n : Nat} (h : nextL l = (c, n)) (hn : 0 < n) (hc : c = 60 ∨ c = 62) : stepL v l = .inl 20 := by
  simp only [stepL, h]; rw [if_pos ⟨hn, hc⟩]
theorem stepL_no {v : Bool} {l : List UInt8} {c : Int} {n : Nat} (h : nextL l = (c, n)) (hn : n = 0) : stepL v l = .inl 21 := by
  simp only [stepL, h]; rw [if_neg (by omega), if_pos (.inl hn)]
theorem stepL_13 {v : Bool} {l : List UInt8} {c : Int} {n : Nat} (h : nextL l = (c, n)) (hc : c = 13 ∨ (v = true ∧ (c = 34 ∨ c = 9 ∨ c = 10))) : stepL v l = .inl 21 := by
  simp only [stepL, h]; rw [if_neg (by omega), if_pos (.inr hc)]
theorem stepL_put {v : Bool} {l : List UInt8} {c : Int} {n : Nat} (h : nextL l = (c, n)) (hn : 0 < n) (h1 : ¬ (c = 60 ∨ c = 62)) (h2 : ¬ (c = 13 ∨ (v = true ∧ (c = 34 ∨ c = 9 ∨ c = 10)))) (h3 : c ≠ 38) :
    stepL v l = if charB c = false then .inl 21 else .inr (putF c, n) := by
  simp only [stepL, h]; rw [if_neg (fun h => h1 h.2), if_neg (by intro h; rcases h with h | h; omega; exact h2 h), if_neg h3, if_neg (by omega)]
theorem stepL_ref {v : Bool} {l : List UInt8} {n : Nat} (h : nextL l = (38, n)) (hn : 0 < n) {c' : Int} {n' : Nat} (hr : refL l = (c', n')) :
    stepL v l = if n' = 0 then .inl 20 else if charB c' = false then .inl 21 else .inr (putF c', n') := by
  simp only [stepL, h, hr]; rw [if_neg (by omega), if_neg (by omega)]; simp only [if_true]

theorem joinU_bad (acc : List UInt8) (k : Nat) (e : Int) (h : e ≠ 0) : joinU acc k ([], 0, e) = ([], k, e) := by simp [joinU, h]

set_option maxRecDepth 100000 in
set_option maxHeartbeats 4000000 in
theorem Undo_true (s : ByteArray) (w : World) (hs : s.size ≤ 1099511627776) (V : List UInt8 × Nat × Int) (hV : Hid (V = undoL true s.data.toList)) :
    Calls Try.prog 96 #[.string s, .bool true] w (Ret w (.tuple #[.string ⟨V.1.toArray⟩, .int .i64 (V.2.1 : Nat), .int .i64 V.2.2])) := by
  go_enter Try.func96, Try.ntmps96
  go_wp2_with fail
  go_loopw [8] (fun av wr => ∃ (k : Nat) (acc : List UInt8), av = .int .i64 k ∧ k ≤ s.size ∧ Hid (V = joinU acc k (undoL true (s.data.toList.drop k))) ∧ acc.length ≤ 4 * k ∧
      Lib.IsBuilder 80 5 w.heap.size w.heap.size (Lib.byteCells acc) wr ∧ Below w.heap.size w wr ∧ w.heap.size < wr.heap.size) (fun av _ => s.size - (intOf av).toNat)
  case atStart =>
    refine ⟨0, [], rfl, Nat.zero_le _, ?_, by simp, builder_new _ _ _, (Below.refl _ _).alloc (Nat.le_refl _) _, by simp⟩
    show _ = _
    rw [hV.out, List.drop_zero, joinU_nil _ (undoL_shape _ _)]
  case round =>
    obtain ⟨k, acc, rfl, hks, hjo, hal, hB, hbel, hlt⟩ := hrel
    have HL := Lib.hid (size_toList s)
    by_cases hend : k < s.size
    · have hx : Hid ((s.extract k s.size).data.toList = s.data.toList.drop k) := Lib.extract_to_end s k
      have hxs : (s.extract k s.size).size = s.size - k := by simp
      have hnn : Hid (s.data.toList.drop k ≠ []) := by
        intro h
        have := congrArg List.length h
        rw [List.length_drop, HL.out] at this
        simp at this; omega
      have hszl : (s.extract k s.size).size ≤ 1099511627776 := by omega
      have HXS := Lib.hid hxs
      clear hxs
      obtain ⟨c, n, hq⟩ : ∃ c n, Hid (nextL (s.extract k s.size).data.toList = (c, n)) := ⟨_, _, rfl⟩
      have hle := nextL_le (s.extract k s.size).data.toList
      rw [hq.out, hx.out, List.length_drop, HL.out] at hle
      obtain ⟨hn1, hn4⟩ := hle
      simp only at hn1 hn4
      by_cases hn : n = 0
      · have hv : Hid (V = ([], k, 21)) := by
          have := stepL_no (v := true) hq.out hn
          rw [hx.out] at this
          show _ = _
          rw [hjo.out, undoL_bad _ _ hnn.out _ this, joinU_bad _ _ _ (by decide)]
        have hn0 : ((n : Int) == 0) = true := by simp [hn]
        have hnz : n ≤ 0 := by omega
        clear hn
        go_wp2_with (go_at_call 77; refine (Next_as (s.extract k s.size) wr (by unfold maxLen; omega) c n hq).mono ?_; rintro e w2 ⟨rfl, hb2⟩)
        go_ret3
        exact ⟨by rw [hv.out]; rfl, hbel.trans (hb2.mono (by omega))⟩
      have hnp : 0 < n := by omega
      have hn0 : ((n : Int) == 0) = false := by simp [hn]
      clear hn
      by_cases hc60 : c = 60
      · subst hc60
        have hv : Hid (V = ([], k, 20)) := by
          have := stepL_lt (v := true) hq.out hnp (.inl rfl)
          rw [hx.out] at this
          show _ = _
          rw [hjo.out, undoL_bad _ _ hnn.out _ this, joinU_bad _ _ _ (by decide)]
        go_wp2_with (go_at_call 77; refine (Next_as (s.extract k s.size) wr (by unfold maxLen; omega) 60 n hq).mono ?_; rintro e w2 ⟨rfl, hb2⟩)
        go_ret3
        exact ⟨by rw [hv.out]; rfl, hbel.trans (hb2.mono (by omega))⟩
      by_cases hc62 : c = 62
      · subst hc62
        have hv : Hid (V = ([], k, 20)) := by
          have := stepL_lt (v := true) hq.out hnp (.inr rfl)
          rw [hx.out] at this
          show _ = _
          rw [hjo.out, undoL_bad _ _ hnn.out _ this, joinU_bad _ _ _ (by decide)]
        go_wp2_with (go_at_call 77; refine (Next_as (s.extract k s.size) wr (by unfold maxLen; omega) 62 n hq).mono ?_; rintro e w2 ⟨rfl, hb2⟩)
        go_ret3
        exact ⟨by rw [hv.out]; rfl, hbel.trans (hb2.mono (by omega))⟩
      by_cases hc13 : c = 13
      · subst hc13
        have hv : Hid (V = ([], k, 21)) := by
          have := stepL_13 (v := true) hq.out (.inl rfl)
          rw [hx.out] at this
          show _ = _
          rw [hjo.out, undoL_bad _ _ hnn.out _ this, joinU_bad _ _ _ (by decide)]
        go_wp2_with (go_at_call 77; refine (Next_as (s.extract k s.size) wr (by unfold maxLen; omega) 13 n hq).mono ?_; rintro e w2 ⟨rfl, hb2⟩)
        go_ret3
        exact ⟨by rw [hv.out]; rfl, hbel.trans (hb2.mono (by omega))⟩
      by_cases hc34 : c = 34
      · subst hc34
        have hv : Hid (V = ([], k, 21)) := by
          have := stepL_13 (v := true) hq.out (.inr ⟨rfl, .inl rfl⟩)
          rw [hx.out] at this
          show _ = _
          rw [hjo.out, undoL_bad _ _ hnn.out _ this, joinU_bad _ _ _ (by decide)]
        go_wp2_with (go_at_call 77; refine (Next_as (s.extract k s.size) wr (by unfold maxLen; omega) 34 n hq).mono ?_; rintro e w2 ⟨rfl, hb2⟩)
        go_ret3
        exact ⟨by rw [hv.out]; rfl, hbel.trans (hb2.mono (by omega))⟩
      by_cases hc9 : c = 9
      · subst hc9
        have hv : Hid (V = ([], k, 21)) := by
          have := stepL_13 (v := true) hq.out (.inr ⟨rfl, .inr (.inl rfl)⟩)
          rw [hx.out] at this
          show _ = _
          rw [hjo.out, undoL_bad _ _ hnn.out _ this, joinU_bad _ _ _ (by decide)]
        go_wp2_with (go_at_call 77; refine (Next_as (s.extract k s.size) wr (by unfold maxLen; omega) 9 n hq).mono ?_; rintro e w2 ⟨rfl, hb2⟩)
        go_ret3
        exact ⟨by rw [hv.out]; rfl, hbel.trans (hb2.mono (by omega))⟩
      by_cases hc10 : c = 10
      · subst hc10
        have hv : Hid (V = ([], k, 21)) := by
          have := stepL_13 (v := true) hq.out (.inr ⟨rfl, .inr (.inr rfl)⟩)
          rw [hx.out] at this
          show _ = _
          rw [hjo.out, undoL_bad _ _ hnn.out _ this, joinU_bad _ _ _ (by decide)]
        go_wp2_with (go_at_call 77; refine (Next_as (s.extract k s.size) wr (by unfold maxLen; omega) 10 n hq).mono ?_; rintro e w2 ⟨rfl, hb2⟩)
        go_ret3
        exact ⟨by rw [hv.out]; rfl, hbel.trans (hb2.mono (by omega))⟩
      by_cases hc38 : c = 38
      · subst hc38
        obtain ⟨c', n', hr⟩ : ∃ c' n', Hid (refL (s.extract k s.size).data.toList = (c', n')) := ⟨_, _, rfl⟩
        have hrl := refL_le (s.extract k s.size).data.toList
        rw [hr.out, hx.out, List.length_drop, HL.out] at hrl
        simp only at hrl
        have hstep := stepL_ref (v := true) hq.out hnp hr.out
        rw [hx.out] at hstep
        by_cases hn' : n' = 0
        · rw [if_pos hn'] at hstep
          have hv : Hid (V = ([], k, 20)) := by
            show _ = _
            rw [hjo.out, undoL_bad _ _ hnn.out _ hstep, joinU_bad _ _ _ (by decide)]
          have hn0' : ((n' : Int) == 0) = true := by simp [hn']
          clear hn' hstep
          go_wp2_with (first | (go_at_call 77; refine (Next_as (s.extract k s.size) wr (by unfold maxLen; omega) 38 n hq).mono ?_; rintro e w2 ⟨rfl, hb2⟩) | (go_at_call 116; refine (reference_as (s.extract k s.size) _ (by unfold maxLen; omega) c' n' hr).mono ?_; rintro e w3 ⟨rfl, hb3⟩) | (go_at_call 103; refine (Put_any _ _).mono ?_; rintro e w4 ⟨rfl, hb4⟩))
          go_ret3
          have hz2 := hb2.size; have hz3 := hb3.size
          exact ⟨by rw [hv.out]; rfl, ((hbel.trans (hb2.mono (by omega))).trans (hb3.mono (by omega))).trans (hb4.mono (by omega))⟩
        rw [if_neg hn'] at hstep
        have hn0' : ((n' : Int) == 0) = false := by simp [hn']
        have hnp' : 0 < n' := by omega
        clear hn'
        by_cases hch : charB c' = false
        · rw [if_pos hch] at hstep
          have hv : Hid (V = ([], k, 21)) := by
            show _ = _
            rw [hjo.out, undoL_bad _ _ hnn.out _ hstep, joinU_bad _ _ _ (by decide)]
          clear hstep
          go_wp2_with (first | (go_at_call 77; refine (Next_as (s.extract k s.size) wr (by unfold maxLen; omega) 38 n hq).mono ?_; rintro e w2 ⟨rfl, hb2⟩) | (go_at_call 116; refine (reference_as (s.extract k s.size) _ (by unfold maxLen; omega) c' n' hr).mono ?_; rintro e w3 ⟨rfl, hb3⟩) | (go_at_call 103; refine (Put_any _ _).mono ?_; rintro e w4 ⟨rfl, hb4⟩))
          go_ret3
          have hz2 := hb2.size; have hz3 := hb3.size
          exact ⟨by rw [hv.out]; rfl, ((hbel.trans (hb2.mono (by omega))).trans (hb3.mono (by omega))).trans (hb4.mono (by omega))⟩
        · rw [if_neg hch] at hstep
          have hch' : charB c' = true := by simpa using hch
          have HS := Lib.hid hstep
          have hpl := putF_len c'
          clear hstep hch
          go_wp2_with (first | (go_at_call 77; refine (Next_as (s.extract k s.size) wr (by unfold maxLen; omega) 38 n hq).mono ?_; rintro e w2 ⟨rfl, hb2⟩) | (go_at_call 116; refine (reference_as (s.extract k s.size) _ (by unfold maxLen; omega) c' n' hr).mono ?_; rintro e w3 ⟨rfl, hb3⟩) | (go_at_call 103; refine (Put_any _ _).mono ?_; rintro e w4 ⟨rfl, hb4⟩))
          have hz2 := hb2.size; have hz4 := hb4.size; have hz3 := hb3.size
          have hB4 := builder_below (builder_below (builder_below hB hb2) hb3) hb4
          go_wp2_with (go_at_call 53; refine (Try.Builder_WriteString _ _ _ _ _ hB4 ?hlen1 (by omega)).mono ?_)
          case hlen1 => rw [Lib.byteCells_length]; show acc.length + (putF c').toArray.size ≤ _; simp; omega
          rintro e w5 ⟨rfl, hB5, hb5⟩
          have hz5 := hb5.size
          go_wp2
          go_roundw
          case rel =>
            refine ⟨k + n', acc ++ putF c', by go_num, by omega, ?_, ?_, ?_, ?_, by omega⟩
            · show _ = _
              rw [hjo.out, undoL_step _ _ hnn.out _ _ HS.out, joinU_join, List.drop_drop]
            · rw [List.length_append]; omega
            · rw [Lib.byteCells_append]; exact .inr hB5
            · exact (((hbel.trans (hb2.mono (by omega))).trans (hb3.mono (by omega))).trans (hb4.mono (by omega))).trans hb5
          case measure => simp [intOf]; omega
      have hstep := stepL_put (v := true) hq.out hnp (by omega) (by simp; omega) hc38
      rw [hx.out] at hstep
      have hb60 : (c == 60) = false := by simp; omega
      have hb62 : (c == 62) = false := by simp; omega
      have hb13 : (c == 13) = false := by simp; omega
      have hb34 : (c == 34) = false := by simp; omega
      have hb9 : (c == 9) = false := by simp; omega
      have hb10 : (c == 10) = false := by simp; omega
      have hb38 : (c == 38) = false := by simp; omega
      clear hc60 hc62 hc13 hc34 hc9 hc10 hc38
      by_cases hch : charB c = false
      · rw [if_pos hch] at hstep
        have hv : Hid (V = ([], k, 21)) := by
          show _ = _
          rw [hjo.out, undoL_bad _ _ hnn.out _ hstep, joinU_bad _ _ _ (by decide)]
        clear hstep
        go_wp2_with (first | (go_at_call 77; refine (Next_as (s.extract k s.size) wr (by unfold maxLen; omega) c n hq).mono ?_; rintro e w2 ⟨rfl, hb2⟩) | (go_at_call 103; refine (Put_any _ _).mono ?_; rintro e w4 ⟨rfl, hb4⟩))
        go_ret3
        have hz2 := hb2.size
        exact ⟨by rw [hv.out]; rfl, (hbel.trans (hb2.mono (by omega))).trans (hb4.mono (by omega))⟩
      · rw [if_neg hch] at hstep
        have hch' : charB c = true := by simpa using hch
        have HS := Lib.hid hstep
        have hpl := putF_len c
        clear hstep hch
        go_wp2_with (first | (go_at_call 77; refine (Next_as (s.extract k s.size) wr (by unfold maxLen; omega) c n hq).mono ?_; rintro e w2 ⟨rfl, hb2⟩) | (go_at_call 103; refine (Put_any _ _).mono ?_; rintro e w4 ⟨rfl, hb4⟩))
        have hz2 := hb2.size; have hz4 := hb4.size; skip
        have hB4 := builder_below (builder_below hB hb2) hb4
        go_wp2_with (go_at_call 53; refine (Try.Builder_WriteString _ _ _ _ _ hB4 ?hlen2 (by omega)).mono ?_)
        case hlen2 => rw [Lib.byteCells_length]; show acc.length + (putF c).toArray.size ≤ _; simp; omega
        rintro e w5 ⟨rfl, hB5, hb5⟩
        have hz5 := hb5.size
        go_wp2
        go_roundw
        case rel =>
          refine ⟨k + n, acc ++ putF c, by go_num, by omega, ?_, ?_, ?_, ?_, by omega⟩
          · show _ = _
            rw [hjo.out, undoL_step _ _ hnn.out _ _ HS.out, joinU_join, List.drop_drop]
          · rw [List.length_append]; omega
          · rw [Lib.byteCells_append]; exact .inr hB5
          · exact ((hbel.trans (hb2.mono (by omega))).trans (hb4.mono (by omega))).trans hb5
        case measure => simp [intOf]; omega
    · have hk : k = s.size := by omega
      have hv : Hid (V = (acc, s.size, 0)) := by
        have : s.data.toList.drop k = [] := List.drop_eq_nil_of_le (by rw [HL.out]; omega)
        show _ = _
        rw [hjo.out, this, undoL_nil, hk]; simp [joinU]
      clear hk
      go_wp2_with (go_at_call 57; refine (Try.Builder_String _ _ _ _ hB (by omega)).mono ?_; rintro e w2 ⟨rfl, hb2⟩)
      go_ret3
      exact ⟨by rw [hv.out]; rfl, hbel.trans hb2⟩

set_option maxRecDepth 100000 in
set_option maxHeartbeats 4000000 in
theorem Undo_false (s : ByteArray) (w : World) (hs : s.size ≤ 1099511627776) (V : List UInt8 × Nat × Int) (hV : Hid (V = undoL false s.data.toList)) :
    Calls Try.prog 96 #[.string s, .bool false] w (Ret w (.tuple #[.string ⟨V.1.toArray⟩, .int .i64 (V.2.1 : Nat), .int .i64 V.2.2])) := by
  go_enter Try.func96, Try.ntmps96
  go_wp2_with fail
  go_loopw [8] (fun av wr => ∃ (k : Nat) (acc : List UInt8), av = .int .i64 k ∧ k ≤ s.size ∧ Hid (V = joinU acc k (undoL false (s.data.toList.drop k))) ∧ acc.length ≤ 4 * k ∧
      Lib.IsBuilder 80 5 w.heap.size w.heap.size (Lib.byteCells acc) wr ∧ Below w.heap.size w wr ∧ w.heap.size < wr.heap.size) (fun av _ => s.size - (intOf av).toNat)
  case atStart =>
    refine ⟨0, [], rfl, Nat.zero_le _, ?_, by simp, builder_new _ _ _, (Below.refl _ _).alloc (Nat.le_refl _) _, by simp⟩
    show _ = _
    rw [hV.out, List.drop_zero, joinU_nil _ (undoL_shape _ _)]
  case round =>
    obtain ⟨k, acc, rfl, hks, hjo, hal, hB, hbel, hlt⟩ := hrel
    have HL := Lib.hid (size_toList s)
    by_cases hend : k < s.size
    · have hx : Hid ((s.extract k s.size).data.toList = s.data.toList.drop k) := Lib.extract_to_end s k
      have hxs : (s.extract k s.size).size = s.size - k := by simp
      have hnn : Hid (s.data.toList.drop k ≠ []) := by
        intro h
        have := congrArg List.length h
        rw [List.length_drop, HL.out] at this
        simp at this; omega
      have hszl : (s.extract k s.size).size ≤ 1099511627776 := by omega
      have HXS := Lib.hid hxs
      clear hxs
      obtain ⟨c, n, hq⟩ : ∃ c n, Hid (nextL (s.extract k s.size).data.toList = (c, n)) := ⟨_, _, rfl⟩
      have hle := nextL_le (s.extract k s.size).data.toList
      rw [hq.out, hx.out, List.length_drop, HL.out] at hle
      obtain ⟨hn1, hn4⟩ := hle
      simp only at hn1 hn4
      by_cases hn : n = 0
      · have hv : Hid (V = ([], k, 21)) := by
          have := stepL_no (v := false) hq.out hn
          rw [hx.out] at this
          show _ = _
          rw [hjo.out, undoL_bad _ _ hnn.out _ this, joinU_bad _ _ _ (by decide)]
        have hn0 : ((n : Int) == 0) = true := by simp [hn]
        have hnz : n ≤ 0 := by omega
        clear hn
        go_wp2_with (go_at_call 77; refine (Next_as (s.extract k s.size) wr (by unfold maxLen; omega) c n hq).mono ?_; rintro e w2 ⟨rfl, hb2⟩)
        go_ret3
        exact ⟨by rw [hv.out]; rfl, hbel.trans (hb2.mono (by omega))⟩
      have hnp : 0 < n := by omega
      have hn0 : ((n : Int) == 0) = false := by simp [hn]
      clear hn
      by_cases hc60 : c = 60
      · subst hc60
        have hv : Hid (V = ([], k, 20)) := by
          have := stepL_lt (v := false) hq.out hnp (.inl rfl)
          rw [hx.out] at this
          show _ = _
          rw [hjo.out, undoL_bad _ _ hnn.out _ this, joinU_bad _ _ _ (by decide)]
        go_wp2_with (go_at_call 77; refine (Next_as (s.extract k s.size) wr (by unfold maxLen; omega) 60 n hq).mono ?_; rintro e w2 ⟨rfl, hb2⟩)
        go_ret3
        exact ⟨by rw [hv.out]; rfl, hbel.trans (hb2.mono (by omega))⟩
      by_cases hc62 : c = 62
      · subst hc62
        have hv : Hid (V = ([], k, 20)) := by
          have := stepL_lt (v := false) hq.out hnp (.inr rfl)
          rw [hx.out] at this
          show _ = _
          rw [hjo.out, undoL_bad _ _ hnn.out _ this, joinU_bad _ _ _ (by decide)]
        go_wp2_with (go_at_call 77; refine (Next_as (s.extract k s.size) wr (by unfold maxLen; omega) 62 n hq).mono ?_; rintro e w2 ⟨rfl, hb2⟩)
        go_ret3
        exact ⟨by rw [hv.out]; rfl, hbel.trans (hb2.mono (by omega))⟩
      by_cases hc13 : c = 13
      · subst hc13
        have hv : Hid (V = ([], k, 21)) := by
          have := stepL_13 (v := false) hq.out (.inl rfl)
          rw [hx.out] at this
          show _ = _
          rw [hjo.out, undoL_bad _ _ hnn.out _ this, joinU_bad _ _ _ (by decide)]
        go_wp2_with (go_at_call 77; refine (Next_as (s.extract k s.size) wr (by unfold maxLen; omega) 13 n hq).mono ?_; rintro e w2 ⟨rfl, hb2⟩)
        go_ret3
        exact ⟨by rw [hv.out]; rfl, hbel.trans (hb2.mono (by omega))⟩
      by_cases hc38 : c = 38
      · subst hc38
        obtain ⟨c', n', hr⟩ : ∃ c' n', Hid (refL (s.extract k s.size).data.toList = (c', n')) := ⟨_, _, rfl⟩
        have hrl := refL_le (s.extract k s.size).data.toList
        rw [hr.out, hx.out, List.length_drop, HL.out] at hrl
        simp only at hrl
        have hstep := stepL_ref (v := false) hq.out hnp hr.out
        rw [hx.out] at hstep
        by_cases hn' : n' = 0
        · rw [if_pos hn'] at hstep
          have hv : Hid (V = ([], k, 20)) := by
            show _ = _
            rw [hjo.out, undoL_bad _ _ hnn.out _ hstep, joinU_bad _ _ _ (by decide)]
          have hn0' : ((n' : Int) == 0) = true := by simp [hn']
          clear hn' hstep
          go_wp2_with (first | (go_at_call 77; refine (Next_as (s.extract k s.size) wr (by unfold maxLen; omega) 38 n hq).mono ?_; rintro e w2 ⟨rfl, hb2⟩) | (go_at_call 116; refine (reference_as (s.extract k s.size) _ (by unfold maxLen; omega) c' n' hr).mono ?_; rintro e w3 ⟨rfl, hb3⟩) | (go_at_call 103; refine (Put_any _ _).mono ?_; rintro e w4 ⟨rfl, hb4⟩))
          go_ret3
          have hz2 := hb2.size; have hz3 := hb3.size
          exact ⟨by rw [hv.out]; rfl, ((hbel.trans (hb2.mono (by omega))).trans (hb3.mono (by omega))).trans (hb4.mono (by omega))⟩
        rw [if_neg hn'] at hstep
        have hn0' : ((n' : Int) == 0) = false := by simp [hn']
        have hnp' : 0 < n' := by omega
        clear hn'
        by_cases hch : charB c' = false
        · rw [if_pos hch] at hstep
          have hv : Hid (V = ([], k, 21)) := by
            show _ = _
            rw [hjo.out, undoL_bad _ _ hnn.out _ hstep, joinU_bad _ _ _ (by decide)]
          clear hstep
          go_wp2_with (first | (go_at_call 77; refine (Next_as (s.extract k s.size) wr (by unfold maxLen; omega) 38 n hq).mono ?_; rintro e w2 ⟨rfl, hb2⟩) | (go_at_call 116; refine (reference_as (s.extract k s.size) _ (by unfold maxLen; omega) c' n' hr).mono ?_; rintro e w3 ⟨rfl, hb3⟩) | (go_at_call 103; refine (Put_any _ _).mono ?_; rintro e w4 ⟨rfl, hb4⟩))
          go_ret3
          have hz2 := hb2.size; have hz3 := hb3.size
          exact ⟨by rw [hv.out]; rfl, ((hbel.trans (hb2.mono (by omega))).trans (hb3.mono (by omega))).trans (hb4.mono (by omega))⟩
        · rw [if_neg hch] at hstep
          have hch' : charB c' = true := by simpa using hch
          have HS := Lib.hid hstep
          have hpl := putF_len c'
          clear hstep hch
          go_wp2_with (first | (go_at_call 77; refine (Next_as (s.extract k s.size) wr (by unfold maxLen; omega) 38 n hq).mono ?_; rintro e w2 ⟨rfl, hb2⟩) | (go_at_call 116; refine (reference_as (s.extract k s.size) _ (by unfold maxLen; omega) c' n' hr).mono ?_; rintro e w3 ⟨rfl, hb3⟩) | (go_at_call 103; refine (Put_any _ _).mono ?_; rintro e w4 ⟨rfl, hb4⟩))
          have hz2 := hb2.size; have hz4 := hb4.size; have hz3 := hb3.size
          have hB4 := builder_below (builder_below (builder_below hB hb2) hb3) hb4
          go_wp2_with (go_at_call 53; refine (Try.Builder_WriteString _ _ _ _ _ hB4 ?hlen1 (by omega)).mono ?_)
          case hlen1 => rw [Lib.byteCells_length]; show acc.length + (putF c').toArray.size ≤ _; simp; omega
          rintro e w5 ⟨rfl, hB5, hb5⟩
          have hz5 := hb5.size
          go_wp2
          go_roundw
          case rel =>
            refine ⟨k + n', acc ++ putF c', by go_num, by omega, ?_, ?_, ?_, ?_, by omega⟩
            · show _ = _
              rw [hjo.out, undoL_step _ _ hnn.out _ _ HS.out, joinU_join, List.drop_drop]
            · rw [List.length_append]; omega
            · rw [Lib.byteCells_append]; exact .inr hB5
            · exact (((hbel.trans (hb2.mono (by omega))).trans (hb3.mono (by omega))).trans (hb4.mono (by omega))).trans hb5
          case measure => simp [intOf]; omega
      have hstep := stepL_put (v := false) hq.out hnp (by omega) (by simp; omega) hc38
      rw [hx.out] at hstep
      have hb60 : (c == 60) = false := by simp; omega
      have hb62 : (c == 62) = false := by simp; omega
      have hb13 : (c == 13) = false := by simp; omega
      have hb38 : (c == 38) = false := by simp; omega
      clear hc60 hc62 hc13 hc38
      by_cases hch : charB c = false
      · rw [if_pos hch] at hstep
        have hv : Hid (V = ([], k, 21)) := by
          show _ = _
          rw [hjo.out, undoL_bad _ _ hnn.out _ hstep, joinU_bad _ _ _ (by decide)]
        clear hstep
        go_wp2_with (first | (go_at_call 77; refine (Next_as (s.extract k s.size) wr (by unfold maxLen; omega) c n hq).mono ?_; rintro e w2 ⟨rfl, hb2⟩) | (go_at_call 103; refine (Put_any _ _).mono ?_; rintro e w4 ⟨rfl, hb4⟩))
        go_ret3
        have hz2 := hb2.size
        exact ⟨by rw [hv.out]; rfl, (hbel.trans (hb2.mono (by omega))).trans (hb4.mono (by omega))⟩
      · rw [if_neg hch] at hstep
        have hch' : charB c = true := by simpa using hch
        have HS := Lib.hid hstep
        have hpl := putF_len c
        clear hstep hch
        go_wp2_with (first | (go_at_call 77; refine (Next_as (s.extract k s.size) wr (by unfold maxLen; omega) c n hq).mono ?_; rintro e w2 ⟨rfl, hb2⟩) | (go_at_call 103; refine (Put_any _ _).mono ?_; rintro e w4 ⟨rfl, hb4⟩))
        have hz2 := hb2.size; have hz4 := hb4.size; skip
        have hB4 := builder_below (builder_below hB hb2) hb4
        go_wp2_with (go_at_call 53; refine (Try.Builder_WriteString _ _ _ _ _ hB4 ?hlen2 (by omega)).mono ?_)
        case hlen2 => rw [Lib.byteCells_length]; show acc.length + (putF c).toArray.size ≤ _; simp; omega
        rintro e w5 ⟨rfl, hB5, hb5⟩
        have hz5 := hb5.size
        go_wp2
        go_roundw
        case rel =>
          refine ⟨k + n, acc ++ putF c, by go_num, by omega, ?_, ?_, ?_, ?_, by omega⟩
          · show _ = _
            rw [hjo.out, undoL_step _ _ hnn.out _ _ HS.out, joinU_join, List.drop_drop]
          · rw [List.length_append]; omega
          · rw [Lib.byteCells_append]; exact .inr hB5
          · exact ((hbel.trans (hb2.mono (by omega))).trans (hb4.mono (by omega))).trans hb5
        case measure => simp [intOf]; omega
    · have hk : k = s.size := by omega
      have hv : Hid (V = (acc, s.size, 0)) := by
        have : s.data.toList.drop k = [] := List.drop_eq_nil_of_le (by rw [HL.out]; omega)
        show _ = _
        rw [hjo.out, this, undoL_nil, hk]; simp [joinU]
      clear hk
      go_wp2_with (go_at_call 57; refine (Try.Builder_String _ _ _ _ hB (by omega)).mono ?_; rintro e w2 ⟨rfl, hb2⟩)
      go_ret3
      exact ⟨by rw [hv.out]; rfl, hbel.trans hb2⟩

theorem Undo_any (s : ByteArray) (v : Bool) (w : World) (hs : s.size ≤ 1099511627776) :
    Calls Try.prog 96 #[.string s, .bool v] w (Ret w (.tuple #[.string ⟨(undoL v s.data.toList).1.toArray⟩, .int .i64 ((undoL v s.data.toList).2.1 : Nat), .int .i64 (undoL v s.data.toList).2.2])) := by
  cases v
  · exact Undo_false s w hs _ rfl
  · exact Undo_true s w hs _ rfl
end Go.Proofs.Ythifddkmbjnncaa

/-
  The plain law: what is normal is made normal as it is. No program in sight.
-/
namespace Go.Proofs.Ythifddkmbjnncaa

def voidB (x : ItemD) : Prop := x.kind = 2 ∧ x.text = []
def joinB (p x : ItemD) : Prop := x.kind = 2 ∧ p.kind = 2 ∧ p.level = x.level
def nfP (p : ItemD) : List ItemD → Prop
  | [] => True
  | x :: r => ¬ voidB x ∧ ¬ joinB p x ∧ nfP x r
def NF : List ItemD → Prop
  | [] => True
  | x :: r => ¬ voidB x ∧ nfP x r
theorem normP_nf : ∀ (r : List ItemD) (p : ItemD), ¬ voidB p → ∃ q s, normP p r = q :: s ∧ q.level = p.level ∧ q.kind = p.kind ∧ NF (q :: s)
  | [], p, hp => ⟨p, [], rfl, rfl, rfl, hp, trivial⟩
  | x :: r, p, hp => by
    unfold normP
    by_cases h1 : x.kind = 2 ∧ x.text = []
    · rw [if_pos h1]; exact normP_nf r p hp
    · rw [if_neg h1]
      by_cases h2 : x.kind = 2 ∧ p.kind = 2 ∧ p.level = x.level
      · rw [if_pos h2]
        have hne : ¬ voidB { p with text := p.text ++ x.text } := fun h => by
          have := h.2
          simp at this
          exact h1 ⟨h2.1, this.2⟩
        exact normP_nf r { p with text := p.text ++ x.text } hne
      · rw [if_neg h2]
        obtain ⟨q, s, e, k1, k2, k3⟩ := normP_nf r x h1
        refine ⟨p, normP x r, rfl, rfl, rfl, hp, ?_⟩
        rw [e]
        refine ⟨k3.1, fun h => h2 ?_, k3.2⟩
        exact ⟨by rw [← k2]; exact h.1, h.2.1, by rw [← k1]; exact h.2.2⟩
theorem normP_id : ∀ (r : List ItemD) (p : ItemD), nfP p r → normP p r = p :: r
  | [], _, _ => rfl
  | x :: r, p, h => by
    unfold normP
    have h1 : ¬ (x.kind = 2 ∧ x.text = []) := h.1
    have h2 : ¬ (x.kind = 2 ∧ p.kind = 2 ∧ p.level = x.level) := h.2.1
    rw [if_neg h1, if_neg h2, normP_id r x h.2.2]
theorem normal_cases : ∀ (l : List ItemD), normalL l = [] ∨ ∃ x r, ¬ voidB x ∧ normalL l = normP x r
  | [] => .inl rfl
  | x :: l => by
    by_cases h : x.kind = 2 ∧ x.text = []
    · have e : normalL (x :: l) = normalL l := by unfold normalL; rw [List.foldl_cons, nstep_void h.1 h.2]
      rw [e]; exact normal_cases l
    · refine .inr ⟨x, l, h, ?_⟩
      unfold normalL
      rw [List.foldl_cons, nstep_first h]
      exact fold_normP l [] x
theorem normal_nf (l : List ItemD) : NF (normalL l) := by
  rcases normal_cases l with h | ⟨x, r, h1, h2⟩
  · rw [h]; trivial
  · obtain ⟨q, s, e, _, _, h3⟩ := normP_nf r x h1
    rw [h2, e]; exact h3
theorem nf_normal : ∀ (N : List ItemD), NF N → normalL N = N
  | [], _ => rfl
  | x :: r, h => by
    have e : normalL (x :: r) = normP x r := by
      unfold normalL
      rw [List.foldl_cons, nstep_first h.1]
      exact fold_normP r [] x
    rw [e, normP_id r x h.2]
theorem normal_idem (l : List ItemD) : normalL (normalL l) = normalL l := nf_normal _ (normal_nf l)

theorem normal_smallDoc {l : List ItemD} (h : SmallDoc l) : SmallDoc (normalL l) := by
  have h1 := textSum_fold l []
  have e : textSum ([] : List ItemD) = 0 := rfl
  exact ⟨normal_small h, by show textSum (l.foldl nstep []) ≤ _; have := h.2; omega⟩
end Go.Proofs.Ythifddkmbjnncaa

/-
  Plain laws of escapes: what is made of two texts; what is undone. No program in sight.
-/
namespace Go.Proofs.Ythifddkmbjnncaa

/-! ### Characters and their bytes -/
theorem enc_ne (c : Int) : enc c ≠ [] := by
  unfold enc
  repeat (first | split | simp)

theorem bt_u8 (n : Int) (h0 : 0 ≤ n) (h1 : n < 256) : ((bt n).toNat : Int) = n := bt_toNat n h0 h1

/-- a character's bytes, with whatever behind, begin with it -/
theorem next_enc (c : Int) (hc : charB c = true) (r : List UInt8) : nextL (enc c ++ r) = (c, (enc c).length) := by
  have hb := charB_bd hc
  rcases (by omega : c < 128 ∨ (128 ≤ c ∧ c < 2048) ∨ (2048 ≤ c ∧ c < 65536) ∨ 65536 ≤ c) with h | ⟨h, h'⟩ | ⟨h, h'⟩ | h
  · have he : enc c = [bt c] := by unfold enc; rw [if_pos h]
    have h1 := bt_u8 c (by omega) (by omega)
    rw [he]
    show nextL (bt c :: r) = _
    simp only [nextL, h1]
    have e1 : headN c = 1 := by unfold headN; rw [if_pos h]
    have e2 : headC c = c := by unfold headC; rw [if_pos h]
    rw [e1, e2]
    simp [foldC, hc, he]
  · have he : enc c = [bt (192 + c / 64), bt (128 + c % 64)] := by unfold enc; rw [if_neg (by omega), if_pos (by omega)]
    have h1 := bt_u8 (192 + c / 64) (by omega) (by omega)
    have h2 := bt_u8 (128 + c % 64) (by omega) (by omega)
    rw [he]
    show nextL (bt (192 + c / 64) :: bt (128 + c % 64) :: r) = _
    simp only [nextL, h1]
    have e1 : headN (192 + c / 64) = 2 := by unfold headN; repeat (first | rw [if_pos (by omega)] | rw [if_neg (by omega)])
    have e2 : headC (192 + c / 64) = c / 64 := by unfold headC; repeat (first | rw [if_pos (by omega)] | rw [if_neg (by omega)]); omega
    rw [e1, e2]
    have e3 : foldC (c / 64) [bt (128 + c % 64)] = c := by simp only [foldC, List.foldl]; rw [h2]; omega
    have e4 : contB (bt (128 + c % 64)) = true := by unfold contB; rw [h2]; simp; omega
    simp [e3, e4, hc, he]
  · have he : enc c = [bt (224 + c / 4096), bt (128 + c / 64 % 64), bt (128 + c % 64)] := by unfold enc; rw [if_neg (by omega), if_neg (by omega), if_pos (by omega)]
    have h1 := bt_u8 (224 + c / 4096) (by omega) (by omega)
    have h2 := bt_u8 (128 + c / 64 % 64) (by omega) (by omega)
    have h3 := bt_u8 (128 + c % 64) (by omega) (by omega)
    rw [he]
    show nextL (bt (224 + c / 4096) :: bt (128 + c / 64 % 64) :: bt (128 + c % 64) :: r) = _
    simp only [nextL, h1]
    have e1 : headN (224 + c / 4096) = 3 := by unfold headN; repeat (first | rw [if_pos (by omega)] | rw [if_neg (by omega)])
    have e2 : headC (224 + c / 4096) = c / 4096 := by unfold headC; repeat (first | rw [if_pos (by omega)] | rw [if_neg (by omega)]); omega
    rw [e1, e2]
    have e3 : foldC (c / 4096) [bt (128 + c / 64 % 64), bt (128 + c % 64)] = c := by simp only [foldC, List.foldl]; rw [h2, h3]; omega
    have e4 : contB (bt (128 + c / 64 % 64)) = true := by unfold contB; rw [h2]; simp; omega
    have e5 : contB (bt (128 + c % 64)) = true := by unfold contB; rw [h3]; simp; omega
    simp [e3, e4, e5, hc, he]
  · have he : enc c = [bt (240 + c / 262144), bt (128 + c / 4096 % 64), bt (128 + c / 64 % 64), bt (128 + c % 64)] := by unfold enc; rw [if_neg (by omega), if_neg (by omega), if_neg (by omega)]
    have h1 := bt_u8 (240 + c / 262144) (by omega) (by omega)
    have h2 := bt_u8 (128 + c / 4096 % 64) (by omega) (by omega)
    have h3 := bt_u8 (128 + c / 64 % 64) (by omega) (by omega)
    have h4 := bt_u8 (128 + c % 64) (by omega) (by omega)
    rw [he]
    show nextL (bt (240 + c / 262144) :: bt (128 + c / 4096 % 64) :: bt (128 + c / 64 % 64) :: bt (128 + c % 64) :: r) = _
    simp only [nextL, h1]
    have e1 : headN (240 + c / 262144) = 4 := by unfold headN; repeat (first | rw [if_pos (by omega)] | rw [if_neg (by omega)])
    have e2 : headC (240 + c / 262144) = c / 262144 := by unfold headC; repeat (first | rw [if_pos (by omega)] | rw [if_neg (by omega)]); omega
    rw [e1, e2]
    have e3 : foldC (c / 262144) [bt (128 + c / 4096 % 64), bt (128 + c / 64 % 64), bt (128 + c % 64)] = c := by simp only [foldC, List.foldl]; rw [h2, h3, h4]; omega
    have e4 : contB (bt (128 + c / 4096 % 64)) = true := by unfold contB; rw [h2]; simp; omega
    have e5 : contB (bt (128 + c / 64 % 64)) = true := by unfold contB; rw [h3]; simp; omega
    have e6 : contB (bt (128 + c % 64)) = true := by unfold contB; rw [h4]; simp; omega
    simp [e3, e4, e5, e6, hc, he]

/-- what is told to begin a text is a character, and its bytes begin the text -/
theorem next_back (l : List UInt8) (c : Int) (n : Nat) (h : nextL l = (c, n)) (hn : n ≠ 0) : charB c = true ∧ l = enc c ++ l.drop n ∧ n = (enc c).length := by
  cases l with
  | nil =>
    have h2 : (0 : Nat) = n := congrArg Prod.snd h
    omega
  | cons b t =>
    simp only [nextL] at h
    split at h
    · injection h with _ h; omega
    · rename_i h0
      split at h
      · injection h with _ h; omega
      · rename_i hlen
        split at h
        · rename_i hg
          injection h with h1 h2
          rw [h1] at hg
          simp only [Bool.and_eq_true] at hg
          have he := eq_of_beq hg.2.2
          rw [h2] at he
          have hl : (enc c).length = n := by rw [he, List.length_cons, List.length_take]; omega
          refine ⟨hg.2.1, ?_, hl.symm⟩
          rw [he]
          obtain ⟨m, rfl⟩ : ∃ m, n = m + 1 := ⟨n - 1, by omega⟩
          simp
        · injection h with _ h; omega

/-- a text is made of characters just if it is their bytes, one behind the other -/
theorem chars_enc (cs : List Int) (h : cs.all charB = true) : charsL (cs.flatMap enc) = some cs := by
  induction cs with
  | nil => rfl
  | cons c cs ih =>
    simp only [List.all_cons, Bool.and_eq_true] at h
    have hn := next_enc c h.1 (cs.flatMap enc)
    have hne : enc c ≠ [] := enc_ne c
    rw [List.flatMap_cons, charsL_step _ (by simp [hne]) (by rw [hn]; simpa using hne), hn]
    simp [ih h.2]

theorem chars_back (l : List UInt8) (cs : List Int) (h : charsL l = some cs) : l = cs.flatMap enc ∧ cs.all charB = true := by
  have key : ∀ f (l : List UInt8) cs, l.length ≤ f → charsL l = some cs → l = cs.flatMap enc ∧ cs.all charB = true := by
    intro f
    induction f with
    | zero =>
      intro l cs hl h
      obtain rfl : l = [] := List.eq_nil_of_length_eq_zero (by omega)
      rw [charsL_nil] at h; injection h with h; subst h; exact ⟨rfl, rfl⟩
    | succ f ih =>
      intro l cs hl h
      by_cases hnil : l = []
      · subst hnil; rw [charsL_nil] at h; injection h with h; subst h; exact ⟨rfl, rfl⟩
      · by_cases hn : (nextL l).2 = 0
        · rw [charsL_bad l hnil hn] at h; cases h
        · rw [charsL_step l hnil hn] at h
          obtain ⟨c, n, hq⟩ : ∃ c n, nextL l = (c, n) := ⟨_, _, rfl⟩
          rw [hq] at hn h
          simp only at hn h
          obtain ⟨hc, he, hlen⟩ := next_back l c n hq hn
          cases hr : charsL (l.drop n) with
          | none => rw [hr] at h; cases h
          | some ds =>
            rw [hr] at h
            injection h with h
            have hp : 0 < l.length := List.length_pos_iff.2 hnil
            obtain ⟨h1, h2⟩ := ih _ ds (by rw [List.length_drop]; omega) hr
            subst h
            refine ⟨?_, ?_⟩
            · rw [List.flatMap_cons, ← h1]; exact he
            · rw [List.all_cons, hc, h2]; rfl
  exact key l.length l cs (Nat.le_refl _) h

theorem chars_append (a b : List UInt8) (cs ds : List Int) (ha : charsL a = some cs) (hb : charsL b = some ds) : charsL (a ++ b) = some (cs ++ ds) := by
  obtain ⟨h1, h2⟩ := chars_back a cs ha
  obtain ⟨h3, h4⟩ := chars_back b ds hb
  rw [h1, h3, ← List.flatMap_append]
  exact chars_enc _ (by rw [List.all_append, h2, h4]; rfl)

/-- what is made of two texts is what is made of each -/
theorem esc_append (v : Bool) (a b x y : List UInt8) (ha : escL v a = some x) (hb : escL v b = some y) : escL v (a ++ b) = some (x ++ y) := by
  unfold escL at *
  cases hca : charsL a with
  | none => rw [hca] at ha; cases ha
  | some cs =>
    cases hcb : charsL b with
    | none => rw [hcb] at hb; cases hb
    | some ds =>
      rw [hca] at ha; rw [hcb] at hb
      injection ha with ha; injection hb with hb
      subst ha; subst hb
      rw [chars_append a b cs ds hca hcb]
      simp

/-! ### What was escaped has none of the characters that mean something -/
def plainB (x : UInt8) : Bool := !(x == 60 || x == 62 || x == 34 || x == 9 || x == 10 || x == 13)

theorem bt_plain (n : Int) (h0 : 128 ≤ n) (h1 : n < 256) : plainB (bt n) = true := by
  have h := bt_u8 n (by omega) h1
  have key : ∀ k : UInt8, k.toNat < 128 → (bt n == k) = false := fun k hk => by
    cases hh : (bt n == k) with
    | false => rfl
    | true => have := eq_of_beq hh; rw [this] at h; omega
  unfold plainB
  rw [key 60 (by decide), key 62 (by decide), key 34 (by decide), key 9 (by decide), key 10 (by decide), key 13 (by decide)]
  rfl

theorem putF_plain (c : Int) (h0 : 0 ≤ c) (h : c ≠ 60 ∧ c ≠ 62 ∧ c ≠ 34 ∧ c ≠ 9 ∧ c ≠ 10 ∧ c ≠ 13) : (putF c).all plainB = true := by
  unfold putF
  split
  · rename_i hc
    have hb := charB_bd hc
    unfold enc
    split
    · rename_i h128
      have hx := bt_u8 c h0 (by omega)
      have key : ∀ k : UInt8, (k.toNat : Int) ≠ c → (bt c == k) = false := fun k hk => by
        cases hh : (bt c == k) with
        | false => rfl
        | true => have := eq_of_beq hh; rw [this] at hx; omega
      have : plainB (bt c) = true := by
        unfold plainB
        rw [key 60 (fun h' => h.1 h'.symm), key 62 (fun h' => h.2.1 h'.symm), key 34 (fun h' => h.2.2.1 h'.symm), key 9 (fun h' => h.2.2.2.1 h'.symm), key 10 (fun h' => h.2.2.2.2.1 h'.symm), key 13 (fun h' => h.2.2.2.2.2 h'.symm)]
        rfl
      simp [this]
    · split
      · simp only [List.all_cons, List.all_nil, bt_plain (192 + c / 64) (by omega) (by omega), bt_plain (128 + c % 64) (by omega) (by omega)]; rfl
      · split
        · simp only [List.all_cons, List.all_nil, bt_plain (224 + c / 4096) (by omega) (by omega), bt_plain (128 + c / 64 % 64) (by omega) (by omega), bt_plain (128 + c % 64) (by omega) (by omega)]; rfl
        · simp only [List.all_cons, List.all_nil, bt_plain (240 + c / 262144) (by omega) (by omega), bt_plain (128 + c / 4096 % 64) (by omega) (by omega), bt_plain (128 + c / 64 % 64) (by omega) (by omega), bt_plain (128 + c % 64) (by omega) (by omega)]; rfl
  · rfl

theorem written_plain (c : Int) (h0 : 0 ≤ c) : (writtenL true c).all plainB = true := by
  unfold writtenL
  split
  · decide
  split
  · decide
  split
  · decide
  split
  · decide
  split
  · decide
  split
  · decide
  split
  · decide
  · rename_i h1 h2 h3 h4 h5 h6 h7
    exact putF_plain c h0 ⟨h5, h6, fun h => h7 ⟨h, rfl⟩, fun h => h2 ⟨h, rfl⟩, fun h => h3 ⟨h, rfl⟩, h1⟩

theorem esc_plain (l o : List UInt8) (h : escL true l = some o) : o.all plainB = true := by
  unfold escL at h
  cases hc : charsL l with
  | none => rw [hc] at h; cases h
  | some cs =>
    rw [hc] at h
    injection h with h
    subst h
    obtain ⟨_, hall⟩ := chars_back l cs hc
    rw [List.all_flatMap, List.all_eq_true]
    intro c hcm
    rw [List.all_eq_true] at hall
    exact written_plain c (by have := charB_bd (hall c hcm); omega)

/-! ### What was escaped is no shorter -/
theorem written_longer (c : Int) (hc : charB c = true) : (enc c).length ≤ (writtenL false c).length ∧ (writtenL false c).length ≤ (writtenL true c).length := by
  have hp : putF c = enc c := by unfold putF; rw [if_pos hc]
  have e1 : ∀ k : Int, k < 128 → (enc k).length = 1 := fun k hk => by unfold enc; rw [if_pos hk]; rfl
  unfold writtenL
  by_cases h13 : c = 13
  · subst h13; simp [e1]
  by_cases h9 : c = 9
  · subst h9; simp [hp, e1]
  by_cases h10 : c = 10
  · subst h10; simp [hp, e1]
  by_cases h38 : c = 38
  · subst h38; simp [e1]
  by_cases h60 : c = 60
  · subst h60; simp [e1]
  by_cases h62 : c = 62
  · subst h62; simp [e1]
  by_cases h34 : c = 34
  · subst h34; simp [hp, e1]
  · simp [h13, h9, h10, h38, h60, h62, h34, hp]

theorem flat_le (f g : Int → List UInt8) (cs : List Int) (h : ∀ c ∈ cs, (f c).length ≤ (g c).length) : (cs.flatMap f).length ≤ (cs.flatMap g).length := by
  induction cs with
  | nil => simp
  | cons c cs ih =>
    simp only [List.flatMap_cons, List.length_append]
    have := h c (by simp)
    have := ih (fun c hc => h c (by simp [hc]))
    omega

theorem esc_longer (l a b : List UInt8) (ha : escL false l = some a) (hb : escL true l = some b) : l.length ≤ a.length ∧ a.length ≤ b.length := by
  unfold escL at ha hb
  cases hc : charsL l with
  | none => rw [hc] at ha; cases ha
  | some cs =>
    rw [hc] at ha hb
    injection ha with ha; injection hb with hb
    subst ha; subst hb
    obtain ⟨hl, hall⟩ := chars_back l cs hc
    rw [List.all_eq_true] at hall
    refine ⟨?_, flat_le _ _ cs fun c hcm => (written_longer c (hall c hcm)).2⟩
    rw [hl]
    exact flat_le _ _ cs fun c hcm => (written_longer c (hall c hcm)).1

/-! ### What was escaped is undone to what it was -/
theorem undo_enc (v : Bool) (c : Int) (hc : charB c = true) (r : List UInt8) : stepL v (writtenL v c ++ r) = .inr (enc c, (writtenL v c).length) := by
  have hp : putF c = enc c := by unfold putF; rw [if_pos hc]
  have amp : ∀ (t : List UInt8) (k : Int) (n : Nat), refL (38 :: t) = (k, n) → n ≠ 0 → charB k = true → stepL v (38 :: t) = .inr (enc k, n) := by
    intro t k n h hn hk
    have h38 : nextL (38 :: t) = (38, 1) := next_enc 38 (by decide) t
    simp only [stepL, h38]
    rw [if_neg (by omega), if_neg (by omega)]
    simp only [if_true, h, if_neg hn, hk]
    rw [if_neg (by decide)]
    have : putF k = enc k := by unfold putF; rw [if_pos hk]
    rw [this]
  have lit : ∀ (p : List UInt8) (k : Int) (t : List UInt8), p = 38 :: t → charB k = true → (∀ r, refL (p ++ r) = (k, p.length)) → stepL v (p ++ r) = .inr (enc k, p.length) := by
    intro p k t hp hk h
    have := h r
    rw [hp] at this ⊢
    exact amp _ k _ this (by simp) hk
  unfold writtenL
  by_cases h13 : c = 13
  · subst h13; rw [if_pos rfl]; exact lit _ 13 _ rfl hc (fun r => by rfl)
  rw [if_neg h13]
  by_cases h9 : c = 9 ∧ v = true
  · obtain ⟨rfl, _⟩ := h9; rw [if_pos ⟨rfl, by assumption⟩]; exact lit _ 9 _ rfl hc (fun r => by rfl)
  rw [if_neg h9]
  by_cases h10 : c = 10 ∧ v = true
  · obtain ⟨rfl, _⟩ := h10; rw [if_pos ⟨rfl, by assumption⟩]; exact lit _ 10 _ rfl hc (fun r => by rfl)
  rw [if_neg h10]
  by_cases h38 : c = 38
  · subst h38; rw [if_pos rfl]; exact lit _ 38 _ rfl hc (fun r => by rfl)
  rw [if_neg h38]
  by_cases h60 : c = 60
  · subst h60; rw [if_pos rfl]; exact lit _ 60 _ rfl hc (fun r => by rfl)
  rw [if_neg h60]
  by_cases h62 : c = 62
  · subst h62; rw [if_pos rfl]; exact lit _ 62 _ rfl hc (fun r => by rfl)
  rw [if_neg h62]
  by_cases h34 : c = 34 ∧ v = true
  · obtain ⟨rfl, _⟩ := h34; rw [if_pos ⟨rfl, by assumption⟩]; exact lit _ 34 _ rfl hc (fun r => by rfl)
  rw [if_neg h34, hp]
  have hn := next_enc c hc r
  have hl : (enc c).length ≠ 0 := by simpa using enc_ne c
  simp only [stepL, hn]
  rw [if_neg (by rintro ⟨_, h⟩; omega), if_neg]
  · simp only [if_neg h38, if_neg hl, hc]
    rw [if_neg (by decide), hp]
  · rintro (h | h | ⟨hv, h | h | h⟩)
    · exact hl h
    · exact h13 h
    · exact h34 ⟨h, hv⟩
    · exact h9 ⟨h, hv⟩
    · exact h10 ⟨h, hv⟩

theorem written_ne (v : Bool) (c : Int) (hc : charB c = true) : writtenL v c ≠ [] := by
  have hp : putF c = enc c := by unfold putF; rw [if_pos hc]
  have := enc_ne c
  unfold writtenL
  repeat (first | split | simp | (rw [hp]; exact this))

theorem undo_flat (v : Bool) (cs : List Int) (h : cs.all charB = true) : undoL v (cs.flatMap (writtenL v)) = (cs.flatMap enc, (cs.flatMap (writtenL v)).length, 0) := by
  induction cs with
  | nil => rfl
  | cons c cs ih =>
    simp only [List.all_cons, Bool.and_eq_true] at h
    have hs := undo_enc v c h.1 (cs.flatMap (writtenL v))
    rw [List.flatMap_cons, undoL_step v _ (by simp [written_ne v c h.1]) _ _ hs, List.drop_left, ih h.2]
    simp [joinU]

theorem undo_esc (v : Bool) (l o : List UInt8) (h : escL v l = some o) : undoL v o = (l, o.length, 0) := by
  unfold escL at h
  cases hc : charsL l with
  | none => rw [hc] at h; cases h
  | some cs =>
    rw [hc] at h
    injection h with h
    subst h
    obtain ⟨hl, hall⟩ := chars_back l cs hc
    rw [undo_flat v cs hall, ← hl]
end Go.Proofs.Ythifddkmbjnncaa
