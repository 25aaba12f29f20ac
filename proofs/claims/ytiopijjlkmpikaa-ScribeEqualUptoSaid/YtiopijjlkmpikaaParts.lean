/-
  The walk of parse.parts.
-/
import Derived.Test.YtiopijjlkmpikaaNames
namespace Go.Proofs.Ytiopijjlkmpikaa
open Go.RowKit

set_option maxRecDepth 100000 in
set_option maxHeartbeats 2000000 in
theorem parts_any (x : ItemD) (A : Option Addr) (c : Nat) (w : World) (hA : AttrsAt w w.heap.size A x.attrs) (hs : SmallItem x) (V : Int) (hV : Hid (partsE x = V)) :
    Calls Try.prog 31 #[.agg (itemVal x A c)] w (Ret w (.int .i64 V)) := by
  have HSM := Lib.hid hs
  obtain ⟨hs1, hs2, hs3, hs4, hs5⟩ := hs
  have HS4 := Lib.hid hs4
  have HA := Lib.hid hA
  clear hs4 hA hs5
  have hV' := hV.out
  unfold partsE at hV'
  clear hV
  by_cases h1 : x.kind = 2 ∧ x.name = [] ∧ x.attrs = []
  · rw [if_pos h1] at hV'
    obtain ⟨k1, k2, k3⟩ := h1
    have HV := Lib.hid hV'
    have e1 : (x.kind == 2) = true := by rw [k1]; rfl
    have e2 : (x.name == []) = true := by rw [k2]; rfl
    have e3 : x.attrs.length = 0 := by rw [k3]; rfl
    unfold itemVal strV
    rw [k2, e3, k1]
    clear k1 k2 k3 e1 e2 e3 hV'
    go_enter Try.func31, Try.ntmps31
    go_wp2_with fail
    refine (chars_l _ _ hs2 _ HV).mono ?_; rintro e w2 ⟨rfl, hb2⟩
    go_wp2_with fail
    go_ret
    exact ⟨rfl, ((Below.refl _ w).alloc (Nat.le_refl _) _).trans (hb2.mono (by simp))⟩
  · rw [if_neg h1] at hV'
    by_cases h2 : x.kind ≠ 1 ∨ x.text ≠ []
    · rw [if_pos h2] at hV'
      have hv : Hid (V = 68) := hV'.symm
      clear hV'
      by_cases k2 : x.kind = 2
      · have e1 : (x.kind == 2) = true := by simp [k2]
        have e4 : (x.kind != 1) = true := by simp [k2]
        by_cases k3 : x.name = []
        · have e2 : (x.name == []) = true := by simp [k3]
          have e3 : ((x.attrs.length : Int) == 0) = false := by
            have : x.attrs ≠ [] := fun h => h1 ⟨k2, k3, h⟩
            have : x.attrs.length ≠ 0 := fun h => this (List.eq_nil_of_length_eq_zero h)
            simp; omega
          clear h1 h2 k2 k3
          unfold itemVal strV
          go_enter Try.func31, Try.ntmps31
          go_wp2_with fail
          go_ret
          exact ⟨by rw [hv.out]; rfl, (Below.refl _ w).alloc (Nat.le_refl _) _⟩
        · have e2 : (x.name == []) = false := by simp [k3]
          clear h1 h2 k2 k3
          unfold itemVal strV
          go_enter Try.func31, Try.ntmps31
          go_wp2_with fail
          go_ret
          exact ⟨by rw [hv.out]; rfl, (Below.refl _ w).alloc (Nat.le_refl _) _⟩
      · have e1 : (x.kind == 2) = false := by simp [k2]
        by_cases k3 : x.kind = 1
        · have e4 : (x.kind != 1) = false := by simp [k3]
          have e5 : (x.text == []) = false := by
            have : x.text ≠ [] := h2.resolve_left (fun h => h k3)
            simp [this]
          clear h1 h2 k2 k3
          unfold itemVal strV
          go_enter Try.func31, Try.ntmps31
          go_wp2_with fail
          go_ret
          exact ⟨by rw [hv.out]; rfl, (Below.refl _ w).alloc (Nat.le_refl _) _⟩
        · have e4 : (x.kind != 1) = true := by simp [k3]
          clear h1 h2 k2 k3
          unfold itemVal strV
          go_enter Try.func31, Try.ntmps31
          go_wp2_with fail
          go_ret
          exact ⟨by rw [hv.out]; rfl, (Below.refl _ w).alloc (Nat.le_refl _) _⟩
    · rw [if_neg h2] at hV'
      have k1 : x.kind = 1 := Decidable.of_not_not fun h => h2 (.inl h)
      have k5 : x.text = [] := Decidable.of_not_not fun h => h2 (.inr h)
      have e1 : (x.kind == 2) = false := by simp [k1]
      have e4 : (x.kind != 1) = false := by simp [k1]
      have e5 : (x.text == []) = true := by simp [k5]
      clear h1 h2 k1 k5
      obtain ⟨E, hE⟩ : ∃ E, Hid (namesE x = E) := ⟨_, rfl⟩
      rw [hE.out] at hV'
      have HV := Lib.hid hV'
      clear hV'
      have HN : ∀ w1 : World, Below w.heap.size w w1 → Calls Try.prog 39 #[.agg (itemVal x A c)] w1 (Ret w1 (.int .i64 E)) :=
        fun w1 hb => names_any x A c w1 ((HA.out.below hb).more hb.size) HSM.out E hE
      have HNH := Lib.hid HN
      clear HN
      unfold itemVal strV at *
      go_enter Try.func31, Try.ntmps31
      go_wp2_with fail
      obtain ⟨w1, hw1⟩ : ∃ w1, Hid (w1 = w.alloc (.cells #[.int .i64 x.level, .int .i64 x.kind, .string ⟨x.name.toArray⟩, .string ⟨x.text.toArray⟩, .slice A x.attrs.length c] 30)) := ⟨_, rfl⟩
      have hbw1 : Below w.heap.size w w1 := by rw [hw1.out]; exact (Below.refl _ w).alloc (Nat.le_refl _) _
      have hz1 : w.heap.size < w1.heap.size := by rw [hw1.out]; simp
      have hcell1 : Hid (w1.cell? ⟨w.heap.size, 4, none⟩ = some (.slice A x.attrs.length c)) := by
        show _ = _
        rw [hw1.out, World.cell?_alloc_at _ _ _ _ (by simp)]; rfl
      rw [← hw1.out]
      refine (HNH.out w1 hbw1).mono ?_; rintro e w2 ⟨rfl, hb2⟩
      have hz2 := hb2.size
      have hc4 : w2.cell? ⟨w.heap.size, 4, none⟩ = some (.slice A x.attrs.length c) := by
        rw [hb2.cell (p := ⟨w.heap.size, 4, none⟩) hz1]; exact hcell1.out
      go_wp2_with fail
      go_loopw [3, 38] (fun ev i wr => ∃ (k : Nat) (f : Int), k ≤ x.attrs.length ∧ i = .int .i64 k ∧ ev = .int .i64 f ∧ Hid ((if f = 0 then valuesE (x.attrs.drop k) else f) = V) ∧ Below w2.heap.size w2 wr) (fun _ i _ => x.attrs.length - (intOf i).toNat)
      case atStart => exact ⟨0, E, Nat.zero_le _, rfl, rfl, HV, Below.refl _ _⟩
      case round =>
        obtain ⟨k, f, hk, rfl, rfl, hin, hbel⟩ := hrel
        have hzr := hbel.size
        have hbwr : Below w.heap.size w wr := (hbw1.trans (hb2.mono (by omega))).trans (hbel.mono (by omega))
        by_cases hlt : k < x.attrs.length
        · obtain ⟨a, ha⟩ : ∃ a, Hid (x.attrs[k]? = some a) := ⟨x.attrs[k], List.getElem?_eq_getElem _⟩
          obtain ⟨ad, hAd, hbl, hcs⟩ := (HA.out.below hbwr) (by omega)
          obtain ⟨hc0, hc1⟩ := hcs k a ha.out
          unfold strV at hc0 hc1
          clear hcs
          have hin' := hin.out
          rw [drop_cons ha.out, valuesE] at hin'
          have hnm := (HS4.out k a ha.out).2
          subst hAd
          have hlt' : (k : Int) < x.attrs.length := by omega
          by_cases hf : f = 0
          · rw [if_pos hf] at hin'
            subst hf
            obtain ⟨q, hq⟩ : ∃ q, Hid (charsE a.value = q) := ⟨_, rfl⟩
            rw [hq.out] at hin'
            have hv : Hid ((if q = 0 then valuesE (x.attrs.drop (k + 1)) else q) = V) := hin'
            clear hin'
            go_wp2_with fail
            refine (chars_l _ _ hnm _ hq).mono ?_; rintro e w3 ⟨rfl, hb3⟩
            have hz3 := hb3.size
            simp only [World.size_alloc] at hz3
            go_wp2_with fail
            go_roundw
            case rel => exact ⟨k + 1, q, by omega, by go_num, rfl, hv, (hbel.alloc (by omega) _).trans (hb3.mono (by simp; omega))⟩
            case measure => simp [intOf]; omega
          · rw [if_neg hf] at hin'
            have hv : Hid ((if f = 0 then valuesE (x.attrs.drop (k + 1)) else f) = V) := by show _ = _; rw [if_neg hf]; exact hin'
            clear hin'
            have ef : (f == 0) = false := by simp [hf]
            clear hf
            go_wp2_with fail
            go_roundw
            case rel => exact ⟨k + 1, f, by omega, by go_num, rfl, hv, hbel.alloc (by omega) _⟩
            case measure => simp [intOf]; omega
        · have hk' : k = x.attrs.length := by omega
          have hv : Hid (V = f) := by
            show _ = _
            rw [← hin.out, List.drop_eq_nil_of_le (by omega)]
            simp only [valuesE]
            split <;> simp_all
          subst hk'
          go_wp2_with fail
          go_ret
          exact ⟨by rw [hv.out]; rfl, hbwr⟩
end Go.Proofs.Ytiopijjlkmpikaa
