/-
  Texts of this claim, joined (by a program of the claim's author): RParts, RAttr, RBegin, Attr.
-/
import Derived.Test.YthifddkmbjnncaaK1
import Derived.Test.YthifddkmbjnncaaK8
import Derived.Test.YthifddkmbjnncaaK7
import Derived.Deep.RegionHeld3
/-
  The walk of ref04.Parts.
-/
namespace Go.Proofs.Ythifddkmbjnncaa
open Go.RowKit

theorem RName_l (s : List UInt8) (w : World) (hs : s.length ≤ 1000000000) (r : Bool) (hr : Hid (nameL s = r)) :
    Calls Try.prog 89 #[.string ⟨s.toArray⟩] w (Ret w (.bool r)) := RName_any _ w (by show s.toArray.size ≤ _; simp; omega) r hr

/-- the names of attributes, from one on, the last one's known -/
theorem attrNames_nil (r : List AttrD) : attrNames [] r = match r with | [] => true | a :: t => nameL a.name && attrNames a.name t := by
  cases r with
  | nil => rfl
  | cons a t =>
    show (nameL a.name && !leB a.name [] && attrNames a.name t) = (nameL a.name && attrNames a.name t)
    cases hn : nameL a.name with
    | false => rfl
    | true =>
      have : leB a.name [] = false := by
        cases ha : a.name with
        | nil => rw [ha] at hn; simp [nameL, charsL_nil] at hn
        | cons b t => rfl
      rw [this]; rfl

def fromK (l : List AttrD) : Nat → Bool
  | 0 => attrNames [] l
  | j + 1 => match l[j]? with | some a => attrNames a.name (l.drop (j + 1)) | none => true
theorem fromK_first (l : List AttrD) (a : AttrD) (h : l[0]? = some a) : fromK l 0 = (nameL a.name && fromK l 1) := by
  cases l with
  | nil => cases h
  | cons b t =>
    injection h with h; subst h
    exact attrNames_nil _
theorem fromK_step (l : List AttrD) (k : Nat) (p a : AttrD) (hk : 0 < k) (hp : l[k - 1]? = some p) (h : l[k]? = some a) : fromK l k = (nameL a.name && !leB a.name p.name && fromK l (k + 1)) := by
  obtain ⟨j, rfl⟩ : ∃ j, k = j + 1 := ⟨k - 1, by omega⟩
  have hp' : l[j]? = some p := hp
  show (match l[j]? with | some a => attrNames a.name (l.drop (j + 1)) | none => true) = _
  rw [hp', drop_cons h]
  show _ = (_ && (match l[j + 1]? with | some a => attrNames a.name (l.drop (j + 1 + 1)) | none => true))
  rw [h]; rfl
theorem fromK_end (l : List AttrD) : fromK l l.length = true := by
  cases hl : l.length with
  | zero => rw [List.eq_nil_of_length_eq_zero hl]; rfl
  | succ j =>
    show (match l[j]? with | some a => attrNames a.name (l.drop (j + 1)) | none => true) = true
    rw [List.drop_eq_nil_of_le (by omega)]
    cases l[j]? <;> rfl

set_option maxRecDepth 100000 in
set_option maxHeartbeats 2000000 in
theorem RParts_any (x : ItemD) (A : Option Addr) (c : Nat) (w : World) (hA : AttrsAt w w.heap.size A x.attrs) (hs : SmallItem x) (V : Int) (hV : Hid (partsE x = V)) :
    Calls Try.prog 84 #[.agg (itemVal x A c)] w (Ret w (.int .i64 V)) := by
  obtain ⟨hs1, hs2, hs3, hs4, hs5⟩ := hs
  have HS4 := Lib.hid hs4
  have HA := Lib.hid hA
  clear hs4 hA hs5
  have hV' := hV.out
  unfold partsE at hV'
  clear hV
  by_cases k1 : x.kind = 2
  · have e1 : (x.kind == 2) = true := by simp [k1]
    by_cases k2 : x.name = []
    · have e2 : (x.name == []) = true := by simp [k2]
      by_cases k3 : x.attrs = []
      · rw [if_pos ⟨k1, k2, k3⟩] at hV'
        have HV := Lib.hid hV'
        have e3 : x.attrs.length = 0 := by rw [k3]; rfl
        unfold itemVal strV
        rw [e3]
        clear hV' k1 k2 k3
        go_enter Try.func84, Try.ntmps84
        go_wp2_with fail
        refine (rchars_l _ _ hs2 _ HV).mono ?_; rintro e w2 ⟨rfl, hb2⟩
        go_wp2_with fail
        go_ret
        exact ⟨rfl, ((Below.refl _ w).alloc (Nat.le_refl _) _).trans (hb2.mono (by simp))⟩
      · have hv : Hid (V = 68) := by
          show _ = _
          rw [← hV', if_neg (fun h => k3 h.2.2), if_pos (.inl (by omega))]
        have e3 : 0 < x.attrs.length := by
          have : x.attrs.length ≠ 0 := fun h => k3 (List.eq_nil_of_length_eq_zero h)
          omega
        clear hV' k1 k2 k3
        unfold itemVal strV
        go_enter Try.func84, Try.ntmps84
        go_wp2_with fail
        go_ret
        exact ⟨by rw [hv.out]; rfl, (Below.refl _ w).alloc (Nat.le_refl _) _⟩
    · have e2 : (x.name == []) = false := by simp [k2]
      have hv : Hid (V = 68) := by
        show _ = _
        rw [← hV', if_neg (fun h => k2 h.2.1), if_pos (.inl (by omega))]
      clear hV' k1 k2
      unfold itemVal strV
      go_enter Try.func84, Try.ntmps84
      go_wp2_with fail
      go_ret
      exact ⟨by rw [hv.out]; rfl, (Below.refl _ w).alloc (Nat.le_refl _) _⟩
  · rw [if_neg (fun h => k1 h.1)] at hV'
    have e1 : (x.kind == 2) = false := by simp [k1]
    by_cases k2 : x.kind = 1
    · have e4 : (x.kind != 1) = false := by simp [k2]
      by_cases k3 : x.text = []
      · have e5 : (x.text == []) = true := by simp [k3]
        rw [if_neg (by rintro (h | h); exact h k2; exact h k3)] at hV'
        clear k1 k2 k3
        unfold namesE at hV'
        cases hn : nameL x.name with
        | false =>
          have HN : Hid (nameL x.name = false) := hn
          have hv : Hid (V = 63) := by show _ = _; rw [← hV', hn]; rfl
          clear hV' hn
          unfold itemVal strV
          go_enter Try.func84, Try.ntmps84
          go_wp2_with fail
          refine (RName_l _ _ hs1 _ HN).mono ?_; rintro e w2 ⟨rfl, hb2⟩
          go_wp2_with fail
          go_ret
          exact ⟨by rw [hv.out]; rfl, ((Below.refl _ w).alloc (Nat.le_refl _) _).trans (hb2.mono (by simp))⟩
        | true =>
          have HN : Hid (nameL x.name = true) := hn
          rw [hn, Bool.true_and] at hV'
          clear hn
          obtain ⟨R, hR⟩ : ∃ R, Hid (fromK x.attrs 0 = R) := ⟨_, rfl⟩
          have hR1 : attrNames [] x.attrs = R := hR.out
          rw [hR1] at hV'
          have HV := Lib.hid hV'
          clear hV' hR1
          unfold itemVal strV
          go_enter Try.func84, Try.ntmps84
          go_wp2_with fail
          obtain ⟨w1, hw1⟩ : ∃ w1, Hid (w1 = w.alloc (.cells #[.int .i64 x.level, .int .i64 x.kind, .string ⟨x.name.toArray⟩, .string ⟨x.text.toArray⟩, .slice A x.attrs.length c] 50)) := ⟨_, rfl⟩
          have hbw1 : Below w.heap.size w w1 := by rw [hw1.out]; exact (Below.refl _ w).alloc (Nat.le_refl _) _
          have hz1 : w.heap.size < w1.heap.size := by rw [hw1.out]; simp
          have hcell1 : Hid (w1.cell? ⟨w.heap.size, 4, none⟩ = some (.slice A x.attrs.length c)) := by
            show _ = _
            rw [hw1.out, World.cell?_alloc_at _ _ _ _ (by simp)]; rfl
          rw [← hw1.out]
          refine (RName_l _ _ hs1 _ HN).mono ?_; rintro e w2 ⟨rfl, hb2⟩
          have hz2 := hb2.size
          have H4 : Hid (∀ w', Below w1.heap.size w1 w' → w'.cell? ⟨w.heap.size, 4, none⟩ = some (.slice A x.attrs.length c)) := fun w' hb => by
            rw [hb.cell (p := ⟨w.heap.size, 4, none⟩) hz1]; exact hcell1.out
          have hc4 := H4.out w2 hb2
          go_wp2_with fail
          go_loopw [3] (fun i wr => ∃ (k : Nat), k ≤ x.attrs.length ∧ i = .int .i64 k ∧ Hid (fromK x.attrs k = R) ∧ Below w1.heap.size w1 wr) (fun i _ => x.attrs.length - (intOf i).toNat)
          case atStart => exact ⟨0, Nat.zero_le _, rfl, hR, hb2⟩
          case round =>
            obtain ⟨k, hk, rfl, hin, hbel⟩ := hrel
            have hzr := hbel.size
            have hbwr : Below w.heap.size w wr := hbw1.trans (hbel.mono (by omega))
            have hc4r := H4.out wr hbel
            by_cases hlt : k < x.attrs.length
            · obtain ⟨a, ha⟩ : ∃ a, Hid (x.attrs[k]? = some a) := ⟨x.attrs[k], List.getElem?_eq_getElem _⟩
              obtain ⟨ad, hAd, hbl, hcs⟩ := HA.out (by omega)
              have hnm := (HS4.out k a ha.out).1
              subst hAd
              have hlt' : (k : Int) < x.attrs.length := by omega
              have HC : ∀ (j : Nat) (b : AttrD), x.attrs[j]? = some b → ∀ w', Below w1.heap.size w1 w' → w'.cell? (ad.add (j * 2)) = some (.string ⟨b.name.toArray⟩) := fun j b hj w' hb => by
                rw [(hbw1.trans (hb.mono (by omega))).cell (p := ad.add (j * 2)) (by rw [block_of_add]; exact hbl)]
                exact (hcs j b hj).1
              have HCC := Lib.hid HC
              clear HC hcs
              rcases Nat.eq_zero_or_pos k with hk0 | hk0
              · have hin' := hin.out
                have hin' : (nameL a.name && fromK x.attrs (k + 1)) = R := by
                  have ha' := ha.out
                  subst hk0
                  rw [← hin', fromK_first _ a ha']
                obtain ⟨q, hq⟩ : ∃ q, Hid (nameL a.name = q) := ⟨_, rfl⟩
                rw [hq.out] at hin'
                have HIN := Lib.hid hin'
                clear hin'
                have hg1 : decide ((0 : Int) < (k : Int)) = false := by subst hk0; decide
                have hg2 : decide (0 < k) = false := by subst hk0; decide
                clear hk0
                have hk0' : (0 : Int) ≤ (k : Int) := Int.natCast_nonneg _
                have HS : Hid (∀ w', Below w1.heap.size w1 w' → (Below w1.heap.size w1 w' ∧ w'.cell? ⟨w.heap.size, 4, none⟩ = some (.slice (some ad) x.attrs.length c) ∧ w'.cell? (ad.add (k * 2)) = some (.string ⟨a.name.toArray⟩))) :=
                  fun w' hb => ⟨hb, H4.out w' hb, HCC.out k a ha.out w' hb⟩
                cases q with
                | false =>
                  have hv : Hid (V = 63) := by
                    show _ = _
                    have hR0 : R = false := HIN.out.symm
                    rw [← HV.out, hR0]; rfl
                  go_wp2_with fail
                  refine wp_region_held_drew (S := fun w' => Below w1.heap.size w1 w' ∧ w'.cell? ⟨w.heap.size, 4, none⟩ = some (.slice (some ad) x.attrs.length c) ∧ w'.cell? (ad.add (k * 2)) = some (.string ⟨a.name.toArray⟩)) (by kernel_rfl) (HS.out _ hbel.drew) (fun hHeld => ?_)
                  refine tk (oi := ⟨_, _, _, _, _, _⟩) (v := ?_) 0 rfl (by kernel_rfl) (fun _ _ _ h => h) (.inl ⟨by rfl, ?_⟩) (by assumption) ?_; rotate_left
                  · (intro wS hSw; (try dsimp only at hSw); go_simp); all_goals with_reducible rfl
                  try go_frame
                  refine tk (oi := ⟨_, _, _, _, _, _⟩) (v := ?_) 1 rfl (by kernel_rfl) (fun _ _ _ h => h) (.inl ⟨by rfl, ?_⟩) (by assumption) ?_; rotate_left
                  · (intro wS hSw; (try dsimp only at hSw); go_simp); all_goals with_reducible rfl
                  try go_frame
                  refine tk (oi := ⟨_, _, _, _, _, _⟩) (v := ?_) 2 rfl (by kernel_rfl) (fun _ _ _ h => h) (.inl ⟨by rfl, ?_⟩) (by assumption) ?_; rotate_left
                  · (intro wS hSw; (try dsimp only at hSw); go_simp); all_goals with_reducible rfl
                  try go_frame
                  refine tk (oi := ⟨_, _, _, _, _, _⟩) (v := ?_) 3 rfl (by kernel_rfl) (fun _ _ _ h => h) (.inl ⟨by rfl, ?_⟩) (by assumption) ?_; rotate_left
                  · (intro wS hSw; (try dsimp only at hSw); go_simp); all_goals with_reducible rfl
                  try go_frame
                  refine tk (oi := ⟨_, _, _, _, _, _⟩) (v := ?_) 4 rfl (by kernel_rfl) (fun _ _ _ h => h) (.inl ⟨by rfl, ?_⟩) (by assumption) ?_; rotate_left
                  · (intro wS hSw; (try dsimp only at hSw); go_simp); all_goals with_reducible rfl
                  try go_frame
                  refine tk (oi := ⟨_, _, _, _, _, _⟩) (v := ?_) 5 rfl (by kernel_rfl) (fun _ _ _ h => h) (.inl ⟨by rfl, ?_⟩) (by assumption) ?_; rotate_left
                  · (intro wS hSw; (try dsimp only at hSw); go_simp); all_goals with_reducible rfl
                  try go_frame
                  refine wpAnyH_ready (rs := [6]) (by kernel_rfl) (by simp) ?_
                  refine AllReadyH.cons (o := ⟨_, _, _, _, _, _⟩) rfl (fun K hK => ?_) AllReadyH.nil
                  go_simp
                  refine (RName_l _ _ hnm _ hq).mono ?_; rintro e w3 ⟨rfl, hb3⟩
                  go_wp2_with fail
                  refine hK.out _ _ (HS.out _ (hbel.drew.trans (hb3.mono hbel.drew.size))) (fun hHeld => ?_)
                  clear hK K
                  try go_frame
                  refine tk (oi := ⟨_, _, _, _, _, _⟩) (v := ?_) 7 rfl (by kernel_rfl) (fun _ _ _ h => h) (.inl ⟨by rfl, ?_⟩) (by assumption) ?_; rotate_left
                  · (intro wS hSw; (try dsimp only at hSw); go_simp); all_goals with_reducible rfl
                  try go_frame
                  refine tk (oi := ⟨_, _, _, _, _, _⟩) (v := ?_) 8 rfl (by kernel_rfl) (fun _ _ _ h => h) (.inl ⟨by rfl, ?_⟩) (by assumption) ?_; rotate_left
                  · (intro wS hSw; (try dsimp only at hSw); go_simp); all_goals with_reducible rfl
                  try go_frame
                  refine tk (oi := ⟨_, _, _, _, _, _⟩) (v := undef) 9 rfl (by kernel_rfl) (fun _ _ _ h => h) (.inr ⟨by rfl, rfl⟩) (by assumption) ?_
                  try go_frame
                  refine tk (oi := ⟨_, _, _, _, _, _⟩) (v := undef) 10 rfl (by kernel_rfl) (fun _ _ _ h => h) (.inr ⟨by rfl, rfl⟩) (by assumption) ?_
                  try go_frame
                  refine tk (oi := ⟨_, _, _, _, _, _⟩) (v := undef) 11 rfl (by kernel_rfl) (fun _ _ _ h => h) (.inr ⟨by rfl, rfl⟩) (by assumption) ?_
                  try go_frame
                  refine tk (oi := ⟨_, _, _, _, _, _⟩) (v := undef) 12 rfl (by kernel_rfl) (fun _ _ _ h => h) (.inr ⟨by rfl, rfl⟩) (by assumption) ?_
                  try go_frame
                  refine tk (oi := ⟨_, _, _, _, _, _⟩) (v := undef) 13 rfl (by kernel_rfl) (fun _ _ _ h => h) (.inr ⟨by rfl, rfl⟩) (by assumption) ?_
                  try go_frame
                  refine tk (oi := ⟨_, _, _, _, _, _⟩) (v := undef) 14 rfl (by kernel_rfl) (fun _ _ _ h => h) (.inr ⟨by rfl, rfl⟩) (by assumption) ?_
                  try go_frame
                  refine tk (oi := ⟨_, _, _, _, _, _⟩) (v := undef) 15 rfl (by kernel_rfl) (fun _ _ _ h => h) (.inr ⟨by rfl, rfl⟩) (by assumption) ?_
                  try go_frame
                  refine tk (oi := ⟨_, _, _, _, _, _⟩) (v := undef) 16 rfl (by kernel_rfl) (fun _ _ _ h => h) (.inr ⟨by rfl, rfl⟩) (by assumption) ?_
                  try go_frame
                  refine tk (oi := ⟨_, _, _, _, _, _⟩) (v := undef) 17 rfl (by kernel_rfl) (fun _ _ _ h => h) (.inr ⟨by rfl, rfl⟩) (by assumption) ?_
                  try go_frame
                  refine tk (oi := ⟨_, _, _, _, _, _⟩) (v := undef) 18 rfl (by kernel_rfl) (fun _ _ _ h => h) (.inr ⟨by rfl, rfl⟩) (by assumption) ?_
                  try go_frame
                  refine tk (oi := ⟨_, _, _, _, _, _⟩) (v := undef) 19 rfl (by kernel_rfl) (fun _ _ _ h => h) (.inr ⟨by rfl, rfl⟩) (by assumption) ?_
                  try go_frame
                  refine tk (oi := ⟨_, _, _, _, _, _⟩) (v := undef) 20 rfl (by kernel_rfl) (fun _ _ _ h => h) (.inr ⟨by rfl, rfl⟩) (by assumption) ?_
                  try go_frame
                  refine tk (oi := ⟨_, _, _, _, _, _⟩) (v := undef) 21 rfl (by kernel_rfl) (fun _ _ _ h => h) (.inr ⟨by rfl, rfl⟩) (by assumption) ?_
                  try go_frame
                  refine tk (oi := ⟨_, _, _, _, _, _⟩) (v := undef) 22 rfl (by kernel_rfl) (fun _ _ _ h => h) (.inr ⟨by rfl, rfl⟩) (by assumption) ?_
                  try go_frame
                  refine tk (oi := ⟨_, _, _, _, _, _⟩) (v := undef) 23 rfl (by kernel_rfl) (fun _ _ _ h => h) (.inr ⟨by rfl, rfl⟩) (by assumption) ?_
                  try go_frame
                  refine tk (oi := ⟨_, _, _, _, _, _⟩) (v := undef) 24 rfl (by kernel_rfl) (fun _ _ _ h => h) (.inr ⟨by rfl, rfl⟩) (by assumption) ?_
                  try go_frame
                  refine tk (oi := ⟨_, _, _, _, _, _⟩) (v := undef) 25 rfl (by kernel_rfl) (fun _ _ _ h => h) (.inr ⟨by rfl, rfl⟩) (by assumption) ?_
                  try go_frame
                  refine tk (oi := ⟨_, _, _, _, _, _⟩) (v := undef) 26 rfl (by kernel_rfl) (fun _ _ _ h => h) (.inr ⟨by rfl, rfl⟩) (by assumption) ?_
                  try go_frame
                  refine tk (oi := ⟨_, _, _, _, _, _⟩) (v := ?_) 27 rfl (by kernel_rfl) (fun _ _ _ h => h) (.inl ⟨by rfl, ?_⟩) (by assumption) ?_; rotate_left
                  · (intro wS hSw; (try dsimp only at hSw); go_simp); all_goals with_reducible rfl
                  try go_frame
                  refine wpAnyH_done (by kernel_rfl) ?_ _
                  go_wp2_with fail
                  go_ret
                  exact ⟨by rw [hv.out]; rfl, hbw1.trans ((hbel.drew.trans (hb3.mono hbel.drew.size)).mono (by omega))⟩
                | true =>
                  have HIN' : Hid (fromK x.attrs (k + 1) = R) := HIN.out
                  go_wp2_with fail
                  refine wp_region_held_drew (S := fun w' => Below w1.heap.size w1 w' ∧ w'.cell? ⟨w.heap.size, 4, none⟩ = some (.slice (some ad) x.attrs.length c) ∧ w'.cell? (ad.add (k * 2)) = some (.string ⟨a.name.toArray⟩)) (by kernel_rfl) (HS.out _ hbel.drew) (fun hHeld => ?_)
                  refine tk (oi := ⟨_, _, _, _, _, _⟩) (v := ?_) 0 rfl (by kernel_rfl) (fun _ _ _ h => h) (.inl ⟨by rfl, ?_⟩) (by assumption) ?_; rotate_left
                  · (intro wS hSw; (try dsimp only at hSw); go_simp); all_goals with_reducible rfl
                  try go_frame
                  refine tk (oi := ⟨_, _, _, _, _, _⟩) (v := ?_) 1 rfl (by kernel_rfl) (fun _ _ _ h => h) (.inl ⟨by rfl, ?_⟩) (by assumption) ?_; rotate_left
                  · (intro wS hSw; (try dsimp only at hSw); go_simp); all_goals with_reducible rfl
                  try go_frame
                  refine tk (oi := ⟨_, _, _, _, _, _⟩) (v := ?_) 2 rfl (by kernel_rfl) (fun _ _ _ h => h) (.inl ⟨by rfl, ?_⟩) (by assumption) ?_; rotate_left
                  · (intro wS hSw; (try dsimp only at hSw); go_simp); all_goals with_reducible rfl
                  try go_frame
                  refine tk (oi := ⟨_, _, _, _, _, _⟩) (v := ?_) 3 rfl (by kernel_rfl) (fun _ _ _ h => h) (.inl ⟨by rfl, ?_⟩) (by assumption) ?_; rotate_left
                  · (intro wS hSw; (try dsimp only at hSw); go_simp); all_goals with_reducible rfl
                  try go_frame
                  refine tk (oi := ⟨_, _, _, _, _, _⟩) (v := ?_) 4 rfl (by kernel_rfl) (fun _ _ _ h => h) (.inl ⟨by rfl, ?_⟩) (by assumption) ?_; rotate_left
                  · (intro wS hSw; (try dsimp only at hSw); go_simp); all_goals with_reducible rfl
                  try go_frame
                  refine tk (oi := ⟨_, _, _, _, _, _⟩) (v := ?_) 5 rfl (by kernel_rfl) (fun _ _ _ h => h) (.inl ⟨by rfl, ?_⟩) (by assumption) ?_; rotate_left
                  · (intro wS hSw; (try dsimp only at hSw); go_simp); all_goals with_reducible rfl
                  try go_frame
                  refine wpAnyH_ready (rs := [6]) (by kernel_rfl) (by simp) ?_
                  refine AllReadyH.cons (o := ⟨_, _, _, _, _, _⟩) rfl (fun K hK => ?_) AllReadyH.nil
                  go_simp
                  refine (RName_l _ _ hnm _ hq).mono ?_; rintro e w3 ⟨rfl, hb3⟩
                  go_wp2_with fail
                  refine hK.out _ _ (HS.out _ (hbel.drew.trans (hb3.mono hbel.drew.size))) (fun hHeld => ?_)
                  clear hK K
                  try go_frame
                  refine tk (oi := ⟨_, _, _, _, _, _⟩) (v := ?_) 7 rfl (by kernel_rfl) (fun _ _ _ h => h) (.inl ⟨by rfl, ?_⟩) (by assumption) ?_; rotate_left
                  · (intro wS hSw; (try dsimp only at hSw); go_simp); all_goals with_reducible rfl
                  try go_frame
                  refine tk (oi := ⟨_, _, _, _, _, _⟩) (v := ?_) 8 rfl (by kernel_rfl) (fun _ _ _ h => h) (.inl ⟨by rfl, ?_⟩) (by assumption) ?_; rotate_left
                  · (intro wS hSw; (try dsimp only at hSw); go_simp); all_goals with_reducible rfl
                  try go_frame
                  refine tk (oi := ⟨_, _, _, _, _, _⟩) (v := ?_) 9 rfl (by kernel_rfl) (fun _ _ _ h => h) (.inl ⟨by rfl, ?_⟩) (by assumption) ?_; rotate_left
                  · (intro wS hSw; (try dsimp only at hSw); go_simp); all_goals with_reducible rfl
                  try go_frame
                  refine tk (oi := ⟨_, _, _, _, _, _⟩) (v := ?_) 10 rfl (by kernel_rfl) (fun _ _ _ h => h) (.inl ⟨by rfl, ?_⟩) (by assumption) ?_; rotate_left
                  · (intro wS hSw; (try dsimp only at hSw); go_simp); all_goals with_reducible rfl
                  try go_frame
                  refine tk (oi := ⟨_, _, _, _, _, _⟩) (v := ?_) 11 rfl (by kernel_rfl) (fun _ _ _ h => h) (.inl ⟨by rfl, ?_⟩) (by assumption) ?_; rotate_left
                  · (intro wS hSw; (try dsimp only at hSw); go_simp); all_goals with_reducible rfl
                  try go_frame
                  refine tk (oi := ⟨_, _, _, _, _, _⟩) (v := undef) 12 rfl (by kernel_rfl) (fun _ _ _ h => h) (.inr ⟨by rfl, rfl⟩) (by assumption) ?_
                  try go_frame
                  refine tk (oi := ⟨_, _, _, _, _, _⟩) (v := undef) 13 rfl (by kernel_rfl) (fun _ _ _ h => h) (.inr ⟨by rfl, rfl⟩) (by assumption) ?_
                  try go_frame
                  refine tk (oi := ⟨_, _, _, _, _, _⟩) (v := undef) 14 rfl (by kernel_rfl) (fun _ _ _ h => h) (.inr ⟨by rfl, rfl⟩) (by assumption) ?_
                  try go_frame
                  refine tk (oi := ⟨_, _, _, _, _, _⟩) (v := undef) 15 rfl (by kernel_rfl) (fun _ _ _ h => h) (.inr ⟨by rfl, rfl⟩) (by assumption) ?_
                  try go_frame
                  refine tk (oi := ⟨_, _, _, _, _, _⟩) (v := undef) 16 rfl (by kernel_rfl) (fun _ _ _ h => h) (.inr ⟨by rfl, rfl⟩) (by assumption) ?_
                  try go_frame
                  refine tk (oi := ⟨_, _, _, _, _, _⟩) (v := undef) 17 rfl (by kernel_rfl) (fun _ _ _ h => h) (.inr ⟨by rfl, rfl⟩) (by assumption) ?_
                  try go_frame
                  refine tk (oi := ⟨_, _, _, _, _, _⟩) (v := undef) 18 rfl (by kernel_rfl) (fun _ _ _ h => h) (.inr ⟨by rfl, rfl⟩) (by assumption) ?_
                  try go_frame
                  refine tk (oi := ⟨_, _, _, _, _, _⟩) (v := undef) 19 rfl (by kernel_rfl) (fun _ _ _ h => h) (.inr ⟨by rfl, rfl⟩) (by assumption) ?_
                  try go_frame
                  refine tk (oi := ⟨_, _, _, _, _, _⟩) (v := undef) 20 rfl (by kernel_rfl) (fun _ _ _ h => h) (.inr ⟨by rfl, rfl⟩) (by assumption) ?_
                  try go_frame
                  refine tk (oi := ⟨_, _, _, _, _, _⟩) (v := undef) 21 rfl (by kernel_rfl) (fun _ _ _ h => h) (.inr ⟨by rfl, rfl⟩) (by assumption) ?_
                  try go_frame
                  refine tk (oi := ⟨_, _, _, _, _, _⟩) (v := undef) 22 rfl (by kernel_rfl) (fun _ _ _ h => h) (.inr ⟨by rfl, rfl⟩) (by assumption) ?_
                  try go_frame
                  refine tk (oi := ⟨_, _, _, _, _, _⟩) (v := undef) 23 rfl (by kernel_rfl) (fun _ _ _ h => h) (.inr ⟨by rfl, rfl⟩) (by assumption) ?_
                  try go_frame
                  refine tk (oi := ⟨_, _, _, _, _, _⟩) (v := undef) 24 rfl (by kernel_rfl) (fun _ _ _ h => h) (.inr ⟨by rfl, rfl⟩) (by assumption) ?_
                  try go_frame
                  refine tk (oi := ⟨_, _, _, _, _, _⟩) (v := undef) 25 rfl (by kernel_rfl) (fun _ _ _ h => h) (.inr ⟨by rfl, rfl⟩) (by assumption) ?_
                  try go_frame
                  refine tk (oi := ⟨_, _, _, _, _, _⟩) (v := ?_) 26 rfl (by kernel_rfl) (fun _ _ _ h => h) (.inl ⟨by rfl, ?_⟩) (by assumption) ?_; rotate_left
                  · (intro wS hSw; (try dsimp only at hSw); go_simp); all_goals with_reducible rfl
                  try go_frame
                  refine tk (oi := ⟨_, _, _, _, _, _⟩) (v := ?_) 27 rfl (by kernel_rfl) (fun _ _ _ h => h) (.inl ⟨by rfl, ?_⟩) (by assumption) ?_; rotate_left
                  · (intro wS hSw; (try dsimp only at hSw); go_simp); all_goals with_reducible rfl
                  try go_frame
                  refine wpAnyH_done (by kernel_rfl) ?_ _
                  have hb3' := hbel.drew.trans (hb3.mono hbel.drew.size)
                  go_wp2_with fail
                  go_roundw
                  case rel => exact ⟨k + 1, by omega, by go_num, HIN', hb3'⟩
                  case measure => simp [intOf]; omega
              · obtain ⟨p, hp⟩ : ∃ p, Hid (x.attrs[k - 1]? = some p) := ⟨x.attrs[k - 1], List.getElem?_eq_getElem _⟩
                have hin' := hin.out
                have hin' : (nameL a.name && !leB a.name p.name && fromK x.attrs (k + 1)) = R := by
                  rw [← hin', fromK_step _ k p a hk0 hp.out ha.out]
                obtain ⟨q, hq⟩ : ∃ q, Hid (nameL a.name = q) := ⟨_, rfl⟩
                rw [hq.out] at hin'
                have hg1 : decide ((0 : Int) < (k : Int)) = true := by simp; omega
                have hg2 : decide (0 < k) = true := by simp; omega
                have hk0' : (0 : Int) ≤ (k : Int) := Int.natCast_nonneg _
                have hk1 : (0 : Int) ≤ (k : Int) - 1 := by omega
                have hk3 : (1 : Int) ≤ (k : Int) := by omega
                have hk2 : (k : Int) - 1 < x.attrs.length := by omega
                have HS : Hid (∀ w', Below w1.heap.size w1 w' → (Below w1.heap.size w1 w' ∧ w'.cell? ⟨w.heap.size, 4, none⟩ = some (.slice (some ad) x.attrs.length c) ∧ w'.cell? (ad.add (k * 2)) = some (.string ⟨a.name.toArray⟩) ∧ w'.cell? (ad.add ((k - 1) * 2)) = some (.string ⟨p.name.toArray⟩))) :=
                  fun w' hb => ⟨hb, H4.out w' hb, HCC.out k a ha.out w' hb, HCC.out (k - 1) p hp.out w' hb⟩
                obtain ⟨l, hl⟩ : ∃ l, Hid (leB a.name p.name = l) := ⟨_, rfl⟩
                rw [hl.out] at hin'
                have HIN := Lib.hid hin'
                clear hin'
                have hkw : IntKind.i64.wrap ((k : Int) - 1) = (k : Int) - 1 := IntWalk.i64_in _ (by omega)
                have hkn : ((k : Int) - 1).toNat = k - 1 := by omega
                cases q with
                | false =>
                  have hv : Hid (V = 63) := by
                    show _ = _
                    have hR0 : R = false := by rw [← HIN.out]; rfl
                    rw [← HV.out, hR0]; rfl
                  go_wp2_with fail
                  refine wp_region_held_drew (S := fun w' => Below w1.heap.size w1 w' ∧ w'.cell? ⟨w.heap.size, 4, none⟩ = some (.slice (some ad) x.attrs.length c) ∧ w'.cell? (ad.add (k * 2)) = some (.string ⟨a.name.toArray⟩) ∧ w'.cell? (ad.add ((k - 1) * 2)) = some (.string ⟨p.name.toArray⟩)) (by kernel_rfl) (HS.out _ hbel.drew) (fun hHeld => ?_)
                  refine tk (oi := ⟨_, _, _, _, _, _⟩) (v := ?_) 0 rfl (by kernel_rfl) (fun _ _ _ h => h) (.inl ⟨by rfl, ?_⟩) (by assumption) ?_; rotate_left
                  · (intro wS hSw; (try dsimp only at hSw); go_simp); all_goals with_reducible rfl
                  try go_frame
                  refine tk (oi := ⟨_, _, _, _, _, _⟩) (v := ?_) 1 rfl (by kernel_rfl) (fun _ _ _ h => h) (.inl ⟨by rfl, ?_⟩) (by assumption) ?_; rotate_left
                  · (intro wS hSw; (try dsimp only at hSw); go_simp); all_goals with_reducible rfl
                  try go_frame
                  refine tk (oi := ⟨_, _, _, _, _, _⟩) (v := ?_) 2 rfl (by kernel_rfl) (fun _ _ _ h => h) (.inl ⟨by rfl, ?_⟩) (by assumption) ?_; rotate_left
                  · (intro wS hSw; (try dsimp only at hSw); go_simp); all_goals with_reducible rfl
                  try go_frame
                  refine tk (oi := ⟨_, _, _, _, _, _⟩) (v := ?_) 3 rfl (by kernel_rfl) (fun _ _ _ h => h) (.inl ⟨by rfl, ?_⟩) (by assumption) ?_; rotate_left
                  · (intro wS hSw; (try dsimp only at hSw); go_simp); all_goals with_reducible rfl
                  try go_frame
                  refine tk (oi := ⟨_, _, _, _, _, _⟩) (v := ?_) 4 rfl (by kernel_rfl) (fun _ _ _ h => h) (.inl ⟨by rfl, ?_⟩) (by assumption) ?_; rotate_left
                  · (intro wS hSw; (try dsimp only at hSw); go_simp); all_goals with_reducible rfl
                  try go_frame
                  refine tk (oi := ⟨_, _, _, _, _, _⟩) (v := ?_) 5 rfl (by kernel_rfl) (fun _ _ _ h => h) (.inl ⟨by rfl, ?_⟩) (by assumption) ?_; rotate_left
                  · (intro wS hSw; (try dsimp only at hSw); go_simp); all_goals with_reducible rfl
                  try go_frame
                  refine wpAnyH_ready (rs := [6]) (by kernel_rfl) (by simp) ?_
                  refine AllReadyH.cons (o := ⟨_, _, _, _, _, _⟩) rfl (fun K hK => ?_) AllReadyH.nil
                  go_simp
                  refine (RName_l _ _ hnm _ hq).mono ?_; rintro e w3 ⟨rfl, hb3⟩
                  go_wp2_with fail
                  refine hK.out _ _ (HS.out _ (hbel.drew.trans (hb3.mono hbel.drew.size))) (fun hHeld => ?_)
                  clear hK K
                  try go_frame
                  refine tk (oi := ⟨_, _, _, _, _, _⟩) (v := ?_) 7 rfl (by kernel_rfl) (fun _ _ _ h => h) (.inl ⟨by rfl, ?_⟩) (by assumption) ?_; rotate_left
                  · (intro wS hSw; (try dsimp only at hSw); go_simp); all_goals with_reducible rfl
                  try go_frame
                  refine tk (oi := ⟨_, _, _, _, _, _⟩) (v := ?_) 8 rfl (by kernel_rfl) (fun _ _ _ h => h) (.inl ⟨by rfl, ?_⟩) (by assumption) ?_; rotate_left
                  · (intro wS hSw; (try dsimp only at hSw); go_simp); all_goals with_reducible rfl
                  try go_frame
                  refine tk (oi := ⟨_, _, _, _, _, _⟩) (v := undef) 9 rfl (by kernel_rfl) (fun _ _ _ h => h) (.inr ⟨by rfl, rfl⟩) (by assumption) ?_
                  try go_frame
                  refine tk (oi := ⟨_, _, _, _, _, _⟩) (v := undef) 10 rfl (by kernel_rfl) (fun _ _ _ h => h) (.inr ⟨by rfl, rfl⟩) (by assumption) ?_
                  try go_frame
                  refine tk (oi := ⟨_, _, _, _, _, _⟩) (v := undef) 11 rfl (by kernel_rfl) (fun _ _ _ h => h) (.inr ⟨by rfl, rfl⟩) (by assumption) ?_
                  try go_frame
                  refine tk (oi := ⟨_, _, _, _, _, _⟩) (v := undef) 12 rfl (by kernel_rfl) (fun _ _ _ h => h) (.inr ⟨by rfl, rfl⟩) (by assumption) ?_
                  try go_frame
                  refine tk (oi := ⟨_, _, _, _, _, _⟩) (v := undef) 13 rfl (by kernel_rfl) (fun _ _ _ h => h) (.inr ⟨by rfl, rfl⟩) (by assumption) ?_
                  try go_frame
                  refine tk (oi := ⟨_, _, _, _, _, _⟩) (v := undef) 14 rfl (by kernel_rfl) (fun _ _ _ h => h) (.inr ⟨by rfl, rfl⟩) (by assumption) ?_
                  try go_frame
                  refine tk (oi := ⟨_, _, _, _, _, _⟩) (v := undef) 15 rfl (by kernel_rfl) (fun _ _ _ h => h) (.inr ⟨by rfl, rfl⟩) (by assumption) ?_
                  try go_frame
                  refine tk (oi := ⟨_, _, _, _, _, _⟩) (v := undef) 16 rfl (by kernel_rfl) (fun _ _ _ h => h) (.inr ⟨by rfl, rfl⟩) (by assumption) ?_
                  try go_frame
                  refine tk (oi := ⟨_, _, _, _, _, _⟩) (v := undef) 17 rfl (by kernel_rfl) (fun _ _ _ h => h) (.inr ⟨by rfl, rfl⟩) (by assumption) ?_
                  try go_frame
                  refine tk (oi := ⟨_, _, _, _, _, _⟩) (v := undef) 18 rfl (by kernel_rfl) (fun _ _ _ h => h) (.inr ⟨by rfl, rfl⟩) (by assumption) ?_
                  try go_frame
                  refine tk (oi := ⟨_, _, _, _, _, _⟩) (v := undef) 19 rfl (by kernel_rfl) (fun _ _ _ h => h) (.inr ⟨by rfl, rfl⟩) (by assumption) ?_
                  try go_frame
                  refine tk (oi := ⟨_, _, _, _, _, _⟩) (v := undef) 20 rfl (by kernel_rfl) (fun _ _ _ h => h) (.inr ⟨by rfl, rfl⟩) (by assumption) ?_
                  try go_frame
                  refine tk (oi := ⟨_, _, _, _, _, _⟩) (v := undef) 21 rfl (by kernel_rfl) (fun _ _ _ h => h) (.inr ⟨by rfl, rfl⟩) (by assumption) ?_
                  try go_frame
                  refine tk (oi := ⟨_, _, _, _, _, _⟩) (v := undef) 22 rfl (by kernel_rfl) (fun _ _ _ h => h) (.inr ⟨by rfl, rfl⟩) (by assumption) ?_
                  try go_frame
                  refine tk (oi := ⟨_, _, _, _, _, _⟩) (v := undef) 23 rfl (by kernel_rfl) (fun _ _ _ h => h) (.inr ⟨by rfl, rfl⟩) (by assumption) ?_
                  try go_frame
                  refine tk (oi := ⟨_, _, _, _, _, _⟩) (v := undef) 24 rfl (by kernel_rfl) (fun _ _ _ h => h) (.inr ⟨by rfl, rfl⟩) (by assumption) ?_
                  try go_frame
                  refine tk (oi := ⟨_, _, _, _, _, _⟩) (v := undef) 25 rfl (by kernel_rfl) (fun _ _ _ h => h) (.inr ⟨by rfl, rfl⟩) (by assumption) ?_
                  try go_frame
                  refine tk (oi := ⟨_, _, _, _, _, _⟩) (v := undef) 26 rfl (by kernel_rfl) (fun _ _ _ h => h) (.inr ⟨by rfl, rfl⟩) (by assumption) ?_
                  try go_frame
                  refine tk (oi := ⟨_, _, _, _, _, _⟩) (v := ?_) 27 rfl (by kernel_rfl) (fun _ _ _ h => h) (.inl ⟨by rfl, ?_⟩) (by assumption) ?_; rotate_left
                  · (intro wS hSw; (try dsimp only at hSw); go_simp); all_goals with_reducible rfl
                  try go_frame
                  refine wpAnyH_done (by kernel_rfl) ?_ _
                  clear hkw hkn
                  go_wp2_with fail
                  go_ret
                  exact ⟨by rw [hv.out]; rfl, hbw1.trans ((hbel.drew.trans (hb3.mono hbel.drew.size)).mono (by omega))⟩
                | true =>
                  have hl1 := hl.out
                  unfold leB at hl1
                  cases l with
                  | true =>
                    have hv : Hid (V = 63) := by
                      show _ = _
                      have hR0 : R = false := by rw [← HIN.out]; rfl
                      rw [← HV.out, hR0]; rfl
                    go_wp2_with fail
                    refine wp_region_held_drew (S := fun w' => Below w1.heap.size w1 w' ∧ w'.cell? ⟨w.heap.size, 4, none⟩ = some (.slice (some ad) x.attrs.length c) ∧ w'.cell? (ad.add (k * 2)) = some (.string ⟨a.name.toArray⟩) ∧ w'.cell? (ad.add ((k - 1) * 2)) = some (.string ⟨p.name.toArray⟩)) (by kernel_rfl) (HS.out _ hbel.drew) (fun hHeld => ?_)
                    refine tk (oi := ⟨_, _, _, _, _, _⟩) (v := ?_) 0 rfl (by kernel_rfl) (fun _ _ _ h => h) (.inl ⟨by rfl, ?_⟩) (by assumption) ?_; rotate_left
                    · (intro wS hSw; (try dsimp only at hSw); go_simp); all_goals with_reducible rfl
                    try go_frame
                    refine tk (oi := ⟨_, _, _, _, _, _⟩) (v := ?_) 1 rfl (by kernel_rfl) (fun _ _ _ h => h) (.inl ⟨by rfl, ?_⟩) (by assumption) ?_; rotate_left
                    · (intro wS hSw; (try dsimp only at hSw); go_simp); all_goals with_reducible rfl
                    try go_frame
                    refine tk (oi := ⟨_, _, _, _, _, _⟩) (v := ?_) 2 rfl (by kernel_rfl) (fun _ _ _ h => h) (.inl ⟨by rfl, ?_⟩) (by assumption) ?_; rotate_left
                    · (intro wS hSw; (try dsimp only at hSw); go_simp); all_goals with_reducible rfl
                    try go_frame
                    refine tk (oi := ⟨_, _, _, _, _, _⟩) (v := ?_) 3 rfl (by kernel_rfl) (fun _ _ _ h => h) (.inl ⟨by rfl, ?_⟩) (by assumption) ?_; rotate_left
                    · (intro wS hSw; (try dsimp only at hSw); go_simp); all_goals with_reducible rfl
                    try go_frame
                    refine tk (oi := ⟨_, _, _, _, _, _⟩) (v := ?_) 4 rfl (by kernel_rfl) (fun _ _ _ h => h) (.inl ⟨by rfl, ?_⟩) (by assumption) ?_; rotate_left
                    · (intro wS hSw; (try dsimp only at hSw); go_simp); all_goals with_reducible rfl
                    try go_frame
                    refine tk (oi := ⟨_, _, _, _, _, _⟩) (v := ?_) 5 rfl (by kernel_rfl) (fun _ _ _ h => h) (.inl ⟨by rfl, ?_⟩) (by assumption) ?_; rotate_left
                    · (intro wS hSw; (try dsimp only at hSw); go_simp); all_goals with_reducible rfl
                    try go_frame
                    refine wpAnyH_ready (rs := [6]) (by kernel_rfl) (by simp) ?_
                    refine AllReadyH.cons (o := ⟨_, _, _, _, _, _⟩) rfl (fun K hK => ?_) AllReadyH.nil
                    go_simp
                    refine (RName_l _ _ hnm _ hq).mono ?_; rintro e w3 ⟨rfl, hb3⟩
                    go_wp2_with fail
                    refine hK.out _ _ (HS.out _ (hbel.drew.trans (hb3.mono hbel.drew.size))) (fun hHeld => ?_)
                    clear hK K
                    try go_frame
                    refine tk (oi := ⟨_, _, _, _, _, _⟩) (v := ?_) 7 rfl (by kernel_rfl) (fun _ _ _ h => h) (.inl ⟨by rfl, ?_⟩) (by assumption) ?_; rotate_left
                    · (intro wS hSw; (try dsimp only at hSw); go_simp); all_goals with_reducible rfl
                    try go_frame
                    refine tk (oi := ⟨_, _, _, _, _, _⟩) (v := ?_) 8 rfl (by kernel_rfl) (fun _ _ _ h => h) (.inl ⟨by rfl, ?_⟩) (by assumption) ?_; rotate_left
                    · (intro wS hSw; (try dsimp only at hSw); go_simp); all_goals with_reducible rfl
                    try go_frame
                    refine tk (oi := ⟨_, _, _, _, _, _⟩) (v := ?_) 9 rfl (by kernel_rfl) (fun _ _ _ h => h) (.inl ⟨by rfl, ?_⟩) (by assumption) ?_; rotate_left
                    · (intro wS hSw; (try dsimp only at hSw); go_simp); all_goals with_reducible rfl
                    try go_frame
                    refine tk (oi := ⟨_, _, _, _, _, _⟩) (v := ?_) 10 rfl (by kernel_rfl) (fun _ _ _ h => h) (.inl ⟨by rfl, ?_⟩) (by assumption) ?_; rotate_left
                    · (intro wS hSw; (try dsimp only at hSw); go_simp); all_goals with_reducible rfl
                    try go_frame
                    refine tk (oi := ⟨_, _, _, _, _, _⟩) (v := ?_) 11 rfl (by kernel_rfl) (fun _ _ _ h => h) (.inl ⟨by rfl, ?_⟩) (by assumption) ?_; rotate_left
                    · (intro wS hSw; (try dsimp only at hSw); go_simp); all_goals with_reducible rfl
                    try go_frame
                    refine tk (oi := ⟨_, _, _, _, _, _⟩) (v := ?_) 12 rfl (by kernel_rfl) (fun _ _ _ h => h) (.inl ⟨by rfl, ?_⟩) (by assumption) ?_; rotate_left
                    · (intro wS hSw; (try dsimp only at hSw); go_simp); all_goals with_reducible rfl
                    try go_frame
                    refine tk (oi := ⟨_, _, _, _, _, _⟩) (v := ?_) 13 rfl (by kernel_rfl) (fun _ _ _ h => h) (.inl ⟨by rfl, ?_⟩) (by assumption) ?_; rotate_left
                    · (intro wS hSw; (try dsimp only at hSw); go_simp); all_goals with_reducible rfl
                    try go_frame
                    refine tk (oi := ⟨_, _, _, _, _, _⟩) (v := ?_) 14 rfl (by kernel_rfl) (fun _ _ _ h => h) (.inl ⟨by rfl, ?_⟩) (by assumption) ?_; rotate_left
                    · (intro wS hSw; (try dsimp only at hSw); go_simp); all_goals with_reducible rfl
                    try go_frame
                    refine tk (oi := ⟨_, _, _, _, _, _⟩) (v := ?_) 15 rfl (by kernel_rfl) (fun _ _ _ h => h) (.inl ⟨by rfl, ?_⟩) (by assumption) ?_; rotate_left
                    · (intro wS hSw; (try dsimp only at hSw); go_simp); all_goals with_reducible rfl
                    try go_frame
                    refine tk (oi := ⟨_, _, _, _, _, _⟩) (v := ?_) 16 rfl (by kernel_rfl) (fun _ _ _ h => h) (.inl ⟨by rfl, ?_⟩) (by assumption) ?_; rotate_left
                    · (intro wS hSw; (try dsimp only at hSw); go_simp); all_goals with_reducible rfl
                    try go_frame
                    refine tk (oi := ⟨_, _, _, _, _, _⟩) (v := ?_) 17 rfl (by kernel_rfl) (fun _ _ _ h => h) (.inl ⟨by rfl, ?_⟩) (by assumption) ?_; rotate_left
                    · (intro wS hSw; (try dsimp only at hSw); go_simp); all_goals with_reducible rfl
                    try go_frame
                    refine tk (oi := ⟨_, _, _, _, _, _⟩) (v := ?_) 18 rfl (by kernel_rfl) (fun _ _ _ h => h) (.inl ⟨by rfl, ?_⟩) (by assumption) ?_; rotate_left
                    · (intro wS hSw; (try dsimp only at hSw); go_simp); all_goals with_reducible rfl
                    try go_frame
                    refine tk (oi := ⟨_, _, _, _, _, _⟩) (v := ?_) 19 rfl (by kernel_rfl) (fun _ _ _ h => h) (.inl ⟨by rfl, ?_⟩) (by assumption) ?_; rotate_left
                    · (intro wS hSw; (try dsimp only at hSw); go_simp); all_goals with_reducible rfl
                    try go_frame
                    refine tk (oi := ⟨_, _, _, _, _, _⟩) (v := ?_) 20 rfl (by kernel_rfl) (fun _ _ _ h => h) (.inl ⟨by rfl, ?_⟩) (by assumption) ?_; rotate_left
                    · (intro wS hSw; (try dsimp only at hSw); go_simp); all_goals with_reducible rfl
                    try go_frame
                    refine tk (oi := ⟨_, _, _, _, _, _⟩) (v := ?_) 21 rfl (by kernel_rfl) (fun _ _ _ h => h) (.inl ⟨by rfl, ?_⟩) (by assumption) ?_; rotate_left
                    · (intro wS hSw; (try dsimp only at hSw); go_simp); all_goals with_reducible rfl
                    try go_frame
                    refine tk (oi := ⟨_, _, _, _, _, _⟩) (v := ?_) 22 rfl (by kernel_rfl) (fun _ _ _ h => h) (.inl ⟨by rfl, ?_⟩) (by assumption) ?_; rotate_left
                    · (intro wS hSw; (try dsimp only at hSw); go_simp); all_goals with_reducible rfl
                    try go_frame
                    refine tk (oi := ⟨_, _, _, _, _, _⟩) (v := ?_) 23 rfl (by kernel_rfl) (fun _ _ _ h => h) (.inl ⟨by rfl, ?_⟩) (by assumption) ?_; rotate_left
                    · (intro wS hSw; (try dsimp only at hSw); go_simp); all_goals with_reducible rfl
                    try go_frame
                    refine tk (oi := ⟨_, _, _, _, _, _⟩) (v := ?_) 24 rfl (by kernel_rfl) (fun _ _ _ h => h) (.inl ⟨by rfl, ?_⟩) (by assumption) ?_; rotate_left
                    · (intro wS hSw; (try dsimp only at hSw); go_simp); all_goals with_reducible rfl
                    try go_frame
                    refine tk (oi := ⟨_, _, _, _, _, _⟩) (v := ?_) 25 rfl (by kernel_rfl) (fun _ _ _ h => h) (.inl ⟨by rfl, ?_⟩) (by assumption) ?_; rotate_left
                    · (intro wS hSw; (try dsimp only at hSw); go_simp); all_goals with_reducible rfl
                    try go_frame
                    refine tk (oi := ⟨_, _, _, _, _, _⟩) (v := ?_) 26 rfl (by kernel_rfl) (fun _ _ _ h => h) (.inl ⟨by rfl, ?_⟩) (by assumption) ?_; rotate_left
                    · (intro wS hSw; (try dsimp only at hSw); go_simp); all_goals with_reducible rfl
                    try go_frame
                    refine tk (oi := ⟨_, _, _, _, _, _⟩) (v := ?_) 27 rfl (by kernel_rfl) (fun _ _ _ h => h) (.inl ⟨by rfl, ?_⟩) (by assumption) ?_; rotate_left
                    · (intro wS hSw; (try dsimp only at hSw); go_simp); all_goals with_reducible rfl
                    try go_frame
                    refine wpAnyH_done (by kernel_rfl) ?_ _
                    clear hkw hkn
                    go_wp2_with fail
                    go_ret
                    exact ⟨by rw [hv.out]; rfl, hbw1.trans ((hbel.drew.trans (hb3.mono hbel.drew.size)).mono (by omega))⟩
                  | false =>
                    have HIN' : Hid (fromK x.attrs (k + 1) = R) := HIN.out
                    go_wp2_with fail
                    refine wp_region_held_drew (S := fun w' => Below w1.heap.size w1 w' ∧ w'.cell? ⟨w.heap.size, 4, none⟩ = some (.slice (some ad) x.attrs.length c) ∧ w'.cell? (ad.add (k * 2)) = some (.string ⟨a.name.toArray⟩) ∧ w'.cell? (ad.add ((k - 1) * 2)) = some (.string ⟨p.name.toArray⟩)) (by kernel_rfl) (HS.out _ hbel.drew) (fun hHeld => ?_)
                    refine tk (oi := ⟨_, _, _, _, _, _⟩) (v := ?_) 0 rfl (by kernel_rfl) (fun _ _ _ h => h) (.inl ⟨by rfl, ?_⟩) (by assumption) ?_; rotate_left
                    · (intro wS hSw; (try dsimp only at hSw); go_simp); all_goals with_reducible rfl
                    try go_frame
                    refine tk (oi := ⟨_, _, _, _, _, _⟩) (v := ?_) 1 rfl (by kernel_rfl) (fun _ _ _ h => h) (.inl ⟨by rfl, ?_⟩) (by assumption) ?_; rotate_left
                    · (intro wS hSw; (try dsimp only at hSw); go_simp); all_goals with_reducible rfl
                    try go_frame
                    refine tk (oi := ⟨_, _, _, _, _, _⟩) (v := ?_) 2 rfl (by kernel_rfl) (fun _ _ _ h => h) (.inl ⟨by rfl, ?_⟩) (by assumption) ?_; rotate_left
                    · (intro wS hSw; (try dsimp only at hSw); go_simp); all_goals with_reducible rfl
                    try go_frame
                    refine tk (oi := ⟨_, _, _, _, _, _⟩) (v := ?_) 3 rfl (by kernel_rfl) (fun _ _ _ h => h) (.inl ⟨by rfl, ?_⟩) (by assumption) ?_; rotate_left
                    · (intro wS hSw; (try dsimp only at hSw); go_simp); all_goals with_reducible rfl
                    try go_frame
                    refine tk (oi := ⟨_, _, _, _, _, _⟩) (v := ?_) 4 rfl (by kernel_rfl) (fun _ _ _ h => h) (.inl ⟨by rfl, ?_⟩) (by assumption) ?_; rotate_left
                    · (intro wS hSw; (try dsimp only at hSw); go_simp); all_goals with_reducible rfl
                    try go_frame
                    refine tk (oi := ⟨_, _, _, _, _, _⟩) (v := ?_) 5 rfl (by kernel_rfl) (fun _ _ _ h => h) (.inl ⟨by rfl, ?_⟩) (by assumption) ?_; rotate_left
                    · (intro wS hSw; (try dsimp only at hSw); go_simp); all_goals with_reducible rfl
                    try go_frame
                    refine wpAnyH_ready (rs := [6]) (by kernel_rfl) (by simp) ?_
                    refine AllReadyH.cons (o := ⟨_, _, _, _, _, _⟩) rfl (fun K hK => ?_) AllReadyH.nil
                    go_simp
                    refine (RName_l _ _ hnm _ hq).mono ?_; rintro e w3 ⟨rfl, hb3⟩
                    go_wp2_with fail
                    refine hK.out _ _ (HS.out _ (hbel.drew.trans (hb3.mono hbel.drew.size))) (fun hHeld => ?_)
                    clear hK K
                    try go_frame
                    refine tk (oi := ⟨_, _, _, _, _, _⟩) (v := ?_) 7 rfl (by kernel_rfl) (fun _ _ _ h => h) (.inl ⟨by rfl, ?_⟩) (by assumption) ?_; rotate_left
                    · (intro wS hSw; (try dsimp only at hSw); go_simp); all_goals with_reducible rfl
                    try go_frame
                    refine tk (oi := ⟨_, _, _, _, _, _⟩) (v := ?_) 8 rfl (by kernel_rfl) (fun _ _ _ h => h) (.inl ⟨by rfl, ?_⟩) (by assumption) ?_; rotate_left
                    · (intro wS hSw; (try dsimp only at hSw); go_simp); all_goals with_reducible rfl
                    try go_frame
                    refine tk (oi := ⟨_, _, _, _, _, _⟩) (v := ?_) 9 rfl (by kernel_rfl) (fun _ _ _ h => h) (.inl ⟨by rfl, ?_⟩) (by assumption) ?_; rotate_left
                    · (intro wS hSw; (try dsimp only at hSw); go_simp); all_goals with_reducible rfl
                    try go_frame
                    refine tk (oi := ⟨_, _, _, _, _, _⟩) (v := ?_) 10 rfl (by kernel_rfl) (fun _ _ _ h => h) (.inl ⟨by rfl, ?_⟩) (by assumption) ?_; rotate_left
                    · (intro wS hSw; (try dsimp only at hSw); go_simp); all_goals with_reducible rfl
                    try go_frame
                    refine tk (oi := ⟨_, _, _, _, _, _⟩) (v := ?_) 11 rfl (by kernel_rfl) (fun _ _ _ h => h) (.inl ⟨by rfl, ?_⟩) (by assumption) ?_; rotate_left
                    · (intro wS hSw; (try dsimp only at hSw); go_simp); all_goals with_reducible rfl
                    try go_frame
                    refine tk (oi := ⟨_, _, _, _, _, _⟩) (v := ?_) 12 rfl (by kernel_rfl) (fun _ _ _ h => h) (.inl ⟨by rfl, ?_⟩) (by assumption) ?_; rotate_left
                    · (intro wS hSw; (try dsimp only at hSw); go_simp); all_goals with_reducible rfl
                    try go_frame
                    refine tk (oi := ⟨_, _, _, _, _, _⟩) (v := ?_) 13 rfl (by kernel_rfl) (fun _ _ _ h => h) (.inl ⟨by rfl, ?_⟩) (by assumption) ?_; rotate_left
                    · (intro wS hSw; (try dsimp only at hSw); go_simp); all_goals with_reducible rfl
                    try go_frame
                    refine tk (oi := ⟨_, _, _, _, _, _⟩) (v := ?_) 14 rfl (by kernel_rfl) (fun _ _ _ h => h) (.inl ⟨by rfl, ?_⟩) (by assumption) ?_; rotate_left
                    · (intro wS hSw; (try dsimp only at hSw); go_simp); all_goals with_reducible rfl
                    try go_frame
                    refine tk (oi := ⟨_, _, _, _, _, _⟩) (v := ?_) 15 rfl (by kernel_rfl) (fun _ _ _ h => h) (.inl ⟨by rfl, ?_⟩) (by assumption) ?_; rotate_left
                    · (intro wS hSw; (try dsimp only at hSw); go_simp); all_goals with_reducible rfl
                    try go_frame
                    refine tk (oi := ⟨_, _, _, _, _, _⟩) (v := ?_) 16 rfl (by kernel_rfl) (fun _ _ _ h => h) (.inl ⟨by rfl, ?_⟩) (by assumption) ?_; rotate_left
                    · (intro wS hSw; (try dsimp only at hSw); go_simp); all_goals with_reducible rfl
                    try go_frame
                    refine tk (oi := ⟨_, _, _, _, _, _⟩) (v := ?_) 17 rfl (by kernel_rfl) (fun _ _ _ h => h) (.inl ⟨by rfl, ?_⟩) (by assumption) ?_; rotate_left
                    · (intro wS hSw; (try dsimp only at hSw); go_simp); all_goals with_reducible rfl
                    try go_frame
                    refine tk (oi := ⟨_, _, _, _, _, _⟩) (v := ?_) 18 rfl (by kernel_rfl) (fun _ _ _ h => h) (.inl ⟨by rfl, ?_⟩) (by assumption) ?_; rotate_left
                    · (intro wS hSw; (try dsimp only at hSw); go_simp); all_goals with_reducible rfl
                    try go_frame
                    refine tk (oi := ⟨_, _, _, _, _, _⟩) (v := ?_) 19 rfl (by kernel_rfl) (fun _ _ _ h => h) (.inl ⟨by rfl, ?_⟩) (by assumption) ?_; rotate_left
                    · (intro wS hSw; (try dsimp only at hSw); go_simp); all_goals with_reducible rfl
                    try go_frame
                    refine tk (oi := ⟨_, _, _, _, _, _⟩) (v := ?_) 20 rfl (by kernel_rfl) (fun _ _ _ h => h) (.inl ⟨by rfl, ?_⟩) (by assumption) ?_; rotate_left
                    · (intro wS hSw; (try dsimp only at hSw); go_simp); all_goals with_reducible rfl
                    try go_frame
                    refine tk (oi := ⟨_, _, _, _, _, _⟩) (v := ?_) 21 rfl (by kernel_rfl) (fun _ _ _ h => h) (.inl ⟨by rfl, ?_⟩) (by assumption) ?_; rotate_left
                    · (intro wS hSw; (try dsimp only at hSw); go_simp); all_goals with_reducible rfl
                    try go_frame
                    refine tk (oi := ⟨_, _, _, _, _, _⟩) (v := ?_) 22 rfl (by kernel_rfl) (fun _ _ _ h => h) (.inl ⟨by rfl, ?_⟩) (by assumption) ?_; rotate_left
                    · (intro wS hSw; (try dsimp only at hSw); go_simp); all_goals with_reducible rfl
                    try go_frame
                    refine tk (oi := ⟨_, _, _, _, _, _⟩) (v := ?_) 23 rfl (by kernel_rfl) (fun _ _ _ h => h) (.inl ⟨by rfl, ?_⟩) (by assumption) ?_; rotate_left
                    · (intro wS hSw; (try dsimp only at hSw); go_simp); all_goals with_reducible rfl
                    try go_frame
                    refine tk (oi := ⟨_, _, _, _, _, _⟩) (v := ?_) 24 rfl (by kernel_rfl) (fun _ _ _ h => h) (.inl ⟨by rfl, ?_⟩) (by assumption) ?_; rotate_left
                    · (intro wS hSw; (try dsimp only at hSw); go_simp); all_goals with_reducible rfl
                    try go_frame
                    refine tk (oi := ⟨_, _, _, _, _, _⟩) (v := ?_) 25 rfl (by kernel_rfl) (fun _ _ _ h => h) (.inl ⟨by rfl, ?_⟩) (by assumption) ?_; rotate_left
                    · (intro wS hSw; (try dsimp only at hSw); go_simp); all_goals with_reducible rfl
                    try go_frame
                    refine tk (oi := ⟨_, _, _, _, _, _⟩) (v := ?_) 26 rfl (by kernel_rfl) (fun _ _ _ h => h) (.inl ⟨by rfl, ?_⟩) (by assumption) ?_; rotate_left
                    · (intro wS hSw; (try dsimp only at hSw); go_simp); all_goals with_reducible rfl
                    try go_frame
                    refine tk (oi := ⟨_, _, _, _, _, _⟩) (v := ?_) 27 rfl (by kernel_rfl) (fun _ _ _ h => h) (.inl ⟨by rfl, ?_⟩) (by assumption) ?_; rotate_left
                    · (intro wS hSw; (try dsimp only at hSw); go_simp); all_goals with_reducible rfl
                    try go_frame
                    refine wpAnyH_done (by kernel_rfl) ?_ _
                    have hb3' := hbel.drew.trans (hb3.mono hbel.drew.size)
                    clear hkw hkn hl1
                    go_wp2_with fail
                    go_roundw
                    case rel => exact ⟨k + 1, by omega, by go_num, HIN', hb3'⟩
                    case measure => simp [intOf]; omega
            · have hk' : k = x.attrs.length := by omega
              have hR1 : R = true := by rw [← hin.out, hk', fromK_end]
              have hV1 := HV.out
              rw [hR1] at hV1
              simp only [if_true] at hV1
              subst hk'
              clear hin hlt hk
              by_cases hbig : 20 < x.attrs.length
              · have hv : Hid (V = 67) := by
                  show _ = _
                  rw [← hV1, if_pos hbig]; rfl
                clear hV1
                go_wp2_with fail
                go_ret
                exact ⟨by rw [hv.out]; rfl, hbwr⟩
              · rw [if_neg hbig, if_pos rfl] at hV1
                have HV1 := Lib.hid hV1
                clear hV1
                go_wp2_with fail
                go_loopw [4] (fun i wr => ∃ (k : Nat), k ≤ x.attrs.length ∧ i = .int .i64 k ∧ Hid (valuesE (x.attrs.drop k) = V) ∧ Below w1.heap.size w1 wr) (fun i _ => x.attrs.length - (intOf i).toNat)
                case atStart => exact ⟨0, Nat.zero_le _, rfl, HV1, hbel⟩
                case round =>
                  obtain ⟨k, hk, rfl, hin, hbel⟩ := hrel
                  have hzr := hbel.size
                  have hbwr : Below w.heap.size w wr := hbw1.trans (hbel.mono (by omega))
                  have hc4r := H4.out wr hbel
                  by_cases hlt : k < x.attrs.length
                  · obtain ⟨a, ha⟩ : ∃ a, Hid (x.attrs[k]? = some a) := ⟨x.attrs[k], List.getElem?_eq_getElem _⟩
                    obtain ⟨ad, hAd, hbl, hcs⟩ := (HA.out.below hbwr) (by omega)
                    have hc1 := (hcs k a ha.out).2
                    unfold strV at hc1
                    clear hcs
                    have hnm := (HS4.out k a ha.out).2
                    subst hAd
                    have hlt' : (k : Int) < x.attrs.length := by omega
                    have hin' := hin.out
                    rw [drop_cons ha.out, valuesE] at hin'
                    obtain ⟨q, hq⟩ : ∃ q, Hid (charsE a.value = q) := ⟨_, rfl⟩
                    rw [hq.out] at hin'
                    by_cases hq0 : q = 0
                    · rw [if_pos hq0] at hin'
                      have HIN := Lib.hid hin'
                      subst hq0
                      clear hin' hin
                      go_wp2_with fail
                      refine (rchars_l _ _ hnm _ hq).mono ?_; rintro e w3 ⟨rfl, hb3⟩
                      have hb3' := hbel.trans (hb3.mono hbel.size)
                      go_wp2_with fail
                      go_roundw
                      case rel => exact ⟨k + 1, by omega, by go_num, HIN, hb3'⟩
                      case measure => simp [intOf]; omega
                    · rw [if_neg hq0] at hin'
                      have HIN := Lib.hid hin'
                      have e6 : (q != 0) = true := by simp [hq0]
                      clear hin' hin hq0
                      go_wp2_with fail
                      refine (rchars_l _ _ hnm _ hq).mono ?_; rintro e w3 ⟨rfl, hb3⟩
                      have hb3' := hbel.trans (hb3.mono hbel.size)
                      go_wp2_with fail
                      go_ret
                      exact ⟨by rw [← HIN.out]; rfl, hbw1.trans (hb3'.mono (by omega))⟩
                  · have hk' : k = x.attrs.length := by omega
                    have hv : Hid (V = 0) := by
                      show _ = _
                      rw [← hin.out, List.drop_eq_nil_of_le (by omega)]; rfl
                    subst hk'
                    clear hin hlt hk
                    go_wp2_with fail
                    go_ret
                    exact ⟨by rw [hv.out]; rfl, hbwr⟩
      · have e5 : (x.text == []) = false := by simp [k3]
        have hv : Hid (V = 68) := by show _ = _; rw [← hV', if_pos (.inr k3)]
        clear hV' k1 k2 k3
        unfold itemVal strV
        go_enter Try.func84, Try.ntmps84
        go_wp2_with fail
        go_ret
        exact ⟨by rw [hv.out]; rfl, (Below.refl _ w).alloc (Nat.le_refl _) _⟩
    · have e4 : (x.kind != 1) = true := by simp [k2]
      have hv : Hid (V = 68) := by show _ = _; rw [← hV', if_pos (.inl k2)]
      clear hV' k1 k2
      unfold itemVal strV
      go_enter Try.func84, Try.ntmps84
      go_wp2_with fail
      go_ret
      exact ⟨by rw [hv.out]; rfl, (Below.refl _ w).alloc (Nat.le_refl _) _⟩
end Go.Proofs.Ythifddkmbjnncaa

/-
  The document's reader of tokens: the walk of attr.
-/
namespace Go.Proofs.Ythifddkmbjnncaa
open Go.RowKit

/-- what attr leaves -/
def RAttrPost (w : World) (p : Nat) (kind tat : Int) (name text : List UInt8) (l : List AttrD) (V : Told AttrD) (e : Ending) (w' : World) : Prop :=
  Below w.heap.size w w' ∧ match V with
  | .ok a n => ∃ A c, e = .returned (.agg (stC (p + n : Nat) kind tat name text A (insA a l).length c 0 0)) ∧ AttrsOwn w' w.heap.size A c (insA a l)
  | .bad k c => e = .returned (.agg (stC 0 0 0 [] [] none 0 0 (p + k : Nat) c))


set_option maxRecDepth 100000 in
set_option maxHeartbeats 8000000 in
theorem rattr_any (s : ByteArray) (p : Nat) (kind tat : Int) (name text : List UInt8) (A : Option Addr) (c : Nat) (l : List AttrD) (w : World) (hp : p ≤ s.size) (hs : s.size ≤ 1000000000) (hA : AttrsAt w w.heap.size A l) (hl : l.length ≤ 1000) (V : Told AttrD) (hV : Hid (attrL (s.data.toList.drop p) l = V)) :
    Calls Try.prog 92 #[.string s, .agg (stC p kind tat name text A l.length c 0 0)] w (RAttrPost w p kind tat name text l V) := by
  have HL := Lib.hid (size_toList s)
  have HA := Lib.hid hA
  obtain ⟨n, hn⟩ : ∃ n, Hid (wordL (s.data.toList.drop p) = n) := ⟨_, rfl⟩
  obtain ⟨v, hv⟩ : ∃ v, Hid (nameL n = v) := ⟨_, rfl⟩
  obtain ⟨k, hk⟩ : ∃ k, Hid (p + n.length = k) := ⟨_, rfl⟩
  have hkl : k ≤ s.size := by
    have := wordL_len (s.data.toList.drop p)
    rw [hn.out, List.length_drop, HL.out] at this
    have := hk.out
    omega
  have hword : Hid (p + (wordL (s.data.toList.drop p)).length = k) := by show _ = _; rw [hn.out]; exact hk.out
  have hx : (s.extract p k).data.toList = n := by
    rw [Lib.extract_data]
    have h2 := span_word (s.data.toList.drop p) nb
    have e : (s.data.toList.drop p).takeWhile nb = n := hn.out
    rw [e] at h2
    rw [show k - p = n.length by have := hk.out; omega]
    conv => lhs; rw [h2]
    rw [List.take_append_of_le_length (Nat.le_refl _), List.take_length]
  have hxe : Hid (s.extract p k = ⟨n.toArray⟩) := by
    show _ = _
    rw [← hx]
  have hnl : n.length ≤ 1000000000 := by have := hk.out; omega
  have i0 : (0 : Int) ≤ (p : Int) := by omega
  have i1 : (p : Int) ≤ k := by have := hk.out; omega
  have i2 : (k : Int) ≤ s.size := by omega
  clear hx hA
  show Calls Try.prog 92 #[.string s, .agg #[.int .i64 p, .int .i64 kind, .int .i64 tat, .string ⟨name.toArray⟩, .string ⟨text.toArray⟩, .slice A l.length c, .int .i64 0, .int .i64 0]] w _
  go_enter Try.func92, Try.ntmps92
  go_wp2_with fail
  obtain ⟨W1, hW1⟩ : ∃ W1, Hid (W1 = (w.alloc (.cells #[.int .i64 p, .int .i64 kind, .int .i64 tat, .string ⟨name.toArray⟩, .string ⟨text.toArray⟩, .slice A l.length c, .int .i64 0, .int .i64 0] 94)).alloc (.cells zeroSt 94)) := ⟨_, rfl⟩
  change Calls _ _ _ ((w.alloc _).alloc (.cells zeroSt 94)) _
  rw [← hW1.out]
  have hb1 : Below w.heap.size w W1 := by rw [hW1.out]; exact ((Below.refl _ w).alloc (Nat.le_refl _) _).alloc (by simp) _
  have HX1 : Hid (W1.heap[w.heap.size]? = some (.cells #[.int .i64 p, .int .i64 kind, .int .i64 tat, .string ⟨name.toArray⟩, .string ⟨text.toArray⟩, .slice A l.length c, .int .i64 0, .int .i64 0] 94 (0, 0))) := by show _ = _; rw [hW1.out]; exact heap_alloc2_old _ _ _
  have HT1 : Hid (W1.heap[w.heap.size + 1]? = some (.cells zeroSt 94 (0, 0))) := by show _ = _; rw [hW1.out]; exact heap_alloc2_new _ _ _
  have HB1 := Lib.hid hb1
  clear hb1
  refine (rword_any s p W1 hp hs k hword).mono ?_
  rintro e w2 ⟨rfl, hb2⟩
  have HX2 := Lib.hid (blk_below hb2 HX1.out)
  have HT2 := Lib.hid (blk_below hb2 HT1.out)
  have HB2 : Hid (Below w.heap.size w w2) := HB1.out.trans (hb2.mono HB1.out.size)
  have z0 : w2.cell? ⟨w.heap.size, 0, none⟩ = some (.int .i64 p) := by rw [cell_of_row HX2.out]; rfl
  go_wp2_with fail
  rw [hxe.out]
  refine (RName_l n w2 hnl v hv).mono ?_
  rintro e w3 ⟨rfl, hb3⟩
  have HX3 := Lib.hid (blk_below hb3 HX2.out)
  have HT3 := Lib.hid (blk_below hb3 HT2.out)
  have HB3 : Hid (Below w.heap.size w w3) := HB2.out.trans (hb3.mono HB2.out.size)
  replace z0 : w3.cell? ⟨w.heap.size, 0, none⟩ = some (.int .i64 p) := by rw [cell_of_row HX3.out]; rfl
  have z5 : w3.cell? ⟨w.heap.size, 5, none⟩ = some (.slice A l.length c) := by rw [cell_of_row HX3.out]; rfl
  cases v with
  | false =>
    have HV : Hid (V = .bad 0 31) := by
      show _ = _
      rw [← hV.out]; unfold attrL; simp only [hn.out, hv.out]; rw [if_pos trivial]
    go_wp2_with fail
    refine (rfails_any _ _ w3).mono ?_
    rintro e9 w9 ⟨rfl, hb9⟩
    have HT9 := Lib.hid (blk_below hb9 HT3.out)
    go_wp2_with (refine wpList_store_row rfl 94 (.tmp 4) (.tmp 26) rfl (w.heap.size + 1) (stC 0 0 0 [] [] none 0 0 ((p : Int)) 31) rfl rfl 94 zeroSt HT9.out (by kernel_rfl) rfl (stC_one _ _ _ _ _ _ _ _ _ _) ?_)
    try simp only [Exit.inBlock, Exit.then]
    refine bodyPost_ret (results_cell_row Try.results92 _ _ (w.heap.size + 1) 94 (stC 0 0 0 [] [] none 0 0 ((p : Int)) 31) (0, 0) _ rfl (setRow_heap _ _ _ _ _ _ HT9.out) Try.underlying94 rfl (by kernel_rfl)) rfl ?_
    rw [HV.out]
    refine ⟨below_stored ((HB3.out).trans (hb9.mono (HB3.out).size)) (Nat.le_succ _) _, ?_⟩
    rfl
  | true =>
    by_cases h20 : 20 ≤ l.length
    · have HV : Hid (V = .bad 0 33) := by
        show _ = _
        rw [← hV.out]; unfold attrL; simp only [hn.out, hv.out]; rw [if_neg (by decide), if_pos h20]
      have h20' : (20 : Int) ≤ l.length := by omega
      clear h20
      go_wp2_with fail
      refine (rfails_any _ _ w3).mono ?_
      rintro e9 w9 ⟨rfl, hb9⟩
      have HT9 := Lib.hid (blk_below hb9 HT3.out)
      go_wp2_with (refine wpList_store_row rfl 94 (.tmp 4) (.tmp 34) rfl (w.heap.size + 1) (stC 0 0 0 [] [] none 0 0 ((p : Int)) 33) rfl rfl 94 zeroSt HT9.out (by kernel_rfl) rfl (stC_one _ _ _ _ _ _ _ _ _ _) ?_)
      try simp only [Exit.inBlock, Exit.then]
      refine bodyPost_ret (results_cell_row Try.results92 _ _ (w.heap.size + 1) 94 (stC 0 0 0 [] [] none 0 0 ((p : Int)) 33) (0, 0) _ rfl (setRow_heap _ _ _ _ _ _ HT9.out) Try.underlying94 rfl (by kernel_rfl)) rfl ?_
      rw [HV.out]
      refine ⟨below_stored ((HB3.out).trans (hb9.mono (HB3.out).size)) (Nat.le_succ _) _, ?_⟩
      rfl
    · have h20' : (l.length : Int) < 20 := by omega
      have H20 := Lib.hid h20
      clear h20
      go_wp2_with fail
      go_loopw [7] (fun i wr => ∃ (j : Nat), j ≤ l.length ∧ i = .int .i64 (j : Int) ∧ Hid ((l.take j).any (fun a => decide (a.name = n)) = false) ∧ w3 = wr) (fun i _ => l.length - (intOf i).toNat)
      case atStart => exact ⟨0, Nat.zero_le _, rfl, rfl, rfl⟩
      case round =>
        obtain ⟨j, hj, rfl, hno, hwr⟩ := hrel
        subst hwr
        by_cases hjl : j < l.length
        · obtain ⟨a, ha⟩ : ∃ a, Hid (l[j]? = some a) := ⟨l[j], List.getElem?_eq_getElem _⟩
          have hAr := (HA.out.below HB3.out)
          obtain ⟨ad, hAd, had, hcc⟩ := hAr (by omega)
          subst hAd
          obtain ⟨a0, _⟩ := hcc j a ha.out
          unfold strV at a0
          have k0 : (0 : Int) ≤ (j : Int) := by omega
          have k1 : (j : Int) < l.length := by omega
          by_cases hc : a.name = n
          · have hcb : (a.name == n) = true := by simpa using hc
            have hany : l.any (fun a => decide (a.name = n)) = true := List.any_eq_true.2 ⟨a, List.mem_of_getElem? ha.out, by simpa using hc⟩
            have HV : Hid (V = .bad 0 32) := by
              show _ = _
              rw [← hV.out]; unfold attrL; simp only [hn.out, hv.out]; rw [if_neg (by decide), if_neg H20.out, if_pos hany]
            clear hc hany hcc
            go_wp2_with fail
            refine (rfails_any _ _ w3).mono ?_
            rintro e9 w9 ⟨rfl, hb9⟩
            have HT9 := Lib.hid (blk_below hb9 HT3.out)
            go_wp2_with (refine wpList_store_row rfl 94 (.tmp 4) (.tmp 54) rfl (w.heap.size + 1) (stC 0 0 0 [] [] none 0 0 ((p : Int)) 32) rfl rfl 94 zeroSt HT9.out (by kernel_rfl) rfl (stC_one _ _ _ _ _ _ _ _ _ _) ?_)
            try simp only [Exit.inBlock, Exit.then]
            refine bodyPost_ret (results_cell_row Try.results92 _ _ (w.heap.size + 1) 94 (stC 0 0 0 [] [] none 0 0 ((p : Int)) 32) (0, 0) _ rfl (setRow_heap _ _ _ _ _ _ HT9.out) Try.underlying94 rfl (by kernel_rfl)) rfl ?_
            rw [HV.out]
            refine ⟨below_stored ((HB3.out).trans (hb9.mono (HB3.out).size)) (Nat.le_succ _) _, ?_⟩
            rfl
          · have hcb : (a.name == n) = false := by simpa using hc
            have hno' : Hid ((l.take (j + 1)).any (fun a => decide (a.name = n)) = false) := by
              show _ = _
              rw [List.take_add_one, ha.out, List.any_append, hno.out]
              simp [hc]
            clear hc hcc
            go_wp2_with fail
            go_roundw
            case rel => exact ⟨j + 1, by omega, by go_num, hno'.out, trivial⟩
            case measure => simp [intOf]; omega
        · have hany : Hid (l.any (fun a => decide (a.name = n)) = false) := by
            have := hno.out
            rw [List.take_of_length_le (by omega)] at this
            exact this
          have k1 : (l.length : Int) ≤ (j : Int) := by omega
          go_wp2_with fail
          obtain ⟨m1, hm1⟩ : ∃ m1, Hid (pre [61] (s.data.toList.drop k) = m1) := ⟨_, rfl⟩
          refine (there_any s k [61] w3 hkl hs (by decide) m1 hm1).mono ?_
          rintro e w4 ⟨rfl, hb4⟩
          have HX4 := Lib.hid (blk_below hb4 HX3.out)
          have HT4 := Lib.hid (blk_below hb4 HT3.out)
          have HB4 : Hid (Below w.heap.size w w4) := HB3.out.trans (hb4.mono HB3.out.size)
          have hpd : p + n.length = k := hk.out
          have hVE : Hid (V = if m1 = false then .bad n.length 30 else if pre [34] (s.data.toList.drop (k + 1)) = false then .bad (n.length + 1) 30 else valueT n (s.data.toList.drop (k + 2))) := by
            show _ = _
            rw [← hV.out]; unfold attrL; simp only [hn.out, hv.out, hany.out, List.drop_drop]
            rw [if_neg (by decide), if_neg H20.out, if_neg (by decide), hpd, hm1.out, show p + (n.length + 1) = k + 1 by omega, show p + (n.length + 2) = k + 2 by omega]
          have HPD := Lib.hid hpd
          clear hpd z0 z5 hb4
          cases m1 with
          | false =>
            have HV : Hid (V = .bad n.length 30) := hVE.out.trans (if_pos rfl)
            go_wp2_with fail
            refine (rfails_any _ _ w4).mono ?_
            rintro e9 w9 ⟨rfl, hb9⟩
            have HT9 := Lib.hid (blk_below hb9 HT4.out)
            go_wp2_with (refine wpList_store_row rfl 94 (.tmp 4) (.tmp 60) rfl (w.heap.size + 1) (stC 0 0 0 [] [] none 0 0 ((k : Int)) 30) rfl rfl 94 zeroSt HT9.out (by kernel_rfl) rfl (stC_one _ _ _ _ _ _ _ _ _ _) ?_)
            try simp only [Exit.inBlock, Exit.then]
            refine bodyPost_ret (results_cell_row Try.results92 _ _ (w.heap.size + 1) 94 (stC 0 0 0 [] [] none 0 0 ((k : Int)) 30) (0, 0) _ rfl (setRow_heap _ _ _ _ _ _ HT9.out) Try.underlying94 rfl (by kernel_rfl)) rfl ?_
            rw [HV.out]
            refine ⟨below_stored ((HB4.out).trans (hb9.mono (HB4.out).size)) (Nat.le_succ _) _, ?_⟩
            show _ = Ending.returned (.agg (stC 0 0 0 [] [] none 0 0 ((p + n.length : Nat) : Int) 30))
            rw [HPD.out]
          | true =>
            have hk1 : k + 1 ≤ s.size := by have := pre1_len hm1.out; rw [HL.out] at this; exact this
            obtain ⟨m2, hm2⟩ : ∃ m2, Hid (pre [34] (s.data.toList.drop (k + 1)) = m2) := ⟨_, rfl⟩
            have hVE2 : Hid (V = if m2 = false then .bad (n.length + 1) 30 else valueT n (s.data.toList.drop (k + 2))) := by
              show _ = _
              rw [hVE.out, if_neg (by decide), hm2.out]
            have i5 : (k : Int) + 1 ≤ s.size := by omega
            go_wp2_with fail
            refine (there_any s (k + 1) [34] w4 hk1 hs (by decide) m2 hm2).mono ?_
            rintro e w5 ⟨rfl, hb5⟩
            have HX5 := Lib.hid (blk_below hb5 HX4.out)
            have HT5 := Lib.hid (blk_below hb5 HT4.out)
            have HB5 : Hid (Below w.heap.size w w5) := HB4.out.trans (hb5.mono HB4.out.size)
            clear hb5
            cases m2 with
            | false =>
              have HV : Hid (V = .bad (n.length + 1) 30) := hVE2.out.trans (if_pos rfl)
              go_wp2_with fail
              refine (rfails_any _ _ w5).mono ?_
              rintro e9 w9 ⟨rfl, hb9⟩
              have HT9 := Lib.hid (blk_below hb9 HT5.out)
              go_wp2_with (refine wpList_store_row rfl 94 (.tmp 4) (.tmp 68) rfl (w.heap.size + 1) (stC 0 0 0 [] [] none 0 0 ((k : Int) + 1) 30) rfl rfl 94 zeroSt HT9.out (by kernel_rfl) rfl (stC_one _ _ _ _ _ _ _ _ _ _) ?_)
              try simp only [Exit.inBlock, Exit.then]
              refine bodyPost_ret (results_cell_row Try.results92 _ _ (w.heap.size + 1) 94 (stC 0 0 0 [] [] none 0 0 ((k : Int) + 1) 30) (0, 0) _ rfl (setRow_heap _ _ _ _ _ _ HT9.out) Try.underlying94 rfl (by kernel_rfl)) rfl ?_
              rw [HV.out]
              refine ⟨below_stored ((HB5.out).trans (hb9.mono (HB5.out).size)) (Nat.le_succ _) _, ?_⟩
              show _ = Ending.returned (.agg (stC 0 0 0 [] [] none 0 0 ((p + (n.length + 1) : Nat) : Int) 30))
              rw [show p + (n.length + 1) = k + 1 by have := HPD.out; omega]
              rfl
            | true =>
              have hk2 : k + 2 ≤ s.size := by have := pre1_len hm2.out; rw [HL.out] at this; exact this
              have i6 : (k : Int) + 2 ≤ s.size := by omega
              obtain ⟨t, ht⟩ : ∃ t, Hid ((s.data.toList.drop (k + 2)).takeWhile (· != 34) = t) := ⟨_, rfl⟩
              obtain ⟨q, hq⟩ : ∃ q, Hid (k + 2 + t.length = q) := ⟨_, rfl⟩
              have htl : t.length ≤ s.size - (k + 2) := by
                have := takeWhile_len (· != 34) (s.data.toList.drop (k + 2))
                rw [ht.out, List.length_drop, HL.out] at this
                exact this
              have hql : q ≤ s.size := by have := hq.out; omega
              have hfind : Hid (k + 2 + ((s.data.toList.drop (k + 2)).takeWhile (· != 34)).length = q) := by show _ = _; rw [ht.out]; exact hq.out
              have hVT : Hid (valueT n (s.data.toList.drop (k + 2)) = if t.length = s.size - (k + 2) then .bad (n.length + 2 + t.length) 30 else if (undoL true t).2.2 ≠ 0 then .bad (n.length + 2 + (undoL true t).2.1) (undoL true t).2.2 else if 1500 < (undoL true t).1.length then .bad (n.length + 1) 34 else .ok ⟨n, (undoL true t).1⟩ (n.length + 2 + t.length + 1)) := by
                show _ = _
                unfold valueT
                simp only [ht.out, List.length_drop, HL.out]
              have i7 : (k : Int) + 2 ≤ q := by have := hq.out; omega
              have i8 : (q : Int) ≤ s.size := by omega
              go_wp2_with fail
              refine (rfind_any s (k + 2) 34 w5 hk2 hs q hfind).mono ?_
              rintro e w6 ⟨rfl, hb6⟩
              have HX6 := Lib.hid (blk_below hb6 HX5.out)
              have HT6 := Lib.hid (blk_below hb6 HT5.out)
              have HB6 : Hid (Below w.heap.size w w6) := HB5.out.trans (hb6.mono HB5.out.size)
              clear hb6
              by_cases hend : q = s.size
              · have HV : Hid (V = .bad (n.length + 2 + t.length) 30) := by
                  show _ = _
                  rw [hVE2.out, if_neg (by decide), hVT.out, if_pos (by have := hq.out; omega)]
                have t0 : ((q : Int) == (s.size : Int)) = true := by simp [hend]
                clear hend
                go_wp2_with fail
                refine (rfails_any _ _ w6).mono ?_
                rintro e9 w9 ⟨rfl, hb9⟩
                have HT9 := Lib.hid (blk_below hb9 HT6.out)
                go_wp2_with (refine wpList_store_row rfl 94 (.tmp 4) (.tmp 78) rfl (w.heap.size + 1) (stC 0 0 0 [] [] none 0 0 ((q : Int)) 30) rfl rfl 94 zeroSt HT9.out (by kernel_rfl) rfl (stC_one _ _ _ _ _ _ _ _ _ _) ?_)
                try simp only [Exit.inBlock, Exit.then]
                refine bodyPost_ret (results_cell_row Try.results92 _ _ (w.heap.size + 1) 94 (stC 0 0 0 [] [] none 0 0 ((q : Int)) 30) (0, 0) _ rfl (setRow_heap _ _ _ _ _ _ HT9.out) Try.underlying94 rfl (by kernel_rfl)) rfl ?_
                rw [HV.out]
                refine ⟨below_stored ((HB6.out).trans (hb9.mono (HB6.out).size)) (Nat.le_succ _) _, ?_⟩
                show _ = Ending.returned (.agg (stC 0 0 0 [] [] none 0 0 ((p + (n.length + 2 + t.length) : Nat) : Int) 30))
                rw [show p + (n.length + 2 + t.length) = q by have := HPD.out; have := hq.out; omega]
              · have t0 : ((q : Int) == (s.size : Int)) = false := beq_eq_false_iff_ne.2 (by omega)
                obtain ⟨u, mm, er, hu⟩ : ∃ u mm er, Hid (undoL true t = (u, mm, er)) := ⟨_, _, _, rfl⟩
                have hVU : Hid (V = if er ≠ 0 then .bad (n.length + 2 + mm) er else if 1500 < u.length then .bad (n.length + 1) 34 else .ok ⟨n, u⟩ (n.length + 2 + t.length + 1)) := by
                  show _ = _
                  rw [hVE2.out, if_neg (by decide), hVT.out, if_neg (by have := hq.out; omega), hu.out]
                have hx2 : (s.extract (k + 2) q).data.toList = t := by
                  rw [Lib.extract_data]
                  have h2 := span_word (s.data.toList.drop (k + 2)) (· != 34)
                  rw [ht.out] at h2
                  rw [show q - (k + 2) = t.length by have := hq.out; omega]
                  conv => lhs; rw [h2]
                  rw [List.take_append_of_le_length (Nat.le_refl _), List.take_length]
                have hU : Hid (undoL true (s.extract (k + 2) q).data.toList = (u, mm, er)) := by show _ = _; rw [hx2]; exact hu.out
                have hxs : (s.extract (k + 2) q).size ≤ 1000000000 := by rw [ByteArray.size_extract]; omega
                have HXS := Lib.hid hxs
                have hmm : mm ≤ t.length := by have := undoL_le true t; rw [hu.out] at this; exact this
                have hmb : (k : Int) + 2 + mm ≤ s.size := by have := hq.out; omega
                clear hx2 hxs hend
                go_wp2_with fail
                refine (RUndo_at _ true w6 HXS.out u mm er hU).mono ?_
                rintro e w7 ⟨rfl, hb7⟩
                have HX7 := Lib.hid (blk_below hb7 HX6.out)
                have HT7 := Lib.hid (blk_below hb7 HT6.out)
                have HB7 : Hid (Below w.heap.size w w7) := HB6.out.trans (hb7.mono HB6.out.size)
                clear hb7
                by_cases he : er = 0
                · subst he
                  by_cases hlong : 1500 < u.length
                  · have HV : Hid (V = .bad (n.length + 1) 34) := by show _ = _; rw [hVU.out, if_neg (by simp), if_pos hlong]
                    have hl' : (1500 : Int) < u.length := by omega
                    clear hlong
                    go_wp2_with fail
                    refine (rfails_any _ _ w7).mono ?_
                    rintro e9 w9 ⟨rfl, hb9⟩
                    have HT9 := Lib.hid (blk_below hb9 HT7.out)
                    go_wp2_with (refine wpList_store_row rfl 94 (.tmp 4) (.tmp 102) rfl (w.heap.size + 1) (stC 0 0 0 [] [] none 0 0 ((k : Int) + 1) 34) rfl rfl 94 zeroSt HT9.out (by kernel_rfl) rfl (stC_one _ _ _ _ _ _ _ _ _ _) ?_)
                    try simp only [Exit.inBlock, Exit.then]
                    refine bodyPost_ret (results_cell_row Try.results92 _ _ (w.heap.size + 1) 94 (stC 0 0 0 [] [] none 0 0 ((k : Int) + 1) 34) (0, 0) _ rfl (setRow_heap _ _ _ _ _ _ HT9.out) Try.underlying94 rfl (by kernel_rfl)) rfl ?_
                    rw [HV.out]
                    refine ⟨below_stored ((HB7.out).trans (hb9.mono (HB7.out).size)) (Nat.le_succ _) _, ?_⟩
                    show _ = Ending.returned (.agg (stC 0 0 0 [] [] none 0 0 ((p + (n.length + 1) : Nat) : Int) 34))
                    rw [show p + (n.length + 1) = k + 1 by have := HPD.out; omega]
                    rfl
                  · have HV : Hid (V = .ok ⟨n, u⟩ (n.length + 2 + t.length + 1)) := by show _ = _; rw [hVU.out, if_neg (by simp), if_neg hlong]
                    have hl' : (u.length : Int) ≤ 1500 := by omega
                    clear hlong
                    have z5 : w7.cell? ⟨w.heap.size, 5, none⟩ = some (.slice A l.length c) := by rw [cell_of_row HX7.out]; rfl
                    have HA7 : Hid (AttrsAt w7 w7.heap.size A l) := (HA.out.below HB7.out).more HB7.out.size
                    obtain ⟨M, hM⟩ : ∃ M, Hid (insA ⟨n, u⟩ l = M) := ⟨_, rfl⟩
                    go_wp2_with fail
                    refine (rwith_any l A c ⟨n, u⟩ w7 HA7.out hl M hM).mono ?_
                    rintro e w8 ⟨hb8, A8, c8, rfl, hA8⟩
                    have HX8 := Lib.hid (blk_below hb8 HX7.out)
                    have HT8 := Lib.hid (blk_below hb8 HT7.out)
                    have HB8 : Hid (Below w.heap.size w w8) := HB7.out.trans (hb8.mono HB7.out.size)
                    have y0 : w8.cell? ⟨w.heap.size, 0, none⟩ = some (.int .i64 p) := by rw [cell_of_row HX8.out]; rfl
                    have y1 : w8.cell? ⟨w.heap.size, 1, none⟩ = some (.int .i64 kind) := by rw [cell_of_row HX8.out]; rfl
                    have y2 : w8.cell? ⟨w.heap.size, 2, none⟩ = some (.int .i64 tat) := by rw [cell_of_row HX8.out]; rfl
                    have y3 : w8.cell? ⟨w.heap.size, 3, none⟩ = some (.string ⟨name.toArray⟩) := by rw [cell_of_row HX8.out]; rfl
                    have y4 : w8.cell? ⟨w.heap.size, 4, none⟩ = some (.string ⟨text.toArray⟩) := by rw [cell_of_row HX8.out]; rfl
                    have y5 : w8.cell? ⟨w.heap.size, 5, none⟩ = some (.slice A l.length c) := by rw [cell_of_row HX8.out]; rfl
                    have y6 : w8.cell? ⟨w.heap.size, 6, none⟩ = some (.int .i64 0) := by rw [cell_of_row HX8.out]; rfl
                    have y7 : w8.cell? ⟨w.heap.size, 7, none⟩ = some (.int .i64 0) := by rw [cell_of_row HX8.out]; rfl
                    have f0 : w8.frozen? ⟨w.heap.size, 0, none⟩ = false := frozen_of_row w8 w.heap.size 0 _ _ HX8.out
                    have f5 : w8.frozen? ⟨w.heap.size, 5, none⟩ = false := frozen_of_row w8 w.heap.size 5 _ _ HX8.out
                    have HA8 := Lib.hid hA8
                    have HB78 := Lib.hid hb8
                    have HTF : Hid (((w8.setCell ⟨w.heap.size, 5, none⟩ (.slice A8 M.length c8)).setCell ⟨w.heap.size, 0, none⟩ (.int .i64 ((q : Int) + 1))).heap[w.heap.size + 1]? = some (.cells zeroSt 94 (0, 0))) := by
                      have hlt : w.heap.size + 1 < w8.heap.size := (Array.getElem?_eq_some_iff.1 HT8.out).1
                      have g := Lib.grownBy_setB (Lib.grownBy_setCell w8 w.heap.size 5 (.slice A8 M.length c8)) 0 (.int .i64 ((q : Int) + 1))
                      exact (g.block (w.heap.size + 1) hlt (fun e => by injection e with e; omega)).trans HT8.out
                    clear hA8 hb8 z5
                    go_wp2_with (refine wpList_store_row rfl 94 (.tmp 4) (.tmp 115) rfl (w.heap.size + 1) (stC ((q : Int) + 1) kind tat name text A8 M.length c8 0 0) rfl rfl 94 zeroSt HTF.out (by kernel_rfl) rfl (stC_one _ _ _ _ _ _ _ _ _ _) ?_)
                    try simp only [Exit.inBlock, Exit.then]
                    refine bodyPost_ret (results_cell_row Try.results92 _ _ (w.heap.size + 1) 94 (stC ((q : Int) + 1) kind tat name text A8 M.length c8 0 0) (0, 0) _ rfl (setRow_heap _ _ _ _ _ _ HTF.out) Try.underlying94 rfl (by kernel_rfl)) rfl ?_
                    rw [HV.out]
                    refine ⟨below_stored ((HB8.out.setCell (Nat.le_refl _) _).setCell (Nat.le_refl _) _) (Nat.le_succ _) _, A8, c8, ?_, ?_⟩
                    · show _ = Ending.returned (.agg (stC ((p + (n.length + 2 + t.length + 1) : Nat) : Int) kind tat name text A8 (insA ⟨n, u⟩ l).length c8 0 0))
                      rw [show p + (n.length + 2 + t.length + 1) = q + 1 by have := HPD.out; have := hq.out; omega, hM.out]
                      rfl
                    · show AttrsOwn _ _ A8 c8 (insA ⟨n, u⟩ l)
                      rw [hM.out]
                      have hz : w.heap.size + 1 < w7.heap.size := (Array.getElem?_eq_some_iff.1 HT7.out).1
                      have h1 : AttrsOwn ((w8.setCell ⟨w.heap.size, 5, none⟩ (.slice A8 M.length c8)).setCell ⟨w.heap.size, 0, none⟩ (.int .i64 ((q : Int) + 1))) w7.heap.size A8 c8 M :=
                        World.ownsRow.kept HA8.out (Lib.grownBy_setB (Lib.grownBy_setCell w8 w.heap.size 5 _) 0 _) (by
                          cases hvv : (Value.slice A8 M.length c8).ownBlock with
                          | none => exact .inl rfl
                          | some g =>
                            refine .inr fun e => ?_
                            injection e with e
                            have := (own_type HA8.out g hvv).1
                            omega)
                      exact row_base (row_setRow h1 (by omega) _) (by omega)
                · have he1 : (er != 0) = true := by simpa using he
                  have HV : Hid (V = .bad (n.length + 2 + mm) er) := by show _ = _; rw [hVU.out, if_pos he]
                  clear he
                  go_wp2_with fail
                  refine (rfails_any _ _ w7).mono ?_
                  rintro e9 w9 ⟨rfl, hb9⟩
                  have HT9 := Lib.hid (blk_below hb9 HT7.out)
                  go_wp2_with (refine wpList_store_row rfl 94 (.tmp 4) (.tmp 96) rfl (w.heap.size + 1) (stC 0 0 0 [] [] none 0 0 ((k : Int) + 2 + mm) er) rfl rfl 94 zeroSt HT9.out (by kernel_rfl) rfl (stC_one _ _ _ _ _ _ _ _ _ _) ?_)
                  try simp only [Exit.inBlock, Exit.then]
                  refine bodyPost_ret (results_cell_row Try.results92 _ _ (w.heap.size + 1) 94 (stC 0 0 0 [] [] none 0 0 ((k : Int) + 2 + mm) er) (0, 0) _ rfl (setRow_heap _ _ _ _ _ _ HT9.out) Try.underlying94 rfl (by kernel_rfl)) rfl ?_
                  rw [HV.out]
                  refine ⟨below_stored ((HB7.out).trans (hb9.mono (HB7.out).size)) (Nat.le_succ _) _, ?_⟩
                  show _ = Ending.returned (.agg (stC 0 0 0 [] [] none 0 0 ((p + (n.length + 2 + mm) : Nat) : Int) er))
                  rw [show p + (n.length + 2 + mm) = k + 2 + mm by have := HPD.out; omega]
                  rfl
end Go.Proofs.Ythifddkmbjnncaa

/-
  The document's reader of tokens: the walk of begin.
-/
namespace Go.Proofs.Ythifddkmbjnncaa
open Go.RowKit

theorem attrL_sort (l : List UInt8) (bs : List AttrD) : attrL l (sortA bs) = attrL l bs := by
  have h1 : (sortA bs).length = bs.length := (sortA_perm bs).length_eq
  have h2 : ∀ n, (sortA bs).any (fun a => decide (a.name = n)) = bs.any (fun a => decide (a.name = n)) := fun n => by
    rw [Bool.eq_iff_iff, List.any_eq_true, List.any_eq_true]
    constructor
    · rintro ⟨a, ha, hp⟩; exact ⟨a, (sortA_perm bs).mem_iff.1 ha, hp⟩
    · rintro ⟨a, ha, hp⟩; exact ⟨a, (sortA_perm bs).mem_iff.2 ha, hp⟩
  unfold attrL
  simp only [h1, h2]
theorem sortA_len' (l : List AttrD) : (sortA l).length = l.length := (sortA_perm l).length_eq

theorem blk_old {w w' : World} {B g : Nat} {o : Obj} (h : Below B w w') (hg : g < B) (ho : w.heap[g]? = some o) : w'.heap[g]? = some o := by rw [h.block g hg]; exact ho

/-- a state in a block -/
def StAt (w : World) (g : Nat) (cs : Array Value) : Prop := w.heap[g]? = some (.cells cs 94 (0, 0))
theorem StAt.cells {w : World} {g : Nat} {at_ kind tat : Int} {name text : List UInt8} {A : Option Addr} {n c : Nat} {bad e : Int} (h : StAt w g (stC at_ kind tat name text A n c bad e)) :
    w.cell? ⟨g, 0, none⟩ = some (.int .i64 at_) ∧ w.cell? ⟨g, 1, none⟩ = some (.int .i64 kind) ∧ w.cell? ⟨g, 2, none⟩ = some (.int .i64 tat) ∧ w.cell? ⟨g, 3, none⟩ = some (.string ⟨name.toArray⟩) ∧ w.cell? ⟨g, 4, none⟩ = some (.string ⟨text.toArray⟩) ∧ w.cell? ⟨g, 5, none⟩ = some (.slice A n c) ∧ w.cell? ⟨g, 6, none⟩ = some (.int .i64 bad) ∧ w.cell? ⟨g, 7, none⟩ = some (.int .i64 e) ∧ (∀ j, w.frozen? ⟨g, j, none⟩ = false) := by
  refine ⟨?_, ?_, ?_, ?_, ?_, ?_, ?_, ?_, fun j => frozen_of_row w g j _ _ h⟩ <;> (rw [cell_of_row h]; rfl)
theorem StAt.set {w : World} {g : Nat} {cs cs' : Array Value} (h : StAt w g cs) : StAt (w.setRow g cs') g cs' := setRow_heap _ _ _ _ _ _ h






set_option maxRecDepth 100000 in
set_option maxHeartbeats 8000000 in
theorem rbegin_any (s : ByteArray) (p : Nat) (w : World) (hp : p + 1 ≤ s.size) (hs : s.size ≤ 1000000000) (V : Told TokD) (hV : Hid (beginT (s.data.toList.drop (p + 1)) = V)) :
    Calls Try.prog 64 #[.string s, .int .i64 p] w (StPost w (p + 1) p V) := by
  have HL := Lib.hid (size_toList s)
  obtain ⟨n, hn⟩ : ∃ n, Hid (wordL (s.data.toList.drop (p + 1)) = n) := ⟨_, rfl⟩
  obtain ⟨v, hv⟩ : ∃ v, Hid (nameL n = v) := ⟨_, rfl⟩
  obtain ⟨k, hk⟩ : ∃ k, Hid (p + 1 + n.length = k) := ⟨_, rfl⟩
  have hkl : k ≤ s.size := by
    have := wordL_len (s.data.toList.drop (p + 1))
    rw [hn.out, List.length_drop, HL.out] at this
    have := hk.out
    omega
  have hword : Hid (p + 1 + (wordL (s.data.toList.drop (p + 1))).length = k) := by show _ = _; rw [hn.out]; exact hk.out
  have hx : (s.extract (p + 1) k).data.toList = n := by
    rw [Lib.extract_data]
    have h2 := span_word (s.data.toList.drop (p + 1)) nb
    have e : (s.data.toList.drop (p + 1)).takeWhile nb = n := hn.out
    rw [e] at h2
    rw [show k - (p + 1) = n.length by have := hk.out; omega]
    conv => lhs; rw [h2]
    rw [List.take_append_of_le_length (Nat.le_refl _), List.take_length]
  have hxe : Hid (s.extract (p + 1) k = ⟨n.toArray⟩) := by
    show _ = _
    rw [← hx]
  have hnl : n.length ≤ 1000000000 := by have := hk.out; omega
  have i0 : (0 : Int) ≤ (p : Int) := by omega
  have i1 : (p : Int) + 1 ≤ k := by have := hk.out; omega
  have i2 : (k : Int) ≤ s.size := by omega
  have i3 : (p : Int) + 1 ≤ s.size := by omega
  clear hx
  go_enter Try.func64, Try.ntmps64
  go_wp2_with fail
  obtain ⟨W1, hW1⟩ : ∃ W1, Hid (W1 = w.alloc (.cells zeroSt 94)) := ⟨_, rfl⟩
  change Calls _ _ _ (w.alloc (.cells zeroSt 94)) _
  rw [← hW1.out]
  have hb1 : Below w.heap.size w W1 := by rw [hW1.out]; exact (Below.refl _ w).alloc (Nat.le_refl _) _
  have HT1 : Hid (W1.heap[w.heap.size]? = some (.cells zeroSt 94 (0, 0))) := by show _ = _; rw [hW1.out]; exact heap_alloc_new w _
  refine (rword_any s (p + 1) W1 hp hs k hword).mono ?_
  rintro e w2 ⟨rfl, hb2⟩
  go_wp2_with fail
  rw [hxe.out]
  refine (RName_l n w2 hnl v hv).mono ?_
  rintro e w3 ⟨rfl, hb3⟩
  have HT3 := Lib.hid (blk_below hb3 (blk_below hb2 HT1.out))
  have HB3 : Hid (Below w.heap.size w w3) := hb1.trans ((hb2.trans (hb3.mono hb2.size)).mono hb1.size)
  clear hb1 hb2 hb3
  cases v with
  | false =>
    have HV : Hid (V = .bad 0 31) := by
      show _ = _
      rw [← hV.out]
      unfold beginT
      simp only [hn.out, hv.out]
      rw [if_pos trivial]
    go_wp2_with fail
    refine (rfails_any _ 31 w3).mono ?_
    rintro e w4 ⟨rfl, hb4⟩
    have HT4 := Lib.hid (blk_below hb4 HT3.out)
    go_wp2_with (refine wpList_store_row rfl 94 (.tmp 4) (.tmp 21) rfl w.heap.size (stC 0 0 0 [] [] none 0 0 ((p : Int) + 1) 31) rfl rfl 94 zeroSt HT4.out (by kernel_rfl) rfl (stC_one _ _ _ _ _ _ _ _ _ _) ?_)
    try simp only [Exit.inBlock, Exit.then]
    refine bodyPost_ret (results_cell_row Try.results64 _ _ w.heap.size 94 (stC 0 0 0 [] [] none 0 0 ((p : Int) + 1) 31) (0, 0) _ rfl (setRow_heap _ _ _ _ _ _ HT4.out) Try.underlying94 rfl (by kernel_rfl)) rfl ?_
    rw [HV.out]
    exact ⟨below_stored (HB3.out.trans (hb4.mono HB3.out.size)) (Nat.le_refl _) _, rfl⟩
  | true =>
    have hVE : Hid (V = match attrsL (s.data.toList.drop k) [] with | .bad k e => .bad (n.length + k) e | .ok q k => .ok ⟨q.1, n, [], sortA q.2⟩ (n.length + k)) := by
      show _ = _
      rw [← hV.out]
      unfold beginT
      simp only [hn.out, hv.out]
      rw [if_neg (by decide), List.drop_drop, hk.out]
      unfold attrsL
      rw [attrsF_more ((s.data.toList.drop (p + 1)).length + 1) (s.data.toList.drop k) [] ((s.data.toList.drop k).length + 1) (by simp only [List.length_drop]; have := hk.out; omega) (by omega)]
      cases attrsF ((s.data.toList.drop k).length + 1) (s.data.toList.drop k) [] <;> rfl
    obtain ⟨R, hR0⟩ : ∃ R, Hid (attrsL (s.data.toList.drop k) [] = R) := ⟨_, rfl⟩
    rw [hR0.out] at hVE
    have hxe' := hxe.out
    go_wp2_with fail
    obtain ⟨W4, hW4⟩ : ∃ W4, Hid (W4 = w3.alloc (.cells (stC k 0 p n [] none 0 0 0 0) 94)) := ⟨_, rfl⟩
    change Code.wp _ _ _ _ (w3.alloc (.cells (stC k 0 p n [] none 0 0 0 0) 94))
    rw [← hW4.out]
    have HX4 : Hid (StAt W4 w3.heap.size (stC k 0 p n [] none 0 0 0 0)) := by show StAt _ _ _; rw [hW4.out]; exact heap_alloc_new w3 _
    have HBW4 : Hid (Below w3.heap.size w3 W4) := by show Below _ _ _; rw [hW4.out]; exact (Below.refl _ w3).alloc (Nat.le_refl _) _
    obtain ⟨g6, hg6⟩ : ∃ g6, Hid (g6 = w3.heap.size) := ⟨_, rfl⟩
    rw [← hg6.out] at HX4 HBW4 ⊢
    have hwg : w.heap.size < g6 := by rw [hg6.out]; exact (Array.getElem?_eq_some_iff.1 HT3.out).1
    have HT4 := Lib.hid (blk_old HBW4.out hwg HT3.out)
    have HB4 : Hid (Below w.heap.size w W4) := HB3.out.trans (HBW4.out.mono (Nat.le_of_lt hwg))
    clear hxe'
    go_loopg [] (s.size - k) (fun gg wr => ∃ (pos : Nat) (bs : List AttrD) (A : Option Addr) (c : Nat), k ≤ pos ∧ pos ≤ s.size ∧ gg = s.size - pos ∧ Hid (StAt wr g6 (stC pos 0 p n [] A (sortA bs).length c 0 0)) ∧ Hid (AttrsOwn wr (g6 + 1) A c (sortA bs)) ∧ Hid (AttrsFine bs) ∧ Hid (Below g6 W4 wr) ∧ Hid ((attrsL (s.data.toList.drop pos) bs).past (pos - k) = R))
    case atStart => exact ⟨k, [], none, 0, Nat.le_refl _, hkl, rfl, HX4.out, World.ownsRow_nil _ _ _ _, attrsFine_nil, Below.refl _ _, by show _ = _; rw [hR0.out, Nat.sub_self, Told.past_zero]⟩
    case round =>
      obtain ⟨pos, bs, A, c, hkp, hps, rfl, HX, HA, hfine, hbel, hin⟩ := hrel
      obtain ⟨b, hb⟩ : ∃ b, Hid (skipL (s.data.toList.drop pos) = b) := ⟨_, rfl⟩
      obtain ⟨j, hj⟩ : ∃ j, Hid (pos + b = j) := ⟨_, rfl⟩
      have hjl : j ≤ s.size := by
        have := skipL_len (s.data.toList.drop pos)
        rw [hb.out, List.length_drop, HL.out] at this
        have := hj.out
        omega
      have hskip : Hid (pos + skipL (s.data.toList.drop pos) = j) := by show _ = _; rw [hb.out]; exact hj.out
      obtain ⟨m1, hm1⟩ : ∃ m1, Hid (pre [62] (s.data.toList.drop j) = m1) := ⟨_, rfl⟩
      obtain ⟨m2, hm2⟩ : ∃ m2, Hid (pre [47, 62] (s.data.toList.drop j) = m2) := ⟨_, rfl⟩
      have hdj : Hid ((s.data.toList.drop pos).drop b = s.data.toList.drop j) := by show _ = _; rw [List.drop_drop, hj.out]
      obtain ⟨z0, z1, z2, z3, z4, z5, z6, z7, zf⟩ := HX.out.cells
      have HTr : Hid (wr.heap[w.heap.size]? = some (.cells zeroSt 94 (0, 0))) := blk_old hbel.out hwg HT4.out
      have j0 : (j : Int) ≤ s.size := by omega
      go_wp2_with fail
      refine (rskip_any s pos wr hps hs j hskip).mono ?_
      rintro e w5 ⟨rfl, hb5⟩
      have HX5 : Hid (StAt w5 g6 (stC pos 0 p n [] A (sortA bs).length c 0 0)) := blk_below hb5 HX.out
      have HT5 := Lib.hid (blk_below hb5 HTr.out)
      have HA5 := Lib.hid (own_below HA.out hb5)
      have HB5 : Hid (Below g6 W4 w5) := hbel.out.trans (hb5.mono (Nat.le_of_lt (Array.getElem?_eq_some_iff.1 HX.out).1))
      clear hb5 z0 z1 z2 z3 z4 z5 z6 z7 zf
      go_wp2_with fail
      refine (there_any s j [62] w5 hjl hs (by decide) m1 hm1).mono ?_
      rintro e w6 ⟨rfl, hb6⟩
      have HX6 : Hid (StAt w6 g6 (stC pos 0 p n [] A (sortA bs).length c 0 0)) := blk_below hb6 HX5.out
      have HT6 := Lib.hid (blk_below hb6 HT5.out)
      have HA6 := Lib.hid (own_below HA5.out hb6)
      have HB6 : Hid (Below g6 W4 w6) := HB5.out.trans (hb6.mono (Nat.le_of_lt (Array.getElem?_eq_some_iff.1 HX5.out).1))
      clear hb6
      cases m1 with
      | true =>
        have HV : Hid (V = .ok ⟨1, n, [], sortA bs⟩ (n.length + (pos - k + (b + 1)))) := by
          show _ = _
          rw [hVE.out, ← hin.out, attrsL_one _ _ b hb.out.symm (by rw [hdj.out]; exact hm1.out)]
          rfl
        obtain ⟨z0, z1, z2, z3, z4, z5, z6, z7, zf⟩ := HX6.out.cells
        have f0 := zf 0
        have f1 := zf 1
        have HTF : Hid (((w6.setCell ⟨g6, 1, none⟩ (.int .i64 1)).setCell ⟨g6, 0, none⟩ (.int .i64 ((j : Int) + 1))).heap[w.heap.size]? = some (.cells zeroSt 94 (0, 0))) := by
          have g := Lib.grownBy_setB (Lib.grownBy_setCell w6 g6 1 (.int .i64 1)) 0 (.int .i64 ((j : Int) + 1))
          exact (g.block w.heap.size (Array.getElem?_eq_some_iff.1 HT6.out).1 (fun e => by injection e with e; omega)).trans HT6.out
        go_wp2_with (refine wpList_store_row rfl 94 (.tmp 4) (.tmp 43) rfl w.heap.size (stC ((j : Int) + 1) 1 p n [] A (sortA bs).length c 0 0) rfl rfl 94 zeroSt HTF.out (by kernel_rfl) rfl (stC_one _ _ _ _ _ _ _ _ _ _) ?_)
        try simp only [Exit.inBlock, Exit.then]
        refine bodyPost_ret (results_cell_row Try.results64 _ _ w.heap.size 94 (stC ((j : Int) + 1) 1 p n [] A (sortA bs).length c 0 0) (0, 0) _ rfl (setRow_heap _ _ _ _ _ _ HTF.out) Try.underlying94 rfl (by kernel_rfl)) rfl ?_
        rw [HV.out]
        refine ⟨below_stored (((HB4.out.trans (HB6.out.mono (Nat.le_of_lt hwg))).setCell (Nat.le_of_lt hwg) _).setCell (Nat.le_of_lt hwg) _) (Nat.le_refl _) _, A, c, ?_, ?_⟩
        · rw [show p + 1 + (n.length + (pos - k + (b + 1))) = j + 1 by have := hj.out; have := hk.out; omega]
          rfl
        · have h1 : AttrsOwn ((w6.setCell ⟨g6, 1, none⟩ (.int .i64 1)).setCell ⟨g6, 0, none⟩ (.int .i64 ((j : Int) + 1))) (g6 + 1) A c (sortA bs) :=
            World.ownsRow.kept HA6.out (Lib.grownBy_setB (Lib.grownBy_setCell w6 g6 1 _) 0 _) (by
              cases hvv : (Value.slice A (sortA bs).length c).ownBlock with
              | none => exact .inl rfl
              | some g =>
                refine .inr fun e => ?_
                injection e with e
                have := (own_type HA6.out g hvv).1
                omega)
          exact row_base (row_setRow h1 (by omega) _) (by omega)
      | false =>
        go_wp2_with fail
        refine (there_any s j [47, 62] w6 hjl hs (by decide) m2 hm2).mono ?_
        rintro e w7 ⟨rfl, hb7⟩
        have HX7 : Hid (StAt w7 g6 (stC pos 0 p n [] A (sortA bs).length c 0 0)) := blk_below hb7 HX6.out
        have HT7 := Lib.hid (blk_below hb7 HT6.out)
        have HA7 := Lib.hid (own_below HA6.out hb7)
        have HB7 : Hid (Below g6 W4 w7) := HB6.out.trans (hb7.mono (Nat.le_of_lt (Array.getElem?_eq_some_iff.1 HX6.out).1))
        clear hb7
        cases m2 with
        | true =>
          have HV : Hid (V = .ok ⟨3, n, [], sortA bs⟩ (n.length + (pos - k + (b + 2)))) := by
            show _ = _
            rw [hVE.out, ← hin.out, attrsL_two _ _ b hb.out.symm (by rw [hdj.out]; exact hm1.out) (by rw [hdj.out]; exact hm2.out)]
            rfl
          obtain ⟨z0, z1, z2, z3, z4, z5, z6, z7, zf⟩ := HX7.out.cells
          have f0 := zf 0
          have f1 := zf 1
          have HTF : Hid (((w7.setCell ⟨g6, 1, none⟩ (.int .i64 3)).setCell ⟨g6, 0, none⟩ (.int .i64 ((j : Int) + 2))).heap[w.heap.size]? = some (.cells zeroSt 94 (0, 0))) := by
            have g := Lib.grownBy_setB (Lib.grownBy_setCell w7 g6 1 (.int .i64 3)) 0 (.int .i64 ((j : Int) + 2))
            exact (g.block w.heap.size (Array.getElem?_eq_some_iff.1 HT7.out).1 (fun e => by injection e with e; omega)).trans HT7.out
          go_wp2_with (refine wpList_store_row rfl 94 (.tmp 4) (.tmp 52) rfl w.heap.size (stC ((j : Int) + 2) 3 p n [] A (sortA bs).length c 0 0) rfl rfl 94 zeroSt HTF.out (by kernel_rfl) rfl (stC_one _ _ _ _ _ _ _ _ _ _) ?_)
          try simp only [Exit.inBlock, Exit.then]
          refine bodyPost_ret (results_cell_row Try.results64 _ _ w.heap.size 94 (stC ((j : Int) + 2) 3 p n [] A (sortA bs).length c 0 0) (0, 0) _ rfl (setRow_heap _ _ _ _ _ _ HTF.out) Try.underlying94 rfl (by kernel_rfl)) rfl ?_
          rw [HV.out]
          refine ⟨below_stored (((HB4.out.trans (HB7.out.mono (Nat.le_of_lt hwg))).setCell (Nat.le_of_lt hwg) _).setCell (Nat.le_of_lt hwg) _) (Nat.le_refl _) _, A, c, ?_, ?_⟩
          · rw [show p + 1 + (n.length + (pos - k + (b + 2))) = j + 2 by have := hj.out; have := hk.out; omega]
            rfl
          · have h1 : AttrsOwn ((w7.setCell ⟨g6, 1, none⟩ (.int .i64 3)).setCell ⟨g6, 0, none⟩ (.int .i64 ((j : Int) + 2))) (g6 + 1) A c (sortA bs) :=
              World.ownsRow.kept HA7.out (Lib.grownBy_setB (Lib.grownBy_setCell w7 g6 1 _) 0 _) (by
                cases hvv : (Value.slice A (sortA bs).length c).ownBlock with
                | none => exact .inl rfl
                | some g =>
                  refine .inr fun e => ?_
                  injection e with e
                  have := (own_type HA7.out g hvv).1
                  omega)
            exact row_base (row_setRow h1 (by omega) _) (by omega)
        | false =>
          obtain ⟨z0, z1, z2, z3, z4, z5, z6, z7, zf⟩ := HX7.out.cells
          have f0 := zf 0
          have hd1 : Hid (pre [62] ((s.data.toList.drop pos).drop b) = false) := by show _ = _; rw [hdj.out]; exact hm1.out
          have hd2 : Hid (pre [47, 62] ((s.data.toList.drop pos).drop b) = false) := by show _ = _; rw [hdj.out]; exact hm2.out
          by_cases hb0 : b = 0
          · have t0 : ((j : Int) == (pos : Int)) = true := by have := hj.out; simp; omega
            have HV : Hid (V = .bad (n.length + (pos - k + b)) 30) := by
              show _ = _
              rw [hVE.out, ← hin.out, attrsL_form _ _ b hb.out.symm hd1.out hd2.out (.inl hb0)]
              rfl
            clear hb0
            go_wp2_with fail
            refine (rfails_any _ 30 w7).mono ?_
            rintro e w9 ⟨rfl, hb9⟩
            have HT9 := Lib.hid (blk_below hb9 HT7.out)
            go_wp2_with (refine wpList_store_row rfl 94 (.tmp 4) (.tmp 64) rfl w.heap.size (stC 0 0 0 [] [] none 0 0 (j : Int) 30) rfl rfl 94 zeroSt HT9.out (by kernel_rfl) rfl (stC_one _ _ _ _ _ _ _ _ _ _) ?_)
            try simp only [Exit.inBlock, Exit.then]
            refine bodyPost_ret (results_cell_row Try.results64 _ _ w.heap.size 94 (stC 0 0 0 [] [] none 0 0 (j : Int) 30) (0, 0) _ rfl (setRow_heap _ _ _ _ _ _ HT9.out) Try.underlying94 rfl (by kernel_rfl)) rfl ?_
            rw [HV.out]
            refine ⟨below_stored ((HB4.out.trans (HB7.out.mono (Nat.le_of_lt hwg))).trans (hb9.mono (HB4.out.trans (HB7.out.mono (Nat.le_of_lt hwg))).size)) (Nat.le_refl _) _, ?_⟩
            show _ = Ending.returned (.agg (stC 0 0 0 [] [] none 0 0 ((p + 1 + (n.length + (pos - k + b)) : Nat) : Int) 30))
            rw [show p + 1 + (n.length + (pos - k + b)) = j by have := hj.out; have := hk.out; omega]
          · have t0 : ((j : Int) == (pos : Int)) = false := beq_eq_false_iff_ne.2 (by have := hj.out; omega)
            by_cases hend : j = s.size
            · have hxe2 : (s.size : Int) ≤ (j : Int) := by omega
              have HV : Hid (V = .bad (n.length + (pos - k + b)) 30) := by
                show _ = _
                rw [hVE.out, ← hin.out, attrsL_form _ _ b hb.out.symm hd1.out hd2.out (.inr (by rw [hdj.out]; exact List.drop_eq_nil_of_le (by rw [HL.out]; omega)))]
                rfl
              clear hb0 hend
              go_wp2_with fail
              refine (rfails_any _ 30 w7).mono ?_
              rintro e w9 ⟨rfl, hb9⟩
              have HT9 := Lib.hid (blk_below hb9 HT7.out)
              go_wp2_with (refine wpList_store_row rfl 94 (.tmp 4) (.tmp 64) rfl w.heap.size (stC 0 0 0 [] [] none 0 0 (j : Int) 30) rfl rfl 94 zeroSt HT9.out (by kernel_rfl) rfl (stC_one _ _ _ _ _ _ _ _ _ _) ?_)
              try simp only [Exit.inBlock, Exit.then]
              refine bodyPost_ret (results_cell_row Try.results64 _ _ w.heap.size 94 (stC 0 0 0 [] [] none 0 0 (j : Int) 30) (0, 0) _ rfl (setRow_heap _ _ _ _ _ _ HT9.out) Try.underlying94 rfl (by kernel_rfl)) rfl ?_
              rw [HV.out]
              refine ⟨below_stored ((HB4.out.trans (HB7.out.mono (Nat.le_of_lt hwg))).trans (hb9.mono (HB4.out.trans (HB7.out.mono (Nat.le_of_lt hwg))).size)) (Nat.le_refl _) _, ?_⟩
              show _ = Ending.returned (.agg (stC 0 0 0 [] [] none 0 0 ((p + 1 + (n.length + (pos - k + b)) : Nat) : Int) 30))
              rw [show p + 1 + (n.length + (pos - k + b)) = j by have := hj.out; have := hk.out; omega]
            · have hxe2 : (j : Int) < (s.size : Int) := by omega
              have hb0' := Lib.hid hb0
              have hxn : Hid (s.data.toList.drop j ≠ []) := by
                show _ ≠ _
                intro e
                have := congrArg List.length e
                rw [List.length_drop, HL.out] at this
                simp at this; omega
              obtain ⟨V', hV'⟩ : ∃ V', Hid (attrL (s.data.toList.drop j) bs = V') := ⟨_, rfl⟩
              have hV2 : Hid (attrL (s.data.toList.drop j) (sortA bs) = V') := by show _ = _; rw [attrL_sort]; exact hV'.out
              obtain ⟨W8, hW8⟩ : ∃ W8, Hid (W8 = w7.setCell ⟨g6, 0, none⟩ (.int .i64 j)) := ⟨_, rfl⟩
              have HX8 : Hid (StAt W8 g6 (stC j 0 p n [] A (sortA bs).length c 0 0)) := by show StAt _ _ _; rw [hW8.out]; exact Lib.heap_setCell_same (i := 0) HX7.out _
              have hgr8 : w7.grownBy W8 (some g6) := by rw [hW8.out]; exact Lib.grownBy_setCell w7 g6 0 _
              have HT8 : Hid (W8.heap[w.heap.size]? = some (.cells zeroSt 94 (0, 0))) := (hgr8.block w.heap.size (Array.getElem?_eq_some_iff.1 HT7.out).1 (fun e => by injection e with e; omega)).trans HT7.out
              have HA8 : Hid (AttrsOwn W8 (g6 + 1) A c (sortA bs)) := World.ownsRow.kept HA7.out hgr8 (by
                cases hvv : (Value.slice A (sortA bs).length c).ownBlock with
                | none => exact .inl rfl
                | some g =>
                  refine .inr fun e => ?_
                  injection e with e
                  have := (own_type HA7.out g hvv).1
                  omega)
              have hg68 : g6 < W8.heap.size := (Array.getElem?_eq_some_iff.1 HX8.out).1
              have HB8 : Hid (Below g6 W4 W8) := by show Below _ _ _; rw [hW8.out]; exact HB7.out.setCell (Nat.le_refl _) _
              have hmany : (sortA bs).length ≤ 1000 := by rw [sortA_len']; have := hfine.out.many; omega
              clear hb0 hend hgr8
              go_wp2_with fail
              rw [← hW8.out]
              refine (rattr_any s j 0 p n [] A c (sortA bs) W8 hjl hs (AttrsOwn.at HA8.out) hmany V' hV2).mono ?_
              rintro e w9 ⟨hb9, hpost⟩
              have HX9 : Hid (StAt w9 g6 (stC j 0 p n [] A (sortA bs).length c 0 0)) := blk_below hb9 HX8.out
              have HT9 := Lib.hid (blk_below hb9 HT8.out)
              have HB9 : Hid (Below g6 W4 w9) := HB8.out.trans (hb9.mono (Nat.le_of_lt hg68))
              cases V' with
              | bad k' er =>
                obtain rfl := hpost
                have hwit := attrL_within (s.data.toList.drop j) bs
                rw [hV'.out] at hwit
                have her : (er != 0) = true := by simpa using hwit.2
                have HV : Hid (V = .bad (n.length + (pos - k + (b + k'))) er) := by
                  show _ = _
                  rw [hVE.out, ← hin.out, attrsL_bad _ _ b hb.out.symm hd1.out hd2.out hb0'.out (by rw [hdj.out]; exact hxn.out) k' er (by rw [hdj.out]; exact hV'.out)]
                  rfl
                have HXN : Hid (StAt (w9.setRow g6 (stC 0 0 0 [] [] none 0 0 ((j : Int) + k') er)) g6 (stC 0 0 0 [] [] none 0 0 ((j : Int) + k') er)) := StAt.set HX9.out
                obtain ⟨q0, q1, q2, q3, q4, q5, q6, q7, _⟩ := HXN.out.cells
                have HTN : Hid ((w9.setRow g6 (stC 0 0 0 [] [] none 0 0 ((j : Int) + k') er)).heap[w.heap.size]? = some (.cells zeroSt 94 (0, 0))) := (setRow_other _ _ _ _ (by omega)).trans HT9.out
                clear z0 z1 z2 z3 z4 z5 z6 z7 zf f0 hwit
                go_wp2_with (first | (refine wpList_store_row rfl 94 (.tmp 6) (.tmp 69) rfl g6 (stC 0 0 0 [] [] none 0 0 ((j : Int) + k') er) rfl rfl 94 (stC j 0 p n [] A (sortA bs).length c 0 0) HX9.out (by kernel_rfl) rfl (stC_one _ _ _ _ _ _ _ _ _ _) ?_) | (refine wpList_store_row rfl 94 (.tmp 4) (.tmp 73) rfl w.heap.size (stC 0 0 0 [] [] none 0 0 ((j : Int) + k') er) rfl rfl 94 zeroSt HTN.out (by kernel_rfl) rfl (stC_one _ _ _ _ _ _ _ _ _ _) ?_))
                try simp only [Exit.inBlock, Exit.then]
                refine bodyPost_ret (results_cell_row Try.results64 _ _ w.heap.size 94 (stC 0 0 0 [] [] none 0 0 ((j : Int) + k') er) (0, 0) _ rfl (setRow_heap _ _ _ _ _ _ HTN.out) Try.underlying94 rfl (by kernel_rfl)) rfl ?_
                rw [HV.out]
                refine ⟨below_stored (below_stored (HB4.out.trans (HB9.out.mono (Nat.le_of_lt hwg))) (Nat.le_of_lt hwg) _) (Nat.le_refl _) _, ?_⟩
                show _ = Ending.returned (.agg (stC 0 0 0 [] [] none 0 0 ((p + 1 + (n.length + (pos - k + (b + k'))) : Nat) : Int) er))
                rw [show p + 1 + (n.length + (pos - k + (b + k'))) = j + k' by have := hj.out; have := hk.out; omega]
                rfl
              | ok a m =>
                obtain ⟨A', c', rfl, hA9⟩ := hpost
                have hwit := attrL_within (s.data.toList.drop j) bs
                rw [hV'.out, List.length_drop, HL.out] at hwit
                obtain ⟨hm3, hmx⟩ := hwit
                have HIN : Hid ((attrsL (s.data.toList.drop (j + m)) (bs ++ [a])).past (j + m - k) = R) := by
                  show _ = _
                  rw [← hin.out, attrsL_step _ _ b hb.out.symm hd1.out hd2.out hb0'.out (by rw [hdj.out]; exact hxn.out) a m (by rw [hdj.out]; exact hV'.out), Told.past_past, List.drop_drop, show pos + (b + m) = j + m by have := hj.out; omega, show pos - k + (b + m) = j + m - k by have := hj.out; omega]
                have hsn := sortA_snoc bs a
                rw [← hsn] at hA9 ⊢
                have HXN : Hid (StAt (w9.setRow g6 (stC ((j : Int) + m) 0 p n [] A' (sortA (bs ++ [a])).length c' 0 0)) g6 (stC ((j : Int) + m) 0 p n [] A' (sortA (bs ++ [a])).length c' 0 0)) := StAt.set HX9.out
                obtain ⟨q0, q1, q2, q3, q4, q5, q6, q7, _⟩ := HXN.out.cells
                have HA9 := Lib.hid hA9
                clear z0 z1 z2 z3 z4 z5 z6 z7 zf f0 hA9 hsn
                go_wp2_with (refine wpList_store_row rfl 94 (.tmp 6) (.tmp 69) rfl g6 (stC ((j : Int) + m) 0 p n [] A' (sortA (bs ++ [a])).length c' 0 0) rfl rfl 94 (stC j 0 p n [] A (sortA bs).length c 0 0) HX9.out (by kernel_rfl) rfl (stC_one _ _ _ _ _ _ _ _ _ _) ?_)
                go_roundg (s.size - (j + m))
                case measure => have := hj.out; omega
                case rel => exact ⟨j + m, bs ++ [a], A', c', by have := hj.out; omega, by omega, rfl, (show StAt _ g6 (stC ((j + m : Nat) : Int) 0 p n [] A' (sortA (bs ++ [a])).length c' 0 0) from by rw [show ((j + m : Nat) : Int) = (j : Int) + m by omega]; exact HXN.out), row_base (row_setRow HA9.out (by omega) _) (by omega), attrsFine_snoc hfine.out hV'.out, below_stored HB9.out (Nat.le_refl _) _, HIN.out⟩
end Go.Proofs.Ythifddkmbjnncaa

/-
  The reader of tokens: the walk of attr.
-/
namespace Go.Proofs.Ythifddkmbjnncaa
open Go.RowKit

/-- what attr leaves -/
def AttrPost (w : World) (B b : Nat) (r : Rdr) (l : List AttrD) (V : Told AttrD) (e : Ending) (w' : World) : Prop :=
  Below B w w' ∧ match V with
  | .ok a n => e = .returned (.bool true) ∧ ∃ A c, RdAt w' b { r with pos := r.pos + n, A := A, n := (l ++ [a]).length, c := c } ∧ AttrsOwn w' B A c (l ++ [a])
  | .bad k c => e = .returned (.bool false) ∧ ∃ R : Rdr, RdAt w' b R ∧ R.bad = ((r.pos + k : Nat) : Int) ∧ R.code = c

/-- the attributes stand where only the reader's block is written -/
theorem attrs_kept {w w' : World} {B b : Nat} {r : Rdr} (h : RdAt w b r) {A : Option Addr} {c : Nat} {l : List AttrD} (hA : AttrsOwn w B A c l) (hg : w.grownBy w' (some b)) : AttrsOwn w' B A c l := by
  refine World.ownsRow.kept hA hg ?_
  cases hv : (Value.slice A l.length c).ownBlock with
  | none => exact .inl rfl
  | some g =>
    refine .inr fun e => ?_
    injection e with e
    subst e
    obtain ⟨_, _, cur, hc⟩ := own_type hA g hv
    unfold RdAt at h
    rw [hc] at h
    injection h with h
    injection h with _ h
    exact absurd h (by decide)

set_option maxRecDepth 100000 in
set_option maxHeartbeats 1000000 in
theorem attr_early (b B : Nat) (r : Rdr) (w : World) (h : RdAt w b r) (hB : B ≤ b) (hBw : B ≤ w.heap.size) (hp : r.pos ≤ r.s.size) (hs : r.s.size ≤ 1000000000) (l : List AttrD) (hn : r.n = l.length) (hA : AttrsOwn w B r.A r.c l) (hl : l.length ≤ 1000)
    (n : List UInt8) (hw : Hid (wordL (r.s.data.toList.drop r.pos) = n)) (hb : nameL n = false ∨ 20 ≤ l.length ∨ l.any (fun a => decide (a.name = n)) = true) (V : Told AttrD) (hV : Hid (attrL (r.s.data.toList.drop r.pos) l = V)) :
    Calls Try.prog 73 #[.pointer (some ⟨b, 0, none⟩)] w (AttrPost w B b r l V) := by
  obtain ⟨_, h1, _⟩ := h.all
  cases hv : nameL n with
  | false =>
    have HV : Hid (V = .bad 0 31) := by
      show _ = _
      rw [← hV.out]; unfold attrL; simp only [hw.out, hv]; rw [if_pos trivial]
    go_enter Try.func73, Try.ntmps73
    go_wp2_with fail
    refine (word_any b r w h hp hs n hw false hv _ rfl [] rfl).mono ?_
    rintro e W1 ⟨rfl, hW1, hg1⟩
    go_wp2_with fail
    go_ret
    rw [HV.out]
    exact ⟨below_of_grown hg1 hB hBw, rfl, _, hW1, rfl, rfl⟩
  | true =>
    have HB := Lib.hid hb
    have hvv : Hid (nameL n = true) := hv
    have hn1 : r.pos + n.length ≤ r.s.size := by
      have := wordL_len (r.s.data.toList.drop r.pos)
      rw [hw.out, List.length_drop, size_toList] at this; omega
    clear hb hv
    by_cases h20 : 20 ≤ l.length
    · have HV : Hid (V = .bad 0 33) := by
        show _ = _
        rw [← hV.out]; unfold attrL; simp only [hw.out, hvv.out]; rw [if_neg (by decide), if_pos h20]
      have h20' : (20 : Int) ≤ l.length := by omega
      clear h20
      go_enter Try.func73, Try.ntmps73
      go_wp2_with fail
      refine (word_any b r w h hp hs n hw true hvv _ rfl n rfl).mono ?_
      rintro e W1 ⟨rfl, hW1, hg1⟩
      have hW1' : RdAt W1 b { r with pos := r.pos + n.length } := hW1
      have z6 : W1.cell? ⟨b, 6, none⟩ = some (.slice r.A l.length r.c) := by rw [← hn]; exact hW1'.all.2.2.2.2.2.2.1
      go_wp2_with fail
      refine (fail_any b _ W1 hW1' r.pos 33).mono ?_
      rintro e W2 ⟨rfl, hW2, hg2⟩
      go_wp2_with fail
      go_ret
      rw [HV.out]
      exact ⟨below_of_grown (grown_twice hg1 hg2) hB hBw, rfl, _, hW2, rfl, rfl⟩
    · have hany : Hid (l.any (fun a => decide (a.name = n)) = true) := by
        rcases HB.out with h | h | h
        · rw [hvv.out] at h; cases h
        · exact absurd h h20
        · exact h
      have HV : Hid (V = .bad 0 32) := by
        show _ = _
        rw [← hV.out]; unfold attrL; simp only [hw.out, hvv.out]; rw [if_neg (by decide), if_neg h20, if_pos hany.out]
      have h20' : (l.length : Int) < 20 := by omega
      clear h20
      go_enter Try.func73, Try.ntmps73
      go_wp2_with fail
      refine (word_any b r w h hp hs n hw true hvv _ rfl n rfl).mono ?_
      rintro e W1 ⟨rfl, hW1, hg1⟩
      have hW1' : RdAt W1 b { r with pos := r.pos + n.length } := hW1
      have z6 : W1.cell? ⟨b, 6, none⟩ = some (.slice r.A l.length r.c) := by rw [← hn]; exact hW1'.all.2.2.2.2.2.2.1
      have hA1 := Lib.hid (attrs_kept h hA hg1)
      go_wp2_with fail
      refine (hasA_any b B _ W1 hW1' l hn hA1.out hl n true hany).mono ?_
      rintro e W2 ⟨rfl, hb2⟩
      go_wp2_with fail
      refine (fail_any b _ W2 (hW1'.below hb2) r.pos 32).mono ?_
      rintro e W3 ⟨rfl, hW3, hg3⟩
      go_wp2_with fail
      go_ret
      rw [HV.out]
      exact ⟨below_of_grown (grown_twice (Lib.grownBy_below hg1 hb2) hg3) hB hBw, rfl, _, hW3, rfl, rfl⟩


set_option maxRecDepth 100000 in
set_option maxHeartbeats 1000000 in
theorem attr_form (b B : Nat) (r : Rdr) (w : World) (h : RdAt w b r) (hB : B ≤ b) (hBw : B ≤ w.heap.size) (hp : r.pos ≤ r.s.size) (hs : r.s.size ≤ 1000000000) (l : List AttrD) (hn : r.n = l.length) (hA : AttrsOwn w B r.A r.c l) (hl : l.length ≤ 1000)
    (n : List UInt8) (hw : Hid (wordL (r.s.data.toList.drop r.pos) = n)) (hvv : Hid (nameL n = true)) (h20 : l.length < 20) (hany : Hid (l.any (fun a => decide (a.name = n)) = false)) (m1 m2 : Bool) (hm1 : Hid (pre [61] (r.s.data.toList.drop (r.pos + n.length)) = m1)) (hm2 : Hid (pre [34] (r.s.data.toList.drop (r.pos + n.length + 1)) = m2)) (hb : (m1 && m2) = false) (V : Told AttrD) (hV : Hid (attrL (r.s.data.toList.drop r.pos) l = V)) :
    Calls Try.prog 73 #[.pointer (some ⟨b, 0, none⟩)] w (AttrPost w B b r l V) := by
  have hn1 : r.pos + n.length ≤ r.s.size := by
    have := wordL_len (r.s.data.toList.drop r.pos)
    rw [hw.out, List.length_drop, size_toList] at this; omega
  have hVE : Hid (V = if m1 = false then .bad n.length 30 else if m2 = false then .bad (n.length + 1) 30 else valueT n (r.s.data.toList.drop (r.pos + (n.length + 2)))) := by
    show _ = _
    rw [← hV.out]; unfold attrL; simp only [hw.out, hvv.out, hany.out, List.drop_drop]
    rw [if_neg (by decide), if_neg (by omega), if_neg (by decide), hm1.out, show r.pos + (n.length + 1) = r.pos + n.length + 1 by omega, hm2.out]
  cases m1 with
  | false =>
    have HV : Hid (V = .bad n.length 30) := by show _ = _; rw [hVE.out, if_pos rfl]
    clear hb hVE
    obtain ⟨_, h1, _⟩ := h.all
    have h20' : (l.length : Int) < 20 := by omega
    go_enter Try.func73, Try.ntmps73
    go_wp2_with fail
    refine (word_any b r w h hp hs n hw true hvv _ rfl n rfl).mono ?_
    rintro e W1 ⟨rfl, hW1, hg1⟩
    have hW1' : RdAt W1 b { r with pos := r.pos + n.length } := hW1
    have z6 : W1.cell? ⟨b, 6, none⟩ = some (.slice r.A l.length r.c) := by rw [← hn]; exact hW1'.all.2.2.2.2.2.2.1
    have hA1 := Lib.hid (attrs_kept h hA hg1)
    go_wp2_with fail
    refine (hasA_any b B _ W1 hW1' l hn hA1.out hl n false hany).mono ?_
    rintro e W2 ⟨rfl, hb2⟩
    have hW2 := hW1'.below hb2
    have hg2 : w.grownBy W2 (some b) := Lib.grownBy_below hg1 hb2
    clear z6 h1 hW1 hW1'
    go_wp2_with fail
    refine (must_any b _ W2 hW2 [61] hn1 hs false hm1 (by decide)).mono ?_
    rintro e W3 ⟨rfl, hW3, hg3⟩
    go_wp2_with fail
    go_ret
    rw [HV.out]
    exact ⟨below_of_grown (grown_twice hg2 hg3) hB hBw, rfl, _, hW3, rfl, rfl⟩
  | true =>
    have hm2' : m2 = false := by simpa using hb
    subst hm2'
    have HV : Hid (V = .bad (n.length + 1) 30) := by show _ = _; rw [hVE.out, if_neg (by decide), if_pos rfl]
    have hn2 := pre1_len hm1.out
    rw [size_toList] at hn2
    clear hb hVE
    obtain ⟨_, h1, _⟩ := h.all
    have h20' : (l.length : Int) < 20 := by omega
    go_enter Try.func73, Try.ntmps73
    go_wp2_with fail
    refine (word_any b r w h hp hs n hw true hvv _ rfl n rfl).mono ?_
    rintro e W1 ⟨rfl, hW1, hg1⟩
    have hW1' : RdAt W1 b { r with pos := r.pos + n.length } := hW1
    have z6 : W1.cell? ⟨b, 6, none⟩ = some (.slice r.A l.length r.c) := by rw [← hn]; exact hW1'.all.2.2.2.2.2.2.1
    have hA1 := Lib.hid (attrs_kept h hA hg1)
    go_wp2_with fail
    refine (hasA_any b B _ W1 hW1' l hn hA1.out hl n false hany).mono ?_
    rintro e W2 ⟨rfl, hb2⟩
    have hW2 := hW1'.below hb2
    have hg2 : w.grownBy W2 (some b) := Lib.grownBy_below hg1 hb2
    clear z6 h1 hW1 hW1'
    go_wp2_with fail
    refine (must_any b _ W2 hW2 [61] hn1 hs true hm1 (by decide)).mono ?_
    rintro e W3 ⟨rfl, hW3, hg3⟩
    have hW3' : RdAt W3 b { r with pos := r.pos + n.length + 1 } := hW3
    obtain ⟨_, y1, _⟩ := hW3'.all
    clear hW3
    go_wp2_with fail
    refine (must_any b _ W3 hW3' [34] hn2 hs false hm2 (by decide)).mono ?_
    rintro e W4 ⟨rfl, hW4, hg4⟩
    go_wp2_with fail
    go_ret
    rw [HV.out]
    exact ⟨below_of_grown (grown_twice (grown_twice hg2 hg3) hg4) hB hBw, rfl, _, hW4, rfl, rfl⟩
end Go.Proofs.Ythifddkmbjnncaa
