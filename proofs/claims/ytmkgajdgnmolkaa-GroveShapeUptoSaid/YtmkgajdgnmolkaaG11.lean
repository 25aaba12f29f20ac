/-
  Texts of this claim, joined (by a program of the claim's author): RParts, ROne, RCheck.
-/
import Derived.Test.YtmkgajdgnmolkaaG1
import Derived.Test.YtmkgajdgnmolkaaG6
import Derived.Test.YtmkgajdgnmolkaaG10
import Derived.Deep.RegionHeld3
import Derived.Test.YtmkgajdgnmolkaaG7
/-
  The walk of ref04.Parts.
-/
namespace Go.Proofs.Ytmkgajdgnmolkaa
open Go.RowKit

theorem RName_l (s : List UInt8) (w : World) (hs : s.length ≤ 1000000000) (r : Bool) (hr : Hid (nameL s = r)) :
    Calls Try.prog 61 #[.string ⟨s.toArray⟩] w (Ret w (.bool r)) := RName_any _ w (by show s.toArray.size ≤ _; simp; omega) r hr

/-- the names of attributes, from one on, the last one's known -/
theorem attrNames_nil (r : List AttrD) : attrNames [] r = match r with | [] => true | a :: t => nameL a.name && attrNames a.name t := by
  cases r with
  | nil => rfl
  | cons a t =>
    show (nameL a.name && !leB a.name [] && attrNames a.name t) = (nameL a.name && attrNames a.name t)
    cases hn : nameL a.name with
    | false => rfl
    | true =>
      have : leB a.name [] = false := by
        cases ha : a.name with
        | nil => rw [ha] at hn; simp [nameL, charsL_nil] at hn
        | cons b t => rfl
      rw [this]; rfl

def fromK (l : List AttrD) : Nat → Bool
  | 0 => attrNames [] l
  | j + 1 => match l[j]? with | some a => attrNames a.name (l.drop (j + 1)) | none => true
theorem fromK_first (l : List AttrD) (a : AttrD) (h : l[0]? = some a) : fromK l 0 = (nameL a.name && fromK l 1) := by
  cases l with
  | nil => cases h
  | cons b t =>
    injection h with h; subst h
    exact attrNames_nil _
theorem fromK_step (l : List AttrD) (k : Nat) (p a : AttrD) (hk : 0 < k) (hp : l[k - 1]? = some p) (h : l[k]? = some a) : fromK l k = (nameL a.name && !leB a.name p.name && fromK l (k + 1)) := by
  obtain ⟨j, rfl⟩ : ∃ j, k = j + 1 := ⟨k - 1, by omega⟩
  have hp' : l[j]? = some p := hp
  show (match l[j]? with | some a => attrNames a.name (l.drop (j + 1)) | none => true) = _
  rw [hp', drop_cons h]
  show _ = (_ && (match l[j + 1]? with | some a => attrNames a.name (l.drop (j + 1 + 1)) | none => true))
  rw [h]; rfl
theorem fromK_end (l : List AttrD) : fromK l l.length = true := by
  cases hl : l.length with
  | zero => rw [List.eq_nil_of_length_eq_zero hl]; rfl
  | succ j =>
    show (match l[j]? with | some a => attrNames a.name (l.drop (j + 1)) | none => true) = true
    rw [List.drop_eq_nil_of_le (by omega)]
    cases l[j]? <;> rfl

set_option maxRecDepth 100000 in
set_option maxHeartbeats 2000000 in
theorem RParts_any (x : ItemD) (A : Option Addr) (c : Nat) (w : World) (hA : AttrsAt w w.heap.size A x.attrs) (hs : SmallItem x) (V : Int) (hV : Hid (partsE x = V)) :
    Calls Try.prog 44 #[.agg (itemVal x A c)] w (Ret w (.int .i64 V)) := by
  obtain ⟨hs1, hs2, hs3, hs4, hs5⟩ := hs
  have HS4 := Lib.hid hs4
  have HA := Lib.hid hA
  clear hs4 hA hs5
  have hV' := hV.out
  unfold partsE at hV'
  clear hV
  by_cases k1 : x.kind = 2
  · have e1 : (x.kind == 2) = true := by simp [k1]
    by_cases k2 : x.name = []
    · have e2 : (x.name == []) = true := by simp [k2]
      by_cases k3 : x.attrs = []
      · rw [if_pos ⟨k1, k2, k3⟩] at hV'
        have HV := Lib.hid hV'
        have e3 : x.attrs.length = 0 := by rw [k3]; rfl
        unfold itemVal strV
        rw [e3]
        clear hV' k1 k2 k3
        go_enter Try.func44, Try.ntmps44
        go_wp2_with fail
        refine (rchars_l _ _ hs2 _ HV).mono ?_; rintro e w2 ⟨rfl, hb2⟩
        go_wp2_with fail
        go_ret
        exact ⟨rfl, ((Below.refl _ w).alloc (Nat.le_refl _) _).trans (hb2.mono (by simp))⟩
      · have hv : Hid (V = 68) := by
          show _ = _
          rw [← hV', if_neg (fun h => k3 h.2.2), if_pos (.inl (by omega))]
        have e3 : 0 < x.attrs.length := by
          have : x.attrs.length ≠ 0 := fun h => k3 (List.eq_nil_of_length_eq_zero h)
          omega
        clear hV' k1 k2 k3
        unfold itemVal strV
        go_enter Try.func44, Try.ntmps44
        go_wp2_with fail
        go_ret
        exact ⟨by rw [hv.out]; rfl, (Below.refl _ w).alloc (Nat.le_refl _) _⟩
    · have e2 : (x.name == []) = false := by simp [k2]
      have hv : Hid (V = 68) := by
        show _ = _
        rw [← hV', if_neg (fun h => k2 h.2.1), if_pos (.inl (by omega))]
      clear hV' k1 k2
      unfold itemVal strV
      go_enter Try.func44, Try.ntmps44
      go_wp2_with fail
      go_ret
      exact ⟨by rw [hv.out]; rfl, (Below.refl _ w).alloc (Nat.le_refl _) _⟩
  · rw [if_neg (fun h => k1 h.1)] at hV'
    have e1 : (x.kind == 2) = false := by simp [k1]
    by_cases k2 : x.kind = 1
    · have e4 : (x.kind != 1) = false := by simp [k2]
      by_cases k3 : x.text = []
      · have e5 : (x.text == []) = true := by simp [k3]
        rw [if_neg (by rintro (h | h); exact h k2; exact h k3)] at hV'
        clear k1 k2 k3
        unfold namesE at hV'
        cases hn : nameL x.name with
        | false =>
          have HN : Hid (nameL x.name = false) := hn
          have hv : Hid (V = 63) := by show _ = _; rw [← hV', hn]; rfl
          clear hV' hn
          unfold itemVal strV
          go_enter Try.func44, Try.ntmps44
          go_wp2_with fail
          refine (RName_l _ _ hs1 _ HN).mono ?_; rintro e w2 ⟨rfl, hb2⟩
          go_wp2_with fail
          go_ret
          exact ⟨by rw [hv.out]; rfl, ((Below.refl _ w).alloc (Nat.le_refl _) _).trans (hb2.mono (by simp))⟩
        | true =>
          have HN : Hid (nameL x.name = true) := hn
          rw [hn, Bool.true_and] at hV'
          clear hn
          obtain ⟨R, hR⟩ : ∃ R, Hid (fromK x.attrs 0 = R) := ⟨_, rfl⟩
          have hR1 : attrNames [] x.attrs = R := hR.out
          rw [hR1] at hV'
          have HV := Lib.hid hV'
          clear hV' hR1
          unfold itemVal strV
          go_enter Try.func44, Try.ntmps44
          go_wp2_with fail
          obtain ⟨w1, hw1⟩ : ∃ w1, Hid (w1 = w.alloc (.cells #[.int .i64 x.level, .int .i64 x.kind, .string ⟨x.name.toArray⟩, .string ⟨x.text.toArray⟩, .slice A x.attrs.length c] 51)) := ⟨_, rfl⟩
          have hbw1 : Below w.heap.size w w1 := by rw [hw1.out]; exact (Below.refl _ w).alloc (Nat.le_refl _) _
          have hz1 : w.heap.size < w1.heap.size := by rw [hw1.out]; simp
          have hcell1 : Hid (w1.cell? ⟨w.heap.size, 4, none⟩ = some (.slice A x.attrs.length c)) := by
            show _ = _
            rw [hw1.out, World.cell?_alloc_at _ _ _ _ (by simp)]; rfl
          rw [← hw1.out]
          refine (RName_l _ _ hs1 _ HN).mono ?_; rintro e w2 ⟨rfl, hb2⟩
          have hz2 := hb2.size
          have H4 : Hid (∀ w', Below w1.heap.size w1 w' → w'.cell? ⟨w.heap.size, 4, none⟩ = some (.slice A x.attrs.length c)) := fun w' hb => by
            rw [hb.cell (p := ⟨w.heap.size, 4, none⟩) hz1]; exact hcell1.out
          have hc4 := H4.out w2 hb2
          go_wp2_with fail
          go_loopw [3] (fun i wr => ∃ (k : Nat), k ≤ x.attrs.length ∧ i = .int .i64 k ∧ Hid (fromK x.attrs k = R) ∧ Below w1.heap.size w1 wr) (fun i _ => x.attrs.length - (intOf i).toNat)
          case atStart => exact ⟨0, Nat.zero_le _, rfl, hR, hb2⟩
          case round =>
            obtain ⟨k, hk, rfl, hin, hbel⟩ := hrel
            have hzr := hbel.size
            have hbwr : Below w.heap.size w wr := hbw1.trans (hbel.mono (by omega))
            have hc4r := H4.out wr hbel
            by_cases hlt : k < x.attrs.length
            · obtain ⟨a, ha⟩ : ∃ a, Hid (x.attrs[k]? = some a) := ⟨x.attrs[k], List.getElem?_eq_getElem _⟩
              obtain ⟨ad, hAd, hbl, hcs⟩ := HA.out (by omega)
              have hnm := (HS4.out k a ha.out).1
              subst hAd
              have hlt' : (k : Int) < x.attrs.length := by omega
              have HC : ∀ (j : Nat) (b : AttrD), x.attrs[j]? = some b → ∀ w', Below w1.heap.size w1 w' → w'.cell? (ad.add (j * 2)) = some (.string ⟨b.name.toArray⟩) := fun j b hj w' hb => by
                rw [(hbw1.trans (hb.mono (by omega))).cell (p := ad.add (j * 2)) (by rw [block_of_add]; exact hbl)]
                exact (hcs j b hj).1
              have HCC := Lib.hid HC
              clear HC hcs
              rcases Nat.eq_zero_or_pos k with hk0 | hk0
              · have hin' := hin.out
                have hin' : (nameL a.name && fromK x.attrs (k + 1)) = R := by
                  have ha' := ha.out
                  subst hk0
                  rw [← hin', fromK_first _ a ha']
                obtain ⟨q, hq⟩ : ∃ q, Hid (nameL a.name = q) := ⟨_, rfl⟩
                rw [hq.out] at hin'
                have HIN := Lib.hid hin'
                clear hin'
                have hg1 : decide ((0 : Int) < (k : Int)) = false := by subst hk0; decide
                have hg2 : decide (0 < k) = false := by subst hk0; decide
                clear hk0
                have hk0' : (0 : Int) ≤ (k : Int) := Int.natCast_nonneg _
                have HS : Hid (∀ w', Below w1.heap.size w1 w' → (Below w1.heap.size w1 w' ∧ w'.cell? ⟨w.heap.size, 4, none⟩ = some (.slice (some ad) x.attrs.length c) ∧ w'.cell? (ad.add (k * 2)) = some (.string ⟨a.name.toArray⟩))) :=
                  fun w' hb => ⟨hb, H4.out w' hb, HCC.out k a ha.out w' hb⟩
                cases q with
                | false =>
                  have hv : Hid (V = 63) := by
                    show _ = _
                    have hR0 : R = false := HIN.out.symm
                    rw [← HV.out, hR0]; rfl
                  go_wp2_with fail
                  refine wp_region_held_drew (S := fun w' => Below w1.heap.size w1 w' ∧ w'.cell? ⟨w.heap.size, 4, none⟩ = some (.slice (some ad) x.attrs.length c) ∧ w'.cell? (ad.add (k * 2)) = some (.string ⟨a.name.toArray⟩)) (by kernel_rfl) (HS.out _ hbel.drew) (fun hHeld => ?_)
                  refine tks (oi := ⟨_, _, _, _, _, _⟩) (v := ?_) 0 rfl (.inl ⟨by rfl, ?_⟩) ?_; rotate_left
                  · (intro wS hSw; (try dsimp only at hSw); go_simp); all_goals with_reducible rfl
                  try go_frame
                  refine tks (oi := ⟨_, _, _, _, _, _⟩) (v := ?_) 1 rfl (.inl ⟨by rfl, ?_⟩) ?_; rotate_left
                  · (intro wS hSw; (try dsimp only at hSw); go_simp); all_goals with_reducible rfl
                  try go_frame
                  refine tks (oi := ⟨_, _, _, _, _, _⟩) (v := ?_) 2 rfl (.inl ⟨by rfl, ?_⟩) ?_; rotate_left
                  · (intro wS hSw; (try dsimp only at hSw); go_simp); all_goals with_reducible rfl
                  try go_frame
                  refine tks (oi := ⟨_, _, _, _, _, _⟩) (v := ?_) 3 rfl (.inl ⟨by rfl, ?_⟩) ?_; rotate_left
                  · (intro wS hSw; (try dsimp only at hSw); go_simp); all_goals with_reducible rfl
                  try go_frame
                  refine tks (oi := ⟨_, _, _, _, _, _⟩) (v := ?_) 4 rfl (.inl ⟨by rfl, ?_⟩) ?_; rotate_left
                  · (intro wS hSw; (try dsimp only at hSw); go_simp); all_goals with_reducible rfl
                  try go_frame
                  refine tks (oi := ⟨_, _, _, _, _, _⟩) (v := ?_) 5 rfl (.inl ⟨by rfl, ?_⟩) ?_; rotate_left
                  · (intro wS hSw; (try dsimp only at hSw); go_simp); all_goals with_reducible rfl
                  try go_frame
                  refine wpAnyH_ready (rs := [6]) (by kernel_rfl) (by simp) ?_
                  refine AllReadyH.cons (o := ⟨_, _, _, _, _, _⟩) rfl (fun K hK => ?_) AllReadyH.nil
                  go_simp
                  refine (RName_l _ _ hnm _ hq).mono ?_; rintro e w3 ⟨rfl, hb3⟩
                  go_wp2_with fail
                  refine hK.out _ _ (HS.out _ (hbel.drew.trans (hb3.mono hbel.drew.size))) (fun hHeld => ?_)
                  clear hK K
                  try go_frame
                  refine tks (oi := ⟨_, _, _, _, _, _⟩) (v := ?_) 7 rfl (.inl ⟨by rfl, ?_⟩) ?_; rotate_left
                  · (intro wS hSw; (try dsimp only at hSw); go_simp); all_goals with_reducible rfl
                  try go_frame
                  refine tks (oi := ⟨_, _, _, _, _, _⟩) (v := ?_) 8 rfl (.inl ⟨by rfl, ?_⟩) ?_; rotate_left
                  · (intro wS hSw; (try dsimp only at hSw); go_simp); all_goals with_reducible rfl
                  try go_frame
                  refine tks (oi := ⟨_, _, _, _, _, _⟩) (v := undef) 9 rfl (.inr ⟨by rfl, rfl⟩) ?_
                  try go_frame
                  refine tks (oi := ⟨_, _, _, _, _, _⟩) (v := undef) 10 rfl (.inr ⟨by rfl, rfl⟩) ?_
                  try go_frame
                  refine tks (oi := ⟨_, _, _, _, _, _⟩) (v := undef) 11 rfl (.inr ⟨by rfl, rfl⟩) ?_
                  try go_frame
                  refine tks (oi := ⟨_, _, _, _, _, _⟩) (v := undef) 12 rfl (.inr ⟨by rfl, rfl⟩) ?_
                  try go_frame
                  refine tks (oi := ⟨_, _, _, _, _, _⟩) (v := undef) 13 rfl (.inr ⟨by rfl, rfl⟩) ?_
                  try go_frame
                  refine tks (oi := ⟨_, _, _, _, _, _⟩) (v := undef) 14 rfl (.inr ⟨by rfl, rfl⟩) ?_
                  try go_frame
                  refine tks (oi := ⟨_, _, _, _, _, _⟩) (v := undef) 15 rfl (.inr ⟨by rfl, rfl⟩) ?_
                  try go_frame
                  refine tks (oi := ⟨_, _, _, _, _, _⟩) (v := undef) 16 rfl (.inr ⟨by rfl, rfl⟩) ?_
                  try go_frame
                  refine tks (oi := ⟨_, _, _, _, _, _⟩) (v := undef) 17 rfl (.inr ⟨by rfl, rfl⟩) ?_
                  try go_frame
                  refine tks (oi := ⟨_, _, _, _, _, _⟩) (v := undef) 18 rfl (.inr ⟨by rfl, rfl⟩) ?_
                  try go_frame
                  refine tks (oi := ⟨_, _, _, _, _, _⟩) (v := undef) 19 rfl (.inr ⟨by rfl, rfl⟩) ?_
                  try go_frame
                  refine tks (oi := ⟨_, _, _, _, _, _⟩) (v := undef) 20 rfl (.inr ⟨by rfl, rfl⟩) ?_
                  try go_frame
                  refine tks (oi := ⟨_, _, _, _, _, _⟩) (v := undef) 21 rfl (.inr ⟨by rfl, rfl⟩) ?_
                  try go_frame
                  refine tks (oi := ⟨_, _, _, _, _, _⟩) (v := undef) 22 rfl (.inr ⟨by rfl, rfl⟩) ?_
                  try go_frame
                  refine tks (oi := ⟨_, _, _, _, _, _⟩) (v := undef) 23 rfl (.inr ⟨by rfl, rfl⟩) ?_
                  try go_frame
                  refine tks (oi := ⟨_, _, _, _, _, _⟩) (v := undef) 24 rfl (.inr ⟨by rfl, rfl⟩) ?_
                  try go_frame
                  refine tks (oi := ⟨_, _, _, _, _, _⟩) (v := undef) 25 rfl (.inr ⟨by rfl, rfl⟩) ?_
                  try go_frame
                  refine tks (oi := ⟨_, _, _, _, _, _⟩) (v := undef) 26 rfl (.inr ⟨by rfl, rfl⟩) ?_
                  try go_frame
                  refine tks (oi := ⟨_, _, _, _, _, _⟩) (v := ?_) 27 rfl (.inl ⟨by rfl, ?_⟩) ?_; rotate_left
                  · (intro wS hSw; (try dsimp only at hSw); go_simp); all_goals with_reducible rfl
                  try go_frame
                  refine wpAnyH_done (by kernel_rfl) ?_ _
                  go_wp2_with fail
                  go_ret
                  exact ⟨by rw [hv.out]; rfl, hbw1.trans ((hbel.drew.trans (hb3.mono hbel.drew.size)).mono (by omega))⟩
                | true =>
                  have HIN' : Hid (fromK x.attrs (k + 1) = R) := HIN.out
                  go_wp2_with fail
                  refine wp_region_held_drew (S := fun w' => Below w1.heap.size w1 w' ∧ w'.cell? ⟨w.heap.size, 4, none⟩ = some (.slice (some ad) x.attrs.length c) ∧ w'.cell? (ad.add (k * 2)) = some (.string ⟨a.name.toArray⟩)) (by kernel_rfl) (HS.out _ hbel.drew) (fun hHeld => ?_)
                  refine tks (oi := ⟨_, _, _, _, _, _⟩) (v := ?_) 0 rfl (.inl ⟨by rfl, ?_⟩) ?_; rotate_left
                  · (intro wS hSw; (try dsimp only at hSw); go_simp); all_goals with_reducible rfl
                  try go_frame
                  refine tks (oi := ⟨_, _, _, _, _, _⟩) (v := ?_) 1 rfl (.inl ⟨by rfl, ?_⟩) ?_; rotate_left
                  · (intro wS hSw; (try dsimp only at hSw); go_simp); all_goals with_reducible rfl
                  try go_frame
                  refine tks (oi := ⟨_, _, _, _, _, _⟩) (v := ?_) 2 rfl (.inl ⟨by rfl, ?_⟩) ?_; rotate_left
                  · (intro wS hSw; (try dsimp only at hSw); go_simp); all_goals with_reducible rfl
                  try go_frame
                  refine tks (oi := ⟨_, _, _, _, _, _⟩) (v := ?_) 3 rfl (.inl ⟨by rfl, ?_⟩) ?_; rotate_left
                  · (intro wS hSw; (try dsimp only at hSw); go_simp); all_goals with_reducible rfl
                  try go_frame
                  refine tks (oi := ⟨_, _, _, _, _, _⟩) (v := ?_) 4 rfl (.inl ⟨by rfl, ?_⟩) ?_; rotate_left
                  · (intro wS hSw; (try dsimp only at hSw); go_simp); all_goals with_reducible rfl
                  try go_frame
                  refine tks (oi := ⟨_, _, _, _, _, _⟩) (v := ?_) 5 rfl (.inl ⟨by rfl, ?_⟩) ?_; rotate_left
                  · (intro wS hSw; (try dsimp only at hSw); go_simp); all_goals with_reducible rfl
                  try go_frame
                  refine wpAnyH_ready (rs := [6]) (by kernel_rfl) (by simp) ?_
                  refine AllReadyH.cons (o := ⟨_, _, _, _, _, _⟩) rfl (fun K hK => ?_) AllReadyH.nil
                  go_simp
                  refine (RName_l _ _ hnm _ hq).mono ?_; rintro e w3 ⟨rfl, hb3⟩
                  go_wp2_with fail
                  refine hK.out _ _ (HS.out _ (hbel.drew.trans (hb3.mono hbel.drew.size))) (fun hHeld => ?_)
                  clear hK K
                  try go_frame
                  refine tks (oi := ⟨_, _, _, _, _, _⟩) (v := ?_) 7 rfl (.inl ⟨by rfl, ?_⟩) ?_; rotate_left
                  · (intro wS hSw; (try dsimp only at hSw); go_simp); all_goals with_reducible rfl
                  try go_frame
                  refine tks (oi := ⟨_, _, _, _, _, _⟩) (v := ?_) 8 rfl (.inl ⟨by rfl, ?_⟩) ?_; rotate_left
                  · (intro wS hSw; (try dsimp only at hSw); go_simp); all_goals with_reducible rfl
                  try go_frame
                  refine tks (oi := ⟨_, _, _, _, _, _⟩) (v := ?_) 9 rfl (.inl ⟨by rfl, ?_⟩) ?_; rotate_left
                  · (intro wS hSw; (try dsimp only at hSw); go_simp); all_goals with_reducible rfl
                  try go_frame
                  refine tks (oi := ⟨_, _, _, _, _, _⟩) (v := ?_) 10 rfl (.inl ⟨by rfl, ?_⟩) ?_; rotate_left
                  · (intro wS hSw; (try dsimp only at hSw); go_simp); all_goals with_reducible rfl
                  try go_frame
                  refine tks (oi := ⟨_, _, _, _, _, _⟩) (v := ?_) 11 rfl (.inl ⟨by rfl, ?_⟩) ?_; rotate_left
                  · (intro wS hSw; (try dsimp only at hSw); go_simp); all_goals with_reducible rfl
                  try go_frame
                  refine tks (oi := ⟨_, _, _, _, _, _⟩) (v := undef) 12 rfl (.inr ⟨by rfl, rfl⟩) ?_
                  try go_frame
                  refine tks (oi := ⟨_, _, _, _, _, _⟩) (v := undef) 13 rfl (.inr ⟨by rfl, rfl⟩) ?_
                  try go_frame
                  refine tks (oi := ⟨_, _, _, _, _, _⟩) (v := undef) 14 rfl (.inr ⟨by rfl, rfl⟩) ?_
                  try go_frame
                  refine tks (oi := ⟨_, _, _, _, _, _⟩) (v := undef) 15 rfl (.inr ⟨by rfl, rfl⟩) ?_
                  try go_frame
                  refine tks (oi := ⟨_, _, _, _, _, _⟩) (v := undef) 16 rfl (.inr ⟨by rfl, rfl⟩) ?_
                  try go_frame
                  refine tks (oi := ⟨_, _, _, _, _, _⟩) (v := undef) 17 rfl (.inr ⟨by rfl, rfl⟩) ?_
                  try go_frame
                  refine tks (oi := ⟨_, _, _, _, _, _⟩) (v := undef) 18 rfl (.inr ⟨by rfl, rfl⟩) ?_
                  try go_frame
                  refine tks (oi := ⟨_, _, _, _, _, _⟩) (v := undef) 19 rfl (.inr ⟨by rfl, rfl⟩) ?_
                  try go_frame
                  refine tks (oi := ⟨_, _, _, _, _, _⟩) (v := undef) 20 rfl (.inr ⟨by rfl, rfl⟩) ?_
                  try go_frame
                  refine tks (oi := ⟨_, _, _, _, _, _⟩) (v := undef) 21 rfl (.inr ⟨by rfl, rfl⟩) ?_
                  try go_frame
                  refine tks (oi := ⟨_, _, _, _, _, _⟩) (v := undef) 22 rfl (.inr ⟨by rfl, rfl⟩) ?_
                  try go_frame
                  refine tks (oi := ⟨_, _, _, _, _, _⟩) (v := undef) 23 rfl (.inr ⟨by rfl, rfl⟩) ?_
                  try go_frame
                  refine tks (oi := ⟨_, _, _, _, _, _⟩) (v := undef) 24 rfl (.inr ⟨by rfl, rfl⟩) ?_
                  try go_frame
                  refine tks (oi := ⟨_, _, _, _, _, _⟩) (v := undef) 25 rfl (.inr ⟨by rfl, rfl⟩) ?_
                  try go_frame
                  refine tks (oi := ⟨_, _, _, _, _, _⟩) (v := ?_) 26 rfl (.inl ⟨by rfl, ?_⟩) ?_; rotate_left
                  · (intro wS hSw; (try dsimp only at hSw); go_simp); all_goals with_reducible rfl
                  try go_frame
                  refine tks (oi := ⟨_, _, _, _, _, _⟩) (v := ?_) 27 rfl (.inl ⟨by rfl, ?_⟩) ?_; rotate_left
                  · (intro wS hSw; (try dsimp only at hSw); go_simp); all_goals with_reducible rfl
                  try go_frame
                  refine wpAnyH_done (by kernel_rfl) ?_ _
                  have hb3' := hbel.drew.trans (hb3.mono hbel.drew.size)
                  go_wp2_with fail
                  go_roundw
                  case rel => exact ⟨k + 1, by omega, by go_num, HIN', hb3'⟩
                  case measure => simp [intOf]; omega
              · obtain ⟨p, hp⟩ : ∃ p, Hid (x.attrs[k - 1]? = some p) := ⟨x.attrs[k - 1], List.getElem?_eq_getElem _⟩
                have hin' := hin.out
                have hin' : (nameL a.name && !leB a.name p.name && fromK x.attrs (k + 1)) = R := by
                  rw [← hin', fromK_step _ k p a hk0 hp.out ha.out]
                obtain ⟨q, hq⟩ : ∃ q, Hid (nameL a.name = q) := ⟨_, rfl⟩
                rw [hq.out] at hin'
                have hg1 : decide ((0 : Int) < (k : Int)) = true := by simp; omega
                have hg2 : decide (0 < k) = true := by simp; omega
                have hk0' : (0 : Int) ≤ (k : Int) := Int.natCast_nonneg _
                have hk1 : (0 : Int) ≤ (k : Int) - 1 := by omega
                have hk3 : (1 : Int) ≤ (k : Int) := by omega
                have hk2 : (k : Int) - 1 < x.attrs.length := by omega
                have HS : Hid (∀ w', Below w1.heap.size w1 w' → (Below w1.heap.size w1 w' ∧ w'.cell? ⟨w.heap.size, 4, none⟩ = some (.slice (some ad) x.attrs.length c) ∧ w'.cell? (ad.add (k * 2)) = some (.string ⟨a.name.toArray⟩) ∧ w'.cell? (ad.add ((k - 1) * 2)) = some (.string ⟨p.name.toArray⟩))) :=
                  fun w' hb => ⟨hb, H4.out w' hb, HCC.out k a ha.out w' hb, HCC.out (k - 1) p hp.out w' hb⟩
                obtain ⟨l, hl⟩ : ∃ l, Hid (leB a.name p.name = l) := ⟨_, rfl⟩
                rw [hl.out] at hin'
                have HIN := Lib.hid hin'
                clear hin'
                have hkw : IntKind.i64.wrap ((k : Int) - 1) = (k : Int) - 1 := IntWalk.i64_in _ (by omega)
                have hkn : ((k : Int) - 1).toNat = k - 1 := by omega
                cases q with
                | false =>
                  have hv : Hid (V = 63) := by
                    show _ = _
                    have hR0 : R = false := by rw [← HIN.out]; rfl
                    rw [← HV.out, hR0]; rfl
                  go_wp2_with fail
                  refine wp_region_held_drew (S := fun w' => Below w1.heap.size w1 w' ∧ w'.cell? ⟨w.heap.size, 4, none⟩ = some (.slice (some ad) x.attrs.length c) ∧ w'.cell? (ad.add (k * 2)) = some (.string ⟨a.name.toArray⟩) ∧ w'.cell? (ad.add ((k - 1) * 2)) = some (.string ⟨p.name.toArray⟩)) (by kernel_rfl) (HS.out _ hbel.drew) (fun hHeld => ?_)
                  refine tks (oi := ⟨_, _, _, _, _, _⟩) (v := ?_) 0 rfl (.inl ⟨by rfl, ?_⟩) ?_; rotate_left
                  · (intro wS hSw; (try dsimp only at hSw); go_simp); all_goals with_reducible rfl
                  try go_frame
                  refine tks (oi := ⟨_, _, _, _, _, _⟩) (v := ?_) 1 rfl (.inl ⟨by rfl, ?_⟩) ?_; rotate_left
                  · (intro wS hSw; (try dsimp only at hSw); go_simp); all_goals with_reducible rfl
                  try go_frame
                  refine tks (oi := ⟨_, _, _, _, _, _⟩) (v := ?_) 2 rfl (.inl ⟨by rfl, ?_⟩) ?_; rotate_left
                  · (intro wS hSw; (try dsimp only at hSw); go_simp); all_goals with_reducible rfl
                  try go_frame
                  refine tks (oi := ⟨_, _, _, _, _, _⟩) (v := ?_) 3 rfl (.inl ⟨by rfl, ?_⟩) ?_; rotate_left
                  · (intro wS hSw; (try dsimp only at hSw); go_simp); all_goals with_reducible rfl
                  try go_frame
                  refine tks (oi := ⟨_, _, _, _, _, _⟩) (v := ?_) 4 rfl (.inl ⟨by rfl, ?_⟩) ?_; rotate_left
                  · (intro wS hSw; (try dsimp only at hSw); go_simp); all_goals with_reducible rfl
                  try go_frame
                  refine tks (oi := ⟨_, _, _, _, _, _⟩) (v := ?_) 5 rfl (.inl ⟨by rfl, ?_⟩) ?_; rotate_left
                  · (intro wS hSw; (try dsimp only at hSw); go_simp); all_goals with_reducible rfl
                  try go_frame
                  refine wpAnyH_ready (rs := [6]) (by kernel_rfl) (by simp) ?_
                  refine AllReadyH.cons (o := ⟨_, _, _, _, _, _⟩) rfl (fun K hK => ?_) AllReadyH.nil
                  go_simp
                  refine (RName_l _ _ hnm _ hq).mono ?_; rintro e w3 ⟨rfl, hb3⟩
                  go_wp2_with fail
                  refine hK.out _ _ (HS.out _ (hbel.drew.trans (hb3.mono hbel.drew.size))) (fun hHeld => ?_)
                  clear hK K
                  try go_frame
                  refine tks (oi := ⟨_, _, _, _, _, _⟩) (v := ?_) 7 rfl (.inl ⟨by rfl, ?_⟩) ?_; rotate_left
                  · (intro wS hSw; (try dsimp only at hSw); go_simp); all_goals with_reducible rfl
                  try go_frame
                  refine tks (oi := ⟨_, _, _, _, _, _⟩) (v := ?_) 8 rfl (.inl ⟨by rfl, ?_⟩) ?_; rotate_left
                  · (intro wS hSw; (try dsimp only at hSw); go_simp); all_goals with_reducible rfl
                  try go_frame
                  refine tks (oi := ⟨_, _, _, _, _, _⟩) (v := undef) 9 rfl (.inr ⟨by rfl, rfl⟩) ?_
                  try go_frame
                  refine tks (oi := ⟨_, _, _, _, _, _⟩) (v := undef) 10 rfl (.inr ⟨by rfl, rfl⟩) ?_
                  try go_frame
                  refine tks (oi := ⟨_, _, _, _, _, _⟩) (v := undef) 11 rfl (.inr ⟨by rfl, rfl⟩) ?_
                  try go_frame
                  refine tks (oi := ⟨_, _, _, _, _, _⟩) (v := undef) 12 rfl (.inr ⟨by rfl, rfl⟩) ?_
                  try go_frame
                  refine tks (oi := ⟨_, _, _, _, _, _⟩) (v := undef) 13 rfl (.inr ⟨by rfl, rfl⟩) ?_
                  try go_frame
                  refine tks (oi := ⟨_, _, _, _, _, _⟩) (v := undef) 14 rfl (.inr ⟨by rfl, rfl⟩) ?_
                  try go_frame
                  refine tks (oi := ⟨_, _, _, _, _, _⟩) (v := undef) 15 rfl (.inr ⟨by rfl, rfl⟩) ?_
                  try go_frame
                  refine tks (oi := ⟨_, _, _, _, _, _⟩) (v := undef) 16 rfl (.inr ⟨by rfl, rfl⟩) ?_
                  try go_frame
                  refine tks (oi := ⟨_, _, _, _, _, _⟩) (v := undef) 17 rfl (.inr ⟨by rfl, rfl⟩) ?_
                  try go_frame
                  refine tks (oi := ⟨_, _, _, _, _, _⟩) (v := undef) 18 rfl (.inr ⟨by rfl, rfl⟩) ?_
                  try go_frame
                  refine tks (oi := ⟨_, _, _, _, _, _⟩) (v := undef) 19 rfl (.inr ⟨by rfl, rfl⟩) ?_
                  try go_frame
                  refine tks (oi := ⟨_, _, _, _, _, _⟩) (v := undef) 20 rfl (.inr ⟨by rfl, rfl⟩) ?_
                  try go_frame
                  refine tks (oi := ⟨_, _, _, _, _, _⟩) (v := undef) 21 rfl (.inr ⟨by rfl, rfl⟩) ?_
                  try go_frame
                  refine tks (oi := ⟨_, _, _, _, _, _⟩) (v := undef) 22 rfl (.inr ⟨by rfl, rfl⟩) ?_
                  try go_frame
                  refine tks (oi := ⟨_, _, _, _, _, _⟩) (v := undef) 23 rfl (.inr ⟨by rfl, rfl⟩) ?_
                  try go_frame
                  refine tks (oi := ⟨_, _, _, _, _, _⟩) (v := undef) 24 rfl (.inr ⟨by rfl, rfl⟩) ?_
                  try go_frame
                  refine tks (oi := ⟨_, _, _, _, _, _⟩) (v := undef) 25 rfl (.inr ⟨by rfl, rfl⟩) ?_
                  try go_frame
                  refine tks (oi := ⟨_, _, _, _, _, _⟩) (v := undef) 26 rfl (.inr ⟨by rfl, rfl⟩) ?_
                  try go_frame
                  refine tks (oi := ⟨_, _, _, _, _, _⟩) (v := ?_) 27 rfl (.inl ⟨by rfl, ?_⟩) ?_; rotate_left
                  · (intro wS hSw; (try dsimp only at hSw); go_simp); all_goals with_reducible rfl
                  try go_frame
                  refine wpAnyH_done (by kernel_rfl) ?_ _
                  clear hkw hkn
                  go_wp2_with fail
                  go_ret
                  exact ⟨by rw [hv.out]; rfl, hbw1.trans ((hbel.drew.trans (hb3.mono hbel.drew.size)).mono (by omega))⟩
                | true =>
                  have hl1 := hl.out
                  unfold leB at hl1
                  cases l with
                  | true =>
                    have hv : Hid (V = 63) := by
                      show _ = _
                      have hR0 : R = false := by rw [← HIN.out]; rfl
                      rw [← HV.out, hR0]; rfl
                    go_wp2_with fail
                    refine wp_region_held_drew (S := fun w' => Below w1.heap.size w1 w' ∧ w'.cell? ⟨w.heap.size, 4, none⟩ = some (.slice (some ad) x.attrs.length c) ∧ w'.cell? (ad.add (k * 2)) = some (.string ⟨a.name.toArray⟩) ∧ w'.cell? (ad.add ((k - 1) * 2)) = some (.string ⟨p.name.toArray⟩)) (by kernel_rfl) (HS.out _ hbel.drew) (fun hHeld => ?_)
                    refine tks (oi := ⟨_, _, _, _, _, _⟩) (v := ?_) 0 rfl (.inl ⟨by rfl, ?_⟩) ?_; rotate_left
                    · (intro wS hSw; (try dsimp only at hSw); go_simp); all_goals with_reducible rfl
                    try go_frame
                    refine tks (oi := ⟨_, _, _, _, _, _⟩) (v := ?_) 1 rfl (.inl ⟨by rfl, ?_⟩) ?_; rotate_left
                    · (intro wS hSw; (try dsimp only at hSw); go_simp); all_goals with_reducible rfl
                    try go_frame
                    refine tks (oi := ⟨_, _, _, _, _, _⟩) (v := ?_) 2 rfl (.inl ⟨by rfl, ?_⟩) ?_; rotate_left
                    · (intro wS hSw; (try dsimp only at hSw); go_simp); all_goals with_reducible rfl
                    try go_frame
                    refine tks (oi := ⟨_, _, _, _, _, _⟩) (v := ?_) 3 rfl (.inl ⟨by rfl, ?_⟩) ?_; rotate_left
                    · (intro wS hSw; (try dsimp only at hSw); go_simp); all_goals with_reducible rfl
                    try go_frame
                    refine tks (oi := ⟨_, _, _, _, _, _⟩) (v := ?_) 4 rfl (.inl ⟨by rfl, ?_⟩) ?_; rotate_left
                    · (intro wS hSw; (try dsimp only at hSw); go_simp); all_goals with_reducible rfl
                    try go_frame
                    refine tks (oi := ⟨_, _, _, _, _, _⟩) (v := ?_) 5 rfl (.inl ⟨by rfl, ?_⟩) ?_; rotate_left
                    · (intro wS hSw; (try dsimp only at hSw); go_simp); all_goals with_reducible rfl
                    try go_frame
                    refine wpAnyH_ready (rs := [6]) (by kernel_rfl) (by simp) ?_
                    refine AllReadyH.cons (o := ⟨_, _, _, _, _, _⟩) rfl (fun K hK => ?_) AllReadyH.nil
                    go_simp
                    refine (RName_l _ _ hnm _ hq).mono ?_; rintro e w3 ⟨rfl, hb3⟩
                    go_wp2_with fail
                    refine hK.out _ _ (HS.out _ (hbel.drew.trans (hb3.mono hbel.drew.size))) (fun hHeld => ?_)
                    clear hK K
                    try go_frame
                    refine tks (oi := ⟨_, _, _, _, _, _⟩) (v := ?_) 7 rfl (.inl ⟨by rfl, ?_⟩) ?_; rotate_left
                    · (intro wS hSw; (try dsimp only at hSw); go_simp); all_goals with_reducible rfl
                    try go_frame
                    refine tks (oi := ⟨_, _, _, _, _, _⟩) (v := ?_) 8 rfl (.inl ⟨by rfl, ?_⟩) ?_; rotate_left
                    · (intro wS hSw; (try dsimp only at hSw); go_simp); all_goals with_reducible rfl
                    try go_frame
                    refine tks (oi := ⟨_, _, _, _, _, _⟩) (v := ?_) 9 rfl (.inl ⟨by rfl, ?_⟩) ?_; rotate_left
                    · (intro wS hSw; (try dsimp only at hSw); go_simp); all_goals with_reducible rfl
                    try go_frame
                    refine tks (oi := ⟨_, _, _, _, _, _⟩) (v := ?_) 10 rfl (.inl ⟨by rfl, ?_⟩) ?_; rotate_left
                    · (intro wS hSw; (try dsimp only at hSw); go_simp); all_goals with_reducible rfl
                    try go_frame
                    refine tks (oi := ⟨_, _, _, _, _, _⟩) (v := ?_) 11 rfl (.inl ⟨by rfl, ?_⟩) ?_; rotate_left
                    · (intro wS hSw; (try dsimp only at hSw); go_simp); all_goals with_reducible rfl
                    try go_frame
                    refine tks (oi := ⟨_, _, _, _, _, _⟩) (v := ?_) 12 rfl (.inl ⟨by rfl, ?_⟩) ?_; rotate_left
                    · (intro wS hSw; (try dsimp only at hSw); go_simp); all_goals with_reducible rfl
                    try go_frame
                    refine tks (oi := ⟨_, _, _, _, _, _⟩) (v := ?_) 13 rfl (.inl ⟨by rfl, ?_⟩) ?_; rotate_left
                    · (intro wS hSw; (try dsimp only at hSw); go_simp); all_goals with_reducible rfl
                    try go_frame
                    refine tks (oi := ⟨_, _, _, _, _, _⟩) (v := ?_) 14 rfl (.inl ⟨by rfl, ?_⟩) ?_; rotate_left
                    · (intro wS hSw; (try dsimp only at hSw); go_simp); all_goals with_reducible rfl
                    try go_frame
                    refine tks (oi := ⟨_, _, _, _, _, _⟩) (v := ?_) 15 rfl (.inl ⟨by rfl, ?_⟩) ?_; rotate_left
                    · (intro wS hSw; (try dsimp only at hSw); go_simp); all_goals with_reducible rfl
                    try go_frame
                    refine tks (oi := ⟨_, _, _, _, _, _⟩) (v := ?_) 16 rfl (.inl ⟨by rfl, ?_⟩) ?_; rotate_left
                    · (intro wS hSw; (try dsimp only at hSw); go_simp); all_goals with_reducible rfl
                    try go_frame
                    refine tks (oi := ⟨_, _, _, _, _, _⟩) (v := ?_) 17 rfl (.inl ⟨by rfl, ?_⟩) ?_; rotate_left
                    · (intro wS hSw; (try dsimp only at hSw); go_simp); all_goals with_reducible rfl
                    try go_frame
                    refine tks (oi := ⟨_, _, _, _, _, _⟩) (v := ?_) 18 rfl (.inl ⟨by rfl, ?_⟩) ?_; rotate_left
                    · (intro wS hSw; (try dsimp only at hSw); go_simp); all_goals with_reducible rfl
                    try go_frame
                    refine tks (oi := ⟨_, _, _, _, _, _⟩) (v := ?_) 19 rfl (.inl ⟨by rfl, ?_⟩) ?_; rotate_left
                    · (intro wS hSw; (try dsimp only at hSw); go_simp); all_goals with_reducible rfl
                    try go_frame
                    refine tks (oi := ⟨_, _, _, _, _, _⟩) (v := ?_) 20 rfl (.inl ⟨by rfl, ?_⟩) ?_; rotate_left
                    · (intro wS hSw; (try dsimp only at hSw); go_simp); all_goals with_reducible rfl
                    try go_frame
                    refine tks (oi := ⟨_, _, _, _, _, _⟩) (v := ?_) 21 rfl (.inl ⟨by rfl, ?_⟩) ?_; rotate_left
                    · (intro wS hSw; (try dsimp only at hSw); go_simp); all_goals with_reducible rfl
                    try go_frame
                    refine tks (oi := ⟨_, _, _, _, _, _⟩) (v := ?_) 22 rfl (.inl ⟨by rfl, ?_⟩) ?_; rotate_left
                    · (intro wS hSw; (try dsimp only at hSw); go_simp); all_goals with_reducible rfl
                    try go_frame
                    refine tks (oi := ⟨_, _, _, _, _, _⟩) (v := ?_) 23 rfl (.inl ⟨by rfl, ?_⟩) ?_; rotate_left
                    · (intro wS hSw; (try dsimp only at hSw); go_simp); all_goals with_reducible rfl
                    try go_frame
                    refine tks (oi := ⟨_, _, _, _, _, _⟩) (v := ?_) 24 rfl (.inl ⟨by rfl, ?_⟩) ?_; rotate_left
                    · (intro wS hSw; (try dsimp only at hSw); go_simp); all_goals with_reducible rfl
                    try go_frame
                    refine tks (oi := ⟨_, _, _, _, _, _⟩) (v := ?_) 25 rfl (.inl ⟨by rfl, ?_⟩) ?_; rotate_left
                    · (intro wS hSw; (try dsimp only at hSw); go_simp); all_goals with_reducible rfl
                    try go_frame
                    refine tks (oi := ⟨_, _, _, _, _, _⟩) (v := ?_) 26 rfl (.inl ⟨by rfl, ?_⟩) ?_; rotate_left
                    · (intro wS hSw; (try dsimp only at hSw); go_simp); all_goals with_reducible rfl
                    try go_frame
                    refine tks (oi := ⟨_, _, _, _, _, _⟩) (v := ?_) 27 rfl (.inl ⟨by rfl, ?_⟩) ?_; rotate_left
                    · (intro wS hSw; (try dsimp only at hSw); go_simp); all_goals with_reducible rfl
                    try go_frame
                    refine wpAnyH_done (by kernel_rfl) ?_ _
                    clear hkw hkn
                    go_wp2_with fail
                    go_ret
                    exact ⟨by rw [hv.out]; rfl, hbw1.trans ((hbel.drew.trans (hb3.mono hbel.drew.size)).mono (by omega))⟩
                  | false =>
                    have HIN' : Hid (fromK x.attrs (k + 1) = R) := HIN.out
                    go_wp2_with fail
                    refine wp_region_held_drew (S := fun w' => Below w1.heap.size w1 w' ∧ w'.cell? ⟨w.heap.size, 4, none⟩ = some (.slice (some ad) x.attrs.length c) ∧ w'.cell? (ad.add (k * 2)) = some (.string ⟨a.name.toArray⟩) ∧ w'.cell? (ad.add ((k - 1) * 2)) = some (.string ⟨p.name.toArray⟩)) (by kernel_rfl) (HS.out _ hbel.drew) (fun hHeld => ?_)
                    refine tks (oi := ⟨_, _, _, _, _, _⟩) (v := ?_) 0 rfl (.inl ⟨by rfl, ?_⟩) ?_; rotate_left
                    · (intro wS hSw; (try dsimp only at hSw); go_simp); all_goals with_reducible rfl
                    try go_frame
                    refine tks (oi := ⟨_, _, _, _, _, _⟩) (v := ?_) 1 rfl (.inl ⟨by rfl, ?_⟩) ?_; rotate_left
                    · (intro wS hSw; (try dsimp only at hSw); go_simp); all_goals with_reducible rfl
                    try go_frame
                    refine tks (oi := ⟨_, _, _, _, _, _⟩) (v := ?_) 2 rfl (.inl ⟨by rfl, ?_⟩) ?_; rotate_left
                    · (intro wS hSw; (try dsimp only at hSw); go_simp); all_goals with_reducible rfl
                    try go_frame
                    refine tks (oi := ⟨_, _, _, _, _, _⟩) (v := ?_) 3 rfl (.inl ⟨by rfl, ?_⟩) ?_; rotate_left
                    · (intro wS hSw; (try dsimp only at hSw); go_simp); all_goals with_reducible rfl
                    try go_frame
                    refine tks (oi := ⟨_, _, _, _, _, _⟩) (v := ?_) 4 rfl (.inl ⟨by rfl, ?_⟩) ?_; rotate_left
                    · (intro wS hSw; (try dsimp only at hSw); go_simp); all_goals with_reducible rfl
                    try go_frame
                    refine tks (oi := ⟨_, _, _, _, _, _⟩) (v := ?_) 5 rfl (.inl ⟨by rfl, ?_⟩) ?_; rotate_left
                    · (intro wS hSw; (try dsimp only at hSw); go_simp); all_goals with_reducible rfl
                    try go_frame
                    refine wpAnyH_ready (rs := [6]) (by kernel_rfl) (by simp) ?_
                    refine AllReadyH.cons (o := ⟨_, _, _, _, _, _⟩) rfl (fun K hK => ?_) AllReadyH.nil
                    go_simp
                    refine (RName_l _ _ hnm _ hq).mono ?_; rintro e w3 ⟨rfl, hb3⟩
                    go_wp2_with fail
                    refine hK.out _ _ (HS.out _ (hbel.drew.trans (hb3.mono hbel.drew.size))) (fun hHeld => ?_)
                    clear hK K
                    try go_frame
                    refine tks (oi := ⟨_, _, _, _, _, _⟩) (v := ?_) 7 rfl (.inl ⟨by rfl, ?_⟩) ?_; rotate_left
                    · (intro wS hSw; (try dsimp only at hSw); go_simp); all_goals with_reducible rfl
                    try go_frame
                    refine tks (oi := ⟨_, _, _, _, _, _⟩) (v := ?_) 8 rfl (.inl ⟨by rfl, ?_⟩) ?_; rotate_left
                    · (intro wS hSw; (try dsimp only at hSw); go_simp); all_goals with_reducible rfl
                    try go_frame
                    refine tks (oi := ⟨_, _, _, _, _, _⟩) (v := ?_) 9 rfl (.inl ⟨by rfl, ?_⟩) ?_; rotate_left
                    · (intro wS hSw; (try dsimp only at hSw); go_simp); all_goals with_reducible rfl
                    try go_frame
                    refine tks (oi := ⟨_, _, _, _, _, _⟩) (v := ?_) 10 rfl (.inl ⟨by rfl, ?_⟩) ?_; rotate_left
                    · (intro wS hSw; (try dsimp only at hSw); go_simp); all_goals with_reducible rfl
                    try go_frame
                    refine tks (oi := ⟨_, _, _, _, _, _⟩) (v := ?_) 11 rfl (.inl ⟨by rfl, ?_⟩) ?_; rotate_left
                    · (intro wS hSw; (try dsimp only at hSw); go_simp); all_goals with_reducible rfl
                    try go_frame
                    refine tks (oi := ⟨_, _, _, _, _, _⟩) (v := ?_) 12 rfl (.inl ⟨by rfl, ?_⟩) ?_; rotate_left
                    · (intro wS hSw; (try dsimp only at hSw); go_simp); all_goals with_reducible rfl
                    try go_frame
                    refine tks (oi := ⟨_, _, _, _, _, _⟩) (v := ?_) 13 rfl (.inl ⟨by rfl, ?_⟩) ?_; rotate_left
                    · (intro wS hSw; (try dsimp only at hSw); go_simp); all_goals with_reducible rfl
                    try go_frame
                    refine tks (oi := ⟨_, _, _, _, _, _⟩) (v := ?_) 14 rfl (.inl ⟨by rfl, ?_⟩) ?_; rotate_left
                    · (intro wS hSw; (try dsimp only at hSw); go_simp); all_goals with_reducible rfl
                    try go_frame
                    refine tks (oi := ⟨_, _, _, _, _, _⟩) (v := ?_) 15 rfl (.inl ⟨by rfl, ?_⟩) ?_; rotate_left
                    · (intro wS hSw; (try dsimp only at hSw); go_simp); all_goals with_reducible rfl
                    try go_frame
                    refine tks (oi := ⟨_, _, _, _, _, _⟩) (v := ?_) 16 rfl (.inl ⟨by rfl, ?_⟩) ?_; rotate_left
                    · (intro wS hSw; (try dsimp only at hSw); go_simp); all_goals with_reducible rfl
                    try go_frame
                    refine tks (oi := ⟨_, _, _, _, _, _⟩) (v := ?_) 17 rfl (.inl ⟨by rfl, ?_⟩) ?_; rotate_left
                    · (intro wS hSw; (try dsimp only at hSw); go_simp); all_goals with_reducible rfl
                    try go_frame
                    refine tks (oi := ⟨_, _, _, _, _, _⟩) (v := ?_) 18 rfl (.inl ⟨by rfl, ?_⟩) ?_; rotate_left
                    · (intro wS hSw; (try dsimp only at hSw); go_simp); all_goals with_reducible rfl
                    try go_frame
                    refine tks (oi := ⟨_, _, _, _, _, _⟩) (v := ?_) 19 rfl (.inl ⟨by rfl, ?_⟩) ?_; rotate_left
                    · (intro wS hSw; (try dsimp only at hSw); go_simp); all_goals with_reducible rfl
                    try go_frame
                    refine tks (oi := ⟨_, _, _, _, _, _⟩) (v := ?_) 20 rfl (.inl ⟨by rfl, ?_⟩) ?_; rotate_left
                    · (intro wS hSw; (try dsimp only at hSw); go_simp); all_goals with_reducible rfl
                    try go_frame
                    refine tks (oi := ⟨_, _, _, _, _, _⟩) (v := ?_) 21 rfl (.inl ⟨by rfl, ?_⟩) ?_; rotate_left
                    · (intro wS hSw; (try dsimp only at hSw); go_simp); all_goals with_reducible rfl
                    try go_frame
                    refine tks (oi := ⟨_, _, _, _, _, _⟩) (v := ?_) 22 rfl (.inl ⟨by rfl, ?_⟩) ?_; rotate_left
                    · (intro wS hSw; (try dsimp only at hSw); go_simp); all_goals with_reducible rfl
                    try go_frame
                    refine tks (oi := ⟨_, _, _, _, _, _⟩) (v := ?_) 23 rfl (.inl ⟨by rfl, ?_⟩) ?_; rotate_left
                    · (intro wS hSw; (try dsimp only at hSw); go_simp); all_goals with_reducible rfl
                    try go_frame
                    refine tks (oi := ⟨_, _, _, _, _, _⟩) (v := ?_) 24 rfl (.inl ⟨by rfl, ?_⟩) ?_; rotate_left
                    · (intro wS hSw; (try dsimp only at hSw); go_simp); all_goals with_reducible rfl
                    try go_frame
                    refine tks (oi := ⟨_, _, _, _, _, _⟩) (v := ?_) 25 rfl (.inl ⟨by rfl, ?_⟩) ?_; rotate_left
                    · (intro wS hSw; (try dsimp only at hSw); go_simp); all_goals with_reducible rfl
                    try go_frame
                    refine tks (oi := ⟨_, _, _, _, _, _⟩) (v := ?_) 26 rfl (.inl ⟨by rfl, ?_⟩) ?_; rotate_left
                    · (intro wS hSw; (try dsimp only at hSw); go_simp); all_goals with_reducible rfl
                    try go_frame
                    refine tks (oi := ⟨_, _, _, _, _, _⟩) (v := ?_) 27 rfl (.inl ⟨by rfl, ?_⟩) ?_; rotate_left
                    · (intro wS hSw; (try dsimp only at hSw); go_simp); all_goals with_reducible rfl
                    try go_frame
                    refine wpAnyH_done (by kernel_rfl) ?_ _
                    have hb3' := hbel.drew.trans (hb3.mono hbel.drew.size)
                    clear hkw hkn hl1
                    go_wp2_with fail
                    go_roundw
                    case rel => exact ⟨k + 1, by omega, by go_num, HIN', hb3'⟩
                    case measure => simp [intOf]; omega
            · have hk' : k = x.attrs.length := by omega
              have hR1 : R = true := by rw [← hin.out, hk', fromK_end]
              have hV1 := HV.out
              rw [hR1] at hV1
              simp only [if_true] at hV1
              subst hk'
              clear hin hlt hk
              by_cases hbig : 20 < x.attrs.length
              · have hv : Hid (V = 67) := by
                  show _ = _
                  rw [← hV1, if_pos hbig]; rfl
                clear hV1
                go_wp2_with fail
                go_ret
                exact ⟨by rw [hv.out]; rfl, hbwr⟩
              · rw [if_neg hbig, if_pos rfl] at hV1
                have HV1 := Lib.hid hV1
                clear hV1
                go_wp2_with fail
                go_loopw [4] (fun i wr => ∃ (k : Nat), k ≤ x.attrs.length ∧ i = .int .i64 k ∧ Hid (valuesE (x.attrs.drop k) = V) ∧ Below w1.heap.size w1 wr) (fun i _ => x.attrs.length - (intOf i).toNat)
                case atStart => exact ⟨0, Nat.zero_le _, rfl, HV1, hbel⟩
                case round =>
                  obtain ⟨k, hk, rfl, hin, hbel⟩ := hrel
                  have hzr := hbel.size
                  have hbwr : Below w.heap.size w wr := hbw1.trans (hbel.mono (by omega))
                  have hc4r := H4.out wr hbel
                  by_cases hlt : k < x.attrs.length
                  · obtain ⟨a, ha⟩ : ∃ a, Hid (x.attrs[k]? = some a) := ⟨x.attrs[k], List.getElem?_eq_getElem _⟩
                    obtain ⟨ad, hAd, hbl, hcs⟩ := (HA.out.below hbwr) (by omega)
                    have hc1 := (hcs k a ha.out).2
                    unfold strV at hc1
                    clear hcs
                    have hnm := (HS4.out k a ha.out).2
                    subst hAd
                    have hlt' : (k : Int) < x.attrs.length := by omega
                    have hin' := hin.out
                    rw [drop_cons ha.out, valuesE] at hin'
                    obtain ⟨q, hq⟩ : ∃ q, Hid (charsE a.value = q) := ⟨_, rfl⟩
                    rw [hq.out] at hin'
                    by_cases hq0 : q = 0
                    · rw [if_pos hq0] at hin'
                      have HIN := Lib.hid hin'
                      subst hq0
                      clear hin' hin
                      go_wp2_with fail
                      refine (rchars_l _ _ hnm _ hq).mono ?_; rintro e w3 ⟨rfl, hb3⟩
                      have hb3' := hbel.trans (hb3.mono hbel.size)
                      go_wp2_with fail
                      go_roundw
                      case rel => exact ⟨k + 1, by omega, by go_num, HIN, hb3'⟩
                      case measure => simp [intOf]; omega
                    · rw [if_neg hq0] at hin'
                      have HIN := Lib.hid hin'
                      have e6 : (q != 0) = true := by simp [hq0]
                      clear hin' hin hq0
                      go_wp2_with fail
                      refine (rchars_l _ _ hnm _ hq).mono ?_; rintro e w3 ⟨rfl, hb3⟩
                      have hb3' := hbel.trans (hb3.mono hbel.size)
                      go_wp2_with fail
                      go_ret
                      exact ⟨by rw [← HIN.out]; rfl, hbw1.trans (hb3'.mono (by omega))⟩
                  · have hk' : k = x.attrs.length := by omega
                    have hv : Hid (V = 0) := by
                      show _ = _
                      rw [← hin.out, List.drop_eq_nil_of_le (by omega)]; rfl
                    subst hk'
                    clear hin hlt hk
                    go_wp2_with fail
                    go_ret
                    exact ⟨by rw [hv.out]; rfl, hbwr⟩
      · have e5 : (x.text == []) = false := by simp [k3]
        have hv : Hid (V = 68) := by show _ = _; rw [← hV', if_pos (.inr k3)]
        clear hV' k1 k2 k3
        unfold itemVal strV
        go_enter Try.func44, Try.ntmps44
        go_wp2_with fail
        go_ret
        exact ⟨by rw [hv.out]; rfl, (Below.refl _ w).alloc (Nat.le_refl _) _⟩
    · have e4 : (x.kind != 1) = true := by simp [k2]
      have hv : Hid (V = 68) := by show _ = _; rw [← hV', if_pos (.inl k2)]
      clear hV' k1 k2
      unfold itemVal strV
      go_enter Try.func44, Try.ntmps44
      go_wp2_with fail
      go_ret
      exact ⟨by rw [hv.out]; rfl, (Below.refl _ w).alloc (Nat.le_refl _) _⟩
end Go.Proofs.Ytmkgajdgnmolkaa

/-
  The walk of ref04.one: why an item may not be.
-/
namespace Go.Proofs.Ytmkgajdgnmolkaa
open Go.RowKit

set_option maxRecDepth 100000 in
set_option maxHeartbeats 2000000 in
theorem one_first (l : List ItemD) (ad : Addr) (c : Nat) (x : ItemD) (w : World) (hA : ItemsAt w w.heap.size (some ad) l) (hx : l[0]? = some x) (_hlen : l.length ≤ 1000000000) (hs : SmallItem x) (V : Int) (hV : Hid (oneE none 0 x = V)) :
    Calls Try.prog 29 #[.slice (some ad) l.length c, .int .i64 0] w (Ret w (.int .i64 V)) := by
  have hl : 0 < l.length := (List.getElem?_eq_some_iff.1 hx).1
  obtain ⟨hbl, A', c', hat, _, h0, h1, h2, h3, h4⟩ := hA.item hx
  unfold strV at h2 h3
  have ez : ad.add (0 * 5) = ad := by unfold Addr.add; simp
  rw [ez] at h0 h1 h2 h3 h4
  have HAT := Lib.hid hat
  have hV' := hV.out
  clear hA hx ez hat hV
  by_cases c1 : x.level ≠ 0 ∨ x.kind ≠ 1
  · have hv : Hid (69 = V) := by
      show _ = _
      rw [← hV']
      unfold oneE
      have : placeE none 0 x = 69 := by unfold placeE; exact if_pos c1
      rw [this]; rfl
    clear hV'
    by_cases c2 : x.level = 0
    · have d1 : (x.level != 0) = false := by simp [c2]
      have d2 : (x.kind != 1) = true := by simp; omega
      clear c1 c2
      go_enter Try.func29, Try.ntmps29
      go_wp2_with fail
      go_ret
      exact ⟨by rw [← hv.out]; rfl, (Below.refl _ w).alloc (Nat.le_refl _) _⟩
    · have d1 : (x.level != 0) = true := by simp [c2]
      clear c1 c2
      go_enter Try.func29, Try.ntmps29
      go_wp2_with fail
      go_ret
      exact ⟨by rw [← hv.out]; rfl, (Below.refl _ w).alloc (Nat.le_refl _) _⟩
  · have hl0 : x.level = 0 := by omega
    have hk1 : x.kind = 1 := by omega
    have hv : Hid (partsE x = V) := by
      show _ = _
      rw [← hV']
      unfold oneE
      have : placeE none 0 x = 0 := by unfold placeE; exact if_neg c1
      rw [this]; rfl
    have d1 : (x.level != 0) = false := by simp [hl0]
    have d2 : (x.kind != 1) = false := by simp [hk1]
    have l0 : x.level ≤ 0 := by omega
    clear hV' c1 hk1 hl0
    go_enter Try.func29, Try.ntmps29
    go_wp2_with fail
    refine wp_region_held_drew (S := fun _ => True) (by kernel_rfl) trivial (fun hHeld => ?_)
    refine tks (oi := ⟨_, _, _, _, _, _⟩) (v := ?_) 0 rfl (.inl ⟨by rfl, ?_⟩) ?_; rotate_left
    · (intro wS hSw; (try dsimp only at hSw); go_simp); all_goals with_reducible rfl
    try go_frame
    refine tks (oi := ⟨_, _, _, _, _, _⟩) (v := ?_) 1 rfl (.inl ⟨by rfl, ?_⟩) ?_; rotate_left
    · (intro wS hSw; (try dsimp only at hSw); go_simp); all_goals with_reducible rfl
    try go_frame
    refine tks (oi := ⟨_, _, _, _, _, _⟩) (v := ?_) 2 rfl (.inl ⟨by rfl, ?_⟩) ?_; rotate_left
    · (intro wS hSw; (try dsimp only at hSw); go_simp); all_goals with_reducible rfl
    try go_frame
    refine tks (oi := ⟨_, _, _, _, _, _⟩) (v := undef) 3 rfl (.inr ⟨by rfl, rfl⟩) ?_
    try go_frame
    refine tks (oi := ⟨_, _, _, _, _, _⟩) (v := undef) 4 rfl (.inr ⟨by rfl, rfl⟩) ?_
    try go_frame
    refine tks (oi := ⟨_, _, _, _, _, _⟩) (v := undef) 5 rfl (.inr ⟨by rfl, rfl⟩) ?_
    try go_frame
    refine tks (oi := ⟨_, _, _, _, _, _⟩) (v := undef) 6 rfl (.inr ⟨by rfl, rfl⟩) ?_
    try go_frame
    refine tks (oi := ⟨_, _, _, _, _, _⟩) (v := undef) 7 rfl (.inr ⟨by rfl, rfl⟩) ?_
    try go_frame
    refine tks (oi := ⟨_, _, _, _, _, _⟩) (v := undef) 8 rfl (.inr ⟨by rfl, rfl⟩) ?_
    try go_frame
    refine tks (oi := ⟨_, _, _, _, _, _⟩) (v := undef) 9 rfl (.inr ⟨by rfl, rfl⟩) ?_
    try go_frame
    refine tks (oi := ⟨_, _, _, _, _, _⟩) (v := undef) 10 rfl (.inr ⟨by rfl, rfl⟩) ?_
    try go_frame
    refine tks (oi := ⟨_, _, _, _, _, _⟩) (v := undef) 11 rfl (.inr ⟨by rfl, rfl⟩) ?_
    try go_frame
    refine tks (oi := ⟨_, _, _, _, _, _⟩) (v := undef) 12 rfl (.inr ⟨by rfl, rfl⟩) ?_
    try go_frame
    refine tks (oi := ⟨_, _, _, _, _, _⟩) (v := undef) 13 rfl (.inr ⟨by rfl, rfl⟩) ?_
    try go_frame
    refine tks (oi := ⟨_, _, _, _, _, _⟩) (v := undef) 14 rfl (.inr ⟨by rfl, rfl⟩) ?_
    try go_frame
    refine tks (oi := ⟨_, _, _, _, _, _⟩) (v := undef) 15 rfl (.inr ⟨by rfl, rfl⟩) ?_
    try go_frame
    refine tks (oi := ⟨_, _, _, _, _, _⟩) (v := undef) 16 rfl (.inr ⟨by rfl, rfl⟩) ?_
    try go_frame
    refine tks (oi := ⟨_, _, _, _, _, _⟩) (v := undef) 17 rfl (.inr ⟨by rfl, rfl⟩) ?_
    try go_frame
    refine tks (oi := ⟨_, _, _, _, _, _⟩) (v := undef) 18 rfl (.inr ⟨by rfl, rfl⟩) ?_
    try go_frame
    refine tks (oi := ⟨_, _, _, _, _, _⟩) (v := undef) 19 rfl (.inr ⟨by rfl, rfl⟩) ?_
    try go_frame
    refine tks (oi := ⟨_, _, _, _, _, _⟩) (v := undef) 20 rfl (.inr ⟨by rfl, rfl⟩) ?_
    try go_frame
    refine tks (oi := ⟨_, _, _, _, _, _⟩) (v := undef) 21 rfl (.inr ⟨by rfl, rfl⟩) ?_
    try go_frame
    refine tks (oi := ⟨_, _, _, _, _, _⟩) (v := undef) 22 rfl (.inr ⟨by rfl, rfl⟩) ?_
    try go_frame
    refine tks (oi := ⟨_, _, _, _, _, _⟩) (v := undef) 23 rfl (.inr ⟨by rfl, rfl⟩) ?_
    try go_frame
    refine tks (oi := ⟨_, _, _, _, _, _⟩) (v := undef) 24 rfl (.inr ⟨by rfl, rfl⟩) ?_
    try go_frame
    refine tks (oi := ⟨_, _, _, _, _, _⟩) (v := undef) 25 rfl (.inr ⟨by rfl, rfl⟩) ?_
    try go_frame
    refine tks (oi := ⟨_, _, _, _, _, _⟩) (v := undef) 26 rfl (.inr ⟨by rfl, rfl⟩) ?_
    try go_frame
    refine tks (oi := ⟨_, _, _, _, _, _⟩) (v := undef) 27 rfl (.inr ⟨by rfl, rfl⟩) ?_
    try go_frame
    refine tks (oi := ⟨_, _, _, _, _, _⟩) (v := undef) 28 rfl (.inr ⟨by rfl, rfl⟩) ?_
    try go_frame
    refine tks (oi := ⟨_, _, _, _, _, _⟩) (v := undef) 29 rfl (.inr ⟨by rfl, rfl⟩) ?_
    try go_frame
    refine tks (oi := ⟨_, _, _, _, _, _⟩) (v := undef) 30 rfl (.inr ⟨by rfl, rfl⟩) ?_
    try go_frame
    refine tks (oi := ⟨_, _, _, _, _, _⟩) (v := undef) 31 rfl (.inr ⟨by rfl, rfl⟩) ?_
    try go_frame
    refine tks (oi := ⟨_, _, _, _, _, _⟩) (v := undef) 32 rfl (.inr ⟨by rfl, rfl⟩) ?_
    try go_frame
    refine tks (oi := ⟨_, _, _, _, _, _⟩) (v := undef) 33 rfl (.inr ⟨by rfl, rfl⟩) ?_
    try go_frame
    refine tks (oi := ⟨_, _, _, _, _, _⟩) (v := undef) 34 rfl (.inr ⟨by rfl, rfl⟩) ?_
    try go_frame
    refine tks (oi := ⟨_, _, _, _, _, _⟩) (v := undef) 35 rfl (.inr ⟨by rfl, rfl⟩) ?_
    try go_frame
    refine tks (oi := ⟨_, _, _, _, _, _⟩) (v := undef) 36 rfl (.inr ⟨by rfl, rfl⟩) ?_
    try go_frame
    refine tks (oi := ⟨_, _, _, _, _, _⟩) (v := undef) 37 rfl (.inr ⟨by rfl, rfl⟩) ?_
    try go_frame
    refine tks (oi := ⟨_, _, _, _, _, _⟩) (v := undef) 38 rfl (.inr ⟨by rfl, rfl⟩) ?_
    try go_frame
    refine tks (oi := ⟨_, _, _, _, _, _⟩) (v := ?_) 39 rfl (.inl ⟨by rfl, ?_⟩) ?_; rotate_left
    · (intro wS hSw; (try dsimp only at hSw); go_simp); all_goals with_reducible rfl
    try go_frame
    refine wpAnyH_done (by kernel_rfl) ?_ _
    go_wp2_with fail
    refine (RParts_any x A' c' _ ?_ hs V hv).mono ?_
    · exact ((HAT.out.below (((Below.refl _ w).alloc (Nat.le_refl _) _).drew)).more (by simp))
    rintro e w3 ⟨rfl, hb3⟩
    go_wp2_with fail
    go_ret
    exact ⟨rfl, (((Below.refl _ w).alloc (Nat.le_refl _) _).drew).trans (hb3.mono (by simp))⟩

set_option maxRecDepth 100000 in
set_option maxHeartbeats 4000000 in
theorem one_later (l : List ItemD) (ad : Addr) (c k : Nat) (x p : ItemD) (w : World) (hA : ItemsAt w w.heap.size (some ad) l) (hk0 : 0 < k) (hx : l[k]? = some x) (hp : l[k - 1]? = some p) (hlen : l.length ≤ 1000000000) (hpl : -9000000000000000000 ≤ p.level ∧ p.level ≤ 9000000000000000000) (hs : SmallItem x) (V : Int) (hV : Hid (oneE (some p) k x = V)) :
    Calls Try.prog 29 #[.slice (some ad) l.length c, .int .i64 k] w (Ret w (.int .i64 V)) := by
  have hl : k < l.length := (List.getElem?_eq_some_iff.1 hx).1
  obtain ⟨hbl, A', c', hat, _, h0, h1, h2, h3, h4⟩ := hA.item hx
  obtain ⟨_, A2, c2, _, _, g0, g1, _, _, _⟩ := hA.item hp
  unfold strV at h2 h3
  have HAT := Lib.hid hat
  have hV' := hV.out
  clear hA hx hp hV hat
  have i1 : (0 : Int) ≤ (k : Int) := by omega
  have i2 : (1 : Int) ≤ (k : Int) := by omega
  have i3 : (k : Int) < l.length := by omega
  have i4 : (0 : Int) ≤ (k : Int) - 1 := by omega
  have i5 : (k : Int) - 1 < l.length := by omega
  have t0 : ((k : Int) == 0) = false := by simp; omega
  have t1 : decide ((0 : Int) < (k : Int)) = true := by simp; omega
  have t2 : decide (0 < k) = true := by simp; omega
  obtain ⟨lo, hi⟩ := hpl
  have hs5 := hs.2.2.2.2
  have HS := Lib.hid hs
  clear hs
  obtain ⟨W1, hW1⟩ : ∃ W1, Hid (W1 = w.alloc (.cells #[.int .i64 x.level, .int .i64 x.kind, .string ⟨x.name.toArray⟩, .string ⟨x.text.toArray⟩, .slice A' x.attrs.length c'] 51)) := ⟨_, rfl⟩
  have hS : Hid (W1.drew.cell? ⟨w.heap.size, 0, none⟩ = some (.int .i64 x.level) ∧ W1.drew.cell? (ad.add ((k - 1) * 5)) = some (.int .i64 p.level) ∧ W1.drew.cell? ⟨(ad.add ((k - 1) * 5)).block, (ad.add ((k - 1) * 5)).off + 1, none⟩ = some (.int .i64 p.kind)) := by
    refine ⟨?_, ?_, ?_⟩
    · rw [hW1.out]; show (w.alloc _).cell? _ = _; rw [World.cell?_alloc_at _ _ _ _ (by simp)]; rfl
    · rw [hW1.out]; show (w.alloc _).cell? _ = _; rw [World.cell?_alloc_lt _ _ _ (by rw [block_of_add]; exact hbl)]; exact g0
    · rw [hW1.out]; show (w.alloc _).cell? _ = _; rw [World.cell?_alloc_lt _ _ _ (by show (ad.add _).block < _; rw [block_of_add]; exact hbl)]; exact g1
  have hbW : Below w.heap.size w W1 := by rw [hW1.out]; exact (Below.refl _ w).alloc (Nat.le_refl _) _
  have hzW : w.heap.size < W1.heap.size := by rw [hW1.out]; simp
  have hcs : Hid (∀ w', Below W1.heap.size W1 w' → w'.cell? ⟨w.heap.size, 0, none⟩ = some (.int .i64 x.level) ∧ w'.cell? ⟨w.heap.size, 1, none⟩ = some (.int .i64 x.kind) ∧ w'.cell? ⟨w.heap.size, 2, none⟩ = some (.string ⟨x.name.toArray⟩) ∧ w'.cell? ⟨w.heap.size, 3, none⟩ = some (.string ⟨x.text.toArray⟩) ∧ w'.cell? ⟨w.heap.size, 4, none⟩ = some (.slice A' x.attrs.length c')) := fun w' hb => by
    refine ⟨?_, ?_, ?_, ?_, ?_⟩
    all_goals
      rw [hb.cell (by exact hzW), hW1.out, World.cell?_alloc_at _ _ _ _ (by simp)]; rfl
  by_cases c1 : x.level < 1
  · skip
    have hv : Hid (69 = V) := by
      show _ = _
      rw [← hV']
      unfold oneE
      have : placeE (some p) k x = 69 := by unfold placeE; exact if_pos (.inl c1)
      rw [this]; rfl
    have d1 : decide (x.level < 1) = true := by simp; omega
    clear hV'
    go_enter Try.func29, Try.ntmps29
    go_wp2_with fail
    rw [← hW1.out]
    refine wp_region_held_drew (S := fun w' => w'.cell? ⟨w.heap.size, 0, none⟩ = some (.int .i64 x.level) ∧ w'.cell? (ad.add ((k - 1) * 5)) = some (.int .i64 p.level) ∧ w'.cell? ⟨(ad.add ((k - 1) * 5)).block, (ad.add ((k - 1) * 5)).off + 1, none⟩ = some (.int .i64 p.kind)) (by kernel_rfl) hS.out (fun hHeld => ?_)
    refine tks (oi := ⟨_, _, _, _, _, _⟩) (v := ?_) 0 rfl (.inl ⟨by rfl, ?_⟩) ?_; rotate_left
    · (intro wS hSw; (try dsimp only at hSw); go_simp); all_goals with_reducible rfl
    try go_frame
    refine tks (oi := ⟨_, _, _, _, _, _⟩) (v := ?_) 1 rfl (.inl ⟨by rfl, ?_⟩) ?_; rotate_left
    · (intro wS hSw; (try dsimp only at hSw); go_simp); all_goals with_reducible rfl
    try go_frame
    refine tks (oi := ⟨_, _, _, _, _, _⟩) (v := ?_) 2 rfl (.inl ⟨by rfl, ?_⟩) ?_; rotate_left
    · (intro wS hSw; (try dsimp only at hSw); go_simp); all_goals with_reducible rfl
    try go_frame
    refine tks (oi := ⟨_, _, _, _, _, _⟩) (v := ?_) 3 rfl (.inl ⟨by rfl, ?_⟩) ?_; rotate_left
    · (intro wS hSw; (try dsimp only at hSw); go_simp); all_goals with_reducible rfl
    try go_frame
    refine tks (oi := ⟨_, _, _, _, _, _⟩) (v := ?_) 4 rfl (.inl ⟨by rfl, ?_⟩) ?_; rotate_left
    · (intro wS hSw; (try dsimp only at hSw); go_simp); all_goals with_reducible rfl
    try go_frame
    refine tks (oi := ⟨_, _, _, _, _, _⟩) (v := ?_) 5 rfl (.inl ⟨by rfl, ?_⟩) ?_; rotate_left
    · (intro wS hSw; (try dsimp only at hSw); go_simp); all_goals with_reducible rfl
    try go_frame
    refine tks (oi := ⟨_, _, _, _, _, _⟩) (v := ?_) 6 rfl (.inl ⟨by rfl, ?_⟩) ?_; rotate_left
    · (intro wS hSw; (try dsimp only at hSw); go_simp); all_goals with_reducible rfl
    try go_frame
    refine tks (oi := ⟨_, _, _, _, _, _⟩) (v := undef) 7 rfl (.inr ⟨by rfl, rfl⟩) ?_
    try go_frame
    refine tks (oi := ⟨_, _, _, _, _, _⟩) (v := undef) 8 rfl (.inr ⟨by rfl, rfl⟩) ?_
    try go_frame
    refine tks (oi := ⟨_, _, _, _, _, _⟩) (v := undef) 9 rfl (.inr ⟨by rfl, rfl⟩) ?_
    try go_frame
    refine tks (oi := ⟨_, _, _, _, _, _⟩) (v := undef) 10 rfl (.inr ⟨by rfl, rfl⟩) ?_
    try go_frame
    refine tks (oi := ⟨_, _, _, _, _, _⟩) (v := undef) 11 rfl (.inr ⟨by rfl, rfl⟩) ?_
    try go_frame
    refine tks (oi := ⟨_, _, _, _, _, _⟩) (v := undef) 12 rfl (.inr ⟨by rfl, rfl⟩) ?_
    try go_frame
    refine tks (oi := ⟨_, _, _, _, _, _⟩) (v := undef) 13 rfl (.inr ⟨by rfl, rfl⟩) ?_
    try go_frame
    refine tks (oi := ⟨_, _, _, _, _, _⟩) (v := undef) 14 rfl (.inr ⟨by rfl, rfl⟩) ?_
    try go_frame
    refine tks (oi := ⟨_, _, _, _, _, _⟩) (v := undef) 15 rfl (.inr ⟨by rfl, rfl⟩) ?_
    try go_frame
    refine tks (oi := ⟨_, _, _, _, _, _⟩) (v := undef) 16 rfl (.inr ⟨by rfl, rfl⟩) ?_
    try go_frame
    refine tks (oi := ⟨_, _, _, _, _, _⟩) (v := ?_) 17 rfl (.inl ⟨by rfl, ?_⟩) ?_; rotate_left
    · (intro wS hSw; (try dsimp only at hSw); go_simp); all_goals with_reducible rfl
    try go_frame
    refine tks (oi := ⟨_, _, _, _, _, _⟩) (v := ?_) 18 rfl (.inl ⟨by rfl, ?_⟩) ?_; rotate_left
    · (intro wS hSw; (try dsimp only at hSw); go_simp); all_goals with_reducible rfl
    try go_frame
    refine tks (oi := ⟨_, _, _, _, _, _⟩) (v := undef) 19 rfl (.inr ⟨by rfl, rfl⟩) ?_
    try go_frame
    refine tks (oi := ⟨_, _, _, _, _, _⟩) (v := undef) 20 rfl (.inr ⟨by rfl, rfl⟩) ?_
    try go_frame
    refine tks (oi := ⟨_, _, _, _, _, _⟩) (v := undef) 21 rfl (.inr ⟨by rfl, rfl⟩) ?_
    try go_frame
    refine tks (oi := ⟨_, _, _, _, _, _⟩) (v := undef) 22 rfl (.inr ⟨by rfl, rfl⟩) ?_
    try go_frame
    refine tks (oi := ⟨_, _, _, _, _, _⟩) (v := undef) 23 rfl (.inr ⟨by rfl, rfl⟩) ?_
    try go_frame
    refine tks (oi := ⟨_, _, _, _, _, _⟩) (v := undef) 24 rfl (.inr ⟨by rfl, rfl⟩) ?_
    try go_frame
    refine tks (oi := ⟨_, _, _, _, _, _⟩) (v := undef) 25 rfl (.inr ⟨by rfl, rfl⟩) ?_
    try go_frame
    refine tks (oi := ⟨_, _, _, _, _, _⟩) (v := undef) 26 rfl (.inr ⟨by rfl, rfl⟩) ?_
    try go_frame
    refine tks (oi := ⟨_, _, _, _, _, _⟩) (v := undef) 27 rfl (.inr ⟨by rfl, rfl⟩) ?_
    try go_frame
    refine tks (oi := ⟨_, _, _, _, _, _⟩) (v := undef) 28 rfl (.inr ⟨by rfl, rfl⟩) ?_
    try go_frame
    refine tks (oi := ⟨_, _, _, _, _, _⟩) (v := undef) 29 rfl (.inr ⟨by rfl, rfl⟩) ?_
    try go_frame
    refine tks (oi := ⟨_, _, _, _, _, _⟩) (v := undef) 30 rfl (.inr ⟨by rfl, rfl⟩) ?_
    try go_frame
    refine tks (oi := ⟨_, _, _, _, _, _⟩) (v := undef) 31 rfl (.inr ⟨by rfl, rfl⟩) ?_
    try go_frame
    refine tks (oi := ⟨_, _, _, _, _, _⟩) (v := undef) 32 rfl (.inr ⟨by rfl, rfl⟩) ?_
    try go_frame
    refine tks (oi := ⟨_, _, _, _, _, _⟩) (v := undef) 33 rfl (.inr ⟨by rfl, rfl⟩) ?_
    try go_frame
    refine tks (oi := ⟨_, _, _, _, _, _⟩) (v := undef) 34 rfl (.inr ⟨by rfl, rfl⟩) ?_
    try go_frame
    refine tks (oi := ⟨_, _, _, _, _, _⟩) (v := undef) 35 rfl (.inr ⟨by rfl, rfl⟩) ?_
    try go_frame
    refine tks (oi := ⟨_, _, _, _, _, _⟩) (v := undef) 36 rfl (.inr ⟨by rfl, rfl⟩) ?_
    try go_frame
    refine tks (oi := ⟨_, _, _, _, _, _⟩) (v := undef) 37 rfl (.inr ⟨by rfl, rfl⟩) ?_
    try go_frame
    refine tks (oi := ⟨_, _, _, _, _, _⟩) (v := ?_) 38 rfl (.inl ⟨by rfl, ?_⟩) ?_; rotate_left
    · (intro wS hSw; (try dsimp only at hSw); go_simp); all_goals with_reducible rfl
    try go_frame
    refine tks (oi := ⟨_, _, _, _, _, _⟩) (v := ?_) 39 rfl (.inl ⟨by rfl, ?_⟩) ?_; rotate_left
    · (intro wS hSw; (try dsimp only at hSw); go_simp); all_goals with_reducible rfl
    try go_frame
    refine wpAnyH_done (by kernel_rfl) ?_ _
    clear hW1
    go_wp2_with fail
    go_ret
    exact ⟨by rw [← hv.out]; rfl, hbW.trans ((Below.refl _ W1).drew.mono (Nat.le_of_lt hzW))⟩
  have n1 : 1 ≤ x.level := by omega
  by_cases c2 : p.level + 1 < x.level
  · skip
    have hv : Hid (69 = V) := by
      show _ = _
      rw [← hV']
      unfold oneE
      have : placeE (some p) k x = 69 := by unfold placeE; exact if_pos (.inr (.inl c2))
      rw [this]; rfl
    have d1 : decide (x.level < 1) = false := by simp; omega
    have w1 : IntKind.i64.wrap (x.level - 1) = x.level - 1 := IntWalk.i64_in _ (by omega)
    have d2 : decide (p.level < x.level - 1) = true := by simp; omega
    have wk : IntKind.i64.wrap ((k : Int) - 1) = (k : Int) - 1 := IntWalk.i64_in _ (by omega)
    have kn : ((k : Int) - 1).toNat = k - 1 := by omega
    clear hV'
    go_enter Try.func29, Try.ntmps29
    go_wp2_with fail
    rw [← hW1.out]
    refine wp_region_held_drew (S := fun w' => w'.cell? ⟨w.heap.size, 0, none⟩ = some (.int .i64 x.level) ∧ w'.cell? (ad.add ((k - 1) * 5)) = some (.int .i64 p.level) ∧ w'.cell? ⟨(ad.add ((k - 1) * 5)).block, (ad.add ((k - 1) * 5)).off + 1, none⟩ = some (.int .i64 p.kind)) (by kernel_rfl) hS.out (fun hHeld => ?_)
    refine tks (oi := ⟨_, _, _, _, _, _⟩) (v := ?_) 0 rfl (.inl ⟨by rfl, ?_⟩) ?_; rotate_left
    · (intro wS hSw; (try dsimp only at hSw); go_simp); all_goals with_reducible rfl
    try go_frame
    refine tks (oi := ⟨_, _, _, _, _, _⟩) (v := ?_) 1 rfl (.inl ⟨by rfl, ?_⟩) ?_; rotate_left
    · (intro wS hSw; (try dsimp only at hSw); go_simp); all_goals with_reducible rfl
    try go_frame
    refine tks (oi := ⟨_, _, _, _, _, _⟩) (v := ?_) 2 rfl (.inl ⟨by rfl, ?_⟩) ?_; rotate_left
    · (intro wS hSw; (try dsimp only at hSw); go_simp); all_goals with_reducible rfl
    try go_frame
    refine tks (oi := ⟨_, _, _, _, _, _⟩) (v := ?_) 3 rfl (.inl ⟨by rfl, ?_⟩) ?_; rotate_left
    · (intro wS hSw; (try dsimp only at hSw); go_simp); all_goals with_reducible rfl
    try go_frame
    refine tks (oi := ⟨_, _, _, _, _, _⟩) (v := ?_) 4 rfl (.inl ⟨by rfl, ?_⟩) ?_; rotate_left
    · (intro wS hSw; (try dsimp only at hSw); go_simp); all_goals with_reducible rfl
    try go_frame
    refine tks (oi := ⟨_, _, _, _, _, _⟩) (v := ?_) 5 rfl (.inl ⟨by rfl, ?_⟩) ?_; rotate_left
    · (intro wS hSw; (try dsimp only at hSw); go_simp); all_goals with_reducible rfl
    try go_frame
    refine tks (oi := ⟨_, _, _, _, _, _⟩) (v := ?_) 6 rfl (.inl ⟨by rfl, ?_⟩) ?_; rotate_left
    · (intro wS hSw; (try dsimp only at hSw); go_simp); all_goals with_reducible rfl
    try go_frame
    refine tks (oi := ⟨_, _, _, _, _, _⟩) (v := ?_) 7 rfl (.inl ⟨by rfl, ?_⟩) ?_; rotate_left
    · (intro wS hSw; (try dsimp only at hSw); go_simp); all_goals with_reducible rfl
    try go_frame
    refine tks (oi := ⟨_, _, _, _, _, _⟩) (v := ?_) 8 rfl (.inl ⟨by rfl, ?_⟩) ?_; rotate_left
    · (intro wS hSw; (try dsimp only at hSw); go_simp); all_goals with_reducible rfl
    try go_frame
    refine tks (oi := ⟨_, _, _, _, _, _⟩) (v := ?_) 9 rfl (.inl ⟨by rfl, ?_⟩) ?_; rotate_left
    · (intro wS hSw; (try dsimp only at hSw); go_simp); all_goals with_reducible rfl
    try go_frame
    refine tks (oi := ⟨_, _, _, _, _, _⟩) (v := ?_) 10 rfl (.inl ⟨by rfl, ?_⟩) ?_; rotate_left
    · (intro wS hSw; (try dsimp only at hSw); go_simp); all_goals with_reducible rfl
    try go_frame
    refine tks (oi := ⟨_, _, _, _, _, _⟩) (v := ?_) 11 rfl (.inl ⟨by rfl, ?_⟩) ?_; rotate_left
    · (intro wS hSw; (try dsimp only at hSw); go_simp); all_goals with_reducible rfl
    try go_frame
    refine tks (oi := ⟨_, _, _, _, _, _⟩) (v := ?_) 12 rfl (.inl ⟨by rfl, ?_⟩) ?_; rotate_left
    · (intro wS hSw; (try dsimp only at hSw); go_simp); all_goals with_reducible rfl
    try go_frame
    refine tks (oi := ⟨_, _, _, _, _, _⟩) (v := ?_) 13 rfl (.inl ⟨by rfl, ?_⟩) ?_; rotate_left
    · (intro wS hSw; (try dsimp only at hSw); go_simp); all_goals with_reducible rfl
    try go_frame
    refine tks (oi := ⟨_, _, _, _, _, _⟩) (v := ?_) 14 rfl (.inl ⟨by rfl, ?_⟩) ?_; rotate_left
    · (intro wS hSw; (try dsimp only at hSw); go_simp); all_goals with_reducible rfl
    try go_frame
    refine tks (oi := ⟨_, _, _, _, _, _⟩) (v := ?_) 15 rfl (.inl ⟨by rfl, ?_⟩) ?_; rotate_left
    · (intro wS hSw; (try dsimp only at hSw); go_simp); all_goals with_reducible rfl
    try go_frame
    refine tks (oi := ⟨_, _, _, _, _, _⟩) (v := ?_) 16 rfl (.inl ⟨by rfl, ?_⟩) ?_; rotate_left
    · (intro wS hSw; (try dsimp only at hSw); go_simp); all_goals with_reducible rfl
    try go_frame
    refine tks (oi := ⟨_, _, _, _, _, _⟩) (v := ?_) 17 rfl (.inl ⟨by rfl, ?_⟩) ?_; rotate_left
    · (intro wS hSw; (try dsimp only at hSw); go_simp); all_goals with_reducible rfl
    try go_frame
    refine tks (oi := ⟨_, _, _, _, _, _⟩) (v := ?_) 18 rfl (.inl ⟨by rfl, ?_⟩) ?_; rotate_left
    · (intro wS hSw; (try dsimp only at hSw); go_simp); all_goals with_reducible rfl
    try go_frame
    refine tks (oi := ⟨_, _, _, _, _, _⟩) (v := undef) 19 rfl (.inr ⟨by rfl, rfl⟩) ?_
    try go_frame
    refine tks (oi := ⟨_, _, _, _, _, _⟩) (v := undef) 20 rfl (.inr ⟨by rfl, rfl⟩) ?_
    try go_frame
    refine tks (oi := ⟨_, _, _, _, _, _⟩) (v := undef) 21 rfl (.inr ⟨by rfl, rfl⟩) ?_
    try go_frame
    refine tks (oi := ⟨_, _, _, _, _, _⟩) (v := undef) 22 rfl (.inr ⟨by rfl, rfl⟩) ?_
    try go_frame
    refine tks (oi := ⟨_, _, _, _, _, _⟩) (v := undef) 23 rfl (.inr ⟨by rfl, rfl⟩) ?_
    try go_frame
    refine tks (oi := ⟨_, _, _, _, _, _⟩) (v := undef) 24 rfl (.inr ⟨by rfl, rfl⟩) ?_
    try go_frame
    refine tks (oi := ⟨_, _, _, _, _, _⟩) (v := undef) 25 rfl (.inr ⟨by rfl, rfl⟩) ?_
    try go_frame
    refine tks (oi := ⟨_, _, _, _, _, _⟩) (v := undef) 26 rfl (.inr ⟨by rfl, rfl⟩) ?_
    try go_frame
    refine tks (oi := ⟨_, _, _, _, _, _⟩) (v := undef) 27 rfl (.inr ⟨by rfl, rfl⟩) ?_
    try go_frame
    refine tks (oi := ⟨_, _, _, _, _, _⟩) (v := undef) 28 rfl (.inr ⟨by rfl, rfl⟩) ?_
    try go_frame
    refine tks (oi := ⟨_, _, _, _, _, _⟩) (v := undef) 29 rfl (.inr ⟨by rfl, rfl⟩) ?_
    try go_frame
    refine tks (oi := ⟨_, _, _, _, _, _⟩) (v := undef) 30 rfl (.inr ⟨by rfl, rfl⟩) ?_
    try go_frame
    refine tks (oi := ⟨_, _, _, _, _, _⟩) (v := undef) 31 rfl (.inr ⟨by rfl, rfl⟩) ?_
    try go_frame
    refine tks (oi := ⟨_, _, _, _, _, _⟩) (v := undef) 32 rfl (.inr ⟨by rfl, rfl⟩) ?_
    try go_frame
    refine tks (oi := ⟨_, _, _, _, _, _⟩) (v := undef) 33 rfl (.inr ⟨by rfl, rfl⟩) ?_
    try go_frame
    refine tks (oi := ⟨_, _, _, _, _, _⟩) (v := undef) 34 rfl (.inr ⟨by rfl, rfl⟩) ?_
    try go_frame
    refine tks (oi := ⟨_, _, _, _, _, _⟩) (v := undef) 35 rfl (.inr ⟨by rfl, rfl⟩) ?_
    try go_frame
    refine tks (oi := ⟨_, _, _, _, _, _⟩) (v := undef) 36 rfl (.inr ⟨by rfl, rfl⟩) ?_
    try go_frame
    refine tks (oi := ⟨_, _, _, _, _, _⟩) (v := undef) 37 rfl (.inr ⟨by rfl, rfl⟩) ?_
    try go_frame
    refine tks (oi := ⟨_, _, _, _, _, _⟩) (v := ?_) 38 rfl (.inl ⟨by rfl, ?_⟩) ?_; rotate_left
    · (intro wS hSw; (try dsimp only at hSw); go_simp); all_goals with_reducible rfl
    try go_frame
    refine tks (oi := ⟨_, _, _, _, _, _⟩) (v := ?_) 39 rfl (.inl ⟨by rfl, ?_⟩) ?_; rotate_left
    · (intro wS hSw; (try dsimp only at hSw); go_simp); all_goals with_reducible rfl
    try go_frame
    refine wpAnyH_done (by kernel_rfl) ?_ _
    clear hW1
    go_wp2_with fail
    go_ret
    exact ⟨by rw [← hv.out]; rfl, hbW.trans ((Below.refl _ W1).drew.mono (Nat.le_of_lt hzW))⟩
  by_cases c3 : p.level < x.level
  · by_cases c4 : p.kind = 2
    · skip
      have hv : Hid (69 = V) := by
        show _ = _
        rw [← hV']
        unfold oneE
        have : placeE (some p) k x = 69 := by unfold placeE; exact if_pos (.inr (.inr ⟨c3, c4⟩))
        rw [this]; rfl
      have d1 : decide (x.level < 1) = false := by simp; omega
      have w1 : IntKind.i64.wrap (x.level - 1) = x.level - 1 := IntWalk.i64_in _ (by omega)
      have d2 : decide (p.level < x.level - 1) = false := by simp; omega
      have d3 : (x.level - 1 == p.level) = true := by simp; omega
      have d4 : (p.kind == 2) = true := by simp [c4]
      have wk : IntKind.i64.wrap ((k : Int) - 1) = (k : Int) - 1 := IntWalk.i64_in _ (by omega)
      have kn : ((k : Int) - 1).toNat = k - 1 := by omega
      clear hV'
      go_enter Try.func29, Try.ntmps29
      go_wp2_with fail
      rw [← hW1.out]
      refine wp_region_held_drew (S := fun w' => w'.cell? ⟨w.heap.size, 0, none⟩ = some (.int .i64 x.level) ∧ w'.cell? (ad.add ((k - 1) * 5)) = some (.int .i64 p.level) ∧ w'.cell? ⟨(ad.add ((k - 1) * 5)).block, (ad.add ((k - 1) * 5)).off + 1, none⟩ = some (.int .i64 p.kind)) (by kernel_rfl) hS.out (fun hHeld => ?_)
      refine tks (oi := ⟨_, _, _, _, _, _⟩) (v := ?_) 0 rfl (.inl ⟨by rfl, ?_⟩) ?_; rotate_left
      · (intro wS hSw; (try dsimp only at hSw); go_simp); all_goals with_reducible rfl
      try go_frame
      refine tks (oi := ⟨_, _, _, _, _, _⟩) (v := ?_) 1 rfl (.inl ⟨by rfl, ?_⟩) ?_; rotate_left
      · (intro wS hSw; (try dsimp only at hSw); go_simp); all_goals with_reducible rfl
      try go_frame
      refine tks (oi := ⟨_, _, _, _, _, _⟩) (v := ?_) 2 rfl (.inl ⟨by rfl, ?_⟩) ?_; rotate_left
      · (intro wS hSw; (try dsimp only at hSw); go_simp); all_goals with_reducible rfl
      try go_frame
      refine tks (oi := ⟨_, _, _, _, _, _⟩) (v := ?_) 3 rfl (.inl ⟨by rfl, ?_⟩) ?_; rotate_left
      · (intro wS hSw; (try dsimp only at hSw); go_simp); all_goals with_reducible rfl
      try go_frame
      refine tks (oi := ⟨_, _, _, _, _, _⟩) (v := ?_) 4 rfl (.inl ⟨by rfl, ?_⟩) ?_; rotate_left
      · (intro wS hSw; (try dsimp only at hSw); go_simp); all_goals with_reducible rfl
      try go_frame
      refine tks (oi := ⟨_, _, _, _, _, _⟩) (v := ?_) 5 rfl (.inl ⟨by rfl, ?_⟩) ?_; rotate_left
      · (intro wS hSw; (try dsimp only at hSw); go_simp); all_goals with_reducible rfl
      try go_frame
      refine tks (oi := ⟨_, _, _, _, _, _⟩) (v := ?_) 6 rfl (.inl ⟨by rfl, ?_⟩) ?_; rotate_left
      · (intro wS hSw; (try dsimp only at hSw); go_simp); all_goals with_reducible rfl
      try go_frame
      refine tks (oi := ⟨_, _, _, _, _, _⟩) (v := ?_) 7 rfl (.inl ⟨by rfl, ?_⟩) ?_; rotate_left
      · (intro wS hSw; (try dsimp only at hSw); go_simp); all_goals with_reducible rfl
      try go_frame
      refine tks (oi := ⟨_, _, _, _, _, _⟩) (v := ?_) 8 rfl (.inl ⟨by rfl, ?_⟩) ?_; rotate_left
      · (intro wS hSw; (try dsimp only at hSw); go_simp); all_goals with_reducible rfl
      try go_frame
      refine tks (oi := ⟨_, _, _, _, _, _⟩) (v := ?_) 9 rfl (.inl ⟨by rfl, ?_⟩) ?_; rotate_left
      · (intro wS hSw; (try dsimp only at hSw); go_simp); all_goals with_reducible rfl
      try go_frame
      refine tks (oi := ⟨_, _, _, _, _, _⟩) (v := ?_) 10 rfl (.inl ⟨by rfl, ?_⟩) ?_; rotate_left
      · (intro wS hSw; (try dsimp only at hSw); go_simp); all_goals with_reducible rfl
      try go_frame
      refine tks (oi := ⟨_, _, _, _, _, _⟩) (v := ?_) 11 rfl (.inl ⟨by rfl, ?_⟩) ?_; rotate_left
      · (intro wS hSw; (try dsimp only at hSw); go_simp); all_goals with_reducible rfl
      try go_frame
      refine tks (oi := ⟨_, _, _, _, _, _⟩) (v := ?_) 12 rfl (.inl ⟨by rfl, ?_⟩) ?_; rotate_left
      · (intro wS hSw; (try dsimp only at hSw); go_simp); all_goals with_reducible rfl
      try go_frame
      refine tks (oi := ⟨_, _, _, _, _, _⟩) (v := ?_) 13 rfl (.inl ⟨by rfl, ?_⟩) ?_; rotate_left
      · (intro wS hSw; (try dsimp only at hSw); go_simp); all_goals with_reducible rfl
      try go_frame
      refine tks (oi := ⟨_, _, _, _, _, _⟩) (v := ?_) 14 rfl (.inl ⟨by rfl, ?_⟩) ?_; rotate_left
      · (intro wS hSw; (try dsimp only at hSw); go_simp); all_goals with_reducible rfl
      try go_frame
      refine tks (oi := ⟨_, _, _, _, _, _⟩) (v := ?_) 15 rfl (.inl ⟨by rfl, ?_⟩) ?_; rotate_left
      · (intro wS hSw; (try dsimp only at hSw); go_simp); all_goals with_reducible rfl
      try go_frame
      refine tks (oi := ⟨_, _, _, _, _, _⟩) (v := ?_) 16 rfl (.inl ⟨by rfl, ?_⟩) ?_; rotate_left
      · (intro wS hSw; (try dsimp only at hSw); go_simp); all_goals with_reducible rfl
      try go_frame
      refine tks (oi := ⟨_, _, _, _, _, _⟩) (v := ?_) 17 rfl (.inl ⟨by rfl, ?_⟩) ?_; rotate_left
      · (intro wS hSw; (try dsimp only at hSw); go_simp); all_goals with_reducible rfl
      try go_frame
      refine tks (oi := ⟨_, _, _, _, _, _⟩) (v := ?_) 18 rfl (.inl ⟨by rfl, ?_⟩) ?_; rotate_left
      · (intro wS hSw; (try dsimp only at hSw); go_simp); all_goals with_reducible rfl
      try go_frame
      refine tks (oi := ⟨_, _, _, _, _, _⟩) (v := ?_) 19 rfl (.inl ⟨by rfl, ?_⟩) ?_; rotate_left
      · (intro wS hSw; (try dsimp only at hSw); go_simp); all_goals with_reducible rfl
      try go_frame
      refine tks (oi := ⟨_, _, _, _, _, _⟩) (v := ?_) 20 rfl (.inl ⟨by rfl, ?_⟩) ?_; rotate_left
      · (intro wS hSw; (try dsimp only at hSw); go_simp); all_goals with_reducible rfl
      try go_frame
      refine tks (oi := ⟨_, _, _, _, _, _⟩) (v := ?_) 21 rfl (.inl ⟨by rfl, ?_⟩) ?_; rotate_left
      · (intro wS hSw; (try dsimp only at hSw); go_simp); all_goals with_reducible rfl
      try go_frame
      refine tks (oi := ⟨_, _, _, _, _, _⟩) (v := ?_) 22 rfl (.inl ⟨by rfl, ?_⟩) ?_; rotate_left
      · (intro wS hSw; (try dsimp only at hSw); go_simp); all_goals with_reducible rfl
      try go_frame
      refine tks (oi := ⟨_, _, _, _, _, _⟩) (v := ?_) 23 rfl (.inl ⟨by rfl, ?_⟩) ?_; rotate_left
      · (intro wS hSw; (try dsimp only at hSw); go_simp); all_goals with_reducible rfl
      try go_frame
      refine tks (oi := ⟨_, _, _, _, _, _⟩) (v := ?_) 24 rfl (.inl ⟨by rfl, ?_⟩) ?_; rotate_left
      · (intro wS hSw; (try dsimp only at hSw); go_simp); all_goals with_reducible rfl
      try go_frame
      refine tks (oi := ⟨_, _, _, _, _, _⟩) (v := ?_) 25 rfl (.inl ⟨by rfl, ?_⟩) ?_; rotate_left
      · (intro wS hSw; (try dsimp only at hSw); go_simp); all_goals with_reducible rfl
      try go_frame
      refine tks (oi := ⟨_, _, _, _, _, _⟩) (v := ?_) 26 rfl (.inl ⟨by rfl, ?_⟩) ?_; rotate_left
      · (intro wS hSw; (try dsimp only at hSw); go_simp); all_goals with_reducible rfl
      try go_frame
      refine tks (oi := ⟨_, _, _, _, _, _⟩) (v := ?_) 27 rfl (.inl ⟨by rfl, ?_⟩) ?_; rotate_left
      · (intro wS hSw; (try dsimp only at hSw); go_simp); all_goals with_reducible rfl
      try go_frame
      refine tks (oi := ⟨_, _, _, _, _, _⟩) (v := ?_) 28 rfl (.inl ⟨by rfl, ?_⟩) ?_; rotate_left
      · (intro wS hSw; (try dsimp only at hSw); go_simp); all_goals with_reducible rfl
      try go_frame
      refine tks (oi := ⟨_, _, _, _, _, _⟩) (v := ?_) 29 rfl (.inl ⟨by rfl, ?_⟩) ?_; rotate_left
      · (intro wS hSw; (try dsimp only at hSw); go_simp); all_goals with_reducible rfl
      try go_frame
      refine tks (oi := ⟨_, _, _, _, _, _⟩) (v := ?_) 30 rfl (.inl ⟨by rfl, ?_⟩) ?_; rotate_left
      · (intro wS hSw; (try dsimp only at hSw); go_simp); all_goals with_reducible rfl
      try go_frame
      refine tks (oi := ⟨_, _, _, _, _, _⟩) (v := ?_) 31 rfl (.inl ⟨by rfl, ?_⟩) ?_; rotate_left
      · (intro wS hSw; (try dsimp only at hSw); go_simp); all_goals with_reducible rfl
      try go_frame
      refine tks (oi := ⟨_, _, _, _, _, _⟩) (v := ?_) 32 rfl (.inl ⟨by rfl, ?_⟩) ?_; rotate_left
      · (intro wS hSw; (try dsimp only at hSw); go_simp); all_goals with_reducible rfl
      try go_frame
      refine tks (oi := ⟨_, _, _, _, _, _⟩) (v := ?_) 33 rfl (.inl ⟨by rfl, ?_⟩) ?_; rotate_left
      · (intro wS hSw; (try dsimp only at hSw); go_simp); all_goals with_reducible rfl
      try go_frame
      refine tks (oi := ⟨_, _, _, _, _, _⟩) (v := ?_) 34 rfl (.inl ⟨by rfl, ?_⟩) ?_; rotate_left
      · (intro wS hSw; (try dsimp only at hSw); go_simp); all_goals with_reducible rfl
      try go_frame
      refine tks (oi := ⟨_, _, _, _, _, _⟩) (v := ?_) 35 rfl (.inl ⟨by rfl, ?_⟩) ?_; rotate_left
      · (intro wS hSw; (try dsimp only at hSw); go_simp); all_goals with_reducible rfl
      try go_frame
      refine tks (oi := ⟨_, _, _, _, _, _⟩) (v := ?_) 36 rfl (.inl ⟨by rfl, ?_⟩) ?_; rotate_left
      · (intro wS hSw; (try dsimp only at hSw); go_simp); all_goals with_reducible rfl
      try go_frame
      refine tks (oi := ⟨_, _, _, _, _, _⟩) (v := ?_) 37 rfl (.inl ⟨by rfl, ?_⟩) ?_; rotate_left
      · (intro wS hSw; (try dsimp only at hSw); go_simp); all_goals with_reducible rfl
      try go_frame
      refine tks (oi := ⟨_, _, _, _, _, _⟩) (v := ?_) 38 rfl (.inl ⟨by rfl, ?_⟩) ?_; rotate_left
      · (intro wS hSw; (try dsimp only at hSw); go_simp); all_goals with_reducible rfl
      try go_frame
      refine tks (oi := ⟨_, _, _, _, _, _⟩) (v := ?_) 39 rfl (.inl ⟨by rfl, ?_⟩) ?_; rotate_left
      · (intro wS hSw; (try dsimp only at hSw); go_simp); all_goals with_reducible rfl
      try go_frame
      refine wpAnyH_done (by kernel_rfl) ?_ _
      clear hW1
      go_wp2_with fail
      go_ret
      exact ⟨by rw [← hv.out]; rfl, hbW.trans ((Below.refl _ W1).drew.mono (Nat.le_of_lt hzW))⟩
    · skip
      have hpl : placeE (some p) k x = (if 40 ≤ x.level then (42 : Int) else if 1000 ≤ k then 43 else 0) := by unfold placeE; exact if_neg (by omega)
      have hv' : Hid ((if (if 40 ≤ x.level then (42 : Int) else if 1000 ≤ k then 43 else 0) = 0 then partsE x else (if 40 ≤ x.level then (42 : Int) else if 1000 ≤ k then 43 else 0)) = V) := by show _ = _; rw [← hV']; unfold oneE; rw [hpl]
      clear hpl
      have d1 : decide (x.level < 1) = false := by simp; omega
      have w1 : IntKind.i64.wrap (x.level - 1) = x.level - 1 := IntWalk.i64_in _ (by omega)
      have d2 : decide (p.level < x.level - 1) = false := by simp; omega
      have d3 : (x.level - 1 == p.level) = true := by simp; omega
      have d4 : (p.kind == 2) = false := by simp [c4]
      have wk : IntKind.i64.wrap ((k : Int) - 1) = (k : Int) - 1 := IntWalk.i64_in _ (by omega)
      have kn : ((k : Int) - 1).toNat = k - 1 := by omega
      clear hV'
      go_enter Try.func29, Try.ntmps29
      go_wp2_with fail
      rw [← hW1.out]
      refine wp_region_held_drew (S := fun w' => w'.cell? ⟨w.heap.size, 0, none⟩ = some (.int .i64 x.level) ∧ w'.cell? (ad.add ((k - 1) * 5)) = some (.int .i64 p.level) ∧ w'.cell? ⟨(ad.add ((k - 1) * 5)).block, (ad.add ((k - 1) * 5)).off + 1, none⟩ = some (.int .i64 p.kind)) (by kernel_rfl) hS.out (fun hHeld => ?_)
      refine tks (oi := ⟨_, _, _, _, _, _⟩) (v := ?_) 0 rfl (.inl ⟨by rfl, ?_⟩) ?_; rotate_left
      · (intro wS hSw; (try dsimp only at hSw); go_simp); all_goals with_reducible rfl
      try go_frame
      refine tks (oi := ⟨_, _, _, _, _, _⟩) (v := ?_) 1 rfl (.inl ⟨by rfl, ?_⟩) ?_; rotate_left
      · (intro wS hSw; (try dsimp only at hSw); go_simp); all_goals with_reducible rfl
      try go_frame
      refine tks (oi := ⟨_, _, _, _, _, _⟩) (v := ?_) 2 rfl (.inl ⟨by rfl, ?_⟩) ?_; rotate_left
      · (intro wS hSw; (try dsimp only at hSw); go_simp); all_goals with_reducible rfl
      try go_frame
      refine tks (oi := ⟨_, _, _, _, _, _⟩) (v := ?_) 3 rfl (.inl ⟨by rfl, ?_⟩) ?_; rotate_left
      · (intro wS hSw; (try dsimp only at hSw); go_simp); all_goals with_reducible rfl
      try go_frame
      refine tks (oi := ⟨_, _, _, _, _, _⟩) (v := ?_) 4 rfl (.inl ⟨by rfl, ?_⟩) ?_; rotate_left
      · (intro wS hSw; (try dsimp only at hSw); go_simp); all_goals with_reducible rfl
      try go_frame
      refine tks (oi := ⟨_, _, _, _, _, _⟩) (v := ?_) 5 rfl (.inl ⟨by rfl, ?_⟩) ?_; rotate_left
      · (intro wS hSw; (try dsimp only at hSw); go_simp); all_goals with_reducible rfl
      try go_frame
      refine tks (oi := ⟨_, _, _, _, _, _⟩) (v := ?_) 6 rfl (.inl ⟨by rfl, ?_⟩) ?_; rotate_left
      · (intro wS hSw; (try dsimp only at hSw); go_simp); all_goals with_reducible rfl
      try go_frame
      refine tks (oi := ⟨_, _, _, _, _, _⟩) (v := ?_) 7 rfl (.inl ⟨by rfl, ?_⟩) ?_; rotate_left
      · (intro wS hSw; (try dsimp only at hSw); go_simp); all_goals with_reducible rfl
      try go_frame
      refine tks (oi := ⟨_, _, _, _, _, _⟩) (v := ?_) 8 rfl (.inl ⟨by rfl, ?_⟩) ?_; rotate_left
      · (intro wS hSw; (try dsimp only at hSw); go_simp); all_goals with_reducible rfl
      try go_frame
      refine tks (oi := ⟨_, _, _, _, _, _⟩) (v := ?_) 9 rfl (.inl ⟨by rfl, ?_⟩) ?_; rotate_left
      · (intro wS hSw; (try dsimp only at hSw); go_simp); all_goals with_reducible rfl
      try go_frame
      refine tks (oi := ⟨_, _, _, _, _, _⟩) (v := ?_) 10 rfl (.inl ⟨by rfl, ?_⟩) ?_; rotate_left
      · (intro wS hSw; (try dsimp only at hSw); go_simp); all_goals with_reducible rfl
      try go_frame
      refine tks (oi := ⟨_, _, _, _, _, _⟩) (v := ?_) 11 rfl (.inl ⟨by rfl, ?_⟩) ?_; rotate_left
      · (intro wS hSw; (try dsimp only at hSw); go_simp); all_goals with_reducible rfl
      try go_frame
      refine tks (oi := ⟨_, _, _, _, _, _⟩) (v := ?_) 12 rfl (.inl ⟨by rfl, ?_⟩) ?_; rotate_left
      · (intro wS hSw; (try dsimp only at hSw); go_simp); all_goals with_reducible rfl
      try go_frame
      refine tks (oi := ⟨_, _, _, _, _, _⟩) (v := ?_) 13 rfl (.inl ⟨by rfl, ?_⟩) ?_; rotate_left
      · (intro wS hSw; (try dsimp only at hSw); go_simp); all_goals with_reducible rfl
      try go_frame
      refine tks (oi := ⟨_, _, _, _, _, _⟩) (v := ?_) 14 rfl (.inl ⟨by rfl, ?_⟩) ?_; rotate_left
      · (intro wS hSw; (try dsimp only at hSw); go_simp); all_goals with_reducible rfl
      try go_frame
      refine tks (oi := ⟨_, _, _, _, _, _⟩) (v := ?_) 15 rfl (.inl ⟨by rfl, ?_⟩) ?_; rotate_left
      · (intro wS hSw; (try dsimp only at hSw); go_simp); all_goals with_reducible rfl
      try go_frame
      refine tks (oi := ⟨_, _, _, _, _, _⟩) (v := ?_) 16 rfl (.inl ⟨by rfl, ?_⟩) ?_; rotate_left
      · (intro wS hSw; (try dsimp only at hSw); go_simp); all_goals with_reducible rfl
      try go_frame
      refine tks (oi := ⟨_, _, _, _, _, _⟩) (v := ?_) 17 rfl (.inl ⟨by rfl, ?_⟩) ?_; rotate_left
      · (intro wS hSw; (try dsimp only at hSw); go_simp); all_goals with_reducible rfl
      try go_frame
      refine tks (oi := ⟨_, _, _, _, _, _⟩) (v := ?_) 18 rfl (.inl ⟨by rfl, ?_⟩) ?_; rotate_left
      · (intro wS hSw; (try dsimp only at hSw); go_simp); all_goals with_reducible rfl
      try go_frame
      refine tks (oi := ⟨_, _, _, _, _, _⟩) (v := ?_) 19 rfl (.inl ⟨by rfl, ?_⟩) ?_; rotate_left
      · (intro wS hSw; (try dsimp only at hSw); go_simp); all_goals with_reducible rfl
      try go_frame
      refine tks (oi := ⟨_, _, _, _, _, _⟩) (v := ?_) 20 rfl (.inl ⟨by rfl, ?_⟩) ?_; rotate_left
      · (intro wS hSw; (try dsimp only at hSw); go_simp); all_goals with_reducible rfl
      try go_frame
      refine tks (oi := ⟨_, _, _, _, _, _⟩) (v := ?_) 21 rfl (.inl ⟨by rfl, ?_⟩) ?_; rotate_left
      · (intro wS hSw; (try dsimp only at hSw); go_simp); all_goals with_reducible rfl
      try go_frame
      refine tks (oi := ⟨_, _, _, _, _, _⟩) (v := ?_) 22 rfl (.inl ⟨by rfl, ?_⟩) ?_; rotate_left
      · (intro wS hSw; (try dsimp only at hSw); go_simp); all_goals with_reducible rfl
      try go_frame
      refine tks (oi := ⟨_, _, _, _, _, _⟩) (v := ?_) 23 rfl (.inl ⟨by rfl, ?_⟩) ?_; rotate_left
      · (intro wS hSw; (try dsimp only at hSw); go_simp); all_goals with_reducible rfl
      try go_frame
      refine tks (oi := ⟨_, _, _, _, _, _⟩) (v := ?_) 24 rfl (.inl ⟨by rfl, ?_⟩) ?_; rotate_left
      · (intro wS hSw; (try dsimp only at hSw); go_simp); all_goals with_reducible rfl
      try go_frame
      refine tks (oi := ⟨_, _, _, _, _, _⟩) (v := ?_) 25 rfl (.inl ⟨by rfl, ?_⟩) ?_; rotate_left
      · (intro wS hSw; (try dsimp only at hSw); go_simp); all_goals with_reducible rfl
      try go_frame
      refine tks (oi := ⟨_, _, _, _, _, _⟩) (v := ?_) 26 rfl (.inl ⟨by rfl, ?_⟩) ?_; rotate_left
      · (intro wS hSw; (try dsimp only at hSw); go_simp); all_goals with_reducible rfl
      try go_frame
      refine tks (oi := ⟨_, _, _, _, _, _⟩) (v := ?_) 27 rfl (.inl ⟨by rfl, ?_⟩) ?_; rotate_left
      · (intro wS hSw; (try dsimp only at hSw); go_simp); all_goals with_reducible rfl
      try go_frame
      refine tks (oi := ⟨_, _, _, _, _, _⟩) (v := ?_) 28 rfl (.inl ⟨by rfl, ?_⟩) ?_; rotate_left
      · (intro wS hSw; (try dsimp only at hSw); go_simp); all_goals with_reducible rfl
      try go_frame
      refine tks (oi := ⟨_, _, _, _, _, _⟩) (v := ?_) 29 rfl (.inl ⟨by rfl, ?_⟩) ?_; rotate_left
      · (intro wS hSw; (try dsimp only at hSw); go_simp); all_goals with_reducible rfl
      try go_frame
      refine tks (oi := ⟨_, _, _, _, _, _⟩) (v := ?_) 30 rfl (.inl ⟨by rfl, ?_⟩) ?_; rotate_left
      · (intro wS hSw; (try dsimp only at hSw); go_simp); all_goals with_reducible rfl
      try go_frame
      refine tks (oi := ⟨_, _, _, _, _, _⟩) (v := ?_) 31 rfl (.inl ⟨by rfl, ?_⟩) ?_; rotate_left
      · (intro wS hSw; (try dsimp only at hSw); go_simp); all_goals with_reducible rfl
      try go_frame
      refine tks (oi := ⟨_, _, _, _, _, _⟩) (v := ?_) 32 rfl (.inl ⟨by rfl, ?_⟩) ?_; rotate_left
      · (intro wS hSw; (try dsimp only at hSw); go_simp); all_goals with_reducible rfl
      try go_frame
      refine tks (oi := ⟨_, _, _, _, _, _⟩) (v := ?_) 33 rfl (.inl ⟨by rfl, ?_⟩) ?_; rotate_left
      · (intro wS hSw; (try dsimp only at hSw); go_simp); all_goals with_reducible rfl
      try go_frame
      refine tks (oi := ⟨_, _, _, _, _, _⟩) (v := ?_) 34 rfl (.inl ⟨by rfl, ?_⟩) ?_; rotate_left
      · (intro wS hSw; (try dsimp only at hSw); go_simp); all_goals with_reducible rfl
      try go_frame
      refine tks (oi := ⟨_, _, _, _, _, _⟩) (v := ?_) 35 rfl (.inl ⟨by rfl, ?_⟩) ?_; rotate_left
      · (intro wS hSw; (try dsimp only at hSw); go_simp); all_goals with_reducible rfl
      try go_frame
      refine tks (oi := ⟨_, _, _, _, _, _⟩) (v := ?_) 36 rfl (.inl ⟨by rfl, ?_⟩) ?_; rotate_left
      · (intro wS hSw; (try dsimp only at hSw); go_simp); all_goals with_reducible rfl
      try go_frame
      refine tks (oi := ⟨_, _, _, _, _, _⟩) (v := ?_) 37 rfl (.inl ⟨by rfl, ?_⟩) ?_; rotate_left
      · (intro wS hSw; (try dsimp only at hSw); go_simp); all_goals with_reducible rfl
      try go_frame
      refine tks (oi := ⟨_, _, _, _, _, _⟩) (v := ?_) 38 rfl (.inl ⟨by rfl, ?_⟩) ?_; rotate_left
      · (intro wS hSw; (try dsimp only at hSw); go_simp); all_goals with_reducible rfl
      try go_frame
      refine tks (oi := ⟨_, _, _, _, _, _⟩) (v := ?_) 39 rfl (.inl ⟨by rfl, ?_⟩) ?_; rotate_left
      · (intro wS hSw; (try dsimp only at hSw); go_simp); all_goals with_reducible rfl
      try go_frame
      refine wpAnyH_done (by kernel_rfl) ?_ _
      clear hW1 wk kn w1 t0 t1 t2 d1 d2 d3
      have hbD : Below W1.heap.size W1 W1.drew := (Below.refl _ W1).drew
      obtain ⟨e0, e1, e2, e3, e4⟩ := hcs.out _ hbD
      have hbD' := hbW.trans (hbD.mono (Nat.le_of_lt hzW))
      by_cases l40 : 40 ≤ x.level
      · have hv : Hid (42 = V) := by show _ = _; rw [← hv'.out, if_pos l40]; rfl
        clear hv'
        go_wp2_with fail
        go_ret
        exact ⟨by rw [← hv.out]; rfl, hbD'⟩
      by_cases k1000 : 1000 ≤ k
      · have hv : Hid (43 = V) := by show _ = _; rw [← hv'.out, if_neg l40, if_pos k1000]; rfl
        clear hv'
        have k1' : (1000 : Int) ≤ k := by omega
        go_wp2_with fail
        go_ret
        exact ⟨by rw [← hv.out]; rfl, hbD'⟩
      have hv : Hid (partsE x = V) := by show _ = _; rw [← hv'.out, if_neg l40, if_neg k1000, if_pos rfl]
      clear hv'
      have k1' : (k : Int) < 1000 := by omega
      have l40' : x.level < 40 := by omega
      go_wp2_with fail
      refine (RParts_any x A' c' _ ?_ HS.out V hv).mono ?_
      · exact (HAT.out.below hbD').more hbD'.size
      rintro e w3 ⟨rfl, hb3⟩
      go_wp2_with fail
      go_ret
      exact ⟨rfl, hbD'.trans (hb3.mono hbD'.size)⟩
  · skip
    have hpl : placeE (some p) k x = (if 40 ≤ x.level then (42 : Int) else if 1000 ≤ k then 43 else 0) := by unfold placeE; exact if_neg (by omega)
    have hv' : Hid ((if (if 40 ≤ x.level then (42 : Int) else if 1000 ≤ k then 43 else 0) = 0 then partsE x else (if 40 ≤ x.level then (42 : Int) else if 1000 ≤ k then 43 else 0)) = V) := by show _ = _; rw [← hV']; unfold oneE; rw [hpl]
    clear hpl
    have d1 : decide (x.level < 1) = false := by simp; omega
    have w1 : IntKind.i64.wrap (x.level - 1) = x.level - 1 := IntWalk.i64_in _ (by omega)
    have d2 : decide (p.level < x.level - 1) = false := by simp; omega
    have d3 : (x.level - 1 == p.level) = false := by simp; omega
    have wk : IntKind.i64.wrap ((k : Int) - 1) = (k : Int) - 1 := IntWalk.i64_in _ (by omega)
    have kn : ((k : Int) - 1).toNat = k - 1 := by omega
    clear hV'
    go_enter Try.func29, Try.ntmps29
    go_wp2_with fail
    rw [← hW1.out]
    refine wp_region_held_drew (S := fun w' => w'.cell? ⟨w.heap.size, 0, none⟩ = some (.int .i64 x.level) ∧ w'.cell? (ad.add ((k - 1) * 5)) = some (.int .i64 p.level) ∧ w'.cell? ⟨(ad.add ((k - 1) * 5)).block, (ad.add ((k - 1) * 5)).off + 1, none⟩ = some (.int .i64 p.kind)) (by kernel_rfl) hS.out (fun hHeld => ?_)
    refine tks (oi := ⟨_, _, _, _, _, _⟩) (v := ?_) 0 rfl (.inl ⟨by rfl, ?_⟩) ?_; rotate_left
    · (intro wS hSw; (try dsimp only at hSw); go_simp); all_goals with_reducible rfl
    try go_frame
    refine tks (oi := ⟨_, _, _, _, _, _⟩) (v := ?_) 1 rfl (.inl ⟨by rfl, ?_⟩) ?_; rotate_left
    · (intro wS hSw; (try dsimp only at hSw); go_simp); all_goals with_reducible rfl
    try go_frame
    refine tks (oi := ⟨_, _, _, _, _, _⟩) (v := ?_) 2 rfl (.inl ⟨by rfl, ?_⟩) ?_; rotate_left
    · (intro wS hSw; (try dsimp only at hSw); go_simp); all_goals with_reducible rfl
    try go_frame
    refine tks (oi := ⟨_, _, _, _, _, _⟩) (v := ?_) 3 rfl (.inl ⟨by rfl, ?_⟩) ?_; rotate_left
    · (intro wS hSw; (try dsimp only at hSw); go_simp); all_goals with_reducible rfl
    try go_frame
    refine tks (oi := ⟨_, _, _, _, _, _⟩) (v := ?_) 4 rfl (.inl ⟨by rfl, ?_⟩) ?_; rotate_left
    · (intro wS hSw; (try dsimp only at hSw); go_simp); all_goals with_reducible rfl
    try go_frame
    refine tks (oi := ⟨_, _, _, _, _, _⟩) (v := ?_) 5 rfl (.inl ⟨by rfl, ?_⟩) ?_; rotate_left
    · (intro wS hSw; (try dsimp only at hSw); go_simp); all_goals with_reducible rfl
    try go_frame
    refine tks (oi := ⟨_, _, _, _, _, _⟩) (v := ?_) 6 rfl (.inl ⟨by rfl, ?_⟩) ?_; rotate_left
    · (intro wS hSw; (try dsimp only at hSw); go_simp); all_goals with_reducible rfl
    try go_frame
    refine tks (oi := ⟨_, _, _, _, _, _⟩) (v := ?_) 7 rfl (.inl ⟨by rfl, ?_⟩) ?_; rotate_left
    · (intro wS hSw; (try dsimp only at hSw); go_simp); all_goals with_reducible rfl
    try go_frame
    refine tks (oi := ⟨_, _, _, _, _, _⟩) (v := ?_) 8 rfl (.inl ⟨by rfl, ?_⟩) ?_; rotate_left
    · (intro wS hSw; (try dsimp only at hSw); go_simp); all_goals with_reducible rfl
    try go_frame
    refine tks (oi := ⟨_, _, _, _, _, _⟩) (v := ?_) 9 rfl (.inl ⟨by rfl, ?_⟩) ?_; rotate_left
    · (intro wS hSw; (try dsimp only at hSw); go_simp); all_goals with_reducible rfl
    try go_frame
    refine tks (oi := ⟨_, _, _, _, _, _⟩) (v := ?_) 10 rfl (.inl ⟨by rfl, ?_⟩) ?_; rotate_left
    · (intro wS hSw; (try dsimp only at hSw); go_simp); all_goals with_reducible rfl
    try go_frame
    refine tks (oi := ⟨_, _, _, _, _, _⟩) (v := ?_) 11 rfl (.inl ⟨by rfl, ?_⟩) ?_; rotate_left
    · (intro wS hSw; (try dsimp only at hSw); go_simp); all_goals with_reducible rfl
    try go_frame
    refine tks (oi := ⟨_, _, _, _, _, _⟩) (v := ?_) 12 rfl (.inl ⟨by rfl, ?_⟩) ?_; rotate_left
    · (intro wS hSw; (try dsimp only at hSw); go_simp); all_goals with_reducible rfl
    try go_frame
    refine tks (oi := ⟨_, _, _, _, _, _⟩) (v := ?_) 13 rfl (.inl ⟨by rfl, ?_⟩) ?_; rotate_left
    · (intro wS hSw; (try dsimp only at hSw); go_simp); all_goals with_reducible rfl
    try go_frame
    refine tks (oi := ⟨_, _, _, _, _, _⟩) (v := ?_) 14 rfl (.inl ⟨by rfl, ?_⟩) ?_; rotate_left
    · (intro wS hSw; (try dsimp only at hSw); go_simp); all_goals with_reducible rfl
    try go_frame
    refine tks (oi := ⟨_, _, _, _, _, _⟩) (v := ?_) 15 rfl (.inl ⟨by rfl, ?_⟩) ?_; rotate_left
    · (intro wS hSw; (try dsimp only at hSw); go_simp); all_goals with_reducible rfl
    try go_frame
    refine tks (oi := ⟨_, _, _, _, _, _⟩) (v := ?_) 16 rfl (.inl ⟨by rfl, ?_⟩) ?_; rotate_left
    · (intro wS hSw; (try dsimp only at hSw); go_simp); all_goals with_reducible rfl
    try go_frame
    refine tks (oi := ⟨_, _, _, _, _, _⟩) (v := ?_) 17 rfl (.inl ⟨by rfl, ?_⟩) ?_; rotate_left
    · (intro wS hSw; (try dsimp only at hSw); go_simp); all_goals with_reducible rfl
    try go_frame
    refine tks (oi := ⟨_, _, _, _, _, _⟩) (v := ?_) 18 rfl (.inl ⟨by rfl, ?_⟩) ?_; rotate_left
    · (intro wS hSw; (try dsimp only at hSw); go_simp); all_goals with_reducible rfl
    try go_frame
    refine tks (oi := ⟨_, _, _, _, _, _⟩) (v := ?_) 19 rfl (.inl ⟨by rfl, ?_⟩) ?_; rotate_left
    · (intro wS hSw; (try dsimp only at hSw); go_simp); all_goals with_reducible rfl
    try go_frame
    refine tks (oi := ⟨_, _, _, _, _, _⟩) (v := ?_) 20 rfl (.inl ⟨by rfl, ?_⟩) ?_; rotate_left
    · (intro wS hSw; (try dsimp only at hSw); go_simp); all_goals with_reducible rfl
    try go_frame
    refine tks (oi := ⟨_, _, _, _, _, _⟩) (v := ?_) 21 rfl (.inl ⟨by rfl, ?_⟩) ?_; rotate_left
    · (intro wS hSw; (try dsimp only at hSw); go_simp); all_goals with_reducible rfl
    try go_frame
    refine tks (oi := ⟨_, _, _, _, _, _⟩) (v := ?_) 22 rfl (.inl ⟨by rfl, ?_⟩) ?_; rotate_left
    · (intro wS hSw; (try dsimp only at hSw); go_simp); all_goals with_reducible rfl
    try go_frame
    refine tks (oi := ⟨_, _, _, _, _, _⟩) (v := ?_) 23 rfl (.inl ⟨by rfl, ?_⟩) ?_; rotate_left
    · (intro wS hSw; (try dsimp only at hSw); go_simp); all_goals with_reducible rfl
    try go_frame
    refine tks (oi := ⟨_, _, _, _, _, _⟩) (v := ?_) 24 rfl (.inl ⟨by rfl, ?_⟩) ?_; rotate_left
    · (intro wS hSw; (try dsimp only at hSw); go_simp); all_goals with_reducible rfl
    try go_frame
    refine tks (oi := ⟨_, _, _, _, _, _⟩) (v := ?_) 25 rfl (.inl ⟨by rfl, ?_⟩) ?_; rotate_left
    · (intro wS hSw; (try dsimp only at hSw); go_simp); all_goals with_reducible rfl
    try go_frame
    refine tks (oi := ⟨_, _, _, _, _, _⟩) (v := ?_) 26 rfl (.inl ⟨by rfl, ?_⟩) ?_; rotate_left
    · (intro wS hSw; (try dsimp only at hSw); go_simp); all_goals with_reducible rfl
    try go_frame
    refine tks (oi := ⟨_, _, _, _, _, _⟩) (v := ?_) 27 rfl (.inl ⟨by rfl, ?_⟩) ?_; rotate_left
    · (intro wS hSw; (try dsimp only at hSw); go_simp); all_goals with_reducible rfl
    try go_frame
    refine tks (oi := ⟨_, _, _, _, _, _⟩) (v := ?_) 28 rfl (.inl ⟨by rfl, ?_⟩) ?_; rotate_left
    · (intro wS hSw; (try dsimp only at hSw); go_simp); all_goals with_reducible rfl
    try go_frame
    refine tks (oi := ⟨_, _, _, _, _, _⟩) (v := ?_) 29 rfl (.inl ⟨by rfl, ?_⟩) ?_; rotate_left
    · (intro wS hSw; (try dsimp only at hSw); go_simp); all_goals with_reducible rfl
    try go_frame
    refine tks (oi := ⟨_, _, _, _, _, _⟩) (v := undef) 30 rfl (.inr ⟨by rfl, rfl⟩) ?_
    try go_frame
    refine tks (oi := ⟨_, _, _, _, _, _⟩) (v := undef) 31 rfl (.inr ⟨by rfl, rfl⟩) ?_
    try go_frame
    refine tks (oi := ⟨_, _, _, _, _, _⟩) (v := undef) 32 rfl (.inr ⟨by rfl, rfl⟩) ?_
    try go_frame
    refine tks (oi := ⟨_, _, _, _, _, _⟩) (v := undef) 33 rfl (.inr ⟨by rfl, rfl⟩) ?_
    try go_frame
    refine tks (oi := ⟨_, _, _, _, _, _⟩) (v := undef) 34 rfl (.inr ⟨by rfl, rfl⟩) ?_
    try go_frame
    refine tks (oi := ⟨_, _, _, _, _, _⟩) (v := undef) 35 rfl (.inr ⟨by rfl, rfl⟩) ?_
    try go_frame
    refine tks (oi := ⟨_, _, _, _, _, _⟩) (v := undef) 36 rfl (.inr ⟨by rfl, rfl⟩) ?_
    try go_frame
    refine tks (oi := ⟨_, _, _, _, _, _⟩) (v := ?_) 37 rfl (.inl ⟨by rfl, ?_⟩) ?_; rotate_left
    · (intro wS hSw; (try dsimp only at hSw); go_simp); all_goals with_reducible rfl
    try go_frame
    refine tks (oi := ⟨_, _, _, _, _, _⟩) (v := ?_) 38 rfl (.inl ⟨by rfl, ?_⟩) ?_; rotate_left
    · (intro wS hSw; (try dsimp only at hSw); go_simp); all_goals with_reducible rfl
    try go_frame
    refine tks (oi := ⟨_, _, _, _, _, _⟩) (v := ?_) 39 rfl (.inl ⟨by rfl, ?_⟩) ?_; rotate_left
    · (intro wS hSw; (try dsimp only at hSw); go_simp); all_goals with_reducible rfl
    try go_frame
    refine wpAnyH_done (by kernel_rfl) ?_ _
    clear hW1 wk kn w1 t0 t1 t2 d1 d2 d3
    have hbD : Below W1.heap.size W1 W1.drew := (Below.refl _ W1).drew
    obtain ⟨e0, e1, e2, e3, e4⟩ := hcs.out _ hbD
    have hbD' := hbW.trans (hbD.mono (Nat.le_of_lt hzW))
    by_cases l40 : 40 ≤ x.level
    · have hv : Hid (42 = V) := by show _ = _; rw [← hv'.out, if_pos l40]; rfl
      clear hv'
      go_wp2_with fail
      go_ret
      exact ⟨by rw [← hv.out]; rfl, hbD'⟩
    by_cases k1000 : 1000 ≤ k
    · have hv : Hid (43 = V) := by show _ = _; rw [← hv'.out, if_neg l40, if_pos k1000]; rfl
      clear hv'
      have k1' : (1000 : Int) ≤ k := by omega
      go_wp2_with fail
      go_ret
      exact ⟨by rw [← hv.out]; rfl, hbD'⟩
    have hv : Hid (partsE x = V) := by show _ = _; rw [← hv'.out, if_neg l40, if_neg k1000, if_pos rfl]
    clear hv'
    have k1' : (k : Int) < 1000 := by omega
    have l40' : x.level < 40 := by omega
    go_wp2_with fail
    refine (RParts_any x A' c' _ ?_ HS.out V hv).mono ?_
    · exact (HAT.out.below hbD').more hbD'.size
    rintro e w3 ⟨rfl, hb3⟩
    go_wp2_with fail
    go_ret
    exact ⟨rfl, hbD'.trans (hb3.mono hbD'.size)⟩
end Go.Proofs.Ytmkgajdgnmolkaa

/-
  The walk of ref04.Check.
-/
namespace Go.Proofs.Ytmkgajdgnmolkaa
open Go.RowKit

theorem Rone_any (l : List ItemD) (A : Option Addr) (c k : Nat) (x : ItemD) (w : World) (hA : ItemsAt w w.heap.size A l) (hx : l[k]? = some x) (hlen : l.length ≤ 1000000000) (hpl : ∀ p, prevOf l k = some p → 0 ≤ p.level ∧ p.level < 40) (hs : SmallItem x) (V : Int) (hV : Hid (oneE (prevOf l k) k x = V)) :
    Calls Try.prog 29 #[.slice A l.length c, .int .i64 k] w (Ret w (.int .i64 V)) := by
  have hl : k < l.length := (List.getElem?_eq_some_iff.1 hx).1
  obtain ⟨ad, rfl, _⟩ := hA (by omega)
  by_cases hk : k = 0
  · subst hk
    exact one_first l ad c x w hA hx hlen hs V hV
  · have hp : l[k - 1]? = some l[k - 1] := List.getElem?_eq_getElem _
    have he : prevOf l k = some l[k - 1] := by unfold prevOf; rw [if_neg hk, hp]
    have hb := hpl _ he
    rw [he] at hV
    exact one_later l ad c k x _ w hA (by omega) hx hp hlen (by omega) hs V hV

set_option maxRecDepth 100000 in
set_option maxHeartbeats 2000000 in
theorem RCheck_any (l : List ItemD) (A : Option Addr) (c : Nat) (w : World) (hA : ItemsAt w w.heap.size A l) (hs : SmallItems l) (n e : Int) (hV : Hid (checkL l = (n, e))) :
    Calls Try.prog 14 #[.slice A l.length c] w (Ret w (.tuple #[.int .i64 n, .int .i64 e])) := by
  obtain ⟨hs1, hs2⟩ := hs
  have HS := Lib.hid hs2
  have HA := Lib.hid hA
  clear hs2 hA
  by_cases h0 : l = []
  · have hv : Hid (n = 0 ∧ e = 40) := by
      have := hV.out
      unfold checkL at this
      rw [if_pos h0] at this
      injection this with a b
      exact ⟨a.symm, b.symm⟩
    have hlen : l.length = 0 := by rw [h0]; rfl
    rw [hlen]
    clear h0 hV hs1 hlen
    go_enter Try.func14, Try.ntmps14
    go_wp2_with fail
    go_ret2
    obtain ⟨rfl, rfl⟩ := hv.out
    exact ⟨rfl, Below.refl _ _⟩
  · have hpos : 0 < l.length := List.length_pos_iff.2 h0
    have hC : Hid (checkF (prevOf l 0) 0 (l.drop 0) = (n, e)) := by
      have := hV.out
      unfold checkL at this
      rw [if_neg h0] at this
      exact this
    have t0 : ((l.length : Int) == 0) = false := by simp; omega
    clear h0 hV
    go_enter Try.func14, Try.ntmps14
    go_wp2_with fail
    go_loopw [4] (fun i wr => ∃ (k : Nat), k ≤ l.length ∧ i = .int .i64 k ∧ Hid (checkF (prevOf l k) k (l.drop k) = (n, e)) ∧ Hid (∀ p, prevOf l k = some p → 0 ≤ p.level ∧ p.level < 40) ∧ Below w.heap.size w wr) (fun i _ => l.length - (intOf i).toNat)
    case atStart => exact ⟨0, Nat.zero_le _, rfl, hC, fun p hp => by simp [prevOf] at hp, Below.refl _ _⟩
    case round =>
      obtain ⟨k, hk, rfl, hin, hpv, hbel⟩ := hrel
      have hzr := hbel.size
      by_cases hlt : k < l.length
      · obtain ⟨x, hx⟩ : ∃ x, Hid (l[k]? = some x) := ⟨l[k], List.getElem?_eq_getElem _⟩
        have hAr := Lib.hid (HA.out.below hbel)
        have hsx := Lib.hid (HS.out k x hx.out)
        have hin' := hin.out
        rw [checkF_drop hx.out] at hin'
        have hlt' : (k : Int) < l.length := by omega
        obtain ⟨q, hq⟩ : ∃ q, Hid (oneE (prevOf l k) k x = q) := ⟨_, rfl⟩
        rw [hq.out] at hin'
        by_cases hq0 : q = 0
        · rw [if_pos hq0] at hin'
          have HIN := Lib.hid hin'
          subst hq0
          have hpv' : Hid (∀ p, prevOf l (k + 1) = some p → 0 ≤ p.level ∧ p.level < 40) := fun p hp => by
            rw [prevOf_succ hx.out] at hp
            injection hp with hp; subst hp
            exact placeE_zero (oneE_zero hq.out).1
          clear hin' hin
          go_wp2_with fail
          refine (Rone_any l A c k x wr (hAr.out.more hzr) hx.out hs1 hpv.out hsx.out 0 hq).mono ?_; rintro e2 w2 ⟨rfl, hb2⟩
          have hb2' : Below w.heap.size w w2 := hbel.trans (hb2.mono hzr)
          go_wp2_with fail
          go_roundw
          case rel => exact ⟨k + 1, by omega, by go_num, HIN, hpv', hb2'⟩
          case measure => simp [intOf]; omega
        · rw [if_neg hq0] at hin'
          have HIN := Lib.hid hin'
          have tq' : (q != 0) = true := by simp [hq0]
          clear hin' hin hq0
          go_wp2_with fail
          refine (Rone_any l A c k x wr (hAr.out.more hzr) hx.out hs1 hpv.out hsx.out q hq).mono ?_; rintro e2 w2 ⟨rfl, hb2⟩
          have hb2' : Below w.heap.size w w2 := hbel.trans (hb2.mono hzr)
          go_wp2_with fail
          go_ret2
          have := HIN.out
          injection this with a b
          subst a; subst b
          exact ⟨rfl, hb2'⟩
      · have hk' : k = l.length := by omega
        have HIN : Hid ((0, 0) = (n, e)) := by
          show _ = _
          rw [← hin.out, List.drop_eq_nil_of_le (by omega)]; rfl
        subst hk'
        clear hin hlt hk hpv
        go_wp2_with fail
        go_ret2
        have := HIN.out
        injection this with a b
        subst a; subst b
        exact ⟨rfl, hbel⟩
end Go.Proofs.Ytmkgajdgnmolkaa
