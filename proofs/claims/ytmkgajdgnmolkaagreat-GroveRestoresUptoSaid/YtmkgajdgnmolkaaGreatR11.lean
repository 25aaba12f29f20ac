/-
  Texts of this claim, joined (by a program of the claim's author): RName, RParts, GRSe, GRTr, GRDe, ROne, RCheck, GRLo.
-/
import Derived.Test.YtmkgajdgnmolkaaGreatR10
import Derived.Test.YtmkgajdgnmolkaaGreatR1
import Derived.Test.YtmkgajdgnmolkaaGreatR6
import Derived.Deep.RegionHeld3
import Derived.Test.YtmkgajdgnmolkaaGreatR9
import Derived.Test.YtmkgajdgnmolkaaGreatR4
import Derived.Test.YtmkgajdgnmolkaaGreatR8
import Derived.Test.YtmkgajdgnmolkaaGreatR7
namespace Go.Proofs.YtmkgajdgnmolkaaGreat
set_option maxRecDepth 100000
set_option maxHeartbeats 16000000
section
open Go.RowKit
theorem RName_any (s : ByteArray) (w : World) (hs : s.size ≤ 1000000000) (r : Bool) (hr : Hid (nameL s.data.toList = r)) :
  Calls Tryz.prog 89 #[.string s] w (Ret w (.bool r)) := by
 obtain ⟨q, hq⟩ : ∃ q, Hid (charsL s.data.toList = q) := ⟨_, rfl⟩
 have hr' := hr.out
 unfold nameL at hr'
 rw [hq.out, size_toList] at hr'
 cases q with
 | none =>
  have hv : Hid (r = false) := hr'.symm
  clear hr'
  go_enter Tryz.func89, Tryz.ntmps89
  go_wp2_with fail
  refine (RAll_any s w hs).mono ?_
  rw [hq.out]
  rintro e w2 ⟨ad, cp, rfl, hown, hb2⟩
  clear hown
  go_wp2_with fail
  go_ret
  exact ⟨by rw [hv.out]; rfl, hb2⟩
 | some cs =>
  cases cs with
  | nil =>
   have hv : Hid (r = false) := hr'.symm
   clear hr'
   have hnil : s.data.toList = [] := by
    by_cases hl : s.data.toList = []
    ·exact hl
    ·exfalso
     have hc := hq.out
     by_cases hn : (nextL s.data.toList).2 = 0
     ·rw [charsL_bad _ hl hn] at hc; cases hc
     ·rw [charsL_step _ hl hn] at hc
      cases hd : charsL (s.data.toList.drop (nextL s.data.toList).2) <;> rw [hd] at hc <;> simp at hc
   have hsz : (s.size : Int) < 1 := by rw [← size_toList, hnil]; decide
   clear hnil
   go_enter Tryz.func89, Tryz.ntmps89
   go_wp2_with fail
   refine (RAll_any s w hs).mono ?_
   rw [hq.out]
   rintro e w2 ⟨ad, cp, rfl, hown, hb2⟩
   clear hown
   go_wp2_with fail
   go_ret
   exact ⟨by rw [hv.out]; rfl, hb2⟩
  | cons c cs =>
   have hne : s.data.toList ≠ [] := by intro h; have := hq.out; rw [h, charsL_nil] at this; cases this
   have hpos : s.size ≠ 0 := by intro h; apply hne; exact List.eq_nil_of_length_eq_zero (by rw [size_toList]; exact h)
   have hcl : cs.length + 1 ≤ s.size := by have := charsL_len _ _ hq.out; rw [size_toList] at this; exact this
   have h1 : decide ((s.size : Int) < 1) = false := by simp; omega
   clear hne
   by_cases h60 : s.size ≤ 60
   ·have h2 : decide ((60 : Int) < s.size) = false := by simp; omega
    simp only [h60, decide_true, Bool.true_and] at hr'
    clear h60 hpos
    cases hst : startB c with
    | false =>
     have HST : Hid (startB c = false) := hst
     have hv : Hid (r = false) := by show _ = _; rw [← hr', hst]; rfl
     clear hr' hst
     go_enter Tryz.func89, Tryz.ntmps89
     go_wp2_with fail
     refine (RAll_any s w hs).mono ?_
     rw [hq.out]
     rintro e w2 ⟨ad, cp, rfl, hown, hb2⟩
     have hz2 := hb2.size
     rcases own_shape hown with ⟨rfl, hn0, rfl⟩ | ⟨g, rfl, hg1, hg2⟩
     ·cases hn0
     ·have hcell : w2.cell? ⟨g, 0, none⟩ = some (.int .i32 c) := own_cell hown 0 _ rfl
      have hlen : ((Option.getD (some (c :: cs)) []).length) = cs.length + 1 := rfl
      clear hown
      rw [hlen]
      go_wp2_with fail
      refine (RStart_as c _ _ HST).mono ?_; rintro e w3 ⟨rfl, hb3⟩
      go_wp2_with fail
      go_ret
      exact ⟨by rw [hv.out]; rfl, hb2.trans (hb3.mono hz2)⟩
    | true =>
     have HST : Hid (startB c = true) := hst
     have hv : Hid ((c :: cs).all partB = r) := by show _ = _; rw [← hr', hst]; rfl
     clear hr' hst
     go_enter Tryz.func89, Tryz.ntmps89
     go_wp2_with fail
     refine (RAll_any s w hs).mono ?_
     rw [hq.out]
     rintro e w2 ⟨ad, cp, rfl, hown, hb2⟩
     have hz2 := hb2.size
     rcases own_shape hown with ⟨rfl, hn0, rfl⟩ | ⟨g, rfl, hg1, hg2⟩
     ·cases hn0
     ·have hcell : w2.cell? ⟨g, 0, none⟩ = some (.int .i32 c) := own_cell hown 0 _ rfl
      have hlen : ((Option.getD (some (c :: cs)) []).length) = cs.length + 1 := rfl
      have HOWN := Lib.hid hown
      clear hown
      rw [hlen]
      go_wp2_with fail
      refine (RStart_as c _ _ HST).mono ?_; rintro e w3 ⟨rfl, hb3⟩
      have hz3 := hb3.size
      go_wp2_with fail
      obtain ⟨L, hL⟩ : ∃ L, Hid (L = c :: cs) := ⟨_, rfl⟩
      have hLl : L.length = cs.length + 1 := by rw [hL.out]; rfl
      go_loopw [5] (fun i wr => ∃ (k : Nat), k ≤ cs.length + 1 ∧ i = .int .i64 k ∧ Hid ((L.drop k).all partB = r) ∧ Below w2.heap.size w2 wr) (fun i _ => cs.length + 1 - (intOf i).toNat)
      case atStart => exact ⟨0, Nat.zero_le _, rfl, by show _ = _; rw [hL.out]; exact hv.out, hb3⟩
      case round =>
       obtain ⟨k, hk, rfl, hall, hbel⟩ := hrel
       have hzr := hbel.size
       by_cases hlt : k < cs.length + 1
       ·obtain ⟨d, hd⟩ : ∃ d, Hid (L[k]? = some d) := ⟨L[k], List.getElem?_eq_getElem _⟩
        have hcell : wr.cell? ⟨g, k, none⟩ = some (.int .i32 d) := by
         rw [hbel.cell (p := ⟨g, k, none⟩) hg2]
         refine own_cell HOWN.out k _ ?_
         show ((c :: cs).map (Value.int .i32))[k]? = _
         rw [List.getElem?_map, ← hL.out, hd.out]; rfl
        have hdrop : L.drop k = d :: L.drop (k + 1) := by
         have h := hd.out
         have hl : k < L.length := by omega
         rw [List.drop_eq_getElem_cons hl]
         rw [List.getElem?_eq_getElem hl] at h
         injection h with h; rw [h]
        have hall' : (partB d && (L.drop (k + 1)).all partB) = r := by rw [← hall.out, hdrop]; rfl
        clear hdrop
        cases hp : partB d with
        | false =>
         have HP : Hid (partB d = false) := hp
         have hv : Hid (r = false) := by show _ = _; rw [← hall', hp]; rfl
         clear hall' hp
         go_wp2_with fail
         refine (RPart_as d _ _ HP).mono ?_; rintro e w4 ⟨rfl, hb4⟩
         go_wp2_with fail
         go_ret
         exact ⟨by rw [hv.out]; rfl, (hb2.trans (hbel.mono (by omega))).trans (hb4.mono (by omega))⟩
        | true =>
         have HP : Hid (partB d = true) := hp
         have hv : Hid ((L.drop (k + 1)).all partB = r) := by show _ = _; rw [← hall', hp]; rfl
         clear hall' hp
         go_wp2_with fail
         refine (RPart_as d _ _ HP).mono ?_; rintro e w4 ⟨rfl, hb4⟩
         go_wp2_with fail
         go_roundw
         case rel => exact ⟨k + 1, by omega, by go_num, hv, hbel.trans (hb4.mono (by omega))⟩
         case measure => simp [intOf]; omega
       ·have hk' : k = cs.length + 1 := by omega
        have hv : Hid (r = true) := by
         show _ = _
         rw [← hall.out, List.drop_eq_nil_of_le (by omega)]; rfl
        subst hk'
        go_wp2_with fail
        go_ret
        exact ⟨by rw [hv.out]; rfl, hb2.trans (hbel.mono (by omega))⟩
   ·have h2 : decide ((60 : Int) < s.size) = true := by simp; omega
    have hv : Hid (r = false) := by show _ = _; rw [← hr']; simp [h60]
    clear hr' h60 hpos
    go_enter Tryz.func89, Tryz.ntmps89
    go_wp2_with fail
    refine (RAll_any s w hs).mono ?_
    rw [hq.out]
    rintro e w2 ⟨ad, cp, rfl, hown, hb2⟩
    clear hown
    go_wp2_with fail
    go_ret
    exact ⟨by rw [hv.out]; rfl, hb2⟩
end
section
open Go.RowKit
theorem RName_l (s : List UInt8) (w : World) (hs : s.length ≤ 1000000000) (r : Bool) (hr : Hid (nameL s = r)) :
  Calls Tryz.prog 89 #[.string ⟨s.toArray⟩] w (Ret w (.bool r)) := RName_any _ w (by show s.toArray.size ≤ _; simp; omega) r hr
theorem attrNames_nil (r : List AttrD) : attrNames [] r = match r with | [] => true | a :: t => nameL a.name && attrNames a.name t := by
 cases r with
 | nil => rfl
 | cons a t =>
  show (nameL a.name && !leB a.name [] && attrNames a.name t) = (nameL a.name && attrNames a.name t)
  cases hn : nameL a.name with
  | false => rfl
  | true =>
   have : leB a.name [] = false := by
    cases ha : a.name with
    | nil => rw [ha] at hn; simp [nameL, charsL_nil] at hn
    | cons b t => rfl
   rw [this]; rfl
def fromK (l : List AttrD) : Nat → Bool
 | 0 => attrNames [] l
 | j + 1 => match l[j]? with | some a => attrNames a.name (l.drop (j + 1)) | none => true
theorem fromK_first (l : List AttrD) (a : AttrD) (h : l[0]? = some a) : fromK l 0 = (nameL a.name && fromK l 1) := by
 cases l with
 | nil => cases h
 | cons b t =>
  injection h with h; subst h
  exact attrNames_nil _
theorem fromK_step (l : List AttrD) (k : Nat) (p a : AttrD) (hk : 0 < k) (hp : l[k - 1]? = some p) (h : l[k]? = some a) : fromK l k = (nameL a.name && !leB a.name p.name && fromK l (k + 1)) := by
 obtain ⟨j, rfl⟩ : ∃ j, k = j + 1 := ⟨k - 1, by omega⟩
 have hp' : l[j]? = some p := hp
 show (match l[j]? with | some a => attrNames a.name (l.drop (j + 1)) | none => true) = _
 rw [hp', drop_cons h]
 show _ = (_ && (match l[j + 1]? with | some a => attrNames a.name (l.drop (j + 1 + 1)) | none => true))
 rw [h]; rfl
theorem fromK_end (l : List AttrD) : fromK l l.length = true := by
 cases hl : l.length with
 | zero => rw [List.eq_nil_of_length_eq_zero hl]; rfl
 | succ j =>
  show (match l[j]? with | some a => attrNames a.name (l.drop (j + 1)) | none => true) = true
  rw [List.drop_eq_nil_of_le (by omega)]
  cases l[j]? <;> rfl
theorem RParts_any (x : ItemD) (A : Option Addr) (c : Nat) (w : World) (hA : AttrsAt w w.heap.size A x.attrs) (hs : SmallItem x) (V : Int) (hV : Hid (partsE x = V)) :
  Calls Tryz.prog 77 #[.agg (itemVal x A c)] w (Ret w (.int .i64 V)) := by
 obtain ⟨hs1, hs2, hs3, hs4, hs5⟩ := hs
 have HS4 := Lib.hid hs4
 have HA := Lib.hid hA
 clear hs4 hA hs5
 have hV' := hV.out
 unfold partsE at hV'
 clear hV
 by_cases k1 : x.kind = 2
 ·have e1 : (x.kind == 2) = true := by simp [k1]
  by_cases k2 : x.name = []
  ·have e2 : (x.name == []) = true := by simp [k2]
   by_cases k3 : x.attrs = []
   ·rw [if_pos ⟨k1, k2, k3⟩] at hV'
    have HV := Lib.hid hV'
    have e3 : x.attrs.length = 0 := by rw [k3]; rfl
    unfold itemVal strV
    rw [e3]
    clear hV' k1 k2 k3
    go_enter Tryz.func77, Tryz.ntmps77
    go_wp2_with fail
    refine (rchars_l _ _ hs2 _ HV).mono ?_; rintro e w2 ⟨rfl, hb2⟩
    go_wp2_with fail
    go_ret
    exact ⟨rfl, ((Below.refl _ w).alloc (Nat.le_refl _) _).trans (hb2.mono (by simp))⟩
   ·have hv : Hid (V = 68) := by
     show _ = _
     rw [← hV', if_neg (fun h => k3 h.2.2), if_pos (.inl (by omega))]
    have e3 : 0 < x.attrs.length := by
     have : x.attrs.length ≠ 0 := fun h => k3 (List.eq_nil_of_length_eq_zero h)
     omega
    clear hV' k1 k2 k3
    unfold itemVal strV
    go_enter Tryz.func77, Tryz.ntmps77
    go_wp2_with fail
    go_ret
    exact ⟨by rw [hv.out]; rfl, (Below.refl _ w).alloc (Nat.le_refl _) _⟩
  ·have e2 : (x.name == []) = false := by simp [k2]
   have hv : Hid (V = 68) := by
    show _ = _
    rw [← hV', if_neg (fun h => k2 h.2.1), if_pos (.inl (by omega))]
   clear hV' k1 k2
   unfold itemVal strV
   go_enter Tryz.func77, Tryz.ntmps77
   go_wp2_with fail
   go_ret
   exact ⟨by rw [hv.out]; rfl, (Below.refl _ w).alloc (Nat.le_refl _) _⟩
 ·rw [if_neg (fun h => k1 h.1)] at hV'
  have e1 : (x.kind == 2) = false := by simp [k1]
  by_cases k2 : x.kind = 1
  ·have e4 : (x.kind != 1) = false := by simp [k2]
   by_cases k3 : x.text = []
   ·have e5 : (x.text == []) = true := by simp [k3]
    rw [if_neg (by rintro (h | h); exact h k2; exact h k3)] at hV'
    clear k1 k2 k3
    unfold namesE at hV'
    cases hn : nameL x.name with
    | false =>
     have HN : Hid (nameL x.name = false) := hn
     have hv : Hid (V = 63) := by show _ = _; rw [← hV', hn]; rfl
     clear hV' hn
     unfold itemVal strV
     go_enter Tryz.func77, Tryz.ntmps77
     go_wp2_with fail
     refine (RName_l _ _ hs1 _ HN).mono ?_; rintro e w2 ⟨rfl, hb2⟩
     go_wp2_with fail
     go_ret
     exact ⟨by rw [hv.out]; rfl, ((Below.refl _ w).alloc (Nat.le_refl _) _).trans (hb2.mono (by simp))⟩
    | true =>
     have HN : Hid (nameL x.name = true) := hn
     rw [hn, Bool.true_and] at hV'
     clear hn
     obtain ⟨R, hR⟩ : ∃ R, Hid (fromK x.attrs 0 = R) := ⟨_, rfl⟩
     have hR1 : attrNames [] x.attrs = R := hR.out
     rw [hR1] at hV'
     have HV := Lib.hid hV'
     clear hV' hR1
     unfold itemVal strV
     go_enter Tryz.func77, Tryz.ntmps77
     go_wp2_with fail
     obtain ⟨w1, hw1⟩ : ∃ w1, Hid (w1 = w.alloc (.cells #[.int .i64 x.level, .int .i64 x.kind, .string ⟨x.name.toArray⟩, .string ⟨x.text.toArray⟩, .slice A x.attrs.length c] 62)) := ⟨_, rfl⟩
     have hbw1 : Below w.heap.size w w1 := by rw [hw1.out]; exact (Below.refl _ w).alloc (Nat.le_refl _) _
     have hz1 : w.heap.size < w1.heap.size := by rw [hw1.out]; simp
     have hcell1 : Hid (w1.cell? ⟨w.heap.size, 4, none⟩ = some (.slice A x.attrs.length c)) := by
      show _ = _
      rw [hw1.out, World.cell?_alloc_at _ _ _ _ (by simp)]; rfl
     rw [← hw1.out]
     refine (RName_l _ _ hs1 _ HN).mono ?_; rintro e w2 ⟨rfl, hb2⟩
     have hz2 := hb2.size
     have H4 : Hid (∀ w', Below w1.heap.size w1 w' → w'.cell? ⟨w.heap.size, 4, none⟩ = some (.slice A x.attrs.length c)) := fun w' hb => by
      rw [hb.cell (p := ⟨w.heap.size, 4, none⟩) hz1]; exact hcell1.out
     have hc4 := H4.out w2 hb2
     go_wp2_with fail
     go_loopw [3] (fun i wr => ∃ (k : Nat), k ≤ x.attrs.length ∧ i = .int .i64 k ∧ Hid (fromK x.attrs k = R) ∧ Below w1.heap.size w1 wr) (fun i _ => x.attrs.length - (intOf i).toNat)
     case atStart => exact ⟨0, Nat.zero_le _, rfl, hR, hb2⟩
     case round =>
      obtain ⟨k, hk, rfl, hin, hbel⟩ := hrel
      have hzr := hbel.size
      have hbwr : Below w.heap.size w wr := hbw1.trans (hbel.mono (by omega))
      have hc4r := H4.out wr hbel
      by_cases hlt : k < x.attrs.length
      ·obtain ⟨a, ha⟩ : ∃ a, Hid (x.attrs[k]? = some a) := ⟨x.attrs[k], List.getElem?_eq_getElem _⟩
       obtain ⟨ad, hAd, hbl, hcs⟩ := HA.out (by omega)
       have hnm := (HS4.out k a ha.out).1
       subst hAd
       have hlt' : (k : Int) < x.attrs.length := by omega
       have HC : ∀ (j : Nat) (b : AttrD), x.attrs[j]? = some b → ∀ w', Below w1.heap.size w1 w' → w'.cell? (ad.add (j * 2)) = some (.string ⟨b.name.toArray⟩) := fun j b hj w' hb => by
        rw [(hbw1.trans (hb.mono (by omega))).cell (p := ad.add (j * 2)) (by rw [block_of_add]; exact hbl)]
        exact (hcs j b hj).1
       have HCC := Lib.hid HC
       clear HC hcs
       rcases Nat.eq_zero_or_pos k with hk0 | hk0
       ·have hin' := hin.out
        have hin' : (nameL a.name && fromK x.attrs (k + 1)) = R := by
         have ha' := ha.out
         subst hk0
         rw [← hin', fromK_first _ a ha']
        obtain ⟨q, hq⟩ : ∃ q, Hid (nameL a.name = q) := ⟨_, rfl⟩
        rw [hq.out] at hin'
        have HIN := Lib.hid hin'
        clear hin'
        have hg1 : decide ((0 : Int) < (k : Int)) = false := by subst hk0; decide
        have hg2 : decide (0 < k) = false := by subst hk0; decide
        clear hk0
        have hk0' : (0 : Int) ≤ (k : Int) := Int.natCast_nonneg _
        have HS : Hid (∀ w', Below w1.heap.size w1 w' → (Below w1.heap.size w1 w' ∧ w'.cell? ⟨w.heap.size, 4, none⟩ = some (.slice (some ad) x.attrs.length c) ∧ w'.cell? (ad.add (k * 2)) = some (.string ⟨a.name.toArray⟩))) :=
         fun w' hb => ⟨hb, H4.out w' hb, HCC.out k a ha.out w' hb⟩
        cases q with
        | false =>
         have hv : Hid (V = 63) := by
          show _ = _
          have hR0 : R = false := HIN.out.symm
          rw [← HV.out, hR0]; rfl
         go_wp2_with fail
         refine wp_region_held_drew (S := fun w' => Below w1.heap.size w1 w' ∧ w'.cell? ⟨w.heap.size, 4, none⟩ = some (.slice (some ad) x.attrs.length c) ∧ w'.cell? (ad.add (k * 2)) = some (.string ⟨a.name.toArray⟩)) (by kernel_rfl) (HS.out _ hbel.drew) (fun hHeld => ?_)
         refine tkv 0 (h := tkv 1 (h := tkv 2 (h := tkv 3 (h := tkv 4 (h := tkv 5 (h := ?_))))))
         refine rdy 6 (fun K hK => ?_)
         go_simp
         refine (RName_l _ _ hnm _ hq).mono ?_; rintro e w3 ⟨rfl, hb3⟩
         go_wp2_with fail
         refine hK.out _ _ (HS.out _ (hbel.drew.trans (hb3.mono hbel.drew.size))) (fun hHeld => ?_)
         clear hK K
         try go_frame
         refine tkv 7 (h := tkv 8 (h := ?_))
         refine tkn 9 (h := tkn 10 (h := tkn 11 (h := tkn 12 (h := tkn 13 (h := tkn 14 (h := ?_))))))
         refine tkn 15 (h := tkn 16 (h := tkn 17 (h := tkn 18 (h := tkn 19 (h := tkn 20 (h := ?_))))))
         refine tkn 21 (h := tkn 22 (h := tkn 23 (h := tkn 24 (h := tkn 25 (h := tkn 26 (h := ?_))))))
         refine tkv 27 (h := ?_)
         refine wpAnyH_done (by kernel_rfl) ?_ _
         go_wp2_with fail
         go_ret
         exact ⟨by rw [hv.out]; rfl, hbw1.trans ((hbel.drew.trans (hb3.mono hbel.drew.size)).mono (by omega))⟩
        | true =>
         have HIN' : Hid (fromK x.attrs (k + 1) = R) := HIN.out
         go_wp2_with fail
         refine wp_region_held_drew (S := fun w' => Below w1.heap.size w1 w' ∧ w'.cell? ⟨w.heap.size, 4, none⟩ = some (.slice (some ad) x.attrs.length c) ∧ w'.cell? (ad.add (k * 2)) = some (.string ⟨a.name.toArray⟩)) (by kernel_rfl) (HS.out _ hbel.drew) (fun hHeld => ?_)
         refine tkv 0 (h := tkv 1 (h := tkv 2 (h := tkv 3 (h := tkv 4 (h := tkv 5 (h := ?_))))))
         refine rdy 6 (fun K hK => ?_)
         go_simp
         refine (RName_l _ _ hnm _ hq).mono ?_; rintro e w3 ⟨rfl, hb3⟩
         go_wp2_with fail
         refine hK.out _ _ (HS.out _ (hbel.drew.trans (hb3.mono hbel.drew.size))) (fun hHeld => ?_)
         clear hK K
         try go_frame
         refine tkv 7 (h := tkv 8 (h := tkv 9 (h := tkv 10 (h := tkv 11 (h := ?_)))))
         refine tkn 12 (h := tkn 13 (h := tkn 14 (h := tkn 15 (h := tkn 16 (h := tkn 17 (h := ?_))))))
         refine tkn 18 (h := tkn 19 (h := tkn 20 (h := tkn 21 (h := tkn 22 (h := tkn 23 (h := ?_))))))
         refine tkn 24 (h := tkn 25 (h := ?_))
         refine tkv 26 (h := tkv 27 (h := ?_))
         refine wpAnyH_done (by kernel_rfl) ?_ _
         have hb3' := hbel.drew.trans (hb3.mono hbel.drew.size)
         go_wp2_with fail
         go_roundw
         case rel => exact ⟨k + 1, by omega, by go_num, HIN', hb3'⟩
         case measure => simp [intOf]; omega
       ·obtain ⟨p, hp⟩ : ∃ p, Hid (x.attrs[k - 1]? = some p) := ⟨x.attrs[k - 1], List.getElem?_eq_getElem _⟩
        have hin' := hin.out
        have hin' : (nameL a.name && !leB a.name p.name && fromK x.attrs (k + 1)) = R := by
         rw [← hin', fromK_step _ k p a hk0 hp.out ha.out]
        obtain ⟨q, hq⟩ : ∃ q, Hid (nameL a.name = q) := ⟨_, rfl⟩
        rw [hq.out] at hin'
        have hg1 : decide ((0 : Int) < (k : Int)) = true := by simp; omega
        have hg2 : decide (0 < k) = true := by simp; omega
        have hk0' : (0 : Int) ≤ (k : Int) := Int.natCast_nonneg _
        have hk1 : (0 : Int) ≤ (k : Int) - 1 := by omega
        have hk3 : (1 : Int) ≤ (k : Int) := by omega
        have hk2 : (k : Int) - 1 < x.attrs.length := by omega
        have HS : Hid (∀ w', Below w1.heap.size w1 w' → (Below w1.heap.size w1 w' ∧ w'.cell? ⟨w.heap.size, 4, none⟩ = some (.slice (some ad) x.attrs.length c) ∧ w'.cell? (ad.add (k * 2)) = some (.string ⟨a.name.toArray⟩) ∧ w'.cell? (ad.add ((k - 1) * 2)) = some (.string ⟨p.name.toArray⟩))) :=
         fun w' hb => ⟨hb, H4.out w' hb, HCC.out k a ha.out w' hb, HCC.out (k - 1) p hp.out w' hb⟩
        obtain ⟨l, hl⟩ : ∃ l, Hid (leB a.name p.name = l) := ⟨_, rfl⟩
        rw [hl.out] at hin'
        have HIN := Lib.hid hin'
        clear hin'
        have hkw : IntKind.i64.wrap ((k : Int) - 1) = (k : Int) - 1 := IntWalk.i64_in _ (by omega)
        have hkn : ((k : Int) - 1).toNat = k - 1 := by omega
        cases q with
        | false =>
         have hv : Hid (V = 63) := by
          show _ = _
          have hR0 : R = false := by rw [← HIN.out]; rfl
          rw [← HV.out, hR0]; rfl
         go_wp2_with fail
         refine wp_region_held_drew (S := fun w' => Below w1.heap.size w1 w' ∧ w'.cell? ⟨w.heap.size, 4, none⟩ = some (.slice (some ad) x.attrs.length c) ∧ w'.cell? (ad.add (k * 2)) = some (.string ⟨a.name.toArray⟩) ∧ w'.cell? (ad.add ((k - 1) * 2)) = some (.string ⟨p.name.toArray⟩)) (by kernel_rfl) (HS.out _ hbel.drew) (fun hHeld => ?_)
         refine tkv 0 (h := tkv 1 (h := tkv 2 (h := tkv 3 (h := tkv 4 (h := tkv 5 (h := ?_))))))
         refine rdy 6 (fun K hK => ?_)
         go_simp
         refine (RName_l _ _ hnm _ hq).mono ?_; rintro e w3 ⟨rfl, hb3⟩
         go_wp2_with fail
         refine hK.out _ _ (HS.out _ (hbel.drew.trans (hb3.mono hbel.drew.size))) (fun hHeld => ?_)
         clear hK K
         try go_frame
         refine tkv 7 (h := tkv 8 (h := ?_))
         refine tkn 9 (h := tkn 10 (h := tkn 11 (h := tkn 12 (h := tkn 13 (h := tkn 14 (h := ?_))))))
         refine tkn 15 (h := tkn 16 (h := tkn 17 (h := tkn 18 (h := tkn 19 (h := tkn 20 (h := ?_))))))
         refine tkn 21 (h := tkn 22 (h := tkn 23 (h := tkn 24 (h := tkn 25 (h := tkn 26 (h := ?_))))))
         refine tkv 27 (h := ?_)
         refine wpAnyH_done (by kernel_rfl) ?_ _
         clear hkw hkn
         go_wp2_with fail
         go_ret
         exact ⟨by rw [hv.out]; rfl, hbw1.trans ((hbel.drew.trans (hb3.mono hbel.drew.size)).mono (by omega))⟩
        | true =>
         have hl1 := hl.out
         unfold leB at hl1
         cases l with
         | true =>
          have hv : Hid (V = 63) := by
           show _ = _
           have hR0 : R = false := by rw [← HIN.out]; rfl
           rw [← HV.out, hR0]; rfl
          go_wp2_with fail
          refine wp_region_held_drew (S := fun w' => Below w1.heap.size w1 w' ∧ w'.cell? ⟨w.heap.size, 4, none⟩ = some (.slice (some ad) x.attrs.length c) ∧ w'.cell? (ad.add (k * 2)) = some (.string ⟨a.name.toArray⟩) ∧ w'.cell? (ad.add ((k - 1) * 2)) = some (.string ⟨p.name.toArray⟩)) (by kernel_rfl) (HS.out _ hbel.drew) (fun hHeld => ?_)
          refine tkv 0 (h := tkv 1 (h := tkv 2 (h := tkv 3 (h := tkv 4 (h := tkv 5 (h := ?_))))))
          refine rdy 6 (fun K hK => ?_)
          go_simp
          refine (RName_l _ _ hnm _ hq).mono ?_; rintro e w3 ⟨rfl, hb3⟩
          go_wp2_with fail
          refine hK.out _ _ (HS.out _ (hbel.drew.trans (hb3.mono hbel.drew.size))) (fun hHeld => ?_)
          clear hK K
          try go_frame
          refine tkv 7 (h := tkv 8 (h := tkv 9 (h := tkv 10 (h := tkv 11 (h := tkv 12 (h := ?_))))))
          refine tkv 13 (h := tkv 14 (h := tkv 15 (h := tkv 16 (h := tkv 17 (h := tkv 18 (h := ?_))))))
          refine tkv 19 (h := tkv 20 (h := tkv 21 (h := tkv 22 (h := tkv 23 (h := tkv 24 (h := ?_))))))
          refine tkv 25 (h := tkv 26 (h := tkv 27 (h := ?_)))
          refine wpAnyH_done (by kernel_rfl) ?_ _
          clear hkw hkn
          go_wp2_with fail
          go_ret
          exact ⟨by rw [hv.out]; rfl, hbw1.trans ((hbel.drew.trans (hb3.mono hbel.drew.size)).mono (by omega))⟩
         | false =>
          have HIN' : Hid (fromK x.attrs (k + 1) = R) := HIN.out
          go_wp2_with fail
          refine wp_region_held_drew (S := fun w' => Below w1.heap.size w1 w' ∧ w'.cell? ⟨w.heap.size, 4, none⟩ = some (.slice (some ad) x.attrs.length c) ∧ w'.cell? (ad.add (k * 2)) = some (.string ⟨a.name.toArray⟩) ∧ w'.cell? (ad.add ((k - 1) * 2)) = some (.string ⟨p.name.toArray⟩)) (by kernel_rfl) (HS.out _ hbel.drew) (fun hHeld => ?_)
          refine tkv 0 (h := tkv 1 (h := tkv 2 (h := tkv 3 (h := tkv 4 (h := tkv 5 (h := ?_))))))
          refine rdy 6 (fun K hK => ?_)
          go_simp
          refine (RName_l _ _ hnm _ hq).mono ?_; rintro e w3 ⟨rfl, hb3⟩
          go_wp2_with fail
          refine hK.out _ _ (HS.out _ (hbel.drew.trans (hb3.mono hbel.drew.size))) (fun hHeld => ?_)
          clear hK K
          try go_frame
          refine tkv 7 (h := tkv 8 (h := tkv 9 (h := tkv 10 (h := tkv 11 (h := tkv 12 (h := ?_))))))
          refine tkv 13 (h := tkv 14 (h := tkv 15 (h := tkv 16 (h := tkv 17 (h := tkv 18 (h := ?_))))))
          refine tkv 19 (h := tkv 20 (h := tkv 21 (h := tkv 22 (h := tkv 23 (h := tkv 24 (h := ?_))))))
          refine tkv 25 (h := tkv 26 (h := tkv 27 (h := ?_)))
          refine wpAnyH_done (by kernel_rfl) ?_ _
          have hb3' := hbel.drew.trans (hb3.mono hbel.drew.size)
          clear hkw hkn hl1
          go_wp2_with fail
          go_roundw
          case rel => exact ⟨k + 1, by omega, by go_num, HIN', hb3'⟩
          case measure => simp [intOf]; omega
      ·have hk' : k = x.attrs.length := by omega
       have hR1 : R = true := by rw [← hin.out, hk', fromK_end]
       have hV1 := HV.out
       rw [hR1] at hV1
       simp only [if_true] at hV1
       subst hk'
       clear hin hlt hk
       by_cases hbig : 20 < x.attrs.length
       ·have hv : Hid (V = 67) := by
         show _ = _
         rw [← hV1, if_pos hbig]; rfl
        clear hV1
        go_wp2_with fail
        go_ret
        exact ⟨by rw [hv.out]; rfl, hbwr⟩
       ·rw [if_neg hbig, if_pos rfl] at hV1
        have HV1 := Lib.hid hV1
        clear hV1
        go_wp2_with fail
        go_loopw [4] (fun i wr => ∃ (k : Nat), k ≤ x.attrs.length ∧ i = .int .i64 k ∧ Hid (valuesE (x.attrs.drop k) = V) ∧ Below w1.heap.size w1 wr) (fun i _ => x.attrs.length - (intOf i).toNat)
        case atStart => exact ⟨0, Nat.zero_le _, rfl, HV1, hbel⟩
        case round =>
         obtain ⟨k, hk, rfl, hin, hbel⟩ := hrel
         have hzr := hbel.size
         have hbwr : Below w.heap.size w wr := hbw1.trans (hbel.mono (by omega))
         have hc4r := H4.out wr hbel
         by_cases hlt : k < x.attrs.length
         ·obtain ⟨a, ha⟩ : ∃ a, Hid (x.attrs[k]? = some a) := ⟨x.attrs[k], List.getElem?_eq_getElem _⟩
          obtain ⟨ad, hAd, hbl, hcs⟩ := (HA.out.below hbwr) (by omega)
          have hc1 := (hcs k a ha.out).2
          unfold strV at hc1
          clear hcs
          have hnm := (HS4.out k a ha.out).2
          subst hAd
          have hlt' : (k : Int) < x.attrs.length := by omega
          have hin' := hin.out
          rw [drop_cons ha.out, valuesE] at hin'
          obtain ⟨q, hq⟩ : ∃ q, Hid (charsE a.value = q) := ⟨_, rfl⟩
          rw [hq.out] at hin'
          by_cases hq0 : q = 0
          ·rw [if_pos hq0] at hin'
           have HIN := Lib.hid hin'
           subst hq0
           clear hin' hin
           go_wp2_with fail
           refine (rchars_l _ _ hnm _ hq).mono ?_; rintro e w3 ⟨rfl, hb3⟩
           have hb3' := hbel.trans (hb3.mono hbel.size)
           go_wp2_with fail
           go_roundw
           case rel => exact ⟨k + 1, by omega, by go_num, HIN, hb3'⟩
           case measure => simp [intOf]; omega
          ·rw [if_neg hq0] at hin'
           have HIN := Lib.hid hin'
           have e6 : (q != 0) = true := by simp [hq0]
           clear hin' hin hq0
           go_wp2_with fail
           refine (rchars_l _ _ hnm _ hq).mono ?_; rintro e w3 ⟨rfl, hb3⟩
           have hb3' := hbel.trans (hb3.mono hbel.size)
           go_wp2_with fail
           go_ret
           exact ⟨by rw [← HIN.out]; rfl, hbw1.trans (hb3'.mono (by omega))⟩
         ·have hk' : k = x.attrs.length := by omega
          have hv : Hid (V = 0) := by
           show _ = _
           rw [← hin.out, List.drop_eq_nil_of_le (by omega)]; rfl
          subst hk'
          clear hin hlt hk
          go_wp2_with fail
          go_ret
          exact ⟨by rw [hv.out]; rfl, hbwr⟩
   ·have e5 : (x.text == []) = false := by simp [k3]
    have hv : Hid (V = 68) := by show _ = _; rw [← hV', if_pos (.inr k3)]
    clear hV' k1 k2 k3
    unfold itemVal strV
    go_enter Tryz.func77, Tryz.ntmps77
    go_wp2_with fail
    go_ret
    exact ⟨by rw [hv.out]; rfl, (Below.refl _ w).alloc (Nat.le_refl _) _⟩
  ·have e4 : (x.kind != 1) = true := by simp [k2]
   have hv : Hid (V = 68) := by show _ = _; rw [← hV', if_pos (.inl k2)]
   clear hV' k1 k2
   unfold itemVal strV
   go_enter Tryz.func77, Tryz.ntmps77
   go_wp2_with fail
   go_ret
   exact ⟨by rw [hv.out]; rfl, (Below.refl _ w).alloc (Nat.le_refl _) _⟩
end
section
open Go.RowKit Go.Shelf
variable {X : Nat → Prop}
theorem wp_store_part {P : Program} {o : Oper} {a : Act} {w : World} {K : Act → World → Prop} {Q : Exit → Act → World → Prop} (ty : TypeId) (x y : Operand) (ho : o.op = .store ty x y)
  (g off : Nat) (cells : Array Value) (hx : a.eval x = .pointer (some ⟨g, off, none⟩)) (hy : a.eval y = .agg cells)
  (t : TypeId) (cur : Array Value) (hg : w.heap[g]? = some (.cells cur t (0, 0))) (hi : (P.info? ty).map (·.size) = some cells.size)
  (hfit : off + cells.size ≤ cur.size) (h1 : cells.all (·.oneCell') = true)
  (h : K (a.put o.dst undef) (w.setRow g (cur.toList.take off ++ cells.toList ++ cur.toList.drop (off + cells.size)).toArray)) : o.wp P a w K Q := by
 have hst := run_storeCells_at P g off t cells.toList 0 cur w hg (by simpa using hfit) (fun v hv => (Array.all_eq_true_iff_forall_mem.1 h1) v (by simpa using hv))
 have hsv : (storeVar ty ⟨g, off, none⟩ (.agg cells)).run P w = .ok () (w.setRow g (cur.toList.take off ++ cells.toList ++ cur.toList.drop (off + cells.size)).toArray) := by
  cases hq : P.info? ty with
  | none => simp [hq] at hi
  | some i =>
   have hs : cells.size = i.size := by simp [hq] at hi; omega
   simp [storeVar, sizeOf, typeInfo, hq, Value.cells, hs] at hst ⊢
   exact hst
 unfold Oper.wp execOp
 simp only [ho, hx, hy, Instr.storeAt, Instr.sureAddr, Sem.run_bind, Sem.run_pure, Result.andThen_ok, hsv]
 exact h
theorem wpList_store_part {P : Program} {ops : Array Oper} {rest : List Oper} {o : Oper} {a : Act} {w : World} {Q : Exit → Act → World → Prop} (hgd : o.guard = none) (ty : TypeId) (x y : Operand) (ho : o.op = .store ty x y)
  (g off : Nat) (cells : Array Value) (hx : a.eval x = .pointer (some ⟨g, off, none⟩)) (hy : a.eval y = .agg cells)
  (t : TypeId) (cur : Array Value) (hg : w.heap[g]? = some (.cells cur t (0, 0))) (hi : (P.info? ty).map (·.size) = some cells.size)
  (hfit : off + cells.size ≤ cur.size) (h1 : cells.all (·.oneCell') = true)
  (w' : World) (hw' : w.setRow g (cur.toList.take off ++ cells.toList ++ cur.toList.drop (off + cells.size)).toArray = w')
  (h : wpList P ops Q rest (a.put o.dst undef) w') : wpList P ops Q (o :: rest) a w :=
 wpList_plain hgd fun _ hK => wp_store_part ty x y ho g off cells hx hy t cur hg hi hfit h1 (hK _ _ (by rw [hw']; exact h))
theorem set_cells (T : List SlotR) (k : Nat) (s s' : SlotR) (vs : List Value) (hs : T[k]? = some s) (_hv : vs.length = 5) (he : cellsR s' = (cellsR s).take 1 ++ vs) (R : List Value) :
  ((T.flatMap cellsR ++ R).take (k * 6 + 1) ++ vs ++ (T.flatMap cellsR ++ R).drop (k * 6 + 1 + 5)).take (T.length * 6) = (T.set k s').flatMap cellsR ∧ ((T.flatMap cellsR ++ R).take (k * 6 + 1) ++ vs ++ (T.flatMap cellsR ++ R).drop (k * 6 + 1 + 5)).length = (T.flatMap cellsR ++ R).length := by
 have hk : k < T.length := (List.getElem?_eq_some_iff.1 hs).1
 have hT : T = T.take k ++ s :: T.drop (k + 1) := by
  conv => lhs; rw [← List.take_append_drop k T]
  rw [List.drop_eq_getElem_cons hk]
  rw [List.getElem?_eq_getElem hk] at hs
  injection hs with hs
  rw [hs]
 have hset : T.set k s' = T.take k ++ s' :: T.drop (k + 1) := by rw [List.set_eq_take_append_cons_drop, if_pos hk]
 obtain ⟨A, hA⟩ : ∃ A, A = T.take k := ⟨_, rfl⟩
 obtain ⟨B, hB⟩ : ∃ B, B = T.drop (k + 1) := ⟨_, rfl⟩
 have hAl : A.length = k := by rw [hA, List.length_take]; omega
 rw [← hA, ← hB] at hT hset
 rw [hset]
 have hFA : (A.flatMap cellsR).length = k * 6 := by rw [flat_length cellsR 6 cellsR_length, hAl]
 have hF : T.flatMap cellsR ++ R = A.flatMap cellsR ++ ((cellsR s).take 1 ++ ((cellsR s).drop 1 ++ (B.flatMap cellsR ++ R))) := by
  rw [hT, List.flatMap_append, List.flatMap_cons, ← List.append_assoc ((cellsR s).take 1), List.take_append_drop]
  simp
 have h1 : (T.flatMap cellsR ++ R).take (k * 6 + 1) = A.flatMap cellsR ++ (cellsR s).take 1 := by
  rw [hF, ← List.append_assoc, List.take_left' (by rw [List.length_append, hFA]; rfl)]
 have h2 : (T.flatMap cellsR ++ R).drop (k * 6 + 1 + 5) = B.flatMap cellsR ++ R := by
  rw [hF, ← List.append_assoc, ← List.append_assoc, List.drop_left' (by rw [List.length_append, List.length_append, hFA]; rfl)]
 rw [h1, h2]
 have e : A.flatMap cellsR ++ (cellsR s).take 1 ++ vs ++ (B.flatMap cellsR ++ R) = (A ++ s' :: B).flatMap cellsR ++ R := by
  rw [List.flatMap_append, List.flatMap_cons, he]
  simp
 rw [e]
 have hl : ((A ++ s' :: B).flatMap cellsR).length = T.length * 6 := by
  rw [flat_length cellsR 6 cellsR_length, hT]
  simp
 refine ⟨List.take_left' hl, ?_⟩
 rw [List.length_append, List.length_append, hl, flat_length cellsR 6 cellsR_length]
theorem Rtext_any (s : List UInt8) (w : World) (hs : s.length ≤ 1000000000) (V : Int) (hV : Hid (charsE s = V)) :
  Calls Tryz.prog 90 #[.string ⟨s.toArray⟩] w (Ret w (.int .i64 V)) := by
 obtain ⟨n, hn⟩ : ∃ n, Hid (countL s = n) := ⟨_, rfl⟩
 have hz : (⟨s.toArray⟩ : ByteArray).size = s.length := by show s.toArray.size = _; simp
 have hz' : (⟨s.toArray⟩ : ByteArray).size ≤ 1000000000 := by rw [hz]; exact hs
 have hv := hV.out
 unfold charsE at hv
 rw [hn.out] at hv
 by_cases c1 : n < 0
 ·have HV : Hid (64 = V) := by rw [if_pos c1] at hv; exact hv
  clear hv hV
  go_enter Tryz.func90, Tryz.ntmps90
  go_wp2_with fail
  refine (RCount_as ⟨s.toArray⟩ w hz' n (by show countL s = n; exact hn.out)).mono ?_
  rintro e w2 ⟨rfl, hb2⟩
  go_wp2_with fail
  go_ret
  exact ⟨by rw [← HV.out]; rfl, hb2⟩
 ·rw [if_neg c1] at hv
  have c1' : 0 ≤ n := by omega
  by_cases c2 : 1500 < s.length
  ·have HV : Hid (67 = V) := by rw [if_pos c2] at hv; exact hv
   have c2' : (1500 : Int) < (s.length : Int) := by omega
   clear hv hV c1
   go_enter Tryz.func90, Tryz.ntmps90
   go_wp2_with fail
   refine (RCount_as ⟨s.toArray⟩ w hz' n (by show countL s = n; exact hn.out)).mono ?_
   rintro e w2 ⟨rfl, hb2⟩
   rw [← hz] at c2 c2'
   go_wp2_with fail
   go_ret
   exact ⟨by rw [← HV.out]; rfl, hb2⟩
  ·have HV : Hid (0 = V) := by rw [if_neg c2] at hv; exact hv
   have c2' : ¬ (1500 : Int) < (s.length : Int) := by omega
   clear hv hV c1
   go_enter Tryz.func90, Tryz.ntmps90
   go_wp2_with fail
   refine (RCount_as ⟨s.toArray⟩ w hz' n (by show countL s = n; exact hn.out)).mono ?_
   rintro e w2 ⟨rfl, hb2⟩
   rw [← hz] at c2 c2'
   go_wp2_with fail
   go_ret
   exact ⟨by rw [← HV.out]; rfl, hb2⟩
theorem Rset_g (L : List RowD) (ad : Addr) (c : Nat) (next : Int) (k : Nat) (x : ItemD) (Ax : Option Addr) (cx : Nat) (w : World) (hL : RowsAt X w w.heap.size (some ad) L) (hl : L.length ≤ 100000) (hc : SliceOk (some ad) L.length c) (hk : k < L.length) (hx : AttrsX X w w.heap.size Ax x.attrs) (hxc : x.attrs.length ≤ cx) :
  Calls Tryz.prog 92 #[.agg #[.slice (some ad) L.length c, .int .i64 next], .int .i64 (k : Int), .agg (itemVal x Ax cx)] w fun er w' => ∃ A2 c2 S, er = .returned (.agg #[.slice A2 S.length c2, .int .i64 next]) ∧ S.map (·.1) = L.modify k (fun r => ⟨r.id, x⟩) ∧ RowsOwn w' w.heap.size A2 c2 S ∧ AttrsOf X w w.heap.size S ∧ Below w.heap.size w w' := by
 obtain ⟨T, t1, t2, t3⟩ := slots_all hL
 obtain ⟨hc1, hc2, _⟩ := hc
 obtain ⟨n, hn⟩ : ∃ n, Hid (L.length = n) := ⟨_, rfl⟩
 rw [hn.out] at hc1 hk hl ⊢
 have hk0 : (0 : Int) ≤ (k : Int) := by omega
 have hk1 : (k : Int) < (n : Int) := by omega
 have hT : T.length = n := by rw [← hn.out, ← t1, List.length_map]
 obtain ⟨W4, hW4⟩ : ∃ W4, Hid (W4 = ((((w.alloc (.cells #[.slice (some ad) n c, .int .i64 next] 29)).alloc (.cells #[.int .i64 x.level, .int .i64 x.kind, strV x.name, strV x.text, .slice Ax x.attrs.length cx] 62)).alloc (.cells zeroT 29)).alloc (.cells #[] 97))) := ⟨_, rfl⟩
 have hb4 : Below w.heap.size w W4 := by rw [hW4.out]; exact ((((Below.refl _ w).alloc (Nat.le_refl _) _).alloc (by simp <;> omega) _).alloc (by simp <;> omega) _).alloc (by simp <;> omega) _
 have hz4 : W4.heap.size = w.heap.size + 4 := by rw [hW4.out]; simp
 have hx4 : W4.heap[w.heap.size]? = some (.cells #[.slice (some ad) n c, .int .i64 next] 29 (0, 0)) := by
  rw [hW4.out]
  exact (Below.heap_alloc _ _ _ (by simp <;> omega)).trans ((Below.heap_alloc _ _ _ (by simp <;> omega)).trans ((Below.heap_alloc _ _ _ (by simp <;> omega)).trans (heap_alloc_new w _)))
 have hi4 : W4.heap[w.heap.size + 1]? = some (.cells #[.int .i64 x.level, .int .i64 x.kind, strV x.name, strV x.text, .slice Ax x.attrs.length cx] 62 (0, 0)) := by
  rw [hW4.out]
  refine (Below.heap_alloc _ _ _ (by simp <;> omega)).trans ((Below.heap_alloc _ _ _ (by simp <;> omega)).trans ?_)
  have := heap_alloc_new (w.alloc (.cells #[.slice (some ad) n c, .int .i64 next] 29)) (.cells #[.int .i64 x.level, .int .i64 x.kind, strV x.name, strV x.text, .slice Ax x.attrs.length cx] 62)
  simpa using this
 have hy4 : W4.heap[w.heap.size + 2]? = some (.cells zeroT 29 (0, 0)) := by
  rw [hW4.out]
  refine (Below.heap_alloc _ _ _ (by simp <;> omega)).trans ?_
  have := heap_alloc_new ((w.alloc (.cells #[.slice (some ad) n c, .int .i64 next] 29)).alloc (.cells #[.int .i64 x.level, .int .i64 x.kind, strV x.name, strV x.text, .slice Ax x.attrs.length cx] 62)) (.cells zeroT 29)
  simpa using this
 have he4 : W4.heap[w.heap.size + 3]? = some (.cells #[] 97 (0, 0)) := by
  rw [hW4.out]
  have := heap_alloc_new (((w.alloc (.cells #[.slice (some ad) n c, .int .i64 next] 29)).alloc (.cells #[.int .i64 x.level, .int .i64 x.kind, strV x.name, strV x.text, .slice Ax x.attrs.length cx] 62)).alloc (.cells zeroT 29)) (.cells #[] 97)
  simpa using this
 have hown4 : RowsOwn W4 0 (some ⟨w.heap.size + 3, 0, none⟩) 0 [] := ⟨rfl, .inr ⟨w.heap.size + 3, 0, #[], rfl, Nat.zero_le _, he4, Nat.le_refl _, Nat.zero_le _, rfl, rfl⟩⟩
 obtain ⟨pa, pc, w5, hr5, hown5, hg5, hf5⟩ := run_append_any hown4 T (some ad) c (t3.below hb4) (by simp) (by omega)
 rw [hT, List.length_nil, Nat.zero_add] at hr5 hf5
 rw [List.nil_append] at hown5
 have hfr5 : ∀ b, (Value.slice pa n pc).ownBlock = some b → w.heap.size + 3 ≤ b := fun b hb => by
  rcases hf5 b hb with h | h
  ·simp [Value.ownBlock] at h; omega
  ·omega
 have hbk : ∀ b, b < w.heap.size + 3 → w5.heap[b]? = W4.heap[b]? := fun b hb => hg5.block b (by omega) (by simp [Value.ownBlock]; omega)
 have hb5 : Below w.heap.size w w5 := ⟨hg5.os.trans hb4.os, hg5.tape.trans hb4.tape, hg5.output.trans hb4.output, Nat.le_trans hb4.size hg5.size, fun b hb => (hbk b (by omega)).trans (hb4.block b hb)⟩
 have hx5 := (hbk w.heap.size (by omega)).trans hx4
 have hi5 := (hbk (w.heap.size + 1) (by omega)).trans hi4
 have hy5 := (hbk (w.heap.size + 2) (by omega)).trans hy4
 obtain ⟨g, hpa, _, hgw, hcap, hcell⟩ := own_flat cellsR cellsR_length (show w5.ownsRow 0 _ 6 (.slice pa T.length pc) T.length (T.flatMap cellsR) from hown5) (by omega)
 subst hpa
 have hgx : w.heap.size + 3 ≤ g := hfr5 g rfl
 obtain ⟨s, hs⟩ : ∃ s, Hid (T[k]? = some s) := ⟨T[k]'(by omega), List.getElem?_eq_getElem _⟩
 obtain ⟨cap, cur, hcapn, hcur, hcs, hctk, hcpm⟩ : ∃ cap cur, cap = pc ∧ w5.heap[g]? = some (.cells cur 97 (0, 0)) ∧ cur.size = cap * 6 ∧ cur.toList.take (n * 6) = T.flatMap cellsR ∧ n ≤ cap ∧ cap ≤ maxLen := by
  have hdj := hown5.2
  rw [hT] at hdj
  rcases hdj with ⟨h, _⟩ | ⟨g', cap, cur, h1, _, h2, h3, hcm, h4, h5⟩
  ·cases h
  ·injection h1 with h1 _ h6
   injection h1 with h1
   injection h1 with h1
   subst h1
   exact ⟨cap, cur, h6.symm, h2, h4, h5, h3, hcm⟩
 subst hcapn
 obtain ⟨R, hR⟩ : ∃ R, Hid (cur.toList = T.flatMap cellsR ++ R) := ⟨cur.toList.drop (n * 6), by show _ = _; rw [← hctk, List.take_append_drop]⟩
 obtain ⟨s', hs'⟩ : ∃ s' : SlotR, Hid (s' = (⟨s.1.id, x⟩, Ax, cx)) := ⟨_, rfl⟩
 obtain ⟨hset1, hset2⟩ := set_cells T k s s' [.int .i64 x.level, .int .i64 x.kind, strV x.name, strV x.text, .slice Ax x.attrs.length cx] hs.out rfl (by rw [hs'.out]; rfl) R
 rw [← hR.out, hT] at hset1
 rw [← hR.out] at hset2
 have hfit : k * 6 + 1 + 5 ≤ cur.size := by
  rw [hcs]
  have : (k + 1) * 6 ≤ cap * 6 := Nat.mul_le_mul_right _ (by omega)
  omega
 obtain ⟨w6, hw6⟩ : ∃ w6, Hid (w5.setRow g (cur.toList.take (k * 6 + 1) ++ [.int .i64 x.level, .int .i64 x.kind, strV x.name, strV x.text, .slice Ax x.attrs.length cx] ++ cur.toList.drop (k * 6 + 1 + 5)).toArray = w6) := ⟨_, rfl⟩
 have hg6 : w6.heap[g]? = some (.cells (cur.toList.take (k * 6 + 1) ++ [.int .i64 x.level, .int .i64 x.kind, strV x.name, strV x.text, .slice Ax x.attrs.length cx] ++ cur.toList.drop (k * 6 + 1 + 5)).toArray 97 (0, 0)) := by rw [← hw6.out]; exact setRow_heap _ _ _ _ _ _ hcur
 have ho6 : ∀ b, b ≠ g → w6.heap[b]? = w5.heap[b]? := fun b hb => by rw [← hw6.out]; exact setRow_other _ _ _ _ hb
 have hz6 : w6.heap.size = w5.heap.size := by rw [← hw6.out, setRow_size]
 have hown6 : RowsOwn w6 w.heap.size (some ⟨g, 0, none⟩) cap (T.set k s') := by
  refine ⟨by rw [flat_length cellsR 6 cellsR_length], .inr ⟨g, cap, _, rfl, by omega, hg6, by rw [List.length_set, hT]; exact hcpm.1, hcpm.2, ?_, ?_⟩⟩
  ·show (_ : List Value).toArray.size = _
   rw [List.size_toArray, hset2, Array.length_toList, hcs]
  ·rw [List.length_set, hT]
   exact hset1
 have hb6 : Below w.heap.size w w6 := by
  rw [← hw6.out]
  exact ⟨hb5.os, hb5.tape, hb5.output, by rw [setRow_size]; exact hb5.size, fun b hb => (setRow_other _ _ _ _ (by omega)).trans (hb5.block b hb)⟩
 have hx6 := (ho6 w.heap.size (by omega)).trans hx5
 have hy6 := (ho6 (w.heap.size + 2) (by omega)).trans hy5
 have hset : Hid ((T.set k s').map (·.1) = L.modify k (fun r => ⟨r.id, x⟩)) := by
  show _ = _
  have hsL : L[k]? = some s.1 := by rw [← t1, List.getElem?_map, hs.out]; rfl
  have hkL : k < L.length := by rw [hn.out]; exact hk
  have hsL' : L[k] = s.1 := by rw [List.getElem?_eq_getElem hkL] at hsL; injection hsL
  rw [List.map_set, t1, hs'.out]
  apply List.ext_getElem?
  intro i
  rw [List.getElem?_set, List.getElem?_modify]
  by_cases hki : k = i
  ·subst hki
   rw [if_pos rfl, if_pos hkL, List.getElem?_eq_getElem hkL, hsL']
   simp
  ·rw [if_neg hki]
   simp [hki]
 have hat : Hid (AttrsOf X w w.heap.size (T.set k s')) := fun y hy => by
  rcases List.mem_or_eq_of_mem_set hy with hy | hy
  ·exact t2 y hy
  ·rw [hy, hs'.out]; exact ⟨hx, hxc⟩
 have a0 := cell_row hx4 0 _ rfl
 have HX5 := Lib.hid hx5
 have HX6 := Lib.hid hx6
 have HY6 := Lib.hid hy6
 have HOWN6 := Lib.hid hown6
 have HB6 := Lib.hid hb6
 have HCUR := Lib.hid hcur
 have HFIT := Lib.hid hfit
 have HGX := Lib.hid hgx
 have HTL := Lib.hid hT
 rw [hW4.out] at hr5 a0
 have i0 := cell_row hi5 0 _ rfl
 have i1 := cell_row hi5 1 _ rfl
 have i2 := cell_row hi5 2 _ rfl
 have i3 := cell_row hi5 3 _ rfl
 have i4 := cell_row hi5 4 _ rfl
 have b1 := free_row hx6 0
 have b0 := cell_row hx6 0 _ rfl
 clear hx6 hy6 hown6 hb6 hcur hfit hx5 hi5 hy5 hb5 hset1 hset2 hctk hown5 hcell hx4 hi4 hy4 he4 hown4 hg5 hf5 hb4 hbk hfr5 t1 t2 t3 hT hx hL hg6 ho6 hcs hgx hz4
 unfold itemVal
 go_enter Tryz.func92, Tryz.ntmps92
 go_upto_region 2 with (at_builtin; refine wpList_append_runI _ rfl _ _ 27 rfl (.slice (some ⟨w.heap.size + 3, 0, none⟩) 0 0) (.slice (some ad) n c) (by simp [Act.eval]) (by simp [Act.eval]) hr5 ?_)
 go_upto_region 4 with (refine wpList_store_part rfl 62 (.tmp 16) (.tmp 14) rfl g (k * 6 + 1) #[.int .i64 x.level, .int .i64 x.kind, strV x.name, strV x.text, .slice Ax x.attrs.length cx] rfl rfl 97 cur HCUR.out (by kernel_rfl) HFIT.out (by simp [Value.oneCell', strV]) w6 hw6.out ?_)
 clear b0 b1 i0 i1 i2 i3 i4
 have HB7 : Hid (Below w.heap.size w (w6.setCell ⟨w.heap.size, 0, none⟩ (.slice (some ⟨g, 0, none⟩) n cap))) := HB6.out.setCell (Nat.le_refl _) _
 obtain ⟨w7, hw7⟩ : ∃ w7, Hid (w6.setCell ⟨w.heap.size, 0, none⟩ (.slice (some ⟨g, 0, none⟩) n cap) = w7) := ⟨_, rfl⟩
 rw [hw7.out] at HB7
 have hx7 : w7.heap[w.heap.size]? = some (.cells (treeV (some ⟨g, 0, none⟩) n cap next) 29 (0, 0)) := by rw [← hw7.out]; exact Lib.heap_setCell_same (i := 0) HX6.out _
 have HY7 : Hid (w7.heap[w.heap.size + 2]? = some (.cells zeroT 29 (0, 0))) := by
  show _ = _
  rw [← hw7.out, Below.heap_setCell _ _ _ _ (by show w.heap.size + 2 ≠ w.heap.size; omega)]
  exact HY6.out
 have HOWN7 : Hid (RowsOwn w7 w.heap.size (some ⟨g, 0, none⟩) cap (T.set k s')) := by
  show RowsOwn _ _ _ _ _
  rw [← hw7.out]
  exact row_block HOWN6.out fun b hb => Below.heap_setCell _ _ _ _ (fun e => by
   have e' : b = w.heap.size := e
   have e2 : g = b := by simpa [Value.ownBlock] using hb
   have := HGX.out
   omega)
 have e0 := cell_row hx7 0 _ rfl
 have e1 := cell_row hx7 1 _ rfl
 clear hx7
 rw [hw7.out]
 go_wp2_with (refine wpList_store_row rfl 29 (.tmp 6) (.tmp 19) rfl (w.heap.size + 2) (treeV (some ⟨g, 0, none⟩) n cap next) rfl rfl 29 zeroT HY7.out (by kernel_rfl) rfl (treeV_one _ _ _ _) ?_)
 try simp only [Exit.inBlock, Exit.then]
 refine bodyPost_ret (results_cell_row Tryz.results92 _ _ (w.heap.size + 2) 29 (treeV (some ⟨g, 0, none⟩) n cap next) (0, 0) _ rfl (setRow_heap _ _ _ _ _ _ HY7.out) Tryz.underlying29 rfl (by kernel_rfl)) rfl ?_
 refine ⟨some ⟨g, 0, none⟩, cap, T.set k s', by rw [List.length_set, HTL.out]; rfl, hset.out, row_block HOWN7.out fun b hb => setRow_other _ _ _ _ (fun e => ?_), hat.out, ?_⟩
 ·have e2 : g = b := by simpa [Value.ownBlock] using hb
  have := HGX.out
  omega
 ·have h1 := HB7.out
  exact ⟨h1.os, h1.tape, h1.output, by rw [setRow_size]; exact h1.size, fun b hb => (setRow_other _ _ _ _ (by omega)).trans (h1.block b hb)⟩
end
section
open Go.RowKit Go.Shelf
variable {X : Nat → Prop}
theorem RowsAt.setRow {w : World} {B : Nat} {A : Option Addr} {L : List RowD} (h : RowsAt X w B A L) {g : Nat} {old : Array Value} {t : TypeId} {fr : Nat × Nat} (hg : w.heap[g]? = some (.cells old t fr)) (hno : ∀ (i : Nat) (s : ByteArray), old[i]? ≠ some (.string s)) (cs : Array Value) : RowsAt X (w.setRow g cs) B A L := fun hl => by
 obtain ⟨ad, rfl, hb, hr⟩ := h hl
 have hblk : ∀ (p : Addr) (s : ByteArray), w.cell? p = some (.string s) → p.block ≠ g := fun p s hp e => by
  unfold World.cell? at hp
  rw [e, hg] at hp
  have hp' : p.spot = none ∧ old[p.off]? = some (Value.string s) := by simpa using hp
  exact hno _ _ hp'.2
 have hkeep : ∀ p : Addr, p.block ≠ g → (w.setRow g cs).cell? p = w.cell? p := fun p hp => by
  unfold World.cell?
  rw [setRow_other _ _ _ _ hp]
 have hne : ad.block ≠ g := by
  obtain ⟨r, hr0⟩ : ∃ r, L[0]? = some r := ⟨L[0], List.getElem?_eq_getElem hl⟩
  obtain ⟨A', c', _, _, hc⟩ := hr 0 r hr0
  unfold RowCells at hc
  have := hblk _ _ hc.2.2.2.1
  simpa [block_of_add] using this
 refine ⟨ad, rfl, hb, fun k r hk => ?_⟩
 obtain ⟨A', c', ⟨ha, hax⟩, hcc, hc⟩ := hr k r hk
 have hne' : (ad.add (k * 6)).block ≠ g := by rw [block_of_add]; exact hne
 refine ⟨A', c', ⟨fun hp => ?_, hax⟩, hcc, ?_⟩
 ·obtain ⟨ad2, rfl, hb2, hq⟩ := ha hp
  refine ⟨ad2, rfl, hb2, fun j a hj => ?_⟩
  obtain ⟨q1, q2⟩ := hq j a hj
  exact ⟨by rw [hkeep _ (hblk _ _ q1)]; exact q1, by rw [hkeep _ (hblk _ _ q2)]; exact q2⟩
 ·unfold RowCells at hc ⊢
  obtain ⟨e0, e1, e2, e3, e4, e5⟩ := hc
  exact ⟨(hkeep _ hne').trans e0, (hkeep _ (by exact hne')).trans e1, (hkeep _ (by exact hne')).trans e2, (hkeep _ (by exact hne')).trans e3, (hkeep _ (by exact hne')).trans e4, (hkeep _ (by exact hne')).trans e5⟩
theorem zeroT_no : ∀ (i : Nat) (s : ByteArray), zeroT[i]? ≠ some (.string s) := fun i s => by
 match i with
 | 0 => simp [zeroT]
 | 1 => simp [zeroT]
 | i + 2 => simp [zeroT]
theorem treeV_no (A : Option Addr) (n c : Nat) (next : Int) : ∀ (i : Nat) (s : ByteArray), (treeV A n c next)[i]? ≠ some (.string s) := fun i s => by
 match i with
 | 0 => simp [treeV]
 | 1 => simp [treeV]
 | i + 2 => simp [treeV]
theorem own_x {w : World} {B : Nat} {A : Option Addr} {c : Nat} {l : List AttrD} (h : AttrsOwn w B A c l) (hX : ∀ b, B ≤ b → X b) : AttrsX X w w.heap.size A l := ⟨h.at, fun hp ad e => by
 obtain ⟨g, e', hb, _⟩ := own_flat cellsA cellsA_length h hp
 rw [e] at e'
 injection e' with e'
 subst e'
 exact hX _ hb⟩
def TreeR (X : Nat → Prop) (w : World) (A : Option Addr) (c : Nat) (L : List RowD) : Prop := RowsAt X w w.heap.size A L ∧ SliceOk A L.length c
def TPost (X : Nat → Prop) (w : World) (L : List RowD) (next e : Int) (er : Ending) (w' : World) : Prop := ∃ A c, er = .returned (.tuple #[.agg (treeV A L.length c next), .int .i64 e]) ∧ TreeR X w' A c L ∧ Below w.heap.size w w'
def TPost3 (X : Nat → Prop) (w : World) (a : Ans) (er : Ending) (w' : World) : Prop := ∃ A c, er = .returned (.tuple #[.agg (treeV A a.1.length c a.2.1), .int .i64 a.2.2.1, .int .i64 a.2.2.2]) ∧ TreeR X w' A c a.1 ∧ Below w.heap.size w w'
theorem TreeR.laid {w w2 : World} {A : Option Addr} {c : Nat} {L : List RowD} (h : TreeR X w2 A c L) (hb : Below w.heap.size w w2) {g : Nat} (hg : w.heap.size ≤ g) (hz : w2.heap[g]? = some (.cells zeroT 29 (0, 0))) (cs : Array Value) : TreeR X (w2.setRow g cs) A c L ∧ Below w.heap.size w (w2.setRow g cs) := by
 refine ⟨⟨?_, h.2⟩, ⟨hb.os, hb.tape, hb.output, by rw [setRow_size]; exact hb.size, fun b hb' => (setRow_other _ _ _ _ (by omega)).trans (hb.block b hb')⟩⟩
 rw [setRow_size]
 exact h.1.setRow hz zeroT_no cs
theorem TreeR.of {w w' : World} {A : Option Addr} {c : Nat} {S : List SlotR} (h : RowsOwn w' w.heap.size A c S) (ha : AttrsOf X w w.heap.size S) (hb : Below w.heap.size w w') {L : List RowD} (hL : S.map (·.1) = L) (hX : ∀ b, w.heap.size ≤ b → X b) : TreeR X w' A c L := by
 subst hL
 refine ⟨RowsOwn.at h ((ha.below hb).more hb.size) hX, ?_⟩
 rw [List.length_map]
 exact h.ok
theorem TreeR.below {w w' : World} {A : Option Addr} {c : Nat} {L : List RowD} (h : TreeR X w A c L) (hb : Below w.heap.size w w') : TreeR X w' A c L := ⟨(h.1.below hb).more hb.size, h.2⟩
end
section
open Go.RowKit Go.Shelf
variable {X : Nat → Prop}
theorem find_lt : ∀ {L : List RowD} {id : Int} {k : Nat}, findL L id = some k → k < L.length
 | [], _, _, h => by simp [findL] at h
 | r :: L, id, k, h => by
  unfold findL at h
  split at h
  ·injection h with h
   rw [List.length_cons]
   omega
  ·obtain ⟨j, hj, h⟩ := Option.map_eq_some_iff.1 h
   have := find_lt hj
   rw [List.length_cons]
   omega
theorem RDelete_any (L : List RowD) (A : Option Addr) (c : Nat) (next id : Int) (w : World) (hT : TreeR X w A c L) (hs : SmallRows L) (hX : ∀ b, w.heap.size ≤ b → X b) :
  Calls Tryz.prog 65 #[.agg #[.slice A L.length c, .int .i64 next], .int .i64 id] w (TPost X w (deleteL L next id).1 next (deleteL L next id).2.2.2) := by
 have HXN := Lib.hid hX
 clear hX
 obtain ⟨r, hr⟩ : ∃ r, Hid (findI L id = r) := ⟨_, rfl⟩
 have HS := Lib.hid hs
 obtain ⟨n, hn⟩ : ∃ n, Hid (L.length = n) := ⟨_, rfl⟩
 obtain ⟨W2, hW2⟩ : ∃ W2, Hid (W2 = (w.alloc (.cells #[.slice A L.length c, .int .i64 next] 29)).alloc (.cells #[.slice none 0 0, .int .i64 0] 29)) := ⟨_, rfl⟩
 have hb2 : Below w.heap.size w W2 := by rw [hW2.out]; exact ((Below.refl _ w).alloc (Nat.le_refl _) _).alloc (by simp) _
 have hz2 : W2.heap.size = w.heap.size + 2 := by rw [hW2.out]; simp
 have hx2 : W2.heap[w.heap.size]? = some (.cells (treeV A L.length c next) 29 (0, 0)) := by
  rw [hW2.out]
  exact (Below.heap_alloc _ _ _ (by simp)).trans (heap_alloc_new w _)
 have hy2 : W2.heap[w.heap.size + 1]? = some (.cells zeroT 29 (0, 0)) := by
  rw [hW2.out]
  have := heap_alloc_new (w.alloc (.cells #[.slice A L.length c, .int .i64 next] 29)) (.cells #[.slice none 0 0, .int .i64 0] 29)
  simpa [zeroT] using this
 have HT2 := Lib.hid (hT.below hb2)
 have HT := Lib.hid hT
 have HB2 := Lib.hid hb2
 have HX2 := Lib.hid hx2
 have HY2 := Lib.hid hy2
 have HZ2 := Lib.hid hz2
 clear hs hb2 hx2 hy2 hz2 hT
 cases hf : findL L id with
 | none =>
  have hr1 : r = -1 := by rw [← hr.out]; unfold findI; rw [hf]
  have ha : deleteL L next id = (L, next, 0, 60) := by unfold deleteL; rw [hf]
  rw [ha]
  clear ha hf
  subst hr1
  go_enter Tryz.func65, Tryz.ntmps65
  go_wp2_with fail
  rw [← hW2.out]
  refine (RFind_any L A c next id W2 HT2.out.1 HS.out (-1) hr).mono ?_
  rintro e3 w3 ⟨rfl, hb3⟩
  have hx3 := (hb3.block w.heap.size (by have := HZ2.out; omega)).trans HX2.out
  have HY3 : Hid (w3.heap[w.heap.size + 1]? = some (.cells zeroT 29 (0, 0))) := (hb3.block (w.heap.size + 1) (by have := HZ2.out; omega)).trans HY2.out
  have HT3 := Lib.hid (HT2.out.below hb3)
  have HB3 : Hid (Below w.heap.size w w3) := HB2.out.trans (hb3.mono HB2.out.size)
  have HZ3 : Hid (w.heap.size + 2 ≤ w3.heap.size) := by show _ ≤ _; have := hb3.size; have := HZ2.out; omega
  have HX3 := Lib.hid hx3
  clear hb3 hx3
  go_upto_region 3 with (fail)
  have e0 := cell_row HX3.out 0 _ rfl
  have e1 := cell_row HX3.out 1 _ rfl
  go_wp2_with (refine wpList_store_row rfl 29 (.tmp 4) (.tmp 12) rfl (w.heap.size + 1) (treeV A L.length c next) rfl rfl 29 zeroT HY3.out (by kernel_rfl) rfl (treeV_one _ _ _ _) ?_)
  try simp only [Exit.inBlock, Exit.then]
  refine bodyPost_ret (results_cellb Tryz.results65 _ _ (w.heap.size + 1) 29 (treeV A L.length c next) (0, 0) _ rfl (setRow_heap _ _ _ _ _ _ HY3.out) Tryz.underlying29 rfl (by kernel_rfl)) rfl ?_
  obtain ⟨q1, q2⟩ := HT3.out.laid HB3.out (g := w.heap.size + 1) (by omega) HY3.out (treeV A L.length c next)
  exact ⟨A, c, rfl, q1, q2⟩
 | some k =>
  have hr1 : r = (k : Int) := by rw [← hr.out]; unfold findI; rw [hf]
  have hk : k < L.length := find_lt hf
  subst hr1
  have k0 : (0 : Int) ≤ (k : Int) := by omega
  by_cases hk0 : k = 0
  ·have ha : deleteL L next id = (L, next, 0, 62) := by unfold deleteL; rw [hf]; exact if_pos hk0
   rw [ha]
   have t0 : ((k : Int) == 0) = true := by simp [hk0]
   clear ha hf hk0
   go_enter Tryz.func65, Tryz.ntmps65
   go_wp2_with fail
   rw [← hW2.out]
   refine (RFind_any L A c next id W2 HT2.out.1 HS.out (k : Int) hr).mono ?_
   rintro e3 w3 ⟨rfl, hb3⟩
   have hx3 := (hb3.block w.heap.size (by have := HZ2.out; omega)).trans HX2.out
   have HY3 : Hid (w3.heap[w.heap.size + 1]? = some (.cells zeroT 29 (0, 0))) := (hb3.block (w.heap.size + 1) (by have := HZ2.out; omega)).trans HY2.out
   have HT3 := Lib.hid (HT2.out.below hb3)
   have HB3 : Hid (Below w.heap.size w w3) := HB2.out.trans (hb3.mono HB2.out.size)
   have HZ3 : Hid (w.heap.size + 2 ≤ w3.heap.size) := by show _ ≤ _; have := hb3.size; have := HZ2.out; omega
   have HX3 := Lib.hid hx3
   clear hb3 hx3
   go_upto_region 5 with (fail)
   have e0 := cell_row HX3.out 0 _ rfl
   have e1 := cell_row HX3.out 1 _ rfl
   go_wp2_with (refine wpList_store_row rfl 29 (.tmp 4) (.tmp 15) rfl (w.heap.size + 1) (treeV A L.length c next) rfl rfl 29 zeroT HY3.out (by kernel_rfl) rfl (treeV_one _ _ _ _) ?_)
   try simp only [Exit.inBlock, Exit.then]
   refine bodyPost_ret (results_cellb Tryz.results65 _ _ (w.heap.size + 1) 29 (treeV A L.length c next) (0, 0) _ rfl (setRow_heap _ _ _ _ _ _ HY3.out) Tryz.underlying29 rfl (by kernel_rfl)) rfl ?_
   obtain ⟨q1, q2⟩ := HT3.out.laid HB3.out (g := w.heap.size + 1) (by omega) HY3.out (treeV A L.length c next)
   exact ⟨A, c, rfl, q1, q2⟩
  ·have ha : deleteL L next id = (withoutL L k, next, 0, 0) := by unfold deleteL; rw [hf]; exact if_neg hk0
   rw [ha]
   have t0 : ((k : Int) == 0) = false := by simpa using hk0
   clear ha hf hk0
   have HAD : Hid (∃ ad, A = some ad) := by
    obtain ⟨ad, hA, _⟩ := HT.out.1 (by omega)
    exact ⟨ad, hA⟩
   go_enter Tryz.func65, Tryz.ntmps65
   go_wp2_with fail
   rw [← hW2.out]
   refine (RFind_any L A c next id W2 HT2.out.1 HS.out (k : Int) hr).mono ?_
   rintro e3 w3 ⟨rfl, hb3⟩
   have hx3 := (hb3.block w.heap.size (by have := HZ2.out; omega)).trans HX2.out
   have HY3 : Hid (w3.heap[w.heap.size + 1]? = some (.cells zeroT 29 (0, 0))) := (hb3.block (w.heap.size + 1) (by have := HZ2.out; omega)).trans HY2.out
   have HT3 := Lib.hid (HT2.out.below hb3)
   have HB3 : Hid (Below w.heap.size w w3) := HB2.out.trans (hb3.mono HB2.out.size)
   have HZ3 : Hid (w.heap.size + 2 ≤ w3.heap.size) := by show _ ≤ _; have := hb3.size; have := HZ2.out; omega
   have HX3 := Lib.hid hx3
   clear hb3 hx3
   obtain ⟨ad, rfl⟩ := HAD.out
   have e0 := cell_row HX3.out 0 _ rfl
   have e1 := cell_row HX3.out 1 _ rfl
   go_upto_region 6 with (fail)
   go_wp2_with fail
   refine (Rwithout_g L ad c next k w3 HT3.out.1 HS.out HT3.out.2 hk).mono ?_
   rintro e4 w4 ⟨A4, c4, S, rfl, hS, hown, hat, hb4⟩
   have HT4 := Lib.hid (TreeR.of hown hat hb4 hS (fun b hb => HXN.out b (Nat.le_trans HB3.out.size hb)))
   have HSL : Hid (S.length = (withoutL L k).length) := by show _ = _; rw [← hS, List.length_map]
   have HY4 : Hid (w4.heap[w.heap.size + 1]? = some (.cells zeroT 29 (0, 0))) := (hb4.block (w.heap.size + 1) (by have := HZ3.out; omega)).trans HY3.out
   have HB4 : Hid (Below w.heap.size w w4) := HB3.out.trans (hb4.mono HB3.out.size)
   clear hown hat hb4 hS e0 e1
   rw [HSL.out]
   go_wp2_with (refine wpList_store_row rfl 29 (.tmp 4) (.tmp 18) rfl (w.heap.size + 1) (treeV A4 (withoutL L k).length c4 next) rfl rfl 29 zeroT HY4.out (by kernel_rfl) rfl (treeV_one _ _ _ _) ?_)
   try simp only [Exit.inBlock, Exit.then]
   refine bodyPost_ret (results_cellb Tryz.results65 _ _ (w.heap.size + 1) 29 (treeV A4 (withoutL L k).length c4 next) (0, 0) _ rfl (setRow_heap _ _ _ _ _ _ HY4.out) Tryz.underlying29 rfl (by kernel_rfl)) rfl ?_
   obtain ⟨q1, q2⟩ := HT4.out.laid HB4.out (g := w.heap.size + 1) (by omega) HY4.out (treeV A4 (withoutL L k).length c4 next)
   exact ⟨A4, c4, rfl, q1, q2⟩
end
section
open Go.RowKit
theorem one_first (l : List ItemD) (ad : Addr) (c : Nat) (x : ItemD) (w : World) (hA : ItemsAt w w.heap.size (some ad) l) (hx : l[0]? = some x) (_hlen : l.length ≤ 1000000000) (hs : SmallItem x) (V : Int) (hV : Hid (oneE none 0 x = V)) :
  Calls Tryz.prog 48 #[.slice (some ad) l.length c, .int .i64 0] w (Ret w (.int .i64 V)) := by
 have hl : 0 < l.length := (List.getElem?_eq_some_iff.1 hx).1
 obtain ⟨hbl, A', c', hat, _, h0, h1, h2, h3, h4⟩ := hA.item hx
 unfold strV at h2 h3
 have ez : ad.add (0 * 5) = ad := by unfold Addr.add; simp
 rw [ez] at h0 h1 h2 h3 h4
 have HAT := Lib.hid hat
 have hV' := hV.out
 clear hA hx ez hat hV
 by_cases c1 : x.level ≠ 0 ∨ x.kind ≠ 1
 ·have hv : Hid (69 = V) := by
   show _ = _
   rw [← hV']
   unfold oneE
   have : placeE none 0 x = 69 := by unfold placeE; exact if_pos c1
   rw [this]; rfl
  clear hV'
  by_cases c2 : x.level = 0
  ·have d1 : (x.level != 0) = false := by simp [c2]
   have d2 : (x.kind != 1) = true := by simp; omega
   clear c1 c2
   go_enter Tryz.func48, Tryz.ntmps48
   go_wp2_with fail
   go_ret
   exact ⟨by rw [← hv.out]; rfl, (Below.refl _ w).alloc (Nat.le_refl _) _⟩
  ·have d1 : (x.level != 0) = true := by simp [c2]
   clear c1 c2
   go_enter Tryz.func48, Tryz.ntmps48
   go_wp2_with fail
   go_ret
   exact ⟨by rw [← hv.out]; rfl, (Below.refl _ w).alloc (Nat.le_refl _) _⟩
 ·have hl0 : x.level = 0 := by omega
  have hk1 : x.kind = 1 := by omega
  have hv : Hid (partsE x = V) := by
   show _ = _
   rw [← hV']
   unfold oneE
   have : placeE none 0 x = 0 := by unfold placeE; exact if_neg c1
   rw [this]; rfl
  have d1 : (x.level != 0) = false := by simp [hl0]
  have d2 : (x.kind != 1) = false := by simp [hk1]
  have l0 : x.level ≤ 0 := by omega
  clear hV' c1 hk1 hl0
  go_enter Tryz.func48, Tryz.ntmps48
  go_wp2_with fail
  refine wp_region_held_drew (S := fun _ => True) (by kernel_rfl) trivial (fun hHeld => ?_)
  refine tkv 0 (h := tkv 1 (h := tkv 2 (h := ?_)))
  refine tkn 3 (h := tkn 4 (h := tkn 5 (h := tkn 6 (h := tkn 7 (h := tkn 8 (h := ?_))))))
  refine tkn 9 (h := tkn 10 (h := tkn 11 (h := tkn 12 (h := tkn 13 (h := tkn 14 (h := ?_))))))
  refine tkn 15 (h := tkn 16 (h := tkn 17 (h := tkn 18 (h := tkn 19 (h := tkn 20 (h := ?_))))))
  refine tkn 21 (h := tkn 22 (h := tkn 23 (h := tkn 24 (h := tkn 25 (h := tkn 26 (h := ?_))))))
  refine tkn 27 (h := tkn 28 (h := tkn 29 (h := tkn 30 (h := tkn 31 (h := tkn 32 (h := ?_))))))
  refine tkn 33 (h := tkn 34 (h := tkn 35 (h := tkn 36 (h := tkn 37 (h := tkn 38 (h := ?_))))))
  refine tkv 39 (h := ?_)
  refine wpAnyH_done (by kernel_rfl) ?_ _
  go_wp2_with fail
  refine (RParts_any x A' c' _ ?_ hs V hv).mono ?_
  ·exact ((HAT.out.below (((Below.refl _ w).alloc (Nat.le_refl _) _).drew)).more (by simp))
  rintro e w3 ⟨rfl, hb3⟩
  go_wp2_with fail
  go_ret
  exact ⟨rfl, (((Below.refl _ w).alloc (Nat.le_refl _) _).drew).trans (hb3.mono (by simp))⟩
theorem one_later (l : List ItemD) (ad : Addr) (c k : Nat) (x p : ItemD) (w : World) (hA : ItemsAt w w.heap.size (some ad) l) (hk0 : 0 < k) (hx : l[k]? = some x) (hp : l[k - 1]? = some p) (hlen : l.length ≤ 1000000000) (hpl : -9000000000000000000 ≤ p.level ∧ p.level ≤ 9000000000000000000) (hs : SmallItem x) (V : Int) (hV : Hid (oneE (some p) k x = V)) :
  Calls Tryz.prog 48 #[.slice (some ad) l.length c, .int .i64 k] w (Ret w (.int .i64 V)) := by
 have hl : k < l.length := (List.getElem?_eq_some_iff.1 hx).1
 obtain ⟨hbl, A', c', hat, _, h0, h1, h2, h3, h4⟩ := hA.item hx
 obtain ⟨_, A2, c2, _, _, g0, g1, _, _, _⟩ := hA.item hp
 unfold strV at h2 h3
 have HAT := Lib.hid hat
 have hV' := hV.out
 clear hA hx hp hV hat
 have i1 : (0 : Int) ≤ (k : Int) := by omega
 have i2 : (1 : Int) ≤ (k : Int) := by omega
 have i3 : (k : Int) < l.length := by omega
 have i4 : (0 : Int) ≤ (k : Int) - 1 := by omega
 have i5 : (k : Int) - 1 < l.length := by omega
 have t0 : ((k : Int) == 0) = false := by simp; omega
 have t1 : decide ((0 : Int) < (k : Int)) = true := by simp; omega
 have t2 : decide (0 < k) = true := by simp; omega
 obtain ⟨lo, hi⟩ := hpl
 have hs5 := hs.2.2.2.2
 have HS := Lib.hid hs
 clear hs
 obtain ⟨W1, hW1⟩ : ∃ W1, Hid (W1 = w.alloc (.cells #[.int .i64 x.level, .int .i64 x.kind, .string ⟨x.name.toArray⟩, .string ⟨x.text.toArray⟩, .slice A' x.attrs.length c'] 62)) := ⟨_, rfl⟩
 have hS : Hid (W1.drew.cell? ⟨w.heap.size, 0, none⟩ = some (.int .i64 x.level) ∧ W1.drew.cell? (ad.add ((k - 1) * 5)) = some (.int .i64 p.level) ∧ W1.drew.cell? ⟨(ad.add ((k - 1) * 5)).block, (ad.add ((k - 1) * 5)).off + 1, none⟩ = some (.int .i64 p.kind)) := by
  refine ⟨?_, ?_, ?_⟩
  ·rw [hW1.out]; show (w.alloc _).cell? _ = _; rw [World.cell?_alloc_at _ _ _ _ (by simp)]; rfl
  ·rw [hW1.out]; show (w.alloc _).cell? _ = _; rw [World.cell?_alloc_lt _ _ _ (by rw [block_of_add]; exact hbl)]; exact g0
  ·rw [hW1.out]; show (w.alloc _).cell? _ = _; rw [World.cell?_alloc_lt _ _ _ (by show (ad.add _).block < _; rw [block_of_add]; exact hbl)]; exact g1
 have hbW : Below w.heap.size w W1 := by rw [hW1.out]; exact (Below.refl _ w).alloc (Nat.le_refl _) _
 have hzW : w.heap.size < W1.heap.size := by rw [hW1.out]; simp
 have hcs : Hid (∀ w', Below W1.heap.size W1 w' → w'.cell? ⟨w.heap.size, 0, none⟩ = some (.int .i64 x.level) ∧ w'.cell? ⟨w.heap.size, 1, none⟩ = some (.int .i64 x.kind) ∧ w'.cell? ⟨w.heap.size, 2, none⟩ = some (.string ⟨x.name.toArray⟩) ∧ w'.cell? ⟨w.heap.size, 3, none⟩ = some (.string ⟨x.text.toArray⟩) ∧ w'.cell? ⟨w.heap.size, 4, none⟩ = some (.slice A' x.attrs.length c')) := fun w' hb => by
  refine ⟨?_, ?_, ?_, ?_, ?_⟩
  all_goals
   rw [hb.cell (by exact hzW), hW1.out, World.cell?_alloc_at _ _ _ _ (by simp)]; rfl
 by_cases c1 : x.level < 1
 ·skip
  have hv : Hid (69 = V) := by
   show _ = _
   rw [← hV']
   unfold oneE
   have : placeE (some p) k x = 69 := by unfold placeE; exact if_pos (.inl c1)
   rw [this]; rfl
  have d1 : decide (x.level < 1) = true := by simp; omega
  clear hV'
  go_enter Tryz.func48, Tryz.ntmps48
  go_wp2_with fail
  rw [← hW1.out]
  refine wp_region_held_drew (S := fun w' => w'.cell? ⟨w.heap.size, 0, none⟩ = some (.int .i64 x.level) ∧ w'.cell? (ad.add ((k - 1) * 5)) = some (.int .i64 p.level) ∧ w'.cell? ⟨(ad.add ((k - 1) * 5)).block, (ad.add ((k - 1) * 5)).off + 1, none⟩ = some (.int .i64 p.kind)) (by kernel_rfl) hS.out (fun hHeld => ?_)
  refine tkv 0 (h := tkv 1 (h := tkv 2 (h := tkv 3 (h := tkv 4 (h := tkv 5 (h := ?_))))))
  refine tkv 6 (h := ?_)
  refine tkn 7 (h := tkn 8 (h := tkn 9 (h := tkn 10 (h := tkn 11 (h := tkn 12 (h := ?_))))))
  refine tkn 13 (h := tkn 14 (h := tkn 15 (h := tkn 16 (h := ?_))))
  refine tkv 17 (h := tkv 18 (h := ?_))
  refine tkn 19 (h := tkn 20 (h := tkn 21 (h := tkn 22 (h := tkn 23 (h := tkn 24 (h := ?_))))))
  refine tkn 25 (h := tkn 26 (h := tkn 27 (h := tkn 28 (h := tkn 29 (h := tkn 30 (h := ?_))))))
  refine tkn 31 (h := tkn 32 (h := tkn 33 (h := tkn 34 (h := tkn 35 (h := tkn 36 (h := ?_))))))
  refine tkn 37 (h := ?_)
  refine tkv 38 (h := tkv 39 (h := ?_))
  refine wpAnyH_done (by kernel_rfl) ?_ _
  clear hW1
  go_wp2_with fail
  go_ret
  exact ⟨by rw [← hv.out]; rfl, hbW.trans ((Below.refl _ W1).drew.mono (Nat.le_of_lt hzW))⟩
 have n1 : 1 ≤ x.level := by omega
 by_cases c2 : p.level + 1 < x.level
 ·skip
  have hv : Hid (69 = V) := by
   show _ = _
   rw [← hV']
   unfold oneE
   have : placeE (some p) k x = 69 := by unfold placeE; exact if_pos (.inr (.inl c2))
   rw [this]; rfl
  have d1 : decide (x.level < 1) = false := by simp; omega
  have w1 : IntKind.i64.wrap (x.level - 1) = x.level - 1 := IntWalk.i64_in _ (by omega)
  have d2 : decide (p.level < x.level - 1) = true := by simp; omega
  have wk : IntKind.i64.wrap ((k : Int) - 1) = (k : Int) - 1 := IntWalk.i64_in _ (by omega)
  have kn : ((k : Int) - 1).toNat = k - 1 := by omega
  clear hV'
  go_enter Tryz.func48, Tryz.ntmps48
  go_wp2_with fail
  rw [← hW1.out]
  refine wp_region_held_drew (S := fun w' => w'.cell? ⟨w.heap.size, 0, none⟩ = some (.int .i64 x.level) ∧ w'.cell? (ad.add ((k - 1) * 5)) = some (.int .i64 p.level) ∧ w'.cell? ⟨(ad.add ((k - 1) * 5)).block, (ad.add ((k - 1) * 5)).off + 1, none⟩ = some (.int .i64 p.kind)) (by kernel_rfl) hS.out (fun hHeld => ?_)
  refine tkv 0 (h := tkv 1 (h := tkv 2 (h := tkv 3 (h := tkv 4 (h := tkv 5 (h := ?_))))))
  refine tkv 6 (h := tkv 7 (h := tkv 8 (h := tkv 9 (h := tkv 10 (h := tkv 11 (h := ?_))))))
  refine tkv 12 (h := tkv 13 (h := tkv 14 (h := tkv 15 (h := tkv 16 (h := tkv 17 (h := ?_))))))
  refine tkv 18 (h := ?_)
  refine tkn 19 (h := tkn 20 (h := tkn 21 (h := tkn 22 (h := tkn 23 (h := tkn 24 (h := ?_))))))
  refine tkn 25 (h := tkn 26 (h := tkn 27 (h := tkn 28 (h := tkn 29 (h := tkn 30 (h := ?_))))))
  refine tkn 31 (h := tkn 32 (h := tkn 33 (h := tkn 34 (h := tkn 35 (h := tkn 36 (h := ?_))))))
  refine tkn 37 (h := ?_)
  refine tkv 38 (h := tkv 39 (h := ?_))
  refine wpAnyH_done (by kernel_rfl) ?_ _
  clear hW1
  go_wp2_with fail
  go_ret
  exact ⟨by rw [← hv.out]; rfl, hbW.trans ((Below.refl _ W1).drew.mono (Nat.le_of_lt hzW))⟩
 by_cases c3 : p.level < x.level
 ·by_cases c4 : p.kind = 2
  ·skip
   have hv : Hid (69 = V) := by
    show _ = _
    rw [← hV']
    unfold oneE
    have : placeE (some p) k x = 69 := by unfold placeE; exact if_pos (.inr (.inr ⟨c3, c4⟩))
    rw [this]; rfl
   have d1 : decide (x.level < 1) = false := by simp; omega
   have w1 : IntKind.i64.wrap (x.level - 1) = x.level - 1 := IntWalk.i64_in _ (by omega)
   have d2 : decide (p.level < x.level - 1) = false := by simp; omega
   have d3 : (x.level - 1 == p.level) = true := by simp; omega
   have d4 : (p.kind == 2) = true := by simp [c4]
   have wk : IntKind.i64.wrap ((k : Int) - 1) = (k : Int) - 1 := IntWalk.i64_in _ (by omega)
   have kn : ((k : Int) - 1).toNat = k - 1 := by omega
   clear hV'
   go_enter Tryz.func48, Tryz.ntmps48
   go_wp2_with fail
   rw [← hW1.out]
   refine wp_region_held_drew (S := fun w' => w'.cell? ⟨w.heap.size, 0, none⟩ = some (.int .i64 x.level) ∧ w'.cell? (ad.add ((k - 1) * 5)) = some (.int .i64 p.level) ∧ w'.cell? ⟨(ad.add ((k - 1) * 5)).block, (ad.add ((k - 1) * 5)).off + 1, none⟩ = some (.int .i64 p.kind)) (by kernel_rfl) hS.out (fun hHeld => ?_)
   refine tkv 0 (h := tkv 1 (h := tkv 2 (h := tkv 3 (h := tkv 4 (h := tkv 5 (h := ?_))))))
   refine tkv 6 (h := tkv 7 (h := tkv 8 (h := tkv 9 (h := tkv 10 (h := tkv 11 (h := ?_))))))
   refine tkv 12 (h := tkv 13 (h := tkv 14 (h := tkv 15 (h := tkv 16 (h := tkv 17 (h := ?_))))))
   refine tkv 18 (h := tkv 19 (h := tkv 20 (h := tkv 21 (h := tkv 22 (h := tkv 23 (h := ?_))))))
   refine tkv 24 (h := tkv 25 (h := tkv 26 (h := tkv 27 (h := tkv 28 (h := tkv 29 (h := ?_))))))
   refine tkv 30 (h := tkv 31 (h := tkv 32 (h := tkv 33 (h := tkv 34 (h := tkv 35 (h := ?_))))))
   refine tkv 36 (h := tkv 37 (h := tkv 38 (h := tkv 39 (h := ?_))))
   refine wpAnyH_done (by kernel_rfl) ?_ _
   clear hW1
   go_wp2_with fail
   go_ret
   exact ⟨by rw [← hv.out]; rfl, hbW.trans ((Below.refl _ W1).drew.mono (Nat.le_of_lt hzW))⟩
  ·skip
   have hpl : placeE (some p) k x = (if 40 ≤ x.level then (42 : Int) else if 1000 ≤ k then 43 else 0) := by unfold placeE; exact if_neg (by omega)
   have hv' : Hid ((if (if 40 ≤ x.level then (42 : Int) else if 1000 ≤ k then 43 else 0) = 0 then partsE x else (if 40 ≤ x.level then (42 : Int) else if 1000 ≤ k then 43 else 0)) = V) := by show _ = _; rw [← hV']; unfold oneE; rw [hpl]
   clear hpl
   have d1 : decide (x.level < 1) = false := by simp; omega
   have w1 : IntKind.i64.wrap (x.level - 1) = x.level - 1 := IntWalk.i64_in _ (by omega)
   have d2 : decide (p.level < x.level - 1) = false := by simp; omega
   have d3 : (x.level - 1 == p.level) = true := by simp; omega
   have d4 : (p.kind == 2) = false := by simp [c4]
   have wk : IntKind.i64.wrap ((k : Int) - 1) = (k : Int) - 1 := IntWalk.i64_in _ (by omega)
   have kn : ((k : Int) - 1).toNat = k - 1 := by omega
   clear hV'
   go_enter Tryz.func48, Tryz.ntmps48
   go_wp2_with fail
   rw [← hW1.out]
   refine wp_region_held_drew (S := fun w' => w'.cell? ⟨w.heap.size, 0, none⟩ = some (.int .i64 x.level) ∧ w'.cell? (ad.add ((k - 1) * 5)) = some (.int .i64 p.level) ∧ w'.cell? ⟨(ad.add ((k - 1) * 5)).block, (ad.add ((k - 1) * 5)).off + 1, none⟩ = some (.int .i64 p.kind)) (by kernel_rfl) hS.out (fun hHeld => ?_)
   refine tkv 0 (h := tkv 1 (h := tkv 2 (h := tkv 3 (h := tkv 4 (h := tkv 5 (h := ?_))))))
   refine tkv 6 (h := tkv 7 (h := tkv 8 (h := tkv 9 (h := tkv 10 (h := tkv 11 (h := ?_))))))
   refine tkv 12 (h := tkv 13 (h := tkv 14 (h := tkv 15 (h := tkv 16 (h := tkv 17 (h := ?_))))))
   refine tkv 18 (h := tkv 19 (h := tkv 20 (h := tkv 21 (h := tkv 22 (h := tkv 23 (h := ?_))))))
   refine tkv 24 (h := tkv 25 (h := tkv 26 (h := tkv 27 (h := tkv 28 (h := tkv 29 (h := ?_))))))
   refine tkv 30 (h := tkv 31 (h := tkv 32 (h := tkv 33 (h := tkv 34 (h := tkv 35 (h := ?_))))))
   refine tkv 36 (h := tkv 37 (h := tkv 38 (h := tkv 39 (h := ?_))))
   refine wpAnyH_done (by kernel_rfl) ?_ _
   clear hW1 wk kn w1 t0 t1 t2 d1 d2 d3
   have hbD : Below W1.heap.size W1 W1.drew := (Below.refl _ W1).drew
   obtain ⟨e0, e1, e2, e3, e4⟩ := hcs.out _ hbD
   have hbD' := hbW.trans (hbD.mono (Nat.le_of_lt hzW))
   by_cases l40 : 40 ≤ x.level
   ·have hv : Hid (42 = V) := by show _ = _; rw [← hv'.out, if_pos l40]; rfl
    clear hv'
    go_wp2_with fail
    go_ret
    exact ⟨by rw [← hv.out]; rfl, hbD'⟩
   by_cases k1000 : 1000 ≤ k
   ·have hv : Hid (43 = V) := by show _ = _; rw [← hv'.out, if_neg l40, if_pos k1000]; rfl
    clear hv'
    have k1' : (1000 : Int) ≤ k := by omega
    go_wp2_with fail
    go_ret
    exact ⟨by rw [← hv.out]; rfl, hbD'⟩
   have hv : Hid (partsE x = V) := by show _ = _; rw [← hv'.out, if_neg l40, if_neg k1000, if_pos rfl]
   clear hv'
   have k1' : (k : Int) < 1000 := by omega
   have l40' : x.level < 40 := by omega
   go_wp2_with fail
   refine (RParts_any x A' c' _ ?_ HS.out V hv).mono ?_
   ·exact (HAT.out.below hbD').more hbD'.size
   rintro e w3 ⟨rfl, hb3⟩
   go_wp2_with fail
   go_ret
   exact ⟨rfl, hbD'.trans (hb3.mono hbD'.size)⟩
 ·skip
  have hpl : placeE (some p) k x = (if 40 ≤ x.level then (42 : Int) else if 1000 ≤ k then 43 else 0) := by unfold placeE; exact if_neg (by omega)
  have hv' : Hid ((if (if 40 ≤ x.level then (42 : Int) else if 1000 ≤ k then 43 else 0) = 0 then partsE x else (if 40 ≤ x.level then (42 : Int) else if 1000 ≤ k then 43 else 0)) = V) := by show _ = _; rw [← hV']; unfold oneE; rw [hpl]
  clear hpl
  have d1 : decide (x.level < 1) = false := by simp; omega
  have w1 : IntKind.i64.wrap (x.level - 1) = x.level - 1 := IntWalk.i64_in _ (by omega)
  have d2 : decide (p.level < x.level - 1) = false := by simp; omega
  have d3 : (x.level - 1 == p.level) = false := by simp; omega
  have wk : IntKind.i64.wrap ((k : Int) - 1) = (k : Int) - 1 := IntWalk.i64_in _ (by omega)
  have kn : ((k : Int) - 1).toNat = k - 1 := by omega
  clear hV'
  go_enter Tryz.func48, Tryz.ntmps48
  go_wp2_with fail
  rw [← hW1.out]
  refine wp_region_held_drew (S := fun w' => w'.cell? ⟨w.heap.size, 0, none⟩ = some (.int .i64 x.level) ∧ w'.cell? (ad.add ((k - 1) * 5)) = some (.int .i64 p.level) ∧ w'.cell? ⟨(ad.add ((k - 1) * 5)).block, (ad.add ((k - 1) * 5)).off + 1, none⟩ = some (.int .i64 p.kind)) (by kernel_rfl) hS.out (fun hHeld => ?_)
  refine tkv 0 (h := tkv 1 (h := tkv 2 (h := tkv 3 (h := tkv 4 (h := tkv 5 (h := ?_))))))
  refine tkv 6 (h := tkv 7 (h := tkv 8 (h := tkv 9 (h := tkv 10 (h := tkv 11 (h := ?_))))))
  refine tkv 12 (h := tkv 13 (h := tkv 14 (h := tkv 15 (h := tkv 16 (h := tkv 17 (h := ?_))))))
  refine tkv 18 (h := tkv 19 (h := tkv 20 (h := tkv 21 (h := tkv 22 (h := tkv 23 (h := ?_))))))
  refine tkv 24 (h := tkv 25 (h := tkv 26 (h := tkv 27 (h := tkv 28 (h := tkv 29 (h := ?_))))))
  refine tkn 30 (h := tkn 31 (h := tkn 32 (h := tkn 33 (h := tkn 34 (h := tkn 35 (h := ?_))))))
  refine tkn 36 (h := ?_)
  refine tkv 37 (h := tkv 38 (h := tkv 39 (h := ?_)))
  refine wpAnyH_done (by kernel_rfl) ?_ _
  clear hW1 wk kn w1 t0 t1 t2 d1 d2 d3
  have hbD : Below W1.heap.size W1 W1.drew := (Below.refl _ W1).drew
  obtain ⟨e0, e1, e2, e3, e4⟩ := hcs.out _ hbD
  have hbD' := hbW.trans (hbD.mono (Nat.le_of_lt hzW))
  by_cases l40 : 40 ≤ x.level
  ·have hv : Hid (42 = V) := by show _ = _; rw [← hv'.out, if_pos l40]; rfl
   clear hv'
   go_wp2_with fail
   go_ret
   exact ⟨by rw [← hv.out]; rfl, hbD'⟩
  by_cases k1000 : 1000 ≤ k
  ·have hv : Hid (43 = V) := by show _ = _; rw [← hv'.out, if_neg l40, if_pos k1000]; rfl
   clear hv'
   have k1' : (1000 : Int) ≤ k := by omega
   go_wp2_with fail
   go_ret
   exact ⟨by rw [← hv.out]; rfl, hbD'⟩
  have hv : Hid (partsE x = V) := by show _ = _; rw [← hv'.out, if_neg l40, if_neg k1000, if_pos rfl]
  clear hv'
  have k1' : (k : Int) < 1000 := by omega
  have l40' : x.level < 40 := by omega
  go_wp2_with fail
  refine (RParts_any x A' c' _ ?_ HS.out V hv).mono ?_
  ·exact (HAT.out.below hbD').more hbD'.size
  rintro e w3 ⟨rfl, hb3⟩
  go_wp2_with fail
  go_ret
  exact ⟨rfl, hbD'.trans (hb3.mono hbD'.size)⟩
end
section
open Go.RowKit
theorem Rone_any (l : List ItemD) (A : Option Addr) (c k : Nat) (x : ItemD) (w : World) (hA : ItemsAt w w.heap.size A l) (hx : l[k]? = some x) (hlen : l.length ≤ 1000000000) (hpl : ∀ p, prevOf l k = some p → 0 ≤ p.level ∧ p.level < 40) (hs : SmallItem x) (V : Int) (hV : Hid (oneE (prevOf l k) k x = V)) :
  Calls Tryz.prog 48 #[.slice A l.length c, .int .i64 k] w (Ret w (.int .i64 V)) := by
 have hl : k < l.length := (List.getElem?_eq_some_iff.1 hx).1
 obtain ⟨ad, rfl, _⟩ := hA (by omega)
 by_cases hk : k = 0
 ·subst hk
  exact one_first l ad c x w hA hx hlen hs V hV
 ·have hp : l[k - 1]? = some l[k - 1] := List.getElem?_eq_getElem _
  have he : prevOf l k = some l[k - 1] := by unfold prevOf; rw [if_neg hk, hp]
  have hb := hpl _ he
  rw [he] at hV
  exact one_later l ad c k x _ w hA (by omega) hx hp hlen (by omega) hs V hV
theorem RCheck_any (l : List ItemD) (A : Option Addr) (c : Nat) (w : World) (hA : ItemsAt w w.heap.size A l) (hs : SmallItems l) (n e : Int) (hV : Hid (checkL l = (n, e))) :
  Calls Tryz.prog 19 #[.slice A l.length c] w (Ret w (.tuple #[.int .i64 n, .int .i64 e])) := by
 obtain ⟨hs1, hs2⟩ := hs
 have HS := Lib.hid hs2
 have HA := Lib.hid hA
 clear hs2 hA
 by_cases h0 : l = []
 ·have hv : Hid (n = 0 ∧ e = 40) := by
   have := hV.out
   unfold checkL at this
   rw [if_pos h0] at this
   injection this with a b
   exact ⟨a.symm, b.symm⟩
  have hlen : l.length = 0 := by rw [h0]; rfl
  rw [hlen]
  clear h0 hV hs1 hlen
  go_enter Tryz.func19, Tryz.ntmps19
  go_wp2_with fail
  go_ret2
  obtain ⟨rfl, rfl⟩ := hv.out
  exact ⟨rfl, Below.refl _ _⟩
 ·have hpos : 0 < l.length := List.length_pos_iff.2 h0
  have hC : Hid (checkF (prevOf l 0) 0 (l.drop 0) = (n, e)) := by
   have := hV.out
   unfold checkL at this
   rw [if_neg h0] at this
   exact this
  have t0 : ((l.length : Int) == 0) = false := by simp; omega
  clear h0 hV
  go_enter Tryz.func19, Tryz.ntmps19
  go_wp2_with fail
  go_loopw [4] (fun i wr => ∃ (k : Nat), k ≤ l.length ∧ i = .int .i64 k ∧ Hid (checkF (prevOf l k) k (l.drop k) = (n, e)) ∧ Hid (∀ p, prevOf l k = some p → 0 ≤ p.level ∧ p.level < 40) ∧ Below w.heap.size w wr) (fun i _ => l.length - (intOf i).toNat)
  case atStart => exact ⟨0, Nat.zero_le _, rfl, hC, fun p hp => by simp [prevOf] at hp, Below.refl _ _⟩
  case round =>
   obtain ⟨k, hk, rfl, hin, hpv, hbel⟩ := hrel
   have hzr := hbel.size
   by_cases hlt : k < l.length
   ·obtain ⟨x, hx⟩ : ∃ x, Hid (l[k]? = some x) := ⟨l[k], List.getElem?_eq_getElem _⟩
    have hAr := Lib.hid (HA.out.below hbel)
    have hsx := Lib.hid (HS.out k x hx.out)
    have hin' := hin.out
    rw [checkF_drop hx.out] at hin'
    have hlt' : (k : Int) < l.length := by omega
    obtain ⟨q, hq⟩ : ∃ q, Hid (oneE (prevOf l k) k x = q) := ⟨_, rfl⟩
    rw [hq.out] at hin'
    by_cases hq0 : q = 0
    ·rw [if_pos hq0] at hin'
     have HIN := Lib.hid hin'
     subst hq0
     have hpv' : Hid (∀ p, prevOf l (k + 1) = some p → 0 ≤ p.level ∧ p.level < 40) := fun p hp => by
      rw [prevOf_succ hx.out] at hp
      injection hp with hp; subst hp
      exact placeE_zero (oneE_zero hq.out).1
     clear hin' hin
     go_wp2_with fail
     refine (Rone_any l A c k x wr (hAr.out.more hzr) hx.out hs1 hpv.out hsx.out 0 hq).mono ?_; rintro e2 w2 ⟨rfl, hb2⟩
     have hb2' : Below w.heap.size w w2 := hbel.trans (hb2.mono hzr)
     go_wp2_with fail
     go_roundw
     case rel => exact ⟨k + 1, by omega, by go_num, HIN, hpv', hb2'⟩
     case measure => simp [intOf]; omega
    ·rw [if_neg hq0] at hin'
     have HIN := Lib.hid hin'
     have tq' : (q != 0) = true := by simp [hq0]
     clear hin' hin hq0
     go_wp2_with fail
     refine (Rone_any l A c k x wr (hAr.out.more hzr) hx.out hs1 hpv.out hsx.out q hq).mono ?_; rintro e2 w2 ⟨rfl, hb2⟩
     have hb2' : Below w.heap.size w w2 := hbel.trans (hb2.mono hzr)
     go_wp2_with fail
     go_ret2
     have := HIN.out
     injection this with a b
     subst a; subst b
     exact ⟨rfl, hb2'⟩
   ·have hk' : k = l.length := by omega
    have HIN : Hid ((0, 0) = (n, e)) := by
     show _ = _
     rw [← hin.out, List.drop_eq_nil_of_le (by omega)]; rfl
    subst hk'
    clear hin hlt hk hpv
    go_wp2_with fail
    go_ret2
    have := HIN.out
    injection this with a b
    subst a; subst b
    exact ⟨rfl, hbel⟩
end
section
open Go.RowKit Go.Shelf
variable {X : Nat → Prop}
theorem results_cell2 {P : Program} {fn : Func} {p u v : Tmp} {ty : TypeId} (h : fn.results = #[.cell p ty, .tmp u, .tmp v]) (tmps : Array Value) (w : World) (g : Nat) (t : TypeId) (cs : Array Value) (fr : Nat × Nat) (d : TypeDesc)
  (hp : tmps.getD p undef = .pointer (some ⟨g, 0, none⟩)) (hg : w.heap[g]? = some (.cells cs t fr))
  (hu : P.underlying ty = some d) (hd : (match d with | .struct _ | .array _ _ => true | _ => false) = true) (hi : (P.info? ty).map (·.size) = some cs.size) :
  (results fn tmps).run P w = .ok (.tuple #[.agg cs, tmps.getD u undef, tmps.getD v undef]) w := by
 have hp' : tmps[p]?.getD undef = .pointer (some ⟨g, 0, none⟩) := by simpa using hp
 simp [results, h, hp', asAddr, Result.andThen, run_loadVar_row w g t ty cs fr d hg hu hd hi]
theorem step_store_row {P : Program} {ops : Array Oper} {o : Oper} {a : Act} {w : World} {K : Act → World → Prop} {Q : Exit → Act → World → Prop} {E : Prop}
  (hg : o.guard = none) (ty : TypeId) (x y : Operand) (ho : o.op = .store ty x y)
  (g : Nat) (cells : Array Value) (hx : a.eval x = .pointer (some ⟨g, 0, none⟩)) (hy : a.eval y = .agg cells)
  (t : TypeId) (old : Array Value) (hgh : w.heap[g]? = some (.cells old t (0, 0))) (hi : (P.info? ty).map (·.size) = some cells.size)
  (hold : old.size = cells.size) (h1 : cells.all (·.oneCell') = true) (hK : K (a.put o.dst undef) (w.setRow g cells)) :
  if Region.wanted o (yielded ops a.tmps) = true then Oper.wp P o a w K Q else E := by
 have hw : Region.wanted o (yielded ops a.tmps) = true := by simp [Region.wanted, hg]
 rw [if_pos hw]
 exact wp_store_row ty x y ho g cells hx hy t old hgh hi hold h1 hK
theorem RLoad_any (L : List RowD) (A : Option Addr) (c : Nat) (next : Int) (l : List ItemD) (Al : Option Addr) (cl : Nat) (w : World) (hT : TreeR X w A c L) (N : Nat) (hi : ItemsAt w N Al l) (hN : N ≤ w.heap.size) (hNX : ∀ b, b < N → X b) (hX : ∀ b, w.heap.size ≤ b → X b) (hsm : SmallItems l) (hln : l.length ≤ 1000000) (hlv : (checkL l).2 = 0 → ∀ x ∈ l, (-1000000 ≤ x.level ∧ x.level ≤ 1000000)) (hnx : 0 ≤ next ∧ next ≤ 4294967296) :
  Calls Tryz.prog 63 #[.agg #[.slice A L.length c, .int .i64 next], .slice Al l.length cl] w (TPost3 X w (loadL L next l)) := by
 obtain ⟨hn0, hn1⟩ := hnx
 obtain ⟨cn, ce, hce⟩ : ∃ cn ce, Hid (checkL l = (cn, ce)) := ⟨_, _, rfl⟩
 have hf' : loadL L next l = if ce ≠ 0 then (L, next, 0, ce) else if 2147483647 < next + (l.length : Int) then (L, next, 0, 66) else (namedL next l 0, next + (l.length : Int), next, 0) := by
  unfold loadL
  rw [hce.out]
 obtain ⟨a, ha⟩ : ∃ a, Hid (a = loadL L next l) := ⟨_, rfl⟩
 rw [← ha.out]
 have HA := Lib.hid (ha.out.trans hf')
 have HI := Lib.hid hi
 have HSM := Lib.hid hsm
 have HLV := Lib.hid hlv
 have HNX := Lib.hid hNX
 have HXN := Lib.hid hX
 clear hf' ha hi hsm hlv hNX hX
 have l0 : (0 : Int) ≤ (l.length : Int) := by omega
 have l1 : (l.length : Int) ≤ 1000000 := by omega
 obtain ⟨W2, hW2⟩ : ∃ W2, Hid (W2 = (w.alloc (.cells #[.slice A L.length c, .int .i64 next] 29)).alloc (.cells #[.slice none 0 0, .int .i64 0] 29)) := ⟨_, rfl⟩
 have hb2 : Below w.heap.size w W2 := by rw [hW2.out]; exact ((Below.refl _ w).alloc (Nat.le_refl _) _).alloc (by simp) _
 have hz2 : W2.heap.size = w.heap.size + 2 := by rw [hW2.out]; simp
 have hx2 : W2.heap[w.heap.size]? = some (.cells (treeV A L.length c next) 29 (0, 0)) := by
  rw [hW2.out]
  exact (Below.heap_alloc _ _ _ (by simp)).trans (heap_alloc_new w _)
 have hy2 : W2.heap[w.heap.size + 1]? = some (.cells zeroT 29 (0, 0)) := by
  rw [hW2.out]
  have := heap_alloc_new (w.alloc (.cells #[.slice A L.length c, .int .i64 next] 29)) (.cells #[.slice none 0 0, .int .i64 0] 29)
  simpa [zeroT] using this
 have HT2 := Lib.hid (hT.below hb2)
 have HT := Lib.hid hT
 have HB2 := Lib.hid hb2
 have HX2 := Lib.hid hx2
 have HY2 := Lib.hid hy2
 have HZ2 := Lib.hid hz2
 clear hb2 hx2 hy2 hz2 hT
 go_enter Tryz.func63, Tryz.ntmps63
 go_wp2_with fail
 rw [← hW2.out]
 refine (RCheck_any l Al cl W2 ((HI.out.below (HB2.out.mono hN)).more (Nat.le_trans hN HB2.out.size)) HSM.out cn ce hce).mono ?_
 rintro e3 w3 ⟨rfl, hb3⟩
 have hx3 := (hb3.block w.heap.size (by have := HZ2.out; omega)).trans HX2.out
 have HY3 : Hid (w3.heap[w.heap.size + 1]? = some (.cells zeroT 29 (0, 0))) := (hb3.block (w.heap.size + 1) (by have := HZ2.out; omega)).trans HY2.out
 have HT3 := Lib.hid (HT2.out.below hb3)
 have HB3 : Hid (Below w.heap.size w w3) := HB2.out.trans (hb3.mono HB2.out.size)
 have HZ3 : Hid (w.heap.size + 2 ≤ w3.heap.size) := by show _ ≤ _; have := hb3.size; have := HZ2.out; omega
 have HX3 := Lib.hid hx3
 clear hb3 hx3
 by_cases hc0 : ce ≠ 0
 ·have HE : Hid (a = (L, next, 0, ce)) := HA.out.trans (if_pos hc0)
  have hc0' : (ce != 0) = true := by simpa using hc0
  clear hc0
  go_upto_region 3 with (fail)
  have e0 := cell_row HX3.out 0 _ rfl
  have e1 := cell_row HX3.out 1 _ rfl
  go_wp2_with (refine wpList_store_row rfl 29 (.tmp 4) (.tmp 16) rfl (w.heap.size + 1) (treeV A L.length c next) rfl rfl 29 zeroT HY3.out (by kernel_rfl) rfl (treeV_one _ _ _ _) ?_)
  try simp only [Exit.inBlock, Exit.then]
  refine bodyPost_ret (results_cell2 Tryz.results63 _ _ (w.heap.size + 1) 29 (treeV A L.length c next) (0, 0) _ rfl (setRow_heap _ _ _ _ _ _ HY3.out) Tryz.underlying29 rfl (by kernel_rfl)) rfl ?_
  obtain ⟨q1, q2⟩ := HT3.out.laid HB3.out (g := w.heap.size + 1) (by omega) HY3.out (treeV A L.length c next)
  rw [HE.out]
  exact ⟨A, c, rfl, q1, q2⟩
 have HA := Lib.hid (HA.out.trans (if_neg hc0))
 replace HLV := Lib.hid (HLV.out (by rw [hce.out]; exact Decidable.not_not.1 hc0))
 have hc0' : (ce != 0) = false := by simpa using hc0
 clear hc0
 have e1 : w3.cell? ⟨w.heap.size, 1, none⟩ = some (.int .i64 next) := cell_row HX3.out 1 _ rfl
 have hwr : IntKind.i64.wrap (next + (l.length : Int)) = next + (l.length : Int) := IntWalk.i64_in _ (by omega)
 by_cases hm : 2147483647 < next + (l.length : Int)
 ·have HE : Hid (a = (L, next, 0, 66)) := HA.out.trans (if_pos hm)
  go_upto_region 5 with (fail)
  have e0 := cell_row HX3.out 0 _ rfl
  have e1 := cell_row HX3.out 1 _ rfl
  go_wp2_with (refine wpList_store_row rfl 29 (.tmp 4) (.tmp 24) rfl (w.heap.size + 1) (treeV A L.length c next) rfl rfl 29 zeroT HY3.out (by kernel_rfl) rfl (treeV_one _ _ _ _) ?_)
  try simp only [Exit.inBlock, Exit.then]
  refine bodyPost_ret (results_cell2 Tryz.results63 _ _ (w.heap.size + 1) 29 (treeV A L.length c next) (0, 0) _ rfl (setRow_heap _ _ _ _ _ _ HY3.out) Tryz.underlying29 rfl (by kernel_rfl)) rfl ?_
  obtain ⟨q1, q2⟩ := HT3.out.laid HB3.out (g := w.heap.size + 1) (by omega) HY3.out (treeV A L.length c next)
  rw [HE.out]
  exact ⟨A, c, rfl, q1, q2⟩
 have HE : Hid (a = (namedL next l 0, next + (l.length : Int), next, 0)) := HA.out.trans (if_neg hm)
 have hm' : ¬ (2147483647 : Int) < next + (l.length : Int) := hm
 have e0 : w3.cell? ⟨w.heap.size, 0, none⟩ = some (.slice A L.length c) := cell_row HX3.out 0 _ rfl
 go_upto_region 6 with (fail)
 clear hm' hm hc0'
 have hS : Hid (w3.drew.cell? ⟨w.heap.size, 0, none⟩ = some (.slice A L.length c) ∧ w3.drew.cell? ⟨w.heap.size, 1, none⟩ = some (.int .i64 next)) := ⟨e0, e1⟩
 have HB3D : Hid (Below w.heap.size w w3.drew) := HB3.out.trans ⟨rfl, rfl, rfl, Nat.le_refl _, fun _ _ => rfl⟩
 have HID := Lib.hid (HI.out.below (HB3D.out.mono hN))
 refine wp_region_held_drew (S := fun w' => w'.cell? ⟨w.heap.size, 0, none⟩ = some (.slice A L.length c) ∧ w'.cell? ⟨w.heap.size, 1, none⟩ = some (.int .i64 next)) (by kernel_rfl) hS.out (fun hHeld => ?_)
 refine tkv 0 (h := tkv 1 (h := ?_))
 refine tkv 3 (h := tkv 4 (h := tkv 5 (h := tkv 6 (h := tkv 7 (h := ?_)))))
 refine tkv 9 (h := tkv 10 (h := ?_))
 refine rdy 2 (fun K hK => ?_)
 go_simp
 refine (Rnamed_g A L.length c next 0 l Al cl N w3.drew HID.out (Nat.le_trans hN HB3D.out.size) hln HLV.out (by omega) (by omega) HNX.out).mono ?_
 rintro e4 w4 ⟨A4, c4, S, rfl, hS4, hown, hat, hb4⟩
 have hb4' : Below w3.heap.size w3 w4 := Below.trans (b := w3.drew) ⟨rfl, rfl, rfl, Nat.le_refl _, fun _ _ => rfl⟩ hb4
 have hat' : AttrsOf X w3.drew w3.drew.heap.size S := fun s hs => ⟨(hat s hs).1.more (Nat.le_trans hN HB3D.out.size), (hat s hs).2⟩
 have hT4 := TreeR.of hown hat' hb4 hS4 (fun b hb => HXN.out b (Nat.le_trans HB3D.out.size hb))
 have hsl := congrArg List.length hS4
 rw [List.length_map] at hsl
 obtain ⟨L', hL'⟩ : ∃ L', Hid (namedL next l 0 = L') := ⟨_, rfl⟩
 rw [hL'.out] at hsl hT4
 have HT4 := Lib.hid hT4
 have HX4 : Hid (w4.heap[w.heap.size]? = some (.cells (treeV A L.length c next) 29 (0, 0))) := (hb4'.block w.heap.size (by have := HZ3.out; omega)).trans HX3.out
 have HY4 : Hid (w4.heap[w.heap.size + 1]? = some (.cells zeroT 29 (0, 0))) := (hb4'.block (w.heap.size + 1) (by have := HZ3.out; omega)).trans HY3.out
 have HB4 : Hid (Below w.heap.size w w4) := HB3.out.trans (hb4'.mono HB3.out.size)
 have hS4' : Hid (w4.cell? ⟨w.heap.size, 0, none⟩ = some (.slice A L.length c) ∧ w4.cell? ⟨w.heap.size, 1, none⟩ = some (.int .i64 next)) := ⟨cell_row HX4.out 0 _ rfl, cell_row HX4.out 1 _ rfl⟩
 rw [hsl]
 clear hown hat hat' hb4 hb4' hS4 hsl hT4
 go_wp2_with fail
 refine hK.out _ _ (hS4'.out) (fun hHeld => ?_)
 clear hK K
 try go_frame
 refine tkv 8 (h := ?_)
 refine rdy 11 (fun K hK => ?_)
 refine step_store_row rfl 29 (.tmp 4) (.tmp 33) rfl (w.heap.size + 1) (treeV A4 L'.length c4 (next + (l.length : Int))) rfl rfl 29 zeroT HY4.out (by kernel_rfl) rfl (treeV_one _ _ _ _) ?_
 obtain ⟨q1, q2⟩ := HT4.out.laid HB4.out (g := w.heap.size + 1) (by omega) HY4.out (treeV A4 L'.length c4 (next + (l.length : Int)))
 have HQ1 := Lib.hid q1
 have HQ2 := Lib.hid q2
 obtain ⟨w5, hw5⟩ : ∃ w5, Hid (w4.setRow (w.heap.size + 1) (treeV A4 L'.length c4 (next + (l.length : Int))) = w5) := ⟨_, rfl⟩
 have hx5 : w5.heap[w.heap.size]? = some (.cells (treeV A L.length c next) 29 (0, 0)) := by rw [← hw5.out, setRow_other _ _ _ _ (by omega)]; exact HX4.out
 have HY5 : Hid (w5.heap[w.heap.size + 1]? = some (.cells (treeV A4 L'.length c4 (next + (l.length : Int))) 29 (0, 0))) := by show _ = _; rw [← hw5.out]; exact setRow_heap _ _ _ _ _ _ HY4.out
 have hS5 : Hid (w5.cell? ⟨w.heap.size, 0, none⟩ = some (.slice A L.length c) ∧ w5.cell? ⟨w.heap.size, 1, none⟩ = some (.int .i64 next)) := ⟨cell_row hx5 0 _ rfl, cell_row hx5 1 _ rfl⟩
 rw [hw5.out] at HQ1 HQ2 ⊢
 clear hx5 q1 q2
 refine hK.out _ _ (hS5.out) (fun hHeld => ?_)
 clear hK K
 try go_frame
 refine tkv 12 (h := tkv 13 (h := ?_))
 refine wpAnyH_done (by kernel_rfl) ?_ _
 go_wp2_with fail
 refine bodyPost_ret (results_cell2 Tryz.results63 _ _ (w.heap.size + 1) 29 (treeV A4 L'.length c4 (next + (l.length : Int))) (0, 0) _ rfl HY5.out Tryz.underlying29 rfl (by kernel_rfl)) rfl ?_
 rw [HE.out, hL'.out]
 exact ⟨A4, c4, rfl, HQ1.out, HQ2.out⟩
end
end Go.Proofs.YtmkgajdgnmolkaaGreat
