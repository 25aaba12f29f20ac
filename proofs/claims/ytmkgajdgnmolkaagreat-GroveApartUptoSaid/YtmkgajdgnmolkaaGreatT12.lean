/-
  Texts of this claim, joined (by a program of the claim's author): SameR, GStd, OpenG, Open, GOpen.
-/
import Derived.Test.YtmkgajdgnmolkaaGreatT11
import Derived.Test.YtmkgajdgnmolkaaGreatT1
import Derived.Test.YtmkgajdgnmolkaaGreatT7
import Derived.Test.YtmkgajdgnmolkaaGreatRows
import Derived.Deep.Slices
import Derived.Deep.Fields
import Derived.ChangeSame
import Derived.Carry
import Derived.ProofKit
import Derived.Test.YtmkgajdgnmolkaaGreatT3
import Derived.Test.YtmkgajdgnmolkaaGreatT6
namespace Go.Proofs.YtmkgajdgnmolkaaGreat
set_option maxRecDepth 100000
set_option maxHeartbeats 16000000
section
open Go.RowKit
theorem RSame_any (l m : List ItemD) (A B : Option Addr) (c d : Nat) (w : World) (hA : ItemsAt w w.heap.size A l) (hB : ItemsAt w w.heap.size B m) (hl : SmallItems l) (hm : SmallItems m) (R : Bool) (hR : Hid (decide (l = m) = R)) :
  Calls Tryz.prog 21 #[.slice A l.length c, .slice B m.length d] w (Ret w (.bool R)) := by
 have HA := Lib.hid hA
 have HB := Lib.hid hB
 obtain ⟨hl1, hl2⟩ := hl
 obtain ⟨hm1, hm2⟩ := hm
 have HL := Lib.hid hl2
 have HM := Lib.hid hm2
 clear hA hB hl2 hm2
 by_cases hne : l.length = m.length
 ·have hR0 : Hid (decide (l.drop 0 = m.drop 0) = R) := hR
  have t0 : ((l.length : Int) != m.length) = false := by simp [hne]
  have HNE := Lib.hid hne
  clear hne hR
  go_enter Tryz.func21, Tryz.ntmps21
  go_wp2_with fail
  go_loopw [5] (fun i wr => ∃ (k : Nat), k ≤ l.length ∧ i = .int .i64 k ∧ Hid (decide (l.drop k = m.drop k) = R) ∧ Below w.heap.size w wr) (fun i _ => l.length - (intOf i).toNat)
  case atStart => exact ⟨0, Nat.zero_le _, rfl, hR0, Below.refl _ _⟩
  case round =>
   obtain ⟨k, hk, rfl, hin, hbel⟩ := hrel
   have hzr := hbel.size
   by_cases hlt : k < l.length
   ·have hlm : k < m.length := by have := HNE.out; omega
    obtain ⟨x, hx⟩ : ∃ x, Hid (l[k]? = some x) := ⟨l[k], List.getElem?_eq_getElem _⟩
    obtain ⟨y, hy⟩ : ∃ y, Hid (m[k]? = some y) := ⟨m[k], List.getElem?_eq_getElem _⟩
    obtain ⟨ad, hAd, _, _⟩ := HA.out (by omega)
    obtain ⟨bd, hBd, _, _⟩ := HB.out (by omega)
    subst hAd; subst hBd
    obtain ⟨hab, A', c', hat, _, h0, h1, h2, h3, h4⟩ := HA.out.item hx.out
    obtain ⟨hbb, B', d', hbt, _, g0, g1, g2, g3, g4⟩ := HB.out.item hy.out
    have HTW : Hid (TwoAt ad bd k x y A' B' c' d' wr.drew) := TwoAt.keep (w := w) ⟨h0, h1, h2, h3, h4, g0, g1, g2, g3, g4⟩ hab hbb hbel.drew
    have HAT := Lib.hid hat
    have HBT := Lib.hid hbt
    clear h0 h1 h2 h3 h4 g0 g1 g2 g3 g4 hat hbt
    have hsx := (HL.out k x hx.out).2.2.1
    have hsy := (HM.out k y hy.out).2.2.1
    have hlt' : (k : Int) < l.length := by omega
    have hlm' : (k : Int) < m.length := by omega
    have hk0 : (0 : Int) ≤ (k : Int) := by omega
    have hin' := hin.out
    have hde := drop_eq_cons hx.out hy.out
    rw [item_eq] at hde
    have HDE := Lib.hid hde
    clear hde
    by_cases e1 : x.level = y.level
    ·have f1 : (x.level != y.level) = false := by simp [e1]
     by_cases e2 : x.kind = y.kind
     ·have f2 : (x.kind != y.kind) = false := by simp [e2]
      by_cases e3 : x.name = y.name
      ·have f3 : (x.name == y.name) = true := by simp [e3]
       by_cases e4 : x.text = y.text
       ·have f4 : (x.text == y.text) = true := by simp [e4]
        obtain ⟨q, hq⟩ : ∃ q, Hid (decide (x.attrs = y.attrs) = q) := ⟨_, rfl⟩
        cases q with
        | true =>
         have HIN : Hid (decide (l.drop (k + 1) = m.drop (k + 1)) = R) := by
          show _ = _
          have e5 : x.attrs = y.attrs := of_decide_eq_true hq.out
          rw [← hin']
          exact decide_eq_decide.2 ⟨fun h => HDE.out.2 ⟨⟨e1, e2, e3, e4, e5⟩, h⟩, fun h => (HDE.out.1 h).2⟩
         clear e1 e2 e3 e4 hin' hin
         go_wp2_with fail
         refine wp_region_held_drew (S := fun w' => w'.cell? (ad.add (k * 5)) = some (.int .i64 x.level) ∧ w'.cell? ⟨(ad.add (k * 5)).block, (ad.add (k * 5)).off + 1, none⟩ = some (.int .i64 x.kind) ∧ w'.cell? ⟨(ad.add (k * 5)).block, (ad.add (k * 5)).off + 2, none⟩ = some (.string ⟨x.name.toArray⟩) ∧ w'.cell? ⟨(ad.add (k * 5)).block, (ad.add (k * 5)).off + 3, none⟩ = some (.string ⟨x.text.toArray⟩) ∧ w'.cell? ⟨(ad.add (k * 5)).block, (ad.add (k * 5)).off + 4, none⟩ = some (.slice A' x.attrs.length c') ∧ w'.cell? (bd.add (k * 5)) = some (.int .i64 y.level) ∧ w'.cell? ⟨(bd.add (k * 5)).block, (bd.add (k * 5)).off + 1, none⟩ = some (.int .i64 y.kind) ∧ w'.cell? ⟨(bd.add (k * 5)).block, (bd.add (k * 5)).off + 2, none⟩ = some (.string ⟨y.name.toArray⟩) ∧ w'.cell? ⟨(bd.add (k * 5)).block, (bd.add (k * 5)).off + 3, none⟩ = some (.string ⟨y.text.toArray⟩) ∧ w'.cell? ⟨(bd.add (k * 5)).block, (bd.add (k * 5)).off + 4, none⟩ = some (.slice B' y.attrs.length d')) (by kernel_rfl) HTW.out (fun hHeld => ?_)
         refine tkv 0 (h := tkv 1 (h := tkv 2 (h := tkv 3 (h := tkv 4 (h := tkv 5 (h := ?_))))))
         refine tkv 6 (h := tkv 7 (h := tkv 8 (h := tkv 9 (h := tkv 10 (h := tkv 11 (h := ?_))))))
         refine tkv 12 (h := tkv 13 (h := tkv 14 (h := tkv 15 (h := tkv 16 (h := tkv 17 (h := ?_))))))
         refine tkv 18 (h := tkv 19 (h := tkv 20 (h := tkv 21 (h := tkv 22 (h := tkv 23 (h := ?_))))))
         refine tkv 24 (h := tkv 25 (h := tkv 26 (h := tkv 27 (h := tkv 28 (h := tkv 29 (h := ?_))))))
         refine tkv 30 (h := tkv 31 (h := tkv 32 (h := tkv 33 (h := tkv 34 (h := tkv 35 (h := ?_))))))
         refine tkv 36 (h := tkv 37 (h := tkv 38 (h := tkv 39 (h := tkv 40 (h := tkv 41 (h := ?_))))))
         refine tkv 42 (h := tkv 43 (h := tkv 44 (h := tkv 45 (h := tkv 46 (h := tkv 47 (h := ?_))))))
         refine tkv 48 (h := tkv 49 (h := tkv 50 (h := tkv 51 (h := tkv 52 (h := tkv 53 (h := ?_))))))
         refine tkv 54 (h := tkv 55 (h := tkv 56 (h := tkv 57 (h := tkv 58 (h := tkv 59 (h := ?_))))))
         refine tkv 60 (h := ?_)
         refine rdy 61 (fun K hK => ?_)
         go_simp
         refine (SameAttrs_any x.attrs y.attrs A' B' c' d' _ ((HAT.out.below hbel.drew).more hbel.drew.size) ((HBT.out.below hbel.drew).more hbel.drew.size) hsx hsy true hq).mono ?_; rintro e w3 ⟨rfl, hb3⟩
         go_wp2_with fail
         refine hK.out _ _ (HTW.out.keep hab hbb (hb3.mono hbel.drew.size)) (fun hHeld => ?_)
         clear hK K
         try go_frame
         refine tkv 62 (h := tkv 63 (h := ?_))
         refine wpAnyH_done (by kernel_rfl) ?_ _
         have hb3' := hbel.drew.trans (hb3.mono hbel.drew.size)
         clear hHeld
         go_wp2_with fail
         go_roundw
         case rel => exact ⟨k + 1, by omega, by go_num, HIN, hb3'⟩
         case measure => simp [intOf]; omega
        | false =>
         have HIN : Hid (R = false) := by
          show _ = _
          have e5 : x.attrs ≠ y.attrs := of_decide_eq_false hq.out
          rw [← hin']
          simp only [decide_eq_false_iff_not]
          intro h
          exact e5 (HDE.out.1 h).1.2.2.2.2
         clear e1 e2 e3 e4 hin' hin
         go_wp2_with fail
         refine wp_region_held_drew (S := fun w' => w'.cell? (ad.add (k * 5)) = some (.int .i64 x.level) ∧ w'.cell? ⟨(ad.add (k * 5)).block, (ad.add (k * 5)).off + 1, none⟩ = some (.int .i64 x.kind) ∧ w'.cell? ⟨(ad.add (k * 5)).block, (ad.add (k * 5)).off + 2, none⟩ = some (.string ⟨x.name.toArray⟩) ∧ w'.cell? ⟨(ad.add (k * 5)).block, (ad.add (k * 5)).off + 3, none⟩ = some (.string ⟨x.text.toArray⟩) ∧ w'.cell? ⟨(ad.add (k * 5)).block, (ad.add (k * 5)).off + 4, none⟩ = some (.slice A' x.attrs.length c') ∧ w'.cell? (bd.add (k * 5)) = some (.int .i64 y.level) ∧ w'.cell? ⟨(bd.add (k * 5)).block, (bd.add (k * 5)).off + 1, none⟩ = some (.int .i64 y.kind) ∧ w'.cell? ⟨(bd.add (k * 5)).block, (bd.add (k * 5)).off + 2, none⟩ = some (.string ⟨y.name.toArray⟩) ∧ w'.cell? ⟨(bd.add (k * 5)).block, (bd.add (k * 5)).off + 3, none⟩ = some (.string ⟨y.text.toArray⟩) ∧ w'.cell? ⟨(bd.add (k * 5)).block, (bd.add (k * 5)).off + 4, none⟩ = some (.slice B' y.attrs.length d')) (by kernel_rfl) HTW.out (fun hHeld => ?_)
         refine tkv 0 (h := tkv 1 (h := tkv 2 (h := tkv 3 (h := tkv 4 (h := tkv 5 (h := ?_))))))
         refine tkv 6 (h := tkv 7 (h := tkv 8 (h := tkv 9 (h := tkv 10 (h := tkv 11 (h := ?_))))))
         refine tkv 12 (h := tkv 13 (h := tkv 14 (h := tkv 15 (h := tkv 16 (h := tkv 17 (h := ?_))))))
         refine tkv 18 (h := tkv 19 (h := tkv 20 (h := tkv 21 (h := tkv 22 (h := tkv 23 (h := ?_))))))
         refine tkv 24 (h := tkv 25 (h := tkv 26 (h := tkv 27 (h := tkv 28 (h := tkv 29 (h := ?_))))))
         refine tkv 30 (h := tkv 31 (h := tkv 32 (h := tkv 33 (h := tkv 34 (h := tkv 35 (h := ?_))))))
         refine tkv 36 (h := tkv 37 (h := tkv 38 (h := tkv 39 (h := tkv 40 (h := tkv 41 (h := ?_))))))
         refine tkv 42 (h := tkv 43 (h := tkv 44 (h := tkv 45 (h := tkv 46 (h := tkv 47 (h := ?_))))))
         refine tkv 48 (h := tkv 49 (h := tkv 50 (h := tkv 51 (h := tkv 52 (h := tkv 53 (h := ?_))))))
         refine tkv 54 (h := tkv 55 (h := tkv 56 (h := tkv 57 (h := tkv 58 (h := tkv 59 (h := ?_))))))
         refine tkv 60 (h := ?_)
         refine rdy 61 (fun K hK => ?_)
         go_simp
         refine (SameAttrs_any x.attrs y.attrs A' B' c' d' _ ((HAT.out.below hbel.drew).more hbel.drew.size) ((HBT.out.below hbel.drew).more hbel.drew.size) hsx hsy false hq).mono ?_; rintro e w3 ⟨rfl, hb3⟩
         go_wp2_with fail
         refine hK.out _ _ (HTW.out.keep hab hbb (hb3.mono hbel.drew.size)) (fun hHeld => ?_)
         clear hK K
         try go_frame
         refine tkv 62 (h := tkv 63 (h := ?_))
         refine wpAnyH_done (by kernel_rfl) ?_ _
         have hb3' := hbel.drew.trans (hb3.mono hbel.drew.size)
         clear hHeld
         go_wp2_with fail
         go_ret
         exact ⟨by rw [HIN.out]; rfl, hb3'⟩
       ·skip
        have HIN : Hid (R = false) := by
         show _ = _
         rw [← hin']
         simp only [decide_eq_false_iff_not]
         intro h
         exact e4 (HDE.out.1 h).1.2.2.2.1
        have f4 : (x.text == y.text) = false := by simp [e4]
        clear e1 e2 e3 e4
        clear hin' hin
        go_wp2_with fail
        refine wp_region_held_drew (S := fun w' => w'.cell? (ad.add (k * 5)) = some (.int .i64 x.level) ∧ w'.cell? ⟨(ad.add (k * 5)).block, (ad.add (k * 5)).off + 1, none⟩ = some (.int .i64 x.kind) ∧ w'.cell? ⟨(ad.add (k * 5)).block, (ad.add (k * 5)).off + 2, none⟩ = some (.string ⟨x.name.toArray⟩) ∧ w'.cell? ⟨(ad.add (k * 5)).block, (ad.add (k * 5)).off + 3, none⟩ = some (.string ⟨x.text.toArray⟩) ∧ w'.cell? ⟨(ad.add (k * 5)).block, (ad.add (k * 5)).off + 4, none⟩ = some (.slice A' x.attrs.length c') ∧ w'.cell? (bd.add (k * 5)) = some (.int .i64 y.level) ∧ w'.cell? ⟨(bd.add (k * 5)).block, (bd.add (k * 5)).off + 1, none⟩ = some (.int .i64 y.kind) ∧ w'.cell? ⟨(bd.add (k * 5)).block, (bd.add (k * 5)).off + 2, none⟩ = some (.string ⟨y.name.toArray⟩) ∧ w'.cell? ⟨(bd.add (k * 5)).block, (bd.add (k * 5)).off + 3, none⟩ = some (.string ⟨y.text.toArray⟩) ∧ w'.cell? ⟨(bd.add (k * 5)).block, (bd.add (k * 5)).off + 4, none⟩ = some (.slice B' y.attrs.length d')) (by kernel_rfl) HTW.out (fun hHeld => ?_)
        refine tkv 0 (h := tkv 1 (h := tkv 2 (h := tkv 3 (h := tkv 4 (h := tkv 5 (h := ?_))))))
        refine tkv 6 (h := tkv 7 (h := tkv 8 (h := tkv 9 (h := tkv 10 (h := tkv 11 (h := ?_))))))
        refine tkv 12 (h := tkv 13 (h := tkv 14 (h := tkv 15 (h := tkv 16 (h := tkv 17 (h := ?_))))))
        refine tkv 18 (h := tkv 19 (h := tkv 20 (h := tkv 21 (h := tkv 22 (h := tkv 23 (h := ?_))))))
        refine tkv 24 (h := tkv 25 (h := tkv 26 (h := tkv 27 (h := tkv 28 (h := tkv 29 (h := ?_))))))
        refine tkv 30 (h := tkv 31 (h := tkv 32 (h := tkv 33 (h := tkv 34 (h := tkv 35 (h := ?_))))))
        refine tkv 36 (h := tkv 37 (h := tkv 38 (h := tkv 39 (h := tkv 40 (h := tkv 41 (h := ?_))))))
        refine tkv 42 (h := tkv 43 (h := tkv 44 (h := tkv 45 (h := tkv 46 (h := tkv 47 (h := ?_))))))
        refine tkv 48 (h := tkv 49 (h := tkv 50 (h := ?_)))
        refine tkn 51 (h := tkn 52 (h := tkn 53 (h := tkn 54 (h := tkn 55 (h := tkn 56 (h := ?_))))))
        refine tkn 57 (h := tkn 58 (h := tkn 59 (h := tkn 60 (h := tkn 61 (h := tkn 62 (h := ?_))))))
        refine tkv 63 (h := ?_)
        refine wpAnyH_done (by kernel_rfl) ?_ _
        clear hHeld
        go_wp2_with fail
        go_ret
        exact ⟨by rw [HIN.out]; rfl, hbel.drew⟩
      ·skip
       have HIN : Hid (R = false) := by
        show _ = _
        rw [← hin']
        simp only [decide_eq_false_iff_not]
        intro h
        exact e3 (HDE.out.1 h).1.2.2.1
       have f3 : (x.name == y.name) = false := by simp [e3]
       clear e1 e2 e3
       clear hin' hin
       go_wp2_with fail
       refine wp_region_held_drew (S := fun w' => w'.cell? (ad.add (k * 5)) = some (.int .i64 x.level) ∧ w'.cell? ⟨(ad.add (k * 5)).block, (ad.add (k * 5)).off + 1, none⟩ = some (.int .i64 x.kind) ∧ w'.cell? ⟨(ad.add (k * 5)).block, (ad.add (k * 5)).off + 2, none⟩ = some (.string ⟨x.name.toArray⟩) ∧ w'.cell? ⟨(ad.add (k * 5)).block, (ad.add (k * 5)).off + 3, none⟩ = some (.string ⟨x.text.toArray⟩) ∧ w'.cell? ⟨(ad.add (k * 5)).block, (ad.add (k * 5)).off + 4, none⟩ = some (.slice A' x.attrs.length c') ∧ w'.cell? (bd.add (k * 5)) = some (.int .i64 y.level) ∧ w'.cell? ⟨(bd.add (k * 5)).block, (bd.add (k * 5)).off + 1, none⟩ = some (.int .i64 y.kind) ∧ w'.cell? ⟨(bd.add (k * 5)).block, (bd.add (k * 5)).off + 2, none⟩ = some (.string ⟨y.name.toArray⟩) ∧ w'.cell? ⟨(bd.add (k * 5)).block, (bd.add (k * 5)).off + 3, none⟩ = some (.string ⟨y.text.toArray⟩) ∧ w'.cell? ⟨(bd.add (k * 5)).block, (bd.add (k * 5)).off + 4, none⟩ = some (.slice B' y.attrs.length d')) (by kernel_rfl) HTW.out (fun hHeld => ?_)
       refine tkv 0 (h := tkv 1 (h := tkv 2 (h := tkv 3 (h := tkv 4 (h := tkv 5 (h := ?_))))))
       refine tkv 6 (h := tkv 7 (h := tkv 8 (h := tkv 9 (h := tkv 10 (h := tkv 11 (h := ?_))))))
       refine tkv 12 (h := tkv 13 (h := tkv 14 (h := tkv 15 (h := tkv 16 (h := tkv 17 (h := ?_))))))
       refine tkv 18 (h := tkv 19 (h := tkv 20 (h := tkv 21 (h := tkv 22 (h := tkv 23 (h := ?_))))))
       refine tkv 24 (h := tkv 25 (h := tkv 26 (h := tkv 27 (h := tkv 28 (h := tkv 29 (h := ?_))))))
       refine tkv 30 (h := tkv 31 (h := tkv 32 (h := tkv 33 (h := tkv 34 (h := tkv 35 (h := ?_))))))
       refine tkv 36 (h := tkv 37 (h := ?_))
       refine tkn 38 (h := tkn 39 (h := tkn 40 (h := tkn 41 (h := tkn 42 (h := tkn 43 (h := ?_))))))
       refine tkn 44 (h := tkn 45 (h := tkn 46 (h := tkn 47 (h := tkn 48 (h := ?_)))))
       refine tkv 49 (h := tkv 50 (h := ?_))
       refine tkn 51 (h := tkn 52 (h := tkn 53 (h := tkn 54 (h := tkn 55 (h := tkn 56 (h := ?_))))))
       refine tkn 57 (h := tkn 58 (h := tkn 59 (h := tkn 60 (h := tkn 61 (h := tkn 62 (h := ?_))))))
       refine tkv 63 (h := ?_)
       refine wpAnyH_done (by kernel_rfl) ?_ _
       clear hHeld
       go_wp2_with fail
       go_ret
       exact ⟨by rw [HIN.out]; rfl, hbel.drew⟩
     ·skip
      have HIN : Hid (R = false) := by
       show _ = _
       rw [← hin']
       simp only [decide_eq_false_iff_not]
       intro h
       exact e2 (HDE.out.1 h).1.2.1
      have f2 : (x.kind != y.kind) = true := by simp [e2]
      clear e1 e2
      clear hin' hin
      go_wp2_with fail
      refine wp_region_held_drew (S := fun w' => w'.cell? (ad.add (k * 5)) = some (.int .i64 x.level) ∧ w'.cell? ⟨(ad.add (k * 5)).block, (ad.add (k * 5)).off + 1, none⟩ = some (.int .i64 x.kind) ∧ w'.cell? ⟨(ad.add (k * 5)).block, (ad.add (k * 5)).off + 2, none⟩ = some (.string ⟨x.name.toArray⟩) ∧ w'.cell? ⟨(ad.add (k * 5)).block, (ad.add (k * 5)).off + 3, none⟩ = some (.string ⟨x.text.toArray⟩) ∧ w'.cell? ⟨(ad.add (k * 5)).block, (ad.add (k * 5)).off + 4, none⟩ = some (.slice A' x.attrs.length c') ∧ w'.cell? (bd.add (k * 5)) = some (.int .i64 y.level) ∧ w'.cell? ⟨(bd.add (k * 5)).block, (bd.add (k * 5)).off + 1, none⟩ = some (.int .i64 y.kind) ∧ w'.cell? ⟨(bd.add (k * 5)).block, (bd.add (k * 5)).off + 2, none⟩ = some (.string ⟨y.name.toArray⟩) ∧ w'.cell? ⟨(bd.add (k * 5)).block, (bd.add (k * 5)).off + 3, none⟩ = some (.string ⟨y.text.toArray⟩) ∧ w'.cell? ⟨(bd.add (k * 5)).block, (bd.add (k * 5)).off + 4, none⟩ = some (.slice B' y.attrs.length d')) (by kernel_rfl) HTW.out (fun hHeld => ?_)
      refine tkv 0 (h := tkv 1 (h := tkv 2 (h := tkv 3 (h := tkv 4 (h := tkv 5 (h := ?_))))))
      refine tkv 6 (h := tkv 7 (h := tkv 8 (h := tkv 9 (h := tkv 10 (h := tkv 11 (h := ?_))))))
      refine tkv 12 (h := tkv 13 (h := tkv 14 (h := tkv 15 (h := tkv 16 (h := tkv 17 (h := ?_))))))
      refine tkv 18 (h := tkv 19 (h := tkv 20 (h := tkv 21 (h := tkv 22 (h := tkv 23 (h := ?_))))))
      refine tkv 24 (h := ?_)
      refine tkn 25 (h := tkn 26 (h := tkn 27 (h := tkn 28 (h := tkn 29 (h := tkn 30 (h := ?_))))))
      refine tkn 31 (h := tkn 32 (h := tkn 33 (h := tkn 34 (h := tkn 35 (h := ?_)))))
      refine tkv 36 (h := tkv 37 (h := ?_))
      refine tkn 38 (h := tkn 39 (h := tkn 40 (h := tkn 41 (h := tkn 42 (h := tkn 43 (h := ?_))))))
      refine tkn 44 (h := tkn 45 (h := tkn 46 (h := tkn 47 (h := tkn 48 (h := ?_)))))
      refine tkv 49 (h := tkv 50 (h := ?_))
      refine tkn 51 (h := tkn 52 (h := tkn 53 (h := tkn 54 (h := tkn 55 (h := tkn 56 (h := ?_))))))
      refine tkn 57 (h := tkn 58 (h := tkn 59 (h := tkn 60 (h := tkn 61 (h := tkn 62 (h := ?_))))))
      refine tkv 63 (h := ?_)
      refine wpAnyH_done (by kernel_rfl) ?_ _
      clear hHeld
      go_wp2_with fail
      go_ret
      exact ⟨by rw [HIN.out]; rfl, hbel.drew⟩
    ·skip
     have HIN : Hid (R = false) := by
      show _ = _
      rw [← hin']
      simp only [decide_eq_false_iff_not]
      intro h
      exact e1 (HDE.out.1 h).1.1
     have f1 : (x.level != y.level) = true := by simp [e1]
     clear e1
     clear hin' hin
     go_wp2_with fail
     refine wp_region_held_drew (S := fun w' => w'.cell? (ad.add (k * 5)) = some (.int .i64 x.level) ∧ w'.cell? ⟨(ad.add (k * 5)).block, (ad.add (k * 5)).off + 1, none⟩ = some (.int .i64 x.kind) ∧ w'.cell? ⟨(ad.add (k * 5)).block, (ad.add (k * 5)).off + 2, none⟩ = some (.string ⟨x.name.toArray⟩) ∧ w'.cell? ⟨(ad.add (k * 5)).block, (ad.add (k * 5)).off + 3, none⟩ = some (.string ⟨x.text.toArray⟩) ∧ w'.cell? ⟨(ad.add (k * 5)).block, (ad.add (k * 5)).off + 4, none⟩ = some (.slice A' x.attrs.length c') ∧ w'.cell? (bd.add (k * 5)) = some (.int .i64 y.level) ∧ w'.cell? ⟨(bd.add (k * 5)).block, (bd.add (k * 5)).off + 1, none⟩ = some (.int .i64 y.kind) ∧ w'.cell? ⟨(bd.add (k * 5)).block, (bd.add (k * 5)).off + 2, none⟩ = some (.string ⟨y.name.toArray⟩) ∧ w'.cell? ⟨(bd.add (k * 5)).block, (bd.add (k * 5)).off + 3, none⟩ = some (.string ⟨y.text.toArray⟩) ∧ w'.cell? ⟨(bd.add (k * 5)).block, (bd.add (k * 5)).off + 4, none⟩ = some (.slice B' y.attrs.length d')) (by kernel_rfl) HTW.out (fun hHeld => ?_)
     refine tkv 0 (h := tkv 1 (h := tkv 2 (h := tkv 3 (h := tkv 4 (h := tkv 5 (h := ?_))))))
     refine tkv 6 (h := tkv 7 (h := tkv 8 (h := tkv 9 (h := tkv 10 (h := tkv 11 (h := ?_))))))
     refine tkn 12 (h := tkn 13 (h := tkn 14 (h := tkn 15 (h := tkn 16 (h := tkn 17 (h := ?_))))))
     refine tkn 18 (h := tkn 19 (h := tkn 20 (h := tkn 21 (h := tkn 22 (h := ?_)))))
     refine tkv 23 (h := tkv 24 (h := ?_))
     refine tkn 25 (h := tkn 26 (h := tkn 27 (h := tkn 28 (h := tkn 29 (h := tkn 30 (h := ?_))))))
     refine tkn 31 (h := tkn 32 (h := tkn 33 (h := tkn 34 (h := tkn 35 (h := ?_)))))
     refine tkv 36 (h := tkv 37 (h := ?_))
     refine tkn 38 (h := tkn 39 (h := tkn 40 (h := tkn 41 (h := tkn 42 (h := tkn 43 (h := ?_))))))
     refine tkn 44 (h := tkn 45 (h := tkn 46 (h := tkn 47 (h := tkn 48 (h := ?_)))))
     refine tkv 49 (h := tkv 50 (h := ?_))
     refine tkn 51 (h := tkn 52 (h := tkn 53 (h := tkn 54 (h := tkn 55 (h := tkn 56 (h := ?_))))))
     refine tkn 57 (h := tkn 58 (h := tkn 59 (h := tkn 60 (h := tkn 61 (h := tkn 62 (h := ?_))))))
     refine tkv 63 (h := ?_)
     refine wpAnyH_done (by kernel_rfl) ?_ _
     clear hHeld
     go_wp2_with fail
     go_ret
     exact ⟨by rw [HIN.out]; rfl, hbel.drew⟩
   ·have HIN : Hid (R = true) := by
     show _ = _
     have := HNE.out
     rw [← hin.out, List.drop_eq_nil_of_le (by omega), List.drop_eq_nil_of_le (by omega)]; rfl
    have hk' : k = l.length := by omega
    subst hk'
    clear hin hlt hk
    go_wp2_with fail
    go_ret
    exact ⟨by rw [HIN.out]; rfl, hbel⟩
 ·have hv : Hid (R = false) := by
   show _ = _
   rw [← hR.out]
   simp only [decide_eq_false_iff_not]
   intro h; rw [h] at hne; exact hne rfl
  have t0 : ((l.length : Int) != m.length) = true := by simp; omega
  clear hne hR
  go_enter Tryz.func21, Tryz.ntmps21
  go_wp2_with fail
  go_ret
  exact ⟨by rw [hv.out]; rfl, Below.refl _ _⟩
end
section
open Go.RowKit Go.Shelf
variable {X : Nat → Prop}
theorem root_flat : ∀ f : Fo, rootL (f.flat 0) = rootF f
 | .nil => rfl
 | .cons _ _ _ _ => rfl
theorem items_small {f : Fo} {next : Int} (h : InvF f next) (id : Int) : SmallItems (itemsAt (f.flat 0) id) := by
 have hl := h.len
 unfold itemsAt
 split
 ·rename_i k hk
  refine ⟨?_, fun j x hx => ?_⟩
  ·unfold itemsL
   rw [List.length_map, part_length, List.length_take, List.length_drop]
   omega
  ·unfold itemsL partL at hx
   rw [List.map_map, List.getElem?_map] at hx
   obtain ⟨r, hr, rfl⟩ := Option.map_eq_some_iff.1 hx
   have hm := List.mem_of_mem_drop (List.mem_of_mem_take (List.mem_of_getElem? hr))
   obtain ⟨h1, h2⟩ := h.ok r hm
   have h3 := Fo.flat_ge f 0 r hm
   obtain ⟨q1, q2, q3, q4, _⟩ := parts_fit h2 ⟨h3, h1⟩
   have hlv : -1000000 ≤ lvlL (f.flat 0) k ∧ lvlL (f.flat 0) k ≤ 1000000 := by
    unfold lvlL
    split
    ·rename_i r' hr'
     have := h.lv r' (List.mem_of_getElem? hr')
     omega
    ·omega
   exact ⟨q1, q2, q3, q4, by show -9223372036854775808 ≤ r.x.level - _; omega, by show r.x.level - _ ≤ 9223372036854775807; omega⟩
 ·exact ⟨by simp, fun j x hx => by simp at hx⟩
theorem items_of_own {w : World} {B : Nat} {A : Option Addr} {c : Nat} {S : List Slot} (h : ItemsOwn w B A c S) (ha : ∀ s ∈ S, AttrsOwn w B s.2.1 s.2.2 s.1.attrs) : ItemsAt w w.heap.size A (S.map (·.1)) :=
 ItemsOwn.at (World.ownsRow.mono h (Nat.zero_le _)) fun s hs => ⟨AttrsOwn.at (World.ownsRow.mono (ha s hs) (Nat.zero_le _)), AttrsOwn.cap (ha s hs)⟩
theorem stands_in {M : Nat → Prop} {t : Nat} {f : Fo} {next : Int} {w : World} (A : Option Addr) (c : Nat) (next' : Int) (h : TreeM M t f next w) (hR : TreeR X w A c (f.flat 0)) :
  Calls Tryz.prog 15 #[.pointer (some ⟨t, 0, none⟩), .agg (treeV A (f.flat 0).length c next')] w (Ret w (.bool true)) := by
 obtain ⟨W1, hW1⟩ : ∃ W1, Hid (W1 = w.alloc (.cells #[.slice A (f.flat 0).length c, .int .i64 next'] 29)) := ⟨_, rfl⟩
 have hb1 : Below w.heap.size w W1 := by rw [hW1.out]; exact (Below.refl _ w).alloc (Nat.le_refl _) _
 have hx1 : W1.heap[w.heap.size]? = some (.cells (treeV A (f.flat 0).length c next') 29 (0, 0)) := by rw [hW1.out]; exact heap_alloc_new w _
 have HZ1 : Hid (w.heap.size < W1.heap.size) := by show _ < _; rw [hW1.out]; simp
 have HSW : Hid (∀ W : World, Below W1.heap.size W1 W → W.cell? ⟨w.heap.size, 0, none⟩ = some (.slice A (f.flat 0).length c) ∧ W.cell? ⟨w.heap.size, 1, none⟩ = some (.int .i64 next')) := fun W hb => by
  have hx := (hb.block w.heap.size HZ1.out).trans hx1
  exact ⟨cell_row hx 0 _ rfl, cell_row hx 1 _ rfl⟩
 have HB1 := Lib.hid hb1
 have HT1 := Lib.hid (h.below hb1)
 have HR1 := Lib.hid (hR.below hb1)
 have HI := Lib.hid h.inv
 have HRW : Hid (SmallRows (f.flat 0)) := h.inv.rows
 have HRL : Hid ((f.flat 0).length ≤ 100000) := by have := h.inv.len; show _ ≤ _; omega
 have hrt : Hid (rootL (f.flat 0) = rootF f) := root_flat f
 obtain ⟨rt, hrt2⟩ : ∃ rt, Hid (rootF f = rt) := ⟨_, rfl⟩
 have hwf : Hid (wfI rt) := by
  rw [← hrt2.out]
  cases hf : f with
  | nil => exact ⟨by decide, by decide⟩
  | cons id d ks r =>
   have h1 := h.inv.rng id (by rw [hf]; simp [Fo.ids])
   have h2 := h.inv.nx
   exact ⟨by show _ ≤ id; omega, by show id ≤ _; omega⟩
 clear h hR hb1 hx1
 unfold treeV
 go_enter Tryz.func15, Tryz.ntmps15
 go_upto_region 1 with (fail)
 rw [← hW1.out]
 have hbd : Below W1.heap.size W1 W1.drew := ⟨rfl, rfl, rfl, Nat.le_refl _, fun _ _ => rfl⟩
 have hS := HSW.out W1.drew hbd
 refine wp_region_held_drew (S := fun W => W.cell? ⟨w.heap.size, 0, none⟩ = some (.slice A (f.flat 0).length c) ∧ W.cell? ⟨w.heap.size, 1, none⟩ = some (.int .i64 next')) (by kernel_rfl) hS (fun hHeld => ?_)
 clear hS
 refine tkv 0 (h := ?_)
 refine tkv 2 (h := ?_)
 obtain ⟨w2, hw2⟩ : ∃ w2, Hid (W1.drew = w2) := ⟨_, rfl⟩
 rw [hw2.out] at hbd ⊢
 have HB2 := Lib.hid hbd
 have HT2 := Lib.hid (HT1.out.below hbd)
 have HR2 := Lib.hid (HR1.out.below hbd)
 clear hbd
 refine rdy 1 (fun K hK => ?_)
 go_simp
 refine (Root_in HT2.out).mono ?_
 rintro e3 w3 ⟨rfl, rfl⟩
 rw [hrt2.out]
 refine hK.out _ _ (HSW.out w2 HB2.out) (fun hHeld => ?_)
 clear hK K
 try go_frame
 refine rdy 3 (fun K hK => ?_)
 go_simp
 refine (RRoot_any (f.flat 0) A c next' w2 HR2.out.1 HRW.out rt (by show _ = _; rw [hrt.out, hrt2.out])).mono ?_
 rintro e4 w4 ⟨rfl, hb4⟩
 have HB4 : Hid (Below W1.heap.size W1 w4) := HB2.out.trans (hb4.mono HB2.out.size)
 have HT4 := Lib.hid (HT2.out.below hb4)
 have HR4 := Lib.hid (HR2.out.below hb4)
 clear hb4
 refine hK.out _ _ (HSW.out w4 HB4.out) (fun hHeld => ?_)
 clear hK K
 try go_frame
 refine tkv 4 (h := tkv 5 (h := tkv 6 (h := ?_)))
 refine tkv 8 (h := ?_)
 refine rdy 7 (fun K hK => ?_)
 go_simp
 refine (Order_in HT4.out).mono ?_
 rintro e5 w5 ⟨v5, rfl, hr5, hb5, _⟩
 obtain ⟨A5, c5, rfl, _⟩ := row_shape hr5
 have HB5 : Hid (Below W1.heap.size W1 w5) := HB4.out.trans (hb5.mono HB4.out.size)
 have HT5 := Lib.hid (HT4.out.below hb5)
 have HR5 := Lib.hid (HR4.out.below hb5)
 have HO5 := Lib.hid hr5
 clear hb5 hr5
 refine hK.out _ _ (HSW.out w5 HB5.out) (fun hHeld => ?_)
 clear hK K
 try go_frame
 refine rdy 9 (fun K hK => ?_)
 go_simp
 refine (ROrder_any (f.flat 0) A c next' w5 HR5.out.1 HRW.out).mono ?_
 rintro e6 w6 ⟨A6, c6, rfl, hr6, hb6⟩
 have HB6 : Hid (Below W1.heap.size W1 w6) := HB5.out.trans (hb6.mono HB5.out.size)
 have HT6 := Lib.hid (HT5.out.below hb6)
 have HR6 := Lib.hid (HR5.out.below hb6)
 have HO6 : Hid (intRow w6 (.slice A5 f.ids.length c5) f.ids) := row_block HO5.out fun b hb => hb6.block b (row_lt HO5.out hb)
 have HP6 := Lib.hid hr6
 clear hb6 hr6
 refine hK.out _ _ (HSW.out w6 HB6.out) (fun hHeld => ?_)
 clear hK K
 try go_frame
 refine rdy 10 (fun K hK => ?_)
 go_simp
 refine (SameIds_any _ _ f.ids ((f.flat 0).map (·.id)) w6 HO6.out HP6.out true (by show _ = _; rw [Fo.flat_ids]; simp)).mono ?_
 rintro e7 w7 ⟨rfl, hb7⟩
 have HB7 : Hid (Below W1.heap.size W1 w7) := HB6.out.trans (hb7.mono HB6.out.size)
 have HT7 := Lib.hid (HT6.out.below hb7)
 have HR7 := Lib.hid (HR6.out.below hb7)
 clear hb7
 refine hK.out _ _ (HSW.out w7 HB7.out) (fun hHeld => ?_)
 clear hK K
 try go_frame
 refine tkv 11 (h := tkv 12 (h := tkv 13 (h := tkv 14 (h := ?_))))
 refine tkv 17 (h := tkv 18 (h := ?_))
 refine rdy 15 (fun K hK => ?_)
 go_simp
 refine (Root_in HT7.out).mono ?_
 rintro e8 w8 ⟨rfl, rfl⟩
 rw [hrt2.out]
 refine hK.out _ _ (HSW.out w7 HB7.out) (fun hHeld => ?_)
 clear hK K
 try go_frame
 refine rdy 16 (fun K hK => ?_)
 go_simp
 refine (Items_in HT7.out hwf.out).mono ?_
 rintro e9 w9 ⟨A9, c9, S9, rfl, hS9, hown9, hat9, hb9⟩
 have HB9 : Hid (Below W1.heap.size W1 w9) := HB7.out.trans (hb9.mono HB7.out.size)
 have HT9 := Lib.hid (HT7.out.below hb9)
 have HR9 := Lib.hid (HR7.out.below hb9)
 have hI9 := items_of_own hown9 hat9
 obtain ⟨IT, hIT⟩ : ∃ IT, Hid (itemsAt (f.flat 0) rt = IT) := ⟨_, rfl⟩
 rw [hS9, hIT.out] at hI9
 have hsl : S9.length = IT.length := by rw [← hIT.out, ← hS9, List.length_map]
 rw [hsl]
 have HI9 := Lib.hid hI9
 have HSI : Hid (SmallItems IT) := by
  show SmallItems IT
  rw [← hIT.out]
  exact items_small HI.out rt
 clear hb9 hS9 hown9 hat9 hI9 hsl
 refine hK.out _ _ (HSW.out w9 HB9.out) (fun hHeld => ?_)
 clear hK K
 try go_frame
 refine rdy 19 (fun K hK => ?_)
 go_simp
 refine (RRoot_any (f.flat 0) A c next' w9 HR9.out.1 HRW.out rt (by show _ = _; rw [hrt.out, hrt2.out])).mono ?_
 rintro e10 w10 ⟨rfl, hb10⟩
 have HB10 : Hid (Below W1.heap.size W1 w10) := HB9.out.trans (hb10.mono HB9.out.size)
 have HR10 := Lib.hid (HR9.out.below hb10)
 have HI10 : Hid (ItemsAt w10 w10.heap.size A9 IT) := (HI9.out.below hb10).more hb10.size
 clear hb10
 refine hK.out _ _ (HSW.out w10 HB10.out) (fun hHeld => ?_)
 clear hK K
 try go_frame
 refine rdy 20 (fun K hK => ?_)
 go_simp
 refine (RItems_any (f.flat 0) A c next' rt w10 HR10.out HRW.out HRL.out IT hIT).mono ?_
 rintro e11 w11 ⟨A11, c11, rfl, hi11, hb11⟩
 have HB11 : Hid (Below W1.heap.size W1 w11) := HB10.out.trans (hb11.mono HB10.out.size)
 have HI11 : Hid (ItemsAt w11 w11.heap.size A9 IT) := (HI10.out.below hb11).more hb11.size
 have HJ11 := Lib.hid hi11
 clear hb11 hi11
 refine hK.out _ _ (HSW.out w11 HB11.out) (fun hHeld => ?_)
 clear hK K
 try go_frame
 refine rdy 21 (fun K hK => ?_)
 go_simp
 refine (RSame_any IT IT A9 A11 c9 c11 w11 HI11.out HJ11.out HSI.out HSI.out true (by show _ = _; simp)).mono ?_
 rintro e12 w12 ⟨rfl, hb12⟩
 have HB12 : Hid (Below w.heap.size w w12) := HB1.out.trans ((HB11.out.trans (hb12.mono HB11.out.size)).mono HB1.out.size)
 have HB12' : Hid (Below W1.heap.size W1 w12) := HB11.out.trans (hb12.mono HB11.out.size)
 clear hb12
 refine hK.out _ _ (HSW.out w12 HB12'.out) (fun hHeld => ?_)
 clear hK K
 try go_frame
 refine tkv 22 (h := tkv 23 (h := ?_))
 refine wpAnyH_done (by kernel_rfl) ?_ _
 go_wp2_with fail
 go_ret
 exact ⟨rfl, HB12.out⟩
end
section
open Go.RowKit Go.ChangeShapes Go.WideShapes Go.Deep
theorem add_more (ad : Addr) (a j : Nat) (hj : j ≠ 0) : ad.add (a + j) = ⟨(ad.add a).block, (ad.add a).off + j, none⟩ := by
 rw [← add_of_add]
 generalize ad.add a = b
 unfold Addr.add
 rw [if_neg hj]
theorem slice_structs {H : Type} {enc : TypeId × Value → H} {P : Program} {w : World} {t e : TypeId} {fs : Array Field} {fuel : Nat} {cs : List Value} {x : DataW H × List MemPlace} (ht : P.underlying t = some (.slice e)) (he : P.underlying e = some (.struct fs))
  (h1 : oneCellFields P fs = true) (h2 : P.cellsOf e = fs.size) (h : DataW.trod enc P w 0 (fun _ => true) true fuel t cs = some x) :
  (cs = [.slice none 0 0] ∧ x.1 = .nil) ∨
  ∃ (a : Addr) (len cap : Nat) (D : Nat → DataW H) (rest : List (DataW H)), cs = [.slice (some a) len cap] ∧ len ≤ cap ∧ cap ≤ maxLen ∧ x.1 = .slice ((List.range len).map D) rest ∧
   ∀ i, i < len → ∃ (ys : List (DataW H × List MemPlace)) (n : Nat), D i = .agg (ys.map (·.1)) ∧ ys.length = fs.size ∧
    ∀ (j : Nat) (f : Field), fs[j]? = some f → ∃ v y, w.cell? (a.add (i * fs.size + j)) = some v ∧ ys[j]? = some y ∧ DataW.trod enc P w 0 (fun _ => true) true n f.type [v] = some y := by
 rcases open_slice ht h with ⟨e1, e2⟩ | ⟨a, len, cap, m, n, D, Pl, e1, _, k1, k2, k3, e2, each⟩
 ·exact .inl ⟨e1, by rw [e2]⟩
 ·right
  have hm : m = cap := by simpa using k3
  refine ⟨a, len, cap, D, _, e1, k1, k2, by rw [e2], fun i hi => ?_⟩
  obtain ⟨row, hrow, hread⟩ := each i (by omega)
  obtain ⟨_, hl, hat⟩ := World.cells?_some hrow
  obtain ⟨ys, n', _, hy, _, hyl, hfield⟩ := DataW.trod_struct he hread
  refine ⟨ys, n', by rw [Prod.mk.injEq] at hy; exact hy.1, hyl, fun j f hj => ?_⟩
  have hjs : j < fs.size := (Array.getElem?_eq_some_iff.1 hj).1
  obtain ⟨o1, o2⟩ := hone_of h1 j f hj
  have hjr : j < row.length := by rw [hl, h2]; exact hjs
  have hv := hat j (by rw [h2]; exact hjs)
  have hone : (row.drop f.offset).take (P.cellsOf f.type) = [row[j]] := by rw [o1, o2, List.drop_eq_getElem_cons hjr]; rfl
  have hr := hfield j f hj
  rw [hone] at hr
  have hys : ys[j]? = some (ys[j]'(by omega)) := List.getElem?_eq_getElem _
  refine ⟨row[j], _, ?_, hys, hr.trans hys⟩
  rw [h2, add_of_add, List.getElem?_eq_getElem hjr] at hv
  exact hv
theorem list_of {α : Type} {P : Nat → α → Prop} : ∀ (n : Nat), (∀ i, i < n → ∃ x, P i x) → ∃ l : List α, l.length = n ∧ ∀ i x, l[i]? = some x → P i x
 | 0, _ => ⟨[], rfl, fun _ _ h => by simp at h⟩
 | n + 1, h => by
  obtain ⟨l, hl, hp⟩ := list_of n (fun i hi => h i (by omega))
  obtain ⟨x, hx⟩ := h n (by omega)
  refine ⟨l ++ [x], by simp [hl], fun i y hy => ?_⟩
  by_cases hi : i < l.length
  ·rw [List.getElem?_append_left hi] at hy; exact hp i y hy
  ·rw [List.getElem?_append_right (by omega)] at hy
   have : i - l.length = 0 := by
    have := (List.getElem?_eq_some_iff.1 hy).1
    simp at this; omega
   rw [this] at hy
   simp at hy; subst hy
   rw [show i = n by omega]; exact hx
theorem bulkAll_range {H : Type} (D : Nat → DataW H) : ∀ n i, i < n → Rows.uptoBulk (D i) ≤ Rows.uptoBulkAll ((List.range n).map D) := by
 have app : ∀ (a b : List (DataW H)), Rows.uptoBulkAll (a ++ b) = Rows.uptoBulkAll a + Rows.uptoBulkAll b := by
  intro a b
  induction a with
  | nil => simp [Rows.uptoBulkAll]
  | cons x a ih => simp only [List.cons_append, Rows.uptoBulkAll, ih]; omega
 intro n
 induction n with
 | zero => intro i h; omega
 | succ n ih =>
  intro i h
  rw [List.range_succ, List.map_append, app]
  by_cases hi : i < n
  ·have := ih i hi; omega
  ·have : i = n := by omega
   subst this
   simp [Rows.uptoBulkAll]
theorem bulkAll_sum {H α : Type} (f : α → Nat) (D : Nat → DataW H) : ∀ (l : List α), (∀ i x, l[i]? = some x → f x ≤ Rows.uptoBulk (D i)) → (l.map f).sum ≤ Rows.uptoBulkAll ((List.range l.length).map D) := by
 have app : ∀ (a b : List (DataW H)), Rows.uptoBulkAll (a ++ b) = Rows.uptoBulkAll a + Rows.uptoBulkAll b := by
  intro a b
  induction a with
  | nil => simp [Rows.uptoBulkAll]
  | cons x a ih => simp only [List.cons_append, Rows.uptoBulkAll, ih]; omega
 have key : ∀ (n : Nat) (l : List α), l.length = n → (∀ i x, l[i]? = some x → f x ≤ Rows.uptoBulk (D i)) → (l.map f).sum ≤ Rows.uptoBulkAll ((List.range n).map D) := by
  intro n
  induction n with
  | zero => intro l hl _; rw [List.eq_nil_of_length_eq_zero hl]; simp
  | succ n ih =>
   intro l hl h
   have hne : l ≠ [] := fun e => by rw [e] at hl; cases hl
   rw [← List.dropLast_concat_getLast hne, List.map_append, List.sum_append, List.range_succ, List.map_append, app]
   have h1 := ih l.dropLast (by simp [hl]) (fun i x hx => h i x (by
    have hi := (List.getElem?_eq_some_iff.1 hx).1
    rw [List.getElem?_dropLast] at hx
    split at hx
    ·exact hx
    ·cases hx))
   have h2 := h n (l.getLast hne) (by rw [List.getLast_eq_getElem, ← List.getElem?_eq_getElem, hl]; rfl)
   simp only [List.map_cons, List.map_nil, List.sum_cons, List.sum_nil, Rows.uptoBulkAll]
   omega
 intro l h
 exact key l.length l rfl h
theorem sum_ones {α : Type} (l : List α) : (l.map (fun _ => 1)).sum = l.length := by
 induction l with
 | nil => rfl
 | cons x l ih => rw [List.map_cons, List.sum_cons, ih, List.length_cons]; omega
end
section
open Go.RowKit Go.ChangeShapes Go.WideShapes Go.Deep
theorem open_attrs {W : World} {H : Type} {enc : TypeId × Value → H} {fuel : Nat} {cs : List Value} {x : DataW H × List MemPlace} (h : DataW.trod enc Tryz.prog W 0 (fun _ => true) true fuel 48 cs = some x) :
  ∃ (A : Option Addr) (c : Nat) (l : List AttrD), cs = [.slice A l.length c] ∧ AttrsAt W W.heap.size A l ∧ l.length ≤ c ∧ (A = none → c = 0) ∧ l.length ≤ Rows.uptoBulk x.1 ∧ (∀ a ∈ l, a.name.length + a.value.length ≤ Rows.uptoBulk x.1) := by
 rcases slice_structs Tryz.underlying48 Tryz.underlying66 (by kernel_rfl) (by kernel_rfl) h with ⟨rfl, hx⟩ | ⟨a, len, cap, D, rest, rfl, hlc, hcm, hx, hf⟩
 ·exact ⟨none, 0, [], rfl, fun h => absurd h (by simp), Nat.le_refl _, fun _ => rfl, by simp, by simp⟩
 ·rw [hx]
  obtain ⟨l, hl, hp⟩ := list_of (P := fun i (y : AttrD) => W.cell? (a.add (i * 2)) = some (strV y.name) ∧ W.cell? ⟨(a.add (i * 2)).block, (a.add (i * 2)).off + 1, none⟩ = some (strV y.value) ∧ y.name.length + y.value.length + 1 ≤ Rows.uptoBulk (D i)) len (fun i hi => by
   obtain ⟨ys, n, hD, hyl, hj⟩ := hf i hi
   obtain ⟨v0, y0, hc0, hy0, ht0⟩ := hj 0 _ rfl
   obtain ⟨v1, y1, hc1, hy1, ht1⟩ := hj 1 _ rfl
   obtain ⟨s0, e0, rfl, _⟩ := DataW.trod_string Tryz.underlying9 ht0
   obtain ⟨s1, e1, rfl, _⟩ := DataW.trod_string Tryz.underlying9 ht1
   injection e0 with e0 _; subst e0
   injection e1 with e1 _; subst e1
   refine ⟨⟨s0.data.toList, s1.data.toList⟩, ?_, ?_, ?_⟩
   ·rw [Nat.add_zero] at hc0
    rw [show i * 2 = i * (_ : Nat) from rfl]; exact hc0
   ·rw [add_more _ _ _ (by decide)] at hc1; exact hc1
   ·rw [hD]
    match ys, hyl, hy0, hy1 with
    | [z0, z1], _, hy0, hy1 =>
     simp at hy0 hy1
     subst hy0; subst hy1
     simp [Rows.uptoBulk, Rows.uptoBulkAll]
     omega)
  refine ⟨some a, cap, l, by rw [hl], ?_, by omega, (fun h => by cases h), ?_, ?_⟩
  ·intro hpos
   have h0 : l[0]? = some (l[0]'hpos) := List.getElem?_eq_getElem hpos
   have hb := World.block_lt_of_cell? W _ (hp 0 _ h0).1
   rw [block_of_add] at hb
   exact ⟨a, rfl, hb, fun k y hy => ⟨(hp k y hy).1, (hp k y hy).2.1⟩⟩
  ·have := bulkAll_sum (fun _ : AttrD => 1) D l (fun i y hy => by have := (hp i y hy).2.2; omega)
   rw [hl] at this
   simp only [Rows.uptoBulk]
   have e := sum_ones l
   omega
  ·intro y hy
   obtain ⟨k, hk⟩ := List.mem_iff_getElem?.1 hy
   have h1 := (hp k y hk).2.2
   have h2 := bulkAll_range D len k (by rw [← hl]; exact (List.getElem?_eq_some_iff.1 hk).1)
   simp only [Rows.uptoBulk]
   omega
def NilAt (w : World) (A : Option Addr) (l : List ItemD) : Prop := ∀ ad, A = some ad → ∀ k x A' c', l[k]? = some x → w.cell? ⟨(ad.add (k * 5)).block, (ad.add (k * 5)).off + 4, none⟩ = some (.slice A' x.attrs.length c') → A' = none → c' = 0
theorem open_items {W : World} {H : Type} {enc : TypeId × Value → H} {v : Value} {d : DataW H} {p : List MemPlace} (hok : ∃ a n c, v = .slice a n c) (h : DataW.Trod enc Tryz.prog W 0 (fun _ => true) true 34 v d p) (hbulk : Rows.uptoBulk d ≤ 1048576) :
  ∃ (A : Option Addr) (c : Nat) (l : List ItemD), v = .slice A l.length c ∧ ItemsAt W W.heap.size A l ∧ SmallDoc l ∧ l.length ≤ 1048576 ∧ textSum l ≤ 1048576 ∧ NilAt W A l := by
 obtain ⟨va, vn, vc, rfl⟩ := hok
 obtain ⟨fuel, h⟩ := h
 rcases slice_structs Tryz.underlying34 Tryz.underlying62 (by kernel_rfl) (by kernel_rfl) h with ⟨e, e2⟩ | ⟨a, len, cap, D, rest, e, hlc, hcm, e2, hf⟩
 ·injection e with e _
  injection e with e1 e2' e3
  subst e1; subst e2'; subst e3
  refine ⟨none, 0, [], rfl, fun h => absurd h (by simp), ⟨⟨by simp, fun _ _ h => by simp at h⟩, by simp [textSum]⟩, by simp, by simp [textSum], fun _ h => by cases h⟩
 ·injection e with e _
  injection e with e1 e2' e3
  subst e1
  have e2'' := e2'.symm
  have e3'' := e3.symm
  subst e2''; subst e3''
  have e2 : d = .slice ((List.range len).map D) rest := e2
  subst e2
  obtain ⟨l, hl, hp⟩ := list_of (P := fun i (x : ItemD) => ∃ (A' : Option Addr) (c' : Nat), AttrsAt W W.heap.size A' x.attrs ∧ x.attrs.length ≤ c' ∧ W.cell? (a.add (i * 5)) = some (.int .i64 x.level) ∧ W.cell? ⟨(a.add (i * 5)).block, (a.add (i * 5)).off + 1, none⟩ = some (.int .i64 x.kind) ∧
    W.cell? ⟨(a.add (i * 5)).block, (a.add (i * 5)).off + 2, none⟩ = some (strV x.name) ∧ W.cell? ⟨(a.add (i * 5)).block, (a.add (i * 5)).off + 3, none⟩ = some (strV x.text) ∧ W.cell? ⟨(a.add (i * 5)).block, (a.add (i * 5)).off + 4, none⟩ = some (.slice A' x.attrs.length c') ∧
    (-9223372036854775808 ≤ x.level ∧ x.level ≤ 9223372036854775807) ∧ x.name.length + x.text.length + x.attrs.length + 1 ≤ Rows.uptoBulk (D i) ∧ (∀ y ∈ x.attrs, y.name.length + y.value.length ≤ Rows.uptoBulk (D i)) ∧ (A' = none → c' = 0)) len (fun i hi => by
   obtain ⟨ys, n, hD, hyl, hj⟩ := hf i hi
   obtain ⟨v0, y0, hc0, hy0, ht0⟩ := hj 0 _ rfl
   obtain ⟨v1, y1, hc1, hy1, ht1⟩ := hj 1 _ rfl
   obtain ⟨v2, y2, hc2, hy2, ht2⟩ := hj 2 _ rfl
   obtain ⟨v3, y3, hc3, hy3, ht3⟩ := hj 3 _ rfl
   obtain ⟨v4, y4, hc4, hy4, ht4⟩ := hj 4 _ rfl
   obtain ⟨n0, e0, rfl, w0⟩ := DataW.trod_int Tryz.underlying3 ht0
   obtain ⟨n1, e1, rfl, _⟩ := DataW.trod_int Tryz.underlying3 ht1
   obtain ⟨s2, e2, rfl, _⟩ := DataW.trod_string Tryz.underlying9 ht2
   obtain ⟨s3, e3, rfl, _⟩ := DataW.trod_string Tryz.underlying9 ht3
   obtain ⟨A', c', la, e4, hat, hlc', hnil, hb1, hb2⟩ := open_attrs ht4
   injection e0 with e0 _; subst e0
   injection e1 with e1 _; subst e1
   injection e2 with e2 _; subst e2
   injection e3 with e3 _; subst e3
   injection e4 with e4 _; subst e4
   rw [add_more _ _ _ (by decide)] at hc1 hc2 hc3 hc4
   rw [Nat.add_zero] at hc0
   refine ⟨⟨n0, n1, s2.data.toList, s3.data.toList, la⟩, A', c', hat, hlc', hc0, hc1, hc2, hc3, hc4, ?_, ?_, ?_, hnil⟩
   ·simp [Lit.wf, IntKind.min, IntKind.max, IntKind.signed, IntKind.bits] at w0
    show -9223372036854775808 ≤ n0 ∧ n0 ≤ 9223372036854775807
    exact ⟨by omega, by omega⟩
   ·rw [hD]
    match ys, hyl, hy0, hy1, hy2, hy3, hy4 with
    | [z0, z1, z2, z3, z4], _, hy0, hy1, hy2, hy3, hy4 =>
     simp at hy0 hy1 hy2 hy3 hy4
     subst hy0; subst hy1; subst hy2; subst hy3; subst hy4
     simp [Rows.uptoBulk, Rows.uptoBulkAll]
     omega
   ·intro y hy
    rw [hD]
    have := hb2 y hy
    match ys, hyl, hy0, hy1, hy2, hy3, hy4 with
    | [z0, z1, z2, z3, z4], _, hy0, hy1, hy2, hy3, hy4 =>
     simp at hy0 hy1 hy2 hy3 hy4
     subst hy0; subst hy1; subst hy2; subst hy3; subst hy4
     simp [Rows.uptoBulk, Rows.uptoBulkAll]
     omega)
  simp only [Rows.uptoBulk] at hbulk
  have hone : ∀ k, k < len → Rows.uptoBulk (D k) ≤ 1048576 := fun k hk => by have := bulkAll_range D len k hk; omega
  have hcount := bulkAll_sum (fun _ : ItemD => 1) D l (fun i y hy => by obtain ⟨_, _, _, _, _, _, _, _, _, _, h, _⟩ := hp i y hy; omega)
  have htext := bulkAll_sum (fun x : ItemD => x.text.length) D l (fun i y hy => by obtain ⟨_, _, _, _, _, _, _, _, _, _, h, _⟩ := hp i y hy; omega)
  have e := sum_ones l
  rw [hl] at hcount htext
  have hl2 : l.length ≤ 1048576 := by omega
  have ht2 : textSum l ≤ 1048576 := by unfold textSum; omega
  refine ⟨some a, cap, l, by rw [hl], ?_, ⟨⟨by omega, fun k x hx => ?_⟩, by omega⟩, hl2, ht2, ?_⟩
  ·intro hpos
   have h0 : l[0]? = some (l[0]'hpos) := List.getElem?_eq_getElem hpos
   obtain ⟨_, _, _, _, hc0, _⟩ := hp 0 _ h0
   have hb := World.block_lt_of_cell? W _ hc0
   rw [block_of_add] at hb
   refine ⟨a, rfl, hb, fun k x hx => ?_⟩
   obtain ⟨A', c', k1, k2, k3, k4, k5, k6, k7, _⟩ := hp k x hx
   exact ⟨A', c', k1, k2, k3, k4, k5, k6, k7⟩
  ·obtain ⟨A', c', k1, k2, k3, k4, k5, k6, k7, k8, k9, k10⟩ := hp k x hx
   have hk := hone k (by rw [← hl]; exact (List.getElem?_eq_some_iff.1 hx).1)
   exact ⟨by omega, by omega, by omega, fun j y hy => by have := k10.1 y (List.mem_of_getElem? hy); omega, k8⟩
  ·intro ad had k x A2 c2 hx hcell hA2
   injection had with had
   subst had
   obtain ⟨A', c', k1, k2, k3, k4, k5, k6, k7, k8, k9, k10⟩ := hp k x hx
   rw [k7] at hcell
   injection hcell with hcell
   injection hcell with q1 _ q3
   rw [← q3]
   exact k10.2 (by rw [q1]; exact hA2)
end
section
open Go.RowKit Go.ChangeShapes Go.WideShapes Go.Deep
theorem wf_lit {n : Int} (h : (Lit.int .i64 n).wf = true) : wfI n := by
 simp [Lit.wf, IntKind.min, IntKind.max, IntKind.signed, IntKind.bits] at h
 exact ⟨by omega, by omega⟩
theorem open_ops {W : World} {H : Type} {enc : TypeId × Value → H} {v : Value} {d : DataW H} {p : List MemPlace} (hok : ∃ a n c, v = .slice a n c) (h : DataW.Trod enc Tryz.prog W 0 (fun _ => true) true 22 v d p) (hbulk : Rows.uptoBulk d ≤ 1048576) :
  ∃ (A : Option Addr) (c : Nat) (l : List OpD), v = .slice A l.length c ∧ OpsAt W W.heap.size A l ∧ SmallOps l ∧ True := by
 obtain ⟨va, vn, vc, rfl⟩ := hok
 obtain ⟨fuel, h⟩ := h
 rcases slice_structs Tryz.underlying22 Tryz.underlying36 (by kernel_rfl) (by kernel_rfl) h with ⟨e, e2⟩ | ⟨a, len, cap, D, rest, e, hlc, hcm, e2, hf⟩
 ·injection e with e _
  injection e with e1 e2' e3
  subst e1; subst e2'; subst e3
  exact ⟨none, 0, [], rfl, fun h => absurd h (by simp), ⟨by simp, by simp⟩, trivial⟩
 ·injection e with e _
  injection e with e1 e2' e3
  subst e1
  have e2'' := e2'.symm
  have e3'' := e3.symm
  subst e2''; subst e3''
  have e2 : d = .slice ((List.range len).map D) rest := e2
  subst e2
  simp only [Rows.uptoBulk] at hbulk
  have hone : ∀ k, k < len → Rows.uptoBulk (D k) ≤ 1048576 := fun k hk => by have := bulkAll_range D len k hk; omega
  obtain ⟨l, hl, hp⟩ := list_of (P := fun i (x : OpD) => (∃ (A' : Option Addr) (c' : Nat), ItemsAt W W.heap.size A' x.l ∧ x.l.length ≤ c' ∧ OpCells W a i x A' c') ∧ SmallOp x ∧ x.l.length ≤ 1048576 ∧ 1 ≤ Rows.uptoBulk (D i)) len (fun i hi => by
   obtain ⟨ys, n, hD, hyl, hj⟩ := hf i hi
   obtain ⟨v0, y0, hc0, hy0, ht0⟩ := hj 0 _ rfl
   obtain ⟨v1, y1, hc1, hy1, ht1⟩ := hj 1 _ rfl
   obtain ⟨v2, y2, hc2, hy2, ht2⟩ := hj 2 _ rfl
   obtain ⟨v3, y3, hc3, hy3, ht3⟩ := hj 3 _ rfl
   obtain ⟨v4, y4, hc4, hy4, ht4⟩ := hj 4 _ rfl
   obtain ⟨v5, y5, hc5, hy5, ht5⟩ := hj 5 _ rfl
   obtain ⟨v6, y6, hc6, hy6, ht6⟩ := hj 6 _ rfl
   obtain ⟨n0, e0, rfl, w0⟩ := DataW.trod_int Tryz.underlying3 ht0
   obtain ⟨n1, e1, rfl, w1⟩ := DataW.trod_int Tryz.underlying3 ht1
   obtain ⟨n2, e2, rfl, w2⟩ := DataW.trod_int Tryz.underlying3 ht2
   obtain ⟨n3, e3, rfl, w3⟩ := DataW.trod_int Tryz.underlying3 ht3
   obtain ⟨s4, e4, rfl, _⟩ := DataW.trod_string Tryz.underlying9 ht4
   obtain ⟨s5, e5, rfl, _⟩ := DataW.trod_string Tryz.underlying9 ht5
   have hb := hone i hi
   rw [hD] at hb
   have hbk : s4.size ≤ 1048576 ∧ s5.size ≤ 1048576 ∧ Rows.uptoBulk y6.1 ≤ 1048576 := by
    match ys, hyl, hy0, hy1, hy2, hy3, hy4, hy5, hy6 with
    | [z0, z1, z2, z3, z4, z5, z6], _, hy0, hy1, hy2, hy3, hy4, hy5, hy6 =>
     simp at hy0 hy1 hy2 hy3 hy4 hy5 hy6
     subst hy0; subst hy1; subst hy2; subst hy3; subst hy4; subst hy5; subst hy6
     simp [Rows.uptoBulk, Rows.uptoBulkAll] at hb
     have h4 : s4.data.toList.length = s4.size := by rw [Array.length_toList]; rfl
     have h5 : s5.data.toList.length = s5.size := by rw [Array.length_toList]; rfl
     omega
   have hsl : ∃ a n c, v6 = .slice a n c := by
    rcases slice_structs Tryz.underlying34 Tryz.underlying62 (by kernel_rfl) (by kernel_rfl) ht6 with ⟨e, _⟩ | ⟨a, len, cap, _, _, e, _⟩
    ·injection e with e _; exact ⟨_, _, _, e⟩
    ·injection e with e _; exact ⟨_, _, _, e⟩
   obtain ⟨va6, vn6, vc6, rfl⟩ := hsl
   obtain ⟨A', c', la, e6, hat, hsm, hln, _, _⟩ := open_items (v := .slice va6 vn6 vc6) (d := y6.1) (p := y6.2) ⟨_, _, _, rfl⟩ ⟨n, ht6⟩ hbk.2.2
   have hlc' : la.length ≤ c' := by
    rcases slice_structs Tryz.underlying34 Tryz.underlying62 (by kernel_rfl) (by kernel_rfl) ht6 with ⟨e, _⟩ | ⟨a, len, cap, _, _, e, h1, _⟩
    ·injection e with e _; rw [e6] at e; injection e with _ e _; omega
    ·injection e with e _; rw [e6] at e; injection e with _ e e'; omega
   injection e0 with e0 _; subst e0
   injection e1 with e1 _; subst e1
   injection e2 with e2 _; subst e2
   injection e3 with e3 _; subst e3
   injection e4 with e4 _; subst e4
   injection e5 with e5 _; subst e5
   rw [e6] at hc6
   rw [add_more _ _ _ (by decide)] at hc1 hc2 hc3 hc4 hc5 hc6
   rw [Nat.add_zero] at hc0
   have h4 : s4.data.toList.length = s4.size := by rw [Array.length_toList]; rfl
   have h5 : s5.data.toList.length = s5.size := by rw [Array.length_toList]; rfl
   refine ⟨⟨n0, n1, n2, n3, s4.data.toList, s5.data.toList, la⟩, ⟨A', c', hat, hlc', hc0, hc1, hc2, hc3, hc4, hc5, hc6⟩, ⟨⟨wf_lit w0, wf_lit w1, wf_lit w2, wf_lit w3⟩, ?_, ?_, hsm.1⟩, hln, ?_⟩
   ·show s4.data.toList.length ≤ 1000000000; omega
   ·show s5.data.toList.length ≤ 1000000000; omega
   ·rw [hD]; simp [Rows.uptoBulk])
  have hcount := bulkAll_sum (fun _ : OpD => 1) D l (fun i y hy => (hp i y hy).2.2.2)
  have e := sum_ones l
  rw [hl] at hcount
  refine ⟨some a, cap, l, by rw [hl], ?_, ⟨by omega, fun o ho => ?_⟩, trivial⟩
  ·intro hpos
   have h0 : l[0]? = some (l[0]'hpos) := List.getElem?_eq_getElem hpos
   obtain ⟨A', c', _, _, hc0⟩ := (hp 0 _ h0).1
   have hb := World.block_lt_of_cell? W _ hc0.1
   rw [block_of_add] at hb
   exact ⟨a, rfl, hb, fun k x hx => (hp k x hx).1⟩
  ·obtain ⟨k, hk⟩ := List.mem_iff_getElem?.1 ho
   exact ⟨(hp k o hk).2.1, (hp k o hk).2.2.1⟩
end
end Go.Proofs.YtmkgajdgnmolkaaGreat
