/-
  The walks of scribe.Same, and of what it calls.
-/
import Derived.Test.YtiopijjlkmpikaaSameR
namespace Go.Proofs.Ytiopijjlkmpikaa
open Go.RowKit

set_option maxRecDepth 100000 in
set_option maxHeartbeats 4000000 in
theorem Same1_any (x y : ItemD) (A B : Option Addr) (c d : Nat) (w : World) (hA : AttrsAt w w.heap.size A x.attrs) (hB : AttrsAt w w.heap.size B y.attrs) (hx : x.attrs.length ≤ 1000000000) (hy : y.attrs.length ≤ 1000000000) (R : Bool) (hR : Hid (decide (x = y) = R)) :
    Calls Try.prog 28 #[.agg (itemVal x A c), .agg (itemVal y B d)] w (Ret w (.bool R)) := by
  have HA := Lib.hid hA
  have HB := Lib.hid hB
  clear hA hB
  have hin := hR.out
  have hd : decide (x = y) = (decide (x.level = y.level) && decide (x.kind = y.kind) && decide (x.name = y.name) && decide (x.text = y.text) && decide (x.attrs = y.attrs)) := by
    rw [Bool.eq_iff_iff]
    simp only [decide_eq_true_eq, Bool.and_eq_true]
    rw [item_eq]
    constructor
    · rintro ⟨h1, h2, h3, h4, h5⟩; exact ⟨⟨⟨⟨h1, h2⟩, h3⟩, h4⟩, h5⟩
    · rintro ⟨⟨⟨⟨h1, h2⟩, h3⟩, h4⟩, h5⟩; exact ⟨h1, h2, h3, h4, h5⟩
  rw [hd] at hin
  clear hd hR
  unfold itemVal strV
  by_cases e1 : x.level = y.level
  · have f1 : (x.level == y.level) = true := by simp [e1]
    by_cases e2 : x.kind = y.kind
    · have f2 : (x.kind == y.kind) = true := by simp [e2]
      by_cases e3 : x.name = y.name
      · have f3 : (x.name == y.name) = true := by simp [e3]
        by_cases e4 : x.text = y.text
        · have f4 : (x.text == y.text) = true := by simp [e4]
          simp only [e1, e2, e3, e4, decide_true, Bool.true_and] at hin
          have hq : Hid (decide (x.attrs = y.attrs) = R) := hin
          clear hin e1 e2 e3 e4
          go_enter Try.func28, Try.ntmps28
          go_wp2_with fail
          refine (EqualA_any x.attrs y.attrs A B c d _ ((HA.out.below (((Below.refl _ w).alloc (Nat.le_refl _) _).alloc (by simp) _)).more (by simp; omega)) ((HB.out.below (((Below.refl _ w).alloc (Nat.le_refl _) _).alloc (by simp) _)).more (by simp; omega)) hx hy R hq).mono ?_; rintro e w3 ⟨rfl, hb3⟩
          go_wp2_with fail
          go_ret
          exact ⟨rfl, (((Below.refl _ w).alloc (Nat.le_refl _) _).alloc (by simp) _).trans (hb3.mono (by simp; omega))⟩
        · have f4 : (x.text == y.text) = false := by simp [e4]
          have hv : Hid (R = false) := by show _ = _; rw [← hin]; simp [e4]
          clear hin e1 e2 e3 e4
          go_enter Try.func28, Try.ntmps28
          go_wp2_with fail
          go_ret
          exact ⟨by rw [hv.out]; rfl, (((Below.refl _ w).alloc (Nat.le_refl _) _).alloc (by simp) _)⟩
      · have f3 : (x.name == y.name) = false := by simp [e3]
        have hv : Hid (R = false) := by show _ = _; rw [← hin]; simp [e3]
        clear hin e1 e2 e3
        go_enter Try.func28, Try.ntmps28
        go_wp2_with fail
        go_ret
        exact ⟨by rw [hv.out]; rfl, (((Below.refl _ w).alloc (Nat.le_refl _) _).alloc (by simp) _)⟩
    · have f2 : (x.kind == y.kind) = false := by simp [e2]
      have hv : Hid (R = false) := by show _ = _; rw [← hin]; simp [e2]
      clear hin e1 e2
      go_enter Try.func28, Try.ntmps28
      go_wp2_with fail
      go_ret
      exact ⟨by rw [hv.out]; rfl, (((Below.refl _ w).alloc (Nat.le_refl _) _).alloc (by simp) _)⟩
  · have f1 : (x.level == y.level) = false := by simp [e1]
    have hv : Hid (R = false) := by show _ = _; rw [← hin]; simp [e1]
    clear hin e1
    go_enter Try.func28, Try.ntmps28
    go_wp2_with fail
    go_ret
    exact ⟨by rw [hv.out]; rfl, (((Below.refl _ w).alloc (Nat.le_refl _) _).alloc (by simp) _)⟩

theorem cell_lift {w w' : World} {B : Nat} (hb : Below B w w') {bl : Nat} (h : bl < B) : ∀ j, w'.cell? ⟨bl, j, none⟩ = w.cell? ⟨bl, j, none⟩ := fun _ => hb.cell h

set_option maxRecDepth 100000 in
set_option maxHeartbeats 4000000 in
theorem EqualF_any (l m : List ItemD) (A B : Option Addr) (c d : Nat) (w : World) (hA : ItemsAt w w.heap.size A l) (hB : ItemsAt w w.heap.size B m) (hl : SmallItems l) (hm : SmallItems m) (R : Bool) (hR : Hid (decide (l = m) = R)) :
    Calls Try.prog 27 #[.slice A l.length c, .slice B m.length d, .func (.func 28) #[] #[]] w (Ret w (.bool R)) := by
  have HA := Lib.hid hA
  have HB := Lib.hid hB
  obtain ⟨hl1, hl2⟩ := hl
  obtain ⟨hm1, hm2⟩ := hm
  have HL := Lib.hid hl2
  have HM := Lib.hid hm2
  clear hA hB hl2 hm2
  by_cases hne : l.length = m.length
  · have hR0 : Hid (decide (l.drop 0 = m.drop 0) = R) := hR
    have t0 : ((l.length : Int) != m.length) = false := by simp [hne]
    have HNE := Lib.hid hne
    clear hne hR
    go_enter Try.func27, Try.ntmps27
    go_wp2_with fail
    go_loopw [17] (fun i wr => ∃ (k : Nat), k ≤ l.length ∧ i = .int .i64 k ∧ Hid (decide (l.drop k = m.drop k) = R) ∧ Below w.heap.size w wr) (fun i _ => l.length - (intOf i).toNat)
    case atStart => exact ⟨0, Nat.zero_le _, rfl, hR0, Below.refl _ _⟩
    case round =>
      obtain ⟨k, hk, rfl, hin, hbel⟩ := hrel
      have hzr := hbel.size
      by_cases hlt : k < l.length
      · have hlm : k < m.length := by have := HNE.out; omega
        obtain ⟨x, hx⟩ : ∃ x, Hid (l[k]? = some x) := ⟨l[k], List.getElem?_eq_getElem _⟩
        obtain ⟨y, hy⟩ : ∃ y, Hid (m[k]? = some y) := ⟨m[k], List.getElem?_eq_getElem _⟩
        have hAr := HA.out.below hbel
        have hBr := HB.out.below hbel
        obtain ⟨ad, hAd, _, _⟩ := hAr (by omega)
        obtain ⟨bd, hBd, _, _⟩ := hBr (by omega)
        subst hAd; subst hBd
        obtain ⟨hab, A', c', hat, _, h0, h1, h2, h3, h4⟩ := hAr.item hx.out
        obtain ⟨hbb, B', d', hbt, _, g0, g1, g2, g3, g4⟩ := hBr.item hy.out
        unfold strV at h2 h3 g2 g3
        have hab1 : (ad.add (k * 5)).block < wr.heap.size := by rw [block_of_add]; omega
        have hbb1 : (bd.add (k * 5)).block < wr.heap.size := by rw [block_of_add]; omega
        have hbb2 : (bd.add (k * 5)).block < (wr.alloc (.cells #[.int .i64 x.level, .int .i64 x.kind, .string ⟨x.name.toArray⟩, .string ⟨x.text.toArray⟩, .slice A' x.attrs.length c'] 30)).heap.size := by simp; omega
        have kb := cell_lift (w' := wr.alloc (.cells #[.int .i64 x.level, .int .i64 x.kind, .string ⟨x.name.toArray⟩, .string ⟨x.text.toArray⟩, .slice A' x.attrs.length c'] 30)) ((Below.refl _ wr).alloc (Nat.le_refl _) _) hbb1
        have HAT := Lib.hid (hat.more hzr)
        have HBT := Lib.hid (hbt.more hzr)
        clear hat hbt hAr hBr
        have hsx := (HL.out k x hx.out).2.2.1
        have hsy := (HM.out k y hy.out).2.2.1
        have hlt' : (k : Int) < l.length := by omega
        have hlm' : (k : Int) < m.length := by omega
        have hin' := hin.out
        have hde := drop_eq_cons hx.out hy.out
        have HDE := Lib.hid hde
        clear hde
        obtain ⟨q, hq⟩ : ∃ q, Hid (decide (x = y) = q) := ⟨_, rfl⟩
        clear hin
        have hz1 : ∀ (o o' : Obj), Below wr.heap.size wr ((wr.alloc o).alloc o') := fun o o' => ((Below.refl _ wr).alloc (Nat.le_refl _) _).alloc (by simp) _
        have HZ := Lib.hid hz1
        clear hz1
        cases q with
        | true =>
          have HIN : Hid (decide (l.drop (k + 1) = m.drop (k + 1)) = R) := by
            show _ = _
            have e5 : x = y := of_decide_eq_true hq.out
            rw [← hin']
            exact decide_eq_decide.2 ⟨fun h => HDE.out.2 ⟨e5, h⟩, fun h => (HDE.out.1 h).2⟩
          clear hin'
          go_wp2_with fail
          refine (Same1_any x y A' B' c' d' _ ((HAT.out.below (HZ.out _ _)).more (HZ.out _ _).size) ((HBT.out.below (HZ.out _ _)).more (HZ.out _ _).size) hsx hsy true hq).mono ?_; rintro e w3 ⟨rfl, hb3⟩
          have hb3' : Below w.heap.size w w3 := hbel.trans (((HZ.out _ _).mono hzr).trans (hb3.mono (by simp; omega)))
          clear h0 h1 h2 h3 h4 g0 g1 g2 g3 g4 kb
          go_wp2_with fail
          go_roundw
          case rel => exact ⟨k + 1, by omega, by go_num, HIN, hb3'⟩
          case measure => simp [intOf]; omega
        | false =>
          have HIN : Hid (R = false) := by
            show _ = _
            have e5 : x ≠ y := of_decide_eq_false hq.out
            rw [← hin']
            simp only [decide_eq_false_iff_not]
            intro h
            exact e5 (HDE.out.1 h).1
          clear hin'
          go_wp2_with fail
          refine (Same1_any x y A' B' c' d' _ ((HAT.out.below (HZ.out _ _)).more (HZ.out _ _).size) ((HBT.out.below (HZ.out _ _)).more (HZ.out _ _).size) hsx hsy false hq).mono ?_; rintro e w3 ⟨rfl, hb3⟩
          have hb3' : Below w.heap.size w w3 := hbel.trans (((HZ.out _ _).mono hzr).trans (hb3.mono (by simp; omega)))
          clear h0 h1 h2 h3 h4 g0 g1 g2 g3 g4 kb
          go_wp2_with fail
          go_ret
          exact ⟨by rw [HIN.out]; rfl, hb3'⟩
      · have HIN : Hid (R = true) := by
          show _ = _
          have := HNE.out
          rw [← hin.out, List.drop_eq_nil_of_le (by omega), List.drop_eq_nil_of_le (by omega)]; rfl
        have hk' : k = l.length := by omega
        subst hk'
        clear hin hlt hk
        go_wp2_with fail
        go_ret
        exact ⟨by rw [HIN.out]; rfl, hbel⟩
  · have hv : Hid (R = false) := by
      show _ = _
      rw [← hR.out]
      simp only [decide_eq_false_iff_not]
      intro h; rw [h] at hne; exact hne rfl
    have t0 : ((l.length : Int) != m.length) = true := by simp; omega
    clear hne hR
    go_enter Try.func27, Try.ntmps27
    go_wp2_with fail
    go_ret
    exact ⟨by rw [hv.out]; rfl, Below.refl _ _⟩

set_option maxRecDepth 100000 in
theorem Same_any (l m : List ItemD) (A B : Option Addr) (c d : Nat) (w : World) (hA : ItemsAt w w.heap.size A l) (hB : ItemsAt w w.heap.size B m) (hl : SmallItems l) (hm : SmallItems m) (R : Bool) (hR : Hid (decide (l = m) = R)) :
    Calls Try.prog 14 #[.slice A l.length c, .slice B m.length d] w (Ret w (.bool R)) := by
  go_enter Try.func14, Try.ntmps14
  go_wp2_with fail
  refine (EqualF_any l m A B c d w hA hB hl hm R hR).mono ?_; rintro e w3 ⟨rfl, hb3⟩
  go_wp2_with fail
  go_ret
  exact ⟨rfl, hb3⟩
end Go.Proofs.Ytiopijjlkmpikaa
