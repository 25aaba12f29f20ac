/-
  The law ScribeEqual.
-/
import Derived.Test.YtiopijjlkmpikaaLaw5
import Derived.Test.YtiopijjlkmpikaaInjPlain
namespace Go.Proofs.Ytiopijjlkmpikaa
open Go.RowKit

set_option maxRecDepth 100000 in
set_option maxHeartbeats 2000000 in
theorem walk_ScribeEqual (l : List ItemD) (A : Option Addr) (c : Nat) (m : List ItemD) (B : Option Addr) (d : Nat) (w : World) (hA : ItemsAt w w.heap.size A l) (hs : SmallDoc l) (hB : ItemsAt w w.heap.size B m) (hm : SmallDoc m) :
    Calls Try.prog 7 #[.slice A l.length c, .slice B m.length d] w (Ret w (.bool true)) := by
  have HA := Lib.hid hA
  have HB := Lib.hid hB
  obtain ⟨X, hX⟩ : ∃ X, Hid (normalL l = X) := ⟨_, rfl⟩
  obtain ⟨Y, hY⟩ : ∃ Y, Hid (normalL m = Y) := ⟨_, rfl⟩
  have hXs : Hid (SmallDoc X) := by show SmallDoc X; rw [← hX.out]; exact normal_smallDoc hs
  have hYs : Hid (SmallDoc Y) := by show SmallDoc Y; rw [← hY.out]; exact normal_smallDoc hm
  have hXn : Hid (NF X) := by show NF X; rw [← hX.out]; exact normal_nf l
  have hYn : Hid (NF Y) := by show NF Y; rw [← hY.out]; exact normal_nf m
  obtain ⟨s, e, hV⟩ : ∃ s e, Hid (printL X = (s, e)) := ⟨_, _, rfl⟩
  obtain ⟨t, f, hW⟩ : ∃ t f, Hid (printL Y = (t, f)) := ⟨_, _, rfl⟩
  obtain ⟨R, hR⟩ : ∃ R, Hid (decide (X = Y) = R) := ⟨_, rfl⟩
  have hR' : Hid (decide (Y = X) = R) := by
    show _ = _
    rw [← hR.out]
    exact decide_eq_decide.2 ⟨fun h => h.symm, fun h => h.symm⟩
  have hfin : e = 0 → f = 0 → (s == t) = R := by
    intro he hf
    obtain ⟨v1, v2⟩ := printL_ok hV.out
    obtain ⟨u1, u2⟩ := printL_ok hW.out
    have c1 : (checkL X).2 = 0 := Decidable.byContradiction fun h => by have := (v2 h).2; omega
    have c2 : (checkL Y).2 = 0 := Decidable.byContradiction fun h => by have := (u2 h).2; omega
    rw [← hR.out, (v1 c1).1, (u1 c2).1]
    cases hd : decide (X = Y) with
    | true =>
      have hXY := of_decide_eq_true hd
      rw [hXY]; simp
    | false =>
      have hXY := of_decide_eq_false hd
      simp only [beq_eq_false_iff_ne]
      exact fun h => hXY (print_inj (checkL_ok c1) (checkL_ok c2) hXn.out hYn.out h)
  have HF := Lib.hid hfin
  have HS := Lib.hid hs
  have HM := Lib.hid hm
  clear hA hB hs hm hfin
  go_enter Try.func7, Try.ntmps7
  go_wp2_with fail
  refine (Normal_any l A c w HA.out HS.out X hX).mono ?_
  intro e2 w2 hpost
  obtain ⟨A2, c2, rfl, hI2, hb2⟩ := hpost.items
  have HI2 := Lib.hid hI2
  have hz2 := hb2.size
  clear hpost hI2
  go_wp2_with fail
  refine (Normal_any m B d w2 (HB.out.later hb2) HM.out Y hY).mono ?_
  intro e3 w3 hpost
  obtain ⟨A3, c3, rfl, hI3, hb3⟩ := hpost.items
  have HI3 := Lib.hid hI3
  have hz3 := hb3.size
  have hw3 : Below w.heap.size w w3 := hb2.trans (hb3.mono hz2)
  clear hpost hI3
  go_wp2_with fail
  refine (Print_any X A2 c2 w3 (HI2.out.later hb3) hXs.out s e hV).mono ?_
  rintro e4 w4 ⟨rfl, hb4⟩
  have hz4 := hb4.size
  have hw4 : Below w.heap.size w w4 := hw3.trans (hb4.mono (by omega))
  go_wp2_with fail
  refine (Print_any Y A3 c3 w4 (HI3.out.later hb4) hYs.out t f hW).mono ?_
  rintro e5 w5 ⟨rfl, hb5⟩
  have hz5 := hb5.size
  have hw5 : Below w.heap.size w w5 := hw4.trans (hb5.mono (by omega))
  have hX5 : Hid (ItemsAt w5 w5.heap.size A2 X) := ((HI2.out.later hb3).later hb4).later hb5
  have hY5 : Hid (ItemsAt w5 w5.heap.size A3 Y) := (HI3.out.later hb4).later hb5
  by_cases he : e = 0
  · by_cases hf : f = 0
    · have hst := HF.out he hf
      subst he; subst hf
      have HST := Lib.hid hst
      clear hst
      go_wp2_with fail
      refine (alive5_any w5).mono ?_
      rintro e6 w6 ⟨rfl, hb6⟩
      have hz6 := hb6.size
      have hw6 : Below w.heap.size w w6 := hw5.trans (hb6.mono (by omega))
      go_wp2_with fail
      refine (Same_any X Y A2 A3 c2 c3 w6 (hX5.out.later hb6) (hY5.out.later hb6) hXs.out.1 hYs.out.1 R hR).mono ?_
      rintro e7 w7 ⟨rfl, hb7⟩
      have hz7 := hb7.size
      have hw7 : Below w.heap.size w w7 := hw6.trans (hb7.mono (by omega))
      have hst := HST.out
      go_wp2_with fail
      clear hst
      refine (Same_any X Y A2 A3 c2 c3 w7 ((hX5.out.later hb6).later hb7) ((hY5.out.later hb6).later hb7) hXs.out.1 hYs.out.1 R hR).mono ?_
      rintro e8 w8 ⟨rfl, hb8⟩
      have hz8 := hb8.size
      have hw8 : Below w.heap.size w w8 := hw7.trans (hb8.mono (by omega))
      go_wp2_with fail
      refine (Same_any Y X A3 A2 c3 c2 w8 (((hY5.out.later hb6).later hb7).later hb8) (((hX5.out.later hb6).later hb7).later hb8) hYs.out.1 hXs.out.1 R hR').mono ?_
      rintro e9 w9 ⟨rfl, hb9⟩
      go_wp2_with fail
      go_ret
      exact ⟨rfl, hw8.trans (hb9.mono (by omega))⟩
    · have d1 : (f != 0) = true := by simp [hf]
      subst he
      clear hf
      go_wp2_with fail
      refine (alive5_any w5).mono ?_
      rintro e6 w6 ⟨rfl, hb6⟩
      go_wp2_with fail
      go_ret
      exact ⟨rfl, hw5.trans (hb6.mono (by omega))⟩
  · have d1 : (e != 0) = true := by simp [he]
    clear he
    go_wp2_with fail
    refine (alive5_any w5).mono ?_
    rintro e6 w6 ⟨rfl, hb6⟩
    go_wp2_with fail
    go_ret
    exact ⟨rfl, hw5.trans (hb6.mono (by omega))⟩
end Go.Proofs.Ytiopijjlkmpikaa
