/-
  The laws ScribeNormal and ScribeOnce.
-/
import Derived.Test.YtiopijjlkmpikaaAlive5
import Derived.Test.YtiopijjlkmpikaaIdemPlain
namespace Go.Proofs.Ytiopijjlkmpikaa
open Go.RowKit

theorem NormPost.items {w w' : World} {N : List ItemD} {e : Ending} (h : NormPost w N e w') : ∃ A c, e = .returned (.slice A N.length c) ∧ ItemsAt w' w'.heap.size A N ∧ Below w.heap.size w w' := by
  obtain ⟨⟨A, c, S, he, ho, ha, hm⟩, hb⟩ := h
  refine ⟨A, c, ?_, ?_, hb⟩
  · rw [he, ← hm, List.length_map]
  · have := ItemsOwn.at ho (fun s hs => ⟨(ha s hs).at, (ha s hs).cap⟩)
    rw [hm] at this; exact this
theorem RNormPost.items {w w' : World} {N : List ItemD} {e : Ending} (h : RNormPost w N e w') : ∃ A c, e = .returned (.slice A N.length c) ∧ ItemsAt w' w'.heap.size A N ∧ Below w.heap.size w w' := by
  obtain ⟨⟨A, c, S, he, ho, ha, hm⟩, hb⟩ := h
  refine ⟨A, c, ?_, ?_, hb⟩
  · rw [he, ← hm, List.length_map]
  · have := ItemsOwn.at ho (fun s hs => ⟨((ha s hs).1.below hb).more hb.size, (ha s hs).2⟩)
    rw [hm] at this; exact this
theorem ItemsAt.later {w w' : World} {A : Option Addr} {l : List ItemD} (h : ItemsAt w w.heap.size A l) (hb : Below w.heap.size w w') : ItemsAt w' w'.heap.size A l := (h.below hb).more hb.size

set_option maxRecDepth 100000 in
set_option maxHeartbeats 2000000 in
theorem walk_ScribeNormal (l : List ItemD) (A : Option Addr) (c : Nat) (m : List ItemD) (B : Option Addr) (d : Nat) (w : World) (hA : ItemsAt w w.heap.size A l) (hs : SmallDoc l) (hB : ItemsAt w w.heap.size B m) (hm : SmallDoc m) :
    Calls Try.prog 5 #[.slice A l.length c, .slice B m.length d] w (Ret w (.bool true)) := by
  have HA := Lib.hid hA
  have HB := Lib.hid hB
  obtain ⟨N, hN⟩ : ∃ N, Hid (normalL l = N) := ⟨_, rfl⟩
  have hNs : Hid (SmallItems N) := by show SmallItems N; rw [← hN.out]; exact normal_small hs
  obtain ⟨R, hR⟩ : ∃ R, Hid (decide (l = m) = R) := ⟨_, rfl⟩
  have HS := Lib.hid hs
  have HM := Lib.hid hm
  clear hA hB hs hm
  go_enter Try.func5, Try.ntmps5
  go_wp2_with fail
  refine (Normal_any l A c w HA.out HS.out N hN).mono ?_
  intro e w2 hpost
  obtain ⟨A2, c2, rfl, hI2, hb2⟩ := hpost.items
  have HI2 := Lib.hid hI2
  clear hpost hI2
  go_wp2_with fail
  refine (alive5_any w2).mono ?_
  rintro e w3 ⟨rfl, hb3⟩
  have hz2 := hb2.size
  have hz3 := hb3.size
  have hw3 : Below w.heap.size w w3 := hb2.trans (hb3.mono hz2)
  go_wp2_with fail
  refine (RNormal_any l A c w3 (HA.out.later hw3) HS.out N hN).mono ?_
  intro e w4 hpost
  obtain ⟨A4, c4, rfl, hI4, hb4⟩ := hpost.items
  have HI4 := Lib.hid hI4
  have hz4 := hb4.size
  have hw4 : Below w.heap.size w w4 := hw3.trans (hb4.mono (by omega))
  clear hpost hI4
  go_wp2_with fail
  refine (RSame_any N N A2 A4 c2 c4 w4 ((HI2.out.later hb3).later hb4) HI4.out hNs.out hNs.out true (by show _ = _; simp)).mono ?_
  rintro e w5 ⟨rfl, hb5⟩
  have hz5 := hb5.size
  have hw5 : Below w.heap.size w w5 := hw4.trans (hb5.mono (by omega))
  go_wp2_with fail
  refine (Same_any l m A B c d w5 (HA.out.later hw5) (HB.out.later hw5) HS.out.1 HM.out.1 R hR).mono ?_
  rintro e w6 ⟨rfl, hb6⟩
  have hz6 := hb6.size
  have hw6 : Below w.heap.size w w6 := hw5.trans (hb6.mono (by omega))
  go_wp2_with fail
  refine (RSame_any l m A B c d w6 (HA.out.later hw6) (HB.out.later hw6) HS.out.1 HM.out.1 R hR).mono ?_
  rintro e w7 ⟨rfl, hb7⟩
  have hz7 := hb7.size
  have hw7 : Below w.heap.size w w7 := hw6.trans (hb7.mono (by omega))
  go_wp2_with fail
  refine (Same_any l l A A c c w7 (HA.out.later hw7) (HA.out.later hw7) HS.out.1 HS.out.1 true (by show _ = _; simp)).mono ?_
  rintro e w8 ⟨rfl, hb8⟩
  go_wp2_with fail
  go_ret
  exact ⟨rfl, hw7.trans (hb8.mono (by omega))⟩

set_option maxRecDepth 100000 in
set_option maxHeartbeats 2000000 in
theorem walk_ScribeOnce (l : List ItemD) (A : Option Addr) (c : Nat) (w : World) (hA : ItemsAt w w.heap.size A l) (hs : SmallDoc l) :
    Calls Try.prog 6 #[.slice A l.length c] w (Ret w (.bool true)) := by
  have HA := Lib.hid hA
  obtain ⟨N, hN⟩ : ∃ N, Hid (normalL l = N) := ⟨_, rfl⟩
  have hNs : Hid (SmallDoc N) := by show SmallDoc N; rw [← hN.out]; exact normal_smallDoc hs
  have hNN : Hid (normalL N = N) := by show _ = _; rw [← hN.out]; exact normal_idem l
  obtain ⟨s, e, hV⟩ : ∃ s e, Hid (printL l = (s, e)) := ⟨_, _, rfl⟩
  obtain ⟨t, f, hW⟩ : ∃ t f, Hid (printL N = (t, f)) := ⟨_, _, rfl⟩
  have hfin : e = 0 → f = 0 → s = t := by
    intro he hf
    obtain ⟨v1, v2⟩ := printL_ok hV.out
    obtain ⟨u1, u2⟩ := printL_ok hW.out
    have c1 : (checkL l).2 = 0 := Decidable.byContradiction fun h => by have := (v2 h).2; omega
    have c2 : (checkL N).2 = 0 := Decidable.byContradiction fun h => by have := (u2 h).2; omega
    rw [(v1 c1).1, (u1 c2).1, hNN.out, hN.out]
  have HF := Lib.hid hfin
  have HS := Lib.hid hs
  clear hA hs hfin
  go_enter Try.func6, Try.ntmps6
  go_wp2_with fail
  refine (Normal_any l A c w HA.out HS.out N hN).mono ?_
  intro e2 w2 hpost
  obtain ⟨A2, c2, rfl, hI2, hb2⟩ := hpost.items
  have HI2 := Lib.hid hI2
  have hz2 := hb2.size
  clear hpost hI2
  go_wp2_with fail
  refine (Normal_any N A2 c2 w2 HI2.out hNs.out N hNN).mono ?_
  intro e3 w3 hpost
  obtain ⟨A3, c3, rfl, hI3, hb3⟩ := hpost.items
  have HI3 := Lib.hid hI3
  have hz3 := hb3.size
  clear hpost hI3
  go_wp2_with fail
  refine (Same_any N N A3 A2 c3 c2 w3 HI3.out (HI2.out.later hb3) hNs.out.1 hNs.out.1 true (by show _ = _; simp)).mono ?_
  rintro e4 w4 ⟨rfl, hb4⟩
  have hz4 := hb4.size
  have hw4 : Below w.heap.size w w4 := hb2.trans ((hb3.mono hz2).trans (hb4.mono (by omega)))
  go_wp2_with fail
  refine (Print_any l A c w4 (HA.out.later hw4) HS.out s e hV).mono ?_
  rintro e5 w5 ⟨rfl, hb5⟩
  have hz5 := hb5.size
  have hw5 : Below w.heap.size w w5 := hw4.trans (hb5.mono (by omega))
  go_wp2_with fail
  refine (Print_any N A2 c2 w5 (((HI2.out.later hb3).later hb4).later hb5) hNs.out t f hW).mono ?_
  rintro e6 w6 ⟨rfl, hb6⟩
  have hz6 := hb6.size
  have hw6 : Below w.heap.size w w6 := hw5.trans (hb6.mono (by omega))
  go_wp2_with fail
  refine (alive5_any w6).mono ?_
  rintro e7 w7 ⟨rfl, hb7⟩
  have hw7 : Below w.heap.size w w7 := hw6.trans (hb7.mono (by omega))
  by_cases he : e = 0
  · by_cases hf : f = 0
    · have hst := HF.out he hf
      subst he; subst hf; subst hst
      go_wp2_with fail
      go_ret
      exact ⟨rfl, hw7⟩
    · have d1 : (f != 0) = true := by simp [hf]
      subst he
      clear hf
      go_wp2_with fail
      go_ret
      exact ⟨rfl, hw7⟩
  · have d1 : (e != 0) = true := by simp [he]
    clear he
    go_wp2_with fail
    go_ret
    exact ⟨rfl, hw7⟩
end Go.Proofs.Ytiopijjlkmpikaa
