/-
  The walk of scribe.Print.
-/
import Derived.Test.YtiopijjlkmpikaaPut
import Derived.Test.YtiopijjlkmpikaaFitPlain
import Derived.Test.YtiopijjlkmpikaaSameP
import Derived.Laws.EntriesVeiled
namespace Go.Proofs.Ytiopijjlkmpikaa
open Go.RowKit

theorem printL_ok {l : List ItemD} {o : List UInt8} {e : Int} (h : printL l = (o, e)) : ((checkL l).2 = 0 → o = nodeAt (normalL l) 0 ∧ e = 0) ∧ ((checkL l).2 ≠ 0 → o = [] ∧ e = (checkL l).2) := by
  unfold printL at h
  constructor
  · intro h0; rw [if_pos h0] at h; injection h with h1 h2; exact ⟨h1.symm, h2.symm⟩
  · intro h0; rw [if_neg h0] at h; injection h with h1 h2; exact ⟨h1.symm, h2.symm⟩

set_option maxRecDepth 100000 in
set_option maxHeartbeats 4000000 in
theorem Print_any (l : List ItemD) (A : Option Addr) (c : Nat) (w : World) (hA : ItemsAt w w.heap.size A l) (hs : SmallDoc l) (o : List UInt8) (e : Int) (hV : Hid (printL l = (o, e))) :
    Calls Try.prog 8 #[.slice A l.length c] w (Ret w (.tuple #[.string ⟨o.toArray⟩, .int .i64 e])) := by
  have HA := Lib.hid hA
  have HS := Lib.hid hs
  obtain ⟨n, q, hq⟩ : ∃ n q, Hid (checkL l = (n, q)) := ⟨_, _, rfl⟩
  obtain ⟨v1, v2⟩ := printL_ok hV.out
  rw [hq.out] at v1 v2
  simp only at v1 v2
  clear hA hs hV
  obtain ⟨W1, hW1⟩ : ∃ W1, Hid (W1 = w.alloc (.cells #[.slice A l.length c] 22)) := ⟨_, rfl⟩
  have hbW : Below w.heap.size w W1 := by rw [hW1.out]; exact (Below.refl _ w).alloc (Nat.le_refl _) _
  have hzW : w.heap.size < W1.heap.size := by rw [hW1.out]; simp
  have hc1 : Hid (∀ w', Below W1.heap.size W1 w' → w'.cell? ⟨w.heap.size, 0, none⟩ = some (.slice A l.length c) ∧ w'.frozen? ⟨w.heap.size, 0, none⟩ = false) := fun w' hb => by
    constructor
    · rw [hb.cell (p := ⟨w.heap.size, 0, none⟩) hzW, hW1.out, World.cell?_alloc_at _ _ _ _ (by simp)]; rfl
    · rw [hb.frozen (p := ⟨w.heap.size, 0, none⟩) hzW, hW1.out]
      exact frozen_of_row _ _ 0 _ _ (heap_alloc_new w _)
  by_cases hq0 : q = 0
  · obtain ⟨ho, he⟩ := v1 hq0
    clear v1 v2
    have hdoc : Doc l := checkL_ok (by rw [hq.out]; exact hq0)
    have HDOC := Lib.hid hdoc
    obtain ⟨x, s, hsh⟩ := hdoc.normal
    have HSH := Lib.hid hsh
    have HO := Lib.hid ho
    subst hq0; subst he
    clear hdoc hsh ho
    go_enter Try.func8, Try.ntmps8
    go_wp2_with fail
    rw [← hW1.out]
    refine (Check_any l A c W1 ((HA.out.below hbW).more (Nat.le_of_lt hzW)) HS.out.1 n 0 hq).mono ?_; rintro e2 w2 ⟨rfl, hb2⟩
    have hz2 := hb2.size
    obtain ⟨hd1, hd2⟩ := hc1.out w2 hb2
    obtain ⟨N, hN⟩ : ∃ N, Hid (normalL l = N) := ⟨_, rfl⟩
    go_wp2_with fail
    refine (Normal_any l A c w2 ((HA.out.below (hbW.trans (hb2.mono (by omega)))).more (by omega)) HS.out N hN).mono ?_
    rintro e3 w3 ⟨⟨A', c', S, rfl, hown, hattr, hmap⟩, hb3⟩
    have hb3W : Below W1.heap.size W1 w3 := hb2.trans (hb3.mono hz2)
    have hz3 := hb3.size
    clear hd1 hd2
    obtain ⟨hd1, hd2⟩ := hc1.out w3 hb3W
    obtain ⟨W4, hW4⟩ : ∃ W4, Hid (W4 = w3.setCell ⟨w.heap.size, 0, none⟩ (.slice A' S.length c')) := ⟨_, rfl⟩
    have hz4 : W4.heap.size = w3.heap.size := by rw [hW4.out]; simp
    have hItems : ItemsAt W4 W4.heap.size A' N := by
      have hown4 : ItemsOwn W4 w2.heap.size A' c' S := by rw [hW4.out]; exact ownsRow_setCell_below hown (by show w.heap.size < _; omega) _
      have hattr4 : ∀ s ∈ S, AttrsOwn W4 w2.heap.size s.2.1 s.2.2 s.1.attrs := fun s hs => by rw [hW4.out]; exact ownsRow_setCell_below (hattr s hs) (by show w.heap.size < _; omega) _
      have := ItemsOwn.at hown4 (fun s hs => ⟨(hattr4 s hs).at, (hattr4 s hs).cap⟩)
      rw [hmap] at this; exact this
    have hNx : N = x :: s := by rw [← hN.out]; exact HSH.out.eq
    have hSl : S.length = N.length := by rw [← hmap, List.length_map]
    obtain ⟨ad, rfl⟩ : ∃ ad, A' = some ad := by
      obtain ⟨ad, h, _⟩ := hItems (by rw [hNx]; simp)
      exact ⟨ad, h⟩
    rw [hSl] at hW4 ⊢
    have HIT := Lib.hid hItems
    have hxN : Hid (N[0]? = some x) := by show _ = _; rw [hNx]; rfl
    have hNS : Hid (SmallItems N) := by show SmallItems N; rw [← hN.out]; exact normal_small HS.out
    have hOl : Hid (nodeAt N 0 = o ∧ o.length ≤ 250000000) := by
      have := HDOC.out.small
      rw [hN.out] at this
      refine ⟨?_, ?_⟩
      · rw [HO.out, hN.out]
      · rw [HO.out, hN.out]; exact this
    have hlv : Hid (W4.cell? ⟨w.heap.size, 0, none⟩ = some (.slice (some ad) N.length c')) := by
      show _ = _
      rw [hW4.out]
      exact World.cell?_setCell_same _ _ _ hd1
    have hb4 : Below w.heap.size w W4 := by rw [hW4.out]; exact (hbW.trans (hb3W.mono (Nat.le_of_lt hzW))).setCell (Nat.le_refl _) _
    clear hown hattr hmap hItems hNx hSl
    have HZ4 := Lib.hid hz4
    clear hz4
    go_wp2_with fail
    rw [← hW4.out, ← HZ4.out]
    obtain ⟨b, hbE⟩ : ∃ b, Hid (b = W4.heap.size) := ⟨_, rfl⟩
    rw [← hbE.out]
    have hbld := Lib.IsBuilderF.of (builder_new 40 5 W4)
    rw [← hbE.out] at hbld
    have hbg : b ≤ W4.heap.size := by rw [hbE.out]; exact Nat.le_refl _
    obtain ⟨W5, hW5⟩ : ∃ W5, Hid (W5 = ((W4.alloc (.cells #[.pointer none, .slice none 0 0] 40)).alloc (.cells #[.func (.func 16) #[.pointer (some ⟨b, 0, none⟩)] #[]] 41)).alloc
        (.cells #[.func (.func 17) #[] #[.pointer (some ⟨w.heap.size, 0, none⟩), .pointer (some ⟨b + 1, 0, none⟩), .pointer (some ⟨b + 2, 0, none⟩)]] 42)) := ⟨_, rfl⟩
    have hb5 : Below W4.heap.size W4 W5 := by rw [hW5.out]; exact (((Below.refl _ W4).alloc (Nat.le_refl _) _).alloc (by simp) _).alloc (by simp; omega) _
    have hbW5 : b ≤ W5.heap.size := by have := hb5.size; omega
    have henv : PEnv N ad c' w.heap.size b W5 := by
      refine ⟨?_, ?_, ?_, ?_, ?_⟩
      · rw [hb5.cell (p := ⟨w.heap.size, 0, none⟩) (by show w.heap.size < _; have := hb4.size; have := HZ4.out; omega)]
        exact hlv.out
      · have := HZ4.out; have := hbE.out; omega
      · rw [hbE.out]; exact HIT.out.below hb5
      · rw [hW5.out, hbE.out, Lib.alloc_old _ _ _ (by simp)]
        have := heap_alloc_new (W4.alloc (.cells #[.pointer none, .slice none 0 0] 40)) (.cells #[.func (.func 16) #[.pointer (some ⟨W4.heap.size, 0, none⟩)] #[]] 41)
        rw [World.size_alloc] at this
        exact this
      · rw [hW5.out, hbE.out]
        have := heap_alloc_new ((W4.alloc (.cells #[.pointer none, .slice none 0 0] 40)).alloc (.cells #[.func (.func 16) #[.pointer (some ⟨W4.heap.size, 0, none⟩)] #[]] 41)) (.cells #[.func (.func 17) #[] #[.pointer (some ⟨w.heap.size, 0, none⟩), .pointer (some ⟨W4.heap.size + 1, 0, none⟩), .pointer (some ⟨W4.heap.size + 2, 0, none⟩)]] 42)
        rw [World.size_alloc, World.size_alloc] at this
        exact this
    have hbl5 : Bld b [] W5 := by
      have h1 : Bld b [] (W4.alloc (.cells #[.pointer none, .slice none 0 0] 40)) := hbld
      rw [hW5.out]
      exact builderF_below h1 (((Below.refl _ _).alloc (Nat.le_refl _) _).alloc (by simp) _)
    have hput := put_any N ad c' w.heap.size b hNS.out N.length 0 x [] W5 (by omega) hxN.out henv hbl5 (by rw [hOl.out.1]; have := hOl.out.2; simp; omega)
    rw [hOl.out.1] at hput
    have HPUT := Lib.hid hput
    have HENV := Lib.hid henv
    clear hput henv hbl5 hbld
    have hlb : w.heap.size ≤ b := by have := hb4.size; have := hbE.out; omega
    refine Calls.mono (by rw [← hW5.out]; exact HPUT.out) ?_
    rintro e6 w6 ⟨rfl, hb6, hp6⟩
    have hbz6 : b ≤ w6.heap.size := by have := hp6.size; omega
    go_wp2_with fail
    refine (StringK b b ([] ++ o) w6 hb6 hbz6).mono ?_
    rintro e7 w7 ⟨rfl, _, hb7, _⟩
    go_wp2_with fail
    go_ret2
    exact ⟨rfl, hb4.trans ((hb5.mono (by omega)).trans ((hp6.1.mono hlb).trans (hb7.mono hlb)))⟩
  · obtain ⟨ho, he⟩ := v2 hq0
    have tq : (q != 0) = true := by simp [hq0]
    clear v1 v2 hq0
    subst ho; subst he
    go_enter Try.func8, Try.ntmps8
    go_wp2_with fail
    rw [← hW1.out]
    refine (Check_any l A c W1 ((HA.out.below hbW).more (Nat.le_of_lt hzW)) HS.out.1 n e hq).mono ?_; rintro e2 w2 ⟨rfl, hb2⟩
    go_wp2_with fail
    go_ret2
    exact ⟨rfl, hbW.trans (hb2.mono (Nat.le_of_lt hzW))⟩
end Go.Proofs.Ytiopijjlkmpikaa
