/-
  The law GroveAll: every call of any script is answered as the document says.
-/
import Derived.Test.YtmkgajdgnmolkaaGreatH1
import Derived.Test.YtmkgajdgnmolkaaGreatH11
import Derived.Test.YtmkgajdgnmolkaaGreatH12
namespace Go.Proofs.YtmkgajdgnmolkaaGreat
open Go.RowKit Go.Shelf
set_option maxRecDepth 100000 in
set_option maxHeartbeats 4000000 in
theorem walk_GroveAll (l : List OpD) (A : Option Addr) (c : Nat) (w : World) (hI : OpsAt w w.heap.size A l) (hS : SmallOps l) :
  Calls Tryz.prog 3 #[.slice A l.length c] w (Ret w (.bool true)) := by
 have HI := Lib.hid hI
 have HS := Lib.hid hS
 clear hI hS
 go_enter Tryz.func3, Tryz.ntmps3
 go_wp2_with fail
 refine (New_in w).mono ?_
 rintro e w1 ⟨rfl, hb1, ht1⟩
 have HB1 := Lib.hid hb1
 have HT1 := Lib.hid ht1
 have HI1 := Lib.hid (HI.out.below hb1)
 clear hb1 ht1
 go_wp2_with fail
 cases hfew : fewL l with
 | false =>
  refine (few_any l A c w.heap.size w1 HI1.out HB1.out.size HS.out false hfew).mono ?_
  rintro e w2 ⟨rfl, hb2⟩
  have HB2 : Hid (Below w.heap.size w w2) := HB1.out.trans (hb2.mono HB1.out.size)
  clear hb2
  go_wp2_with fail
  refine (alive_any w2).mono ?_
  rintro e w3 ⟨rfl, hb3⟩
  have HB3 : Hid (Below w.heap.size w w3) := HB2.out.trans (hb3.mono HB2.out.size)
  clear hb3
  go_wp2_with fail
  go_ret
  exact ⟨rfl, HB3.out⟩
 | true =>
  have HFEW := Lib.hid hfew
  refine (few_any l A c w.heap.size w1 HI1.out HB1.out.size HS.out true hfew).mono ?_
  rintro e w2 ⟨rfl, hb2⟩
  have HB2 : Hid (Below w.heap.size w w2) := HB1.out.trans (hb2.mono HB1.out.size)
  have HT2 := Lib.hid (HT1.out.below hb2)
  clear hb2 hfew
  go_wp2_with fail
  refine (RNew_any w2).mono ?_
  rintro e w3 ⟨he3, hb3⟩
  unfold treeV at he3
  subst he3
  have HB3 : Hid (Below w.heap.size w w3) := HB2.out.trans (hb3.mono HB2.out.size)
  have HT3 := Lib.hid (HT2.out.below hb3)
  clear hb3
  go_wp2_with fail
  refine (plays_in l A c w.heap.size (w.heap.size + 1) .nil 1 none 0 _ (fun _ => True) w3 HT3.out ⟨fun h => absurd h (by simp [Fo.flat]), by simp [Fo.flat, SliceOk, maxLen]⟩ (HI.out.below HB3.out) (fun b hb => by rcases hb with rfl | rfl <;> omega) HB3.out.size HS.out HFEW.out (fun _ _ => trivial) (fun _ _ => trivial)).mono ?_
  rintro e w4 ⟨M4, f4, next4, A4, c4, he4, ht4, hr4, hg4, hn4⟩
  unfold treeV at he4
  subst he4
  have HT4 := Lib.hid ht4
  have HN4 := Lib.hid hn4
  have HR4 := Lib.hid hr4
  have HLO4 : Hid (∀ b, M4 b → w.heap.size ≤ b) := hg4.low (fun b hb => by rcases hb with rfl | rfl <;> omega) HB3.out.size
  have HB4 : Hid (Below w.heap.size w w4) := HB3.out.trans (hg4.1.below (fun b hb => by rcases hb with rfl | rfl <;> omega) HB3.out.size)
  clear ht4 hr4 hg4 hn4
  obtain ⟨W5, hW5⟩ : ∃ W5, Hid (W5 = w4.alloc (.cells #[.slice A4 (f4.flat 0).length c4, .int .i64 next4] 29)) := ⟨_, rfl⟩
  have hb5 : Below w4.heap.size w4 W5 := by rw [hW5.out]; exact (Below.refl _ w4).alloc (Nat.le_refl _) _
  have hx5 : W5.heap[w4.heap.size]? = some (.cells (treeV A4 (f4.flat 0).length c4 next4) 29 (0, 0)) := by rw [hW5.out]; exact heap_alloc_new w4 _
  have HZ5 : Hid (w4.heap.size < W5.heap.size) := by show _ < _; rw [hW5.out]; simp
  have HX5 := Lib.hid hx5
  have HT5 := Lib.hid (HT4.out.below hb5)
  have HR5 := Lib.hid (HR4.out.below hb5)
  have HB5 : Hid (Below w.heap.size w W5) := HB4.out.trans (hb5.mono HB4.out.size)
  clear hb5 hx5
  go_upto_region 5 with (fail)
  rw [← hW5.out]
  go_wp2_with fail
  refine (alive_any W5).mono ?_
  rintro e w6 ⟨rfl, hb6⟩
  have HB6 : Hid (Below w.heap.size w w6) := HB5.out.trans (hb6.mono HB5.out.size)
  have HX6 : Hid (w6.heap[w4.heap.size]? = some (.cells (treeV A4 (f4.flat 0).length c4 next4) 29 (0, 0))) := (hb6.block _ HZ5.out).trans HX5.out
  have HT6 := Lib.hid (HT5.out.below hb6)
  have HR6 := Lib.hid (HR5.out.below hb6)
  have g0 : w6.cell? ⟨w4.heap.size, 0, none⟩ = some (.slice A4 (f4.flat 0).length c4) := cell_row HX6.out 0 _ rfl
  have g1 : w6.cell? ⟨w4.heap.size, 1, none⟩ = some (.int .i64 next4) := cell_row HX6.out 1 _ rfl
  clear hb6
  go_wp2_with fail
  refine (stands_in A4 c4 next4 HT6.out HR6.out).mono ?_
  rintro e w7 ⟨rfl, hb7⟩
  have HB7 : Hid (Below w.heap.size w w7) := HB6.out.trans (hb7.mono HB6.out.size)
  clear hb7 g0 g1
  go_wp2_with fail
  go_ret
  exact ⟨rfl, HB7.out⟩
end Go.Proofs.YtmkgajdgnmolkaaGreat
