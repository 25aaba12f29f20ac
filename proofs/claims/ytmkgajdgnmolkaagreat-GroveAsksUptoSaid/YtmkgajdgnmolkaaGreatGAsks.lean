/-
  The law GroveAsks: behind any calls any id is answered as the document says.
-/
import Derived.Test.YtmkgajdgnmolkaaGreatH1
import Derived.Test.YtmkgajdgnmolkaaGreatH11
import Derived.Test.YtmkgajdgnmolkaaGreatH12
import Derived.Test.YtmkgajdgnmolkaaGreatGAsk
namespace Go.Proofs.YtmkgajdgnmolkaaGreat
open Go.RowKit Go.Shelf
set_option maxRecDepth 100000 in
set_option maxHeartbeats 8000000 in
theorem walk_GroveAsks (l : List OpD) (A : Option Addr) (c : Nat) (id n : Int) (w : World) (hI : OpsAt w w.heap.size A l) (hS : SmallOps l) (hid : (Lit.int .i64 id).wf = true) (_hn : (Lit.int .i64 n).wf = true) :
  Calls Tryz.prog 6 #[.slice A l.length c, .int .i64 id, .int .i64 n] w (Ret w (.bool true)) := by
 have HI := Lib.hid hI
 have HS := Lib.hid hS
 have HWF := Lib.hid (wf_lit hid)
 clear hI hS hid _hn
 go_enter Tryz.func6, Tryz.ntmps6
 go_wp2_with fail
 refine (New_in w).mono ?_
 rintro e w1 ⟨rfl, hb1, ht1⟩
 have HB1 := Lib.hid hb1
 have HT1 := Lib.hid ht1
 have HI1 := Lib.hid (HI.out.below hb1)
 clear hb1 ht1
 go_wp2_with fail
 cases hfew : fewL l with
 | false =>
  refine (few_any l A c w.heap.size w1 HI1.out HB1.out.size HS.out false hfew).mono ?_
  rintro e w2 ⟨rfl, hb2⟩
  have HB2 : Hid (Below w.heap.size w w2) := HB1.out.trans (hb2.mono HB1.out.size)
  clear hb2
  go_wp2_with fail
  refine (alive_any w2).mono ?_
  rintro e w3 ⟨rfl, hb3⟩
  have HB3 : Hid (Below w.heap.size w w3) := HB2.out.trans (hb3.mono HB2.out.size)
  clear hb3
  go_wp2_with fail
  go_ret
  exact ⟨rfl, HB3.out⟩
 | true =>
  have HFEW := Lib.hid hfew
  refine (few_any l A c w.heap.size w1 HI1.out HB1.out.size HS.out true hfew).mono ?_
  rintro e w2 ⟨rfl, hb2⟩
  have HB2 : Hid (Below w.heap.size w w2) := HB1.out.trans (hb2.mono HB1.out.size)
  have HT2 := Lib.hid (HT1.out.below hb2)
  clear hb2 hfew
  go_wp2_with fail
  refine (RNew_any w2).mono ?_
  rintro e w3 ⟨he3, hb3⟩
  unfold treeV at he3
  subst he3
  have HB3 : Hid (Below w.heap.size w w3) := HB2.out.trans (hb3.mono HB2.out.size)
  have HT3 := Lib.hid (HT2.out.below hb3)
  clear hb3
  go_wp2_with fail
  refine (plays_in l A c w.heap.size (w.heap.size + 1) .nil 1 none 0 _ (fun _ => True) w3 HT3.out ⟨fun h => absurd h (by simp [Fo.flat]), by simp [Fo.flat, SliceOk, maxLen]⟩ (HI.out.below HB3.out) (fun b hb => by rcases hb with rfl | rfl <;> omega) HB3.out.size HS.out HFEW.out (fun _ _ => trivial) (fun _ _ => trivial)).mono ?_
  rintro e w4 ⟨M4, f4, next4, A4, c4, he4, ht4, hr4, hg4, hn4⟩
  unfold treeV at he4
  subst he4
  have HT4 := Lib.hid ht4
  have HN4 := Lib.hid hn4
  have HR4 := Lib.hid hr4
  have HLO4 : Hid (∀ b, M4 b → w.heap.size ≤ b) := hg4.low (fun b hb => by rcases hb with rfl | rfl <;> omega) HB3.out.size
  have HB4 : Hid (Below w.heap.size w w4) := HB3.out.trans (hg4.1.below (fun b hb => by rcases hb with rfl | rfl <;> omega) HB3.out.size)
  clear ht4 hr4 hg4 hn4
  obtain ⟨W5, hW5⟩ : ∃ W5, Hid (W5 = w4.alloc (.cells #[.slice A4 (f4.flat 0).length c4, .int .i64 next4] 29)) := ⟨_, rfl⟩
  have hb5 : Below w4.heap.size w4 W5 := by rw [hW5.out]; exact (Below.refl _ w4).alloc (Nat.le_refl _) _
  have hx5 : W5.heap[w4.heap.size]? = some (.cells (treeV A4 (f4.flat 0).length c4 next4) 29 (0, 0)) := by rw [hW5.out]; exact heap_alloc_new w4 _
  have HZ5 : Hid (w4.heap.size < W5.heap.size) := by show _ < _; rw [hW5.out]; simp
  have HX5 := Lib.hid hx5
  have HT5 := Lib.hid (HT4.out.below hb5)
  have HR5 := Lib.hid (HR4.out.below hb5)
  have HB5 : Hid (Below w.heap.size w W5) := HB4.out.trans (hb5.mono HB4.out.size)
  clear hb5 hx5
  obtain ⟨ni, np, nk, nn, nm, tx, al, b, a, hal, hka, hg1, hk1, hg2⟩ := asks (t := w.heap.size + 1) HT5.out.inv HWF.out n
  have HKA := Lib.hid hka
  have HG1 := Lib.hid hg1
  have HK1 := Lib.hid hk1
  have HG2 := Lib.hid hg2
  have HRW : Hid (SmallRows (f4.flat 0)) := HT5.out.inv.rows
  have HRL : Hid ((f4.flat 0).length ≤ 100000) := by have := HT5.out.inv.len; show _ ≤ _; omega
  clear hka hg1 hk1 hg2
  go_upto_region 5 with (fail)
  rw [← hW5.out]
  go_wp2_with fail
  refine (HG1.out _ W5 HT5.out).mono ?_
  rintro e w6 ⟨A6, c6, he6, ha6, hb6⟩
  unfold nodeV strV at he6
  subst he6
  obtain ⟨w7, hw7⟩ : ∃ w7, Hid (w7 = w6.alloc (.cells #[.int .i64 ni, .int .i64 np, .int .i64 nk, .int .i64 nn, .string ⟨nm.toArray⟩, .string ⟨tx.toArray⟩, .slice A6 al.length c6] 50)) := ⟨_, rfl⟩
  have hb7 : Below w6.heap.size w6 w7 := by rw [hw7.out]; exact (Below.refl _ w6).alloc (Nat.le_refl _) _
  have hx7 : w7.heap[w6.heap.size]? = some (.cells #[.int .i64 ni, .int .i64 np, .int .i64 nk, .int .i64 nn, .string ⟨nm.toArray⟩, .string ⟨tx.toArray⟩, .slice A6 al.length c6] 50 (0, 0)) := by rw [hw7.out]; exact heap_alloc_new w6 _
  have HZ7 : Hid (w6.heap.size < w7.heap.size) := by show _ < _; rw [hw7.out]; simp
  have HX7 := Lib.hid hx7
  have HB57 : Hid (Below W5.heap.size W5 w7) := hb6.trans (hb7.mono hb6.size)
  have HA7 : Hid (AttrsAt w7 w7.heap.size A6 al) := (ha6.below hb7).more hb7.size
  clear hb6 hb7 hx7 ha6
  go_upto_region 6 with (fail)
  rw [← hw7.out]
  have hr7 := (HB57.out.block w4.heap.size HZ5.out).trans HX5.out
  have x0 : w7.cell? ⟨w4.heap.size, 0, none⟩ = some (.slice A4 (f4.flat 0).length c4) := cell_row hr7 0 _ rfl
  have x1 : w7.cell? ⟨w4.heap.size, 1, none⟩ = some (.int .i64 next4) := cell_row hr7 1 _ rfl
  clear hr7
  go_wp2_with fail
  refine (HG2.out _ w7 A4 c4 next4 (HR5.out.below HB57.out)).mono ?_
  rintro e w8 ⟨A8, c8, he8, ha8, hb8⟩
  unfold nodeV strV at he8
  subst he8
  obtain ⟨w9, hw9⟩ : ∃ w9, Hid (w9 = w8.alloc (.cells #[.int .i64 ni, .int .i64 np, .int .i64 nk, .int .i64 nn, .string ⟨nm.toArray⟩, .string ⟨tx.toArray⟩, .slice A8 al.length c8] 50)) := ⟨_, rfl⟩
  have hb9 : Below w8.heap.size w8 w9 := by rw [hw9.out]; exact (Below.refl _ w8).alloc (Nat.le_refl _) _
  have hx9 : w9.heap[w8.heap.size]? = some (.cells #[.int .i64 ni, .int .i64 np, .int .i64 nk, .int .i64 nn, .string ⟨nm.toArray⟩, .string ⟨tx.toArray⟩, .slice A8 al.length c8] 50 (0, 0)) := by rw [hw9.out]; exact heap_alloc_new w8 _
  have HZ9 : Hid (w8.heap.size < w9.heap.size) := by show _ < _; rw [hw9.out]; simp
  have HX9 := Lib.hid hx9
  have hb79 : Below w7.heap.size w7 w9 := hb8.trans (hb9.mono hb8.size)
  have HB59 : Hid (Below W5.heap.size W5 w9) := HB57.out.trans (hb79.mono HB57.out.size)
  have HA9 : Hid (AttrsAt w9 w9.heap.size A8 al) := (ha8.below hb9).more hb9.size
  have HA79 : Hid (AttrsAt w9 w9.heap.size A6 al) := (HA7.out.below hb79).more hb79.size
  have HX79 : Hid (w9.heap[w6.heap.size]? = some (.cells #[.int .i64 ni, .int .i64 np, .int .i64 nk, .int .i64 nn, .string ⟨nm.toArray⟩, .string ⟨tx.toArray⟩, .slice A6 al.length c6] 50 (0, 0))) := (hb79.block _ HZ7.out).trans HX7.out
  have HZ79 : Hid (w6.heap.size < w9.heap.size) := Nat.lt_of_lt_of_le HZ7.out hb79.size
  clear hb8 hb9 hx9 ha8 hb79 x0 x1
  go_upto_region 7 with (fail)
  rw [← hw9.out]
  go_wp2_with fail
  refine (HK1.out _ w9 (HT5.out.below HB59.out)).mono ?_
  rintro e w10 ⟨rfl, rfl⟩
  have hr9 := (HB59.out.block w4.heap.size HZ5.out).trans HX5.out
  have x0 : w9.cell? ⟨w4.heap.size, 0, none⟩ = some (.slice A4 (f4.flat 0).length c4) := cell_row hr9 0 _ rfl
  have x1 : w9.cell? ⟨w4.heap.size, 1, none⟩ = some (.int .i64 next4) := cell_row hr9 1 _ rfl
  clear hr9
  go_wp2_with fail
  refine (RKid_any (f4.flat 0) A4 c4 next4 id n w9 (HR5.out.below HB59.out) HRW.out a HKA).mono ?_
  rintro e w11 ⟨rfl, hb11⟩
  have HB11 := Lib.hid hb11
  have HB511 : Hid (Below W5.heap.size W5 w11) := HB59.out.trans (hb11.mono HB59.out.size)
  clear x0 x1 hb11
  go_upto_region 9 with (fail)
  have HSW : Hid (∀ W : World, Below w11.heap.size w11 W → W.cell? ⟨w4.heap.size, 0, none⟩ = some (.slice A4 (f4.flat 0).length c4) ∧ W.cell? ⟨w4.heap.size, 1, none⟩ = some (.int .i64 next4) ∧ W.cell? ⟨w6.heap.size, 0, none⟩ = some (.int .i64 ni) ∧ W.cell? ⟨w6.heap.size, 1, none⟩ = some (.int .i64 np) ∧ W.cell? ⟨w6.heap.size, 2, none⟩ = some (.int .i64 nk) ∧ W.cell? ⟨w6.heap.size, 3, none⟩ = some (.int .i64 nn) ∧ W.cell? ⟨w6.heap.size, 4, none⟩ = some (.string ⟨nm.toArray⟩) ∧ W.cell? ⟨w6.heap.size, 5, none⟩ = some (.string ⟨tx.toArray⟩) ∧ W.cell? ⟨w6.heap.size, 6, none⟩ = some (.slice A6 al.length c6) ∧ W.cell? ⟨w8.heap.size, 0, none⟩ = some (.int .i64 ni) ∧ W.cell? ⟨w8.heap.size, 1, none⟩ = some (.int .i64 np) ∧ W.cell? ⟨w8.heap.size, 2, none⟩ = some (.int .i64 nk) ∧ W.cell? ⟨w8.heap.size, 3, none⟩ = some (.int .i64 nn) ∧ W.cell? ⟨w8.heap.size, 4, none⟩ = some (.string ⟨nm.toArray⟩) ∧ W.cell? ⟨w8.heap.size, 5, none⟩ = some (.string ⟨tx.toArray⟩) ∧ W.cell? ⟨w8.heap.size, 6, none⟩ = some (.slice A8 al.length c8)) := fun W hb => by
   have hb' : Below w9.heap.size w9 W := HB11.out.trans (hb.mono HB11.out.size)
   have h1 := (hb'.block w4.heap.size (by have := HZ5.out; have := HB59.out.size; omega)).trans ((HB59.out.block w4.heap.size HZ5.out).trans HX5.out)
   have h2 := (hb'.block w6.heap.size HZ79.out).trans HX79.out
   have h3 := (hb'.block w8.heap.size HZ9.out).trans HX9.out
   exact ⟨cell_row h1 0 _ rfl, cell_row h1 1 _ rfl, cell_row h2 0 _ rfl, cell_row h2 1 _ rfl, cell_row h2 2 _ rfl, cell_row h2 3 _ rfl, cell_row h2 4 _ rfl, cell_row h2 5 _ rfl, cell_row h2 6 _ rfl, cell_row h3 0 _ rfl, cell_row h3 1 _ rfl, cell_row h3 2 _ rfl, cell_row h3 3 _ rfl, cell_row h3 4 _ rfl, cell_row h3 5 _ rfl, cell_row h3 6 _ rfl⟩
  have hbd : Below w11.heap.size w11 w11.drew := ⟨rfl, rfl, rfl, Nat.le_refl _, fun _ _ => rfl⟩
  have hS := HSW.out w11.drew hbd
  refine wp_region_held_drew (S := fun W => W.cell? ⟨w4.heap.size, 0, none⟩ = some (.slice A4 (f4.flat 0).length c4) ∧ W.cell? ⟨w4.heap.size, 1, none⟩ = some (.int .i64 next4) ∧ W.cell? ⟨w6.heap.size, 0, none⟩ = some (.int .i64 ni) ∧ W.cell? ⟨w6.heap.size, 1, none⟩ = some (.int .i64 np) ∧ W.cell? ⟨w6.heap.size, 2, none⟩ = some (.int .i64 nk) ∧ W.cell? ⟨w6.heap.size, 3, none⟩ = some (.int .i64 nn) ∧ W.cell? ⟨w6.heap.size, 4, none⟩ = some (.string ⟨nm.toArray⟩) ∧ W.cell? ⟨w6.heap.size, 5, none⟩ = some (.string ⟨tx.toArray⟩) ∧ W.cell? ⟨w6.heap.size, 6, none⟩ = some (.slice A6 al.length c6) ∧ W.cell? ⟨w8.heap.size, 0, none⟩ = some (.int .i64 ni) ∧ W.cell? ⟨w8.heap.size, 1, none⟩ = some (.int .i64 np) ∧ W.cell? ⟨w8.heap.size, 2, none⟩ = some (.int .i64 nk) ∧ W.cell? ⟨w8.heap.size, 3, none⟩ = some (.int .i64 nn) ∧ W.cell? ⟨w8.heap.size, 4, none⟩ = some (.string ⟨nm.toArray⟩) ∧ W.cell? ⟨w8.heap.size, 5, none⟩ = some (.string ⟨tx.toArray⟩) ∧ W.cell? ⟨w8.heap.size, 6, none⟩ = some (.slice A8 al.length c8)) (by kernel_rfl) hS (fun hHeld => ?_)
  clear hS
  obtain ⟨w12, hw12⟩ : ∃ w12, Hid (w11.drew = w12) := ⟨_, rfl⟩
  rw [hw12.out] at hbd ⊢
  have HBD := Lib.hid hbd
  clear hbd
  refine rdy 0 (fun K hK => ?_)
  go_simp
  refine (alive_any w12).mono ?_
  rintro e w13 ⟨rfl, hb13⟩
  have HB13 : Hid (Below w11.heap.size w11 w13) := HBD.out.trans (hb13.mono HBD.out.size)
  clear hb13
  refine hK.out _ _ (HSW.out w13 HB13.out) (fun hHeld => ?_)
  clear hK K
  try go_frame
  refine tkv 1 (h := tkv 2 (h := tkv 3 (h := tkv 4 (h := tkv 5 (h := tkv 6 (h := ?_))))))
  refine tkv 7 (h := tkv 8 (h := tkv 9 (h := tkv 10 (h := tkv 11 (h := ?_)))))
  refine rdy 12 (fun K hK => ?_)
  go_simp
  have hb913 : Below w9.heap.size w9 w13 := HB11.out.trans (HB13.out.mono HB11.out.size)
  refine (same_any ni np nk nn nm tx al A6 A8 c6 c8 w13 ((HA79.out.below hb913).more hb913.size) ((HA9.out.below hb913).more hb913.size) hal).mono ?_
  rintro e w14 ⟨rfl, hb14⟩
  have HB14 : Hid (Below w11.heap.size w11 w14) := HB13.out.trans (hb14.mono HB13.out.size)
  have HT14 := Lib.hid (HT5.out.below (HB511.out.trans (HB14.out.mono HB511.out.size)))
  have HR14 := Lib.hid (HR5.out.below (HB511.out.trans (HB14.out.mono HB511.out.size)))
  clear hb14 hb913
  refine hK.out _ _ (HSW.out w14 HB14.out) (fun hHeld => ?_)
  clear hK K
  try go_frame
  refine tkv 13 (h := tkv 14 (h := tkv 15 (h := tkv 16 (h := tkv 17 (h := tkv 18 (h := ?_))))))
  refine tkv 19 (h := tkv 20 (h := tkv 21 (h := tkv 22 (h := tkv 23 (h := tkv 24 (h := ?_))))))
  refine tkv 25 (h := tkv 26 (h := ?_))
  refine tkv 28 (h := tkv 29 (h := ?_))
  refine rdy 27 (fun K hK => ?_)
  go_simp
  refine (Items_in HT14.out HWF.out).mono ?_
  rintro e w15 ⟨A15, c15, S15, rfl, hS15, hown15, hat15, hb15⟩
  have HB15 : Hid (Below w11.heap.size w11 w15) := HB14.out.trans (hb15.mono HB14.out.size)
  have HR15 := Lib.hid (HR14.out.below hb15)
  have hI15 := items_of_own hown15 hat15
  obtain ⟨IT, hIT⟩ : ∃ IT, Hid (itemsAt (f4.flat 0) id = IT) := ⟨_, rfl⟩
  rw [hS15, hIT.out] at hI15
  have hsl : S15.length = IT.length := by rw [← hIT.out, ← hS15, List.length_map]
  rw [hsl]
  have HI15 := Lib.hid hI15
  have HSI : Hid (SmallItems IT) := by
   show SmallItems IT
   rw [← hIT.out]
   exact items_small HT5.out.inv id
  clear hb15 hS15 hown15 hat15 hI15 hsl
  refine hK.out _ _ (HSW.out w15 HB15.out) (fun hHeld => ?_)
  clear hK K
  try go_frame
  refine rdy 30 (fun K hK => ?_)
  go_simp
  refine (RItems_any (f4.flat 0) A4 c4 next4 id w15 HR15.out HRW.out HRL.out IT hIT).mono ?_
  rintro e w16 ⟨A16, c16, rfl, hi16, hb16⟩
  have HB16 : Hid (Below w11.heap.size w11 w16) := HB15.out.trans (hb16.mono HB15.out.size)
  have HI16 : Hid (ItemsAt w16 w16.heap.size A15 IT) := (HI15.out.below hb16).more hb16.size
  have HJ16 := Lib.hid hi16
  clear hb16 hi16
  refine hK.out _ _ (HSW.out w16 HB16.out) (fun hHeld => ?_)
  clear hK K
  try go_frame
  refine rdy 31 (fun K hK => ?_)
  go_simp
  refine (RSame_any IT IT A15 A16 c15 c16 w16 HI16.out HJ16.out HSI.out HSI.out true (by show _ = _; simp)).mono ?_
  rintro e w17 ⟨rfl, hb17⟩
  have HB17 : Hid (Below w11.heap.size w11 w17) := HB16.out.trans (hb17.mono HB16.out.size)
  clear hb17
  refine hK.out _ _ (HSW.out w17 HB17.out) (fun hHeld => ?_)
  clear hK K
  try go_frame
  refine tkv 32 (h := tkv 33 (h := ?_))
  refine wpAnyH_done (by kernel_rfl) ?_ _
  go_wp2_with fail
  go_ret
  exact ⟨rfl, HB5.out.trans ((HB511.out.trans (HB17.out.mono HB511.out.size)).mono HB5.out.size)⟩
end Go.Proofs.YtmkgajdgnmolkaaGreat
