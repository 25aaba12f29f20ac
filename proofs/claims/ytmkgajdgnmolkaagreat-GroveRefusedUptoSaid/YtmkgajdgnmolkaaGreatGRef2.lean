/-
  The law GroveRefused: a call with an error has changed nothing.
-/
import Derived.Test.YtmkgajdgnmolkaaGreatH1
import Derived.Test.YtmkgajdgnmolkaaGreatH11
import Derived.Test.YtmkgajdgnmolkaaGreatH12
namespace Go.Proofs.YtmkgajdgnmolkaaGreat
open Go.RowKit Go.Shelf
set_option maxRecDepth 100000 in
set_option maxHeartbeats 4000000 in
theorem walk_GroveRefused (l : List OpD) (A : Option Addr) (c : Nat) (o : OpD) (Ao : Option Addr) (co : Nat) (w : World) (hI : OpsAt w w.heap.size A l) (hS : SmallOps l) (hIo : ItemsAt w w.heap.size Ao o.l) (hLo : o.l.length ≤ co) (hSo : SmallOp o) (hBo : o.l.length ≤ 1048576) :
  Calls Tryz.prog 4 #[.slice A l.length c, .agg (opVal o Ao co)] w (Ret w (.bool true)) := by
 obtain ⟨w0, hw0⟩ : ∃ w0, Hid (w0 = w.alloc (.cells (opVal o Ao co) 36)) := ⟨_, rfl⟩
 have hb0 : Below w.heap.size w w0 := by rw [hw0.out]; exact (Below.refl _ w).alloc (Nat.le_refl _) _
 have hx0 : w0.heap[w.heap.size]? = some (.cells (opVal o Ao co) 36 (0, 0)) := by rw [hw0.out]; exact heap_alloc_new w _
 have HZ0 : Hid (w.heap.size < w0.heap.size) := by show _ < _; rw [hw0.out]; simp
 have HX0 := Lib.hid hx0
 have HB0 := Lib.hid hb0
 have HI : Hid (OpsAt w0 w0.heap.size A l) := (hI.below hb0).more hb0.size
 have HIO : Hid (ItemsAt w0 w0.heap.size Ao o.l) := (hIo.below hb0).more hb0.size
 have HSO := Lib.hid hSo
 have HS := Lib.hid hS
 have hol : (o.l.length : Int) ≤ 1048576 := by omega
 have hol0 : (0 : Int) ≤ (o.l.length : Int) := by omega
 have hOX : Hid (∀ W : World, Below w0.heap.size w0 W → W.cell? ⟨w.heap.size, 0, none⟩ = some (.int .i64 o.kind) ∧ W.cell? ⟨w.heap.size, 1, none⟩ = some (.int .i64 o.id) ∧ W.cell? ⟨w.heap.size, 2, none⟩ = some (.int .i64 o.to) ∧ W.cell? ⟨w.heap.size, 3, none⟩ = some (.int .i64 o.pl) ∧ W.cell? ⟨w.heap.size, 4, none⟩ = some (.string ⟨o.name.toArray⟩) ∧ W.cell? ⟨w.heap.size, 5, none⟩ = some (.string ⟨o.text.toArray⟩) ∧ W.cell? ⟨w.heap.size, 6, none⟩ = some (.slice Ao o.l.length co)) := fun W hb => by
  have hx := (hb.block w.heap.size HZ0.out).trans HX0.out
  exact ⟨cell_row hx 0 _ rfl, cell_row hx 1 _ rfl, cell_row hx 2 _ rfl, cell_row hx 3 _ rfl, cell_row hx 4 _ rfl, cell_row hx 5 _ rfl, cell_row hx 6 _ rfl⟩
 have hw0' := hw0.out
 unfold opVal strV at hw0'
 replace hw0 := Lib.hid hw0'
 have HLO := Lib.hid hLo
 have HBO := Lib.hid hBo
 clear hI hIo hSo hS hb0 hx0 hw0' hLo hBo
 unfold opVal strV
 go_enter Tryz.func4, Tryz.ntmps4
 go_upto_region 1 with (fail)
 rw [← hw0.out]
 go_wp2_with fail
 refine (New_in w0).mono ?_
 rintro e w1 ⟨rfl, hb1, ht1⟩
 have HB1 := Lib.hid hb1
 have HT1 := Lib.hid ht1
 have HI1 := Lib.hid (HI.out.below hb1)
 clear hb1 ht1
 go_wp2_with fail
 cases hfew : fewL l with
 | false =>
  refine (few_any l A c w0.heap.size w1 HI1.out HB1.out.size HS.out false hfew).mono ?_
  rintro e w2 ⟨rfl, hb2⟩
  have HB2 : Hid (Below w0.heap.size w0 w2) := HB1.out.trans (hb2.mono HB1.out.size)
  clear hb2
  go_wp2_with fail
  refine (alive_any w2).mono ?_
  rintro e w3 ⟨rfl, hb3⟩
  have HB3 : Hid (Below w0.heap.size w0 w3) := HB2.out.trans (hb3.mono HB2.out.size)
  clear hb3
  go_wp2_with fail
  go_ret
  exact ⟨rfl, HB0.out.trans (HB3.out.mono HB0.out.size)⟩
 | true =>
  have HFEW := Lib.hid hfew
  refine (few_any l A c w0.heap.size w1 HI1.out HB1.out.size HS.out true hfew).mono ?_
  rintro e w2 ⟨rfl, hb2⟩
  have HB2 : Hid (Below w0.heap.size w0 w2) := HB1.out.trans (hb2.mono HB1.out.size)
  have HT2 := Lib.hid (HT1.out.below hb2)
  clear hb2 hfew
  obtain ⟨d0, d1, d2, d3, d4, d5, d6⟩ := hOX.out w2 HB2.out
  obtain ⟨W3, hW3⟩ : ∃ W3, Hid (W3 = w2.alloc (.cells #[.int .i64 o.kind, .int .i64 o.id, .int .i64 o.to, .int .i64 o.pl, .string ⟨o.name.toArray⟩, .string ⟨o.text.toArray⟩, .slice Ao o.l.length co] 36)) := ⟨_, rfl⟩
  have hb3 : Below w2.heap.size w2 W3 := by rw [hW3.out]; exact (Below.refl _ w2).alloc (Nat.le_refl _) _
  have hx3 : W3.heap[w2.heap.size]? = some (.cells (opVal o Ao co) 36 (0, 0)) := by rw [hW3.out]; exact heap_alloc_new w2 _
  have hz3 : w2.heap.size < W3.heap.size := by rw [hW3.out]; simp
  have HT3x := Lib.hid (HT2.out.below hb3)
  have HB3 : Hid (Below w0.heap.size w0 W3) := HB2.out.trans (hb3.mono HB2.out.size)
  have hi3 := (HIO.out.below HB3.out).more HB3.out.size
  have HO3 : Hid (OpsAt W3 W3.heap.size (some ⟨w2.heap.size, 0, none⟩) [o]) := fun _ => by
   refine ⟨_, rfl, hz3, fun k o' hk => ?_⟩
   match k, hk with
   | 0, hk =>
    obtain rfl : o = o' := by simpa using hk
    refine ⟨Ao, co, hi3, HLO.out, ?_⟩
    unfold OpCells
    rw [Nat.zero_mul, add_zero_block]
    exact ⟨cell_row hx3 0 _ rfl, cell_row hx3 1 _ rfl, cell_row hx3 2 _ rfl, cell_row hx3 3 _ rfl, cell_row hx3 4 _ rfl, cell_row hx3 5 _ rfl, cell_row hx3 6 _ rfl⟩
   | k + 1, hk => simp at hk
  have HSS : Hid (SmallOps [o]) := ⟨by simp, fun o' ho' => by rw [List.mem_singleton.1 ho']; exact ⟨HSO.out, HBO.out⟩⟩
  clear hb3 hx3 hz3 hi3
  go_wp2_with fail
  rw [← hW3.out]
  clear d0 d1 d2 d3 d4 d5 d6
  cases hfo : fewL [o] with
  | false =>
   refine (few_any [o] (some ⟨w2.heap.size, 0, none⟩) 1 W3.heap.size W3 HO3.out (Nat.le_refl _) HSS.out false hfo).mono ?_
   rintro e w4 ⟨rfl, hb4⟩
   have HB4 : Hid (Below w0.heap.size w0 w4) := HB3.out.trans (hb4.mono HB3.out.size)
   clear hb4
   go_wp2_with fail
   refine (alive_any w4).mono ?_
   rintro e w5 ⟨rfl, hb5⟩
   have HB5 : Hid (Below w0.heap.size w0 w5) := HB4.out.trans (hb5.mono HB4.out.size)
   clear hb5
   go_wp2_with fail
   go_ret
   exact ⟨rfl, HB0.out.trans (HB5.out.mono HB0.out.size)⟩
  | true =>
   refine (few_any [o] (some ⟨w2.heap.size, 0, none⟩) 1 W3.heap.size W3 HO3.out (Nat.le_refl _) HSS.out true hfo).mono ?_
   rintro e w4 ⟨rfl, hb4⟩
   obtain ⟨wp, hwp⟩ : ∃ wp, w4 = wp := ⟨_, rfl⟩
   subst hwp
   have HBP : Hid (Below w0.heap.size w0 w4) := HB3.out.trans (hb4.mono HB3.out.size)
   have HTP : Hid (TreeM (fun b => b = w0.heap.size + 1 ∨ b = w0.heap.size) (w0.heap.size + 1) .nil 1 w4) := HT3x.out.below hb4
   clear hb4
   have HOF : Hid (o.l.length ≤ 2500) := by
    unfold fewL at hfo
    have := of_decide_eq_true ((Bool.and_eq_true _ _ ▸ hfo : _ ∧ _).2)
    have h2 := many_mem (show o ∈ [o] by simp)
    show _ ≤ _
    omega
   clear hfo
   go_wp2_with fail
   refine (RNew_any w4).mono ?_
   rintro e v3 ⟨heq, hbq⟩
   unfold treeV at heq
   subst heq
   have HBQ : Hid (Below w0.heap.size w0 v3) := HBP.out.trans (hbq.mono HBP.out.size)
   have HTQ := Lib.hid (HTP.out.below hbq)
   clear hbq
   go_wp2_with fail
   refine (plays_in l A c w0.heap.size (w0.heap.size + 1) .nil 1 none 0 _ (fun _ => True) v3 HTQ.out ⟨fun h => absurd h (by simp [Fo.flat]), by simp [Fo.flat, SliceOk, maxLen]⟩ (HI.out.below HBQ.out) (fun b hb => by rcases hb with rfl | rfl <;> omega) HBQ.out.size HS.out HFEW.out (fun _ _ => trivial) (fun _ _ => trivial)).mono ?_
   rintro e v4 ⟨M4, f4, next4, A4, c4, he4, ht4, hr4, hg4, hn4⟩
   unfold treeV at he4
   subst he4
   have HT4 := Lib.hid ht4
   have HN4 := Lib.hid hn4
   have HR4 := Lib.hid hr4
   have HLO4 : Hid (∀ b, M4 b → w0.heap.size ≤ b) := hg4.low (fun b hb => by rcases hb with rfl | rfl <;> omega) HBQ.out.size
   have HB4 : Hid (Below w0.heap.size w0 v4) := HBQ.out.trans (hg4.1.below (fun b hb => by rcases hb with rfl | rfl <;> omega) HBQ.out.size)
   clear ht4 hr4 hg4 hn4
   obtain ⟨W5, hW5⟩ : ∃ W5, Hid (W5 = v4.alloc (.cells #[.slice A4 (f4.flat 0).length c4, .int .i64 next4] 29)) := ⟨_, rfl⟩
   have hb5 : Below v4.heap.size v4 W5 := by rw [hW5.out]; exact (Below.refl _ v4).alloc (Nat.le_refl _) _
   have hx5 : W5.heap[v4.heap.size]? = some (.cells (treeV A4 (f4.flat 0).length c4 next4) 29 (0, 0)) := by rw [hW5.out]; exact heap_alloc_new v4 _
   have HZ5 : Hid (v4.heap.size < W5.heap.size) := by show _ < _; rw [hW5.out]; simp
   have HX5 := Lib.hid hx5
   have HT5 := Lib.hid (HT4.out.below hb5)
   have HR5 := Lib.hid (HR4.out.below hb5)
   have HB5 : Hid (Below w0.heap.size w0 W5) := HB4.out.trans (hb5.mono HB4.out.size)
   clear hb5 hx5
   go_upto_region 5 with (fail)
   rw [← hW5.out]
   obtain ⟨d0, d1, d2, d3, d4, d5, d6⟩ := hOX.out W5 HB5.out
   obtain ⟨ans, hans⟩ : ∃ a, Hid (doL (f4.flat 0) next4 o = a) := ⟨_, rfl⟩
   have hids := do_ids (f4.flat 0) next4 o
   rw [hans.out] at hids
   go_wp2_with fail
   refine (does_in HT5.out o Ao co w0.heap.size (HIO.out.below HB5.out) HLO4.out HB5.out.size HSO.out).mono ?_
   rw [hans.out]
   obtain ⟨L6, NX, ID, E⟩ := ans
   rintro e w6 ⟨rfl, M6, f6, hf6, ht6, hg6⟩
   obtain rfl : L6 = f6.flat 0 := hf6
   simp only at ht6
   have HIDS : Hid (E ≠ 0 → f4.flat 0 = f6.flat 0 ∧ NX = next4 ∧ ID = 0) := fun hE => by
    have h := hids.2.2 hE
    simp only [Prod.mk.injEq] at h
    exact ⟨h.1.symm, h.2.1, h.2.2.1⟩
   have HT6 := Lib.hid ht6
   have hr6 := HR5.out.turn hg6
   have HR6 := Lib.hid hr6
   have hnm : ¬ M4 v4.heap.size := fun hm => by have := HT4.out.lt hm; omega
   have HX6 : Hid (w6.heap[v4.heap.size]? = some (.cells (treeV A4 (f4.flat 0).length c4 next4) 29 (0, 0))) := (hg6.1.block _ HZ5.out hnm).trans HX5.out
   have HZ6 : Hid (v4.heap.size < w6.heap.size) := Nat.lt_of_lt_of_le HZ5.out hg6.1.size
   have HB6 : Hid (Below w0.heap.size w0 w6) := HB5.out.trans (hg6.1.below HLO4.out HB5.out.size)
   clear ht6 hr6 hg6 hnm hids d0 d1 d2 d3 d4 d5 d6
   go_upto_region 6 with (fail)
   have HSW : Hid (∀ W : World, Below w6.heap.size w6 W → W.cell? ⟨v4.heap.size, 0, none⟩ = some (.slice A4 (f4.flat 0).length c4) ∧ W.cell? ⟨v4.heap.size, 1, none⟩ = some (.int .i64 next4)) := fun W hb => by
    have hx := (hb.block v4.heap.size HZ6.out).trans HX6.out
    exact ⟨cell_row hx 0 _ rfl, cell_row hx 1 _ rfl⟩
   have hbd : Below w6.heap.size w6 w6.drew := ⟨rfl, rfl, rfl, Nat.le_refl _, fun _ _ => rfl⟩
   have hS := HSW.out w6.drew hbd
   refine wp_region_held_drew (S := fun W => W.cell? ⟨v4.heap.size, 0, none⟩ = some (.slice A4 (f4.flat 0).length c4) ∧ W.cell? ⟨v4.heap.size, 1, none⟩ = some (.int .i64 next4)) (by kernel_rfl) hS (fun hHeld => ?_)
   clear hS
   obtain ⟨w7, hw7⟩ : ∃ w7, Hid (w6.drew = w7) := ⟨_, rfl⟩
   rw [hw7.out] at hbd ⊢
   have HBD := Lib.hid hbd
   clear hbd
   refine rdy 0 (fun K hK => ?_)
   go_simp
   refine (alive_any w7).mono ?_
   rintro e w8 ⟨rfl, hb8⟩
   have HB8 : Hid (Below w6.heap.size w6 w8) := HBD.out.trans (hb8.mono HBD.out.size)
   have HT8 := Lib.hid (HT6.out.below HB8.out)
   have HR8 := Lib.hid (HR6.out.below HB8.out)
   clear hb8
   refine hK.out _ _ (HSW.out w8 HB8.out) (fun hHeld => ?_)
   clear hK K
   try go_frame
   by_cases hE : E = 0
   ·have e0 : (E == 0) = true := by simpa using hE
    clear hE
    refine tkv 1 (h := tkv 2 (h := tkv 3 (h := tkv 4 (h := tkv 5 (h := tkv 6 (h := ?_))))))
    refine tkv 7 (h := ?_)
    refine tkn 8 (h := tkn 9 (h := tkn 10 (h := tkn 11 (h := tkn 12 (h := tkn 13 (h := ?_))))))
    refine tkn 14 (h := tkn 15 (h := tkn 16 (h := tkn 17 (h := tkn 18 (h := tkn 19 (h := ?_))))))
    refine tkn 20 (h := tkn 21 (h := ?_))
    refine tkv 22 (h := tkv 23 (h := tkv 24 (h := ?_)))
    refine wpAnyH_done (by kernel_rfl) ?_ _
    go_wp2_with fail
    go_ret
    exact ⟨rfl, HB0.out.trans ((HB6.out.trans (HB8.out.mono HB6.out.size)).mono HB0.out.size)⟩
   ·have e0 : (E == 0) = false := by simpa using hE
    obtain ⟨h1, h2, h3⟩ := HIDS.out hE
    have HFL := Lib.hid h1
    subst h2
    subst h3
    clear hE h1
    refine tkv 1 (h := tkv 2 (h := tkv 3 (h := tkv 4 (h := tkv 5 (h := tkv 6 (h := ?_))))))
    refine tkv 7 (h := tkv 8 (h := tkv 9 (h := tkv 10 (h := tkv 11 (h := ?_)))))
    refine tkv 13 (h := tkv 14 (h := ?_))
    refine rdy 12 (fun K hK => ?_)
    go_simp
    refine (Next_in HT8.out).mono ?_
    rintro e w9 ⟨rfl, rfl⟩
    refine hK.out _ _ (HSW.out w8 HB8.out) (fun hHeld => ?_)
    clear hK K
    try go_frame
    refine tkv 15 (h := tkv 16 (h := tkv 17 (h := tkv 18 (h := tkv 19 (h := ?_)))))
    refine rdy 20 (fun K hK => ?_)
    go_simp
    have hst := stands_in A4 c4 NX HT8.out (by rw [← HFL.out]; exact HR8.out)
    rw [← HFL.out] at hst
    refine hst.mono ?_
    rintro e w9 ⟨rfl, hb9⟩
    have HB9 : Hid (Below w6.heap.size w6 w9) := HB8.out.trans (hb9.mono HB8.out.size)
    clear hb9 hst
    refine hK.out _ _ (HSW.out w9 HB9.out) (fun hHeld => ?_)
    clear hK K
    try go_frame
    refine tkv 21 (h := tkv 22 (h := tkv 23 (h := tkv 24 (h := ?_))))
    refine wpAnyH_done (by kernel_rfl) ?_ _
    go_wp2_with fail
    go_ret
    exact ⟨rfl, HB0.out.trans ((HB6.out.trans (HB9.out.mono HB6.out.size)).mono HB0.out.size)⟩
end Go.Proofs.YtmkgajdgnmolkaaGreat
