/-
  Texts of this claim, joined (by a program of the claim's author): GRSp, RPart, RName, RParts, GRSe, GRTr, GRDe.
-/
import Derived.Test.YtmkgajdgnmolkaaGreatT1
import Derived.Test.YtmkgajdgnmolkaaGreatT7
import Derived.Test.YtmkgajdgnmolkaaGreatT3
import Derived.Test.YtmkgajdgnmolkaaGreatT2
import Derived.Test.YtmkgajdgnmolkaaGreatT5
import Derived.Deep.RegionHeld3
import Derived.Test.YtmkgajdgnmolkaaGreatT6
namespace Go.Proofs.YtmkgajdgnmolkaaGreat
set_option maxRecDepth 100000
set_option maxHeartbeats 16000000
section
open Go.RowKit Go.Shelf
variable {X : Nat → Prop}
theorem ints_get {l : List Nat} {k x : Nat} (h : l[k]? = some x) : (ints l)[k]? = some (x : Int) := by unfold ints; rw [List.getElem?_map, h]; rfl
theorem Rspot_g (L : List RowD) (A : Option Addr) (c : Nat) (next : Int) (m pl : Nat) (w : World) (hL : RowsAt X w w.heap.size A L) (hs : SmallRows L) (hm : m < L.length) (hpl : pl ≤ 1000000) (r : Nat) (hr : Hid (spotL L m pl = r)) :
  Calls Tryz.prog 87 #[.agg #[.slice A L.length c, .int .i64 next], .int .i64 (m : Int), .int .i64 (pl : Int)] w (Ret w (.int .i64 (r : Int))) := by
 obtain ⟨W1, hW1⟩ : ∃ W1, Hid (W1 = w.alloc (.cells #[.slice A L.length c, .int .i64 next] 29)) := ⟨_, rfl⟩
 have hb1 : Below w.heap.size w W1 := by rw [hW1.out]; exact (Below.refl _ w).alloc (Nat.le_refl _) _
 have hX1 : W1.heap[w.heap.size]? = some (.cells #[.slice A L.length c, .int .i64 next] 29 (0, 0)) := by rw [hW1.out]; exact heap_alloc_new w _
 have hz1 : w.heap.size < W1.heap.size := by rw [hW1.out]; simp
 have HB1 := Lib.hid hb1
 have HX1 := Lib.hid hX1
 have HZ1 := Lib.hid hz1
 have HL1 := Lib.hid ((hL.below hb1).more (Nat.le_of_lt hz1))
 have HS := Lib.hid hs
 have p0 : (0 : Int) ≤ (pl : Int) := by omega
 have p1 : (pl : Int) ≤ 1000000 := by omega
 clear hb1 hX1 hz1 hL hs
 go_enter Tryz.func87, Tryz.ntmps87
 go_wp2_with fail
 rw [← hW1.out]
 refine (Rkids_g L A c next m W1 HL1.out HS.out hm).mono ?_
 rintro e w2 ⟨A2, c2, rfl, hrow, hb2⟩
 have hb2w : Below w.heap.size w w2 := HB1.out.trans (hb2.mono HB1.out.size)
 have hX2 := (hb2.block _ HZ1.out).trans HX1.out
 have HL2 := Lib.hid (((HL1.out.below hb2)).more hb2.size)
 have HB2 := Lib.hid hb2w
 have t0 := cell_row hX2 0 _ rfl
 have t1 := cell_row hX2 1 _ rfl
 obtain ⟨n, hn⟩ : ∃ n, Hid ((ints (kidsL L m)).length = n) := ⟨_, rfl⟩
 have hnl : n = (kidsL L m).length := by rw [← hn.out, ints_length]
 have HNL := Lib.hid hnl
 obtain ⟨_, _, hv, hcap, hcm, hnil, hsome⟩ := row_shape hrow
 injection hv with e1 _ e3
 subst e1; subst e3
 have HROW := Lib.hid hrow
 have HSO := Lib.hid hsome
 have HNI := Lib.hid hnil
 rw [hn.out]
 have n0 : (0 : Int) ≤ (n : Int) := by omega
 have n1 : (n : Int) ≤ 1000000 := by
  have h1 := posL_len (lvlL L m + 1) (belowL L m) (m + 1)
  have h2 := end_le hm
  have h3 : endL L m = m + 1 + (belowL L m).length := rfl
  have h4 := HS.out.1
  have h5 : (kidsL L m).length = (posL (lvlL L m + 1) (m + 1) (belowL L m)).length := rfl
  rw [hnl, h5]; omega
 clear hb2 hb2w hX2 hnl hcap hcm hnil hsome hrow
 by_cases hlt : pl < n
 ·have hlt' : (pl : Int) < (n : Int) := by omega
  obtain ⟨x, hx⟩ : ∃ x, Hid ((kidsL L m)[pl]? = some x) := ⟨(kidsL L m)[pl]'(by have := HNL.out; omega), List.getElem?_eq_getElem _⟩
  have hf : Hid (r = x) := by show _ = _; rw [← hr.out]; unfold spotL; rw [hx.out]
  cases A2 with
  | none => exfalso; have := (HNI.out rfl).1; rw [hn.out] at this; omega
  | some a2 =>
   obtain ⟨b2, rfl, _⟩ := HSO.out a2 rfl
   have e4 := own_cell HROW.out pl (.int .i64 (x : Int)) (by rw [List.getElem?_map, ints_get hx.out]; rfl)
   go_wp2_with fail
   go_ret
   exact ⟨by rw [hf.out]; rfl, HB2.out⟩
 ·have hlt' : ¬ (pl : Int) < (n : Int) := by omega
  have hf : Hid (endL L m = r) := by
   show _ = _
   rw [← hr.out]
   unfold spotL
   rw [List.getElem?_eq_none (by have := HNL.out; omega)]
  go_wp2_with fail
  refine (Rend_g L A c next m w2 HL2.out HS.out hm r hf).mono ?_
  rintro e3 w3 ⟨rfl, hb3⟩
  have HB3 : Hid (Below w.heap.size w w3) := HB2.out.trans (hb3.mono HB2.out.size)
  clear hb3
  go_wp2_with fail
  go_ret
  exact ⟨rfl, HB3.out⟩
theorem Rwithout_g (L : List RowD) (ad : Addr) (c : Nat) (next : Int) (k : Nat) (w : World) (hL : RowsAt X w w.heap.size (some ad) L) (hs : SmallRows L) (hc : SliceOk (some ad) L.length c) (hk : k < L.length) :
  Calls Tryz.prog 88 #[.agg #[.slice (some ad) L.length c, .int .i64 next], .int .i64 (k : Int)] w fun er w' => ∃ A2 c2 S, er = .returned (.agg #[.slice A2 S.length c2, .int .i64 next]) ∧ S.map (·.1) = withoutL L k ∧ RowsOwn w' w.heap.size A2 c2 S ∧ AttrsOf X w w.heap.size S ∧ Below w.heap.size w w' := by
 obtain ⟨T, t1, t2, t3⟩ := slots_all hL
 obtain ⟨hc1, hc2, _⟩ := hc
 obtain ⟨E, hE⟩ : ∃ E, Hid (endL L k = E) := ⟨_, rfl⟩
 have hEl := end_le hk
 rw [hE.out] at hEl
 obtain ⟨hE0, hE1⟩ := hEl
 have hs1 := hs.1
 have HLL := Lib.hid hL
 have HS := Lib.hid hs
 have HK : Hid (k < L.length) := hk
 obtain ⟨n, hn⟩ : ∃ n, Hid (L.length = n) := ⟨_, rfl⟩
 have hendc : ∀ W : World, Below w.heap.size w W → w.heap.size ≤ W.heap.size → Calls Tryz.prog 56 #[.agg #[.slice (some ad) n c, .int .i64 next], .int .i64 (k : Int)] W (Ret W (.int .i64 (E : Int))) := fun W hb hz => by
  rw [← hn.out]
  exact Rend_g L (some ad) c next k W ((HLL.out.below hb).more hz) HS.out HK.out E hE
 have HENDC := Lib.hid hendc
 rw [hn.out] at hc1 hk hE1 hs1 ⊢
 have hk0 : (0 : Int) ≤ (k : Int) := by omega
 have hk1 : (k : Int) ≤ (n : Int) := by omega
 have hk2 : (k : Int) ≤ (c : Int) := by omega
 have hkc : k ≤ c := by omega
 have hE2 : (E : Int) ≤ (n : Int) := by omega
 have hE3 : (0 : Int) ≤ (E : Int) := by omega
 have hE4 : (E : Int) ≤ (c : Int) := by omega
 have hnc : (n : Int) ≤ (c : Int) := by omega
 have hT : T.length = n := by rw [← hn.out, ← t1, List.length_map]
 obtain ⟨W2, hW2⟩ : ∃ W2, Hid (W2 = (w.alloc (.cells #[.slice (some ad) n c, .int .i64 next] 29)).alloc (.cells #[.slice none 0 0, .int .i64 0] 29)) := ⟨_, rfl⟩
 have hb2 : Below w.heap.size w W2 := by rw [hW2.out]; exact ((Below.refl _ w).alloc (Nat.le_refl _) _).alloc (by simp) _
 have hz2 : W2.heap.size = w.heap.size + 2 := by rw [hW2.out]; simp
 have hx2 : W2.heap[w.heap.size]? = some (.cells #[.slice (some ad) n c, .int .i64 next] 29 (0, 0)) := by
  rw [hW2.out]
  exact (Below.heap_alloc _ _ _ (by simp)).trans (heap_alloc_new w _)
 have hy2 : W2.heap[w.heap.size + 1]? = some (.cells zeroT 29 (0, 0)) := by
  rw [hW2.out]
  have := heap_alloc_new (w.alloc (.cells #[.slice (some ad) n c, .int .i64 next] 29)) (.cells #[.slice none 0 0, .int .i64 0] 29)
  simpa [zeroT] using this
 have htk : (T.take k).length = k := by rw [List.length_take, hT]; omega
 obtain ⟨pa, pc, w3, hr3, hown3, hg3, hf3⟩ := run_append_any (RowsOwn.nil W2 0) (T.take k) (some ad) c ((t3.below hb2).take k) (by simp) (by rw [htk]; omega)
 rw [htk, List.length_nil, Nat.zero_add] at hr3 hf3
 rw [List.nil_append] at hown3
 have hb3 : Below W2.heap.size W2 w3 := ⟨hg3.os, hg3.tape, hg3.output, hg3.size, fun b hb => hg3.block b hb (by simp [Value.ownBlock])⟩
 have hfr3 : ∀ b, (Value.slice pa k pc).ownBlock = some b → W2.heap.size ≤ b := fun b hb => by
  rcases hf3 b hb with h | h
  ·simp [Value.ownBlock] at h
  ·exact h
 have hb3w : Below w.heap.size w w3 := hb2.trans (hb3.mono hb2.size)
 have hAx : Hid (∀ w5 : World, Below W2.heap.size W2 w5 → w5.heap[w.heap.size]? = some (.cells #[.slice (some ad) n c, .int .i64 next] 29 (0, 0)) ∧ w5.heap[w.heap.size + 1]? = some (.cells zeroT 29 (0, 0))) := fun w5 hb =>
  ⟨(hb.block _ (by omega)).trans hx2, (hb.block _ (by omega)).trans hy2⟩
 have a0 := cell_row hx2 0 _ rfl
 have a3 := cell_row ((hAx.out w3 hb3).1) 0 _ rfl
 have HB2 := Lib.hid hb2
 have HB3 := Lib.hid hb3
 have HB3W := Lib.hid hb3w
 have HT1 := Lib.hid t1
 have HT2 := Lib.hid t2
 have HT3 := Lib.hid t3
 have HOWN3 := Lib.hid hown3
 have HFR3 := Lib.hid hfr3
 have HZ2 := Lib.hid hz2
 have HTL := Lib.hid hT
 clear hx2 hy2 hb2 hb3 hb3w t1 t2 t3 hown3 hfr3 hg3 hf3 hT htk hz2 hendc hL hs
 have HEL : Hid (AttrsOf X w w.heap.size (T.take k ++ T.drop E) ∧ (T.take k ++ T.drop E).map (·.1) = withoutL L k ∧ (T.take k ++ T.drop E).length = k + (n - E)) := by
  refine ⟨AttrsOf.app (fun s hs => HT2.out s (List.mem_of_mem_take hs)) (fun s hs => HT2.out s (List.mem_of_mem_drop hs)), ?_, ?_⟩
  ·unfold withoutL
   rw [List.map_append, List.map_take, List.map_drop, HT1.out, hE.out]
  ·rw [List.length_append, List.length_take, List.length_drop, HTL.out]; omega
 have hrest : ∀ (w4 : World) (A5 : Option Addr), Below w3.heap.size w3 w4 → (c = E ∧ A5 = some ad ∨ A5 = some (ad.add (E * 6))) → ∃ pe pf w5, (Builtin.append_ #[27, 27] 27 #[.slice pa k pc, .slice A5 (n - E) (c - E)]).run Tryz.prog w4 = .ok (.slice pe (k + (n - E)) pf) w5 ∧
   Hid (RowsOwn w5 w.heap.size pe pf (T.take k ++ T.drop E)) ∧ Hid (Below W2.heap.size W2 w5) := by
  intro w4 A5 hb4 hA5
  have htk : (T.take k).length = k := by rw [List.length_take, HTL.out]; omega
  have hdk : (T.drop E).length = n - E := by rw [List.length_drop, HTL.out]
  have hb4w : Below w.heap.size w w4 := HB3W.out.trans (hb4.mono HB3W.out.size)
  have hown4 : RowsOwn w4 0 pa pc (T.take k) := HOWN3.out.keepB hb4
  have hsl : SlotsAt w4 w.heap.size A5 (T.drop E) := by
   rcases hA5 with ⟨h, h'⟩ | h
   ·intro hp; exfalso; rw [hdk] at hp; omega
   ·rw [h]; exact (HT3.out.below hb4w).drop E
  obtain ⟨pe, pf, w5, hr5, hown5, hg5, hf5⟩ := run_append_any hown4 (T.drop E) A5 (c - E) hsl (by rw [htk]; omega) (by rw [hdk]; omega)
  rw [htk, hdk] at hr5 hf5
  rw [htk] at hg5
  have hb4' : Below W2.heap.size W2 w4 := HB3.out.trans (hb4.mono HB3.out.size)
  refine ⟨pe, pf, w5, hr5, own_up hown5 fun b hb => ?_, hb4'.grown hg5 hb4'.size HFR3.out⟩
  rw [List.length_append, htk, hdk] at hb
  rcases hf5 b hb with h | h
  ·have := HFR3.out b h; have := HZ2.out; omega
  ·have := hb4'.size; have := HZ2.out; omega
 have HREST := Lib.hid hrest
 clear hrest
 rw [hW2.out] at hr3 a0
 have b3 := cell_row ((hAx.out w3 HB3.out).1) 1 _ rfl
 by_cases hck : c = E
 ·have hnE : n = E := by omega
  have hcE : Hid (c = E) := hck
  have HNE := Lib.hid hnE
  obtain ⟨C, hC⟩ : ∃ C, Hid (c - E = C ∧ n - E = C ∧ C = 0) := ⟨0, by show _ ∧ _; omega⟩
  have hck' : ((c : Int) = (E : Int)) := by omega
  have HREST' : Hid (∀ w4 : World, Below w3.heap.size w3 w4 → ∃ pe pf w5, (Builtin.append_ #[27, 27] 27 #[.slice pa k pc, .slice (some ad) 0 0]).run Tryz.prog w4 = .ok (.slice pe (k + 0) pf) w5 ∧
   Hid (RowsOwn w5 w.heap.size pe pf (T.take k ++ T.drop E)) ∧ Hid (Below W2.heap.size W2 w5)) := fun w4 hb4 => by
   obtain ⟨pe, pf, w5, q1, q2, q3⟩ := HREST.out w4 (some ad) hb4 (.inl ⟨hcE.out, rfl⟩)
   rw [hC.out.1, hC.out.2.1, hC.out.2.2] at q1
   exact ⟨pe, pf, w5, q1, q2, q3⟩
  have HEL' : Hid ((T.take k ++ T.drop E).length = k + 0) := by show _ = _; rw [HEL.out.2.2, hC.out.2.1, hC.out.2.2]
  obtain rfl : n = c := by omega
  obtain rfl : E = n := by omega
  clear hck hnE hck' hE0
  go_enter Tryz.func88, Tryz.ntmps88
  go_upto_region 3 with (at_builtin; refine wpList_append_runI _ rfl _ _ 27 rfl (.slice none 0 0) (.slice (some ad) k E) (by simp [Act.eval]) (by simp [Act.eval]) hr3 ?_)
  have HB3D : Hid (Below w.heap.size w w3.drew) := HB3W.out.trans ⟨rfl, rfl, rfl, Nat.le_refl _, fun _ _ => rfl⟩
  refine wp_region_held_drew (S := fun _ => True) (by kernel_rfl) trivial (fun hHeld => ?_)
  refine tkv 0 (h := tkv 1 (h := ?_))
  refine tkv 4 (h := ?_)
  refine wpAnyH_ready (rs := [2, 3]) (by kernel_rfl) (by simp) ?_
  refine AllReadyH.cons (o := ⟨_, _, _, _, _, _⟩) rfl (fun K hK => ?_) (AllReadyH.cons (o := ⟨_, _, _, _, _, _⟩) rfl (fun K hK => ?_) AllReadyH.nil)
  ·go_simp
   refine hK.out _ _ (trivial) (fun hHeld => ?_)
   clear hK K
   try go_frame
   refine rdy 3 (fun K hK => ?_)
   go_simp
   refine hK.out _ _ (trivial) (fun hHeld => ?_)
   clear hK K
   try go_frame
   refine rdy 5 (fun K hK => ?_)
   go_simp
   refine (HENDC.out w3.drew HB3D.out (by exact HB3D.out.size)).mono ?_
   rintro e4 w4 ⟨rfl, hb4⟩
   have hb4' : Below w3.heap.size w3 w4 := Below.trans (b := w3.drew) ⟨rfl, rfl, rfl, Nat.le_refl _, fun _ _ => rfl⟩ hb4
   have HB4 : Hid (Below W2.heap.size W2 w4) := HB3.out.trans (hb4'.mono HB3.out.size)
   have a4 := cell_row ((hAx.out w4 HB4.out).1) 0 _ rfl
   have b4 := cell_row ((hAx.out w4 HB4.out).1) 1 _ rfl
   obtain ⟨pe, pf, w5, hr5, HOWN5, HB5⟩ := HREST'.out w4 hb4'
   clear hb4 hb4'
   go_wp2_with fail
   refine hK.out _ _ (trivial) (fun hHeld => ?_)
   clear hK K
   try go_frame
   refine tkv 6 (h := ?_)
   refine rdy 7 (fun K hK => ?_)
   have c5 := cell_row (hAx.out w5 HB5.out).1 0 _ rfl
   have e5 := cell_row (hAx.out w5 HB5.out).1 1 _ rfl
   have f5 := free_row (hAx.out w5 HB5.out).1 0
   refine step_append_runI rfl (.tmp 12) (.tmp 18) 27 27 rfl (.slice pa k pc) (.slice (some ad) 0 0) (by simp [Act.eval]) (by simp [Act.eval]) hr5 ?_
   refine hK.out _ _ (trivial) (fun hHeld => ?_)
   clear hK K
   try go_frame
   refine tkv 8 (h := ?_)
   refine rdy 9 (fun K hK => ?_)
   go_simp
   clear c5 e5 f5 a4 b4
   have HB6 : Hid (Below w.heap.size w (w5.setCell ⟨w.heap.size, 0, none⟩ (.slice pe k pf))) := (HB2.out.trans (HB5.out.mono HB2.out.size)).setCell (Nat.le_refl _) _
   obtain ⟨w6, hw6⟩ : ∃ w6, Hid (w5.setCell ⟨w.heap.size, 0, none⟩ (.slice pe k pf) = w6) := ⟨_, rfl⟩
   rw [hw6.out] at HB6
   have hx6 : w6.heap[w.heap.size]? = some (.cells (treeV pe k pf next) 29 (0, 0)) := by rw [← hw6.out]; exact Lib.heap_setCell_same (i := 0) (hAx.out w5 HB5.out).1 _
   have HY6 : Hid (w6.heap[w.heap.size + 1]? = some (.cells zeroT 29 (0, 0))) := by
    show _ = _
    rw [← hw6.out, Below.heap_setCell _ _ _ _ (by show w.heap.size + 1 ≠ w.heap.size; omega)]
    exact (hAx.out w5 HB5.out).2
   have HOWN6 : Hid (RowsOwn w6 w.heap.size pe pf (T.take k ++ T.drop E)) := by
    show RowsOwn _ _ _ _ _
    rw [← hw6.out]
    exact row_block HOWN5.out fun b hb => Below.heap_setCell _ _ _ _ (fun e => by
     have e' : b = w.heap.size := e
     obtain ⟨cur, hcur⟩ := row_type (World.ownsRow.mono HOWN5.out (Nat.zero_le _)) hb
     rw [e', (hAx.out w5 HB5.out).1] at hcur
     injection hcur with hcur
     injection hcur with _ hcur _
     exact absurd hcur (by decide))
   have e0 := cell_row hx6 0 _ rfl
   have e1 := cell_row hx6 1 _ rfl
   clear hx6
   rw [hw6.out]
   refine hK.out _ _ (trivial) (fun hHeld => ?_)
   clear hK K
   try go_frame
   refine wpAnyH_done (by kernel_rfl) ?_ _
   go_wp2_with (refine wpList_store_row rfl 29 (.tmp 4) (.tmp 21) rfl (w.heap.size + 1) (treeV pe k pf next) rfl rfl 29 zeroT HY6.out (by kernel_rfl) rfl (treeV_one _ _ _ _) ?_)
   try simp only [Exit.inBlock, Exit.then]
   refine bodyPost_ret (results_cell_row Tryz.results88 _ _ (w.heap.size + 1) 29 (treeV pe k pf next) (0, 0) _ rfl (setRow_heap _ _ _ _ _ _ HY6.out) Tryz.underlying29 rfl (by kernel_rfl)) rfl ?_
   refine ⟨pe, pf, T.take k ++ T.drop E, by rw [HEL'.out]; rfl, HEL.out.2.1, row_block HOWN6.out fun b hb => setRow_other _ _ _ _ (fun e => ?_), HEL.out.1, ?_⟩
   ·obtain ⟨cur, hcur⟩ := row_type (World.ownsRow.mono HOWN6.out (Nat.zero_le _)) hb
    rw [e, HY6.out] at hcur
    injection hcur with hcur
    injection hcur with _ hcur _
    exact absurd hcur (by decide)
   ·have h1 := HB6.out
    exact ⟨h1.os, h1.tape, h1.output, by rw [setRow_size]; exact h1.size, fun b hb => (setRow_other _ _ _ _ (by omega)).trans (h1.block b hb)⟩
  ·go_simp
   refine hK.out _ _ (trivial) (fun hHeld => ?_)
   clear hK K
   try go_frame
   refine wpAnyH_ready (rs := [2, 5]) (by kernel_rfl) (by simp) ?_
   refine AllReadyH.cons (o := ⟨_, _, _, _, _, _⟩) rfl (fun K hK => ?_) (AllReadyH.cons (o := ⟨_, _, _, _, _, _⟩) rfl (fun K hK => ?_) AllReadyH.nil)
   ·go_simp
    refine hK.out _ _ (trivial) (fun hHeld => ?_)
    clear hK K
    try go_frame
    refine rdy 5 (fun K hK => ?_)
    go_simp
    refine (HENDC.out w3.drew HB3D.out (by exact HB3D.out.size)).mono ?_
    rintro e4 w4 ⟨rfl, hb4⟩
    have hb4' : Below w3.heap.size w3 w4 := Below.trans (b := w3.drew) ⟨rfl, rfl, rfl, Nat.le_refl _, fun _ _ => rfl⟩ hb4
    have HB4 : Hid (Below W2.heap.size W2 w4) := HB3.out.trans (hb4'.mono HB3.out.size)
    have a4 := cell_row ((hAx.out w4 HB4.out).1) 0 _ rfl
    have b4 := cell_row ((hAx.out w4 HB4.out).1) 1 _ rfl
    obtain ⟨pe, pf, w5, hr5, HOWN5, HB5⟩ := HREST'.out w4 hb4'
    clear hb4 hb4'
    go_wp2_with fail
    refine hK.out _ _ (trivial) (fun hHeld => ?_)
    clear hK K
    try go_frame
    refine tkv 6 (h := ?_)
    refine rdy 7 (fun K hK => ?_)
    have c5 := cell_row (hAx.out w5 HB5.out).1 0 _ rfl
    have e5 := cell_row (hAx.out w5 HB5.out).1 1 _ rfl
    have f5 := free_row (hAx.out w5 HB5.out).1 0
    refine step_append_runI rfl (.tmp 12) (.tmp 18) 27 27 rfl (.slice pa k pc) (.slice (some ad) 0 0) (by simp [Act.eval]) (by simp [Act.eval]) hr5 ?_
    refine hK.out _ _ (trivial) (fun hHeld => ?_)
    clear hK K
    try go_frame
    refine tkv 8 (h := ?_)
    refine rdy 9 (fun K hK => ?_)
    go_simp
    clear c5 e5 f5 a4 b4
    have HB6 : Hid (Below w.heap.size w (w5.setCell ⟨w.heap.size, 0, none⟩ (.slice pe k pf))) := (HB2.out.trans (HB5.out.mono HB2.out.size)).setCell (Nat.le_refl _) _
    obtain ⟨w6, hw6⟩ : ∃ w6, Hid (w5.setCell ⟨w.heap.size, 0, none⟩ (.slice pe k pf) = w6) := ⟨_, rfl⟩
    rw [hw6.out] at HB6
    have hx6 : w6.heap[w.heap.size]? = some (.cells (treeV pe k pf next) 29 (0, 0)) := by rw [← hw6.out]; exact Lib.heap_setCell_same (i := 0) (hAx.out w5 HB5.out).1 _
    have HY6 : Hid (w6.heap[w.heap.size + 1]? = some (.cells zeroT 29 (0, 0))) := by
     show _ = _
     rw [← hw6.out, Below.heap_setCell _ _ _ _ (by show w.heap.size + 1 ≠ w.heap.size; omega)]
     exact (hAx.out w5 HB5.out).2
    have HOWN6 : Hid (RowsOwn w6 w.heap.size pe pf (T.take k ++ T.drop E)) := by
     show RowsOwn _ _ _ _ _
     rw [← hw6.out]
     exact row_block HOWN5.out fun b hb => Below.heap_setCell _ _ _ _ (fun e => by
      have e' : b = w.heap.size := e
      obtain ⟨cur, hcur⟩ := row_type (World.ownsRow.mono HOWN5.out (Nat.zero_le _)) hb
      rw [e', (hAx.out w5 HB5.out).1] at hcur
      injection hcur with hcur
      injection hcur with _ hcur _
      exact absurd hcur (by decide))
    have e0 := cell_row hx6 0 _ rfl
    have e1 := cell_row hx6 1 _ rfl
    clear hx6
    rw [hw6.out]
    refine hK.out _ _ (trivial) (fun hHeld => ?_)
    clear hK K
    try go_frame
    refine wpAnyH_done (by kernel_rfl) ?_ _
    go_wp2_with (refine wpList_store_row rfl 29 (.tmp 4) (.tmp 21) rfl (w.heap.size + 1) (treeV pe k pf next) rfl rfl 29 zeroT HY6.out (by kernel_rfl) rfl (treeV_one _ _ _ _) ?_)
    try simp only [Exit.inBlock, Exit.then]
    refine bodyPost_ret (results_cell_row Tryz.results88 _ _ (w.heap.size + 1) 29 (treeV pe k pf next) (0, 0) _ rfl (setRow_heap _ _ _ _ _ _ HY6.out) Tryz.underlying29 rfl (by kernel_rfl)) rfl ?_
    refine ⟨pe, pf, T.take k ++ T.drop E, by rw [HEL'.out]; rfl, HEL.out.2.1, row_block HOWN6.out fun b hb => setRow_other _ _ _ _ (fun e => ?_), HEL.out.1, ?_⟩
    ·obtain ⟨cur, hcur⟩ := row_type (World.ownsRow.mono HOWN6.out (Nat.zero_le _)) hb
     rw [e, HY6.out] at hcur
     injection hcur with hcur
     injection hcur with _ hcur _
     exact absurd hcur (by decide)
    ·have h1 := HB6.out
     exact ⟨h1.os, h1.tape, h1.output, by rw [setRow_size]; exact h1.size, fun b hb => (setRow_other _ _ _ _ (by omega)).trans (h1.block b hb)⟩
   ·go_simp
    refine (HENDC.out w3.drew HB3D.out (by exact HB3D.out.size)).mono ?_
    rintro e4 w4 ⟨rfl, hb4⟩
    have hb4' : Below w3.heap.size w3 w4 := Below.trans (b := w3.drew) ⟨rfl, rfl, rfl, Nat.le_refl _, fun _ _ => rfl⟩ hb4
    have HB4 : Hid (Below W2.heap.size W2 w4) := HB3.out.trans (hb4'.mono HB3.out.size)
    have a4 := cell_row ((hAx.out w4 HB4.out).1) 0 _ rfl
    have b4 := cell_row ((hAx.out w4 HB4.out).1) 1 _ rfl
    obtain ⟨pe, pf, w5, hr5, HOWN5, HB5⟩ := HREST'.out w4 hb4'
    clear hb4 hb4'
    go_wp2_with fail
    refine hK.out _ _ (trivial) (fun hHeld => ?_)
    clear hK K
    try go_frame
    refine rdy 2 (fun K hK => ?_)
    go_simp
    refine hK.out _ _ (trivial) (fun hHeld => ?_)
    clear hK K
    try go_frame
    refine tkv 6 (h := ?_)
    refine rdy 7 (fun K hK => ?_)
    have c5 := cell_row (hAx.out w5 HB5.out).1 0 _ rfl
    have e5 := cell_row (hAx.out w5 HB5.out).1 1 _ rfl
    have f5 := free_row (hAx.out w5 HB5.out).1 0
    refine step_append_runI rfl (.tmp 12) (.tmp 18) 27 27 rfl (.slice pa k pc) (.slice (some ad) 0 0) (by simp [Act.eval]) (by simp [Act.eval]) hr5 ?_
    refine hK.out _ _ (trivial) (fun hHeld => ?_)
    clear hK K
    try go_frame
    refine tkv 8 (h := ?_)
    refine rdy 9 (fun K hK => ?_)
    go_simp
    clear c5 e5 f5 a4 b4
    have HB6 : Hid (Below w.heap.size w (w5.setCell ⟨w.heap.size, 0, none⟩ (.slice pe k pf))) := (HB2.out.trans (HB5.out.mono HB2.out.size)).setCell (Nat.le_refl _) _
    obtain ⟨w6, hw6⟩ : ∃ w6, Hid (w5.setCell ⟨w.heap.size, 0, none⟩ (.slice pe k pf) = w6) := ⟨_, rfl⟩
    rw [hw6.out] at HB6
    have hx6 : w6.heap[w.heap.size]? = some (.cells (treeV pe k pf next) 29 (0, 0)) := by rw [← hw6.out]; exact Lib.heap_setCell_same (i := 0) (hAx.out w5 HB5.out).1 _
    have HY6 : Hid (w6.heap[w.heap.size + 1]? = some (.cells zeroT 29 (0, 0))) := by
     show _ = _
     rw [← hw6.out, Below.heap_setCell _ _ _ _ (by show w.heap.size + 1 ≠ w.heap.size; omega)]
     exact (hAx.out w5 HB5.out).2
    have HOWN6 : Hid (RowsOwn w6 w.heap.size pe pf (T.take k ++ T.drop E)) := by
     show RowsOwn _ _ _ _ _
     rw [← hw6.out]
     exact row_block HOWN5.out fun b hb => Below.heap_setCell _ _ _ _ (fun e => by
      have e' : b = w.heap.size := e
      obtain ⟨cur, hcur⟩ := row_type (World.ownsRow.mono HOWN5.out (Nat.zero_le _)) hb
      rw [e', (hAx.out w5 HB5.out).1] at hcur
      injection hcur with hcur
      injection hcur with _ hcur _
      exact absurd hcur (by decide))
    have e0 := cell_row hx6 0 _ rfl
    have e1 := cell_row hx6 1 _ rfl
    clear hx6
    rw [hw6.out]
    refine hK.out _ _ (trivial) (fun hHeld => ?_)
    clear hK K
    try go_frame
    refine wpAnyH_done (by kernel_rfl) ?_ _
    go_wp2_with (refine wpList_store_row rfl 29 (.tmp 4) (.tmp 21) rfl (w.heap.size + 1) (treeV pe k pf next) rfl rfl 29 zeroT HY6.out (by kernel_rfl) rfl (treeV_one _ _ _ _) ?_)
    try simp only [Exit.inBlock, Exit.then]
    refine bodyPost_ret (results_cell_row Tryz.results88 _ _ (w.heap.size + 1) 29 (treeV pe k pf next) (0, 0) _ rfl (setRow_heap _ _ _ _ _ _ HY6.out) Tryz.underlying29 rfl (by kernel_rfl)) rfl ?_
    refine ⟨pe, pf, T.take k ++ T.drop E, by rw [HEL'.out]; rfl, HEL.out.2.1, row_block HOWN6.out fun b hb => setRow_other _ _ _ _ (fun e => ?_), HEL.out.1, ?_⟩
    ·obtain ⟨cur, hcur⟩ := row_type (World.ownsRow.mono HOWN6.out (Nat.zero_le _)) hb
     rw [e, HY6.out] at hcur
     injection hcur with hcur
     injection hcur with _ hcur _
     exact absurd hcur (by decide)
    ·have h1 := HB6.out
     exact ⟨h1.os, h1.tape, h1.output, by rw [setRow_size]; exact h1.size, fun b hb => (setRow_other _ _ _ _ (by omega)).trans (h1.block b hb)⟩
 ·have hck' : ¬ ((c : Int) = (E : Int)) := by omega
  have HREST' : Hid (∀ w4 : World, Below w3.heap.size w3 w4 → ∃ pe pf w5, (Builtin.append_ #[27, 27] 27 #[.slice pa k pc, .slice (some (ad.add (E * 6))) (n - E) (c - E)]).run Tryz.prog w4 = .ok (.slice pe (k + (n - E)) pf) w5 ∧
   Hid (RowsOwn w5 w.heap.size pe pf (T.take k ++ T.drop E)) ∧ Hid (Below W2.heap.size W2 w5)) := fun w4 hb4 => HREST.out w4 _ hb4 (.inr rfl)
  have HEL' : Hid ((T.take k ++ T.drop E).length = k + (n - E)) := HEL.out.2.2
  go_enter Tryz.func88, Tryz.ntmps88
  go_upto_region 3 with (at_builtin; refine wpList_append_runI _ rfl _ _ 27 rfl (.slice none 0 0) (.slice (some ad) k c) (by simp [Act.eval]) (by simp [Act.eval]) hr3 ?_)
  have HB3D : Hid (Below w.heap.size w w3.drew) := HB3W.out.trans ⟨rfl, rfl, rfl, Nat.le_refl _, fun _ _ => rfl⟩
  refine wp_region_held_drew (S := fun _ => True) (by kernel_rfl) trivial (fun hHeld => ?_)
  refine tkv 0 (h := tkv 1 (h := ?_))
  refine tkv 4 (h := ?_)
  refine wpAnyH_ready (rs := [2, 3]) (by kernel_rfl) (by simp) ?_
  refine AllReadyH.cons (o := ⟨_, _, _, _, _, _⟩) rfl (fun K hK => ?_) (AllReadyH.cons (o := ⟨_, _, _, _, _, _⟩) rfl (fun K hK => ?_) AllReadyH.nil)
  ·go_simp
   refine hK.out _ _ (trivial) (fun hHeld => ?_)
   clear hK K
   try go_frame
   refine rdy 3 (fun K hK => ?_)
   go_simp
   refine hK.out _ _ (trivial) (fun hHeld => ?_)
   clear hK K
   try go_frame
   refine rdy 5 (fun K hK => ?_)
   go_simp
   refine (HENDC.out w3.drew HB3D.out (by exact HB3D.out.size)).mono ?_
   rintro e4 w4 ⟨rfl, hb4⟩
   have hb4' : Below w3.heap.size w3 w4 := Below.trans (b := w3.drew) ⟨rfl, rfl, rfl, Nat.le_refl _, fun _ _ => rfl⟩ hb4
   have HB4 : Hid (Below W2.heap.size W2 w4) := HB3.out.trans (hb4'.mono HB3.out.size)
   have a4 := cell_row ((hAx.out w4 HB4.out).1) 0 _ rfl
   have b4 := cell_row ((hAx.out w4 HB4.out).1) 1 _ rfl
   obtain ⟨pe, pf, w5, hr5, HOWN5, HB5⟩ := HREST'.out w4 hb4'
   clear hb4 hb4'
   go_wp2_with fail
   refine hK.out _ _ (trivial) (fun hHeld => ?_)
   clear hK K
   try go_frame
   refine tkv 6 (h := ?_)
   refine rdy 7 (fun K hK => ?_)
   have c5 := cell_row (hAx.out w5 HB5.out).1 0 _ rfl
   have e5 := cell_row (hAx.out w5 HB5.out).1 1 _ rfl
   have f5 := free_row (hAx.out w5 HB5.out).1 0
   refine step_append_runI rfl (.tmp 12) (.tmp 18) 27 27 rfl (.slice pa k pc) (.slice (some (ad.add (E * 6))) (n - E) (c - E)) (by simp [Act.eval]) (by simp [Act.eval]) hr5 ?_
   refine hK.out _ _ (trivial) (fun hHeld => ?_)
   clear hK K
   try go_frame
   refine tkv 8 (h := ?_)
   refine rdy 9 (fun K hK => ?_)
   go_simp
   clear c5 e5 f5 a4 b4
   have HB6 : Hid (Below w.heap.size w (w5.setCell ⟨w.heap.size, 0, none⟩ (.slice pe (k + (n - E)) pf))) := (HB2.out.trans (HB5.out.mono HB2.out.size)).setCell (Nat.le_refl _) _
   obtain ⟨w6, hw6⟩ : ∃ w6, Hid (w5.setCell ⟨w.heap.size, 0, none⟩ (.slice pe (k + (n - E)) pf) = w6) := ⟨_, rfl⟩
   rw [hw6.out] at HB6
   have hx6 : w6.heap[w.heap.size]? = some (.cells (treeV pe (k + (n - E)) pf next) 29 (0, 0)) := by rw [← hw6.out]; exact Lib.heap_setCell_same (i := 0) (hAx.out w5 HB5.out).1 _
   have HY6 : Hid (w6.heap[w.heap.size + 1]? = some (.cells zeroT 29 (0, 0))) := by
    show _ = _
    rw [← hw6.out, Below.heap_setCell _ _ _ _ (by show w.heap.size + 1 ≠ w.heap.size; omega)]
    exact (hAx.out w5 HB5.out).2
   have HOWN6 : Hid (RowsOwn w6 w.heap.size pe pf (T.take k ++ T.drop E)) := by
    show RowsOwn _ _ _ _ _
    rw [← hw6.out]
    exact row_block HOWN5.out fun b hb => Below.heap_setCell _ _ _ _ (fun e => by
     have e' : b = w.heap.size := e
     obtain ⟨cur, hcur⟩ := row_type (World.ownsRow.mono HOWN5.out (Nat.zero_le _)) hb
     rw [e', (hAx.out w5 HB5.out).1] at hcur
     injection hcur with hcur
     injection hcur with _ hcur _
     exact absurd hcur (by decide))
   have e0 := cell_row hx6 0 _ rfl
   have e1 := cell_row hx6 1 _ rfl
   clear hx6
   rw [hw6.out]
   refine hK.out _ _ (trivial) (fun hHeld => ?_)
   clear hK K
   try go_frame
   refine wpAnyH_done (by kernel_rfl) ?_ _
   go_wp2_with (refine wpList_store_row rfl 29 (.tmp 4) (.tmp 21) rfl (w.heap.size + 1) (treeV pe (k + (n - E)) pf next) rfl rfl 29 zeroT HY6.out (by kernel_rfl) rfl (treeV_one _ _ _ _) ?_)
   try simp only [Exit.inBlock, Exit.then]
   refine bodyPost_ret (results_cell_row Tryz.results88 _ _ (w.heap.size + 1) 29 (treeV pe (k + (n - E)) pf next) (0, 0) _ rfl (setRow_heap _ _ _ _ _ _ HY6.out) Tryz.underlying29 rfl (by kernel_rfl)) rfl ?_
   refine ⟨pe, pf, T.take k ++ T.drop E, by rw [HEL'.out]; rfl, HEL.out.2.1, row_block HOWN6.out fun b hb => setRow_other _ _ _ _ (fun e => ?_), HEL.out.1, ?_⟩
   ·obtain ⟨cur, hcur⟩ := row_type (World.ownsRow.mono HOWN6.out (Nat.zero_le _)) hb
    rw [e, HY6.out] at hcur
    injection hcur with hcur
    injection hcur with _ hcur _
    exact absurd hcur (by decide)
   ·have h1 := HB6.out
    exact ⟨h1.os, h1.tape, h1.output, by rw [setRow_size]; exact h1.size, fun b hb => (setRow_other _ _ _ _ (by omega)).trans (h1.block b hb)⟩
  ·go_simp
   refine hK.out _ _ (trivial) (fun hHeld => ?_)
   clear hK K
   try go_frame
   refine wpAnyH_ready (rs := [2, 5]) (by kernel_rfl) (by simp) ?_
   refine AllReadyH.cons (o := ⟨_, _, _, _, _, _⟩) rfl (fun K hK => ?_) (AllReadyH.cons (o := ⟨_, _, _, _, _, _⟩) rfl (fun K hK => ?_) AllReadyH.nil)
   ·go_simp
    refine hK.out _ _ (trivial) (fun hHeld => ?_)
    clear hK K
    try go_frame
    refine rdy 5 (fun K hK => ?_)
    go_simp
    refine (HENDC.out w3.drew HB3D.out (by exact HB3D.out.size)).mono ?_
    rintro e4 w4 ⟨rfl, hb4⟩
    have hb4' : Below w3.heap.size w3 w4 := Below.trans (b := w3.drew) ⟨rfl, rfl, rfl, Nat.le_refl _, fun _ _ => rfl⟩ hb4
    have HB4 : Hid (Below W2.heap.size W2 w4) := HB3.out.trans (hb4'.mono HB3.out.size)
    have a4 := cell_row ((hAx.out w4 HB4.out).1) 0 _ rfl
    have b4 := cell_row ((hAx.out w4 HB4.out).1) 1 _ rfl
    obtain ⟨pe, pf, w5, hr5, HOWN5, HB5⟩ := HREST'.out w4 hb4'
    clear hb4 hb4'
    go_wp2_with fail
    refine hK.out _ _ (trivial) (fun hHeld => ?_)
    clear hK K
    try go_frame
    refine tkv 6 (h := ?_)
    refine rdy 7 (fun K hK => ?_)
    have c5 := cell_row (hAx.out w5 HB5.out).1 0 _ rfl
    have e5 := cell_row (hAx.out w5 HB5.out).1 1 _ rfl
    have f5 := free_row (hAx.out w5 HB5.out).1 0
    refine step_append_runI rfl (.tmp 12) (.tmp 18) 27 27 rfl (.slice pa k pc) (.slice (some (ad.add (E * 6))) (n - E) (c - E)) (by simp [Act.eval]) (by simp [Act.eval]) hr5 ?_
    refine hK.out _ _ (trivial) (fun hHeld => ?_)
    clear hK K
    try go_frame
    refine tkv 8 (h := ?_)
    refine rdy 9 (fun K hK => ?_)
    go_simp
    clear c5 e5 f5 a4 b4
    have HB6 : Hid (Below w.heap.size w (w5.setCell ⟨w.heap.size, 0, none⟩ (.slice pe (k + (n - E)) pf))) := (HB2.out.trans (HB5.out.mono HB2.out.size)).setCell (Nat.le_refl _) _
    obtain ⟨w6, hw6⟩ : ∃ w6, Hid (w5.setCell ⟨w.heap.size, 0, none⟩ (.slice pe (k + (n - E)) pf) = w6) := ⟨_, rfl⟩
    rw [hw6.out] at HB6
    have hx6 : w6.heap[w.heap.size]? = some (.cells (treeV pe (k + (n - E)) pf next) 29 (0, 0)) := by rw [← hw6.out]; exact Lib.heap_setCell_same (i := 0) (hAx.out w5 HB5.out).1 _
    have HY6 : Hid (w6.heap[w.heap.size + 1]? = some (.cells zeroT 29 (0, 0))) := by
     show _ = _
     rw [← hw6.out, Below.heap_setCell _ _ _ _ (by show w.heap.size + 1 ≠ w.heap.size; omega)]
     exact (hAx.out w5 HB5.out).2
    have HOWN6 : Hid (RowsOwn w6 w.heap.size pe pf (T.take k ++ T.drop E)) := by
     show RowsOwn _ _ _ _ _
     rw [← hw6.out]
     exact row_block HOWN5.out fun b hb => Below.heap_setCell _ _ _ _ (fun e => by
      have e' : b = w.heap.size := e
      obtain ⟨cur, hcur⟩ := row_type (World.ownsRow.mono HOWN5.out (Nat.zero_le _)) hb
      rw [e', (hAx.out w5 HB5.out).1] at hcur
      injection hcur with hcur
      injection hcur with _ hcur _
      exact absurd hcur (by decide))
    have e0 := cell_row hx6 0 _ rfl
    have e1 := cell_row hx6 1 _ rfl
    clear hx6
    rw [hw6.out]
    refine hK.out _ _ (trivial) (fun hHeld => ?_)
    clear hK K
    try go_frame
    refine wpAnyH_done (by kernel_rfl) ?_ _
    go_wp2_with (refine wpList_store_row rfl 29 (.tmp 4) (.tmp 21) rfl (w.heap.size + 1) (treeV pe (k + (n - E)) pf next) rfl rfl 29 zeroT HY6.out (by kernel_rfl) rfl (treeV_one _ _ _ _) ?_)
    try simp only [Exit.inBlock, Exit.then]
    refine bodyPost_ret (results_cell_row Tryz.results88 _ _ (w.heap.size + 1) 29 (treeV pe (k + (n - E)) pf next) (0, 0) _ rfl (setRow_heap _ _ _ _ _ _ HY6.out) Tryz.underlying29 rfl (by kernel_rfl)) rfl ?_
    refine ⟨pe, pf, T.take k ++ T.drop E, by rw [HEL'.out]; rfl, HEL.out.2.1, row_block HOWN6.out fun b hb => setRow_other _ _ _ _ (fun e => ?_), HEL.out.1, ?_⟩
    ·obtain ⟨cur, hcur⟩ := row_type (World.ownsRow.mono HOWN6.out (Nat.zero_le _)) hb
     rw [e, HY6.out] at hcur
     injection hcur with hcur
     injection hcur with _ hcur _
     exact absurd hcur (by decide)
    ·have h1 := HB6.out
     exact ⟨h1.os, h1.tape, h1.output, by rw [setRow_size]; exact h1.size, fun b hb => (setRow_other _ _ _ _ (by omega)).trans (h1.block b hb)⟩
   ·go_simp
    refine (HENDC.out w3.drew HB3D.out (by exact HB3D.out.size)).mono ?_
    rintro e4 w4 ⟨rfl, hb4⟩
    have hb4' : Below w3.heap.size w3 w4 := Below.trans (b := w3.drew) ⟨rfl, rfl, rfl, Nat.le_refl _, fun _ _ => rfl⟩ hb4
    have HB4 : Hid (Below W2.heap.size W2 w4) := HB3.out.trans (hb4'.mono HB3.out.size)
    have a4 := cell_row ((hAx.out w4 HB4.out).1) 0 _ rfl
    have b4 := cell_row ((hAx.out w4 HB4.out).1) 1 _ rfl
    obtain ⟨pe, pf, w5, hr5, HOWN5, HB5⟩ := HREST'.out w4 hb4'
    clear hb4 hb4'
    go_wp2_with fail
    refine hK.out _ _ (trivial) (fun hHeld => ?_)
    clear hK K
    try go_frame
    refine rdy 2 (fun K hK => ?_)
    go_simp
    refine hK.out _ _ (trivial) (fun hHeld => ?_)
    clear hK K
    try go_frame
    refine tkv 6 (h := ?_)
    refine rdy 7 (fun K hK => ?_)
    have c5 := cell_row (hAx.out w5 HB5.out).1 0 _ rfl
    have e5 := cell_row (hAx.out w5 HB5.out).1 1 _ rfl
    have f5 := free_row (hAx.out w5 HB5.out).1 0
    refine step_append_runI rfl (.tmp 12) (.tmp 18) 27 27 rfl (.slice pa k pc) (.slice (some (ad.add (E * 6))) (n - E) (c - E)) (by simp [Act.eval]) (by simp [Act.eval]) hr5 ?_
    refine hK.out _ _ (trivial) (fun hHeld => ?_)
    clear hK K
    try go_frame
    refine tkv 8 (h := ?_)
    refine rdy 9 (fun K hK => ?_)
    go_simp
    clear c5 e5 f5 a4 b4
    have HB6 : Hid (Below w.heap.size w (w5.setCell ⟨w.heap.size, 0, none⟩ (.slice pe (k + (n - E)) pf))) := (HB2.out.trans (HB5.out.mono HB2.out.size)).setCell (Nat.le_refl _) _
    obtain ⟨w6, hw6⟩ : ∃ w6, Hid (w5.setCell ⟨w.heap.size, 0, none⟩ (.slice pe (k + (n - E)) pf) = w6) := ⟨_, rfl⟩
    rw [hw6.out] at HB6
    have hx6 : w6.heap[w.heap.size]? = some (.cells (treeV pe (k + (n - E)) pf next) 29 (0, 0)) := by rw [← hw6.out]; exact Lib.heap_setCell_same (i := 0) (hAx.out w5 HB5.out).1 _
    have HY6 : Hid (w6.heap[w.heap.size + 1]? = some (.cells zeroT 29 (0, 0))) := by
     show _ = _
     rw [← hw6.out, Below.heap_setCell _ _ _ _ (by show w.heap.size + 1 ≠ w.heap.size; omega)]
     exact (hAx.out w5 HB5.out).2
    have HOWN6 : Hid (RowsOwn w6 w.heap.size pe pf (T.take k ++ T.drop E)) := by
     show RowsOwn _ _ _ _ _
     rw [← hw6.out]
     exact row_block HOWN5.out fun b hb => Below.heap_setCell _ _ _ _ (fun e => by
      have e' : b = w.heap.size := e
      obtain ⟨cur, hcur⟩ := row_type (World.ownsRow.mono HOWN5.out (Nat.zero_le _)) hb
      rw [e', (hAx.out w5 HB5.out).1] at hcur
      injection hcur with hcur
      injection hcur with _ hcur _
      exact absurd hcur (by decide))
    have e0 := cell_row hx6 0 _ rfl
    have e1 := cell_row hx6 1 _ rfl
    clear hx6
    rw [hw6.out]
    refine hK.out _ _ (trivial) (fun hHeld => ?_)
    clear hK K
    try go_frame
    refine wpAnyH_done (by kernel_rfl) ?_ _
    go_wp2_with (refine wpList_store_row rfl 29 (.tmp 4) (.tmp 21) rfl (w.heap.size + 1) (treeV pe (k + (n - E)) pf next) rfl rfl 29 zeroT HY6.out (by kernel_rfl) rfl (treeV_one _ _ _ _) ?_)
    try simp only [Exit.inBlock, Exit.then]
    refine bodyPost_ret (results_cell_row Tryz.results88 _ _ (w.heap.size + 1) 29 (treeV pe (k + (n - E)) pf next) (0, 0) _ rfl (setRow_heap _ _ _ _ _ _ HY6.out) Tryz.underlying29 rfl (by kernel_rfl)) rfl ?_
    refine ⟨pe, pf, T.take k ++ T.drop E, by rw [HEL'.out]; rfl, HEL.out.2.1, row_block HOWN6.out fun b hb => setRow_other _ _ _ _ (fun e => ?_), HEL.out.1, ?_⟩
    ·obtain ⟨cur, hcur⟩ := row_type (World.ownsRow.mono HOWN6.out (Nat.zero_le _)) hb
     rw [e, HY6.out] at hcur
     injection hcur with hcur
     injection hcur with _ hcur _
     exact absurd hcur (by decide)
    ·have h1 := HB6.out
     exact ⟨h1.os, h1.tape, h1.output, by rw [setRow_size]; exact h1.size, fun b hb => (setRow_other _ _ _ _ (by omega)).trans (h1.block b hb)⟩
end
section
open Go.RowKit
theorem dT (a b : Int) (h : a ≤ b := by omega) : decide (a ≤ b) = true := decide_eq_true h
theorem dF (a b : Int) (h : b < a := by omega) : decide (a ≤ b) = false := decide_eq_false (by omega)
theorem eF (a b : Int) (h : a ≠ b := by omega) : (a == b) = false := by simpa using h
theorem RStart_any (c : Int) (w : World) : Calls Tryz.prog 108 #[.int .i32 c] w (Ret w (.bool (startB c))) := by
 rcases Int.lt_or_le c 65 with k0 | k0
 ·have e95 := eF c 95
  have e8204 := eF c 8204
  have e8205 := eF c 8205
  have a65 := dF 65 c
  have b90 := dT c 90
  have a97 := dF 97 c
  have b122 := dT c 122
  have a192 := dF 192 c
  have b214 := dT c 214
  have a216 := dF 216 c
  have b246 := dT c 246
  have a248 := dF 248 c
  have b767 := dT c 767
  have a880 := dF 880 c
  have b893 := dT c 893
  have a895 := dF 895 c
  have b8191 := dT c 8191
  have a8304 := dF 8304 c
  have b8591 := dT c 8591
  have a11264 := dF 11264 c
  have b12271 := dT c 12271
  have a12289 := dF 12289 c
  have b55295 := dT c 55295
  have a63744 := dF 63744 c
  have b64975 := dT c 64975
  have a65008 := dF 65008 c
  have b65533 := dT c 65533
  have a65536 := dF 65536 c
  have b983039 := dT c 983039
  have hv : Hid (startB c = false) := by show _ = _; unfold startB; simp; omega
  clear k0
  go_enter Tryz.func108, Tryz.ntmps108
  go_wp2_with fail
  go_ret
  exact ⟨by rw [hv.out]; rfl, Below.refl _ _⟩
 rcases Int.lt_or_le c 91 with k1 | k1
 ·have e95 := eF c 95
  have e8204 := eF c 8204
  have e8205 := eF c 8205
  have a65 := dT 65 c
  have b90 := dT c 90
  have a97 := dF 97 c
  have b122 := dT c 122
  have a192 := dF 192 c
  have b214 := dT c 214
  have a216 := dF 216 c
  have b246 := dT c 246
  have a248 := dF 248 c
  have b767 := dT c 767
  have a880 := dF 880 c
  have b893 := dT c 893
  have a895 := dF 895 c
  have b8191 := dT c 8191
  have a8304 := dF 8304 c
  have b8591 := dT c 8591
  have a11264 := dF 11264 c
  have b12271 := dT c 12271
  have a12289 := dF 12289 c
  have b55295 := dT c 55295
  have a63744 := dF 63744 c
  have b64975 := dT c 64975
  have a65008 := dF 65008 c
  have b65533 := dT c 65533
  have a65536 := dF 65536 c
  have b983039 := dT c 983039
  have hv : Hid (startB c = true) := by show _ = _; unfold startB; simp; omega
  clear k0 k1
  go_enter Tryz.func108, Tryz.ntmps108
  go_wp2_with fail
  go_ret
  exact ⟨by rw [hv.out]; rfl, Below.refl _ _⟩
 rcases Int.lt_or_le c 95 with k2 | k2
 ·have e95 := eF c 95
  have e8204 := eF c 8204
  have e8205 := eF c 8205
  have a65 := dT 65 c
  have b90 := dF c 90
  have a97 := dF 97 c
  have b122 := dT c 122
  have a192 := dF 192 c
  have b214 := dT c 214
  have a216 := dF 216 c
  have b246 := dT c 246
  have a248 := dF 248 c
  have b767 := dT c 767
  have a880 := dF 880 c
  have b893 := dT c 893
  have a895 := dF 895 c
  have b8191 := dT c 8191
  have a8304 := dF 8304 c
  have b8591 := dT c 8591
  have a11264 := dF 11264 c
  have b12271 := dT c 12271
  have a12289 := dF 12289 c
  have b55295 := dT c 55295
  have a63744 := dF 63744 c
  have b64975 := dT c 64975
  have a65008 := dF 65008 c
  have b65533 := dT c 65533
  have a65536 := dF 65536 c
  have b983039 := dT c 983039
  have hv : Hid (startB c = false) := by show _ = _; unfold startB; simp; omega
  clear k0 k1 k2
  go_enter Tryz.func108, Tryz.ntmps108
  go_wp2_with fail
  go_ret
  exact ⟨by rw [hv.out]; rfl, Below.refl _ _⟩
 rcases Int.lt_or_le c 96 with k3 | k3
 ·have e95 : (c == 95) = true := by simp; omega
  have e8204 := eF c 8204
  have e8205 := eF c 8205
  have a65 := dT 65 c
  have b90 := dF c 90
  have a97 := dF 97 c
  have b122 := dT c 122
  have a192 := dF 192 c
  have b214 := dT c 214
  have a216 := dF 216 c
  have b246 := dT c 246
  have a248 := dF 248 c
  have b767 := dT c 767
  have a880 := dF 880 c
  have b893 := dT c 893
  have a895 := dF 895 c
  have b8191 := dT c 8191
  have a8304 := dF 8304 c
  have b8591 := dT c 8591
  have a11264 := dF 11264 c
  have b12271 := dT c 12271
  have a12289 := dF 12289 c
  have b55295 := dT c 55295
  have a63744 := dF 63744 c
  have b64975 := dT c 64975
  have a65008 := dF 65008 c
  have b65533 := dT c 65533
  have a65536 := dF 65536 c
  have b983039 := dT c 983039
  have hv : Hid (startB c = true) := by show _ = _; unfold startB; simp; omega
  clear k0 k1 k2 k3
  go_enter Tryz.func108, Tryz.ntmps108
  go_wp2_with fail
  go_ret
  exact ⟨by rw [hv.out]; rfl, Below.refl _ _⟩
 rcases Int.lt_or_le c 97 with k4 | k4
 ·have e95 := eF c 95
  have e8204 := eF c 8204
  have e8205 := eF c 8205
  have a65 := dT 65 c
  have b90 := dF c 90
  have a97 := dF 97 c
  have b122 := dT c 122
  have a192 := dF 192 c
  have b214 := dT c 214
  have a216 := dF 216 c
  have b246 := dT c 246
  have a248 := dF 248 c
  have b767 := dT c 767
  have a880 := dF 880 c
  have b893 := dT c 893
  have a895 := dF 895 c
  have b8191 := dT c 8191
  have a8304 := dF 8304 c
  have b8591 := dT c 8591
  have a11264 := dF 11264 c
  have b12271 := dT c 12271
  have a12289 := dF 12289 c
  have b55295 := dT c 55295
  have a63744 := dF 63744 c
  have b64975 := dT c 64975
  have a65008 := dF 65008 c
  have b65533 := dT c 65533
  have a65536 := dF 65536 c
  have b983039 := dT c 983039
  have hv : Hid (startB c = false) := by show _ = _; unfold startB; simp; omega
  clear k0 k1 k2 k3 k4
  go_enter Tryz.func108, Tryz.ntmps108
  go_wp2_with fail
  go_ret
  exact ⟨by rw [hv.out]; rfl, Below.refl _ _⟩
 rcases Int.lt_or_le c 123 with k5 | k5
 ·have e95 := eF c 95
  have e8204 := eF c 8204
  have e8205 := eF c 8205
  have a65 := dT 65 c
  have b90 := dF c 90
  have a97 := dT 97 c
  have b122 := dT c 122
  have a192 := dF 192 c
  have b214 := dT c 214
  have a216 := dF 216 c
  have b246 := dT c 246
  have a248 := dF 248 c
  have b767 := dT c 767
  have a880 := dF 880 c
  have b893 := dT c 893
  have a895 := dF 895 c
  have b8191 := dT c 8191
  have a8304 := dF 8304 c
  have b8591 := dT c 8591
  have a11264 := dF 11264 c
  have b12271 := dT c 12271
  have a12289 := dF 12289 c
  have b55295 := dT c 55295
  have a63744 := dF 63744 c
  have b64975 := dT c 64975
  have a65008 := dF 65008 c
  have b65533 := dT c 65533
  have a65536 := dF 65536 c
  have b983039 := dT c 983039
  have hv : Hid (startB c = true) := by show _ = _; unfold startB; simp; omega
  clear k0 k1 k2 k3 k4 k5
  go_enter Tryz.func108, Tryz.ntmps108
  go_wp2_with fail
  go_ret
  exact ⟨by rw [hv.out]; rfl, Below.refl _ _⟩
 rcases Int.lt_or_le c 192 with k6 | k6
 ·have e95 := eF c 95
  have e8204 := eF c 8204
  have e8205 := eF c 8205
  have a65 := dT 65 c
  have b90 := dF c 90
  have a97 := dT 97 c
  have b122 := dF c 122
  have a192 := dF 192 c
  have b214 := dT c 214
  have a216 := dF 216 c
  have b246 := dT c 246
  have a248 := dF 248 c
  have b767 := dT c 767
  have a880 := dF 880 c
  have b893 := dT c 893
  have a895 := dF 895 c
  have b8191 := dT c 8191
  have a8304 := dF 8304 c
  have b8591 := dT c 8591
  have a11264 := dF 11264 c
  have b12271 := dT c 12271
  have a12289 := dF 12289 c
  have b55295 := dT c 55295
  have a63744 := dF 63744 c
  have b64975 := dT c 64975
  have a65008 := dF 65008 c
  have b65533 := dT c 65533
  have a65536 := dF 65536 c
  have b983039 := dT c 983039
  have hv : Hid (startB c = false) := by show _ = _; unfold startB; simp; omega
  clear k0 k1 k2 k3 k4 k5 k6
  go_enter Tryz.func108, Tryz.ntmps108
  go_wp2_with fail
  go_ret
  exact ⟨by rw [hv.out]; rfl, Below.refl _ _⟩
 rcases Int.lt_or_le c 215 with k7 | k7
 ·have e95 := eF c 95
  have e8204 := eF c 8204
  have e8205 := eF c 8205
  have a65 := dT 65 c
  have b90 := dF c 90
  have a97 := dT 97 c
  have b122 := dF c 122
  have a192 := dT 192 c
  have b214 := dT c 214
  have a216 := dF 216 c
  have b246 := dT c 246
  have a248 := dF 248 c
  have b767 := dT c 767
  have a880 := dF 880 c
  have b893 := dT c 893
  have a895 := dF 895 c
  have b8191 := dT c 8191
  have a8304 := dF 8304 c
  have b8591 := dT c 8591
  have a11264 := dF 11264 c
  have b12271 := dT c 12271
  have a12289 := dF 12289 c
  have b55295 := dT c 55295
  have a63744 := dF 63744 c
  have b64975 := dT c 64975
  have a65008 := dF 65008 c
  have b65533 := dT c 65533
  have a65536 := dF 65536 c
  have b983039 := dT c 983039
  have hv : Hid (startB c = true) := by show _ = _; unfold startB; simp; omega
  clear k0 k1 k2 k3 k4 k5 k6 k7
  go_enter Tryz.func108, Tryz.ntmps108
  go_wp2_with fail
  go_ret
  exact ⟨by rw [hv.out]; rfl, Below.refl _ _⟩
 rcases Int.lt_or_le c 216 with k8 | k8
 ·have e95 := eF c 95
  have e8204 := eF c 8204
  have e8205 := eF c 8205
  have a65 := dT 65 c
  have b90 := dF c 90
  have a97 := dT 97 c
  have b122 := dF c 122
  have a192 := dT 192 c
  have b214 := dF c 214
  have a216 := dF 216 c
  have b246 := dT c 246
  have a248 := dF 248 c
  have b767 := dT c 767
  have a880 := dF 880 c
  have b893 := dT c 893
  have a895 := dF 895 c
  have b8191 := dT c 8191
  have a8304 := dF 8304 c
  have b8591 := dT c 8591
  have a11264 := dF 11264 c
  have b12271 := dT c 12271
  have a12289 := dF 12289 c
  have b55295 := dT c 55295
  have a63744 := dF 63744 c
  have b64975 := dT c 64975
  have a65008 := dF 65008 c
  have b65533 := dT c 65533
  have a65536 := dF 65536 c
  have b983039 := dT c 983039
  have hv : Hid (startB c = false) := by show _ = _; unfold startB; simp; omega
  clear k0 k1 k2 k3 k4 k5 k6 k7 k8
  go_enter Tryz.func108, Tryz.ntmps108
  go_wp2_with fail
  go_ret
  exact ⟨by rw [hv.out]; rfl, Below.refl _ _⟩
 rcases Int.lt_or_le c 247 with k9 | k9
 ·have e95 := eF c 95
  have e8204 := eF c 8204
  have e8205 := eF c 8205
  have a65 := dT 65 c
  have b90 := dF c 90
  have a97 := dT 97 c
  have b122 := dF c 122
  have a192 := dT 192 c
  have b214 := dF c 214
  have a216 := dT 216 c
  have b246 := dT c 246
  have a248 := dF 248 c
  have b767 := dT c 767
  have a880 := dF 880 c
  have b893 := dT c 893
  have a895 := dF 895 c
  have b8191 := dT c 8191
  have a8304 := dF 8304 c
  have b8591 := dT c 8591
  have a11264 := dF 11264 c
  have b12271 := dT c 12271
  have a12289 := dF 12289 c
  have b55295 := dT c 55295
  have a63744 := dF 63744 c
  have b64975 := dT c 64975
  have a65008 := dF 65008 c
  have b65533 := dT c 65533
  have a65536 := dF 65536 c
  have b983039 := dT c 983039
  have hv : Hid (startB c = true) := by show _ = _; unfold startB; simp; omega
  clear k0 k1 k2 k3 k4 k5 k6 k7 k8 k9
  go_enter Tryz.func108, Tryz.ntmps108
  go_wp2_with fail
  go_ret
  exact ⟨by rw [hv.out]; rfl, Below.refl _ _⟩
 rcases Int.lt_or_le c 248 with k10 | k10
 ·have e95 := eF c 95
  have e8204 := eF c 8204
  have e8205 := eF c 8205
  have a65 := dT 65 c
  have b90 := dF c 90
  have a97 := dT 97 c
  have b122 := dF c 122
  have a192 := dT 192 c
  have b214 := dF c 214
  have a216 := dT 216 c
  have b246 := dF c 246
  have a248 := dF 248 c
  have b767 := dT c 767
  have a880 := dF 880 c
  have b893 := dT c 893
  have a895 := dF 895 c
  have b8191 := dT c 8191
  have a8304 := dF 8304 c
  have b8591 := dT c 8591
  have a11264 := dF 11264 c
  have b12271 := dT c 12271
  have a12289 := dF 12289 c
  have b55295 := dT c 55295
  have a63744 := dF 63744 c
  have b64975 := dT c 64975
  have a65008 := dF 65008 c
  have b65533 := dT c 65533
  have a65536 := dF 65536 c
  have b983039 := dT c 983039
  have hv : Hid (startB c = false) := by show _ = _; unfold startB; simp; omega
  clear k0 k1 k2 k3 k4 k5 k6 k7 k8 k9 k10
  go_enter Tryz.func108, Tryz.ntmps108
  go_wp2_with fail
  go_ret
  exact ⟨by rw [hv.out]; rfl, Below.refl _ _⟩
 rcases Int.lt_or_le c 768 with k11 | k11
 ·have e95 := eF c 95
  have e8204 := eF c 8204
  have e8205 := eF c 8205
  have a65 := dT 65 c
  have b90 := dF c 90
  have a97 := dT 97 c
  have b122 := dF c 122
  have a192 := dT 192 c
  have b214 := dF c 214
  have a216 := dT 216 c
  have b246 := dF c 246
  have a248 := dT 248 c
  have b767 := dT c 767
  have a880 := dF 880 c
  have b893 := dT c 893
  have a895 := dF 895 c
  have b8191 := dT c 8191
  have a8304 := dF 8304 c
  have b8591 := dT c 8591
  have a11264 := dF 11264 c
  have b12271 := dT c 12271
  have a12289 := dF 12289 c
  have b55295 := dT c 55295
  have a63744 := dF 63744 c
  have b64975 := dT c 64975
  have a65008 := dF 65008 c
  have b65533 := dT c 65533
  have a65536 := dF 65536 c
  have b983039 := dT c 983039
  have hv : Hid (startB c = true) := by show _ = _; unfold startB; simp; omega
  clear k0 k1 k2 k3 k4 k5 k6 k7 k8 k9 k10 k11
  go_enter Tryz.func108, Tryz.ntmps108
  go_wp2_with fail
  go_ret
  exact ⟨by rw [hv.out]; rfl, Below.refl _ _⟩
 rcases Int.lt_or_le c 880 with k12 | k12
 ·have e95 := eF c 95
  have e8204 := eF c 8204
  have e8205 := eF c 8205
  have a65 := dT 65 c
  have b90 := dF c 90
  have a97 := dT 97 c
  have b122 := dF c 122
  have a192 := dT 192 c
  have b214 := dF c 214
  have a216 := dT 216 c
  have b246 := dF c 246
  have a248 := dT 248 c
  have b767 := dF c 767
  have a880 := dF 880 c
  have b893 := dT c 893
  have a895 := dF 895 c
  have b8191 := dT c 8191
  have a8304 := dF 8304 c
  have b8591 := dT c 8591
  have a11264 := dF 11264 c
  have b12271 := dT c 12271
  have a12289 := dF 12289 c
  have b55295 := dT c 55295
  have a63744 := dF 63744 c
  have b64975 := dT c 64975
  have a65008 := dF 65008 c
  have b65533 := dT c 65533
  have a65536 := dF 65536 c
  have b983039 := dT c 983039
  have hv : Hid (startB c = false) := by show _ = _; unfold startB; simp; omega
  clear k0 k1 k2 k3 k4 k5 k6 k7 k8 k9 k10 k11 k12
  go_enter Tryz.func108, Tryz.ntmps108
  go_wp2_with fail
  go_ret
  exact ⟨by rw [hv.out]; rfl, Below.refl _ _⟩
 rcases Int.lt_or_le c 894 with k13 | k13
 ·have e95 := eF c 95
  have e8204 := eF c 8204
  have e8205 := eF c 8205
  have a65 := dT 65 c
  have b90 := dF c 90
  have a97 := dT 97 c
  have b122 := dF c 122
  have a192 := dT 192 c
  have b214 := dF c 214
  have a216 := dT 216 c
  have b246 := dF c 246
  have a248 := dT 248 c
  have b767 := dF c 767
  have a880 := dT 880 c
  have b893 := dT c 893
  have a895 := dF 895 c
  have b8191 := dT c 8191
  have a8304 := dF 8304 c
  have b8591 := dT c 8591
  have a11264 := dF 11264 c
  have b12271 := dT c 12271
  have a12289 := dF 12289 c
  have b55295 := dT c 55295
  have a63744 := dF 63744 c
  have b64975 := dT c 64975
  have a65008 := dF 65008 c
  have b65533 := dT c 65533
  have a65536 := dF 65536 c
  have b983039 := dT c 983039
  have hv : Hid (startB c = true) := by show _ = _; unfold startB; simp; omega
  clear k0 k1 k2 k3 k4 k5 k6 k7 k8 k9 k10 k11 k12 k13
  go_enter Tryz.func108, Tryz.ntmps108
  go_wp2_with fail
  go_ret
  exact ⟨by rw [hv.out]; rfl, Below.refl _ _⟩
 rcases Int.lt_or_le c 895 with k14 | k14
 ·have e95 := eF c 95
  have e8204 := eF c 8204
  have e8205 := eF c 8205
  have a65 := dT 65 c
  have b90 := dF c 90
  have a97 := dT 97 c
  have b122 := dF c 122
  have a192 := dT 192 c
  have b214 := dF c 214
  have a216 := dT 216 c
  have b246 := dF c 246
  have a248 := dT 248 c
  have b767 := dF c 767
  have a880 := dT 880 c
  have b893 := dF c 893
  have a895 := dF 895 c
  have b8191 := dT c 8191
  have a8304 := dF 8304 c
  have b8591 := dT c 8591
  have a11264 := dF 11264 c
  have b12271 := dT c 12271
  have a12289 := dF 12289 c
  have b55295 := dT c 55295
  have a63744 := dF 63744 c
  have b64975 := dT c 64975
  have a65008 := dF 65008 c
  have b65533 := dT c 65533
  have a65536 := dF 65536 c
  have b983039 := dT c 983039
  have hv : Hid (startB c = false) := by show _ = _; unfold startB; simp; omega
  clear k0 k1 k2 k3 k4 k5 k6 k7 k8 k9 k10 k11 k12 k13 k14
  go_enter Tryz.func108, Tryz.ntmps108
  go_wp2_with fail
  go_ret
  exact ⟨by rw [hv.out]; rfl, Below.refl _ _⟩
 rcases Int.lt_or_le c 8192 with k15 | k15
 ·have e95 := eF c 95
  have e8204 := eF c 8204
  have e8205 := eF c 8205
  have a65 := dT 65 c
  have b90 := dF c 90
  have a97 := dT 97 c
  have b122 := dF c 122
  have a192 := dT 192 c
  have b214 := dF c 214
  have a216 := dT 216 c
  have b246 := dF c 246
  have a248 := dT 248 c
  have b767 := dF c 767
  have a880 := dT 880 c
  have b893 := dF c 893
  have a895 := dT 895 c
  have b8191 := dT c 8191
  have a8304 := dF 8304 c
  have b8591 := dT c 8591
  have a11264 := dF 11264 c
  have b12271 := dT c 12271
  have a12289 := dF 12289 c
  have b55295 := dT c 55295
  have a63744 := dF 63744 c
  have b64975 := dT c 64975
  have a65008 := dF 65008 c
  have b65533 := dT c 65533
  have a65536 := dF 65536 c
  have b983039 := dT c 983039
  have hv : Hid (startB c = true) := by show _ = _; unfold startB; simp; omega
  clear k0 k1 k2 k3 k4 k5 k6 k7 k8 k9 k10 k11 k12 k13 k14 k15
  go_enter Tryz.func108, Tryz.ntmps108
  go_wp2_with fail
  go_ret
  exact ⟨by rw [hv.out]; rfl, Below.refl _ _⟩
 rcases Int.lt_or_le c 8204 with k16 | k16
 ·have e95 := eF c 95
  have e8204 := eF c 8204
  have e8205 := eF c 8205
  have a65 := dT 65 c
  have b90 := dF c 90
  have a97 := dT 97 c
  have b122 := dF c 122
  have a192 := dT 192 c
  have b214 := dF c 214
  have a216 := dT 216 c
  have b246 := dF c 246
  have a248 := dT 248 c
  have b767 := dF c 767
  have a880 := dT 880 c
  have b893 := dF c 893
  have a895 := dT 895 c
  have b8191 := dF c 8191
  have a8304 := dF 8304 c
  have b8591 := dT c 8591
  have a11264 := dF 11264 c
  have b12271 := dT c 12271
  have a12289 := dF 12289 c
  have b55295 := dT c 55295
  have a63744 := dF 63744 c
  have b64975 := dT c 64975
  have a65008 := dF 65008 c
  have b65533 := dT c 65533
  have a65536 := dF 65536 c
  have b983039 := dT c 983039
  have hv : Hid (startB c = false) := by show _ = _; unfold startB; simp; omega
  clear k0 k1 k2 k3 k4 k5 k6 k7 k8 k9 k10 k11 k12 k13 k14 k15 k16
  go_enter Tryz.func108, Tryz.ntmps108
  go_wp2_with fail
  go_ret
  exact ⟨by rw [hv.out]; rfl, Below.refl _ _⟩
 rcases Int.lt_or_le c 8205 with k17 | k17
 ·have e95 := eF c 95
  have e8204 : (c == 8204) = true := by simp; omega
  have e8205 := eF c 8205
  have a65 := dT 65 c
  have b90 := dF c 90
  have a97 := dT 97 c
  have b122 := dF c 122
  have a192 := dT 192 c
  have b214 := dF c 214
  have a216 := dT 216 c
  have b246 := dF c 246
  have a248 := dT 248 c
  have b767 := dF c 767
  have a880 := dT 880 c
  have b893 := dF c 893
  have a895 := dT 895 c
  have b8191 := dF c 8191
  have a8304 := dF 8304 c
  have b8591 := dT c 8591
  have a11264 := dF 11264 c
  have b12271 := dT c 12271
  have a12289 := dF 12289 c
  have b55295 := dT c 55295
  have a63744 := dF 63744 c
  have b64975 := dT c 64975
  have a65008 := dF 65008 c
  have b65533 := dT c 65533
  have a65536 := dF 65536 c
  have b983039 := dT c 983039
  have hv : Hid (startB c = true) := by show _ = _; unfold startB; simp; omega
  clear k0 k1 k2 k3 k4 k5 k6 k7 k8 k9 k10 k11 k12 k13 k14 k15 k16 k17
  go_enter Tryz.func108, Tryz.ntmps108
  go_wp2_with fail
  go_ret
  exact ⟨by rw [hv.out]; rfl, Below.refl _ _⟩
 rcases Int.lt_or_le c 8206 with k18 | k18
 ·have e95 := eF c 95
  have e8204 := eF c 8204
  have e8205 : (c == 8205) = true := by simp; omega
  have a65 := dT 65 c
  have b90 := dF c 90
  have a97 := dT 97 c
  have b122 := dF c 122
  have a192 := dT 192 c
  have b214 := dF c 214
  have a216 := dT 216 c
  have b246 := dF c 246
  have a248 := dT 248 c
  have b767 := dF c 767
  have a880 := dT 880 c
  have b893 := dF c 893
  have a895 := dT 895 c
  have b8191 := dF c 8191
  have a8304 := dF 8304 c
  have b8591 := dT c 8591
  have a11264 := dF 11264 c
  have b12271 := dT c 12271
  have a12289 := dF 12289 c
  have b55295 := dT c 55295
  have a63744 := dF 63744 c
  have b64975 := dT c 64975
  have a65008 := dF 65008 c
  have b65533 := dT c 65533
  have a65536 := dF 65536 c
  have b983039 := dT c 983039
  have hv : Hid (startB c = true) := by show _ = _; unfold startB; simp; omega
  clear k0 k1 k2 k3 k4 k5 k6 k7 k8 k9 k10 k11 k12 k13 k14 k15 k16 k17 k18
  go_enter Tryz.func108, Tryz.ntmps108
  go_wp2_with fail
  go_ret
  exact ⟨by rw [hv.out]; rfl, Below.refl _ _⟩
 rcases Int.lt_or_le c 8304 with k19 | k19
 ·have e95 := eF c 95
  have e8204 := eF c 8204
  have e8205 := eF c 8205
  have a65 := dT 65 c
  have b90 := dF c 90
  have a97 := dT 97 c
  have b122 := dF c 122
  have a192 := dT 192 c
  have b214 := dF c 214
  have a216 := dT 216 c
  have b246 := dF c 246
  have a248 := dT 248 c
  have b767 := dF c 767
  have a880 := dT 880 c
  have b893 := dF c 893
  have a895 := dT 895 c
  have b8191 := dF c 8191
  have a8304 := dF 8304 c
  have b8591 := dT c 8591
  have a11264 := dF 11264 c
  have b12271 := dT c 12271
  have a12289 := dF 12289 c
  have b55295 := dT c 55295
  have a63744 := dF 63744 c
  have b64975 := dT c 64975
  have a65008 := dF 65008 c
  have b65533 := dT c 65533
  have a65536 := dF 65536 c
  have b983039 := dT c 983039
  have hv : Hid (startB c = false) := by show _ = _; unfold startB; simp; omega
  clear k0 k1 k2 k3 k4 k5 k6 k7 k8 k9 k10 k11 k12 k13 k14 k15 k16 k17 k18 k19
  go_enter Tryz.func108, Tryz.ntmps108
  go_wp2_with fail
  go_ret
  exact ⟨by rw [hv.out]; rfl, Below.refl _ _⟩
 rcases Int.lt_or_le c 8592 with k20 | k20
 ·have e95 := eF c 95
  have e8204 := eF c 8204
  have e8205 := eF c 8205
  have a65 := dT 65 c
  have b90 := dF c 90
  have a97 := dT 97 c
  have b122 := dF c 122
  have a192 := dT 192 c
  have b214 := dF c 214
  have a216 := dT 216 c
  have b246 := dF c 246
  have a248 := dT 248 c
  have b767 := dF c 767
  have a880 := dT 880 c
  have b893 := dF c 893
  have a895 := dT 895 c
  have b8191 := dF c 8191
  have a8304 := dT 8304 c
  have b8591 := dT c 8591
  have a11264 := dF 11264 c
  have b12271 := dT c 12271
  have a12289 := dF 12289 c
  have b55295 := dT c 55295
  have a63744 := dF 63744 c
  have b64975 := dT c 64975
  have a65008 := dF 65008 c
  have b65533 := dT c 65533
  have a65536 := dF 65536 c
  have b983039 := dT c 983039
  have hv : Hid (startB c = true) := by show _ = _; unfold startB; simp; omega
  clear k0 k1 k2 k3 k4 k5 k6 k7 k8 k9 k10 k11 k12 k13 k14 k15 k16 k17 k18 k19 k20
  go_enter Tryz.func108, Tryz.ntmps108
  go_wp2_with fail
  go_ret
  exact ⟨by rw [hv.out]; rfl, Below.refl _ _⟩
 rcases Int.lt_or_le c 11264 with k21 | k21
 ·have e95 := eF c 95
  have e8204 := eF c 8204
  have e8205 := eF c 8205
  have a65 := dT 65 c
  have b90 := dF c 90
  have a97 := dT 97 c
  have b122 := dF c 122
  have a192 := dT 192 c
  have b214 := dF c 214
  have a216 := dT 216 c
  have b246 := dF c 246
  have a248 := dT 248 c
  have b767 := dF c 767
  have a880 := dT 880 c
  have b893 := dF c 893
  have a895 := dT 895 c
  have b8191 := dF c 8191
  have a8304 := dT 8304 c
  have b8591 := dF c 8591
  have a11264 := dF 11264 c
  have b12271 := dT c 12271
  have a12289 := dF 12289 c
  have b55295 := dT c 55295
  have a63744 := dF 63744 c
  have b64975 := dT c 64975
  have a65008 := dF 65008 c
  have b65533 := dT c 65533
  have a65536 := dF 65536 c
  have b983039 := dT c 983039
  have hv : Hid (startB c = false) := by show _ = _; unfold startB; simp; omega
  clear k0 k1 k2 k3 k4 k5 k6 k7 k8 k9 k10 k11 k12 k13 k14 k15 k16 k17 k18 k19 k20 k21
  go_enter Tryz.func108, Tryz.ntmps108
  go_wp2_with fail
  go_ret
  exact ⟨by rw [hv.out]; rfl, Below.refl _ _⟩
 rcases Int.lt_or_le c 12272 with k22 | k22
 ·have e95 := eF c 95
  have e8204 := eF c 8204
  have e8205 := eF c 8205
  have a65 := dT 65 c
  have b90 := dF c 90
  have a97 := dT 97 c
  have b122 := dF c 122
  have a192 := dT 192 c
  have b214 := dF c 214
  have a216 := dT 216 c
  have b246 := dF c 246
  have a248 := dT 248 c
  have b767 := dF c 767
  have a880 := dT 880 c
  have b893 := dF c 893
  have a895 := dT 895 c
  have b8191 := dF c 8191
  have a8304 := dT 8304 c
  have b8591 := dF c 8591
  have a11264 := dT 11264 c
  have b12271 := dT c 12271
  have a12289 := dF 12289 c
  have b55295 := dT c 55295
  have a63744 := dF 63744 c
  have b64975 := dT c 64975
  have a65008 := dF 65008 c
  have b65533 := dT c 65533
  have a65536 := dF 65536 c
  have b983039 := dT c 983039
  have hv : Hid (startB c = true) := by show _ = _; unfold startB; simp; omega
  clear k0 k1 k2 k3 k4 k5 k6 k7 k8 k9 k10 k11 k12 k13 k14 k15 k16 k17 k18 k19 k20 k21 k22
  go_enter Tryz.func108, Tryz.ntmps108
  go_wp2_with fail
  go_ret
  exact ⟨by rw [hv.out]; rfl, Below.refl _ _⟩
 rcases Int.lt_or_le c 12289 with k23 | k23
 ·have e95 := eF c 95
  have e8204 := eF c 8204
  have e8205 := eF c 8205
  have a65 := dT 65 c
  have b90 := dF c 90
  have a97 := dT 97 c
  have b122 := dF c 122
  have a192 := dT 192 c
  have b214 := dF c 214
  have a216 := dT 216 c
  have b246 := dF c 246
  have a248 := dT 248 c
  have b767 := dF c 767
  have a880 := dT 880 c
  have b893 := dF c 893
  have a895 := dT 895 c
  have b8191 := dF c 8191
  have a8304 := dT 8304 c
  have b8591 := dF c 8591
  have a11264 := dT 11264 c
  have b12271 := dF c 12271
  have a12289 := dF 12289 c
  have b55295 := dT c 55295
  have a63744 := dF 63744 c
  have b64975 := dT c 64975
  have a65008 := dF 65008 c
  have b65533 := dT c 65533
  have a65536 := dF 65536 c
  have b983039 := dT c 983039
  have hv : Hid (startB c = false) := by show _ = _; unfold startB; simp; omega
  clear k0 k1 k2 k3 k4 k5 k6 k7 k8 k9 k10 k11 k12 k13 k14 k15 k16 k17 k18 k19 k20 k21 k22 k23
  go_enter Tryz.func108, Tryz.ntmps108
  go_wp2_with fail
  go_ret
  exact ⟨by rw [hv.out]; rfl, Below.refl _ _⟩
 rcases Int.lt_or_le c 55296 with k24 | k24
 ·have e95 := eF c 95
  have e8204 := eF c 8204
  have e8205 := eF c 8205
  have a65 := dT 65 c
  have b90 := dF c 90
  have a97 := dT 97 c
  have b122 := dF c 122
  have a192 := dT 192 c
  have b214 := dF c 214
  have a216 := dT 216 c
  have b246 := dF c 246
  have a248 := dT 248 c
  have b767 := dF c 767
  have a880 := dT 880 c
  have b893 := dF c 893
  have a895 := dT 895 c
  have b8191 := dF c 8191
  have a8304 := dT 8304 c
  have b8591 := dF c 8591
  have a11264 := dT 11264 c
  have b12271 := dF c 12271
  have a12289 := dT 12289 c
  have b55295 := dT c 55295
  have a63744 := dF 63744 c
  have b64975 := dT c 64975
  have a65008 := dF 65008 c
  have b65533 := dT c 65533
  have a65536 := dF 65536 c
  have b983039 := dT c 983039
  have hv : Hid (startB c = true) := by show _ = _; unfold startB; simp; omega
  clear k0 k1 k2 k3 k4 k5 k6 k7 k8 k9 k10 k11 k12 k13 k14 k15 k16 k17 k18 k19 k20 k21 k22 k23 k24
  go_enter Tryz.func108, Tryz.ntmps108
  go_wp2_with fail
  go_ret
  exact ⟨by rw [hv.out]; rfl, Below.refl _ _⟩
 rcases Int.lt_or_le c 63744 with k25 | k25
 ·have e95 := eF c 95
  have e8204 := eF c 8204
  have e8205 := eF c 8205
  have a65 := dT 65 c
  have b90 := dF c 90
  have a97 := dT 97 c
  have b122 := dF c 122
  have a192 := dT 192 c
  have b214 := dF c 214
  have a216 := dT 216 c
  have b246 := dF c 246
  have a248 := dT 248 c
  have b767 := dF c 767
  have a880 := dT 880 c
  have b893 := dF c 893
  have a895 := dT 895 c
  have b8191 := dF c 8191
  have a8304 := dT 8304 c
  have b8591 := dF c 8591
  have a11264 := dT 11264 c
  have b12271 := dF c 12271
  have a12289 := dT 12289 c
  have b55295 := dF c 55295
  have a63744 := dF 63744 c
  have b64975 := dT c 64975
  have a65008 := dF 65008 c
  have b65533 := dT c 65533
  have a65536 := dF 65536 c
  have b983039 := dT c 983039
  have hv : Hid (startB c = false) := by show _ = _; unfold startB; simp; omega
  clear k0 k1 k2 k3 k4 k5 k6 k7 k8 k9 k10 k11 k12 k13 k14 k15 k16 k17 k18 k19 k20 k21 k22 k23 k24 k25
  go_enter Tryz.func108, Tryz.ntmps108
  go_wp2_with fail
  go_ret
  exact ⟨by rw [hv.out]; rfl, Below.refl _ _⟩
 rcases Int.lt_or_le c 64976 with k26 | k26
 ·have e95 := eF c 95
  have e8204 := eF c 8204
  have e8205 := eF c 8205
  have a65 := dT 65 c
  have b90 := dF c 90
  have a97 := dT 97 c
  have b122 := dF c 122
  have a192 := dT 192 c
  have b214 := dF c 214
  have a216 := dT 216 c
  have b246 := dF c 246
  have a248 := dT 248 c
  have b767 := dF c 767
  have a880 := dT 880 c
  have b893 := dF c 893
  have a895 := dT 895 c
  have b8191 := dF c 8191
  have a8304 := dT 8304 c
  have b8591 := dF c 8591
  have a11264 := dT 11264 c
  have b12271 := dF c 12271
  have a12289 := dT 12289 c
  have b55295 := dF c 55295
  have a63744 := dT 63744 c
  have b64975 := dT c 64975
  have a65008 := dF 65008 c
  have b65533 := dT c 65533
  have a65536 := dF 65536 c
  have b983039 := dT c 983039
  have hv : Hid (startB c = true) := by show _ = _; unfold startB; simp; omega
  clear k0 k1 k2 k3 k4 k5 k6 k7 k8 k9 k10 k11 k12 k13 k14 k15 k16 k17 k18 k19 k20 k21 k22 k23 k24 k25 k26
  go_enter Tryz.func108, Tryz.ntmps108
  go_wp2_with fail
  go_ret
  exact ⟨by rw [hv.out]; rfl, Below.refl _ _⟩
 rcases Int.lt_or_le c 65008 with k27 | k27
 ·have e95 := eF c 95
  have e8204 := eF c 8204
  have e8205 := eF c 8205
  have a65 := dT 65 c
  have b90 := dF c 90
  have a97 := dT 97 c
  have b122 := dF c 122
  have a192 := dT 192 c
  have b214 := dF c 214
  have a216 := dT 216 c
  have b246 := dF c 246
  have a248 := dT 248 c
  have b767 := dF c 767
  have a880 := dT 880 c
  have b893 := dF c 893
  have a895 := dT 895 c
  have b8191 := dF c 8191
  have a8304 := dT 8304 c
  have b8591 := dF c 8591
  have a11264 := dT 11264 c
  have b12271 := dF c 12271
  have a12289 := dT 12289 c
  have b55295 := dF c 55295
  have a63744 := dT 63744 c
  have b64975 := dF c 64975
  have a65008 := dF 65008 c
  have b65533 := dT c 65533
  have a65536 := dF 65536 c
  have b983039 := dT c 983039
  have hv : Hid (startB c = false) := by show _ = _; unfold startB; simp; omega
  clear k0 k1 k2 k3 k4 k5 k6 k7 k8 k9 k10 k11 k12 k13 k14 k15 k16 k17 k18 k19 k20 k21 k22 k23 k24 k25 k26 k27
  go_enter Tryz.func108, Tryz.ntmps108
  go_wp2_with fail
  go_ret
  exact ⟨by rw [hv.out]; rfl, Below.refl _ _⟩
 rcases Int.lt_or_le c 65534 with k28 | k28
 ·have e95 := eF c 95
  have e8204 := eF c 8204
  have e8205 := eF c 8205
  have a65 := dT 65 c
  have b90 := dF c 90
  have a97 := dT 97 c
  have b122 := dF c 122
  have a192 := dT 192 c
  have b214 := dF c 214
  have a216 := dT 216 c
  have b246 := dF c 246
  have a248 := dT 248 c
  have b767 := dF c 767
  have a880 := dT 880 c
  have b893 := dF c 893
  have a895 := dT 895 c
  have b8191 := dF c 8191
  have a8304 := dT 8304 c
  have b8591 := dF c 8591
  have a11264 := dT 11264 c
  have b12271 := dF c 12271
  have a12289 := dT 12289 c
  have b55295 := dF c 55295
  have a63744 := dT 63744 c
  have b64975 := dF c 64975
  have a65008 := dT 65008 c
  have b65533 := dT c 65533
  have a65536 := dF 65536 c
  have b983039 := dT c 983039
  have hv : Hid (startB c = true) := by show _ = _; unfold startB; simp; omega
  clear k0 k1 k2 k3 k4 k5 k6 k7 k8 k9 k10 k11 k12 k13 k14 k15 k16 k17 k18 k19 k20 k21 k22 k23 k24 k25 k26 k27 k28
  go_enter Tryz.func108, Tryz.ntmps108
  go_wp2_with fail
  go_ret
  exact ⟨by rw [hv.out]; rfl, Below.refl _ _⟩
 rcases Int.lt_or_le c 65536 with k29 | k29
 ·have e95 := eF c 95
  have e8204 := eF c 8204
  have e8205 := eF c 8205
  have a65 := dT 65 c
  have b90 := dF c 90
  have a97 := dT 97 c
  have b122 := dF c 122
  have a192 := dT 192 c
  have b214 := dF c 214
  have a216 := dT 216 c
  have b246 := dF c 246
  have a248 := dT 248 c
  have b767 := dF c 767
  have a880 := dT 880 c
  have b893 := dF c 893
  have a895 := dT 895 c
  have b8191 := dF c 8191
  have a8304 := dT 8304 c
  have b8591 := dF c 8591
  have a11264 := dT 11264 c
  have b12271 := dF c 12271
  have a12289 := dT 12289 c
  have b55295 := dF c 55295
  have a63744 := dT 63744 c
  have b64975 := dF c 64975
  have a65008 := dT 65008 c
  have b65533 := dF c 65533
  have a65536 := dF 65536 c
  have b983039 := dT c 983039
  have hv : Hid (startB c = false) := by show _ = _; unfold startB; simp; omega
  clear k0 k1 k2 k3 k4 k5 k6 k7 k8 k9 k10 k11 k12 k13 k14 k15 k16 k17 k18 k19 k20 k21 k22 k23 k24 k25 k26 k27 k28 k29
  go_enter Tryz.func108, Tryz.ntmps108
  go_wp2_with fail
  go_ret
  exact ⟨by rw [hv.out]; rfl, Below.refl _ _⟩
 rcases Int.lt_or_le c 983040 with k30 | k30
 ·have e95 := eF c 95
  have e8204 := eF c 8204
  have e8205 := eF c 8205
  have a65 := dT 65 c
  have b90 := dF c 90
  have a97 := dT 97 c
  have b122 := dF c 122
  have a192 := dT 192 c
  have b214 := dF c 214
  have a216 := dT 216 c
  have b246 := dF c 246
  have a248 := dT 248 c
  have b767 := dF c 767
  have a880 := dT 880 c
  have b893 := dF c 893
  have a895 := dT 895 c
  have b8191 := dF c 8191
  have a8304 := dT 8304 c
  have b8591 := dF c 8591
  have a11264 := dT 11264 c
  have b12271 := dF c 12271
  have a12289 := dT 12289 c
  have b55295 := dF c 55295
  have a63744 := dT 63744 c
  have b64975 := dF c 64975
  have a65008 := dT 65008 c
  have b65533 := dF c 65533
  have a65536 := dT 65536 c
  have b983039 := dT c 983039
  have hv : Hid (startB c = true) := by show _ = _; unfold startB; simp; omega
  clear k0 k1 k2 k3 k4 k5 k6 k7 k8 k9 k10 k11 k12 k13 k14 k15 k16 k17 k18 k19 k20 k21 k22 k23 k24 k25 k26 k27 k28 k29 k30
  go_enter Tryz.func108, Tryz.ntmps108
  go_wp2_with fail
  go_ret
  exact ⟨by rw [hv.out]; rfl, Below.refl _ _⟩
 have e95 := eF c 95
 have e8204 := eF c 8204
 have e8205 := eF c 8205
 have a65 := dT 65 c
 have b90 := dF c 90
 have a97 := dT 97 c
 have b122 := dF c 122
 have a192 := dT 192 c
 have b214 := dF c 214
 have a216 := dT 216 c
 have b246 := dF c 246
 have a248 := dT 248 c
 have b767 := dF c 767
 have a880 := dT 880 c
 have b893 := dF c 893
 have a895 := dT 895 c
 have b8191 := dF c 8191
 have a8304 := dT 8304 c
 have b8591 := dF c 8591
 have a11264 := dT 11264 c
 have b12271 := dF c 12271
 have a12289 := dT 12289 c
 have b55295 := dF c 55295
 have a63744 := dT 63744 c
 have b64975 := dF c 64975
 have a65008 := dT 65008 c
 have b65533 := dF c 65533
 have a65536 := dT 65536 c
 have b983039 := dF c 983039
 have hv : Hid (startB c = false) := by show _ = _; unfold startB; simp; omega
 clear k0 k1 k2 k3 k4 k5 k6 k7 k8 k9 k10 k11 k12 k13 k14 k15 k16 k17 k18 k19 k20 k21 k22 k23 k24 k25 k26 k27 k28 k29 k30
 go_enter Tryz.func108, Tryz.ntmps108
 go_wp2_with fail
 go_ret
 exact ⟨by rw [hv.out]; rfl, Below.refl _ _⟩
theorem RStart_as (c : Int) (w : World) (r : Bool) (h : Hid (startB c = r)) : Calls Tryz.prog 108 #[.int .i32 c] w (Ret w (.bool r)) := by
 rw [← h.out]; exact RStart_any c w
theorem RPart_any (c : Int) (w : World) : Calls Tryz.prog 109 #[.int .i32 c] w (Ret w (.bool (partB c))) := by
 obtain ⟨b, hb⟩ : ∃ b, Hid (startB c = b) := ⟨_, rfl⟩
 cases b with
 | true =>
  have hv : Hid (partB c = true) := by show _ = _; unfold partB; rw [hb.out]; rfl
  go_enter Tryz.func109, Tryz.ntmps109
  go_wp2_with fail
  refine (RStart_as c _ _ hb).mono ?_; rintro e w2 ⟨rfl, hb2⟩
  go_wp2_with fail
  go_ret
  exact ⟨by rw [hv.out]; rfl, hb2⟩
 | false =>
  rcases Int.lt_or_le c 45 with k0 | k0
  ·have e45 := eF c 45
   have e46 := eF c 46
   have e183 := eF c 183
   have e8255 := eF c 8255
   have e8256 := eF c 8256
   have a48 := dF 48 c
   have b57 := dT c 57
   have a768 := dF 768 c
   have b879 := dT c 879
   have hv : Hid (partB c = startB c) := by show _ = _; unfold partB; rw [Bool.or_eq_left_iff_imp]; simp; omega
   clear k0
   go_enter Tryz.func109, Tryz.ntmps109
   go_wp2_with fail
   refine (RStart_as c _ _ hb).mono ?_; rintro e w2 ⟨rfl, hb2⟩
   go_wp2_with fail
   go_ret
   exact ⟨by rw [hv.out]; first | rfl | (rw [hb.out]; rfl), hb2⟩
  rcases Int.lt_or_le c 46 with k1 | k1
  ·have e45 : (c == 45) = true := by simp; omega
   have e46 := eF c 46
   have e183 := eF c 183
   have e8255 := eF c 8255
   have e8256 := eF c 8256
   have a48 := dF 48 c
   have b57 := dT c 57
   have a768 := dF 768 c
   have b879 := dT c 879
   have hv : Hid (partB c = true) := by show _ = _; unfold partB; simp; right; omega
   clear k0 k1
   go_enter Tryz.func109, Tryz.ntmps109
   go_wp2_with fail
   refine (RStart_as c _ _ hb).mono ?_; rintro e w2 ⟨rfl, hb2⟩
   go_wp2_with fail
   go_ret
   exact ⟨by rw [hv.out]; first | rfl | (rw [hb.out]; rfl), hb2⟩
  rcases Int.lt_or_le c 47 with k2 | k2
  ·have e45 := eF c 45
   have e46 : (c == 46) = true := by simp; omega
   have e183 := eF c 183
   have e8255 := eF c 8255
   have e8256 := eF c 8256
   have a48 := dF 48 c
   have b57 := dT c 57
   have a768 := dF 768 c
   have b879 := dT c 879
   have hv : Hid (partB c = true) := by show _ = _; unfold partB; simp; right; omega
   clear k0 k1 k2
   go_enter Tryz.func109, Tryz.ntmps109
   go_wp2_with fail
   refine (RStart_as c _ _ hb).mono ?_; rintro e w2 ⟨rfl, hb2⟩
   go_wp2_with fail
   go_ret
   exact ⟨by rw [hv.out]; first | rfl | (rw [hb.out]; rfl), hb2⟩
  rcases Int.lt_or_le c 48 with k3 | k3
  ·have e45 := eF c 45
   have e46 := eF c 46
   have e183 := eF c 183
   have e8255 := eF c 8255
   have e8256 := eF c 8256
   have a48 := dF 48 c
   have b57 := dT c 57
   have a768 := dF 768 c
   have b879 := dT c 879
   have hv : Hid (partB c = startB c) := by show _ = _; unfold partB; rw [Bool.or_eq_left_iff_imp]; simp; omega
   clear k0 k1 k2 k3
   go_enter Tryz.func109, Tryz.ntmps109
   go_wp2_with fail
   refine (RStart_as c _ _ hb).mono ?_; rintro e w2 ⟨rfl, hb2⟩
   go_wp2_with fail
   go_ret
   exact ⟨by rw [hv.out]; first | rfl | (rw [hb.out]; rfl), hb2⟩
  rcases Int.lt_or_le c 58 with k4 | k4
  ·have e45 := eF c 45
   have e46 := eF c 46
   have e183 := eF c 183
   have e8255 := eF c 8255
   have e8256 := eF c 8256
   have a48 := dT 48 c
   have b57 := dT c 57
   have a768 := dF 768 c
   have b879 := dT c 879
   have hv : Hid (partB c = true) := by show _ = _; unfold partB; simp; right; omega
   clear k0 k1 k2 k3 k4
   go_enter Tryz.func109, Tryz.ntmps109
   go_wp2_with fail
   refine (RStart_as c _ _ hb).mono ?_; rintro e w2 ⟨rfl, hb2⟩
   go_wp2_with fail
   go_ret
   exact ⟨by rw [hv.out]; first | rfl | (rw [hb.out]; rfl), hb2⟩
  rcases Int.lt_or_le c 183 with k5 | k5
  ·have e45 := eF c 45
   have e46 := eF c 46
   have e183 := eF c 183
   have e8255 := eF c 8255
   have e8256 := eF c 8256
   have a48 := dT 48 c
   have b57 := dF c 57
   have a768 := dF 768 c
   have b879 := dT c 879
   have hv : Hid (partB c = startB c) := by show _ = _; unfold partB; rw [Bool.or_eq_left_iff_imp]; simp; omega
   clear k0 k1 k2 k3 k4 k5
   go_enter Tryz.func109, Tryz.ntmps109
   go_wp2_with fail
   refine (RStart_as c _ _ hb).mono ?_; rintro e w2 ⟨rfl, hb2⟩
   go_wp2_with fail
   go_ret
   exact ⟨by rw [hv.out]; first | rfl | (rw [hb.out]; rfl), hb2⟩
  rcases Int.lt_or_le c 184 with k6 | k6
  ·have e45 := eF c 45
   have e46 := eF c 46
   have e183 : (c == 183) = true := by simp; omega
   have e8255 := eF c 8255
   have e8256 := eF c 8256
   have a48 := dT 48 c
   have b57 := dF c 57
   have a768 := dF 768 c
   have b879 := dT c 879
   have hv : Hid (partB c = true) := by show _ = _; unfold partB; simp; right; omega
   clear k0 k1 k2 k3 k4 k5 k6
   go_enter Tryz.func109, Tryz.ntmps109
   go_wp2_with fail
   refine (RStart_as c _ _ hb).mono ?_; rintro e w2 ⟨rfl, hb2⟩
   go_wp2_with fail
   go_ret
   exact ⟨by rw [hv.out]; first | rfl | (rw [hb.out]; rfl), hb2⟩
  rcases Int.lt_or_le c 768 with k7 | k7
  ·have e45 := eF c 45
   have e46 := eF c 46
   have e183 := eF c 183
   have e8255 := eF c 8255
   have e8256 := eF c 8256
   have a48 := dT 48 c
   have b57 := dF c 57
   have a768 := dF 768 c
   have b879 := dT c 879
   have hv : Hid (partB c = startB c) := by show _ = _; unfold partB; rw [Bool.or_eq_left_iff_imp]; simp; omega
   clear k0 k1 k2 k3 k4 k5 k6 k7
   go_enter Tryz.func109, Tryz.ntmps109
   go_wp2_with fail
   refine (RStart_as c _ _ hb).mono ?_; rintro e w2 ⟨rfl, hb2⟩
   go_wp2_with fail
   go_ret
   exact ⟨by rw [hv.out]; first | rfl | (rw [hb.out]; rfl), hb2⟩
  rcases Int.lt_or_le c 880 with k8 | k8
  ·have e45 := eF c 45
   have e46 := eF c 46
   have e183 := eF c 183
   have e8255 := eF c 8255
   have e8256 := eF c 8256
   have a48 := dT 48 c
   have b57 := dF c 57
   have a768 := dT 768 c
   have b879 := dT c 879
   have hv : Hid (partB c = true) := by show _ = _; unfold partB; simp; right; omega
   clear k0 k1 k2 k3 k4 k5 k6 k7 k8
   go_enter Tryz.func109, Tryz.ntmps109
   go_wp2_with fail
   refine (RStart_as c _ _ hb).mono ?_; rintro e w2 ⟨rfl, hb2⟩
   go_wp2_with fail
   go_ret
   exact ⟨by rw [hv.out]; first | rfl | (rw [hb.out]; rfl), hb2⟩
  rcases Int.lt_or_le c 8255 with k9 | k9
  ·have e45 := eF c 45
   have e46 := eF c 46
   have e183 := eF c 183
   have e8255 := eF c 8255
   have e8256 := eF c 8256
   have a48 := dT 48 c
   have b57 := dF c 57
   have a768 := dT 768 c
   have b879 := dF c 879
   have hv : Hid (partB c = startB c) := by show _ = _; unfold partB; rw [Bool.or_eq_left_iff_imp]; simp; omega
   clear k0 k1 k2 k3 k4 k5 k6 k7 k8 k9
   go_enter Tryz.func109, Tryz.ntmps109
   go_wp2_with fail
   refine (RStart_as c _ _ hb).mono ?_; rintro e w2 ⟨rfl, hb2⟩
   go_wp2_with fail
   go_ret
   exact ⟨by rw [hv.out]; first | rfl | (rw [hb.out]; rfl), hb2⟩
  rcases Int.lt_or_le c 8256 with k10 | k10
  ·have e45 := eF c 45
   have e46 := eF c 46
   have e183 := eF c 183
   have e8255 : (c == 8255) = true := by simp; omega
   have e8256 := eF c 8256
   have a48 := dT 48 c
   have b57 := dF c 57
   have a768 := dT 768 c
   have b879 := dF c 879
   have hv : Hid (partB c = true) := by show _ = _; unfold partB; simp; right; omega
   clear k0 k1 k2 k3 k4 k5 k6 k7 k8 k9 k10
   go_enter Tryz.func109, Tryz.ntmps109
   go_wp2_with fail
   refine (RStart_as c _ _ hb).mono ?_; rintro e w2 ⟨rfl, hb2⟩
   go_wp2_with fail
   go_ret
   exact ⟨by rw [hv.out]; first | rfl | (rw [hb.out]; rfl), hb2⟩
  rcases Int.lt_or_le c 8257 with k11 | k11
  ·have e45 := eF c 45
   have e46 := eF c 46
   have e183 := eF c 183
   have e8255 := eF c 8255
   have e8256 : (c == 8256) = true := by simp; omega
   have a48 := dT 48 c
   have b57 := dF c 57
   have a768 := dT 768 c
   have b879 := dF c 879
   have hv : Hid (partB c = true) := by show _ = _; unfold partB; simp; right; omega
   clear k0 k1 k2 k3 k4 k5 k6 k7 k8 k9 k10 k11
   go_enter Tryz.func109, Tryz.ntmps109
   go_wp2_with fail
   refine (RStart_as c _ _ hb).mono ?_; rintro e w2 ⟨rfl, hb2⟩
   go_wp2_with fail
   go_ret
   exact ⟨by rw [hv.out]; first | rfl | (rw [hb.out]; rfl), hb2⟩
  have e45 := eF c 45
  have e46 := eF c 46
  have e183 := eF c 183
  have e8255 := eF c 8255
  have e8256 := eF c 8256
  have a48 := dT 48 c
  have b57 := dF c 57
  have a768 := dT 768 c
  have b879 := dF c 879
  have hv : Hid (partB c = startB c) := by show _ = _; unfold partB; rw [Bool.or_eq_left_iff_imp]; simp; omega
  clear k0 k1 k2 k3 k4 k5 k6 k7 k8 k9 k10 k11
  go_enter Tryz.func109, Tryz.ntmps109
  go_wp2_with fail
  refine (RStart_as c _ _ hb).mono ?_; rintro e w2 ⟨rfl, hb2⟩
  go_wp2_with fail
  go_ret
  exact ⟨by rw [hv.out]; first | rfl | (rw [hb.out]; rfl), hb2⟩
theorem RPart_as (c : Int) (w : World) (r : Bool) (h : Hid (partB c = r)) : Calls Tryz.prog 109 #[.int .i32 c] w (Ret w (.bool r)) := by
 rw [← h.out]; exact RPart_any c w
end
section
open Go.RowKit
theorem RName_any (s : ByteArray) (w : World) (hs : s.size ≤ 1000000000) (r : Bool) (hr : Hid (nameL s.data.toList = r)) :
  Calls Tryz.prog 89 #[.string s] w (Ret w (.bool r)) := by
 obtain ⟨q, hq⟩ : ∃ q, Hid (charsL s.data.toList = q) := ⟨_, rfl⟩
 have hr' := hr.out
 unfold nameL at hr'
 rw [hq.out, size_toList] at hr'
 cases q with
 | none =>
  have hv : Hid (r = false) := hr'.symm
  clear hr'
  go_enter Tryz.func89, Tryz.ntmps89
  go_wp2_with fail
  refine (RAll_any s w hs).mono ?_
  rw [hq.out]
  rintro e w2 ⟨ad, cp, rfl, hown, hb2⟩
  clear hown
  go_wp2_with fail
  go_ret
  exact ⟨by rw [hv.out]; rfl, hb2⟩
 | some cs =>
  cases cs with
  | nil =>
   have hv : Hid (r = false) := hr'.symm
   clear hr'
   have hnil : s.data.toList = [] := by
    by_cases hl : s.data.toList = []
    ·exact hl
    ·exfalso
     have hc := hq.out
     by_cases hn : (nextL s.data.toList).2 = 0
     ·rw [charsL_bad _ hl hn] at hc; cases hc
     ·rw [charsL_step _ hl hn] at hc
      cases hd : charsL (s.data.toList.drop (nextL s.data.toList).2) <;> rw [hd] at hc <;> simp at hc
   have hsz : (s.size : Int) < 1 := by rw [← size_toList, hnil]; decide
   clear hnil
   go_enter Tryz.func89, Tryz.ntmps89
   go_wp2_with fail
   refine (RAll_any s w hs).mono ?_
   rw [hq.out]
   rintro e w2 ⟨ad, cp, rfl, hown, hb2⟩
   clear hown
   go_wp2_with fail
   go_ret
   exact ⟨by rw [hv.out]; rfl, hb2⟩
  | cons c cs =>
   have hne : s.data.toList ≠ [] := by intro h; have := hq.out; rw [h, charsL_nil] at this; cases this
   have hpos : s.size ≠ 0 := by intro h; apply hne; exact List.eq_nil_of_length_eq_zero (by rw [size_toList]; exact h)
   have hcl : cs.length + 1 ≤ s.size := by have := charsL_len _ _ hq.out; rw [size_toList] at this; exact this
   have h1 : decide ((s.size : Int) < 1) = false := by simp; omega
   clear hne
   by_cases h60 : s.size ≤ 60
   ·have h2 : decide ((60 : Int) < s.size) = false := by simp; omega
    simp only [h60, decide_true, Bool.true_and] at hr'
    clear h60 hpos
    cases hst : startB c with
    | false =>
     have HST : Hid (startB c = false) := hst
     have hv : Hid (r = false) := by show _ = _; rw [← hr', hst]; rfl
     clear hr' hst
     go_enter Tryz.func89, Tryz.ntmps89
     go_wp2_with fail
     refine (RAll_any s w hs).mono ?_
     rw [hq.out]
     rintro e w2 ⟨ad, cp, rfl, hown, hb2⟩
     have hz2 := hb2.size
     rcases own_shape hown with ⟨rfl, hn0, rfl⟩ | ⟨g, rfl, hg1, hg2⟩
     ·cases hn0
     ·have hcell : w2.cell? ⟨g, 0, none⟩ = some (.int .i32 c) := own_cell hown 0 _ rfl
      have hlen : ((Option.getD (some (c :: cs)) []).length) = cs.length + 1 := rfl
      clear hown
      rw [hlen]
      go_wp2_with fail
      refine (RStart_as c _ _ HST).mono ?_; rintro e w3 ⟨rfl, hb3⟩
      go_wp2_with fail
      go_ret
      exact ⟨by rw [hv.out]; rfl, hb2.trans (hb3.mono hz2)⟩
    | true =>
     have HST : Hid (startB c = true) := hst
     have hv : Hid ((c :: cs).all partB = r) := by show _ = _; rw [← hr', hst]; rfl
     clear hr' hst
     go_enter Tryz.func89, Tryz.ntmps89
     go_wp2_with fail
     refine (RAll_any s w hs).mono ?_
     rw [hq.out]
     rintro e w2 ⟨ad, cp, rfl, hown, hb2⟩
     have hz2 := hb2.size
     rcases own_shape hown with ⟨rfl, hn0, rfl⟩ | ⟨g, rfl, hg1, hg2⟩
     ·cases hn0
     ·have hcell : w2.cell? ⟨g, 0, none⟩ = some (.int .i32 c) := own_cell hown 0 _ rfl
      have hlen : ((Option.getD (some (c :: cs)) []).length) = cs.length + 1 := rfl
      have HOWN := Lib.hid hown
      clear hown
      rw [hlen]
      go_wp2_with fail
      refine (RStart_as c _ _ HST).mono ?_; rintro e w3 ⟨rfl, hb3⟩
      have hz3 := hb3.size
      go_wp2_with fail
      obtain ⟨L, hL⟩ : ∃ L, Hid (L = c :: cs) := ⟨_, rfl⟩
      have hLl : L.length = cs.length + 1 := by rw [hL.out]; rfl
      go_loopw [5] (fun i wr => ∃ (k : Nat), k ≤ cs.length + 1 ∧ i = .int .i64 k ∧ Hid ((L.drop k).all partB = r) ∧ Below w2.heap.size w2 wr) (fun i _ => cs.length + 1 - (intOf i).toNat)
      case atStart => exact ⟨0, Nat.zero_le _, rfl, by show _ = _; rw [hL.out]; exact hv.out, hb3⟩
      case round =>
       obtain ⟨k, hk, rfl, hall, hbel⟩ := hrel
       have hzr := hbel.size
       by_cases hlt : k < cs.length + 1
       ·obtain ⟨d, hd⟩ : ∃ d, Hid (L[k]? = some d) := ⟨L[k], List.getElem?_eq_getElem _⟩
        have hcell : wr.cell? ⟨g, k, none⟩ = some (.int .i32 d) := by
         rw [hbel.cell (p := ⟨g, k, none⟩) hg2]
         refine own_cell HOWN.out k _ ?_
         show ((c :: cs).map (Value.int .i32))[k]? = _
         rw [List.getElem?_map, ← hL.out, hd.out]; rfl
        have hdrop : L.drop k = d :: L.drop (k + 1) := by
         have h := hd.out
         have hl : k < L.length := by omega
         rw [List.drop_eq_getElem_cons hl]
         rw [List.getElem?_eq_getElem hl] at h
         injection h with h; rw [h]
        have hall' : (partB d && (L.drop (k + 1)).all partB) = r := by rw [← hall.out, hdrop]; rfl
        clear hdrop
        cases hp : partB d with
        | false =>
         have HP : Hid (partB d = false) := hp
         have hv : Hid (r = false) := by show _ = _; rw [← hall', hp]; rfl
         clear hall' hp
         go_wp2_with fail
         refine (RPart_as d _ _ HP).mono ?_; rintro e w4 ⟨rfl, hb4⟩
         go_wp2_with fail
         go_ret
         exact ⟨by rw [hv.out]; rfl, (hb2.trans (hbel.mono (by omega))).trans (hb4.mono (by omega))⟩
        | true =>
         have HP : Hid (partB d = true) := hp
         have hv : Hid ((L.drop (k + 1)).all partB = r) := by show _ = _; rw [← hall', hp]; rfl
         clear hall' hp
         go_wp2_with fail
         refine (RPart_as d _ _ HP).mono ?_; rintro e w4 ⟨rfl, hb4⟩
         go_wp2_with fail
         go_roundw
         case rel => exact ⟨k + 1, by omega, by go_num, hv, hbel.trans (hb4.mono (by omega))⟩
         case measure => simp [intOf]; omega
       ·have hk' : k = cs.length + 1 := by omega
        have hv : Hid (r = true) := by
         show _ = _
         rw [← hall.out, List.drop_eq_nil_of_le (by omega)]; rfl
        subst hk'
        go_wp2_with fail
        go_ret
        exact ⟨by rw [hv.out]; rfl, hb2.trans (hbel.mono (by omega))⟩
   ·have h2 : decide ((60 : Int) < s.size) = true := by simp; omega
    have hv : Hid (r = false) := by show _ = _; rw [← hr']; simp [h60]
    clear hr' h60 hpos
    go_enter Tryz.func89, Tryz.ntmps89
    go_wp2_with fail
    refine (RAll_any s w hs).mono ?_
    rw [hq.out]
    rintro e w2 ⟨ad, cp, rfl, hown, hb2⟩
    clear hown
    go_wp2_with fail
    go_ret
    exact ⟨by rw [hv.out]; rfl, hb2⟩
end
section
open Go.RowKit
theorem RName_l (s : List UInt8) (w : World) (hs : s.length ≤ 1000000000) (r : Bool) (hr : Hid (nameL s = r)) :
  Calls Tryz.prog 89 #[.string ⟨s.toArray⟩] w (Ret w (.bool r)) := RName_any _ w (by show s.toArray.size ≤ _; simp; omega) r hr
theorem attrNames_nil (r : List AttrD) : attrNames [] r = match r with | [] => true | a :: t => nameL a.name && attrNames a.name t := by
 cases r with
 | nil => rfl
 | cons a t =>
  show (nameL a.name && !leB a.name [] && attrNames a.name t) = (nameL a.name && attrNames a.name t)
  cases hn : nameL a.name with
  | false => rfl
  | true =>
   have : leB a.name [] = false := by
    cases ha : a.name with
    | nil => rw [ha] at hn; simp [nameL, charsL_nil] at hn
    | cons b t => rfl
   rw [this]; rfl
def fromK (l : List AttrD) : Nat → Bool
 | 0 => attrNames [] l
 | j + 1 => match l[j]? with | some a => attrNames a.name (l.drop (j + 1)) | none => true
theorem fromK_first (l : List AttrD) (a : AttrD) (h : l[0]? = some a) : fromK l 0 = (nameL a.name && fromK l 1) := by
 cases l with
 | nil => cases h
 | cons b t =>
  injection h with h; subst h
  exact attrNames_nil _
theorem fromK_step (l : List AttrD) (k : Nat) (p a : AttrD) (hk : 0 < k) (hp : l[k - 1]? = some p) (h : l[k]? = some a) : fromK l k = (nameL a.name && !leB a.name p.name && fromK l (k + 1)) := by
 obtain ⟨j, rfl⟩ : ∃ j, k = j + 1 := ⟨k - 1, by omega⟩
 have hp' : l[j]? = some p := hp
 show (match l[j]? with | some a => attrNames a.name (l.drop (j + 1)) | none => true) = _
 rw [hp', drop_cons h]
 show _ = (_ && (match l[j + 1]? with | some a => attrNames a.name (l.drop (j + 1 + 1)) | none => true))
 rw [h]; rfl
theorem fromK_end (l : List AttrD) : fromK l l.length = true := by
 cases hl : l.length with
 | zero => rw [List.eq_nil_of_length_eq_zero hl]; rfl
 | succ j =>
  show (match l[j]? with | some a => attrNames a.name (l.drop (j + 1)) | none => true) = true
  rw [List.drop_eq_nil_of_le (by omega)]
  cases l[j]? <;> rfl
theorem RParts_any (x : ItemD) (A : Option Addr) (c : Nat) (w : World) (hA : AttrsAt w w.heap.size A x.attrs) (hs : SmallItem x) (V : Int) (hV : Hid (partsE x = V)) :
  Calls Tryz.prog 77 #[.agg (itemVal x A c)] w (Ret w (.int .i64 V)) := by
 obtain ⟨hs1, hs2, hs3, hs4, hs5⟩ := hs
 have HS4 := Lib.hid hs4
 have HA := Lib.hid hA
 clear hs4 hA hs5
 have hV' := hV.out
 unfold partsE at hV'
 clear hV
 by_cases k1 : x.kind = 2
 ·have e1 : (x.kind == 2) = true := by simp [k1]
  by_cases k2 : x.name = []
  ·have e2 : (x.name == []) = true := by simp [k2]
   by_cases k3 : x.attrs = []
   ·rw [if_pos ⟨k1, k2, k3⟩] at hV'
    have HV := Lib.hid hV'
    have e3 : x.attrs.length = 0 := by rw [k3]; rfl
    unfold itemVal strV
    rw [e3]
    clear hV' k1 k2 k3
    go_enter Tryz.func77, Tryz.ntmps77
    go_wp2_with fail
    refine (rchars_l _ _ hs2 _ HV).mono ?_; rintro e w2 ⟨rfl, hb2⟩
    go_wp2_with fail
    go_ret
    exact ⟨rfl, ((Below.refl _ w).alloc (Nat.le_refl _) _).trans (hb2.mono (by simp))⟩
   ·have hv : Hid (V = 68) := by
     show _ = _
     rw [← hV', if_neg (fun h => k3 h.2.2), if_pos (.inl (by omega))]
    have e3 : 0 < x.attrs.length := by
     have : x.attrs.length ≠ 0 := fun h => k3 (List.eq_nil_of_length_eq_zero h)
     omega
    clear hV' k1 k2 k3
    unfold itemVal strV
    go_enter Tryz.func77, Tryz.ntmps77
    go_wp2_with fail
    go_ret
    exact ⟨by rw [hv.out]; rfl, (Below.refl _ w).alloc (Nat.le_refl _) _⟩
  ·have e2 : (x.name == []) = false := by simp [k2]
   have hv : Hid (V = 68) := by
    show _ = _
    rw [← hV', if_neg (fun h => k2 h.2.1), if_pos (.inl (by omega))]
   clear hV' k1 k2
   unfold itemVal strV
   go_enter Tryz.func77, Tryz.ntmps77
   go_wp2_with fail
   go_ret
   exact ⟨by rw [hv.out]; rfl, (Below.refl _ w).alloc (Nat.le_refl _) _⟩
 ·rw [if_neg (fun h => k1 h.1)] at hV'
  have e1 : (x.kind == 2) = false := by simp [k1]
  by_cases k2 : x.kind = 1
  ·have e4 : (x.kind != 1) = false := by simp [k2]
   by_cases k3 : x.text = []
   ·have e5 : (x.text == []) = true := by simp [k3]
    rw [if_neg (by rintro (h | h); exact h k2; exact h k3)] at hV'
    clear k1 k2 k3
    unfold namesE at hV'
    cases hn : nameL x.name with
    | false =>
     have HN : Hid (nameL x.name = false) := hn
     have hv : Hid (V = 63) := by show _ = _; rw [← hV', hn]; rfl
     clear hV' hn
     unfold itemVal strV
     go_enter Tryz.func77, Tryz.ntmps77
     go_wp2_with fail
     refine (RName_l _ _ hs1 _ HN).mono ?_; rintro e w2 ⟨rfl, hb2⟩
     go_wp2_with fail
     go_ret
     exact ⟨by rw [hv.out]; rfl, ((Below.refl _ w).alloc (Nat.le_refl _) _).trans (hb2.mono (by simp))⟩
    | true =>
     have HN : Hid (nameL x.name = true) := hn
     rw [hn, Bool.true_and] at hV'
     clear hn
     obtain ⟨R, hR⟩ : ∃ R, Hid (fromK x.attrs 0 = R) := ⟨_, rfl⟩
     have hR1 : attrNames [] x.attrs = R := hR.out
     rw [hR1] at hV'
     have HV := Lib.hid hV'
     clear hV' hR1
     unfold itemVal strV
     go_enter Tryz.func77, Tryz.ntmps77
     go_wp2_with fail
     obtain ⟨w1, hw1⟩ : ∃ w1, Hid (w1 = w.alloc (.cells #[.int .i64 x.level, .int .i64 x.kind, .string ⟨x.name.toArray⟩, .string ⟨x.text.toArray⟩, .slice A x.attrs.length c] 62)) := ⟨_, rfl⟩
     have hbw1 : Below w.heap.size w w1 := by rw [hw1.out]; exact (Below.refl _ w).alloc (Nat.le_refl _) _
     have hz1 : w.heap.size < w1.heap.size := by rw [hw1.out]; simp
     have hcell1 : Hid (w1.cell? ⟨w.heap.size, 4, none⟩ = some (.slice A x.attrs.length c)) := by
      show _ = _
      rw [hw1.out, World.cell?_alloc_at _ _ _ _ (by simp)]; rfl
     rw [← hw1.out]
     refine (RName_l _ _ hs1 _ HN).mono ?_; rintro e w2 ⟨rfl, hb2⟩
     have hz2 := hb2.size
     have H4 : Hid (∀ w', Below w1.heap.size w1 w' → w'.cell? ⟨w.heap.size, 4, none⟩ = some (.slice A x.attrs.length c)) := fun w' hb => by
      rw [hb.cell (p := ⟨w.heap.size, 4, none⟩) hz1]; exact hcell1.out
     have hc4 := H4.out w2 hb2
     go_wp2_with fail
     go_loopw [3] (fun i wr => ∃ (k : Nat), k ≤ x.attrs.length ∧ i = .int .i64 k ∧ Hid (fromK x.attrs k = R) ∧ Below w1.heap.size w1 wr) (fun i _ => x.attrs.length - (intOf i).toNat)
     case atStart => exact ⟨0, Nat.zero_le _, rfl, hR, hb2⟩
     case round =>
      obtain ⟨k, hk, rfl, hin, hbel⟩ := hrel
      have hzr := hbel.size
      have hbwr : Below w.heap.size w wr := hbw1.trans (hbel.mono (by omega))
      have hc4r := H4.out wr hbel
      by_cases hlt : k < x.attrs.length
      ·obtain ⟨a, ha⟩ : ∃ a, Hid (x.attrs[k]? = some a) := ⟨x.attrs[k], List.getElem?_eq_getElem _⟩
       obtain ⟨ad, hAd, hbl, hcs⟩ := HA.out (by omega)
       have hnm := (HS4.out k a ha.out).1
       subst hAd
       have hlt' : (k : Int) < x.attrs.length := by omega
       have HC : ∀ (j : Nat) (b : AttrD), x.attrs[j]? = some b → ∀ w', Below w1.heap.size w1 w' → w'.cell? (ad.add (j * 2)) = some (.string ⟨b.name.toArray⟩) := fun j b hj w' hb => by
        rw [(hbw1.trans (hb.mono (by omega))).cell (p := ad.add (j * 2)) (by rw [block_of_add]; exact hbl)]
        exact (hcs j b hj).1
       have HCC := Lib.hid HC
       clear HC hcs
       rcases Nat.eq_zero_or_pos k with hk0 | hk0
       ·have hin' := hin.out
        have hin' : (nameL a.name && fromK x.attrs (k + 1)) = R := by
         have ha' := ha.out
         subst hk0
         rw [← hin', fromK_first _ a ha']
        obtain ⟨q, hq⟩ : ∃ q, Hid (nameL a.name = q) := ⟨_, rfl⟩
        rw [hq.out] at hin'
        have HIN := Lib.hid hin'
        clear hin'
        have hg1 : decide ((0 : Int) < (k : Int)) = false := by subst hk0; decide
        have hg2 : decide (0 < k) = false := by subst hk0; decide
        clear hk0
        have hk0' : (0 : Int) ≤ (k : Int) := Int.natCast_nonneg _
        have HS : Hid (∀ w', Below w1.heap.size w1 w' → (Below w1.heap.size w1 w' ∧ w'.cell? ⟨w.heap.size, 4, none⟩ = some (.slice (some ad) x.attrs.length c) ∧ w'.cell? (ad.add (k * 2)) = some (.string ⟨a.name.toArray⟩))) :=
         fun w' hb => ⟨hb, H4.out w' hb, HCC.out k a ha.out w' hb⟩
        cases q with
        | false =>
         have hv : Hid (V = 63) := by
          show _ = _
          have hR0 : R = false := HIN.out.symm
          rw [← HV.out, hR0]; rfl
         go_wp2_with fail
         refine wp_region_held_drew (S := fun w' => Below w1.heap.size w1 w' ∧ w'.cell? ⟨w.heap.size, 4, none⟩ = some (.slice (some ad) x.attrs.length c) ∧ w'.cell? (ad.add (k * 2)) = some (.string ⟨a.name.toArray⟩)) (by kernel_rfl) (HS.out _ hbel.drew) (fun hHeld => ?_)
         refine tkv 0 (h := tkv 1 (h := tkv 2 (h := tkv 3 (h := tkv 4 (h := tkv 5 (h := ?_))))))
         refine rdy 6 (fun K hK => ?_)
         go_simp
         refine (RName_l _ _ hnm _ hq).mono ?_; rintro e w3 ⟨rfl, hb3⟩
         go_wp2_with fail
         refine hK.out _ _ (HS.out _ (hbel.drew.trans (hb3.mono hbel.drew.size))) (fun hHeld => ?_)
         clear hK K
         try go_frame
         refine tkv 7 (h := tkv 8 (h := ?_))
         refine tkn 9 (h := tkn 10 (h := tkn 11 (h := tkn 12 (h := tkn 13 (h := tkn 14 (h := ?_))))))
         refine tkn 15 (h := tkn 16 (h := tkn 17 (h := tkn 18 (h := tkn 19 (h := tkn 20 (h := ?_))))))
         refine tkn 21 (h := tkn 22 (h := tkn 23 (h := tkn 24 (h := tkn 25 (h := tkn 26 (h := ?_))))))
         refine tkv 27 (h := ?_)
         refine wpAnyH_done (by kernel_rfl) ?_ _
         go_wp2_with fail
         go_ret
         exact ⟨by rw [hv.out]; rfl, hbw1.trans ((hbel.drew.trans (hb3.mono hbel.drew.size)).mono (by omega))⟩
        | true =>
         have HIN' : Hid (fromK x.attrs (k + 1) = R) := HIN.out
         go_wp2_with fail
         refine wp_region_held_drew (S := fun w' => Below w1.heap.size w1 w' ∧ w'.cell? ⟨w.heap.size, 4, none⟩ = some (.slice (some ad) x.attrs.length c) ∧ w'.cell? (ad.add (k * 2)) = some (.string ⟨a.name.toArray⟩)) (by kernel_rfl) (HS.out _ hbel.drew) (fun hHeld => ?_)
         refine tkv 0 (h := tkv 1 (h := tkv 2 (h := tkv 3 (h := tkv 4 (h := tkv 5 (h := ?_))))))
         refine rdy 6 (fun K hK => ?_)
         go_simp
         refine (RName_l _ _ hnm _ hq).mono ?_; rintro e w3 ⟨rfl, hb3⟩
         go_wp2_with fail
         refine hK.out _ _ (HS.out _ (hbel.drew.trans (hb3.mono hbel.drew.size))) (fun hHeld => ?_)
         clear hK K
         try go_frame
         refine tkv 7 (h := tkv 8 (h := tkv 9 (h := tkv 10 (h := tkv 11 (h := ?_)))))
         refine tkn 12 (h := tkn 13 (h := tkn 14 (h := tkn 15 (h := tkn 16 (h := tkn 17 (h := ?_))))))
         refine tkn 18 (h := tkn 19 (h := tkn 20 (h := tkn 21 (h := tkn 22 (h := tkn 23 (h := ?_))))))
         refine tkn 24 (h := tkn 25 (h := ?_))
         refine tkv 26 (h := tkv 27 (h := ?_))
         refine wpAnyH_done (by kernel_rfl) ?_ _
         have hb3' := hbel.drew.trans (hb3.mono hbel.drew.size)
         go_wp2_with fail
         go_roundw
         case rel => exact ⟨k + 1, by omega, by go_num, HIN', hb3'⟩
         case measure => simp [intOf]; omega
       ·obtain ⟨p, hp⟩ : ∃ p, Hid (x.attrs[k - 1]? = some p) := ⟨x.attrs[k - 1], List.getElem?_eq_getElem _⟩
        have hin' := hin.out
        have hin' : (nameL a.name && !leB a.name p.name && fromK x.attrs (k + 1)) = R := by
         rw [← hin', fromK_step _ k p a hk0 hp.out ha.out]
        obtain ⟨q, hq⟩ : ∃ q, Hid (nameL a.name = q) := ⟨_, rfl⟩
        rw [hq.out] at hin'
        have hg1 : decide ((0 : Int) < (k : Int)) = true := by simp; omega
        have hg2 : decide (0 < k) = true := by simp; omega
        have hk0' : (0 : Int) ≤ (k : Int) := Int.natCast_nonneg _
        have hk1 : (0 : Int) ≤ (k : Int) - 1 := by omega
        have hk3 : (1 : Int) ≤ (k : Int) := by omega
        have hk2 : (k : Int) - 1 < x.attrs.length := by omega
        have HS : Hid (∀ w', Below w1.heap.size w1 w' → (Below w1.heap.size w1 w' ∧ w'.cell? ⟨w.heap.size, 4, none⟩ = some (.slice (some ad) x.attrs.length c) ∧ w'.cell? (ad.add (k * 2)) = some (.string ⟨a.name.toArray⟩) ∧ w'.cell? (ad.add ((k - 1) * 2)) = some (.string ⟨p.name.toArray⟩))) :=
         fun w' hb => ⟨hb, H4.out w' hb, HCC.out k a ha.out w' hb, HCC.out (k - 1) p hp.out w' hb⟩
        obtain ⟨l, hl⟩ : ∃ l, Hid (leB a.name p.name = l) := ⟨_, rfl⟩
        rw [hl.out] at hin'
        have HIN := Lib.hid hin'
        clear hin'
        have hkw : IntKind.i64.wrap ((k : Int) - 1) = (k : Int) - 1 := IntWalk.i64_in _ (by omega)
        have hkn : ((k : Int) - 1).toNat = k - 1 := by omega
        cases q with
        | false =>
         have hv : Hid (V = 63) := by
          show _ = _
          have hR0 : R = false := by rw [← HIN.out]; rfl
          rw [← HV.out, hR0]; rfl
         go_wp2_with fail
         refine wp_region_held_drew (S := fun w' => Below w1.heap.size w1 w' ∧ w'.cell? ⟨w.heap.size, 4, none⟩ = some (.slice (some ad) x.attrs.length c) ∧ w'.cell? (ad.add (k * 2)) = some (.string ⟨a.name.toArray⟩) ∧ w'.cell? (ad.add ((k - 1) * 2)) = some (.string ⟨p.name.toArray⟩)) (by kernel_rfl) (HS.out _ hbel.drew) (fun hHeld => ?_)
         refine tkv 0 (h := tkv 1 (h := tkv 2 (h := tkv 3 (h := tkv 4 (h := tkv 5 (h := ?_))))))
         refine rdy 6 (fun K hK => ?_)
         go_simp
         refine (RName_l _ _ hnm _ hq).mono ?_; rintro e w3 ⟨rfl, hb3⟩
         go_wp2_with fail
         refine hK.out _ _ (HS.out _ (hbel.drew.trans (hb3.mono hbel.drew.size))) (fun hHeld => ?_)
         clear hK K
         try go_frame
         refine tkv 7 (h := tkv 8 (h := ?_))
         refine tkn 9 (h := tkn 10 (h := tkn 11 (h := tkn 12 (h := tkn 13 (h := tkn 14 (h := ?_))))))
         refine tkn 15 (h := tkn 16 (h := tkn 17 (h := tkn 18 (h := tkn 19 (h := tkn 20 (h := ?_))))))
         refine tkn 21 (h := tkn 22 (h := tkn 23 (h := tkn 24 (h := tkn 25 (h := tkn 26 (h := ?_))))))
         refine tkv 27 (h := ?_)
         refine wpAnyH_done (by kernel_rfl) ?_ _
         clear hkw hkn
         go_wp2_with fail
         go_ret
         exact ⟨by rw [hv.out]; rfl, hbw1.trans ((hbel.drew.trans (hb3.mono hbel.drew.size)).mono (by omega))⟩
        | true =>
         have hl1 := hl.out
         unfold leB at hl1
         cases l with
         | true =>
          have hv : Hid (V = 63) := by
           show _ = _
           have hR0 : R = false := by rw [← HIN.out]; rfl
           rw [← HV.out, hR0]; rfl
          go_wp2_with fail
          refine wp_region_held_drew (S := fun w' => Below w1.heap.size w1 w' ∧ w'.cell? ⟨w.heap.size, 4, none⟩ = some (.slice (some ad) x.attrs.length c) ∧ w'.cell? (ad.add (k * 2)) = some (.string ⟨a.name.toArray⟩) ∧ w'.cell? (ad.add ((k - 1) * 2)) = some (.string ⟨p.name.toArray⟩)) (by kernel_rfl) (HS.out _ hbel.drew) (fun hHeld => ?_)
          refine tkv 0 (h := tkv 1 (h := tkv 2 (h := tkv 3 (h := tkv 4 (h := tkv 5 (h := ?_))))))
          refine rdy 6 (fun K hK => ?_)
          go_simp
          refine (RName_l _ _ hnm _ hq).mono ?_; rintro e w3 ⟨rfl, hb3⟩
          go_wp2_with fail
          refine hK.out _ _ (HS.out _ (hbel.drew.trans (hb3.mono hbel.drew.size))) (fun hHeld => ?_)
          clear hK K
          try go_frame
          refine tkv 7 (h := tkv 8 (h := tkv 9 (h := tkv 10 (h := tkv 11 (h := tkv 12 (h := ?_))))))
          refine tkv 13 (h := tkv 14 (h := tkv 15 (h := tkv 16 (h := tkv 17 (h := tkv 18 (h := ?_))))))
          refine tkv 19 (h := tkv 20 (h := tkv 21 (h := tkv 22 (h := tkv 23 (h := tkv 24 (h := ?_))))))
          refine tkv 25 (h := tkv 26 (h := tkv 27 (h := ?_)))
          refine wpAnyH_done (by kernel_rfl) ?_ _
          clear hkw hkn
          go_wp2_with fail
          go_ret
          exact ⟨by rw [hv.out]; rfl, hbw1.trans ((hbel.drew.trans (hb3.mono hbel.drew.size)).mono (by omega))⟩
         | false =>
          have HIN' : Hid (fromK x.attrs (k + 1) = R) := HIN.out
          go_wp2_with fail
          refine wp_region_held_drew (S := fun w' => Below w1.heap.size w1 w' ∧ w'.cell? ⟨w.heap.size, 4, none⟩ = some (.slice (some ad) x.attrs.length c) ∧ w'.cell? (ad.add (k * 2)) = some (.string ⟨a.name.toArray⟩) ∧ w'.cell? (ad.add ((k - 1) * 2)) = some (.string ⟨p.name.toArray⟩)) (by kernel_rfl) (HS.out _ hbel.drew) (fun hHeld => ?_)
          refine tkv 0 (h := tkv 1 (h := tkv 2 (h := tkv 3 (h := tkv 4 (h := tkv 5 (h := ?_))))))
          refine rdy 6 (fun K hK => ?_)
          go_simp
          refine (RName_l _ _ hnm _ hq).mono ?_; rintro e w3 ⟨rfl, hb3⟩
          go_wp2_with fail
          refine hK.out _ _ (HS.out _ (hbel.drew.trans (hb3.mono hbel.drew.size))) (fun hHeld => ?_)
          clear hK K
          try go_frame
          refine tkv 7 (h := tkv 8 (h := tkv 9 (h := tkv 10 (h := tkv 11 (h := tkv 12 (h := ?_))))))
          refine tkv 13 (h := tkv 14 (h := tkv 15 (h := tkv 16 (h := tkv 17 (h := tkv 18 (h := ?_))))))
          refine tkv 19 (h := tkv 20 (h := tkv 21 (h := tkv 22 (h := tkv 23 (h := tkv 24 (h := ?_))))))
          refine tkv 25 (h := tkv 26 (h := tkv 27 (h := ?_)))
          refine wpAnyH_done (by kernel_rfl) ?_ _
          have hb3' := hbel.drew.trans (hb3.mono hbel.drew.size)
          clear hkw hkn hl1
          go_wp2_with fail
          go_roundw
          case rel => exact ⟨k + 1, by omega, by go_num, HIN', hb3'⟩
          case measure => simp [intOf]; omega
      ·have hk' : k = x.attrs.length := by omega
       have hR1 : R = true := by rw [← hin.out, hk', fromK_end]
       have hV1 := HV.out
       rw [hR1] at hV1
       simp only [if_true] at hV1
       subst hk'
       clear hin hlt hk
       by_cases hbig : 20 < x.attrs.length
       ·have hv : Hid (V = 67) := by
         show _ = _
         rw [← hV1, if_pos hbig]; rfl
        clear hV1
        go_wp2_with fail
        go_ret
        exact ⟨by rw [hv.out]; rfl, hbwr⟩
       ·rw [if_neg hbig, if_pos rfl] at hV1
        have HV1 := Lib.hid hV1
        clear hV1
        go_wp2_with fail
        go_loopw [4] (fun i wr => ∃ (k : Nat), k ≤ x.attrs.length ∧ i = .int .i64 k ∧ Hid (valuesE (x.attrs.drop k) = V) ∧ Below w1.heap.size w1 wr) (fun i _ => x.attrs.length - (intOf i).toNat)
        case atStart => exact ⟨0, Nat.zero_le _, rfl, HV1, hbel⟩
        case round =>
         obtain ⟨k, hk, rfl, hin, hbel⟩ := hrel
         have hzr := hbel.size
         have hbwr : Below w.heap.size w wr := hbw1.trans (hbel.mono (by omega))
         have hc4r := H4.out wr hbel
         by_cases hlt : k < x.attrs.length
         ·obtain ⟨a, ha⟩ : ∃ a, Hid (x.attrs[k]? = some a) := ⟨x.attrs[k], List.getElem?_eq_getElem _⟩
          obtain ⟨ad, hAd, hbl, hcs⟩ := (HA.out.below hbwr) (by omega)
          have hc1 := (hcs k a ha.out).2
          unfold strV at hc1
          clear hcs
          have hnm := (HS4.out k a ha.out).2
          subst hAd
          have hlt' : (k : Int) < x.attrs.length := by omega
          have hin' := hin.out
          rw [drop_cons ha.out, valuesE] at hin'
          obtain ⟨q, hq⟩ : ∃ q, Hid (charsE a.value = q) := ⟨_, rfl⟩
          rw [hq.out] at hin'
          by_cases hq0 : q = 0
          ·rw [if_pos hq0] at hin'
           have HIN := Lib.hid hin'
           subst hq0
           clear hin' hin
           go_wp2_with fail
           refine (rchars_l _ _ hnm _ hq).mono ?_; rintro e w3 ⟨rfl, hb3⟩
           have hb3' := hbel.trans (hb3.mono hbel.size)
           go_wp2_with fail
           go_roundw
           case rel => exact ⟨k + 1, by omega, by go_num, HIN, hb3'⟩
           case measure => simp [intOf]; omega
          ·rw [if_neg hq0] at hin'
           have HIN := Lib.hid hin'
           have e6 : (q != 0) = true := by simp [hq0]
           clear hin' hin hq0
           go_wp2_with fail
           refine (rchars_l _ _ hnm _ hq).mono ?_; rintro e w3 ⟨rfl, hb3⟩
           have hb3' := hbel.trans (hb3.mono hbel.size)
           go_wp2_with fail
           go_ret
           exact ⟨by rw [← HIN.out]; rfl, hbw1.trans (hb3'.mono (by omega))⟩
         ·have hk' : k = x.attrs.length := by omega
          have hv : Hid (V = 0) := by
           show _ = _
           rw [← hin.out, List.drop_eq_nil_of_le (by omega)]; rfl
          subst hk'
          clear hin hlt hk
          go_wp2_with fail
          go_ret
          exact ⟨by rw [hv.out]; rfl, hbwr⟩
   ·have e5 : (x.text == []) = false := by simp [k3]
    have hv : Hid (V = 68) := by show _ = _; rw [← hV', if_pos (.inr k3)]
    clear hV' k1 k2 k3
    unfold itemVal strV
    go_enter Tryz.func77, Tryz.ntmps77
    go_wp2_with fail
    go_ret
    exact ⟨by rw [hv.out]; rfl, (Below.refl _ w).alloc (Nat.le_refl _) _⟩
  ·have e4 : (x.kind != 1) = true := by simp [k2]
   have hv : Hid (V = 68) := by show _ = _; rw [← hV', if_pos (.inl k2)]
   clear hV' k1 k2
   unfold itemVal strV
   go_enter Tryz.func77, Tryz.ntmps77
   go_wp2_with fail
   go_ret
   exact ⟨by rw [hv.out]; rfl, (Below.refl _ w).alloc (Nat.le_refl _) _⟩
end
section
open Go.RowKit Go.Shelf
variable {X : Nat → Prop}
theorem wp_store_part {P : Program} {o : Oper} {a : Act} {w : World} {K : Act → World → Prop} {Q : Exit → Act → World → Prop} (ty : TypeId) (x y : Operand) (ho : o.op = .store ty x y)
  (g off : Nat) (cells : Array Value) (hx : a.eval x = .pointer (some ⟨g, off, none⟩)) (hy : a.eval y = .agg cells)
  (t : TypeId) (cur : Array Value) (hg : w.heap[g]? = some (.cells cur t (0, 0))) (hi : (P.info? ty).map (·.size) = some cells.size)
  (hfit : off + cells.size ≤ cur.size) (h1 : cells.all (·.oneCell') = true)
  (h : K (a.put o.dst undef) (w.setRow g (cur.toList.take off ++ cells.toList ++ cur.toList.drop (off + cells.size)).toArray)) : o.wp P a w K Q := by
 have hst := run_storeCells_at P g off t cells.toList 0 cur w hg (by simpa using hfit) (fun v hv => (Array.all_eq_true_iff_forall_mem.1 h1) v (by simpa using hv))
 have hsv : (storeVar ty ⟨g, off, none⟩ (.agg cells)).run P w = .ok () (w.setRow g (cur.toList.take off ++ cells.toList ++ cur.toList.drop (off + cells.size)).toArray) := by
  cases hq : P.info? ty with
  | none => simp [hq] at hi
  | some i =>
   have hs : cells.size = i.size := by simp [hq] at hi; omega
   simp [storeVar, sizeOf, typeInfo, hq, Value.cells, hs] at hst ⊢
   exact hst
 unfold Oper.wp execOp
 simp only [ho, hx, hy, Instr.storeAt, Instr.sureAddr, Sem.run_bind, Sem.run_pure, Result.andThen_ok, hsv]
 exact h
theorem wpList_store_part {P : Program} {ops : Array Oper} {rest : List Oper} {o : Oper} {a : Act} {w : World} {Q : Exit → Act → World → Prop} (hgd : o.guard = none) (ty : TypeId) (x y : Operand) (ho : o.op = .store ty x y)
  (g off : Nat) (cells : Array Value) (hx : a.eval x = .pointer (some ⟨g, off, none⟩)) (hy : a.eval y = .agg cells)
  (t : TypeId) (cur : Array Value) (hg : w.heap[g]? = some (.cells cur t (0, 0))) (hi : (P.info? ty).map (·.size) = some cells.size)
  (hfit : off + cells.size ≤ cur.size) (h1 : cells.all (·.oneCell') = true)
  (w' : World) (hw' : w.setRow g (cur.toList.take off ++ cells.toList ++ cur.toList.drop (off + cells.size)).toArray = w')
  (h : wpList P ops Q rest (a.put o.dst undef) w') : wpList P ops Q (o :: rest) a w :=
 wpList_plain hgd fun _ hK => wp_store_part ty x y ho g off cells hx hy t cur hg hi hfit h1 (hK _ _ (by rw [hw']; exact h))
theorem set_cells (T : List SlotR) (k : Nat) (s s' : SlotR) (vs : List Value) (hs : T[k]? = some s) (_hv : vs.length = 5) (he : cellsR s' = (cellsR s).take 1 ++ vs) (R : List Value) :
  ((T.flatMap cellsR ++ R).take (k * 6 + 1) ++ vs ++ (T.flatMap cellsR ++ R).drop (k * 6 + 1 + 5)).take (T.length * 6) = (T.set k s').flatMap cellsR ∧ ((T.flatMap cellsR ++ R).take (k * 6 + 1) ++ vs ++ (T.flatMap cellsR ++ R).drop (k * 6 + 1 + 5)).length = (T.flatMap cellsR ++ R).length := by
 have hk : k < T.length := (List.getElem?_eq_some_iff.1 hs).1
 have hT : T = T.take k ++ s :: T.drop (k + 1) := by
  conv => lhs; rw [← List.take_append_drop k T]
  rw [List.drop_eq_getElem_cons hk]
  rw [List.getElem?_eq_getElem hk] at hs
  injection hs with hs
  rw [hs]
 have hset : T.set k s' = T.take k ++ s' :: T.drop (k + 1) := by rw [List.set_eq_take_append_cons_drop, if_pos hk]
 obtain ⟨A, hA⟩ : ∃ A, A = T.take k := ⟨_, rfl⟩
 obtain ⟨B, hB⟩ : ∃ B, B = T.drop (k + 1) := ⟨_, rfl⟩
 have hAl : A.length = k := by rw [hA, List.length_take]; omega
 rw [← hA, ← hB] at hT hset
 rw [hset]
 have hFA : (A.flatMap cellsR).length = k * 6 := by rw [flat_length cellsR 6 cellsR_length, hAl]
 have hF : T.flatMap cellsR ++ R = A.flatMap cellsR ++ ((cellsR s).take 1 ++ ((cellsR s).drop 1 ++ (B.flatMap cellsR ++ R))) := by
  rw [hT, List.flatMap_append, List.flatMap_cons, ← List.append_assoc ((cellsR s).take 1), List.take_append_drop]
  simp
 have h1 : (T.flatMap cellsR ++ R).take (k * 6 + 1) = A.flatMap cellsR ++ (cellsR s).take 1 := by
  rw [hF, ← List.append_assoc, List.take_left' (by rw [List.length_append, hFA]; rfl)]
 have h2 : (T.flatMap cellsR ++ R).drop (k * 6 + 1 + 5) = B.flatMap cellsR ++ R := by
  rw [hF, ← List.append_assoc, ← List.append_assoc, List.drop_left' (by rw [List.length_append, List.length_append, hFA]; rfl)]
 rw [h1, h2]
 have e : A.flatMap cellsR ++ (cellsR s).take 1 ++ vs ++ (B.flatMap cellsR ++ R) = (A ++ s' :: B).flatMap cellsR ++ R := by
  rw [List.flatMap_append, List.flatMap_cons, he]
  simp
 rw [e]
 have hl : ((A ++ s' :: B).flatMap cellsR).length = T.length * 6 := by
  rw [flat_length cellsR 6 cellsR_length, hT]
  simp
 refine ⟨List.take_left' hl, ?_⟩
 rw [List.length_append, List.length_append, hl, flat_length cellsR 6 cellsR_length]
theorem Rtext_any (s : List UInt8) (w : World) (hs : s.length ≤ 1000000000) (V : Int) (hV : Hid (charsE s = V)) :
  Calls Tryz.prog 90 #[.string ⟨s.toArray⟩] w (Ret w (.int .i64 V)) := by
 obtain ⟨n, hn⟩ : ∃ n, Hid (countL s = n) := ⟨_, rfl⟩
 have hz : (⟨s.toArray⟩ : ByteArray).size = s.length := by show s.toArray.size = _; simp
 have hz' : (⟨s.toArray⟩ : ByteArray).size ≤ 1000000000 := by rw [hz]; exact hs
 have hv := hV.out
 unfold charsE at hv
 rw [hn.out] at hv
 by_cases c1 : n < 0
 ·have HV : Hid (64 = V) := by rw [if_pos c1] at hv; exact hv
  clear hv hV
  go_enter Tryz.func90, Tryz.ntmps90
  go_wp2_with fail
  refine (RCount_as ⟨s.toArray⟩ w hz' n (by show countL s = n; exact hn.out)).mono ?_
  rintro e w2 ⟨rfl, hb2⟩
  go_wp2_with fail
  go_ret
  exact ⟨by rw [← HV.out]; rfl, hb2⟩
 ·rw [if_neg c1] at hv
  have c1' : 0 ≤ n := by omega
  by_cases c2 : 1500 < s.length
  ·have HV : Hid (67 = V) := by rw [if_pos c2] at hv; exact hv
   have c2' : (1500 : Int) < (s.length : Int) := by omega
   clear hv hV c1
   go_enter Tryz.func90, Tryz.ntmps90
   go_wp2_with fail
   refine (RCount_as ⟨s.toArray⟩ w hz' n (by show countL s = n; exact hn.out)).mono ?_
   rintro e w2 ⟨rfl, hb2⟩
   rw [← hz] at c2 c2'
   go_wp2_with fail
   go_ret
   exact ⟨by rw [← HV.out]; rfl, hb2⟩
  ·have HV : Hid (0 = V) := by rw [if_neg c2] at hv; exact hv
   have c2' : ¬ (1500 : Int) < (s.length : Int) := by omega
   clear hv hV c1
   go_enter Tryz.func90, Tryz.ntmps90
   go_wp2_with fail
   refine (RCount_as ⟨s.toArray⟩ w hz' n (by show countL s = n; exact hn.out)).mono ?_
   rintro e w2 ⟨rfl, hb2⟩
   rw [← hz] at c2 c2'
   go_wp2_with fail
   go_ret
   exact ⟨by rw [← HV.out]; rfl, hb2⟩
theorem Rset_g (L : List RowD) (ad : Addr) (c : Nat) (next : Int) (k : Nat) (x : ItemD) (Ax : Option Addr) (cx : Nat) (w : World) (hL : RowsAt X w w.heap.size (some ad) L) (hl : L.length ≤ 100000) (hc : SliceOk (some ad) L.length c) (hk : k < L.length) (hx : AttrsX X w w.heap.size Ax x.attrs) (hxc : x.attrs.length ≤ cx) :
  Calls Tryz.prog 92 #[.agg #[.slice (some ad) L.length c, .int .i64 next], .int .i64 (k : Int), .agg (itemVal x Ax cx)] w fun er w' => ∃ A2 c2 S, er = .returned (.agg #[.slice A2 S.length c2, .int .i64 next]) ∧ S.map (·.1) = L.modify k (fun r => ⟨r.id, x⟩) ∧ RowsOwn w' w.heap.size A2 c2 S ∧ AttrsOf X w w.heap.size S ∧ Below w.heap.size w w' := by
 obtain ⟨T, t1, t2, t3⟩ := slots_all hL
 obtain ⟨hc1, hc2, _⟩ := hc
 obtain ⟨n, hn⟩ : ∃ n, Hid (L.length = n) := ⟨_, rfl⟩
 rw [hn.out] at hc1 hk hl ⊢
 have hk0 : (0 : Int) ≤ (k : Int) := by omega
 have hk1 : (k : Int) < (n : Int) := by omega
 have hT : T.length = n := by rw [← hn.out, ← t1, List.length_map]
 obtain ⟨W4, hW4⟩ : ∃ W4, Hid (W4 = ((((w.alloc (.cells #[.slice (some ad) n c, .int .i64 next] 29)).alloc (.cells #[.int .i64 x.level, .int .i64 x.kind, strV x.name, strV x.text, .slice Ax x.attrs.length cx] 62)).alloc (.cells zeroT 29)).alloc (.cells #[] 97))) := ⟨_, rfl⟩
 have hb4 : Below w.heap.size w W4 := by rw [hW4.out]; exact ((((Below.refl _ w).alloc (Nat.le_refl _) _).alloc (by simp <;> omega) _).alloc (by simp <;> omega) _).alloc (by simp <;> omega) _
 have hz4 : W4.heap.size = w.heap.size + 4 := by rw [hW4.out]; simp
 have hx4 : W4.heap[w.heap.size]? = some (.cells #[.slice (some ad) n c, .int .i64 next] 29 (0, 0)) := by
  rw [hW4.out]
  exact (Below.heap_alloc _ _ _ (by simp <;> omega)).trans ((Below.heap_alloc _ _ _ (by simp <;> omega)).trans ((Below.heap_alloc _ _ _ (by simp <;> omega)).trans (heap_alloc_new w _)))
 have hi4 : W4.heap[w.heap.size + 1]? = some (.cells #[.int .i64 x.level, .int .i64 x.kind, strV x.name, strV x.text, .slice Ax x.attrs.length cx] 62 (0, 0)) := by
  rw [hW4.out]
  refine (Below.heap_alloc _ _ _ (by simp <;> omega)).trans ((Below.heap_alloc _ _ _ (by simp <;> omega)).trans ?_)
  have := heap_alloc_new (w.alloc (.cells #[.slice (some ad) n c, .int .i64 next] 29)) (.cells #[.int .i64 x.level, .int .i64 x.kind, strV x.name, strV x.text, .slice Ax x.attrs.length cx] 62)
  simpa using this
 have hy4 : W4.heap[w.heap.size + 2]? = some (.cells zeroT 29 (0, 0)) := by
  rw [hW4.out]
  refine (Below.heap_alloc _ _ _ (by simp <;> omega)).trans ?_
  have := heap_alloc_new ((w.alloc (.cells #[.slice (some ad) n c, .int .i64 next] 29)).alloc (.cells #[.int .i64 x.level, .int .i64 x.kind, strV x.name, strV x.text, .slice Ax x.attrs.length cx] 62)) (.cells zeroT 29)
  simpa using this
 have he4 : W4.heap[w.heap.size + 3]? = some (.cells #[] 97 (0, 0)) := by
  rw [hW4.out]
  have := heap_alloc_new (((w.alloc (.cells #[.slice (some ad) n c, .int .i64 next] 29)).alloc (.cells #[.int .i64 x.level, .int .i64 x.kind, strV x.name, strV x.text, .slice Ax x.attrs.length cx] 62)).alloc (.cells zeroT 29)) (.cells #[] 97)
  simpa using this
 have hown4 : RowsOwn W4 0 (some ⟨w.heap.size + 3, 0, none⟩) 0 [] := ⟨rfl, .inr ⟨w.heap.size + 3, 0, #[], rfl, Nat.zero_le _, he4, Nat.le_refl _, Nat.zero_le _, rfl, rfl⟩⟩
 obtain ⟨pa, pc, w5, hr5, hown5, hg5, hf5⟩ := run_append_any hown4 T (some ad) c (t3.below hb4) (by simp) (by omega)
 rw [hT, List.length_nil, Nat.zero_add] at hr5 hf5
 rw [List.nil_append] at hown5
 have hfr5 : ∀ b, (Value.slice pa n pc).ownBlock = some b → w.heap.size + 3 ≤ b := fun b hb => by
  rcases hf5 b hb with h | h
  ·simp [Value.ownBlock] at h; omega
  ·omega
 have hbk : ∀ b, b < w.heap.size + 3 → w5.heap[b]? = W4.heap[b]? := fun b hb => hg5.block b (by omega) (by simp [Value.ownBlock]; omega)
 have hb5 : Below w.heap.size w w5 := ⟨hg5.os.trans hb4.os, hg5.tape.trans hb4.tape, hg5.output.trans hb4.output, Nat.le_trans hb4.size hg5.size, fun b hb => (hbk b (by omega)).trans (hb4.block b hb)⟩
 have hx5 := (hbk w.heap.size (by omega)).trans hx4
 have hi5 := (hbk (w.heap.size + 1) (by omega)).trans hi4
 have hy5 := (hbk (w.heap.size + 2) (by omega)).trans hy4
 obtain ⟨g, hpa, _, hgw, hcap, hcell⟩ := own_flat cellsR cellsR_length (show w5.ownsRow 0 _ 6 (.slice pa T.length pc) T.length (T.flatMap cellsR) from hown5) (by omega)
 subst hpa
 have hgx : w.heap.size + 3 ≤ g := hfr5 g rfl
 obtain ⟨s, hs⟩ : ∃ s, Hid (T[k]? = some s) := ⟨T[k]'(by omega), List.getElem?_eq_getElem _⟩
 obtain ⟨cap, cur, hcapn, hcur, hcs, hctk, hcpm⟩ : ∃ cap cur, cap = pc ∧ w5.heap[g]? = some (.cells cur 97 (0, 0)) ∧ cur.size = cap * 6 ∧ cur.toList.take (n * 6) = T.flatMap cellsR ∧ n ≤ cap ∧ cap ≤ maxLen := by
  have hdj := hown5.2
  rw [hT] at hdj
  rcases hdj with ⟨h, _⟩ | ⟨g', cap, cur, h1, _, h2, h3, hcm, h4, h5⟩
  ·cases h
  ·injection h1 with h1 _ h6
   injection h1 with h1
   injection h1 with h1
   subst h1
   exact ⟨cap, cur, h6.symm, h2, h4, h5, h3, hcm⟩
 subst hcapn
 obtain ⟨R, hR⟩ : ∃ R, Hid (cur.toList = T.flatMap cellsR ++ R) := ⟨cur.toList.drop (n * 6), by show _ = _; rw [← hctk, List.take_append_drop]⟩
 obtain ⟨s', hs'⟩ : ∃ s' : SlotR, Hid (s' = (⟨s.1.id, x⟩, Ax, cx)) := ⟨_, rfl⟩
 obtain ⟨hset1, hset2⟩ := set_cells T k s s' [.int .i64 x.level, .int .i64 x.kind, strV x.name, strV x.text, .slice Ax x.attrs.length cx] hs.out rfl (by rw [hs'.out]; rfl) R
 rw [← hR.out, hT] at hset1
 rw [← hR.out] at hset2
 have hfit : k * 6 + 1 + 5 ≤ cur.size := by
  rw [hcs]
  have : (k + 1) * 6 ≤ cap * 6 := Nat.mul_le_mul_right _ (by omega)
  omega
 obtain ⟨w6, hw6⟩ : ∃ w6, Hid (w5.setRow g (cur.toList.take (k * 6 + 1) ++ [.int .i64 x.level, .int .i64 x.kind, strV x.name, strV x.text, .slice Ax x.attrs.length cx] ++ cur.toList.drop (k * 6 + 1 + 5)).toArray = w6) := ⟨_, rfl⟩
 have hg6 : w6.heap[g]? = some (.cells (cur.toList.take (k * 6 + 1) ++ [.int .i64 x.level, .int .i64 x.kind, strV x.name, strV x.text, .slice Ax x.attrs.length cx] ++ cur.toList.drop (k * 6 + 1 + 5)).toArray 97 (0, 0)) := by rw [← hw6.out]; exact setRow_heap _ _ _ _ _ _ hcur
 have ho6 : ∀ b, b ≠ g → w6.heap[b]? = w5.heap[b]? := fun b hb => by rw [← hw6.out]; exact setRow_other _ _ _ _ hb
 have hz6 : w6.heap.size = w5.heap.size := by rw [← hw6.out, setRow_size]
 have hown6 : RowsOwn w6 w.heap.size (some ⟨g, 0, none⟩) cap (T.set k s') := by
  refine ⟨by rw [flat_length cellsR 6 cellsR_length], .inr ⟨g, cap, _, rfl, by omega, hg6, by rw [List.length_set, hT]; exact hcpm.1, hcpm.2, ?_, ?_⟩⟩
  ·show (_ : List Value).toArray.size = _
   rw [List.size_toArray, hset2, Array.length_toList, hcs]
  ·rw [List.length_set, hT]
   exact hset1
 have hb6 : Below w.heap.size w w6 := by
  rw [← hw6.out]
  exact ⟨hb5.os, hb5.tape, hb5.output, by rw [setRow_size]; exact hb5.size, fun b hb => (setRow_other _ _ _ _ (by omega)).trans (hb5.block b hb)⟩
 have hx6 := (ho6 w.heap.size (by omega)).trans hx5
 have hy6 := (ho6 (w.heap.size + 2) (by omega)).trans hy5
 have hset : Hid ((T.set k s').map (·.1) = L.modify k (fun r => ⟨r.id, x⟩)) := by
  show _ = _
  have hsL : L[k]? = some s.1 := by rw [← t1, List.getElem?_map, hs.out]; rfl
  have hkL : k < L.length := by rw [hn.out]; exact hk
  have hsL' : L[k] = s.1 := by rw [List.getElem?_eq_getElem hkL] at hsL; injection hsL
  rw [List.map_set, t1, hs'.out]
  apply List.ext_getElem?
  intro i
  rw [List.getElem?_set, List.getElem?_modify]
  by_cases hki : k = i
  ·subst hki
   rw [if_pos rfl, if_pos hkL, List.getElem?_eq_getElem hkL, hsL']
   simp
  ·rw [if_neg hki]
   simp [hki]
 have hat : Hid (AttrsOf X w w.heap.size (T.set k s')) := fun y hy => by
  rcases List.mem_or_eq_of_mem_set hy with hy | hy
  ·exact t2 y hy
  ·rw [hy, hs'.out]; exact ⟨hx, hxc⟩
 have a0 := cell_row hx4 0 _ rfl
 have HX5 := Lib.hid hx5
 have HX6 := Lib.hid hx6
 have HY6 := Lib.hid hy6
 have HOWN6 := Lib.hid hown6
 have HB6 := Lib.hid hb6
 have HCUR := Lib.hid hcur
 have HFIT := Lib.hid hfit
 have HGX := Lib.hid hgx
 have HTL := Lib.hid hT
 rw [hW4.out] at hr5 a0
 have i0 := cell_row hi5 0 _ rfl
 have i1 := cell_row hi5 1 _ rfl
 have i2 := cell_row hi5 2 _ rfl
 have i3 := cell_row hi5 3 _ rfl
 have i4 := cell_row hi5 4 _ rfl
 have b1 := free_row hx6 0
 have b0 := cell_row hx6 0 _ rfl
 clear hx6 hy6 hown6 hb6 hcur hfit hx5 hi5 hy5 hb5 hset1 hset2 hctk hown5 hcell hx4 hi4 hy4 he4 hown4 hg5 hf5 hb4 hbk hfr5 t1 t2 t3 hT hx hL hg6 ho6 hcs hgx hz4
 unfold itemVal
 go_enter Tryz.func92, Tryz.ntmps92
 go_upto_region 2 with (at_builtin; refine wpList_append_runI _ rfl _ _ 27 rfl (.slice (some ⟨w.heap.size + 3, 0, none⟩) 0 0) (.slice (some ad) n c) (by simp [Act.eval]) (by simp [Act.eval]) hr5 ?_)
 go_upto_region 4 with (refine wpList_store_part rfl 62 (.tmp 16) (.tmp 14) rfl g (k * 6 + 1) #[.int .i64 x.level, .int .i64 x.kind, strV x.name, strV x.text, .slice Ax x.attrs.length cx] rfl rfl 97 cur HCUR.out (by kernel_rfl) HFIT.out (by simp [Value.oneCell', strV]) w6 hw6.out ?_)
 clear b0 b1 i0 i1 i2 i3 i4
 have HB7 : Hid (Below w.heap.size w (w6.setCell ⟨w.heap.size, 0, none⟩ (.slice (some ⟨g, 0, none⟩) n cap))) := HB6.out.setCell (Nat.le_refl _) _
 obtain ⟨w7, hw7⟩ : ∃ w7, Hid (w6.setCell ⟨w.heap.size, 0, none⟩ (.slice (some ⟨g, 0, none⟩) n cap) = w7) := ⟨_, rfl⟩
 rw [hw7.out] at HB7
 have hx7 : w7.heap[w.heap.size]? = some (.cells (treeV (some ⟨g, 0, none⟩) n cap next) 29 (0, 0)) := by rw [← hw7.out]; exact Lib.heap_setCell_same (i := 0) HX6.out _
 have HY7 : Hid (w7.heap[w.heap.size + 2]? = some (.cells zeroT 29 (0, 0))) := by
  show _ = _
  rw [← hw7.out, Below.heap_setCell _ _ _ _ (by show w.heap.size + 2 ≠ w.heap.size; omega)]
  exact HY6.out
 have HOWN7 : Hid (RowsOwn w7 w.heap.size (some ⟨g, 0, none⟩) cap (T.set k s')) := by
  show RowsOwn _ _ _ _ _
  rw [← hw7.out]
  exact row_block HOWN6.out fun b hb => Below.heap_setCell _ _ _ _ (fun e => by
   have e' : b = w.heap.size := e
   have e2 : g = b := by simpa [Value.ownBlock] using hb
   have := HGX.out
   omega)
 have e0 := cell_row hx7 0 _ rfl
 have e1 := cell_row hx7 1 _ rfl
 clear hx7
 rw [hw7.out]
 go_wp2_with (refine wpList_store_row rfl 29 (.tmp 6) (.tmp 19) rfl (w.heap.size + 2) (treeV (some ⟨g, 0, none⟩) n cap next) rfl rfl 29 zeroT HY7.out (by kernel_rfl) rfl (treeV_one _ _ _ _) ?_)
 try simp only [Exit.inBlock, Exit.then]
 refine bodyPost_ret (results_cell_row Tryz.results92 _ _ (w.heap.size + 2) 29 (treeV (some ⟨g, 0, none⟩) n cap next) (0, 0) _ rfl (setRow_heap _ _ _ _ _ _ HY7.out) Tryz.underlying29 rfl (by kernel_rfl)) rfl ?_
 refine ⟨some ⟨g, 0, none⟩, cap, T.set k s', by rw [List.length_set, HTL.out]; rfl, hset.out, row_block HOWN7.out fun b hb => setRow_other _ _ _ _ (fun e => ?_), hat.out, ?_⟩
 ·have e2 : g = b := by simpa [Value.ownBlock] using hb
  have := HGX.out
  omega
 ·have h1 := HB7.out
  exact ⟨h1.os, h1.tape, h1.output, by rw [setRow_size]; exact h1.size, fun b hb => (setRow_other _ _ _ _ (by omega)).trans (h1.block b hb)⟩
end
section
open Go.RowKit Go.Shelf
variable {X : Nat → Prop}
theorem RowsAt.setRow {w : World} {B : Nat} {A : Option Addr} {L : List RowD} (h : RowsAt X w B A L) {g : Nat} {old : Array Value} {t : TypeId} {fr : Nat × Nat} (hg : w.heap[g]? = some (.cells old t fr)) (hno : ∀ (i : Nat) (s : ByteArray), old[i]? ≠ some (.string s)) (cs : Array Value) : RowsAt X (w.setRow g cs) B A L := fun hl => by
 obtain ⟨ad, rfl, hb, hr⟩ := h hl
 have hblk : ∀ (p : Addr) (s : ByteArray), w.cell? p = some (.string s) → p.block ≠ g := fun p s hp e => by
  unfold World.cell? at hp
  rw [e, hg] at hp
  have hp' : p.spot = none ∧ old[p.off]? = some (Value.string s) := by simpa using hp
  exact hno _ _ hp'.2
 have hkeep : ∀ p : Addr, p.block ≠ g → (w.setRow g cs).cell? p = w.cell? p := fun p hp => by
  unfold World.cell?
  rw [setRow_other _ _ _ _ hp]
 have hne : ad.block ≠ g := by
  obtain ⟨r, hr0⟩ : ∃ r, L[0]? = some r := ⟨L[0], List.getElem?_eq_getElem hl⟩
  obtain ⟨A', c', _, _, hc⟩ := hr 0 r hr0
  unfold RowCells at hc
  have := hblk _ _ hc.2.2.2.1
  simpa [block_of_add] using this
 refine ⟨ad, rfl, hb, fun k r hk => ?_⟩
 obtain ⟨A', c', ⟨ha, hax⟩, hcc, hc⟩ := hr k r hk
 have hne' : (ad.add (k * 6)).block ≠ g := by rw [block_of_add]; exact hne
 refine ⟨A', c', ⟨fun hp => ?_, hax⟩, hcc, ?_⟩
 ·obtain ⟨ad2, rfl, hb2, hq⟩ := ha hp
  refine ⟨ad2, rfl, hb2, fun j a hj => ?_⟩
  obtain ⟨q1, q2⟩ := hq j a hj
  exact ⟨by rw [hkeep _ (hblk _ _ q1)]; exact q1, by rw [hkeep _ (hblk _ _ q2)]; exact q2⟩
 ·unfold RowCells at hc ⊢
  obtain ⟨e0, e1, e2, e3, e4, e5⟩ := hc
  exact ⟨(hkeep _ hne').trans e0, (hkeep _ (by exact hne')).trans e1, (hkeep _ (by exact hne')).trans e2, (hkeep _ (by exact hne')).trans e3, (hkeep _ (by exact hne')).trans e4, (hkeep _ (by exact hne')).trans e5⟩
theorem zeroT_no : ∀ (i : Nat) (s : ByteArray), zeroT[i]? ≠ some (.string s) := fun i s => by
 match i with
 | 0 => simp [zeroT]
 | 1 => simp [zeroT]
 | i + 2 => simp [zeroT]
theorem treeV_no (A : Option Addr) (n c : Nat) (next : Int) : ∀ (i : Nat) (s : ByteArray), (treeV A n c next)[i]? ≠ some (.string s) := fun i s => by
 match i with
 | 0 => simp [treeV]
 | 1 => simp [treeV]
 | i + 2 => simp [treeV]
theorem own_x {w : World} {B : Nat} {A : Option Addr} {c : Nat} {l : List AttrD} (h : AttrsOwn w B A c l) (hX : ∀ b, B ≤ b → X b) : AttrsX X w w.heap.size A l := ⟨h.at, fun hp ad e => by
 obtain ⟨g, e', hb, _⟩ := own_flat cellsA cellsA_length h hp
 rw [e] at e'
 injection e' with e'
 subst e'
 exact hX _ hb⟩
def TreeR (X : Nat → Prop) (w : World) (A : Option Addr) (c : Nat) (L : List RowD) : Prop := RowsAt X w w.heap.size A L ∧ SliceOk A L.length c
def TPost (X : Nat → Prop) (w : World) (L : List RowD) (next e : Int) (er : Ending) (w' : World) : Prop := ∃ A c, er = .returned (.tuple #[.agg (treeV A L.length c next), .int .i64 e]) ∧ TreeR X w' A c L ∧ Below w.heap.size w w'
def TPost3 (X : Nat → Prop) (w : World) (a : Ans) (er : Ending) (w' : World) : Prop := ∃ A c, er = .returned (.tuple #[.agg (treeV A a.1.length c a.2.1), .int .i64 a.2.2.1, .int .i64 a.2.2.2]) ∧ TreeR X w' A c a.1 ∧ Below w.heap.size w w'
theorem TreeR.laid {w w2 : World} {A : Option Addr} {c : Nat} {L : List RowD} (h : TreeR X w2 A c L) (hb : Below w.heap.size w w2) {g : Nat} (hg : w.heap.size ≤ g) (hz : w2.heap[g]? = some (.cells zeroT 29 (0, 0))) (cs : Array Value) : TreeR X (w2.setRow g cs) A c L ∧ Below w.heap.size w (w2.setRow g cs) := by
 refine ⟨⟨?_, h.2⟩, ⟨hb.os, hb.tape, hb.output, by rw [setRow_size]; exact hb.size, fun b hb' => (setRow_other _ _ _ _ (by omega)).trans (hb.block b hb')⟩⟩
 rw [setRow_size]
 exact h.1.setRow hz zeroT_no cs
theorem TreeR.of {w w' : World} {A : Option Addr} {c : Nat} {S : List SlotR} (h : RowsOwn w' w.heap.size A c S) (ha : AttrsOf X w w.heap.size S) (hb : Below w.heap.size w w') {L : List RowD} (hL : S.map (·.1) = L) (hX : ∀ b, w.heap.size ≤ b → X b) : TreeR X w' A c L := by
 subst hL
 refine ⟨RowsOwn.at h ((ha.below hb).more hb.size) hX, ?_⟩
 rw [List.length_map]
 exact h.ok
theorem TreeR.below {w w' : World} {A : Option Addr} {c : Nat} {L : List RowD} (h : TreeR X w A c L) (hb : Below w.heap.size w w') : TreeR X w' A c L := ⟨(h.1.below hb).more hb.size, h.2⟩
end
section
open Go.RowKit Go.Shelf
variable {X : Nat → Prop}
theorem find_lt : ∀ {L : List RowD} {id : Int} {k : Nat}, findL L id = some k → k < L.length
 | [], _, _, h => by simp [findL] at h
 | r :: L, id, k, h => by
  unfold findL at h
  split at h
  ·injection h with h
   rw [List.length_cons]
   omega
  ·obtain ⟨j, hj, h⟩ := Option.map_eq_some_iff.1 h
   have := find_lt hj
   rw [List.length_cons]
   omega
theorem RDelete_any (L : List RowD) (A : Option Addr) (c : Nat) (next id : Int) (w : World) (hT : TreeR X w A c L) (hs : SmallRows L) (hX : ∀ b, w.heap.size ≤ b → X b) :
  Calls Tryz.prog 65 #[.agg #[.slice A L.length c, .int .i64 next], .int .i64 id] w (TPost X w (deleteL L next id).1 next (deleteL L next id).2.2.2) := by
 have HXN := Lib.hid hX
 clear hX
 obtain ⟨r, hr⟩ : ∃ r, Hid (findI L id = r) := ⟨_, rfl⟩
 have HS := Lib.hid hs
 obtain ⟨n, hn⟩ : ∃ n, Hid (L.length = n) := ⟨_, rfl⟩
 obtain ⟨W2, hW2⟩ : ∃ W2, Hid (W2 = (w.alloc (.cells #[.slice A L.length c, .int .i64 next] 29)).alloc (.cells #[.slice none 0 0, .int .i64 0] 29)) := ⟨_, rfl⟩
 have hb2 : Below w.heap.size w W2 := by rw [hW2.out]; exact ((Below.refl _ w).alloc (Nat.le_refl _) _).alloc (by simp) _
 have hz2 : W2.heap.size = w.heap.size + 2 := by rw [hW2.out]; simp
 have hx2 : W2.heap[w.heap.size]? = some (.cells (treeV A L.length c next) 29 (0, 0)) := by
  rw [hW2.out]
  exact (Below.heap_alloc _ _ _ (by simp)).trans (heap_alloc_new w _)
 have hy2 : W2.heap[w.heap.size + 1]? = some (.cells zeroT 29 (0, 0)) := by
  rw [hW2.out]
  have := heap_alloc_new (w.alloc (.cells #[.slice A L.length c, .int .i64 next] 29)) (.cells #[.slice none 0 0, .int .i64 0] 29)
  simpa [zeroT] using this
 have HT2 := Lib.hid (hT.below hb2)
 have HT := Lib.hid hT
 have HB2 := Lib.hid hb2
 have HX2 := Lib.hid hx2
 have HY2 := Lib.hid hy2
 have HZ2 := Lib.hid hz2
 clear hs hb2 hx2 hy2 hz2 hT
 cases hf : findL L id with
 | none =>
  have hr1 : r = -1 := by rw [← hr.out]; unfold findI; rw [hf]
  have ha : deleteL L next id = (L, next, 0, 60) := by unfold deleteL; rw [hf]
  rw [ha]
  clear ha hf
  subst hr1
  go_enter Tryz.func65, Tryz.ntmps65
  go_wp2_with fail
  rw [← hW2.out]
  refine (RFind_any L A c next id W2 HT2.out.1 HS.out (-1) hr).mono ?_
  rintro e3 w3 ⟨rfl, hb3⟩
  have hx3 := (hb3.block w.heap.size (by have := HZ2.out; omega)).trans HX2.out
  have HY3 : Hid (w3.heap[w.heap.size + 1]? = some (.cells zeroT 29 (0, 0))) := (hb3.block (w.heap.size + 1) (by have := HZ2.out; omega)).trans HY2.out
  have HT3 := Lib.hid (HT2.out.below hb3)
  have HB3 : Hid (Below w.heap.size w w3) := HB2.out.trans (hb3.mono HB2.out.size)
  have HZ3 : Hid (w.heap.size + 2 ≤ w3.heap.size) := by show _ ≤ _; have := hb3.size; have := HZ2.out; omega
  have HX3 := Lib.hid hx3
  clear hb3 hx3
  go_upto_region 3 with (fail)
  have e0 := cell_row HX3.out 0 _ rfl
  have e1 := cell_row HX3.out 1 _ rfl
  go_wp2_with (refine wpList_store_row rfl 29 (.tmp 4) (.tmp 12) rfl (w.heap.size + 1) (treeV A L.length c next) rfl rfl 29 zeroT HY3.out (by kernel_rfl) rfl (treeV_one _ _ _ _) ?_)
  try simp only [Exit.inBlock, Exit.then]
  refine bodyPost_ret (results_cellb Tryz.results65 _ _ (w.heap.size + 1) 29 (treeV A L.length c next) (0, 0) _ rfl (setRow_heap _ _ _ _ _ _ HY3.out) Tryz.underlying29 rfl (by kernel_rfl)) rfl ?_
  obtain ⟨q1, q2⟩ := HT3.out.laid HB3.out (g := w.heap.size + 1) (by omega) HY3.out (treeV A L.length c next)
  exact ⟨A, c, rfl, q1, q2⟩
 | some k =>
  have hr1 : r = (k : Int) := by rw [← hr.out]; unfold findI; rw [hf]
  have hk : k < L.length := find_lt hf
  subst hr1
  have k0 : (0 : Int) ≤ (k : Int) := by omega
  by_cases hk0 : k = 0
  ·have ha : deleteL L next id = (L, next, 0, 62) := by unfold deleteL; rw [hf]; exact if_pos hk0
   rw [ha]
   have t0 : ((k : Int) == 0) = true := by simp [hk0]
   clear ha hf hk0
   go_enter Tryz.func65, Tryz.ntmps65
   go_wp2_with fail
   rw [← hW2.out]
   refine (RFind_any L A c next id W2 HT2.out.1 HS.out (k : Int) hr).mono ?_
   rintro e3 w3 ⟨rfl, hb3⟩
   have hx3 := (hb3.block w.heap.size (by have := HZ2.out; omega)).trans HX2.out
   have HY3 : Hid (w3.heap[w.heap.size + 1]? = some (.cells zeroT 29 (0, 0))) := (hb3.block (w.heap.size + 1) (by have := HZ2.out; omega)).trans HY2.out
   have HT3 := Lib.hid (HT2.out.below hb3)
   have HB3 : Hid (Below w.heap.size w w3) := HB2.out.trans (hb3.mono HB2.out.size)
   have HZ3 : Hid (w.heap.size + 2 ≤ w3.heap.size) := by show _ ≤ _; have := hb3.size; have := HZ2.out; omega
   have HX3 := Lib.hid hx3
   clear hb3 hx3
   go_upto_region 5 with (fail)
   have e0 := cell_row HX3.out 0 _ rfl
   have e1 := cell_row HX3.out 1 _ rfl
   go_wp2_with (refine wpList_store_row rfl 29 (.tmp 4) (.tmp 15) rfl (w.heap.size + 1) (treeV A L.length c next) rfl rfl 29 zeroT HY3.out (by kernel_rfl) rfl (treeV_one _ _ _ _) ?_)
   try simp only [Exit.inBlock, Exit.then]
   refine bodyPost_ret (results_cellb Tryz.results65 _ _ (w.heap.size + 1) 29 (treeV A L.length c next) (0, 0) _ rfl (setRow_heap _ _ _ _ _ _ HY3.out) Tryz.underlying29 rfl (by kernel_rfl)) rfl ?_
   obtain ⟨q1, q2⟩ := HT3.out.laid HB3.out (g := w.heap.size + 1) (by omega) HY3.out (treeV A L.length c next)
   exact ⟨A, c, rfl, q1, q2⟩
  ·have ha : deleteL L next id = (withoutL L k, next, 0, 0) := by unfold deleteL; rw [hf]; exact if_neg hk0
   rw [ha]
   have t0 : ((k : Int) == 0) = false := by simpa using hk0
   clear ha hf hk0
   have HAD : Hid (∃ ad, A = some ad) := by
    obtain ⟨ad, hA, _⟩ := HT.out.1 (by omega)
    exact ⟨ad, hA⟩
   go_enter Tryz.func65, Tryz.ntmps65
   go_wp2_with fail
   rw [← hW2.out]
   refine (RFind_any L A c next id W2 HT2.out.1 HS.out (k : Int) hr).mono ?_
   rintro e3 w3 ⟨rfl, hb3⟩
   have hx3 := (hb3.block w.heap.size (by have := HZ2.out; omega)).trans HX2.out
   have HY3 : Hid (w3.heap[w.heap.size + 1]? = some (.cells zeroT 29 (0, 0))) := (hb3.block (w.heap.size + 1) (by have := HZ2.out; omega)).trans HY2.out
   have HT3 := Lib.hid (HT2.out.below hb3)
   have HB3 : Hid (Below w.heap.size w w3) := HB2.out.trans (hb3.mono HB2.out.size)
   have HZ3 : Hid (w.heap.size + 2 ≤ w3.heap.size) := by show _ ≤ _; have := hb3.size; have := HZ2.out; omega
   have HX3 := Lib.hid hx3
   clear hb3 hx3
   obtain ⟨ad, rfl⟩ := HAD.out
   have e0 := cell_row HX3.out 0 _ rfl
   have e1 := cell_row HX3.out 1 _ rfl
   go_upto_region 6 with (fail)
   go_wp2_with fail
   refine (Rwithout_g L ad c next k w3 HT3.out.1 HS.out HT3.out.2 hk).mono ?_
   rintro e4 w4 ⟨A4, c4, S, rfl, hS, hown, hat, hb4⟩
   have HT4 := Lib.hid (TreeR.of hown hat hb4 hS (fun b hb => HXN.out b (Nat.le_trans HB3.out.size hb)))
   have HSL : Hid (S.length = (withoutL L k).length) := by show _ = _; rw [← hS, List.length_map]
   have HY4 : Hid (w4.heap[w.heap.size + 1]? = some (.cells zeroT 29 (0, 0))) := (hb4.block (w.heap.size + 1) (by have := HZ3.out; omega)).trans HY3.out
   have HB4 : Hid (Below w.heap.size w w4) := HB3.out.trans (hb4.mono HB3.out.size)
   clear hown hat hb4 hS e0 e1
   rw [HSL.out]
   go_wp2_with (refine wpList_store_row rfl 29 (.tmp 4) (.tmp 18) rfl (w.heap.size + 1) (treeV A4 (withoutL L k).length c4 next) rfl rfl 29 zeroT HY4.out (by kernel_rfl) rfl (treeV_one _ _ _ _) ?_)
   try simp only [Exit.inBlock, Exit.then]
   refine bodyPost_ret (results_cellb Tryz.results65 _ _ (w.heap.size + 1) 29 (treeV A4 (withoutL L k).length c4 next) (0, 0) _ rfl (setRow_heap _ _ _ _ _ _ HY4.out) Tryz.underlying29 rfl (by kernel_rfl)) rfl ?_
   obtain ⟨q1, q2⟩ := HT4.out.laid HB4.out (g := w.heap.size + 1) (by omega) HY4.out (treeV A4 (withoutL L k).length c4 next)
   exact ⟨A4, c4, rfl, q1, q2⟩
end
end Go.Proofs.YtmkgajdgnmolkaaGreat
