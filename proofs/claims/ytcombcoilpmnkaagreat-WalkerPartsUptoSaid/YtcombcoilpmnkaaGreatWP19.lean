/-
  Texts of this claim, joined (by a program of the claim's author): WDep, WPaw, OpenG, Open.
-/
import Derived.Test.YtcombcoilpmnkaaGreatWP1
import Derived.Test.YtcombcoilpmnkaaGreatWP18
import Derived.Test.YtcombcoilpmnkaaGreatRows
import Derived.Test.YtcombcoilpmnkaaGreatWP2
import Derived.Deep.Slices
import Derived.Deep.Fields
import Derived.ChangeSame
import Derived.Carry
import Derived.ProofKit
import Derived.Test.YtcombcoilpmnkaaGreatWP4
namespace Go.Proofs.YtcombcoilpmnkaaGreat
set_option maxRecDepth 100000
set_option maxHeartbeats 16000000
section
open Go.RowKit Go.Shelf
def ChainAt (w : World) (A : Option Addr) (c k : Nat) : Prop := w.ownsRow 0 45 4 (.slice A k c) k ((List.replicate k ((sC, none, 0) : QSlot)).flatMap cellsS)
def zeroS : Array Value := #[.int .i64 0, .int .i64 0, .string ⟨#[]⟩, .slice none 0 0]
section
variable {M : Nat → Prop} {t : Nat} {f : Fo} {next : Int}
theorem set_any (w : World) (h : TreeM M t f next w) (l : List StepD) (A : Option Addr) (c : Nat) (hA : StepsAt w w.heap.size A l) (hs : SmallSteps l) : Calls Tryz.prog 18 #[.pointer (some ⟨t, 0, none⟩), .slice A l.length c] w (EvalPost w f l) := by
 have hev := Eval_any h l A c hA hs
 unfold treeI at hev
 go_enter Tryz.func18, Tryz.ntmps18
 go_wp2_with fail
 refine hev.mono ?_
 clear hev
 rintro e w1 ⟨A1, c1, rfl, h1, h2, h3⟩
 go_wp2_with fail
 go_ret2
 exact ⟨A1, c1, rfl, h1, h2, h3⟩
end
end
section
open Go.RowKit Go.Shelf
theorem walk_WalkerParts (l : List ItemD) (A : Option Addr) (c : Nat) (s : List StepD) (As : Option Addr) (cs : Nat) (x : QSlot) (w : World) (hI : ItemsAt w w.heap.size A l) (hS : SmallItems l) (hl : l.length ≤ 2000000) (hA : StepsAt w w.heap.size As s) (hSs : SmallSteps s) (hx : PredsAt w w.heap.size x.2.1 x.1.preds) (hxc : x.1.preds.length ≤ x.2.2) (hSx : SmallStep x.1) :
  Calls Tryz.prog 5 #[.slice A l.length c, .slice As s.length cs, .agg (slotC x)] w (Ret w (.bool true)) := by
 have HI := Lib.hid hI
 have HS := Lib.hid hS
 have HA := Lib.hid hA
 have HSS := Lib.hid hSs
 have HXP := Lib.hid hx
 have HXC := Lib.hid hxc
 have HSX := Lib.hid hSx
 have hs9 := hSs.1
 have n0 : (0 : Int) ≤ (s.length : Int) := by omega
 have n1 : (s.length : Int) ≤ 1000000000 := by omega
 unfold slotC
 clear hI hS hA hSs hx hxc hSx
 go_enter Tryz.func5, Tryz.ntmps5
 go_wp2_with fail
 obtain ⟨w0, hw0⟩ : ∃ w0, Hid (w.alloc (.cells (slotC x) 45) = w0) := ⟨_, rfl⟩
 have hw0' := hw0.out
 unfold slotC at hw0'
 rw [hw0']
 have hb0 : Below w.heap.size w w0 := by rw [← hw0.out]; exact (Below.refl _ w).alloc (Nat.le_refl _) _
 have HX0 : Hid (w0.heap[w.heap.size]? = some (.cells (slotC x) 45 (0, 0))) := by show _ = _; rw [← hw0.out]; exact heap_alloc_new w _
 have HB0 := Lib.hid hb0
 clear hb0 hw0'
 refine (grown_any l A c w0 ((HI.out.below HB0.out).more HB0.out.size) HS.out hl).mono ?_
 rintro e w1 ⟨M, t, f, next, Ar, cr, rfl, ht1, hr1, hf1, hb1, hlo1⟩
 have HT1 := Lib.hid ht1
 have HB1 := Lib.hid (HB0.out.trans (hb1.mono HB0.out.size))
 have HX1 : Hid (w1.heap[w.heap.size]? = some (.cells (slotC x) 45 (0, 0))) := (hb1.block _ (Array.getElem?_eq_some_iff.1 HX0.out).1).trans HX0.out
 clear ht1 hr1 hf1 hb1 hlo1
 go_upto_region 2 with (fail)
 obtain ⟨w2, hw2⟩ : ∃ w2, Hid (w1.alloc (.cells #[.slice Ar (f.flat 0).length cr, .int .i64 next] 27) = w2) := ⟨_, rfl⟩
 have hb2 : Below w1.heap.size w1 w2 := by rw [← hw2.out]; exact (Below.refl _ w1).alloc (Nat.le_refl _) _
 have HT2 := Lib.hid (HT1.out.below hb2)
 have HB2 := Lib.hid (HB1.out.trans (hb2.mono HB1.out.size))
 have HX2 : Hid (w2.heap[w.heap.size]? = some (.cells (slotC x) 45 (0, 0))) := (hb2.block _ (Array.getElem?_eq_some_iff.1 HX1.out).1).trans HX1.out
 rw [hw2.out]
 clear hb2
 go_wp2_with fail
 by_cases h40 : (l.length : Int) ≤ 40
 ·refine (small_any A l.length c w2 true (decide_eq_true h40)).mono ?_
  rintro e w3 ⟨rfl, hb3⟩
  have HB3 := Lib.hid (HB2.out.trans (hb3.mono HB2.out.size))
  have HT3 := Lib.hid (HT2.out.below hb3)
  have HX3 : Hid (w3.heap[w.heap.size]? = some (.cells (slotC x) 45 (0, 0))) := (hb3.block _ (Array.getElem?_eq_some_iff.1 HX2.out).1).trans HX2.out
  clear hb3
  by_cases h15 : (15 : Int) < s.length
  ·go_wp2_with fail
   refine (aliveW_any w3).mono ?_
   rintro e w4 ⟨rfl, hb4⟩
   have HB4 := Lib.hid (HB3.out.trans (hb4.mono HB3.out.size))
   clear hb4
   go_wp2_with fail
   go_ret
   exact ⟨rfl, HB4.out⟩
  by_cases h1 : (s.length : Int) < 1
  ·go_wp2_with fail
   refine (aliveW_any w3).mono ?_
   rintro e w4 ⟨rfl, hb4⟩
   have HB4 := Lib.hid (HB3.out.trans (hb4.mono HB3.out.size))
   clear hb4
   go_wp2_with fail
   go_ret
   exact ⟨rfl, HB4.out⟩
  have HL := Lib.hid (And.intro h1 h15)
  go_upto_region 4 with (fail)
  clear h1 h15 h40
  go_wp2_with fail
  refine (set_any w3 HT3.out s As cs ((HA.out.below HB3.out).more HB3.out.size) HSS.out).mono ?_
  rintro e w4 ⟨Aa, ca, rfl, hra, hb4, _⟩
  obtain ⟨EA, hEA⟩ : ∃ E, Hid (evalW f s = E) := ⟨_, rfl⟩
  rw [hEA.out] at hra ⊢
  have HRA := Lib.hid hra
  have HB4 := Lib.hid (HB3.out.trans (hb4.mono HB3.out.size))
  have HT4 := Lib.hid (HT3.out.below hb4)
  have HX4 : Hid (w4.heap[w.heap.size]? = some (.cells (slotC x) 45 (0, 0))) := (hb4.block _ (Array.getElem?_eq_some_iff.1 HX3.out).1).trans HX3.out
  obtain ⟨rs, hrs⟩ : ∃ r, Hid (rightL s = r) := ⟨_, rfl⟩
  rw [hrs.out]
  clear hra hb4
  go_upto_region 5 with (fail)
  have HAW : Hid (StepsAt w4 w4.heap.size As s) := (HA.out.below HB4.out).more HB4.out.size
  have HXW : Hid (PredsAt w4 w4.heap.size x.2.1 x.1.preds) := (HXP.out.below HB4.out).more HB4.out.size
  have HSL : Hid (s.length ≤ 15) := by have := HL.out.2; show _ ≤ _; omega
  obtain ⟨L, hL⟩ : ∃ L, Hid (s ++ [x.1] = L) := ⟨_, rfl⟩
  have HSML : Hid (SmallSteps L) := by
   show SmallSteps L
   rw [← hL.out]
   exact ⟨by have := HSL.out; simp; omega, fun y hy => by
    rcases List.mem_append.1 hy with hy | hy
    ·exact HSS.out.2 y hy
    ·rw [List.mem_singleton.1 hy]; exact HSX.out⟩
  have HSV : Hid (∀ V : World, Below w4.heap.size w4 V → (fun V => V.cell? ⟨w.heap.size, 0, none⟩ = some (.int .i64 x.1.axis) ∧ V.cell? ⟨w.heap.size, 1, none⟩ = some (.int .i64 x.1.test) ∧ V.cell? ⟨w.heap.size, 2, none⟩ = some (.string ⟨x.1.name.toArray⟩) ∧ V.cell? ⟨w.heap.size, 3, none⟩ = some (.slice x.2.1 x.1.preds.length x.2.2)) V) := fun V hV => by
   have h := (hV.block _ (Array.getElem?_eq_some_iff.1 HX4.out).1).trans HX4.out
   exact ⟨cell_row h 0 _ rfl, cell_row h 1 _ rfl, cell_row h 2 _ rfl, cell_row h 3 _ rfl⟩
  refine wp_mono (Q := onlyN fun _ a V => ∃ (Ab : Option Addr) (cb : Nat) (u23 u24 u25 u26 u27 u28 u29 u30 u31 u32 u33 u34 u35 u36 u37 u38 u39 u40 u41 u42 u43 u44 u50 u51 u52 u53 u54 u55 u56 u57 u58 u59 u60 u61 u62 u63 u64 u65 u66 : Value), intRow V (.slice Ab (evalW f L).length cb) (evalW f L) ∧ Below w4.heap.size w4 V ∧
   a = { tmps := #[Value.slice A l.length c, Value.slice As s.length cs, Value.agg #[Value.int .i64 x.1.axis, Value.int .i64 x.1.test, Value.string ⟨x.1.name.toArray⟩, Value.slice x.2.1 x.1.preds.length x.2.2], undef, undef, Value.pointer (some ⟨w.heap.size, 0, none⟩), Value.bool false, Value.pointer (some ⟨t, 0, none⟩), Value.pointer (some ⟨w1.heap.size, 0, none⟩), Value.slice Aa EA.length ca, Value.bool rs, Value.slice Ab (evalW f L).length cb, Value.bool (rightL L), undef, undef, undef, undef, undef, undef, undef, undef, undef, undef, u23, u24, u25, u26, u27, u28, u29, u30, u31, u32, u33, u34, u35, u36, u37, u38, u39, u40, u41, u42, u43, u44, undef, undef, undef, undef, undef, u50, u51, u52, u53, u54, u55, u56, u57, u58, u59, u60, u61, u62, u63, u64, u65, u66, undef, undef, undef, undef, undef, undef, undef, undef, undef, undef, undef, undef, undef, undef, undef, undef, undef, undef, undef, undef, undef, undef, undef, undef, undef, undef, undef, undef, undef, undef, undef, undef, undef, undef, undef, undef, undef, undef, undef, undef, undef, undef, undef, undef, undef, undef, undef, undef, undef, undef, undef, undef, undef, undef, undef, undef, undef, undef, undef], defers := [] }) ?_ ?_
  ·have hbd : Below w4.heap.size w4 w4.drew := ⟨rfl, rfl, rfl, Nat.le_refl _, fun _ _ => rfl⟩
   refine wp_region_held_drew (S := fun V => V.cell? ⟨w.heap.size, 0, none⟩ = some (.int .i64 x.1.axis) ∧ V.cell? ⟨w.heap.size, 1, none⟩ = some (.int .i64 x.1.test) ∧ V.cell? ⟨w.heap.size, 2, none⟩ = some (.string ⟨x.1.name.toArray⟩) ∧ V.cell? ⟨w.heap.size, 3, none⟩ = some (.slice x.2.1 x.1.preds.length x.2.2)) (by kernel_rfl) (HSV.out _ hbd) (fun hHeld => ?_)
   refine tkv 0 (h := tkv 2 (h := tkv 4 (h := ?_)))
   obtain ⟨v, hv⟩ : ∃ v, Hid (w4.drew = v) := ⟨_, rfl⟩
   rw [hv.out] at hbd hHeld ⊢
   have HB0' := Lib.hid hbd
   have HA0 := Lib.hid (HAW.out.below hbd)
   refine wpAnyH_ready (rs := [1, 5]) (by kernel_rfl) (by simp) ?_
   refine AllReadyH.cons (o := ⟨_, _, _, _, _, _⟩) rfl (fun K hK => ?_) (AllReadyH.cons (o := ⟨_, _, _, _, _, _⟩) rfl (fun K hK => ?_) AllReadyH.nil)
   ·go_simp
    have hbe : Below v.heap.size v (v.alloc (.cells #[] 45)) := (Below.refl _ v).alloc (Nat.le_refl _) _
    have HBE0 := Lib.hid (HB0'.out.trans (hbe.mono HB0'.out.size))
    refine hK.out _ _ (HSV.out _ HBE0.out) (fun hHeld => ?_)
    clear hK K
    try go_frame
    refine wpAnyH_ready (rs := [3, 5]) (by kernel_rfl) (by simp) ?_
    refine AllReadyH.cons (o := ⟨_, _, _, _, _, _⟩) rfl (fun K hK => ?_) (AllReadyH.cons (o := ⟨_, _, _, _, _, _⟩) rfl (fun K hK => ?_) AllReadyH.nil)
    ·obtain ⟨pa5, pc5, z2, pb, pn, pd, z4, hr5, hr6, hpn, hat, hb4, hb2⟩ := two_appends (B := w4.heap.size) (w := v) s As cs HA0.out HB0'.out.size (by have := HSL.out; omega) x (HXW.out.below HB0'.out) HXC.out
     subst hpn
     rw [hL.out] at hr6 hat
     unfold slotC at hr6
     refine step_append rfl (.tmp 58) (.tmp 59) 23 rfl _ _ rfl rfl hr5 ?_
     have HB2 := Lib.hid (HB0'.out.trans (hb2.mono HB0'.out.size))
     refine hK.out _ _ (HSV.out _ HB2.out) (fun hHeld => ?_)
     clear hK K
     try go_frame
     refine rdy 5 (fun K hK => ?_)
     go_simp
     have hb3 : Below z2.heap.size z2 (z2.alloc (.cells #[.int .i64 x.1.axis, .int .i64 x.1.test, .string ⟨x.1.name.toArray⟩, .slice x.2.1 x.1.preds.length x.2.2] 45)) := (Below.refl _ z2).alloc (Nat.le_refl _) _
     have HB3' := Lib.hid (HB2.out.trans (hb3.mono HB2.out.size))
     refine hK.out _ _ (HSV.out _ HB3'.out) (fun hHeld => ?_)
     clear hK K
     try go_frame
     refine rdy 6 (fun K hK => ?_)
     refine step_append rfl (.tmp 60) (.tmp 62) 23 rfl _ _ rfl rfl hr6 ?_
     have HAT := Lib.hid hat
     have HBV := Lib.hid (HB0'.out.trans (hb4.mono HB0'.out.size))
     clear hr5 hr6 hat hb4 hb2 hb3 hbe
     obtain ⟨v9, hv9⟩ : ∃ v9, Hid (z4 = v9) := ⟨_, rfl⟩
     rw [hv9.out] at HAT HBV ⊢
     refine hK.out _ _ (HSV.out _ HBV.out) (fun hHeld => ?_)
     clear hK K
     try go_frame
     refine rdy 7 (fun K hK => ?_)
     go_simp
     refine (set_any v9 (HT4.out.below HBV.out) L pb pd HAT.out HSML.out).mono ?_
     rintro e ve ⟨Ab', cb', rfl, hrb, hbb, _⟩
     have HRB' := Lib.hid hrb
     have HBE := Lib.hid (HBV.out.trans (hbb.mono HBV.out.size))
     clear hrb hbb
     refine hK.out _ _ (HSV.out _ HBE.out) (fun hHeld => ?_)
     clear hK K
     try go_frame
     refine tkv 8 (h := tkv 9 (h := tkv 10 (h := tkv 11 (h := tkv 12 (h := ?_)))))
     refine wpAnyH_done (by kernel_rfl) ?_ _
     dsimp only [onlyN]
     exact ⟨Ab', cb', _, _, _, _, _, _, _, _, _, _, _, _, _, _, _, _, _, _, _, _, _, _, _, _, _, _, _, _, _, _, _, _, _, _, _, _, _, _, _, HRB'.out, HBE.out, rfl⟩
    ·go_simp
     obtain ⟨v1', hv1⟩ : ∃ v1, Hid ((v.alloc (.cells #[] 45)).alloc (.cells #[.int .i64 x.1.axis, .int .i64 x.1.test, .string ⟨x.1.name.toArray⟩, .slice x.2.1 x.1.preds.length x.2.2] 45) = v1) := ⟨_, rfl⟩
     have hb3 : Below v.heap.size v v1' := by rw [← hv1.out]; exact hbe.alloc (by simp) _
     have HB3' := Lib.hid (HB0'.out.trans (hb3.mono HB0'.out.size))
     have he : v1'.heap[v.heap.size]? = some (.cells #[] 45 (0, 0)) := by rw [← hv1.out]; exact (Below.heap_alloc _ _ _ (by simp)).trans (heap_alloc_new v _)
     have hx : v1'.heap[v.heap.size + 1]? = some (.cells (slotC x) 45 (0, 0)) := by
      rw [← hv1.out]
      have := heap_alloc_new (v.alloc (.cells #[] 45)) (.cells #[.int .i64 x.1.axis, .int .i64 x.1.test, .string ⟨x.1.name.toArray⟩, .slice x.2.1 x.1.preds.length x.2.2] 45)
      simpa [slotC] using this
     obtain ⟨pa5, pc5, z2, pb, pn, pd, z4, hr5, hr6, hpn, hat, hb4, hb2⟩ := two_appends2 (B := w4.heap.size) (N := v.heap.size) (w := v1') s As cs (HAW.out.below HB3'.out) HB0'.out.size hb3.size (by have := HSL.out; omega) x (HXW.out.below HB3'.out) HXC.out he hx (by omega) (Nat.le_refl _)
     subst hpn
     rw [hL.out] at hr6 hat
     rw [hv1.out]
     refine hK.out _ _ (HSV.out _ HB3'.out) (fun hHeld => ?_)
     clear hK K
     try go_frame
     refine rdy 3 (fun K hK => ?_)
     refine step_append rfl (.tmp 58) (.tmp 59) 23 rfl _ _ rfl rfl hr5 ?_
     have HB2 := Lib.hid (HB3'.out.trans (hb2.mono HB0'.out.size))
     refine hK.out _ _ (HSV.out _ HB2.out) (fun hHeld => ?_)
     clear hK K
     try go_frame
     refine rdy 6 (fun K hK => ?_)
     refine step_append rfl (.tmp 60) (.tmp 62) 23 rfl _ _ rfl rfl hr6 ?_
     have HAT := Lib.hid hat
     have HBV := Lib.hid (HB3'.out.trans (hb4.mono HB0'.out.size))
     clear hr5 hr6 hat hb4 hb2 hb3 hbe he hx
     obtain ⟨v9, hv9⟩ : ∃ v9, Hid (z4 = v9) := ⟨_, rfl⟩
     rw [hv9.out] at HAT HBV ⊢
     refine hK.out _ _ (HSV.out _ HBV.out) (fun hHeld => ?_)
     clear hK K
     try go_frame
     refine rdy 7 (fun K hK => ?_)
     go_simp
     refine (set_any v9 (HT4.out.below HBV.out) L pb pd HAT.out HSML.out).mono ?_
     rintro e ve ⟨Ab', cb', rfl, hrb, hbb, _⟩
     have HRB' := Lib.hid hrb
     have HBE := Lib.hid (HBV.out.trans (hbb.mono HBV.out.size))
     clear hrb hbb
     refine hK.out _ _ (HSV.out _ HBE.out) (fun hHeld => ?_)
     clear hK K
     try go_frame
     refine tkv 8 (h := tkv 9 (h := tkv 10 (h := tkv 11 (h := tkv 12 (h := ?_)))))
     refine wpAnyH_done (by kernel_rfl) ?_ _
     dsimp only [onlyN]
     exact ⟨Ab', cb', _, _, _, _, _, _, _, _, _, _, _, _, _, _, _, _, _, _, _, _, _, _, _, _, _, _, _, _, _, _, _, _, _, _, _, _, _, _, _, HRB'.out, HBE.out, rfl⟩
   ·go_simp
    obtain ⟨v0, hv0⟩ : ∃ v0, Hid (v.alloc (.cells #[.int .i64 x.1.axis, .int .i64 x.1.test, .string ⟨x.1.name.toArray⟩, .slice x.2.1 x.1.preds.length x.2.2] 45) = v0) := ⟨_, rfl⟩
    have hb0 : Below v.heap.size v v0 := by rw [← hv0.out]; exact (Below.refl _ v).alloc (Nat.le_refl _) _
    have HB1' := Lib.hid (HB0'.out.trans (hb0.mono HB0'.out.size))
    have hx0 : v0.heap[v.heap.size]? = some (.cells (slotC x) 45 (0, 0)) := by rw [← hv0.out]; exact heap_alloc_new v _
    have hz0 : v.heap.size < v0.heap.size := (Array.getElem?_eq_some_iff.1 hx0).1
    rw [hv0.out]
    refine hK.out _ _ (HSV.out _ HB1'.out) (fun hHeld => ?_)
    clear hK K
    try go_frame
    refine rdy 1 (fun K hK => ?_)
    go_simp
    obtain ⟨v1', hv1⟩ : ∃ v1, Hid (v0.alloc (.cells #[] 45) = v1) := ⟨_, rfl⟩
    have hb1 : Below v0.heap.size v0 v1' := by rw [← hv1.out]; exact (Below.refl _ v0).alloc (Nat.le_refl _) _
    have hb3 := hb0.trans (hb1.mono hb0.size)
    have HB3' := Lib.hid (HB0'.out.trans (hb3.mono HB0'.out.size))
    have he : v1'.heap[v0.heap.size]? = some (.cells #[] 45 (0, 0)) := by rw [← hv1.out]; exact heap_alloc_new v0 _
    have hx : v1'.heap[v.heap.size]? = some (.cells (slotC x) 45 (0, 0)) := (hb1.block _ hz0).trans hx0
    obtain ⟨pa5, pc5, z2, pb, pn, pd, z4, hr5, hr6, hpn, hat, hb4, hb2⟩ := two_appends2 (B := w4.heap.size) (N := v.heap.size) (w := v1') s As cs (HAW.out.below HB3'.out) HB0'.out.size hb3.size (by have := HSL.out; omega) x (HXW.out.below HB3'.out) HXC.out he hx (by omega) (by omega)
    subst hpn
    rw [hL.out] at hr6 hat
    rw [hv1.out]
    refine hK.out _ _ (HSV.out _ HB3'.out) (fun hHeld => ?_)
    clear hK K
    try go_frame
    refine rdy 3 (fun K hK => ?_)
    refine step_append rfl (.tmp 58) (.tmp 59) 23 rfl _ _ rfl rfl hr5 ?_
    have HB2 := Lib.hid (HB3'.out.trans (hb2.mono HB0'.out.size))
    refine hK.out _ _ (HSV.out _ HB2.out) (fun hHeld => ?_)
    clear hK K
    try go_frame
    refine rdy 6 (fun K hK => ?_)
    refine step_append rfl (.tmp 60) (.tmp 62) 23 rfl _ _ rfl rfl hr6 ?_
    have HAT := Lib.hid hat
    have HBV := Lib.hid (HB3'.out.trans (hb4.mono HB0'.out.size))
    clear hr5 hr6 hat hb4 hb2 hb3 he hx hb0 hb1 hx0 hz0
    obtain ⟨v9, hv9⟩ : ∃ v9, Hid (z4 = v9) := ⟨_, rfl⟩
    rw [hv9.out] at HAT HBV ⊢
    refine hK.out _ _ (HSV.out _ HBV.out) (fun hHeld => ?_)
    clear hK K
    try go_frame
    refine rdy 7 (fun K hK => ?_)
    go_simp
    refine (set_any v9 (HT4.out.below HBV.out) L pb pd HAT.out HSML.out).mono ?_
    rintro e ve ⟨Ab', cb', rfl, hrb, hbb, _⟩
    have HRB' := Lib.hid hrb
    have HBE := Lib.hid (HBV.out.trans (hbb.mono HBV.out.size))
    clear hrb hbb
    refine hK.out _ _ (HSV.out _ HBE.out) (fun hHeld => ?_)
    clear hK K
    try go_frame
    refine tkv 8 (h := tkv 9 (h := tkv 10 (h := tkv 11 (h := tkv 12 (h := ?_)))))
    refine wpAnyH_done (by kernel_rfl) ?_ _
    dsimp only [onlyN]
    exact ⟨Ab', cb', _, _, _, _, _, _, _, _, _, _, _, _, _, _, _, _, _, _, _, _, _, _, _, _, _, _, _, _, _, _, _, _, _, _, _, _, _, _, _, HRB'.out, HBE.out, rfl⟩
  ·intro e a w5 h
   cases e <;> first | exact False.elim h | skip
   obtain ⟨Ab, cb, u23, u24, u25, u26, u27, u28, u29, u30, u31, u32, u33, u34, u35, u36, u37, u38, u39, u40, u41, u42, u43, u44, u50, u51, u52, u53, u54, u55, u56, u57, u58, u59, u60, u61, u62, u63, u64, u65, u66, hrb, hbb, rfl⟩ := h
   dsimp only
   obtain ⟨EB, hEB⟩ : ∃ E, Hid (evalW f L = E) := ⟨_, rfl⟩
   obtain ⟨rl, hrl⟩ : ∃ r, Hid (rightL L = r) := ⟨_, rfl⟩
   rw [hEB.out] at hrb ⊢
   rw [hrl.out]
   have HRB := Lib.hid hrb
   have HB5 := Lib.hid (HB4.out.trans (hbb.mono HB4.out.size))
   have HT5 := Lib.hid (HT4.out.below hbb)
   have HX5 : Hid (w5.heap[w.heap.size]? = some (.cells (slotC x) 45 (0, 0))) := (hbb.block _ (Array.getElem?_eq_some_iff.1 HX4.out).1).trans HX4.out
   have HRA5 : Hid (intRow w5 (.slice Aa EA.length ca) EA) := row_block HRA.out fun b hb => hbb.block b (row_lt HRA.out hb)
   clear hrb hbb
   cases rs with
   | false =>
    go_wp2_with fail
    refine (aliveW_any w5).mono ?_
    rintro e wz ⟨rfl, hbz⟩
    have HBZ := Lib.hid (HB5.out.trans (hbz.mono HB5.out.size))
    clear hbz
    go_wp2_with fail
    go_ret
    exact ⟨rfl, HBZ.out⟩
   | true =>
    cases rl with
    | false =>
     go_wp2_with fail
     refine (aliveW_any w5).mono ?_
     rintro e wz ⟨rfl, hbz⟩
     have HBZ := Lib.hid (HB5.out.trans (hbz.mono HB5.out.size))
     clear hbz
     go_wp2_with fail
     go_ret
     exact ⟨rfl, HBZ.out⟩
    | true =>
     have hea := evalW_len HT5.out.inv s
     have heb := evalW_len HT5.out.inv L
     rw [hEA.out] at hea
     rw [hEB.out] at heb
     have a0 : (0 : Int) ≤ (EA.length : Int) := by omega
     have a1 : (EA.length : Int) ≤ 1000 := by omega
     have HEAL := Lib.hid hea
     have HEBL := Lib.hid heb
     have HEI : Hid (∀ y ∈ EA, y ∈ f.ids) := fun y hy => evalW_ids (by rw [← hEA.out] at hy; exact hy)
     have HPI : Hid (∀ z ∈ EA, ∀ y, y ∈ f.ids → y ∈ stepW f x.1 z → y ∈ EB) := fun z hz y h1 h2 => by
      rw [← hEB.out, ← hL.out]
      exact part_in (by rw [hL.out]; exact hrl.out) (by rw [hEA.out]; exact hz) h1 h2
     clear heb
     go_wp2_with fail
     go_loopw [13, 76] (fun ev o wr => ∃ (k : Nat) (E : List Int) (Ae : Option Addr) (ce : Nat), ev = .slice Ae E.length ce ∧ o = .int .i64 (k : Int) ∧ k ≤ EA.length ∧ Hid (intRow wr (.slice Ae E.length ce) E) ∧ Hid (∀ b, (Value.slice Ae E.length ce).ownBlock = some b → w5.heap.size ≤ b) ∧ Hid (∀ y ∈ E, y ∈ EB) ∧ Hid (E.length ≤ k * 1000) ∧ Hid (Below w5.heap.size w5 wr)) (fun _ o _ => EA.length - (intOf o).toNat)
     case atStart => exact ⟨0, [], none, 0, rfl, rfl, Nat.zero_le _, ⟨by simp, .inl ⟨rfl, rfl⟩⟩, fun b hb => by simp [Value.ownBlock] at hb, fun y hy => by simp at hy, by show _ ≤ _; simp, Below.refl _ _⟩
     case round =>
      obtain ⟨k, E, Ae, ce, rfl, rfl, hk, hre, hfe, hse, hle, hbl⟩ := hrel
      have k0 : (0 : Int) ≤ (k : Int) := by omega
      obtain ⟨W0, hW0⟩ : ∃ W0, W0 = wr := ⟨_, rfl⟩
      subst hW0
      have HT6 := Lib.hid (HT5.out.below hbl.out)
      by_cases hkn : k < EA.length
      ·have k1 : (k : Int) < (EA.length : Int) := by omega
       obtain ⟨y, hy⟩ : ∃ y, Hid (EA[k]? = some y) := ⟨EA[k], List.getElem?_eq_getElem _⟩
       obtain ⟨g, hgA⟩ : ∃ g, Aa = some ⟨g, 0, none⟩ := by
        rcases HRA5.out.2 with ⟨_, h⟩ | ⟨g, cap, cur, h, _⟩
        ·omega
        ·injection h with h _ _; exact ⟨g, h⟩
       subst hgA
       have hr6 : intRow W0 (.slice (some ⟨g, 0, none⟩) EA.length ca) EA := row_block HRA5.out fun b hb => hbl.out.block b (row_lt HRA5.out hb)
       have ck := own_cell hr6 k (.int .i64 y) (by rw [List.getElem?_map, hy.out]; rfl)
       have HYM : Hid (y ∈ EA) := List.mem_of_getElem? hy.out
       have HY : Hid (y ∈ f.ids) := HEI.out y HYM.out
       have HE := Lib.hid (ent_of HT5.out.inv HY.out).2
       have HKD := Lib.hid (kind_two HT5.out.inv HY.out)
       clear hr6
       go_wp2_with fail
       refine (Get_in HT6.out HE.out).mono ?_
       rintro e7 w7 ⟨A7, c7, rfl, _, hb7⟩
       have HT7 := Lib.hid (HT6.out.below hb7)
       have HB7 : Hid (Below w5.heap.size w5 w7) := hbl.out.trans (hb7.mono hbl.out.size)
       have HE7 : Hid (intRow w7 (.slice Ae E.length ce) E) := row_block hre.out fun b hb => hb7.block b (row_lt hre.out hb)
       clear hb7
       obtain ⟨W8, hW8⟩ : ∃ W8, Hid (W8 = w7.alloc (.cells (nodeR y (entW f y) (.slice A7 (entW f y).d.attrs.length c7)) 49)) := ⟨_, rfl⟩
       have hb8 : Below w7.heap.size w7 W8 := by rw [hW8.out]; exact (Below.refl _ w7).alloc (Nat.le_refl _) _
       have hx8 : W8.heap[w7.heap.size]? = some (.cells (nodeR y (entW f y) (.slice A7 (entW f y).d.attrs.length c7)) 49 (0, 0)) := by rw [hW8.out]; exact heap_alloc_new w7 _
       have HT8 := Lib.hid (HT7.out.below hb8)
       have HB8 : Hid (Below w5.heap.size w5 W8) := HB7.out.trans (hb8.mono HB7.out.size)
       have HBW8 := Lib.hid (HB5.out.trans (HB8.out.mono HB5.out.size))
       have HX8 : Hid (W8.heap[w.heap.size]? = some (.cells (slotC x) 45 (0, 0))) := (HB8.out.block _ (Array.getElem?_eq_some_iff.1 HX5.out).1).trans HX5.out
       have HE8 : Hid (intRow W8 (.slice Ae E.length ce) E) := row_block HE7.out fun b hb => hb8.block b (row_lt HE7.out hb)
       have f2 : W8.cell? ⟨w7.heap.size, 2, none⟩ = some (.int .i64 (entW f y).d.kind) := cell_row hx8 2 _ rfl
       have hW8' := hW8.out
       unfold nodeR strV at hW8'
       replace hW8 := Lib.hid hW8'
       clear hb8 hx8
       unfold nodeR strV
       go_upto_region 13 with (fail)
       rw [← hW8.out]
       clear hW8'
       rcases HKD.out with hkd | hkd
       ·rw [hkd] at f2
        have x0 := cell_row HX8.out 0 _ rfl
        have x1 := cell_row HX8.out 1 _ rfl
        have x2 := cell_row HX8.out 2 _ rfl
        have x3 := cell_row HX8.out 3 _ rfl
        have hmk := marked_any W8 HT8.out y HY.out x ((HXP.out.below HBW8.out).more HBW8.out.size) HXC.out HSX.out
        unfold slotC at hmk
        go_wp2_with fail
        refine hmk.mono ?_
        clear hmk x0 x1 x2 x3 f2 ck
        rintro e w9 ⟨A9, c9, R, rfl, hr9, hl9, hm9, hb9, hf9⟩
        have HR9 := Lib.hid hr9
        have HM9 : Hid (∀ z ∈ R, z ∈ EB) := fun z hz => HPI.out y HYM.out z (hm9 z hz).1 (hm9 z hz).2
        have HB9 := Lib.hid (HB8.out.trans (hb9.mono HB8.out.size))
        have HE9 : Hid (intRow w9 (.slice Ae E.length ce) E) := row_block HE8.out fun b hb => hb9.block b (row_lt HE8.out hb)
        have HF9 := Lib.hid hf9
        have HZ9 : Hid (W8.heap.size ≤ w9.heap.size) := hb9.size
        have HL9 := Lib.hid hl9
        have r0 : (0 : Int) ≤ (R.length : Int) := by omega
        have r1 : (R.length : Int) ≤ 1000 := by omega
        clear hr9 hl9 hm9 hb9 hf9
        go_wp2_with fail
        go_loopw [13, 100] (fun ev o wr => ∃ (r : Nat) (G : List Int) (Ag : Option Addr) (cg : Nat), ev = .slice Ag G.length cg ∧ o = .int .i64 (r : Int) ∧ r ≤ R.length ∧ Hid (intRow wr (.slice Ag G.length cg) G) ∧ Hid (∀ b, (Value.slice Ag G.length cg).ownBlock = some b → w5.heap.size ≤ b ∧ (b < W8.heap.size ∨ w9.heap.size ≤ b)) ∧ Hid (∀ z ∈ G, z ∈ EB) ∧ Hid (G.length ≤ k * 1000 + r) ∧ Hid (intRow wr (.slice A9 R.length c9) R) ∧ Hid (w9.heap.size ≤ wr.heap.size) ∧ Hid (Below w5.heap.size w5 wr)) (fun _ o _ => R.length - (intOf o).toNat)
        case atStart => exact ⟨0, E, Ae, ce, rfl, rfl, Nat.zero_le _, HE9.out, fun b hb => ⟨hfe.out b hb, .inl (row_lt HE8.out hb)⟩, hse.out, by have := hle.out; show _ ≤ _; omega, HR9.out, Nat.le_refl _, HB9.out⟩
        case round =>
         obtain ⟨r, G, Ag, cg, rfl, rfl, hr, hrg, hfg, hsg, hlg, hrr, hzg, hbg⟩ := hrel
         have q0 : (0 : Int) ≤ (r : Int) := by omega
         obtain ⟨W1, hW1⟩ : ∃ W1, W1 = wr := ⟨_, rfl⟩
         subst hW1
         by_cases hrn : r < R.length
         ·have q1 : (r : Int) < (R.length : Int) := by omega
          obtain ⟨z, hz⟩ : ∃ z, Hid (R[r]? = some z) := ⟨R[r], List.getElem?_eq_getElem _⟩
          obtain ⟨g9, hg9⟩ : ∃ g9, A9 = some ⟨g9, 0, none⟩ := by
           rcases hrr.out.2 with ⟨_, h⟩ | ⟨g, cap, cur, h, _⟩
           ·omega
           ·injection h with h _ _; exact ⟨g, h⟩
          subst hg9
          have cz := own_cell hrr.out r (.int .i64 z) (by rw [List.getElem?_map, hz.out]; rfl)
          have HGL : Hid (G.length ≤ 1000000) := by have := hlg.out; show _ ≤ _; omega
          go_wp2_with fail
          refine (in_any Ag cg G z W1 hrg.out HGL.out (decide (z ∈ G)) rfl).mono ?_
          rintro e v1 ⟨rfl, hv1⟩
          have HRG1 : Hid (intRow v1 (.slice Ag G.length cg) G) := row_block hrg.out fun b hb => hv1.block b (row_lt hrg.out hb)
          have HRR1 : Hid (intRow v1 (.slice (some ⟨g9, 0, none⟩) R.length c9) R) := row_block hrr.out fun b hb => hv1.block b (row_lt hrr.out hb)
          have HBG1 : Hid (Below w5.heap.size w5 v1) := hbg.out.trans (hv1.mono hbg.out.size)
          have HZG1 : Hid (w9.heap.size ≤ v1.heap.size) := Nat.le_trans hzg.out hv1.size
          clear cz hv1
          by_cases hin : z ∈ G
          ·rw [decide_eq_true hin]
           clear hin
           go_wp2_with fail
           go_roundw
           case rel => exact ⟨r + 1, G, Ag, cg, rfl, by go_num, by omega, HRG1.out, hfg.out, hsg.out, by have := hlg.out; show _ ≤ _; omega, HRR1.out, HZG1.out, HBG1.out⟩
           case measure => simp [intOf]; omega
          ·rw [decide_eq_false hin]
           clear hin
           obtain ⟨pa, pn, pc, v2, hr2, hpn, hrow2, hg2, hf2⟩ := run_append_int HRG1.out HGL.out z
           subst hpn
           have HB2 : Hid (Below w5.heap.size w5 v2) := HBG1.out.grown hg2 HBG1.out.size (fun j hj => (hfg.out j hj).1)
           have HRR2 : Hid (intRow v2 (.slice (some ⟨g9, 0, none⟩) R.length c9) R) := row_block HRR1.out fun b hb => hg2.block b (row_lt HRR1.out hb) (fun h => by
            have h1 := (hfg.out b h.symm).2
            have h2 := HF9.out b hb
            have h3 := row_lt HR9.out hb
            omega)
           have HF2 : Hid (∀ b, (Value.slice pa (G.length + 1) pc).ownBlock = some b → w5.heap.size ≤ b ∧ (b < W8.heap.size ∨ w9.heap.size ≤ b)) := fun b hb => by
            rcases hf2 b hb with h | h
            ·exact hfg.out b h
            ·have := HBG1.out.size; have := HZG1.out; exact ⟨by omega, .inr (by omega)⟩
           have HR2 := Lib.hid hrow2
           have HZ2 : Hid (w9.heap.size ≤ v2.heap.size) := Nat.le_trans HZG1.out hg2.size
           clear hrow2 hg2 hf2
           go_wp2_with (at_builtin; refine wpList_append_runI _ rfl _ _ 32 rfl (.slice Ag G.length cg) (.slice (some ⟨v1.heap.size, 0, none⟩) 1 1) (by simp [Act.eval]) (by simp [Act.eval]) hr2 ?_)
           go_wp2_with fail
           go_roundw
           case rel => exact ⟨r + 1, G ++ [z], pa, pc, by simp, by go_num, by omega, by show intRow _ _ _; simpa using HR2.out, by show ∀ b, _; simpa using HF2.out, fun u hu => by
            rcases List.mem_append.1 hu with hu | hu
            ·exact hsg.out u hu
            ·rw [List.mem_singleton.1 hu]; exact HM9.out z (List.mem_of_getElem? hz.out), by have := hlg.out; show _ ≤ _; simp; omega, HRR2.out, HZ2.out, HB2.out⟩
           case measure => simp [intOf]; omega
         ·have q1 : ¬ (r : Int) < (R.length : Int) := by omega
          go_wp2_with fail
          go_roundw
          case rel => exact ⟨k + 1, G, Ag, cg, rfl, by go_num, by omega, hrg.out, fun b hb => (hfg.out b hb).1, hsg.out, by have := hlg.out; have := HL9.out; show _ ≤ _; omega, hbg.out⟩
          case measure => simp [intOf]; omega
       ·rw [hkd] at f2
        have x0 := cell_row HX8.out 0 _ rfl
        have x1 := cell_row HX8.out 1 _ rfl
        have x2 := cell_row HX8.out 2 _ rfl
        have x3 := cell_row HX8.out 3 _ rfl
        have hmk := marked_any W8 HT8.out y HY.out x ((HXP.out.below HBW8.out).more HBW8.out.size) HXC.out HSX.out
        unfold slotC at hmk
        go_wp2_with fail
        refine hmk.mono ?_
        clear hmk x0 x1 x2 x3 f2 ck
        rintro e w9 ⟨A9, c9, R, rfl, hr9, hl9, hm9, hb9, hf9⟩
        have HR9 := Lib.hid hr9
        have HM9 : Hid (∀ z ∈ R, z ∈ EB) := fun z hz => HPI.out y HYM.out z (hm9 z hz).1 (hm9 z hz).2
        have HB9 := Lib.hid (HB8.out.trans (hb9.mono HB8.out.size))
        have HE9 : Hid (intRow w9 (.slice Ae E.length ce) E) := row_block HE8.out fun b hb => hb9.block b (row_lt HE8.out hb)
        have HF9 := Lib.hid hf9
        have HZ9 : Hid (W8.heap.size ≤ w9.heap.size) := hb9.size
        have HL9 := Lib.hid hl9
        have r0 : (0 : Int) ≤ (R.length : Int) := by omega
        have r1 : (R.length : Int) ≤ 1000 := by omega
        clear hr9 hl9 hm9 hb9 hf9
        go_wp2_with fail
        go_loopw [13, 100] (fun ev o wr => ∃ (r : Nat) (G : List Int) (Ag : Option Addr) (cg : Nat), ev = .slice Ag G.length cg ∧ o = .int .i64 (r : Int) ∧ r ≤ R.length ∧ Hid (intRow wr (.slice Ag G.length cg) G) ∧ Hid (∀ b, (Value.slice Ag G.length cg).ownBlock = some b → w5.heap.size ≤ b ∧ (b < W8.heap.size ∨ w9.heap.size ≤ b)) ∧ Hid (∀ z ∈ G, z ∈ EB) ∧ Hid (G.length ≤ k * 1000 + r) ∧ Hid (intRow wr (.slice A9 R.length c9) R) ∧ Hid (w9.heap.size ≤ wr.heap.size) ∧ Hid (Below w5.heap.size w5 wr)) (fun _ o _ => R.length - (intOf o).toNat)
        case atStart => exact ⟨0, E, Ae, ce, rfl, rfl, Nat.zero_le _, HE9.out, fun b hb => ⟨hfe.out b hb, .inl (row_lt HE8.out hb)⟩, hse.out, by have := hle.out; show _ ≤ _; omega, HR9.out, Nat.le_refl _, HB9.out⟩
        case round =>
         obtain ⟨r, G, Ag, cg, rfl, rfl, hr, hrg, hfg, hsg, hlg, hrr, hzg, hbg⟩ := hrel
         have q0 : (0 : Int) ≤ (r : Int) := by omega
         obtain ⟨W1, hW1⟩ : ∃ W1, W1 = wr := ⟨_, rfl⟩
         subst hW1
         by_cases hrn : r < R.length
         ·have q1 : (r : Int) < (R.length : Int) := by omega
          obtain ⟨z, hz⟩ : ∃ z, Hid (R[r]? = some z) := ⟨R[r], List.getElem?_eq_getElem _⟩
          obtain ⟨g9, hg9⟩ : ∃ g9, A9 = some ⟨g9, 0, none⟩ := by
           rcases hrr.out.2 with ⟨_, h⟩ | ⟨g, cap, cur, h, _⟩
           ·omega
           ·injection h with h _ _; exact ⟨g, h⟩
          subst hg9
          have cz := own_cell hrr.out r (.int .i64 z) (by rw [List.getElem?_map, hz.out]; rfl)
          have HGL : Hid (G.length ≤ 1000000) := by have := hlg.out; show _ ≤ _; omega
          go_wp2_with fail
          refine (in_any Ag cg G z W1 hrg.out HGL.out (decide (z ∈ G)) rfl).mono ?_
          rintro e v1 ⟨rfl, hv1⟩
          have HRG1 : Hid (intRow v1 (.slice Ag G.length cg) G) := row_block hrg.out fun b hb => hv1.block b (row_lt hrg.out hb)
          have HRR1 : Hid (intRow v1 (.slice (some ⟨g9, 0, none⟩) R.length c9) R) := row_block hrr.out fun b hb => hv1.block b (row_lt hrr.out hb)
          have HBG1 : Hid (Below w5.heap.size w5 v1) := hbg.out.trans (hv1.mono hbg.out.size)
          have HZG1 : Hid (w9.heap.size ≤ v1.heap.size) := Nat.le_trans hzg.out hv1.size
          clear cz hv1
          by_cases hin : z ∈ G
          ·rw [decide_eq_true hin]
           clear hin
           go_wp2_with fail
           go_roundw
           case rel => exact ⟨r + 1, G, Ag, cg, rfl, by go_num, by omega, HRG1.out, hfg.out, hsg.out, by have := hlg.out; show _ ≤ _; omega, HRR1.out, HZG1.out, HBG1.out⟩
           case measure => simp [intOf]; omega
          ·rw [decide_eq_false hin]
           clear hin
           obtain ⟨pa, pn, pc, v2, hr2, hpn, hrow2, hg2, hf2⟩ := run_append_int HRG1.out HGL.out z
           subst hpn
           have HB2 : Hid (Below w5.heap.size w5 v2) := HBG1.out.grown hg2 HBG1.out.size (fun j hj => (hfg.out j hj).1)
           have HRR2 : Hid (intRow v2 (.slice (some ⟨g9, 0, none⟩) R.length c9) R) := row_block HRR1.out fun b hb => hg2.block b (row_lt HRR1.out hb) (fun h => by
            have h1 := (hfg.out b h.symm).2
            have h2 := HF9.out b hb
            have h3 := row_lt HR9.out hb
            omega)
           have HF2 : Hid (∀ b, (Value.slice pa (G.length + 1) pc).ownBlock = some b → w5.heap.size ≤ b ∧ (b < W8.heap.size ∨ w9.heap.size ≤ b)) := fun b hb => by
            rcases hf2 b hb with h | h
            ·exact hfg.out b h
            ·have := HBG1.out.size; have := HZG1.out; exact ⟨by omega, .inr (by omega)⟩
           have HR2 := Lib.hid hrow2
           have HZ2 : Hid (w9.heap.size ≤ v2.heap.size) := Nat.le_trans HZG1.out hg2.size
           clear hrow2 hg2 hf2
           go_wp2_with (at_builtin; refine wpList_append_runI _ rfl _ _ 32 rfl (.slice Ag G.length cg) (.slice (some ⟨v1.heap.size, 0, none⟩) 1 1) (by simp [Act.eval]) (by simp [Act.eval]) hr2 ?_)
           go_wp2_with fail
           go_roundw
           case rel => exact ⟨r + 1, G ++ [z], pa, pc, by simp, by go_num, by omega, by show intRow _ _ _; simpa using HR2.out, by show ∀ b, _; simpa using HF2.out, fun u hu => by
            rcases List.mem_append.1 hu with hu | hu
            ·exact hsg.out u hu
            ·rw [List.mem_singleton.1 hu]; exact HM9.out z (List.mem_of_getElem? hz.out), by have := hlg.out; show _ ≤ _; simp; omega, HRR2.out, HZ2.out, HB2.out⟩
           case measure => simp [intOf]; omega
         ·have q1 : ¬ (r : Int) < (R.length : Int) := by omega
          go_wp2_with fail
          go_roundw
          case rel => exact ⟨k + 1, G, Ag, cg, rfl, by go_num, by omega, hrg.out, fun b hb => (hfg.out b hb).1, hsg.out, by have := hlg.out; have := HL9.out; show _ ≤ _; omega, hbg.out⟩
          case measure => simp [intOf]; omega
      ·have k1 : ¬ (k : Int) < (EA.length : Int) := by omega
       have e0 : (0 : Int) ≤ (E.length : Int) := by omega
       have e1 : (E.length : Int) ≤ 1000000 := by have := hle.out; omega
       have HRB6 : Hid (intRow W0 (.slice Ab EB.length cb) EB) := row_block HRB.out fun b hb => hbl.out.block b (row_lt HRB.out hb)
       have HBW := Lib.hid (HB5.out.trans (hbl.out.mono HB5.out.size))
       go_wp2_with fail
       go_loopw [116] (fun o wr => ∃ q : Nat, o = .int .i64 (q : Int) ∧ q ≤ E.length ∧ Hid (Below W0.heap.size W0 wr)) (fun o _ => E.length - (intOf o).toNat)
       case atStart => exact ⟨0, rfl, Nat.zero_le _, Below.refl _ _⟩
       case round =>
        obtain ⟨q, rfl, hq, hbq⟩ := hrel
        have q0 : (0 : Int) ≤ (q : Int) := by omega
        obtain ⟨W1, hW1⟩ : ∃ W1, W1 = wr := ⟨_, rfl⟩
        subst hW1
        by_cases hqe : q < E.length
        ·have q1 : (q : Int) < (E.length : Int) := by omega
         obtain ⟨y, hy⟩ : ∃ y, Hid (E[q]? = some y) := ⟨E[q], List.getElem?_eq_getElem _⟩
         obtain ⟨g, hgA⟩ : ∃ g, Ae = some ⟨g, 0, none⟩ := by
          rcases hre.out.2 with ⟨_, h⟩ | ⟨g, cap, cur, h, _⟩
          ·omega
          ·injection h with h _ _; exact ⟨g, h⟩
         subst hgA
         have hr7 : intRow W1 (.slice (some ⟨g, 0, none⟩) E.length ce) E := row_block hre.out fun b hb => hbq.out.block b (row_lt hre.out hb)
         have ck := own_cell hr7 q (.int .i64 y) (by rw [List.getElem?_map, hy.out]; rfl)
         have HRB7 : Hid (intRow W1 (.slice Ab EB.length cb) EB) := row_block HRB6.out fun b hb => hbq.out.block b (row_lt HRB6.out hb)
         clear hr7
         go_wp2_with fail
         refine (in_any Ab cb EB y W1 HRB7.out (by have := HEBL.out; omega) true (decide_eq_true (hse.out y (List.mem_of_getElem? hy.out)))).mono ?_
         rintro e v1 ⟨rfl, hv1⟩
         have HBQ := Lib.hid (hbq.out.trans (hv1.mono hbq.out.size))
         clear hv1
         go_wp2_with fail
         go_roundw
         case rel => exact ⟨q + 1, by go_num, by omega, HBQ.out⟩
         case measure => simp [intOf]; omega
        ·have q1 : ¬ (q : Int) < (E.length : Int) := by omega
         have HBE := Lib.hid (HBW.out.trans (hbq.out.mono HBW.out.size))
         go_wp2_with fail
         refine (aliveW_any W1).mono ?_
         rintro e wz ⟨rfl, hbz⟩
         have HBZ := Lib.hid (HBE.out.trans (hbz.mono HBE.out.size))
         clear hbz
         go_wp2_with fail
         go_ret
         exact ⟨rfl, HBZ.out⟩
 ·refine (small_any A l.length c w2 false (decide_eq_false h40)).mono ?_
  rintro e w3 ⟨rfl, hb3⟩
  have HB3 := Lib.hid (HB2.out.trans (hb3.mono HB2.out.size))
  have HT3 := Lib.hid (HT2.out.below hb3)
  have HX3 : Hid (w3.heap[w.heap.size]? = some (.cells (slotC x) 45 (0, 0))) := (hb3.block _ (Array.getElem?_eq_some_iff.1 HX2.out).1).trans HX2.out
  clear hb3
  go_wp2_with fail
  refine (aliveW_any w3).mono ?_
  rintro e w4 ⟨rfl, hb4⟩
  have HB4 := Lib.hid (HB3.out.trans (hb4.mono HB3.out.size))
  clear hb4
  go_wp2_with fail
  go_ret
  exact ⟨rfl, HB4.out⟩
end
section
open Go.RowKit Go.ChangeShapes Go.WideShapes Go.Deep
theorem add_more (ad : Addr) (a j : Nat) (hj : j ≠ 0) : ad.add (a + j) = ⟨(ad.add a).block, (ad.add a).off + j, none⟩ := by
 rw [← add_of_add]
 generalize ad.add a = b
 unfold Addr.add
 rw [if_neg hj]
theorem slice_structs {H : Type} {enc : TypeId × Value → H} {P : Program} {w : World} {t e : TypeId} {fs : Array Field} {fuel : Nat} {cs : List Value} {x : DataW H × List MemPlace} (ht : P.underlying t = some (.slice e)) (he : P.underlying e = some (.struct fs))
  (h1 : oneCellFields P fs = true) (h2 : P.cellsOf e = fs.size) (h : DataW.trod enc P w 0 (fun _ => true) true fuel t cs = some x) :
  (cs = [.slice none 0 0] ∧ x.1 = .nil) ∨
  ∃ (a : Addr) (len cap : Nat) (D : Nat → DataW H) (rest : List (DataW H)), cs = [.slice (some a) len cap] ∧ len ≤ cap ∧ cap ≤ maxLen ∧ x.1 = .slice ((List.range len).map D) rest ∧
   ∀ i, i < len → ∃ (ys : List (DataW H × List MemPlace)) (n : Nat), D i = .agg (ys.map (·.1)) ∧ ys.length = fs.size ∧
    ∀ (j : Nat) (f : Field), fs[j]? = some f → ∃ v y, w.cell? (a.add (i * fs.size + j)) = some v ∧ ys[j]? = some y ∧ DataW.trod enc P w 0 (fun _ => true) true n f.type [v] = some y := by
 rcases open_slice ht h with ⟨e1, e2⟩ | ⟨a, len, cap, m, n, D, Pl, e1, _, k1, k2, k3, e2, each⟩
 ·exact .inl ⟨e1, by rw [e2]⟩
 ·right
  have hm : m = cap := by simpa using k3
  refine ⟨a, len, cap, D, _, e1, k1, k2, by rw [e2], fun i hi => ?_⟩
  obtain ⟨row, hrow, hread⟩ := each i (by omega)
  obtain ⟨_, hl, hat⟩ := World.cells?_some hrow
  obtain ⟨ys, n', _, hy, _, hyl, hfield⟩ := DataW.trod_struct he hread
  refine ⟨ys, n', by rw [Prod.mk.injEq] at hy; exact hy.1, hyl, fun j f hj => ?_⟩
  have hjs : j < fs.size := (Array.getElem?_eq_some_iff.1 hj).1
  obtain ⟨o1, o2⟩ := hone_of h1 j f hj
  have hjr : j < row.length := by rw [hl, h2]; exact hjs
  have hv := hat j (by rw [h2]; exact hjs)
  have hone : (row.drop f.offset).take (P.cellsOf f.type) = [row[j]] := by rw [o1, o2, List.drop_eq_getElem_cons hjr]; rfl
  have hr := hfield j f hj
  rw [hone] at hr
  have hys : ys[j]? = some (ys[j]'(by omega)) := List.getElem?_eq_getElem _
  refine ⟨row[j], _, ?_, hys, hr.trans hys⟩
  rw [h2, add_of_add, List.getElem?_eq_getElem hjr] at hv
  exact hv
theorem list_of {α : Type} {P : Nat → α → Prop} : ∀ (n : Nat), (∀ i, i < n → ∃ x, P i x) → ∃ l : List α, l.length = n ∧ ∀ i x, l[i]? = some x → P i x
 | 0, _ => ⟨[], rfl, fun _ _ h => by simp at h⟩
 | n + 1, h => by
  obtain ⟨l, hl, hp⟩ := list_of n (fun i hi => h i (by omega))
  obtain ⟨x, hx⟩ := h n (by omega)
  refine ⟨l ++ [x], by simp [hl], fun i y hy => ?_⟩
  by_cases hi : i < l.length
  ·rw [List.getElem?_append_left hi] at hy; exact hp i y hy
  ·rw [List.getElem?_append_right (by omega)] at hy
   have : i - l.length = 0 := by
    have := (List.getElem?_eq_some_iff.1 hy).1
    simp at this; omega
   rw [this] at hy
   simp at hy; subst hy
   rw [show i = n by omega]; exact hx
theorem bulkAll_range {H : Type} (D : Nat → DataW H) : ∀ n i, i < n → Rows.uptoBulk (D i) ≤ Rows.uptoBulkAll ((List.range n).map D) := by
 have app : ∀ (a b : List (DataW H)), Rows.uptoBulkAll (a ++ b) = Rows.uptoBulkAll a + Rows.uptoBulkAll b := by
  intro a b
  induction a with
  | nil => simp [Rows.uptoBulkAll]
  | cons x a ih => simp only [List.cons_append, Rows.uptoBulkAll, ih]; omega
 intro n
 induction n with
 | zero => intro i h; omega
 | succ n ih =>
  intro i h
  rw [List.range_succ, List.map_append, app]
  by_cases hi : i < n
  ·have := ih i hi; omega
  ·have : i = n := by omega
   subst this
   simp [Rows.uptoBulkAll]
theorem bulkAll_sum {H α : Type} (f : α → Nat) (D : Nat → DataW H) : ∀ (l : List α), (∀ i x, l[i]? = some x → f x ≤ Rows.uptoBulk (D i)) → (l.map f).sum ≤ Rows.uptoBulkAll ((List.range l.length).map D) := by
 have app : ∀ (a b : List (DataW H)), Rows.uptoBulkAll (a ++ b) = Rows.uptoBulkAll a + Rows.uptoBulkAll b := by
  intro a b
  induction a with
  | nil => simp [Rows.uptoBulkAll]
  | cons x a ih => simp only [List.cons_append, Rows.uptoBulkAll, ih]; omega
 have key : ∀ (n : Nat) (l : List α), l.length = n → (∀ i x, l[i]? = some x → f x ≤ Rows.uptoBulk (D i)) → (l.map f).sum ≤ Rows.uptoBulkAll ((List.range n).map D) := by
  intro n
  induction n with
  | zero => intro l hl _; rw [List.eq_nil_of_length_eq_zero hl]; simp
  | succ n ih =>
   intro l hl h
   have hne : l ≠ [] := fun e => by rw [e] at hl; cases hl
   rw [← List.dropLast_concat_getLast hne, List.map_append, List.sum_append, List.range_succ, List.map_append, app]
   have h1 := ih l.dropLast (by simp [hl]) (fun i x hx => h i x (by
    have hi := (List.getElem?_eq_some_iff.1 hx).1
    rw [List.getElem?_dropLast] at hx
    split at hx
    ·exact hx
    ·cases hx))
   have h2 := h n (l.getLast hne) (by rw [List.getLast_eq_getElem, ← List.getElem?_eq_getElem, hl]; rfl)
   simp only [List.map_cons, List.map_nil, List.sum_cons, List.sum_nil, Rows.uptoBulkAll]
   omega
 intro l h
 exact key l.length l rfl h
theorem sum_ones {α : Type} (l : List α) : (l.map (fun _ => 1)).sum = l.length := by
 induction l with
 | nil => rfl
 | cons x l ih => rw [List.map_cons, List.sum_cons, ih, List.length_cons]; omega
end
section
open Go.RowKit Go.ChangeShapes Go.WideShapes Go.Deep
theorem open_attrs {W : World} {H : Type} {enc : TypeId × Value → H} {fuel : Nat} {cs : List Value} {x : DataW H × List MemPlace} (h : DataW.trod enc Tryz.prog W 0 (fun _ => true) true fuel 47 cs = some x) :
  ∃ (A : Option Addr) (c : Nat) (l : List AttrD), cs = [.slice A l.length c] ∧ AttrsAt W W.heap.size A l ∧ l.length ≤ c ∧ (A = none → c = 0) ∧ l.length ≤ Rows.uptoBulk x.1 ∧ (∀ a ∈ l, a.name.length + a.value.length ≤ Rows.uptoBulk x.1) := by
 rcases slice_structs Tryz.underlying47 Tryz.underlying77 (by kernel_rfl) (by kernel_rfl) h with ⟨rfl, hx⟩ | ⟨a, len, cap, D, rest, rfl, hlc, hcm, hx, hf⟩
 ·exact ⟨none, 0, [], rfl, fun h => absurd h (by simp), Nat.le_refl _, fun _ => rfl, by simp, by simp⟩
 ·rw [hx]
  obtain ⟨l, hl, hp⟩ := list_of (P := fun i (y : AttrD) => W.cell? (a.add (i * 2)) = some (strV y.name) ∧ W.cell? ⟨(a.add (i * 2)).block, (a.add (i * 2)).off + 1, none⟩ = some (strV y.value) ∧ y.name.length + y.value.length + 1 ≤ Rows.uptoBulk (D i)) len (fun i hi => by
   obtain ⟨ys, n, hD, hyl, hj⟩ := hf i hi
   obtain ⟨v0, y0, hc0, hy0, ht0⟩ := hj 0 _ rfl
   obtain ⟨v1, y1, hc1, hy1, ht1⟩ := hj 1 _ rfl
   obtain ⟨s0, e0, rfl, _⟩ := DataW.trod_string Tryz.underlying9 ht0
   obtain ⟨s1, e1, rfl, _⟩ := DataW.trod_string Tryz.underlying9 ht1
   injection e0 with e0 _; subst e0
   injection e1 with e1 _; subst e1
   refine ⟨⟨s0.data.toList, s1.data.toList⟩, ?_, ?_, ?_⟩
   ·rw [Nat.add_zero] at hc0
    rw [show i * 2 = i * (_ : Nat) from rfl]; exact hc0
   ·rw [add_more _ _ _ (by decide)] at hc1; exact hc1
   ·rw [hD]
    match ys, hyl, hy0, hy1 with
    | [z0, z1], _, hy0, hy1 =>
     simp at hy0 hy1
     subst hy0; subst hy1
     simp [Rows.uptoBulk, Rows.uptoBulkAll]
     omega)
  refine ⟨some a, cap, l, by rw [hl], ?_, by omega, (fun h => by cases h), ?_, ?_⟩
  ·intro hpos
   have h0 : l[0]? = some (l[0]'hpos) := List.getElem?_eq_getElem hpos
   have hb := World.block_lt_of_cell? W _ (hp 0 _ h0).1
   rw [block_of_add] at hb
   exact ⟨a, rfl, hb, fun k y hy => ⟨(hp k y hy).1, (hp k y hy).2.1⟩⟩
  ·have := bulkAll_sum (fun _ : AttrD => 1) D l (fun i y hy => by have := (hp i y hy).2.2; omega)
   rw [hl] at this
   simp only [Rows.uptoBulk]
   have e := sum_ones l
   omega
  ·intro y hy
   obtain ⟨k, hk⟩ := List.mem_iff_getElem?.1 hy
   have h1 := (hp k y hk).2.2
   have h2 := bulkAll_range D len k (by rw [← hl]; exact (List.getElem?_eq_some_iff.1 hk).1)
   simp only [Rows.uptoBulk]
   omega
def NilAt (w : World) (A : Option Addr) (l : List ItemD) : Prop := ∀ ad, A = some ad → ∀ k x A' c', l[k]? = some x → w.cell? ⟨(ad.add (k * 5)).block, (ad.add (k * 5)).off + 4, none⟩ = some (.slice A' x.attrs.length c') → A' = none → c' = 0
theorem open_items {W : World} {H : Type} {enc : TypeId × Value → H} {v : Value} {d : DataW H} {p : List MemPlace} (hok : ∃ a n c, v = .slice a n c) (h : DataW.Trod enc Tryz.prog W 0 (fun _ => true) true 22 v d p) (hbulk : Rows.uptoBulk d ≤ 1048576) :
  ∃ (A : Option Addr) (c : Nat) (l : List ItemD), v = .slice A l.length c ∧ ItemsAt W W.heap.size A l ∧ SmallDoc l ∧ l.length ≤ 1048576 ∧ textSum l ≤ 1048576 ∧ NilAt W A l := by
 obtain ⟨va, vn, vc, rfl⟩ := hok
 obtain ⟨fuel, h⟩ := h
 rcases slice_structs Tryz.underlying22 Tryz.underlying75 (by kernel_rfl) (by kernel_rfl) h with ⟨e, e2⟩ | ⟨a, len, cap, D, rest, e, hlc, hcm, e2, hf⟩
 ·injection e with e _
  injection e with e1 e2' e3
  subst e1; subst e2'; subst e3
  refine ⟨none, 0, [], rfl, fun h => absurd h (by simp), ⟨⟨by simp, fun _ _ h => by simp at h⟩, by simp [textSum]⟩, by simp, by simp [textSum], fun _ h => by cases h⟩
 ·injection e with e _
  injection e with e1 e2' e3
  subst e1
  have e2'' := e2'.symm
  have e3'' := e3.symm
  subst e2''; subst e3''
  have e2 : d = .slice ((List.range len).map D) rest := e2
  subst e2
  obtain ⟨l, hl, hp⟩ := list_of (P := fun i (x : ItemD) => ∃ (A' : Option Addr) (c' : Nat), AttrsAt W W.heap.size A' x.attrs ∧ x.attrs.length ≤ c' ∧ W.cell? (a.add (i * 5)) = some (.int .i64 x.level) ∧ W.cell? ⟨(a.add (i * 5)).block, (a.add (i * 5)).off + 1, none⟩ = some (.int .i64 x.kind) ∧
    W.cell? ⟨(a.add (i * 5)).block, (a.add (i * 5)).off + 2, none⟩ = some (strV x.name) ∧ W.cell? ⟨(a.add (i * 5)).block, (a.add (i * 5)).off + 3, none⟩ = some (strV x.text) ∧ W.cell? ⟨(a.add (i * 5)).block, (a.add (i * 5)).off + 4, none⟩ = some (.slice A' x.attrs.length c') ∧
    (-9223372036854775808 ≤ x.level ∧ x.level ≤ 9223372036854775807) ∧ x.name.length + x.text.length + x.attrs.length + 1 ≤ Rows.uptoBulk (D i) ∧ (∀ y ∈ x.attrs, y.name.length + y.value.length ≤ Rows.uptoBulk (D i)) ∧ (A' = none → c' = 0)) len (fun i hi => by
   obtain ⟨ys, n, hD, hyl, hj⟩ := hf i hi
   obtain ⟨v0, y0, hc0, hy0, ht0⟩ := hj 0 _ rfl
   obtain ⟨v1, y1, hc1, hy1, ht1⟩ := hj 1 _ rfl
   obtain ⟨v2, y2, hc2, hy2, ht2⟩ := hj 2 _ rfl
   obtain ⟨v3, y3, hc3, hy3, ht3⟩ := hj 3 _ rfl
   obtain ⟨v4, y4, hc4, hy4, ht4⟩ := hj 4 _ rfl
   obtain ⟨n0, e0, rfl, w0⟩ := DataW.trod_int Tryz.underlying3 ht0
   obtain ⟨n1, e1, rfl, _⟩ := DataW.trod_int Tryz.underlying3 ht1
   obtain ⟨s2, e2, rfl, _⟩ := DataW.trod_string Tryz.underlying9 ht2
   obtain ⟨s3, e3, rfl, _⟩ := DataW.trod_string Tryz.underlying9 ht3
   obtain ⟨A', c', la, e4, hat, hlc', hnil, hb1, hb2⟩ := open_attrs ht4
   injection e0 with e0 _; subst e0
   injection e1 with e1 _; subst e1
   injection e2 with e2 _; subst e2
   injection e3 with e3 _; subst e3
   injection e4 with e4 _; subst e4
   rw [add_more _ _ _ (by decide)] at hc1 hc2 hc3 hc4
   rw [Nat.add_zero] at hc0
   refine ⟨⟨n0, n1, s2.data.toList, s3.data.toList, la⟩, A', c', hat, hlc', hc0, hc1, hc2, hc3, hc4, ?_, ?_, ?_, hnil⟩
   ·simp [Lit.wf, IntKind.min, IntKind.max, IntKind.signed, IntKind.bits] at w0
    show -9223372036854775808 ≤ n0 ∧ n0 ≤ 9223372036854775807
    exact ⟨by omega, by omega⟩
   ·rw [hD]
    match ys, hyl, hy0, hy1, hy2, hy3, hy4 with
    | [z0, z1, z2, z3, z4], _, hy0, hy1, hy2, hy3, hy4 =>
     simp at hy0 hy1 hy2 hy3 hy4
     subst hy0; subst hy1; subst hy2; subst hy3; subst hy4
     simp [Rows.uptoBulk, Rows.uptoBulkAll]
     omega
   ·intro y hy
    rw [hD]
    have := hb2 y hy
    match ys, hyl, hy0, hy1, hy2, hy3, hy4 with
    | [z0, z1, z2, z3, z4], _, hy0, hy1, hy2, hy3, hy4 =>
     simp at hy0 hy1 hy2 hy3 hy4
     subst hy0; subst hy1; subst hy2; subst hy3; subst hy4
     simp [Rows.uptoBulk, Rows.uptoBulkAll]
     omega)
  simp only [Rows.uptoBulk] at hbulk
  have hone : ∀ k, k < len → Rows.uptoBulk (D k) ≤ 1048576 := fun k hk => by have := bulkAll_range D len k hk; omega
  have hcount := bulkAll_sum (fun _ : ItemD => 1) D l (fun i y hy => by obtain ⟨_, _, _, _, _, _, _, _, _, _, h, _⟩ := hp i y hy; omega)
  have htext := bulkAll_sum (fun x : ItemD => x.text.length) D l (fun i y hy => by obtain ⟨_, _, _, _, _, _, _, _, _, _, h, _⟩ := hp i y hy; omega)
  have e := sum_ones l
  rw [hl] at hcount htext
  have hl2 : l.length ≤ 1048576 := by omega
  have ht2 : textSum l ≤ 1048576 := by unfold textSum; omega
  refine ⟨some a, cap, l, by rw [hl], ?_, ⟨⟨by omega, fun k x hx => ?_⟩, by omega⟩, hl2, ht2, ?_⟩
  ·intro hpos
   have h0 : l[0]? = some (l[0]'hpos) := List.getElem?_eq_getElem hpos
   obtain ⟨_, _, _, _, hc0, _⟩ := hp 0 _ h0
   have hb := World.block_lt_of_cell? W _ hc0
   rw [block_of_add] at hb
   refine ⟨a, rfl, hb, fun k x hx => ?_⟩
   obtain ⟨A', c', k1, k2, k3, k4, k5, k6, k7, _⟩ := hp k x hx
   exact ⟨A', c', k1, k2, k3, k4, k5, k6, k7⟩
  ·obtain ⟨A', c', k1, k2, k3, k4, k5, k6, k7, k8, k9, k10⟩ := hp k x hx
   have hk := hone k (by rw [← hl]; exact (List.getElem?_eq_some_iff.1 hx).1)
   exact ⟨by omega, by omega, by omega, fun j y hy => by have := k10.1 y (List.mem_of_getElem? hy); omega, k8⟩
  ·intro ad had k x A2 c2 hx hcell hA2
   injection had with had
   subst had
   obtain ⟨A', c', k1, k2, k3, k4, k5, k6, k7, k8, k9, k10⟩ := hp k x hx
   rw [k7] at hcell
   injection hcell with hcell
   injection hcell with q1 _ q3
   rw [← q3]
   exact k10.2 (by rw [q1]; exact hA2)
end
end Go.Proofs.YtcombcoilpmnkaaGreat
