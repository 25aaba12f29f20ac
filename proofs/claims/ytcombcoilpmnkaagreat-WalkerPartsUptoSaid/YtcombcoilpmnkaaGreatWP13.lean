/-
  Texts of this claim, joined (by a program of the claim's author): WAxis, SameA, WTest, WKeep, ShelfI, ShelfP, Refer, Undo, OwnT.
-/
import Derived.Test.YtcombcoilpmnkaaGreatWP1
import Derived.Test.YtcombcoilpmnkaaGreatWP12
import Derived.Test.YtcombcoilpmnkaaGreatWP2
import Derived.Deep.RegionHeld3
import Derived.Laws.StructEq
import Derived.Test.YtcombcoilpmnkaaGreatWP5
import Derived.Shelf.SlicesQ.IndexFunc
import Derived.Shelf.Small.Strs
import Derived.Test.YtcombcoilpmnkaaGreatProg
import Derived.Shelf.Strings.Prefix
import Derived.ScopeJumps
import Derived.Laws.OwnMore
namespace Go.Proofs.YtcombcoilpmnkaaGreat
set_option maxRecDepth 100000
set_option maxHeartbeats 16000000
section
open Go.RowKit Go.Shelf
attribute [local go_sem] Oper.semAt_some mGet mRoot mKid mOrder cGet cRoot cKid cOrder fNode1 fNode3 fNode6
section
variable {M : Nat → Prop} {t : Nat} {f : Fo} {next : Int} {w w' : World}
def RowP (M : Nat → Prop) (w : World) (xs : List Int) (e : Ending) (w' : World) : Prop :=
 ∃ (gf : Nat) (lb : Array Value) (D E : Nat → Prop), e = .returned (.func (.func gf) #[] lb) ∧ (∀ args w, (callFunc gf args).run Tryz.prog w = .ok (.enter gf args) w) ∧ IterE Tryz.prog gf lb encI xs D E w' ∧ Below w.heap.size w w' ∧
  (∀ b, D b → b < w'.heap.size) ∧ (∀ b, E b → D b) ∧ (∀ b, D b → M b ∨ w.heap.size ≤ b) ∧ ∀ b, E b → w.heap.size ≤ b
theorem listed_row (L : List Int) (A : Option Addr) (c : Nat) (w0 w : World) (h2 : IntsAt w w.heap.size A L) (hl : L.length ≤ 1000000000) (hb : Below w0.heap.size w0 w) (hA : ∀ b, rowB A L b → w0.heap.size ≤ b) :
  Calls Tryz.prog 85 #[.slice A L.length c] w (RowP M w0 L) := by
 refine (listed_calls w A L.length c).mono ?_
 rintro e w' ⟨rfl, rfl⟩
 have hb' : Below w.heap.size w (w.alloc (.cells #[.slice A L.length c] 32)) := (Below.refl _ w).alloc (Nat.le_refl _) _
 refine ⟨_, _, _, fun _ => False, rfl, enters_of Tryz.func115 (by kernel_rfl) rfl, (listed_iter L A c _ w.heap.size (heap_alloc_new w _) ((h2.below hb').more hb'.size) hl).toE, hb.trans (hb'.mono hb.size), fun b hb1 => ?_, fun b h => h.elim, fun b hb1 => ?_, fun b h => h.elim⟩
 ·rcases hb1 with rfl | ⟨hp, ad, rfl, rfl⟩
  ·simp
  ·obtain ⟨ad', e, hlt, _⟩ := h2 hp
   injection e with e
   subst e
   simp; omega
 ·rcases hb1 with rfl | h
  ·exact .inr hb.size
  ·exact .inr (hA b h)
theorem intRow_at {w : World} {A : Option Addr} {c : Nat} {l : List Int} (h : intRow w (.slice A l.length c) l) : IntsAt w w.heap.size A l := fun hp => by
 obtain ⟨_, ⟨h0, h1⟩ | ⟨g, cap, cur, h3, _, h4, _⟩⟩ := id h
 ·omega
 ·injection h3 with e _ _
  subst e
  refine ⟨_, rfl, (Array.getElem?_eq_some_iff.1 h4).1, fun k x hk => ?_⟩
  have h5 := own_cell h k (.int .i64 x) (by rw [List.getElem?_map, hk]; rfl)
  rw [add_zero_block]
  exact h5
theorem Reverse_any (l : List Int) (A : Option Addr) (c : Nat) (w : World) (hrow : intRow w (.slice A l.length c) l) (hl : l.length ≤ 1000000) :
  Calls Tryz.prog 88 #[.slice A l.length c] w fun e w' => e = .returned (.tuple #[]) ∧ IntsAt w' w'.heap.size A l.reverse ∧ Turn (fun b => 0 < l.length ∧ (Value.slice A l.length c).ownBlock = some b) w w' := by
 by_cases h0 : l.length = 0
 ·have := List.eq_nil_of_length_eq_zero h0
  subst this
  refine (Any.slices_Reverse_int_empty Tryz.laysR112 A c w).mono ?_
  rintro e w' ⟨rfl, rfl⟩
  exact ⟨rfl, fun h => absurd h (by simp), Turn.refl _ _⟩
 ·obtain ⟨g, rfl⟩ : ∃ g, A = some ⟨g, 0, none⟩ := by
   obtain ⟨_, ⟨_, h1⟩ | ⟨g, cap, cur, h3, _⟩⟩ := id hrow
   ·exact absurd h1 h0
   ·injection h3 with e _ _
    exact ⟨g, e⟩
  have hg := (intRow_at hrow) (by omega)
  obtain ⟨ad, e, hgl, _⟩ := hg
  injection e with e
  subst e
  refine (Reverse_int l g c w hrow hl).mono ?_
  rintro e w' ⟨rfl, hc, ht⟩
  refine ⟨rfl, fun _ => ⟨_, rfl, Nat.lt_of_lt_of_le hgl ht.size, fun k x hk => by rw [add_zero_block]; exact hc k x hk⟩, ht.mono fun b hb => ⟨by omega, by rw [hb]; rfl⟩⟩
theorem IntsAt.drop {w : World} {B : Nat} {ad : Addr} {l : List Int} (h : IntsAt w B (some ad) l) (k : Nat) : IntsAt w B (some (ad.add k)) (l.drop k) := fun hp => by
 have hp' : 0 < l.length := by rw [List.length_drop] at hp; omega
 obtain ⟨ad', e, hlt, hc⟩ := h hp'
 injection e with e
 subst e
 refine ⟨_, rfl, by rw [block_of_add]; exact hlt, fun j x hj => ?_⟩
 rw [List.getElem?_drop] at hj
 rw [add_of_add]
 exact hc (k + j) x hj
theorem waxis_any (h : TreeM M t f next w) {x : Int} (hx : x ∈ 0 :: f.ids) (axis : Int) :
  Calls Tryz.prog 56 #[.agg #[treeI t], .int .i64 axis, .int .i64 x] w (RowP M w (axisW f axis x)) := by
 have hi := h.inv
 have hwf := wfI_mem hi hx
 obtain ⟨W1, hW1⟩ : ∃ W1, Hid (W1 = w.alloc (.cells #[.iface 24 (.pointer (some ⟨t, 0, none⟩))] 82)) := ⟨_, rfl⟩
 have hb1 : Below w.heap.size w W1 := by rw [hW1.out]; exact (Below.refl _ w).alloc (Nat.le_refl _) _
 have HX1 : Hid (W1.heap[w.heap.size]? = some (.cells #[treeI t] 82 (0, 0))) := by show _ = _; rw [hW1.out]; exact heap_alloc_new w _
 have HT1 := Lib.hid (h.below hb1)
 have HB1 := Lib.hid hb1
 have HX := Lib.hid hx
 have HI := Lib.hid hi
 have f1 := cell_row HX1.out 0 _ rfl
 unfold treeI at f1 ⊢
 obtain ⟨xs, hxs⟩ : ∃ xs, Hid (axisW f axis x = xs) := ⟨_, rfl⟩
 rw [hxs.out]
 have hax := hxs.out
 unfold axisW at hax
 clear h hx hi hb1
 by_cases a1 : axis = 1
 ·subst a1
  rw [if_pos rfl] at hax
  have HAX := Lib.hid hax
  clear hax hxs
  go_enter Tryz.func56, Tryz.ntmps56
  go_upto_region 1 with (fail)
  rw [← hW1.out]
  go_wp2_with fail
  refine (kids_calls W1 t x).mono ?_
  rintro e w2 ⟨rfl, rfl⟩
  unfold closV
  go_wp2_with fail
  go_ret
  refine ⟨_, _, _, fun _ => False, rfl, enters_of Tryz.func110 (by kernel_rfl) rfl, by rw [← HAX.out]; exact (kids_iter HX.out _ _ _ (HT1.out.below (caps_below t x W1)) (caps_w t x W1) (caps_i t x W1)).toE, HB1.out.trans ((caps_below t x W1).mono HB1.out.size), fun b hb => ?_, fun b h => h.elim, fun b hb => ?_, fun b h => h.elim⟩
  ·rw [caps_size]
   rcases hb with hb | rfl | rfl
   ·have := HT1.out.lt hb; omega
   ·omega
   ·omega
  ·have := HB1.out.size
   rcases hb with hb | rfl | rfl
   ·exact .inl hb
   ·exact .inr (by omega)
   ·exact .inr (by omega)
 rw [if_neg a1] at hax
 have b1 : (axis == 1) = false := by simpa using a1
 by_cases a2 : axis = 2
 ·subst a2
  rw [if_pos rfl] at hax
  have HAX := Lib.hid hax
  clear hax hxs
  go_enter Tryz.func56, Tryz.ntmps56
  go_upto_region 1 with (fail)
  rw [← hW1.out]
  go_wp2_with fail
  refine (below_calls2 W1 t x).mono ?_
  rintro e w2 ⟨rfl, rfl⟩
  unfold closV
  go_wp2_with fail
  go_ret
  refine ⟨_, _, _, fun _ => False, rfl, enters_of Tryz.func112 (by kernel_rfl) rfl, by rw [← HAX.out]; exact (below_any HI.out HX.out _ _ _ (HT1.out.below (caps_below t x W1)) (caps_w t x W1) (caps_i t x W1)).toE, HB1.out.trans ((caps_below t x W1).mono HB1.out.size), fun b hb => ?_, fun b h => h.elim, fun b hb => ?_, fun b h => h.elim⟩
  ·rw [caps_size]
   rcases hb with hb | rfl | rfl
   ·have := HT1.out.lt hb; omega
   ·omega
   ·omega
  ·have := HB1.out.size
   rcases hb with hb | rfl | rfl
   ·exact .inl hb
   ·exact .inr (by omega)
   ·exact .inr (by omega)
 rw [if_neg a2] at hax
 have b2 : (axis == 2) = false := by simpa using a2
 by_cases a3 : axis = 3
 ·subst a3
  rw [if_pos rfl] at hax
  have HAX := Lib.hid hax
  clear hax hxs
  go_enter Tryz.func56, Tryz.ntmps56
  go_upto_region 1 with (fail)
  rw [← hW1.out]
  go_wp2_with fail
  refine (within_calls W1 t x).mono ?_
  rintro e w2 ⟨rfl, rfl⟩
  unfold closV
  go_wp2_with fail
  go_ret
  refine ⟨_, _, _, fun _ => False, rfl, enters_of Tryz.func113 (by kernel_rfl) rfl, by rw [← HAX.out]; exact (within_iter HI.out HX.out _ _ _ (HT1.out.below (caps_below t x W1)) (caps_w t x W1) (caps_i t x W1)).toE, HB1.out.trans ((caps_below t x W1).mono HB1.out.size), fun b hb => ?_, fun b h => h.elim, fun b hb => ?_, fun b h => h.elim⟩
  ·rw [caps_size]
   rcases hb with hb | rfl | rfl
   ·have := HT1.out.lt hb; omega
   ·omega
   ·omega
  ·have := HB1.out.size
   rcases hb with hb | rfl | rfl
   ·exact .inl hb
   ·exact .inr (by omega)
   ·exact .inr (by omega)
 rw [if_neg a3] at hax
 have b3 : (axis == 3) = false := by simpa using a3
 by_cases a4 : axis = 4
 ·subst a4
  rw [if_pos rfl] at hax
  have HAX : Hid (aboW f x false = xs) := hax
  clear hax hxs
  go_enter Tryz.func56, Tryz.ntmps56
  go_upto_region 1 with (fail)
  rw [← hW1.out]
  go_wp2_with fail
  refine (above_calls W1 t x false).mono ?_
  rintro e w2 ⟨rfl, rfl⟩
  go_wp2_with fail
  go_ret
  refine ⟨_, _, fun b => M b ∨ b = W1.heap.size ∨ b = W1.heap.size + 1 ∨ b = W1.heap.size + 2, fun b => b = W1.heap.size + 1, rfl, enters_of Tryz.func114 (by kernel_rfl) rfl, by rw [← HAX.out]; exact above_iter HI.out HX.out false _ _ _ _ (HT1.out.below (caps3_below t x false W1)) (caps3_w t x false W1) (caps3_i t x false W1) (caps3_a t x false W1) (fun hm => by have := HT1.out.lt hm; omega) (by omega) (by omega), HB1.out.trans ((caps3_below t x false W1).mono HB1.out.size), fun b hb => ?_, fun b h => .inr (.inr (.inl h)), fun b hb => ?_, fun b h => ?_⟩
  ·rw [caps3_size]
   rcases hb with hb | rfl | rfl | rfl
   ·have := HT1.out.lt hb; omega
   ·omega
   ·omega
   ·omega
  ·have := HB1.out.size
   rcases hb with hb | rfl | rfl | rfl
   ·exact .inl hb
   ·exact .inr (by omega)
   ·exact .inr (by omega)
   ·exact .inr (by omega)
  ·have := HB1.out.size
   rw [h]; omega
 rw [if_neg a4] at hax
 have b4 : (axis == 4) = false := by simpa using a4
 by_cases a5 : axis = 5
 ·subst a5
  rw [if_pos rfl] at hax
  have HAX : Hid (aboW f x true = xs) := hax
  clear hax hxs
  go_enter Tryz.func56, Tryz.ntmps56
  go_upto_region 1 with (fail)
  rw [← hW1.out]
  go_wp2_with fail
  refine (above_calls W1 t x true).mono ?_
  rintro e w2 ⟨rfl, rfl⟩
  go_wp2_with fail
  go_ret
  refine ⟨_, _, fun b => M b ∨ b = W1.heap.size ∨ b = W1.heap.size + 1 ∨ b = W1.heap.size + 2, fun b => b = W1.heap.size + 1, rfl, enters_of Tryz.func114 (by kernel_rfl) rfl, by rw [← HAX.out]; exact above_iter HI.out HX.out true _ _ _ _ (HT1.out.below (caps3_below t x true W1)) (caps3_w t x true W1) (caps3_i t x true W1) (caps3_a t x true W1) (fun hm => by have := HT1.out.lt hm; omega) (by omega) (by omega), HB1.out.trans ((caps3_below t x true W1).mono HB1.out.size), fun b hb => ?_, fun b h => .inr (.inr (.inl h)), fun b hb => ?_, fun b h => ?_⟩
  ·rw [caps3_size]
   rcases hb with hb | rfl | rfl | rfl
   ·have := HT1.out.lt hb; omega
   ·omega
   ·omega
   ·omega
  ·have := HB1.out.size
   rcases hb with hb | rfl | rfl | rfl
   ·exact .inl hb
   ·exact .inr (by omega)
   ·exact .inr (by omega)
   ·exact .inr (by omega)
  ·have := HB1.out.size
   rw [h]; omega
 rw [if_neg a5] at hax
 have b5 : (axis == 5) = false := by simpa using a5
 by_cases a8 : axis = 8
 ·subst a8
  rw [if_pos rfl] at hax
  obtain ⟨W2, hW2⟩ : ∃ W2, Hid (W2 = W1.alloc (.cells #[.int .i64 x] 3)) := ⟨_, rfl⟩
  have hb2 : Below W1.heap.size W1 W2 := by rw [hW2.out]; exact (Below.refl _ W1).alloc (Nat.le_refl _) _
  have hx2 : W2.heap[W1.heap.size]? = some (.cells #[.int .i64 x] 3 (0, 0)) := by rw [hW2.out]; exact heap_alloc_new W1 _
  have hz2 : W1.heap.size < W2.heap.size := (Array.getElem?_eq_some_iff.1 hx2).1
  have hat : IntsAt W2 W2.heap.size (some ⟨W1.heap.size, 0, none⟩) [x] := fun _ => ⟨_, rfl, hz2, fun k y hk => by
   cases k with
   | zero =>
    obtain rfl : x = y := by simpa using hk
    rw [add_zero_block]; exact cell_row hx2 0 _ rfl
   | succ k => simp at hk⟩
  have HB2 : Hid (Below w.heap.size w W2) := HB1.out.trans (hb2.mono HB1.out.size)
  have HAT := Lib.hid hat
  have HRB : Hid (∀ b, rowB (some ⟨W1.heap.size, 0, none⟩) [x] b → w.heap.size ≤ b) := fun b ⟨_, ad, e, hb⟩ => by
   injection e with e
   subst e
   rw [hb]
   exact HB1.out.size
  clear hxs hb2 hx2 hz2 hat
  subst hax
  go_enter Tryz.func56, Tryz.ntmps56
  go_upto_region 1 with (fail)
  rw [← hW1.out]
  go_wp2_with fail
  rw [← hW2.out]
  refine (listed_row (M := M) [x] (some ⟨W1.heap.size, 0, none⟩) 1 w W2 HAT.out (by simp) HB2.out HRB.out).mono ?_
  rintro e w3 ⟨gf, lb, D, E, rfl, r2⟩
  have HR := Lib.hid r2
  clear r2
  go_wp2_with fail
  go_ret
  exact ⟨gf, lb, D, E, rfl, HR.out⟩
 rw [if_neg a8] at hax
 have b8 : (axis == 8) = false := by simpa using a8
 rcases List.mem_cons.1 HX.out with rfl | hxm
 ·have hbz : besW f 0 = [] := by unfold besW; rw [if_pos rfl]
  rw [if_pos hbz] at hax
  clear hbz hxs
  subst hax
  go_enter Tryz.func56, Tryz.ntmps56
  go_upto_region 1 with (fail)
  rw [← hW1.out]
  go_wp2_with fail
  refine (beside_top t W1).mono ?_
  rintro e w2 ⟨rfl, hb2⟩
  have HB2 : Hid (Below w.heap.size w w2) := HB1.out.trans (hb2.mono HB1.out.size)
  clear hb2
  go_wp2_with fail
  refine (listed_row (M := M) [] none 0 w w2 (fun h => absurd h (by simp)) (by simp) HB2.out (fun b hb => absurd hb.1 (by simp))).mono ?_
  rintro e w3 ⟨gf, lb, D, E, rfl, r2⟩
  have HR := Lib.hid r2
  clear r2
  go_wp2_with fail
  go_ret
  exact ⟨gf, lb, D, E, rfl, HR.out⟩
 have hxm2 := bes_mem HI.out hxm
 obtain ⟨hx0, _⟩ := ent_of HI.out hxm
 have hbk : besW f x = kidsW f (entW f x).par := by unfold besW; rw [if_neg hx0]
 have hkl := kidsW_len HI.out (anc_step HI.out hxm).2
 have hcn := HI.out.cnt
 rw [← hbk] at hxm2 hkl
 have hne : besW f x ≠ [] := fun h => by rw [h] at hxm2; simp at hxm2
 rw [if_neg hne] at hax
 obtain ⟨ys, hys⟩ : ∃ ys, Hid (besW f x = ys) := ⟨_, rfl⟩
 have hk1 := (idx_first _ _ hxm2).1
 obtain ⟨k, hk⟩ : ∃ k, Hid ((besW f x).idxOf x = k) := ⟨_, rfl⟩
 rw [hk.out] at hax hk1
 rw [hys.out] at hax hk1 hkl hne
 have hkl2 : k < ys.length := (List.getElem?_eq_some_iff.1 hk1).1
 have n0 : ((ys.length : Int) == 0) = false := by
  have : (ys.length : Int) ≠ 0 := by omega
  simpa using this
 have k0 : (0 : Int) ≤ (k : Int) := by omega
 have k1 : (k : Int) < (ys.length : Int) := by omega
 have k2 : (ys.length : Int) ≤ 1001 := by omega
 have HXM := Lib.hid hxm
 have HAX := Lib.hid hax
 have HKL : Hid (ys.length ≤ 1001 ∧ k < ys.length) := by show _ ∧ _; omega
 clear hxm hxm2 hx0 hbk hkl hcn hne hk1 hkl2 hax hxs
 by_cases a6 : axis = 6
 ·subst a6
  have HAX6 : Hid (ys.drop (k + 1) = xs) := by
   have h := HAX.out
   rw [if_pos rfl] at h
   exact h
  clear HAX
  go_enter Tryz.func56, Tryz.ntmps56
  go_upto_region 1 with (fail)
  rw [← hW1.out]
  go_wp2_with fail
  refine (beside_in HT1.out HXM.out).mono ?_
  rw [hk.out, hys.out]
  rintro e w2 ⟨A, c, rfl, hr2, hb2, hob⟩
  have HB2 : Hid (Below w.heap.size w w2) := HB1.out.trans (hb2.mono HB1.out.size)
  obtain ⟨g, rfl⟩ : ∃ g, A = some ⟨g, 0, none⟩ := by
   obtain ⟨_, ⟨h0, h1⟩ | ⟨g, cap, cur, h3, _⟩⟩ := id hr2
   ·have := HKL.out; omega
   ·injection h3 with e _ _
    exact ⟨g, e⟩
  have hgo : w.heap.size ≤ g := by have := hob g rfl; have := HB1.out.size; omega
  obtain ⟨zs, hzs⟩ : ∃ zs, Hid (ys.drop (k + 1) = zs) := ⟨_, rfl⟩
  have e1 : ys.length - (k + 1) = zs.length := by rw [← hzs.out]; simp
  have HL : Hid (zs.length ≤ 1000000000) := by have := HKL.out; show _ ≤ _; omega
  have hcl : ys.length ≤ c := by
   obtain ⟨_, _, hv, hc, _⟩ := row_shape hr2
   injection hv with _ _ e3
   omega
  by_cases hce : k + 1 = c
  ·have hz0 : zs.length = 0 := by omega
   have hz := List.eq_nil_of_length_eq_zero hz0
   have hcz : c - (k + 1) = 0 := by omega
   have HE1 : Hid (ys.length - c = zs.length) := by show _ = _; rw [← hce]; exact e1
   clear hb2 hr2 hob hgo e1 hcl
   go_wp2_with fail
   rw [HE1.out]
   refine (listed_row (M := M) zs (some ⟨g, 0, none⟩) 0 w w2 (fun h => by omega) HL.out HB2.out (fun b h => by have := h.1; omega)).mono ?_
   rintro e w3 ⟨gf, lb, D, E, rfl, r2⟩
   have HR := Lib.hid r2
   clear r2
   go_wp2_with fail
   go_ret
   rw [← HAX6.out, hzs.out]
   exact ⟨gf, lb, D, E, rfl, HR.out⟩
  ·have hcn : ¬ c - (k + 1) = 0 := by omega
   have hat := (intRow_at hr2).drop (k + 1)
   rw [add_zero_block, hzs.out] at hat
   have HAT := Lib.hid hat
   have HGO := Lib.hid hgo
   have HE1 := Lib.hid e1
   clear hb2 hr2 hob hat hgo e1 hcl
   go_wp2_with fail
   rw [HE1.out]
   refine (listed_row (M := M) zs (some ⟨g, k + 1, none⟩) _ w w2 HAT.out HL.out HB2.out (fun b ⟨_, ad, e, hb⟩ => by injection e with e; subst e; rw [hb]; exact HGO.out)).mono ?_
   rintro e w3 ⟨gf, lb, D, E, rfl, r2⟩
   have HR := Lib.hid r2
   clear r2
   go_wp2_with fail
   go_ret
   rw [← HAX6.out, hzs.out]
   exact ⟨gf, lb, D, E, rfl, HR.out⟩
 ·have b6 : (axis == 6) = false := by simpa using a6
  rw [if_neg a6] at HAX
  go_enter Tryz.func56, Tryz.ntmps56
  go_upto_region 1 with (fail)
  rw [← hW1.out]
  go_wp2_with fail
  refine (beside_in HT1.out HXM.out).mono ?_
  rw [hk.out, hys.out]
  rintro e w2 ⟨A, c, rfl, hr2, hb2, hob⟩
  have HB2 : Hid (Below w.heap.size w w2) := HB1.out.trans (hb2.mono HB1.out.size)
  obtain ⟨g, rfl⟩ : ∃ g, A = some ⟨g, 0, none⟩ := by
   obtain ⟨_, ⟨h0, h1⟩ | ⟨g, cap, cur, h3, _⟩⟩ := id hr2
   ·have := HKL.out; omega
   ·injection h3 with e _ _
    exact ⟨g, e⟩
  have hgo : w.heap.size ≤ g := by have := hob g rfl; have := HB1.out.size; omega
  have hcap : k ≤ c := by
   obtain ⟨_, _, hv, hc, _⟩ := row_shape hr2
   injection hv with _ _ e3
   have := HKL.out
   omega
  have hr3 : intRow w2 (.slice (some ⟨g, 0, none⟩) (ys.take k).length c) (ys.take k) := by
   have hkl := HKL.out
   obtain ⟨r1, ⟨h0, h1⟩ | ⟨g', cap, cur, h3, h4, h5, h6, h7, h8, h9⟩⟩ := id hr2
   ·omega
   ·have e1 : (ys.take k).length = k := by simp; omega
    rw [e1]
    show World.ownsRow _ 0 3 1 _ (ys.take k).length ((ys.take k).map (Value.int .i64))
    rw [e1]
    injection h3 with e2 _ e3
    injection e2 with e2
    injection e2 with e2 _ _
    subst e2
    subst e3
    refine ⟨by simp; omega, .inr ⟨g, c, cur, rfl, h4, h5, by omega, h7, h8, ?_⟩⟩
    rw [List.map_take, ← h9, List.take_take]
    congr 1
    omega
  obtain ⟨zs, hzs⟩ : ∃ zs, Hid (ys.take k = zs) := ⟨_, rfl⟩
  rw [hzs.out] at hr3
  have HR3 := Lib.hid hr3
  have e1 : zs.length = k := by have := HKL.out; rw [← hzs.out]; simp; omega
  have HE1 := Lib.hid e1
  have HL : Hid (zs.length ≤ 1001) := by have := HKL.out; show _ ≤ _; omega
  clear hb2 hr2 hob hgo hr3 e1
  go_wp2_with fail
  rw [← HE1.out]
  refine (CloneI_any zs _ c w2 HR3.out (by have := HL.out; omega)).mono ?_
  rintro e w3 ⟨A3, c3, rfl, hr4, hob4, hb3⟩
  have HB3 : Hid (Below w.heap.size w w3) := HB2.out.trans (hb3.mono HB2.out.size)
  have HR4 := Lib.hid hr4
  have HOB4 : Hid (∀ b, (Value.slice A3 zs.length c3).ownBlock = some b → w.heap.size ≤ b) := fun b hb => Nat.le_trans HB2.out.size (hob4 b hb)
  clear hr4 hob4 hb3
  go_wp2_with fail
  refine (Reverse_any zs A3 c3 w3 HR4.out (by have := HL.out; omega)).mono ?_
  rintro e w4 ⟨rfl, hat, ht4⟩
  have HB4 : Hid (Below w.heap.size w w4) := HB3.out.trans (ht4.below (fun b hb => HOB4.out b hb.2) HB3.out.size)
  obtain ⟨us, hus⟩ : ∃ us, Hid (zs.reverse = us) := ⟨_, rfl⟩
  rw [hus.out] at hat
  have HAT := Lib.hid hat
  have HAX6 : Hid (us = xs) := by show _ = _; rw [← hus.out, ← hzs.out]; exact HAX.out
  have e2 : zs.length = us.length := by rw [← hus.out]; simp
  have HE2 := Lib.hid e2
  have HRB : Hid (∀ b, rowB A3 us b → w.heap.size ≤ b) := fun b ⟨hp, ad, e, hb⟩ => by
   subst e
   rw [hb]
   exact HOB4.out _ rfl
  clear hat ht4 e2
  go_wp2_with fail
  rw [HE2.out]
  refine (listed_row (M := M) us A3 c3 w w4 HAT.out (by have := HL.out; have := HE2.out; omega) HB4.out HRB.out).mono ?_
  rintro e w5 ⟨gf, lb, D, E, rfl, r2⟩
  have HR := Lib.hid r2
  clear r2
  go_wp2_with fail
  go_ret
  rw [← HAX6.out]
  exact ⟨gf, lb, D, E, rfl, HR.out⟩
end
end
section
open Go.RowKit
end
section
open Go.RowKit Go.Shelf
attribute [local go_sem] Oper.semAt_some mGet mRoot mKid mOrder cGet cRoot cKid cOrder fNode1 fNode3 fNode6
theorem beq_dec (a b : List UInt8) : (a == b) = decide (a = b) := by cases h : (a == b) <;> simp_all
section
variable {M : Nat → Prop} {t : Nat} {f : Fo} {next : Int} {w w' : World}
theorem wtest_any (s : StepD) (A : Option Addr) (n c : Nat) (f : Fo) (x : Int) (A' : Option Addr) (c' : Nat) (w : World) :
  Calls Tryz.prog 57 #[.agg #[.int .i64 s.axis, .int .i64 s.test, .string ⟨s.name.toArray⟩, .slice A n c], .agg (nodeV f x A' c')] w (Ret w (.bool (testW s (entW f x).d))) := by
 unfold nodeV nodeR strV
 obtain ⟨d, hd⟩ : ∃ d, Hid ((entW f x).d = d) := ⟨_, rfl⟩
 rw [hd.out]
 unfold testW
 have hb : Below w.heap.size w ((w.alloc (.cells #[.int .i64 s.axis, .int .i64 s.test, .string ⟨s.name.toArray⟩, .slice A n c] 45)).alloc (.cells #[.int .i64 x, .int .i64 (entW f x).par, .int .i64 d.kind, .int .i64 ((entW f x).kids.length : Int), .string ⟨d.name.toArray⟩, .string ⟨d.text.toArray⟩, .slice A' d.attrs.length c'] 49)) := ((Below.refl _ w).alloc (Nat.le_refl _) _).alloc (by simp) _
 have HB := Lib.hid hb
 clear hb
 by_cases h1 : s.test = 1
 ·rw [if_pos h1]
  rw [h1] at HB ⊢
  by_cases h2 : d.kind = 1
  ·rw [h2] at HB ⊢
   go_enter Tryz.func57, Tryz.ntmps57
   go_wp2_with fail
   go_ret
   exact ⟨by simp [beq_dec], HB.out⟩
  ·have b2 : (d.kind == 1) = false := by simpa using h2
   go_enter Tryz.func57, Tryz.ntmps57
   go_wp2_with fail
   go_ret
   exact ⟨by simp [h2], HB.out⟩
 rw [if_neg h1]
 have b1 : (s.test == 1) = false := by simpa using h1
 by_cases h2 : s.test = 2
 ·rw [if_pos h2]
  rw [h2] at HB b1 ⊢
  go_enter Tryz.func57, Tryz.ntmps57
  go_wp2_with fail
  go_ret
  exact ⟨by by_cases h : d.kind = 1 <;> simp [h], HB.out⟩
 rw [if_neg h2]
 have b2 : (s.test == 2) = false := by simpa using h2
 by_cases h3 : s.test = 3
 ·rw [if_pos h3]
  rw [h3] at HB b1 b2 ⊢
  go_enter Tryz.func57, Tryz.ntmps57
  go_wp2_with fail
  go_ret
  exact ⟨by by_cases h : d.kind = 2 <;> simp [h], HB.out⟩
 rw [if_neg h3]
 have b3 : (s.test == 3) = false := by simpa using h3
 go_enter Tryz.func57, Tryz.ntmps57
 go_wp2_with fail
 go_ret
 exact ⟨rfl, HB.out⟩
def saysAt (f : Fo) (text : List UInt8) (y : Int) : Bool := decide ((entW f y).d.kind = 2) && decide ((entW f y).d.text = text)
theorem says_any (h : TreeM M t f next w) {x : Int} (hx : x ∈ 0 :: f.ids) (text : List UInt8) :
  Calls Tryz.prog 89 #[.agg #[treeI t], .int .i64 x, .string ⟨text.toArray⟩] w (Ret w (.bool (saysW f x text))) := by
 have HI := Lib.hid h.inv
 have HTW := Lib.hid h
 have HX := Lib.hid hx
 obtain ⟨N, hN⟩ : ∃ N, Hid (w.heap.size = N) := ⟨_, rfl⟩
 obtain ⟨xs, hxs⟩ : ∃ xs, Hid (kidsW f x = xs) := ⟨_, rfl⟩
 obtain ⟨w1, hw1⟩ : ∃ w1, Hid (w1 = ((w.alloc (.cells #[.iface 24 (.pointer (some ⟨t, 0, none⟩))] 82)).alloc (.cells #[.string ⟨text.toArray⟩] 9)).alloc (.cells #[.bool false] 4)) := ⟨_, rfl⟩
 have hb1 : Below w.heap.size w w1 := by rw [hw1.out]; exact (((Below.refl _ w).alloc (Nat.le_refl _) _).alloc (by simp) _).alloc (by simp; omega) _
 have hz1 : w1.heap.size = N + 3 := by rw [hw1.out, ← hN.out]; simp
 have HX1 : Hid (w1.heap[N]? = some (.cells #[treeI t] 82 (0, 0))) := by
  show _ = _
  rw [hw1.out, ← hN.out]
  exact (Below.heap_alloc _ _ _ (by simp; omega)).trans ((Below.heap_alloc _ _ _ (by simp)).trans (heap_alloc_new w _))
 have HY1 : Hid (w1.heap[N + 1]? = some (.cells #[.string ⟨text.toArray⟩] 9 (0, 0))) := by
  show _ = _
  rw [hw1.out, ← hN.out]
  refine (Below.heap_alloc _ _ _ (by simp)).trans ?_
  have := heap_alloc_new (w.alloc (.cells #[.iface 24 (.pointer (some ⟨t, 0, none⟩))] 82)) (.cells #[.string ⟨text.toArray⟩] 9)
  simpa using this
 have HZ1' : Hid (w1.heap[N + 2]? = some (.cells #[.bool false] 4 (0, 0))) := by
  show _ = _
  rw [hw1.out, ← hN.out]
  have := heap_alloc_new ((w.alloc (.cells #[.iface 24 (.pointer (some ⟨t, 0, none⟩))] 82)).alloc (.cells #[.string ⟨text.toArray⟩] 9)) (.cells #[.bool false] 4)
  simpa using this
 have HB1 := Lib.hid hb1
 have HZ1 := Lib.hid hz1
 have HT1 := Lib.hid (h.below hb1)
 have f1 := cell_row HX1.out 0 _ rfl
 unfold treeI at f1
 rw [hw1.out, ← hN.out] at f1
 clear h hx hb1 hz1
 refine callsIn_wide.1 (callsIn_of_wp_marks (n := 0) Tryz.func89 rfl trivial ?_ rfl)
 simp only [Tryz.ntmps89, List.size_toArray, List.length_cons, List.length_nil, Nat.reduceAdd, Nat.reduceSub, Array.replicate_succ, Array.replicate_zero, List.push_toArray, List.append_toArray, List.nil_append, List.cons_append]
 unfold treeI
 gi_wp2
 rw [← hw1.out]
 clear f1
 refine ⟨trivial, rfl, ?_⟩
 refine (callsIn_wide.2 (kids_calls w1 t x)).mono ?_
 rintro e w2' ⟨rfl, rfl⟩
 obtain ⟨w2, hw2⟩ : ∃ w2, Hid (caps t x w1 = w2) := ⟨_, rfl⟩
 rw [hw2.out]
 have hb2 : Below w1.heap.size w1 w2 := by rw [← hw2.out]; exact caps_below t x w1
 have hz2 : w2.heap.size = w1.heap.size + 2 := by rw [← hw2.out]; exact caps_size t x w1
 have q1 : w2.heap[w1.heap.size]? = some (.cells #[treeI t] 82 (0, 0)) := by rw [← hw2.out]; exact caps_w t x w1
 have q2 : w2.heap[w1.heap.size + 1]? = some (.cells #[.int .i64 x] 3 (0, 0)) := by rw [← hw2.out]; exact caps_i t x w1
 have hT2 := HT1.out.below hb2
 have hit := kids_iter HX.out w2 w1.heap.size (w1.heap.size + 1) hT2 q1 q2
 rw [hxs.out] at hit
 have HIT := Lib.hid hit
 have HT2 := Lib.hid hT2
 have HZ2 := Lib.hid hz2
 have HB2 : Hid (Below w.heap.size w w2) := HB1.out.trans (hb2.mono HB1.out.size)
 have HX2 : Hid (w2.heap[N]? = some (.cells #[treeI t] 82 (0, 0))) := (hb2.block _ (by have := HZ1.out; omega)).trans HX1.out
 have HY2 : Hid (w2.heap[N + 1]? = some (.cells #[.string ⟨text.toArray⟩] 9 (0, 0))) := (hb2.block _ (by have := HZ1.out; omega)).trans HY1.out
 have HC2 : Hid (w2.heap[N + 2]? = some (.cells #[.bool false] 4 (0, 0))) := (hb2.block _ (by have := HZ1.out; omega)).trans HZ1'.out
 have HML : Hid (∀ b, M b → b < N) := fun b hb => by have := HTW.out.lt hb; have := hN.out; omega
 clear hb2 hz2 q1 q2 hT2 hit
 rw [hN.out]
 unfold closV
 gi_wp2
 refine range_law (gf := 110) (lb := #[.pointer (some ⟨w1.heap.size, 0, none⟩), .pointer (some ⟨w1.heap.size + 1, 0, none⟩)]) rfl (enters_of Tryz.func110 (by kernel_rfl) rfl)
  HIT.out (fun b hb => ⟨?dlt, rfl⟩) (Nat.le_refl _) (fun _ => rfl) (fun b => b = N + 2) (fun b hb => ⟨?clt, ?cnd⟩)
  (fun i Fq V => (xs.take i).any (saysAt f text) = false ∧ Fq (N + 2) ∧ V.heap[N + 2]? = some (.cells #[.bool false] 4 (0, 0)) ∧ Grows (fun b => b = N + 2) Fq w2 V)
  (fun c Fq V => c = .ret ∧ xs.any (saysAt f text) = true ∧ V.heap[N + 2]? = some (.cells #[.bool true] 4 (0, 0)) ∧ Grows (fun b => b = N + 2) Fq w2 V)
  ?sI ?sX ⟨rfl, rfl, HC2.out, Grows.refl _ _⟩
  (fun y => { tmps := #[Value.agg #[Value.iface 24 (Value.pointer (some ⟨t, 0, none⟩))], Value.int .i64 x, Value.string ⟨text.toArray⟩, Value.pointer (some ⟨N, 0, none⟩), undef, Value.pointer (some ⟨N + 1, 0, none⟩), Value.pointer (some ⟨N + 2, 0, none⟩), Value.int .i64 y, undef, Value.agg #[Value.iface 24 (Value.pointer (some ⟨t, 0, none⟩))], Value.int .i64 x, Value.func (.func 110) #[] #[Value.pointer (some ⟨w1.heap.size, 0, none⟩), Value.pointer (some ⟨w1.heap.size + 1, 0, none⟩)], Value.int .i64 y, undef, undef, undef, undef, undef, undef, undef, undef, undef, undef, undef, undef], defers := [] }) ?assign ?body ?done ?stop
 case dlt =>
  rcases hb with hb | rfl | rfl
  ·exact HT2.out.lt hb
  ·have := HZ2.out; omega
  ·have := HZ2.out; omega
 case clt => have := HZ2.out; have := HZ1.out; omega
 case cnd =>
  have := HZ1.out
  rintro (hm | hm | hm)
  ·have := HML.out _ hm; omega
  ·omega
  ·omega
 case sI =>
  rintro i Fq A B ⟨r1, r2, r3, r4⟩ hAB
  exact ⟨r1, r2, (Keep.block hAB (Array.getElem?_eq_some_iff.1 r3).1 (.inr r2)).trans r3, grows_keep r4 (Nat.le_refl _) hAB⟩
 case sX =>
  rintro c Fq A B ⟨r0, r1, r3, r4⟩ hAB
  exact ⟨r0, r1, (Keep.block hAB (Array.getElem?_eq_some_iff.1 r3).1 (.inl (by have := HZ2.out; have := HZ1.out; omega))).trans r3, grows_keep r4 (Nat.le_refl _) hAB⟩
 case assign =>
  intro l' y W' K hK
  dsimp only [encI]
  gi_wp2
  exact hK
 case body =>
  rintro l' i y Fq V hy ⟨r1, r2, r3, r4⟩ hV hF
  have hl2 : N + 3 ≤ w2.heap.size := by have := HZ2.out; have := HZ1.out; omega
  have htV : TreeM M t f next V := HT2.out.keep (fun b hb => r4.1.block b (HT2.out.lt hb) (fun e => by have := HML.out _ hb; omega)) r4.1.size
  have hyc : y ∈ 0 :: f.ids := kidsW_mem HI.out HX.out (by rw [hxs.out]; exact List.mem_of_getElem? hy)
  have hx' := (r4.1.block N (by omega) (by omega)).trans HX2.out
  have hy' := (r4.1.block (N + 1) (by omega) (by omega)).trans HY2.out
  have f1 := cell_row hx' 0 _ rfl
  unfold treeI at f1
  have HYV := Lib.hid hy'
  have HTV := Lib.hid htV
  have HYC := Lib.hid hyc
  have HR1 := Lib.hid r1
  have HR2 := Lib.hid r2
  have HR3 := Lib.hid r3
  have HR4 := Lib.hid r4
  have HFV := Lib.hid hF
  have HY := Lib.hid hy
  clear htV hyc hx' hy' r1 r2 r3 r4 hF hV hy hl2
  gi_wp2
  refine ⟨trivial, rfl, ?_⟩
  refine (callsIn_wide.2 (node_any HTV.out HYC.out)).mono ?_
  rintro e V3 ⟨A3, c3, rfl, _, hb3⟩
  obtain ⟨V4, hV4⟩ : ∃ V4, Hid (V4 = V3.alloc (.cells (nodeV f y A3 c3) 49)) := ⟨_, rfl⟩
  have hb34 : Below V3.heap.size V3 V4 := by rw [hV4.out]; exact (Below.refl _ V3).alloc (Nat.le_refl _) _
  have hb4 : Below V.heap.size V V4 := hb3.trans (hb34.mono hb3.size)
  have hn4 : V4.heap[V3.heap.size]? = some (.cells (nodeV f y A3 c3) 49 (0, 0)) := by rw [hV4.out]; exact heap_alloc_new V3 _
  obtain ⟨d, hd⟩ : ∃ d, Hid ((entW f y).d = d) := ⟨_, rfl⟩
  have hsa : saysAt f text y = (decide (d.kind = 2) && decide (d.text = text)) := by unfold saysAt; rw [hd.out]
  have HSA := Lib.hid hsa
  have HG4 : Hid (Grows (fun b => b = N + 2) Fq w2 V4) := HR4.out.trans (Grows.of_below hb4)
  have HG4' : Hid (Grows Fq Fq V V4) := Grows.of_below hb4
  have HC4 : Hid (V4.heap[N + 2]? = some (.cells #[.bool false] 4 (0, 0))) := (hb4.block _ (Array.getElem?_eq_some_iff.1 HR3.out).1).trans HR3.out
  have hty := (hb4.block _ (Array.getElem?_eq_some_iff.1 HYV.out).1).trans HYV.out
  have HF4 : Hid (∀ b, Fq b → b < V4.heap.size) := fun b hb => Nat.lt_of_lt_of_le (HFV.out b hb) hb4.size
  have g1 : V4.cell? ⟨V3.heap.size, 2, none⟩ = some (.int .i64 (entW f y).d.kind) := cell_row hn4 2 _ rfl
  have g2 : V4.cell? ⟨V3.heap.size, 5, none⟩ = some (.string ⟨(entW f y).d.text.toArray⟩) := cell_row hn4 5 _ rfl
  have g3 := cell_row hty 0 _ rfl
  have g4 := free_row HC4.out 0
  have g5 := cell_row HC4.out 0 _ rfl
  rw [hd.out] at g1 g2
  rw [hV4.out] at g1 g2 g3 g4 g5
  unfold nodeV nodeR strV at g1 g2 g3 g4 g5 hV4
  unfold nodeV nodeR strV
  rw [hd.out] at g1 g2 g3 g4 g5 hV4 ⊢
  clear hb3 hb34 hb4 hn4 hsa hty f1
  by_cases h1 : d.kind = 2
  ·rw [h1] at g1 g2 g3 g4 g5 hV4 ⊢
   by_cases h2 : d.text = text
   ·rw [h2] at g1 g2 g3 g4 g5 hV4 ⊢
    have hall : Hid (xs.any (saysAt f text) = true) := by
     show _ = _
     rw [List.any_eq_true]
     exact ⟨y, List.mem_of_getElem? HY.out, by rw [HSA.out]; simp [h1, h2]⟩
    gi_wp2
    rw [← hV4.out]
    exact ⟨Fq, ⟨HG4'.out.1.setCell (.inl HR2.out) _, fun b hb => .inl hb⟩, fun b hb => by simp; exact HF4.out b hb, rfl, hall.out, Lib.heap_setCell_same (i := 0) HC4.out _, HG4.out.1.setCell (.inl rfl) _, HG4.out.2⟩
   ·have b2 : (d.text == text) = false := by simpa using h2
    have hno : Hid ((xs.take (i + 1)).any (saysAt f text) = false) := by
     show _ = _
     rw [List.take_add_one, HY.out, List.any_append, HR1.out]
     simp [HSA.out, h2]
    gi_wp2
    rw [← hV4.out]
    exact ⟨Fq, HG4'.out, HF4.out, hno.out, HR2.out, HC4.out, HG4.out⟩
  ·have b1 : (d.kind == 2) = false := by simpa using h1
   have hno : Hid ((xs.take (i + 1)).any (saysAt f text) = false) := by
    show _ = _
    rw [List.take_add_one, HY.out, List.any_append, HR1.out]
    simp [HSA.out, h1]
   gi_wp2
   rw [← hV4.out]
   exact ⟨Fq, HG4'.out, HF4.out, hno.out, HR2.out, HC4.out, HG4.out⟩
 case stop =>
  rintro c W5 ⟨Fq, r1, r2, ⟨rfl, q1, q3, q4⟩, qn⟩ hK5
  have HQ1 := Lib.hid q1
  have HQ3 := Lib.hid q3
  have HQ4 := Lib.hid q4
  have HK5 := Lib.hid hK5
  clear r1 r2 q1 q3 q4 qn hK5
  gi_wp2
  refine marks_leave [w2.heap.size] W5 (by simp) (fun b hb => by simp at hb; subst hb; exact HK5.out) (fun w' hw' => ⟨_, results_cell1 Tryz.results89 _ _ (N + 2) (.bool true) _ rfl (cell_row ((hw'.block (N + 2) (Array.getElem?_eq_some_iff.1 HQ3.out).1 (fun hm => by simp at hm; have := HZ2.out; have := HZ1.out; omega)).trans HQ3.out) 0 _ rfl) Tryz.underlying4 rfl, ?_, ?_⟩)
  ·rw [show saysW f x text = (kidsW f x).any (saysAt f text) from rfl, hxs.out, HQ1.out]
  ·have hb := HB2.out
   have hs := hb.size
   have hn := hN.out
   refine ⟨hw'.os.trans (HQ4.out.1.os.trans hb.os), hw'.tape.trans (HQ4.out.1.tape.trans hb.tape), hw'.output.trans (HQ4.out.1.output.trans hb.output), by have := hw'.size; have := HQ4.out.1.size; omega, fun b hb' => ?_⟩
   exact (hw'.block b (by have := HQ4.out.1.size; omega) (fun hm => by simp at hm; omega)).trans ((HQ4.out.1.block b (by omega) (fun h => by omega)).trans (hb.block b hb'))
 case done =>
  rintro W5 ⟨Fq, r1, r2, ⟨q1, q2, q3, q4⟩, qn⟩ hK5
  rw [List.take_length] at q1
  have HQ1 := Lib.hid q1
  have HQ3 := Lib.hid q3
  have HQ4 := Lib.hid q4
  have HK5 := Lib.hid hK5
  have g5 := cell_row q3 0 _ rfl
  have g4 := free_row q3 0
  clear r1 r2 q1 q2 q3 q4 qn hK5
  gi_wp2
  have hne : w2.heap.size ≠ N + 2 := by have := HZ2.out; have := HZ1.out; omega
  have hx := Lib.heap_setCell_same (i := 0) HQ3.out (.bool false)
  refine marks_leave [w2.heap.size] _ (by simp) (fun b hb => by simp at hb; subst hb; exact (Below.heap_setCell _ _ _ _ hne).trans HK5.out) (fun w' hw' => ⟨_, results_cell1 Tryz.results89 _ _ (N + 2) (.bool false) _ rfl (cell_row ((hw'.block (N + 2) (by simp; exact (Array.getElem?_eq_some_iff.1 HQ3.out).1) (fun hm => by simp at hm; omega)).trans hx) 0 _ rfl) Tryz.underlying4 rfl, ?_, ?_⟩)
  ·rw [show saysW f x text = (kidsW f x).any (saysAt f text) from rfl, hxs.out, HQ1.out]
  ·have hb := HB2.out
   have hs := hb.size
   have hn := hN.out
   have h4 := HQ4.out.1.setCell (p := ⟨N + 2, 0, none⟩) (.inl rfl) (.bool false)
   have e9 : (W5.setCell ⟨N + 1 + 1, 0, none⟩ (.bool false)).heap.size = (W5.setCell ⟨N + 2, 0, none⟩ (.bool false)).heap.size := rfl
   refine ⟨hw'.os.trans (h4.os.trans hb.os), hw'.tape.trans (h4.tape.trans hb.tape), hw'.output.trans (h4.output.trans hb.output), by have := hw'.size; have := h4.size; omega, fun b hb' => ?_⟩
   exact (hw'.block b (by have := h4.size; omega) (fun hm => by simp at hm; omega)).trans ((h4.block b (by omega) (fun h => by omega)).trans (hb.block b hb'))
end
end
end Go.Proofs.YtcombcoilpmnkaaGreat
namespace Go.Proofs
open Go.Shelf Go.RowKit
def Tryz.laysW8_ren : Go.Shelf.Ren := ⟨fun | 6 => 116 | 8 => 90 | n => n, fun | 0 => 0 | 3 => 3 | 4 => 4 | 22 => 47 | 23 => 77 | 25 => 151 | n => n, fun | n => n⟩
theorem Tryz.laysW8 : Go.Proofs.SlLaysH0.n8 Tryz.prog Tryz.laysW8_ren := {
 mixed := by kernel_rfl
 f6 := ⟨ "slices.IndexFunc[[]incunable/api.Attr,incunable/api.Attr]", by decide, Tryz.func116.trans (congrArg some (by kernel_rfl))⟩
 f8 := ⟨ "slices.ContainsFunc[[]incunable/api.Attr,incunable/api.Attr]", by decide, Tryz.func90.trans (congrArg some (by kernel_rfl))⟩
 t0 := Tryz.underlying0
 a0 := Tryz.isAgg0
 z0 := Tryz.sizeOf0
 v0 := Tryz.zeroValue0
 t3 := Tryz.underlying3
 a3 := Tryz.isAgg3
 z3 := Tryz.sizeOf3
 v3 := Tryz.zeroValue3
 t4 := Tryz.underlying4
 a4 := Tryz.isAgg4
 z4 := Tryz.sizeOf4
 v4 := Tryz.zeroValue4
 t22 := Tryz.underlying47
 a22 := Tryz.isAgg47
 z22 := Tryz.sizeOf47
 v22 := Tryz.zeroValue47
 t25 := Tryz.underlying151
 a25 := Tryz.isAgg151
 z25 := Tryz.sizeOf151
 v25 := Tryz.zeroValue151 }
end Go.Proofs
namespace Go.Proofs.YtcombcoilpmnkaaGreat
set_option maxRecDepth 100000
set_option maxHeartbeats 16000000
section
open Go.RowKit Go.Shelf
attribute [local go_sem] Oper.semAt_some mGet mRoot mKid mOrder cGet cRoot cKid cOrder fNode1 fNode3 fNode6
def predV (p : PredD) : Array Value := #[.int .i64 p.kind, .int .i64 p.num, .string ⟨p.name.toArray⟩, .string ⟨p.value.toArray⟩]
theorem keeps1_any (p : PredD) (g : Nat) (w : World) (hg : w.heap[g]? = some (.cells (predV p) 102 (0, 0))) :
  PredBelow Tryz.prog 91 #[.pointer (some ⟨g, 0, none⟩)] (fun a : AttrD => .agg (cellsA a).toArray) (hasW p) w := fun W a hb => by
 have hgl := (Array.getElem?_eq_some_iff.1 hg).1
 have hgW := (hb.block g hgl).trans hg
 have hW : g < W.heap.size := (Array.getElem?_eq_some_iff.1 hgW).1
 obtain ⟨W1, hW1⟩ : ∃ W1, Hid (W1 = W.alloc (.cells #[.string ⟨a.name.toArray⟩, .string ⟨a.value.toArray⟩] 77)) := ⟨_, rfl⟩
 have hb1 : Below W.heap.size W W1 := by rw [hW1.out]; exact (Below.refl _ W).alloc (Nat.le_refl _) _
 have hx1 : W1.heap[W.heap.size]? = some (.cells #[.string ⟨a.name.toArray⟩, .string ⟨a.value.toArray⟩] 77 (0, 0)) := by rw [hW1.out]; exact heap_alloc_new W _
 have hp1 := (hb1.block g hW).trans hgW
 have c0 : W1.cell? ⟨g, 0, none⟩ = some (.int .i64 p.kind) := cell_row hp1 0 _ rfl
 have c2 : W1.cell? ⟨g, 2, none⟩ = some (.string ⟨p.name.toArray⟩) := cell_row hp1 2 _ rfl
 have c3 : W1.cell? ⟨g, 3, none⟩ = some (.string ⟨p.value.toArray⟩) := cell_row hp1 3 _ rfl
 have a0 : W1.cell? ⟨W.heap.size, 0, none⟩ = some (.string ⟨a.name.toArray⟩) := cell_row hx1 0 _ rfl
 have a1 : W1.cell? ⟨W.heap.size, 1, none⟩ = some (.string ⟨a.value.toArray⟩) := cell_row hx1 1 _ rfl
 have HB : Hid (Below w.heap.size w W1) := hb.trans (hb1.mono hb.size)
 clear hb hb1 hx1 hp1 hgW hgl hg
 show Calls Tryz.prog 91 #[.agg #[.string ⟨a.name.toArray⟩, .string ⟨a.value.toArray⟩], .pointer (some ⟨g, 0, none⟩)] W _
 unfold hasW
 by_cases h1 : a.name = p.name
 ·have b1 : (a.name == p.name) = true := by simpa using h1
  have H1 := Lib.hid h1
  clear h1
  by_cases h2 : p.kind = 3
  ·rw [h2] at c0
   have H2 := Lib.hid h2
   clear h2
   go_enter Tryz.func91, Tryz.ntmps91
   go_upto_region 1 with (fail)
   rw [← hW1.out]
   go_wp2_with fail
   go_ret
   exact ⟨by simp [H1.out, H2.out], HB.out⟩
  ·have b2 : (p.kind == 3) = false := by simpa using h2
   have H2 := Lib.hid h2
   clear h2
   go_enter Tryz.func91, Tryz.ntmps91
   go_upto_region 1 with (fail)
   rw [← hW1.out]
   go_wp2_with fail
   go_ret
   exact ⟨by simp [H1.out, H2.out, beq_dec], HB.out⟩
 ·have b1 : (a.name == p.name) = false := by simpa using h1
  go_enter Tryz.func91, Tryz.ntmps91
  go_upto_region 1 with (fail)
  rw [← hW1.out]
  go_wp2_with fail
  go_ret
  exact ⟨by simp [h1], HB.out⟩
theorem IndexA_none (p : Option Addr) (c : Nat) (fv : Value) (w : World) :
  Calls Tryz.prog 116 #[.slice p 0 c, fv] w fun e w' => e = .returned (.int .i64 (-1)) ∧ w = w' := by
 go_enter Tryz.func116, Tryz.ntmps116
 go_wp2_with fail
 refine wp_loop_rounds 1 ?_
 rw [rounds_succ]
 go_wp2_with fail
 go_ret
 exact ⟨rfl, rfl⟩
theorem ContainsA_none (p : Option Addr) (c : Nat) (fv : Value) (w : World) :
  Calls Tryz.prog 90 #[.slice p 0 c, fv] w fun e w' => e = .returned (.bool false) ∧ w = w' := by
 go_enter Tryz.func90, Tryz.ntmps90
 go_wp2_with fail
 refine (IndexA_none p c fv w).mono ?_
 rintro e w' ⟨rfl, rfl⟩
 go_wp2_with fail
 go_ret
 exact ⟨rfl, rfl⟩
theorem ContainsW_any (l : List AttrD) (A : Option Addr) (c B : Nat) (p : PredD) (g : Nat) (w : World) (hA : AttrsOwn w B A c l) (hl : l.length ≤ 1000) (hg : w.heap[g]? = some (.cells (predV p) 102 (0, 0))) :
  Calls Tryz.prog 90 #[.slice A l.length c, .func (.func 91) #[] #[.pointer (some ⟨g, 0, none⟩)]] w fun e w' => e = .returned (.bool (l.any (hasW p))) ∧ Below w.heap.size w w' := by
 cases l with
 | nil => exact (ContainsA_none A c _ w).mono fun e w' ⟨h1, h2⟩ => ⟨h1, by subst h2; exact Below.refl _ _⟩
 | cons a r =>
  obtain ⟨gb, rfl, _, hgb, _, hc⟩ := own_flat cellsA cellsA_length hA (by simp)
  have eg : ∀ args w, (callFunc 91 args).run Tryz.prog w = .ok (.enter 91 args) w := enters_of Tryz.func91 (by kernel_rfl) rfl
  have hcon := AnyQ.slices_ContainsFunc Tryz.laysW8 2 Tryz.isAgg77 Tryz.sizeOf77 cellsA cellsA_length (hasW p) 91 #[.pointer (some ⟨g, 0, none⟩)] eg gb 0 (a :: r).length c (a :: r) w (keeps1_any p g w hg) (Nat.le_refl _) (by omega) hgb (fun j hj i u hi => by
   have hj' : (a :: r)[j]? = some (a :: r)[j]! := by rw [List.getElem?_eq_getElem hj, getElem!_pos (a :: r) j hj]
   have := hc j _ i u hj' hi
   rw [add_zero_block] at this
   rw [Nat.zero_add]
   exact this)
  rw [List.take_length] at hcon
  exact hcon
section
variable {M : Nat → Prop} {t : Nat} {f : Fo} {next : Int} {w w' : World}
theorem keeps_any (h : TreeM M t f next w) {x : Int} (hx : x ∈ 0 :: f.ids) (p : PredD) (place many : Nat) (hpl : place ≤ 1000000) (hmn : many ≤ 1000000) :
  Calls Tryz.prog 59 #[.agg #[treeI t], .agg #[.int .i64 p.kind, .int .i64 p.num, .string ⟨p.name.toArray⟩, .string ⟨p.value.toArray⟩], .int .i64 x, .int .i64 (place : Int), .int .i64 (many : Int)] w (Ret w (.bool (keepsW f p x place many))) := by
 have HI := Lib.hid h.inv
 have HX := Lib.hid hx
 obtain ⟨W1, hW1⟩ : ∃ W1, Hid (W1 = (w.alloc (.cells #[.iface 24 (.pointer (some ⟨t, 0, none⟩))] 82)).alloc (.cells #[.int .i64 p.kind, .int .i64 p.num, .string ⟨p.name.toArray⟩, .string ⟨p.value.toArray⟩] 102)) := ⟨_, rfl⟩
 have hb1 : Below w.heap.size w W1 := by rw [hW1.out]; exact ((Below.refl _ w).alloc (Nat.le_refl _) _).alloc (by simp) _
 have hz1 : W1.heap.size = w.heap.size + 2 := by rw [hW1.out]; simp
 have HX1 : Hid (W1.heap[w.heap.size]? = some (.cells #[treeI t] 82 (0, 0))) := by
  show _ = _
  rw [hW1.out]
  exact (Below.heap_alloc _ _ _ (by simp)).trans (heap_alloc_new w _)
 have HY1 : Hid (W1.heap[w.heap.size + 1]? = some (.cells (predV p) 102 (0, 0))) := by
  show _ = _
  rw [hW1.out]
  have := heap_alloc_new (w.alloc (.cells #[.iface 24 (.pointer (some ⟨t, 0, none⟩))] 82)) (.cells #[.int .i64 p.kind, .int .i64 p.num, .string ⟨p.name.toArray⟩, .string ⟨p.value.toArray⟩] 102)
  unfold predV
  simpa using this
 have HB1 := Lib.hid hb1
 have HT1 := Lib.hid (h.below hb1)
 have c0 : W1.cell? ⟨w.heap.size + 1, 0, none⟩ = some (.int .i64 p.kind) := cell_row HY1.out 0 _ rfl
 have c1 : W1.cell? ⟨w.heap.size + 1, 1, none⟩ = some (.int .i64 p.num) := cell_row HY1.out 1 _ rfl
 have c3 : W1.cell? ⟨w.heap.size + 1, 3, none⟩ = some (.string ⟨p.value.toArray⟩) := cell_row HY1.out 3 _ rfl
 have f1 := cell_row HX1.out 0 _ rfl
 have p0 : (0 : Int) ≤ (place : Int) := by omega
 have p1 : (place : Int) ≤ 1000000 := by omega
 have m0 : (0 : Int) ≤ (many : Int) := by omega
 have m1 : (many : Int) ≤ 1000000 := by omega
 unfold treeI at f1 ⊢
 clear h hx hb1 hz1 hpl hmn
 unfold keepsW
 by_cases h1 : p.kind = 1
 ·rw [if_pos h1]
  rw [h1] at c0
  clear h1
  go_enter Tryz.func59, Tryz.ntmps59
  go_upto_region 1 with (fail)
  rw [← hW1.out]
  go_wp2_with fail
  go_ret
  exact ⟨by first | rfl | simp, HB1.out⟩
 rw [if_neg h1]
 have b1 : (p.kind == 1) = false := by simpa using h1
 by_cases h2 : p.kind = 2
 ·rw [if_pos h2]
  rw [h2] at c0 b1
  clear h2 h1
  go_enter Tryz.func59, Tryz.ntmps59
  go_upto_region 1 with (fail)
  rw [← hW1.out]
  go_wp2_with fail
  go_ret
  exact ⟨by first | rfl | simp, HB1.out⟩
 rw [if_neg h2]
 have b2 : (p.kind == 2) = false := by simpa using h2
 by_cases h5 : p.kind = 5
 ·rw [if_pos h5]
  rw [h5] at c0 b1 b2
  clear h5 h2 h1
  go_enter Tryz.func59, Tryz.ntmps59
  go_upto_region 1 with (fail)
  rw [← hW1.out]
  go_wp2_with fail
  refine (says_any HT1.out HX.out p.value).mono ?_
  rintro e w2 ⟨rfl, hb2⟩
  have HB2 : Hid (Below w.heap.size w w2) := HB1.out.trans (hb2.mono HB1.out.size)
  clear hb2
  go_wp2_with fail
  go_ret
  exact ⟨rfl, HB2.out⟩
 rw [if_neg h5]
 have b5 : (p.kind == 5) = false := by simpa using h5
 go_enter Tryz.func59, Tryz.ntmps59
 go_upto_region 1 with (fail)
 rw [← hW1.out]
 go_wp2_with fail
 refine (node_any HT1.out HX.out).mono ?_
 rintro e w2 ⟨A, c, rfl, hown, hb2⟩
 have HB2 : Hid (Below w.heap.size w w2) := HB1.out.trans (hb2.mono HB1.out.size)
 have HP2 : Hid (w2.heap[w.heap.size + 1]? = some (.cells (predV p) 102 (0, 0))) := (hb2.block _ (Array.getElem?_eq_some_iff.1 HY1.out).1).trans HY1.out
 have HOWN := Lib.hid hown
 have hal : (entW f x).d.attrs.length ≤ 20 := by
  rcases List.mem_cons.1 HX.out with rfl | hm
  ·rw [entW_eq (gW_zero f)]; exact Nat.zero_le _
  ·exact HI.out.attrs x _ (ent_of HI.out hm).2
 have HAL := Lib.hid hal
 clear hb2 hown hal
 unfold nodeV nodeR strV
 go_wp2_with fail
 refine (ContainsW_any _ A c W1.heap.size p (w.heap.size + 1) w2 HOWN.out (by have := HAL.out; omega) HP2.out).mono ?_
 rintro e w3 ⟨rfl, hb3⟩
 have HB3 : Hid (Below w.heap.size w w3) := HB2.out.trans (hb3.mono HB2.out.size)
 clear hb3
 go_wp2_with fail
 go_ret
 exact ⟨rfl, HB3.out⟩
end
end
end Go.Proofs.YtcombcoilpmnkaaGreat
namespace Go.Proofs
open Go.Shelf Go.RowKit
def Tryz.lays137_ren : Go.Shelf.Ren := ⟨fun | 137 => 140 | 217 => 145 | 266 => 150 | n => n, fun | 3 => 3 | 5 => 5 | 9 => 9 | n => n, fun | n => n⟩
theorem Tryz.lays137 : Go.Proofs.Lays.n137 Tryz.prog Tryz.lays137_ren := {
 mixed := by kernel_rfl
 f137 := Tryz.func140.trans (congrArg some (by kernel_rfl))
 f217 := Tryz.func145.trans (congrArg some (by kernel_rfl))
 f266 := Tryz.func150.trans (congrArg some (by kernel_rfl))
 t3 := Tryz.underlying3
 a3 := Tryz.isAgg3
 z3 := Tryz.sizeOf3
 v3 := Tryz.zeroValue3
 t5 := Tryz.underlying5
 a5 := Tryz.isAgg5
 z5 := Tryz.sizeOf5
 v5 := Tryz.zeroValue5
 t9 := Tryz.underlying9
 a9 := Tryz.isAgg9
 z9 := Tryz.sizeOf9
 v9 := Tryz.zeroValue9 }
theorem Tryz.strings_IndexByte (s : ByteArray) (c : Int) (w : World) :
  Calls Tryz.prog 140 #[.string s, .int .u8 c] w fun e w' => e = .returned (.int .i64 (Lib.indexByte s.data.toList c.toNat.toUInt8)) ∧ w' = w := Any.strings_IndexByte Tryz.lays137 s c w
end Go.Proofs
namespace Go.Proofs.YtcombcoilpmnkaaGreat
set_option maxRecDepth 100000
set_option maxHeartbeats 16000000
end Go.Proofs.YtcombcoilpmnkaaGreat
namespace Go.Proofs
open Go.Shelf Go.RowKit
def Tryz.lays99_ren : Go.Shelf.Ren := ⟨fun | 99 => 119 | 206 => 130 | n => n, fun | 3 => 3 | 4 => 4 | 9 => 9 | n => n, fun | n => n⟩
theorem Tryz.lays99 : Go.Proofs.Lays.n99 Tryz.prog Tryz.lays99_ren := {
 mixed := by kernel_rfl
 f99 := Tryz.func119.trans (congrArg some (by kernel_rfl))
 f206 := Tryz.func130.trans (congrArg some (by kernel_rfl))
 t3 := Tryz.underlying3
 a3 := Tryz.isAgg3
 z3 := Tryz.sizeOf3
 v3 := Tryz.zeroValue3
 t4 := Tryz.underlying4
 a4 := Tryz.isAgg4
 z4 := Tryz.sizeOf4
 v4 := Tryz.zeroValue4
 t9 := Tryz.underlying9
 a9 := Tryz.isAgg9
 z9 := Tryz.sizeOf9
 v9 := Tryz.zeroValue9 }
theorem Tryz.strings_HasPrefix (s p : ByteArray) (w : World) :
  Calls Tryz.prog 119 #[.string s, .string p] w fun e w' => e = .returned (.bool (Lib.hasPrefix s.data.toList p.data.toList)) ∧ w' = w := Any.strings_HasPrefix Tryz.lays99 s p w
end Go.Proofs
namespace Go.Proofs.YtcombcoilpmnkaaGreat
set_option maxRecDepth 100000
set_option maxHeartbeats 16000000
section
open Go.RowKit
theorem digit_any (x base : Int) (w : World) (h0 : 0 ≤ x) (h1 : x < 256) :
  Calls Tryz.prog 152 #[.int .u8 x, .int .i32 base] w fun e w' => e = .returned (.int .i32 (digitV base x)) ∧ w = w' := by
 go_enter Tryz.func152, Tryz.ntmps152
 go_wp2
 all_goals go_ret
 all_goals (refine ⟨ret_int ?_, rfl⟩)
 all_goals (unfold digitV; repeat (first | omega | split))
theorem digit_as (x base : Int) (w : World) (h0 : 0 ≤ x) (h1 : x < 256) (d : Int) (h : Hid (digitV base x = d)) :
  Calls Tryz.prog 152 #[.int .u8 x, .int .i32 base] w fun e w' => e = .returned (.int .i32 d) ∧ w = w' := by
 have := digit_any x base w h0 h1
 rw [h.out] at this
 exact this
theorem isPrefixOf_pre : ∀ (p l : List UInt8), p.isPrefixOf l = pre p l
 | [], l => by cases l <;> rfl
 | a :: p, [] => rfl
 | a :: p, b :: l => by
  have ih := isPrefixOf_pre p l
  have e : pre (a :: p) (b :: l) = ((b == a) && pre p l) := by
   unfold pre; rw [List.length_cons, List.take_succ_cons]; exact List.cons_beq_cons
  rw [e, ← ih, List.isPrefixOf]
  congr 1
  rw [Bool.eq_iff_iff, beq_iff_eq, beq_iff_eq]; exact eq_comm
theorem hasPrefix_pre (s : ByteArray) (p : List UInt8) (w : World) :
  Calls Tryz.prog 119 #[.string s, .string ⟨p.toArray⟩] w fun e w' => e = .returned (.bool (pre p s.data.toList)) ∧ w = w' := by
 refine (Tryz.strings_HasPrefix s ⟨p.toArray⟩ w).mono ?_
 rintro e w' ⟨rfl, rfl⟩
 exact ⟨ret_bool (isPrefixOf_pre _ _), rfl⟩
theorem reference_0 (s : ByteArray) (w : World) (h0 : pre [38, 97, 109, 112, 59] s.data.toList = true) :
  Calls Tryz.prog 146 #[.string s] w (Ret w (.tuple #[.int .i32 38, .int .i64 5])) := by
 go_enter Tryz.func146, Tryz.ntmps146
 go_wp2
 go_step3
 go_wp2
 refine wp_loop_rounds 6 ?_
 rw [rounds_succ]
 go_wp2_with (first | (go_at_call 119; refine (hasPrefix_pre _ _ _).mono ?_; rintro e w' ⟨rfl, rfl⟩) | go_in)
 rw [Exit.noGoto_ret]
 go_ret2
 exact ⟨rfl, (Below.refl _ _).alloc (Nat.le_refl _) _⟩
theorem reference_1 (s : ByteArray) (w : World) (h0 : pre [38, 97, 109, 112, 59] s.data.toList = false) (h1 : pre [38, 108, 116, 59] s.data.toList = true) :
  Calls Tryz.prog 146 #[.string s] w (Ret w (.tuple #[.int .i32 60, .int .i64 4])) := by
 go_enter Tryz.func146, Tryz.ntmps146
 go_wp2
 go_step3
 go_wp2
 refine wp_loop_rounds 6 ?_
 rw [rounds_succ]
 go_wp2_with (first | (go_at_call 119; refine (hasPrefix_pre _ _ _).mono ?_; rintro e w' ⟨rfl, rfl⟩) | go_in)
 rw [rounds_succ]
 go_wp2_with (first | (go_at_call 119; refine (hasPrefix_pre _ _ _).mono ?_; rintro e w' ⟨rfl, rfl⟩) | go_in)
 rw [Exit.noGoto_ret]
 go_ret2
 exact ⟨rfl, (Below.refl _ _).alloc (Nat.le_refl _) _⟩
theorem reference_2 (s : ByteArray) (w : World) (h0 : pre [38, 97, 109, 112, 59] s.data.toList = false) (h1 : pre [38, 108, 116, 59] s.data.toList = false) (h2 : pre [38, 103, 116, 59] s.data.toList = true) :
  Calls Tryz.prog 146 #[.string s] w (Ret w (.tuple #[.int .i32 62, .int .i64 4])) := by
 go_enter Tryz.func146, Tryz.ntmps146
 go_wp2
 go_step3
 go_wp2
 refine wp_loop_rounds 6 ?_
 rw [rounds_succ]
 go_wp2_with (first | (go_at_call 119; refine (hasPrefix_pre _ _ _).mono ?_; rintro e w' ⟨rfl, rfl⟩) | go_in)
 rw [rounds_succ]
 go_wp2_with (first | (go_at_call 119; refine (hasPrefix_pre _ _ _).mono ?_; rintro e w' ⟨rfl, rfl⟩) | go_in)
 rw [rounds_succ]
 go_wp2_with (first | (go_at_call 119; refine (hasPrefix_pre _ _ _).mono ?_; rintro e w' ⟨rfl, rfl⟩) | go_in)
 rw [Exit.noGoto_ret]
 go_ret2
 exact ⟨rfl, (Below.refl _ _).alloc (Nat.le_refl _) _⟩
theorem reference_3 (s : ByteArray) (w : World) (h0 : pre [38, 97, 109, 112, 59] s.data.toList = false) (h1 : pre [38, 108, 116, 59] s.data.toList = false) (h2 : pre [38, 103, 116, 59] s.data.toList = false) (h3 : pre [38, 113, 117, 111, 116, 59] s.data.toList = true) :
  Calls Tryz.prog 146 #[.string s] w (Ret w (.tuple #[.int .i32 34, .int .i64 6])) := by
 go_enter Tryz.func146, Tryz.ntmps146
 go_wp2
 go_step3
 go_wp2
 refine wp_loop_rounds 6 ?_
 rw [rounds_succ]
 go_wp2_with (first | (go_at_call 119; refine (hasPrefix_pre _ _ _).mono ?_; rintro e w' ⟨rfl, rfl⟩) | go_in)
 rw [rounds_succ]
 go_wp2_with (first | (go_at_call 119; refine (hasPrefix_pre _ _ _).mono ?_; rintro e w' ⟨rfl, rfl⟩) | go_in)
 rw [rounds_succ]
 go_wp2_with (first | (go_at_call 119; refine (hasPrefix_pre _ _ _).mono ?_; rintro e w' ⟨rfl, rfl⟩) | go_in)
 rw [rounds_succ]
 go_wp2_with (first | (go_at_call 119; refine (hasPrefix_pre _ _ _).mono ?_; rintro e w' ⟨rfl, rfl⟩) | go_in)
 rw [Exit.noGoto_ret]
 go_ret2
 exact ⟨rfl, (Below.refl _ _).alloc (Nat.le_refl _) _⟩
theorem reference_4 (s : ByteArray) (w : World) (h0 : pre [38, 97, 109, 112, 59] s.data.toList = false) (h1 : pre [38, 108, 116, 59] s.data.toList = false) (h2 : pre [38, 103, 116, 59] s.data.toList = false) (h3 : pre [38, 113, 117, 111, 116, 59] s.data.toList = false) (h4 : pre [38, 97, 112, 111, 115, 59] s.data.toList = true) :
  Calls Tryz.prog 146 #[.string s] w (Ret w (.tuple #[.int .i32 39, .int .i64 6])) := by
 go_enter Tryz.func146, Tryz.ntmps146
 go_wp2
 go_step3
 go_wp2
 refine wp_loop_rounds 6 ?_
 rw [rounds_succ]
 go_wp2_with (first | (go_at_call 119; refine (hasPrefix_pre _ _ _).mono ?_; rintro e w' ⟨rfl, rfl⟩) | go_in)
 rw [rounds_succ]
 go_wp2_with (first | (go_at_call 119; refine (hasPrefix_pre _ _ _).mono ?_; rintro e w' ⟨rfl, rfl⟩) | go_in)
 rw [rounds_succ]
 go_wp2_with (first | (go_at_call 119; refine (hasPrefix_pre _ _ _).mono ?_; rintro e w' ⟨rfl, rfl⟩) | go_in)
 rw [rounds_succ]
 go_wp2_with (first | (go_at_call 119; refine (hasPrefix_pre _ _ _).mono ?_; rintro e w' ⟨rfl, rfl⟩) | go_in)
 rw [rounds_succ]
 go_wp2_with (first | (go_at_call 119; refine (hasPrefix_pre _ _ _).mono ?_; rintro e w' ⟨rfl, rfl⟩) | go_in)
 rw [Exit.noGoto_ret]
 go_ret2
 exact ⟨rfl, (Below.refl _ _).alloc (Nat.le_refl _) _⟩
theorem reference_none (s : ByteArray) (w : World) (h0 : pre [38, 97, 109, 112, 59] s.data.toList = false) (h1 : pre [38, 108, 116, 59] s.data.toList = false) (h2 : pre [38, 103, 116, 59] s.data.toList = false) (h3 : pre [38, 113, 117, 111, 116, 59] s.data.toList = false) (h4 : pre [38, 97, 112, 111, 115, 59] s.data.toList = false) (h5 : pre [38, 35] s.data.toList = false) :
  Calls Tryz.prog 146 #[.string s] w (Ret w (.tuple #[.int .i32 0, .int .i64 0])) := by
 go_enter Tryz.func146, Tryz.ntmps146
 go_wp2
 refine wp_scope_jumps 0 (fun a' w' => a'.defers = [] ∧ a'.tmps.size = 68 ∧ Below w.heap.size w w') (fun _ _ => 0) rfl ?_ ?_
 ·go_wp2
  refine wp_loop_rounds 6 ?_
  rw [rounds_succ]
  go_wp2_with (first | (go_at_call 119; refine (hasPrefix_pre _ _ _).mono ?_; rintro e w' ⟨rfl, rfl⟩) | go_in)
  rw [rounds_succ]
  go_wp2_with (first | (go_at_call 119; refine (hasPrefix_pre _ _ _).mono ?_; rintro e w' ⟨rfl, rfl⟩) | go_in)
  rw [rounds_succ]
  go_wp2_with (first | (go_at_call 119; refine (hasPrefix_pre _ _ _).mono ?_; rintro e w' ⟨rfl, rfl⟩) | go_in)
  rw [rounds_succ]
  go_wp2_with (first | (go_at_call 119; refine (hasPrefix_pre _ _ _).mono ?_; rintro e w' ⟨rfl, rfl⟩) | go_in)
  rw [rounds_succ]
  go_wp2_with (first | (go_at_call 119; refine (hasPrefix_pre _ _ _).mono ?_; rintro e w' ⟨rfl, rfl⟩) | go_in)
  rw [rounds_succ]
  go_wp2_with (first | (go_at_call 119; refine (hasPrefix_pre _ _ _).mono ?_; rintro e w' ⟨rfl, rfl⟩) | go_in)
  go_step3
  refine ⟨rfl, rfl, rfl, (Below.refl _ _).alloc (Nat.le_refl _) _⟩
 ·rintro ⟨tmps, defers⟩ w' ⟨rfl, hsz, hb⟩
  simp only at hsz
  go_wp2
  simp only [Exit.jump]
  go_ret2
  exact ⟨by simp [hsz], hb⟩
theorem reference_ten (s : ByteArray) (w : World) (_hs : s.size ≤ maxLen) (h0 : pre [38, 97, 109, 112, 59] s.data.toList = false) (h1 : pre [38, 108, 116, 59] s.data.toList = false) (h2 : pre [38, 103, 116, 59] s.data.toList = false) (h3 : pre [38, 113, 117, 111, 116, 59] s.data.toList = false) (h4 : pre [38, 97, 112, 111, 115, 59] s.data.toList = false) (h5 : pre [38, 35] s.data.toList = true) (h6 : pre [38, 35, 120] s.data.toList = false) (hat : 2 ≤ s.size) (V : Int × Nat) (hV : Hid (V = pick 2 (scanL 10 0 0 (s.data.toList.drop 2)))) :
  Calls Tryz.prog 146 #[.string s] w (Ret w (.tuple #[.int .i32 V.1, .int .i64 (V.2 : Nat)])) := by
 unfold maxLen at _hs
 have hl := size_toList s
 have HL := Lib.hid hl
 clear hl
 have H0 := Lib.hid h0; have H1 := Lib.hid h1
 go_enter Tryz.func146, Tryz.ntmps146
 go_wp2
 refine wp_scope_jumps 0 (fun a' w' => a'.defers = [] ∧ a'.tmps.size = 68 ∧ Below w.heap.size w w' ∧ V = (0, 0)) (fun _ _ => 0) rfl ?_ ?_
 ·go_wp2
  refine wp_loop_rounds 6 ?_
  rw [rounds_succ]
  go_wp2_with (first | (go_at_call 119; refine (hasPrefix_pre _ _ _).mono ?_; rintro e w' ⟨rfl, rfl⟩) | go_in)
  rw [rounds_succ]
  go_wp2_with (first | (go_at_call 119; refine (hasPrefix_pre _ _ _).mono ?_; rintro e w' ⟨rfl, rfl⟩) | go_in)
  rw [rounds_succ]
  go_wp2_with (first | (go_at_call 119; refine (hasPrefix_pre _ _ _).mono ?_; rintro e w' ⟨rfl, rfl⟩) | go_in)
  rw [rounds_succ]
  go_wp2_with (first | (go_at_call 119; refine (hasPrefix_pre _ _ _).mono ?_; rintro e w' ⟨rfl, rfl⟩) | go_in)
  rw [rounds_succ]
  go_wp2_with (first | (go_at_call 119; refine (hasPrefix_pre _ _ _).mono ?_; rintro e w' ⟨rfl, rfl⟩) | go_in)
  rw [rounds_succ]
  go_wp2_with (first | (go_at_call 119; refine (hasPrefix_pre _ _ _).mono ?_; rintro e w' ⟨rfl, rfl⟩) | go_in)
  go_loop [4, 10] (fun c i => ∃ (k : Nat) (cv : Int), k ≤ 7 ∧ 2 + k ≤ s.size ∧ i = .int .i64 ((2 + k : Nat) : Int) ∧ c = .int .i32 cv ∧ 0 ≤ cv ∧ cv < 16 ^ k ∧ Hid (V = pick 2 (scanL 10 k cv (s.data.toList.drop (2 + k))))) (fun _ i => s.size - (intOf i).toNat)
  case atStart => exact ⟨0, 0, by omega, by omega, rfl, rfl, by omega, by decide, hV⟩
  case round =>
   obtain ⟨k, cv, hk7, hks, rfl, rfl, hc0, hc1, hsc⟩ := hrel
   have hp16 : (16 : Int) ^ k ≤ 268435456 := by
    rcases (by omega : k = 0 ∨ k = 1 ∨ k = 2 ∨ k = 3 ∨ k = 4 ∨ k = 5 ∨ k = 6 ∨ k = 7) with rfl | rfl | rfl | rfl | rfl | rfl | rfl | rfl <;> decide
   have hp6 : k < 7 → (16 : Int) ^ k ≤ 16777216 := by
    intro h
    rcases (by omega : k = 0 ∨ k = 1 ∨ k = 2 ∨ k = 3 ∨ k = 4 ∨ k = 5 ∨ k = 6) with rfl | rfl | rfl | rfl | rfl | rfl | rfl <;> decide
   have hcv : cv < 268435456 := by omega
   have hcv6 : k < 7 → cv < 16777216 := fun h => by have := hp6 h; omega
   have HC1 := Lib.hid hc1
   have HC6 := Lib.hid hcv6
   clear hc1 hp16 hp6 hcv6
   by_cases hend : s.size ≤ 2 + k
   ·have hv : Hid (V = (0, 0)) := by
     have : s.data.toList.drop (2 + k) = [] := List.drop_eq_nil_of_le (by have := HL.out; omega)
     show _ = _
     rw [hsc.out, this]; rfl
    go_wp2_with fail
    go_step3
    go_wp2_with fail
    simp only [Exit.jump]
    go_ret2
    exact ⟨by rw [hv.out]; rfl, (Below.refl _ _).alloc (Nat.le_refl _) _⟩
   ·have hj : 2 + k < s.size := by omega
    obtain ⟨x, HX⟩ : ∃ x, Hid (s.data.toList[2 + k]? = some x) := ⟨s.data.toList[2 + k]'(by have := HL.out; omega), List.getElem?_eq_getElem _⟩
    have hsx : s[2 + k] = x := getk_of s (2 + k) x HX.out hj
    have hdr : s.data.toList.drop (2 + k) = x :: s.data.toList.drop (2 + k + 1) := by
     have hj' : 2 + k < s.data.toList.length := by have := HL.out; omega
     have hg := HX.out
     rw [List.getElem?_eq_getElem hj'] at hg
     rw [List.drop_eq_getElem_cons hj', Option.some.inj hg]
    have HDR := Lib.hid hdr
    clear hdr
    have hx1 : (x.toNat : Int) < 256 := by have := x.toNat_lt; omega
    have hxe : (x = 59) ↔ (x.toNat : Int) = 59 := by
     constructor
     ·rintro rfl; rfl
     ·intro h; exact UInt8.toNat_inj.1 (by have : (59 : UInt8).toNat = 59 := rfl; omega)
    have HXE := Lib.hid hxe
    clear hxe
    by_cases hA : (x.toNat : Int) = 59 ∧ 0 < k
    ·obtain ⟨hA1, hA2⟩ := hA
     have hv : Hid (V = (cv, 2 + k + 1)) := by
      show _ = _
      rw [hsc.out, HDR.out]
      simp only [scanL]
      rw [if_pos ⟨HXE.out.2 hA1, hA2⟩]; rfl
     have hx59 : ((x.toNat : Int) == 59) = true := by simp [hA1]
     clear hA1
     go_wp2_with fail
     simp only [Exit.jump]
     go_ret2
     exact ⟨by rw [hv.out]; exact ret_ii rfl (by omega), (Below.refl _ _).alloc (Nat.le_refl _) _⟩
    ·have hcond : ¬ (x = 59 ∧ 0 < k) := fun h => hA ⟨HXE.out.1 h.1, h.2⟩
     have hstep : scanL 10 k cv (s.data.toList.drop (2 + k)) = if digitV 10 x.toNat < 0 ∨ 7 ≤ k then none else scanL 10 (k + 1) (cv * 10 + digitV 10 x.toNat) (s.data.toList.drop (2 + k + 1)) := by
      rw [HDR.out]; simp only [scanL]; rw [if_neg hcond]
     have hdb := digitV_bd 10 x.toNat
     have h59d : (x.toNat : Int) = 59 → digitV 10 x.toNat = -1 := fun h => by rw [h]; decide
     generalize hdv : digitV 10 x.toNat = dv at *
     have HDV := Lib.hid hdv
     clear hdv hcond
     obtain ⟨hdb0, hdb1⟩ := hdb
     have HS := Lib.hid hstep
     clear hstep
     by_cases hB : dv < 0 ∨ 7 ≤ k
     ·have hv : Hid (V = (0, 0)) := by
       show _ = _
       rw [hsc.out, HS.out, if_pos hB]; rfl
      by_cases h59 : (x.toNat : Int) = 59
      ·have hk0 : k ≤ 0 := by omega
       have hdv1 := h59d h59
       have hx59 : ((x.toNat : Int) == 59) = true := by simp [h59]
       have hlt0 : dv < 0 := by omega
       clear h59 h59d hA hdv1 hB
       go_wp2_with (go_at_call 152; refine (digit_as _ _ _ (by omega) (by omega) dv HDV).mono ?_; rintro e w' ⟨rfl, rfl⟩)
       go_step3
       exact ⟨rfl, rfl, rfl, (Below.refl _ _).alloc (Nat.le_refl _) _, hv.out⟩
      ·have hx59 : ((x.toNat : Int) == 59) = false := by simp [h59]
       clear h59 h59d hA
       by_cases hlt0 : dv < 0
       ·clear hB
        go_wp2_with (go_at_call 152; refine (digit_as _ _ _ (by omega) (by omega) dv HDV).mono ?_; rintro e w' ⟨rfl, rfl⟩)
        go_step3
        exact ⟨rfl, rfl, rfl, (Below.refl _ _).alloc (Nat.le_refl _) _, hv.out⟩
       ·have h7 : 7 ≤ k := by omega
        clear hB
        go_wp2_with (go_at_call 152; refine (digit_as _ _ _ (by omega) (by omega) dv HDV).mono ?_; rintro e w' ⟨rfl, rfl⟩)
        go_step3
        exact ⟨rfl, rfl, rfl, (Below.refl _ _).alloc (Nat.le_refl _) _, hv.out⟩
     ·have hlt0 : 0 ≤ dv := by omega
      have hk7 : k < 7 := by omega
      have hcv7 := HC6.out hk7
      have hpw : cv * 10 + dv < 16 ^ (k + 1) := by
       have := HC1.out
       rw [Int.pow_succ]; omega
      have HPW := Lib.hid hpw
      have hsn : Hid (V = pick 2 (scanL 10 (k + 1) (cv * 10 + dv) (s.data.toList.drop (2 + k + 1)))) := by
       show _ = _
       rw [hsc.out, HS.out, if_neg hB]
      clear hpw hB
      by_cases h59 : (x.toNat : Int) = 59
      ·have := h59d h59
       omega
      ·have hx59 : ((x.toNat : Int) == 59) = false := by simp [h59]
       clear h59 h59d hA
       go_wp2_with (go_at_call 152; refine (digit_as _ _ _ (by omega) (by omega) dv HDV).mono ?_; rintro e w' ⟨rfl, rfl⟩)
       go_round
       case rel => exact ⟨k + 1, cv * 10 + dv, by omega, by omega, by go_num, rfl, by omega, HPW.out, hsn⟩
       case measure => simp [intOf]; omega
 ·rintro ⟨tmps, defers⟩ w' ⟨rfl, hsz, hb, hv⟩
  simp only at hsz
  subst hv
  go_wp2
  simp only [Exit.jump]
  go_ret2
  exact ⟨by simp [hsz], hb⟩
theorem reference_hex (s : ByteArray) (w : World) (_hs : s.size ≤ maxLen) (h0 : pre [38, 97, 109, 112, 59] s.data.toList = false) (h1 : pre [38, 108, 116, 59] s.data.toList = false) (h2 : pre [38, 103, 116, 59] s.data.toList = false) (h3 : pre [38, 113, 117, 111, 116, 59] s.data.toList = false) (h4 : pre [38, 97, 112, 111, 115, 59] s.data.toList = false) (h5 : pre [38, 35] s.data.toList = true) (h6 : pre [38, 35, 120] s.data.toList = true) (hat : 3 ≤ s.size) (V : Int × Nat) (hV : Hid (V = pick 3 (scanL 16 0 0 (s.data.toList.drop 3)))) :
  Calls Tryz.prog 146 #[.string s] w (Ret w (.tuple #[.int .i32 V.1, .int .i64 (V.2 : Nat)])) := by
 unfold maxLen at _hs
 have hl := size_toList s
 have HL := Lib.hid hl
 clear hl
 have H0 := Lib.hid h0; have H1 := Lib.hid h1
 go_enter Tryz.func146, Tryz.ntmps146
 go_wp2
 refine wp_scope_jumps 0 (fun a' w' => a'.defers = [] ∧ a'.tmps.size = 68 ∧ Below w.heap.size w w' ∧ V = (0, 0)) (fun _ _ => 0) rfl ?_ ?_
 ·go_wp2
  refine wp_loop_rounds 6 ?_
  rw [rounds_succ]
  go_wp2_with (first | (go_at_call 119; refine (hasPrefix_pre _ _ _).mono ?_; rintro e w' ⟨rfl, rfl⟩) | go_in)
  rw [rounds_succ]
  go_wp2_with (first | (go_at_call 119; refine (hasPrefix_pre _ _ _).mono ?_; rintro e w' ⟨rfl, rfl⟩) | go_in)
  rw [rounds_succ]
  go_wp2_with (first | (go_at_call 119; refine (hasPrefix_pre _ _ _).mono ?_; rintro e w' ⟨rfl, rfl⟩) | go_in)
  rw [rounds_succ]
  go_wp2_with (first | (go_at_call 119; refine (hasPrefix_pre _ _ _).mono ?_; rintro e w' ⟨rfl, rfl⟩) | go_in)
  rw [rounds_succ]
  go_wp2_with (first | (go_at_call 119; refine (hasPrefix_pre _ _ _).mono ?_; rintro e w' ⟨rfl, rfl⟩) | go_in)
  rw [rounds_succ]
  go_wp2_with (first | (go_at_call 119; refine (hasPrefix_pre _ _ _).mono ?_; rintro e w' ⟨rfl, rfl⟩) | go_in)
  go_loop [4, 10] (fun c i => ∃ (k : Nat) (cv : Int), k ≤ 7 ∧ 3 + k ≤ s.size ∧ i = .int .i64 ((3 + k : Nat) : Int) ∧ c = .int .i32 cv ∧ 0 ≤ cv ∧ cv < 16 ^ k ∧ Hid (V = pick 3 (scanL 16 k cv (s.data.toList.drop (3 + k))))) (fun _ i => s.size - (intOf i).toNat)
  case atStart => exact ⟨0, 0, by omega, by omega, rfl, rfl, by omega, by decide, hV⟩
  case round =>
   obtain ⟨k, cv, hk7, hks, rfl, rfl, hc0, hc1, hsc⟩ := hrel
   have hp16 : (16 : Int) ^ k ≤ 268435456 := by
    rcases (by omega : k = 0 ∨ k = 1 ∨ k = 2 ∨ k = 3 ∨ k = 4 ∨ k = 5 ∨ k = 6 ∨ k = 7) with rfl | rfl | rfl | rfl | rfl | rfl | rfl | rfl <;> decide
   have hp6 : k < 7 → (16 : Int) ^ k ≤ 16777216 := by
    intro h
    rcases (by omega : k = 0 ∨ k = 1 ∨ k = 2 ∨ k = 3 ∨ k = 4 ∨ k = 5 ∨ k = 6) with rfl | rfl | rfl | rfl | rfl | rfl | rfl <;> decide
   have hcv : cv < 268435456 := by omega
   have hcv6 : k < 7 → cv < 16777216 := fun h => by have := hp6 h; omega
   have HC1 := Lib.hid hc1
   have HC6 := Lib.hid hcv6
   clear hc1 hp16 hp6 hcv6
   by_cases hend : s.size ≤ 3 + k
   ·have hv : Hid (V = (0, 0)) := by
     have : s.data.toList.drop (3 + k) = [] := List.drop_eq_nil_of_le (by have := HL.out; omega)
     show _ = _
     rw [hsc.out, this]; rfl
    go_wp2_with fail
    go_step3
    go_wp2_with fail
    simp only [Exit.jump]
    go_ret2
    exact ⟨by rw [hv.out]; rfl, (Below.refl _ _).alloc (Nat.le_refl _) _⟩
   ·have hj : 3 + k < s.size := by omega
    obtain ⟨x, HX⟩ : ∃ x, Hid (s.data.toList[3 + k]? = some x) := ⟨s.data.toList[3 + k]'(by have := HL.out; omega), List.getElem?_eq_getElem _⟩
    have hsx : s[3 + k] = x := getk_of s (3 + k) x HX.out hj
    have hdr : s.data.toList.drop (3 + k) = x :: s.data.toList.drop (3 + k + 1) := by
     have hj' : 3 + k < s.data.toList.length := by have := HL.out; omega
     have hg := HX.out
     rw [List.getElem?_eq_getElem hj'] at hg
     rw [List.drop_eq_getElem_cons hj', Option.some.inj hg]
    have HDR := Lib.hid hdr
    clear hdr
    have hx1 : (x.toNat : Int) < 256 := by have := x.toNat_lt; omega
    have hxe : (x = 59) ↔ (x.toNat : Int) = 59 := by
     constructor
     ·rintro rfl; rfl
     ·intro h; exact UInt8.toNat_inj.1 (by have : (59 : UInt8).toNat = 59 := rfl; omega)
    have HXE := Lib.hid hxe
    clear hxe
    by_cases hA : (x.toNat : Int) = 59 ∧ 0 < k
    ·obtain ⟨hA1, hA2⟩ := hA
     have hv : Hid (V = (cv, 3 + k + 1)) := by
      show _ = _
      rw [hsc.out, HDR.out]
      simp only [scanL]
      rw [if_pos ⟨HXE.out.2 hA1, hA2⟩]; rfl
     have hx59 : ((x.toNat : Int) == 59) = true := by simp [hA1]
     clear hA1
     go_wp2_with fail
     simp only [Exit.jump]
     go_ret2
     exact ⟨by rw [hv.out]; exact ret_ii rfl (by omega), (Below.refl _ _).alloc (Nat.le_refl _) _⟩
    ·have hcond : ¬ (x = 59 ∧ 0 < k) := fun h => hA ⟨HXE.out.1 h.1, h.2⟩
     have hstep : scanL 16 k cv (s.data.toList.drop (3 + k)) = if digitV 16 x.toNat < 0 ∨ 7 ≤ k then none else scanL 16 (k + 1) (cv * 16 + digitV 16 x.toNat) (s.data.toList.drop (3 + k + 1)) := by
      rw [HDR.out]; simp only [scanL]; rw [if_neg hcond]
     have hdb := digitV_bd 16 x.toNat
     have h59d : (x.toNat : Int) = 59 → digitV 16 x.toNat = -1 := fun h => by rw [h]; decide
     generalize hdv : digitV 16 x.toNat = dv at *
     have HDV := Lib.hid hdv
     clear hdv hcond
     obtain ⟨hdb0, hdb1⟩ := hdb
     have HS := Lib.hid hstep
     clear hstep
     by_cases hB : dv < 0 ∨ 7 ≤ k
     ·have hv : Hid (V = (0, 0)) := by
       show _ = _
       rw [hsc.out, HS.out, if_pos hB]; rfl
      by_cases h59 : (x.toNat : Int) = 59
      ·have hk0 : k ≤ 0 := by omega
       have hdv1 := h59d h59
       have hx59 : ((x.toNat : Int) == 59) = true := by simp [h59]
       have hlt0 : dv < 0 := by omega
       clear h59 h59d hA hdv1 hB
       go_wp2_with (go_at_call 152; refine (digit_as _ _ _ (by omega) (by omega) dv HDV).mono ?_; rintro e w' ⟨rfl, rfl⟩)
       go_step3
       exact ⟨rfl, rfl, rfl, (Below.refl _ _).alloc (Nat.le_refl _) _, hv.out⟩
      ·have hx59 : ((x.toNat : Int) == 59) = false := by simp [h59]
       clear h59 h59d hA
       by_cases hlt0 : dv < 0
       ·clear hB
        go_wp2_with (go_at_call 152; refine (digit_as _ _ _ (by omega) (by omega) dv HDV).mono ?_; rintro e w' ⟨rfl, rfl⟩)
        go_step3
        exact ⟨rfl, rfl, rfl, (Below.refl _ _).alloc (Nat.le_refl _) _, hv.out⟩
       ·have h7 : 7 ≤ k := by omega
        clear hB
        go_wp2_with (go_at_call 152; refine (digit_as _ _ _ (by omega) (by omega) dv HDV).mono ?_; rintro e w' ⟨rfl, rfl⟩)
        go_step3
        exact ⟨rfl, rfl, rfl, (Below.refl _ _).alloc (Nat.le_refl _) _, hv.out⟩
     ·have hlt0 : 0 ≤ dv := by omega
      have hk7 : k < 7 := by omega
      have hcv7 := HC6.out hk7
      have hpw : cv * 16 + dv < 16 ^ (k + 1) := by
       have := HC1.out
       rw [Int.pow_succ]; omega
      have HPW := Lib.hid hpw
      have hsn : Hid (V = pick 3 (scanL 16 (k + 1) (cv * 16 + dv) (s.data.toList.drop (3 + k + 1)))) := by
       show _ = _
       rw [hsc.out, HS.out, if_neg hB]
      clear hpw hB
      by_cases h59 : (x.toNat : Int) = 59
      ·have := h59d h59
       omega
      ·have hx59 : ((x.toNat : Int) == 59) = false := by simp [h59]
       clear h59 h59d hA
       go_wp2_with (go_at_call 152; refine (digit_as _ _ _ (by omega) (by omega) dv HDV).mono ?_; rintro e w' ⟨rfl, rfl⟩)
       go_round
       case rel => exact ⟨k + 1, cv * 16 + dv, by omega, by omega, by go_num, rfl, by omega, HPW.out, hsn⟩
       case measure => simp [intOf]; omega
 ·rintro ⟨tmps, defers⟩ w' ⟨rfl, hsz, hb, hv⟩
  simp only at hsz
  subst hv
  go_wp2
  simp only [Exit.jump]
  go_ret2
  exact ⟨by simp [hsz], hb⟩
theorem reference_any (s : ByteArray) (w : World) (hs : s.size ≤ maxLen) :
  Calls Tryz.prog 146 #[.string s] w (Ret w (.tuple #[.int .i32 (refL s.data.toList).1, .int .i64 ((refL s.data.toList).2 : Nat)])) := by
 have hl := size_toList s
 unfold refL
 by_cases h0 : pre [38, 97, 109, 112, 59] s.data.toList = true
 ·rw [if_pos h0]; exact reference_0 s w h0
 by_cases h1 : pre [38, 108, 116, 59] s.data.toList = true
 ·rw [if_neg h0, if_pos h1]; exact reference_1 s w (by simpa using h0) h1
 by_cases h2 : pre [38, 103, 116, 59] s.data.toList = true
 ·rw [if_neg h0, if_neg h1, if_pos h2]; exact reference_2 s w (by simpa using h0) (by simpa using h1) h2
 by_cases h3 : pre [38, 113, 117, 111, 116, 59] s.data.toList = true
 ·rw [if_neg h0, if_neg h1, if_neg h2, if_pos h3]; exact reference_3 s w (by simpa using h0) (by simpa using h1) (by simpa using h2) h3
 by_cases h4 : pre [38, 97, 112, 111, 115, 59] s.data.toList = true
 ·rw [if_neg h0, if_neg h1, if_neg h2, if_neg h3, if_pos h4]; exact reference_4 s w (by simpa using h0) (by simpa using h1) (by simpa using h2) (by simpa using h3) h4
 rw [if_neg h0, if_neg h1, if_neg h2, if_neg h3, if_neg h4]
 by_cases h5 : pre [38, 35] s.data.toList = true
 ·rw [if_pos h5]
  have h5l := pre_len h5
  by_cases h6 : pre [38, 35, 120] s.data.toList = true
  ·rw [if_pos h6]
   have h6l := pre_len h6
   exact reference_hex s w hs (by simpa using h0) (by simpa using h1) (by simpa using h2) (by simpa using h3) (by simpa using h4) h5 h6 (by rw [← hl]; exact h6l) _ rfl
  ·rw [if_neg h6]
   exact reference_ten s w hs (by simpa using h0) (by simpa using h1) (by simpa using h2) (by simpa using h3) (by simpa using h4) h5 (by simpa using h6) (by rw [← hl]; exact h5l) _ rfl
 ·rw [if_neg h5]
  exact reference_none s w (by simpa using h0) (by simpa using h1) (by simpa using h2) (by simpa using h3) (by simpa using h4) (by simpa using h5)
end
section
open Go.RowKit
theorem reference_as (s : ByteArray) (w : World) (hs : s.size ≤ maxLen) (c : Int) (n : Nat) (h : Hid (refL s.data.toList = (c, n))) :
  Calls Tryz.prog 146 #[.string s] w (Ret w (.tuple #[.int .i32 c, .int .i64 (n : Nat)])) := by
 have := reference_any s w hs
 rw [h.out] at this
 exact this
theorem stepL_lt {v : Bool} {l : List UInt8} {c : Int} {n : Nat} (h : nextL l = (c, n)) (hn : 0 < n) (hc : c = 60 ∨ c = 62) : stepL v l = .inl 20 := by
 simp only [stepL, h]; rw [if_pos ⟨hn, hc⟩]
theorem stepL_no {v : Bool} {l : List UInt8} {c : Int} {n : Nat} (h : nextL l = (c, n)) (hn : n = 0) : stepL v l = .inl 21 := by
 simp only [stepL, h]; rw [if_neg (by omega), if_pos (.inl hn)]
theorem stepL_13 {v : Bool} {l : List UInt8} {c : Int} {n : Nat} (h : nextL l = (c, n)) (hc : c = 13 ∨ (v = true ∧ (c = 34 ∨ c = 9 ∨ c = 10))) : stepL v l = .inl 21 := by
 simp only [stepL, h]; rw [if_neg (by omega), if_pos (.inr hc)]
theorem stepL_put {v : Bool} {l : List UInt8} {c : Int} {n : Nat} (h : nextL l = (c, n)) (hn : 0 < n) (h1 : ¬ (c = 60 ∨ c = 62)) (h2 : ¬ (c = 13 ∨ (v = true ∧ (c = 34 ∨ c = 9 ∨ c = 10)))) (h3 : c ≠ 38) :
  stepL v l = if charB c = false then .inl 21 else .inr (putF c, n) := by
 simp only [stepL, h]; rw [if_neg (fun h => h1 h.2), if_neg (by intro h; rcases h with h | h; omega; exact h2 h), if_neg h3, if_neg (by omega)]
theorem stepL_ref {v : Bool} {l : List UInt8} {n : Nat} (h : nextL l = (38, n)) (hn : 0 < n) {c' : Int} {n' : Nat} (hr : refL l = (c', n')) :
  stepL v l = if n' = 0 then .inl 20 else if charB c' = false then .inl 21 else .inr (putF c', n') := by
 simp only [stepL, h, hr]; rw [if_neg (by omega), if_neg (by omega)]; simp only [if_true]
theorem joinU_bad (acc : List UInt8) (k : Nat) (e : Int) (h : e ≠ 0) : joinU acc k ([], 0, e) = ([], k, e) := by simp [joinU, h]
theorem Undo_true (s : ByteArray) (w : World) (hs : s.size ≤ 1099511627776) (V : List UInt8 × Nat × Int) (hV : Hid (V = undoL true s.data.toList)) :
  Calls Tryz.prog 141 #[.string s, .bool true] w (Ret w (.tuple #[.string ⟨V.1.toArray⟩, .int .i64 (V.2.1 : Nat), .int .i64 V.2.2])) := by
 go_enter Tryz.func141, Tryz.ntmps141
 go_wp2_with fail
 go_loopw [8] (fun av wr => ∃ (k : Nat) (acc : List UInt8), av = .int .i64 k ∧ k ≤ s.size ∧ Hid (V = joinU acc k (undoL true (s.data.toList.drop k))) ∧ acc.length ≤ 4 * k ∧
   Lib.IsBuilder 201 5 w.heap.size w.heap.size (Lib.byteCells acc) wr ∧ Below w.heap.size w wr ∧ w.heap.size < wr.heap.size) (fun av _ => s.size - (intOf av).toNat)
 case atStart =>
  refine ⟨0, [], rfl, Nat.zero_le _, ?_, by simp, builder_new _ _ _, (Below.refl _ _).alloc (Nat.le_refl _) _, by simp⟩
  show _ = _
  rw [hV.out, List.drop_zero, joinU_nil _ (undoL_shape _ _)]
 case round =>
  obtain ⟨k, acc, rfl, hks, hjo, hal, hB, hbel, hlt⟩ := hrel
  have HL := Lib.hid (size_toList s)
  by_cases hend : k < s.size
  ·have hx : Hid ((s.extract k s.size).data.toList = s.data.toList.drop k) := Lib.extract_to_end s k
   have hxs : (s.extract k s.size).size = s.size - k := by simp
   have hnn : Hid (s.data.toList.drop k ≠ []) := by
    intro h
    have := congrArg List.length h
    rw [List.length_drop, HL.out] at this
    simp at this; omega
   have hszl : (s.extract k s.size).size ≤ 1099511627776 := by omega
   have HXS := Lib.hid hxs
   clear hxs
   obtain ⟨c, n, hq⟩ : ∃ c n, Hid (nextL (s.extract k s.size).data.toList = (c, n)) := ⟨_, _, rfl⟩
   have hle := nextL_le (s.extract k s.size).data.toList
   rw [hq.out, hx.out, List.length_drop, HL.out] at hle
   obtain ⟨hn1, hn4⟩ := hle
   simp only at hn1 hn4
   by_cases hn : n = 0
   ·have hv : Hid (V = ([], k, 21)) := by
     have := stepL_no (v := true) hq.out hn
     rw [hx.out] at this
     show _ = _
     rw [hjo.out, undoL_bad _ _ hnn.out _ this, joinU_bad _ _ _ (by decide)]
    have hn0 : ((n : Int) == 0) = true := by simp [hn]
    have hnz : n ≤ 0 := by omega
    clear hn
    go_wp2_with (go_at_call 107; refine (Next_as (s.extract k s.size) wr (by unfold maxLen; omega) c n hq).mono ?_; rintro e w2 ⟨rfl, hb2⟩)
    go_ret3
    exact ⟨by rw [hv.out]; rfl, hbel.trans (hb2.mono (by omega))⟩
   have hnp : 0 < n := by omega
   have hn0 : ((n : Int) == 0) = false := by simp [hn]
   clear hn
   by_cases hc60 : c = 60
   ·subst hc60
    have hv : Hid (V = ([], k, 20)) := by
     have := stepL_lt (v := true) hq.out hnp (.inl rfl)
     rw [hx.out] at this
     show _ = _
     rw [hjo.out, undoL_bad _ _ hnn.out _ this, joinU_bad _ _ _ (by decide)]
    go_wp2_with (go_at_call 107; refine (Next_as (s.extract k s.size) wr (by unfold maxLen; omega) 60 n hq).mono ?_; rintro e w2 ⟨rfl, hb2⟩)
    go_ret3
    exact ⟨by rw [hv.out]; rfl, hbel.trans (hb2.mono (by omega))⟩
   by_cases hc62 : c = 62
   ·subst hc62
    have hv : Hid (V = ([], k, 20)) := by
     have := stepL_lt (v := true) hq.out hnp (.inr rfl)
     rw [hx.out] at this
     show _ = _
     rw [hjo.out, undoL_bad _ _ hnn.out _ this, joinU_bad _ _ _ (by decide)]
    go_wp2_with (go_at_call 107; refine (Next_as (s.extract k s.size) wr (by unfold maxLen; omega) 62 n hq).mono ?_; rintro e w2 ⟨rfl, hb2⟩)
    go_ret3
    exact ⟨by rw [hv.out]; rfl, hbel.trans (hb2.mono (by omega))⟩
   by_cases hc13 : c = 13
   ·subst hc13
    have hv : Hid (V = ([], k, 21)) := by
     have := stepL_13 (v := true) hq.out (.inl rfl)
     rw [hx.out] at this
     show _ = _
     rw [hjo.out, undoL_bad _ _ hnn.out _ this, joinU_bad _ _ _ (by decide)]
    go_wp2_with (go_at_call 107; refine (Next_as (s.extract k s.size) wr (by unfold maxLen; omega) 13 n hq).mono ?_; rintro e w2 ⟨rfl, hb2⟩)
    go_ret3
    exact ⟨by rw [hv.out]; rfl, hbel.trans (hb2.mono (by omega))⟩
   by_cases hc34 : c = 34
   ·subst hc34
    have hv : Hid (V = ([], k, 21)) := by
     have := stepL_13 (v := true) hq.out (.inr ⟨rfl, .inl rfl⟩)
     rw [hx.out] at this
     show _ = _
     rw [hjo.out, undoL_bad _ _ hnn.out _ this, joinU_bad _ _ _ (by decide)]
    go_wp2_with (go_at_call 107; refine (Next_as (s.extract k s.size) wr (by unfold maxLen; omega) 34 n hq).mono ?_; rintro e w2 ⟨rfl, hb2⟩)
    go_ret3
    exact ⟨by rw [hv.out]; rfl, hbel.trans (hb2.mono (by omega))⟩
   by_cases hc9 : c = 9
   ·subst hc9
    have hv : Hid (V = ([], k, 21)) := by
     have := stepL_13 (v := true) hq.out (.inr ⟨rfl, .inr (.inl rfl)⟩)
     rw [hx.out] at this
     show _ = _
     rw [hjo.out, undoL_bad _ _ hnn.out _ this, joinU_bad _ _ _ (by decide)]
    go_wp2_with (go_at_call 107; refine (Next_as (s.extract k s.size) wr (by unfold maxLen; omega) 9 n hq).mono ?_; rintro e w2 ⟨rfl, hb2⟩)
    go_ret3
    exact ⟨by rw [hv.out]; rfl, hbel.trans (hb2.mono (by omega))⟩
   by_cases hc10 : c = 10
   ·subst hc10
    have hv : Hid (V = ([], k, 21)) := by
     have := stepL_13 (v := true) hq.out (.inr ⟨rfl, .inr (.inr rfl)⟩)
     rw [hx.out] at this
     show _ = _
     rw [hjo.out, undoL_bad _ _ hnn.out _ this, joinU_bad _ _ _ (by decide)]
    go_wp2_with (go_at_call 107; refine (Next_as (s.extract k s.size) wr (by unfold maxLen; omega) 10 n hq).mono ?_; rintro e w2 ⟨rfl, hb2⟩)
    go_ret3
    exact ⟨by rw [hv.out]; rfl, hbel.trans (hb2.mono (by omega))⟩
   by_cases hc38 : c = 38
   ·subst hc38
    obtain ⟨c', n', hr⟩ : ∃ c' n', Hid (refL (s.extract k s.size).data.toList = (c', n')) := ⟨_, _, rfl⟩
    have hrl := refL_le (s.extract k s.size).data.toList
    rw [hr.out, hx.out, List.length_drop, HL.out] at hrl
    simp only at hrl
    have hstep := stepL_ref (v := true) hq.out hnp hr.out
    rw [hx.out] at hstep
    by_cases hn' : n' = 0
    ·rw [if_pos hn'] at hstep
     have hv : Hid (V = ([], k, 20)) := by
      show _ = _
      rw [hjo.out, undoL_bad _ _ hnn.out _ hstep, joinU_bad _ _ _ (by decide)]
     have hn0' : ((n' : Int) == 0) = true := by simp [hn']
     clear hn' hstep
     go_wp2_with (first | (go_at_call 107; refine (Next_as (s.extract k s.size) wr (by unfold maxLen; omega) 38 n hq).mono ?_; rintro e w2 ⟨rfl, hb2⟩) | (go_at_call 146; refine (reference_as (s.extract k s.size) _ (by unfold maxLen; omega) c' n' hr).mono ?_; rintro e w3 ⟨rfl, hb3⟩) | (go_at_call 128; refine (Put_any _ _).mono ?_; rintro e w4 ⟨rfl, hb4⟩))
     go_ret3
     have hz2 := hb2.size; have hz3 := hb3.size
     exact ⟨by rw [hv.out]; rfl, ((hbel.trans (hb2.mono (by omega))).trans (hb3.mono (by omega))).trans (hb4.mono (by omega))⟩
    rw [if_neg hn'] at hstep
    have hn0' : ((n' : Int) == 0) = false := by simp [hn']
    have hnp' : 0 < n' := by omega
    clear hn'
    by_cases hch : charB c' = false
    ·rw [if_pos hch] at hstep
     have hv : Hid (V = ([], k, 21)) := by
      show _ = _
      rw [hjo.out, undoL_bad _ _ hnn.out _ hstep, joinU_bad _ _ _ (by decide)]
     clear hstep
     go_wp2_with (first | (go_at_call 107; refine (Next_as (s.extract k s.size) wr (by unfold maxLen; omega) 38 n hq).mono ?_; rintro e w2 ⟨rfl, hb2⟩) | (go_at_call 146; refine (reference_as (s.extract k s.size) _ (by unfold maxLen; omega) c' n' hr).mono ?_; rintro e w3 ⟨rfl, hb3⟩) | (go_at_call 128; refine (Put_any _ _).mono ?_; rintro e w4 ⟨rfl, hb4⟩))
     go_ret3
     have hz2 := hb2.size; have hz3 := hb3.size
     exact ⟨by rw [hv.out]; rfl, ((hbel.trans (hb2.mono (by omega))).trans (hb3.mono (by omega))).trans (hb4.mono (by omega))⟩
    ·rw [if_neg hch] at hstep
     have hch' : charB c' = true := by simpa using hch
     have HS := Lib.hid hstep
     have hpl := putF_len c'
     clear hstep hch
     go_wp2_with (first | (go_at_call 107; refine (Next_as (s.extract k s.size) wr (by unfold maxLen; omega) 38 n hq).mono ?_; rintro e w2 ⟨rfl, hb2⟩) | (go_at_call 146; refine (reference_as (s.extract k s.size) _ (by unfold maxLen; omega) c' n' hr).mono ?_; rintro e w3 ⟨rfl, hb3⟩) | (go_at_call 128; refine (Put_any _ _).mono ?_; rintro e w4 ⟨rfl, hb4⟩))
     have hz2 := hb2.size; have hz4 := hb4.size; have hz3 := hb3.size
     have hB4 := builder_below (builder_below (builder_below hB hb2) hb3) hb4
     go_wp2_with (go_at_call 147; refine (Tryz.Builder_WriteString _ _ _ _ _ hB4 ?hlen1 (by omega)).mono ?_)
     case hlen1 => rw [Lib.byteCells_length]; show acc.length + (putF c').toArray.size ≤ _; simp; omega
     rintro e w5 ⟨rfl, hB5, hb5⟩
     have hz5 := hb5.size
     go_wp2
     go_roundw
     case rel =>
      refine ⟨k + n', acc ++ putF c', by go_num, by omega, ?_, ?_, ?_, ?_, by omega⟩
      ·show _ = _
       rw [hjo.out, undoL_step _ _ hnn.out _ _ HS.out, joinU_join, List.drop_drop]
      ·rw [List.length_append]; omega
      ·rw [Lib.byteCells_append]; exact .inr hB5
      ·exact (((hbel.trans (hb2.mono (by omega))).trans (hb3.mono (by omega))).trans (hb4.mono (by omega))).trans hb5
     case measure => simp [intOf]; omega
   have hstep := stepL_put (v := true) hq.out hnp (by omega) (by simp; omega) hc38
   rw [hx.out] at hstep
   have hb60 : (c == 60) = false := by simp; omega
   have hb62 : (c == 62) = false := by simp; omega
   have hb13 : (c == 13) = false := by simp; omega
   have hb34 : (c == 34) = false := by simp; omega
   have hb9 : (c == 9) = false := by simp; omega
   have hb10 : (c == 10) = false := by simp; omega
   have hb38 : (c == 38) = false := by simp; omega
   clear hc60 hc62 hc13 hc34 hc9 hc10 hc38
   by_cases hch : charB c = false
   ·rw [if_pos hch] at hstep
    have hv : Hid (V = ([], k, 21)) := by
     show _ = _
     rw [hjo.out, undoL_bad _ _ hnn.out _ hstep, joinU_bad _ _ _ (by decide)]
    clear hstep
    go_wp2_with (first | (go_at_call 107; refine (Next_as (s.extract k s.size) wr (by unfold maxLen; omega) c n hq).mono ?_; rintro e w2 ⟨rfl, hb2⟩) | (go_at_call 128; refine (Put_any _ _).mono ?_; rintro e w4 ⟨rfl, hb4⟩))
    go_ret3
    have hz2 := hb2.size
    exact ⟨by rw [hv.out]; rfl, (hbel.trans (hb2.mono (by omega))).trans (hb4.mono (by omega))⟩
   ·rw [if_neg hch] at hstep
    have hch' : charB c = true := by simpa using hch
    have HS := Lib.hid hstep
    have hpl := putF_len c
    clear hstep hch
    go_wp2_with (first | (go_at_call 107; refine (Next_as (s.extract k s.size) wr (by unfold maxLen; omega) c n hq).mono ?_; rintro e w2 ⟨rfl, hb2⟩) | (go_at_call 128; refine (Put_any _ _).mono ?_; rintro e w4 ⟨rfl, hb4⟩))
    have hz2 := hb2.size; have hz4 := hb4.size; skip
    have hB4 := builder_below (builder_below hB hb2) hb4
    go_wp2_with (go_at_call 147; refine (Tryz.Builder_WriteString _ _ _ _ _ hB4 ?hlen2 (by omega)).mono ?_)
    case hlen2 => rw [Lib.byteCells_length]; show acc.length + (putF c).toArray.size ≤ _; simp; omega
    rintro e w5 ⟨rfl, hB5, hb5⟩
    have hz5 := hb5.size
    go_wp2
    go_roundw
    case rel =>
     refine ⟨k + n, acc ++ putF c, by go_num, by omega, ?_, ?_, ?_, ?_, by omega⟩
     ·show _ = _
      rw [hjo.out, undoL_step _ _ hnn.out _ _ HS.out, joinU_join, List.drop_drop]
     ·rw [List.length_append]; omega
     ·rw [Lib.byteCells_append]; exact .inr hB5
     ·exact ((hbel.trans (hb2.mono (by omega))).trans (hb4.mono (by omega))).trans hb5
    case measure => simp [intOf]; omega
  ·have hk : k = s.size := by omega
   have hv : Hid (V = (acc, s.size, 0)) := by
    have : s.data.toList.drop k = [] := List.drop_eq_nil_of_le (by rw [HL.out]; omega)
    show _ = _
    rw [hjo.out, this, undoL_nil, hk]; simp [joinU]
   clear hk
   go_wp2_with (go_at_call 148; refine (Tryz.Builder_String _ _ _ _ hB (by omega)).mono ?_; rintro e w2 ⟨rfl, hb2⟩)
   go_ret3
   exact ⟨by rw [hv.out]; rfl, hbel.trans hb2⟩
theorem Undo_false (s : ByteArray) (w : World) (hs : s.size ≤ 1099511627776) (V : List UInt8 × Nat × Int) (hV : Hid (V = undoL false s.data.toList)) :
  Calls Tryz.prog 141 #[.string s, .bool false] w (Ret w (.tuple #[.string ⟨V.1.toArray⟩, .int .i64 (V.2.1 : Nat), .int .i64 V.2.2])) := by
 go_enter Tryz.func141, Tryz.ntmps141
 go_wp2_with fail
 go_loopw [8] (fun av wr => ∃ (k : Nat) (acc : List UInt8), av = .int .i64 k ∧ k ≤ s.size ∧ Hid (V = joinU acc k (undoL false (s.data.toList.drop k))) ∧ acc.length ≤ 4 * k ∧
   Lib.IsBuilder 201 5 w.heap.size w.heap.size (Lib.byteCells acc) wr ∧ Below w.heap.size w wr ∧ w.heap.size < wr.heap.size) (fun av _ => s.size - (intOf av).toNat)
 case atStart =>
  refine ⟨0, [], rfl, Nat.zero_le _, ?_, by simp, builder_new _ _ _, (Below.refl _ _).alloc (Nat.le_refl _) _, by simp⟩
  show _ = _
  rw [hV.out, List.drop_zero, joinU_nil _ (undoL_shape _ _)]
 case round =>
  obtain ⟨k, acc, rfl, hks, hjo, hal, hB, hbel, hlt⟩ := hrel
  have HL := Lib.hid (size_toList s)
  by_cases hend : k < s.size
  ·have hx : Hid ((s.extract k s.size).data.toList = s.data.toList.drop k) := Lib.extract_to_end s k
   have hxs : (s.extract k s.size).size = s.size - k := by simp
   have hnn : Hid (s.data.toList.drop k ≠ []) := by
    intro h
    have := congrArg List.length h
    rw [List.length_drop, HL.out] at this
    simp at this; omega
   have hszl : (s.extract k s.size).size ≤ 1099511627776 := by omega
   have HXS := Lib.hid hxs
   clear hxs
   obtain ⟨c, n, hq⟩ : ∃ c n, Hid (nextL (s.extract k s.size).data.toList = (c, n)) := ⟨_, _, rfl⟩
   have hle := nextL_le (s.extract k s.size).data.toList
   rw [hq.out, hx.out, List.length_drop, HL.out] at hle
   obtain ⟨hn1, hn4⟩ := hle
   simp only at hn1 hn4
   by_cases hn : n = 0
   ·have hv : Hid (V = ([], k, 21)) := by
     have := stepL_no (v := false) hq.out hn
     rw [hx.out] at this
     show _ = _
     rw [hjo.out, undoL_bad _ _ hnn.out _ this, joinU_bad _ _ _ (by decide)]
    have hn0 : ((n : Int) == 0) = true := by simp [hn]
    have hnz : n ≤ 0 := by omega
    clear hn
    go_wp2_with (go_at_call 107; refine (Next_as (s.extract k s.size) wr (by unfold maxLen; omega) c n hq).mono ?_; rintro e w2 ⟨rfl, hb2⟩)
    go_ret3
    exact ⟨by rw [hv.out]; rfl, hbel.trans (hb2.mono (by omega))⟩
   have hnp : 0 < n := by omega
   have hn0 : ((n : Int) == 0) = false := by simp [hn]
   clear hn
   by_cases hc60 : c = 60
   ·subst hc60
    have hv : Hid (V = ([], k, 20)) := by
     have := stepL_lt (v := false) hq.out hnp (.inl rfl)
     rw [hx.out] at this
     show _ = _
     rw [hjo.out, undoL_bad _ _ hnn.out _ this, joinU_bad _ _ _ (by decide)]
    go_wp2_with (go_at_call 107; refine (Next_as (s.extract k s.size) wr (by unfold maxLen; omega) 60 n hq).mono ?_; rintro e w2 ⟨rfl, hb2⟩)
    go_ret3
    exact ⟨by rw [hv.out]; rfl, hbel.trans (hb2.mono (by omega))⟩
   by_cases hc62 : c = 62
   ·subst hc62
    have hv : Hid (V = ([], k, 20)) := by
     have := stepL_lt (v := false) hq.out hnp (.inr rfl)
     rw [hx.out] at this
     show _ = _
     rw [hjo.out, undoL_bad _ _ hnn.out _ this, joinU_bad _ _ _ (by decide)]
    go_wp2_with (go_at_call 107; refine (Next_as (s.extract k s.size) wr (by unfold maxLen; omega) 62 n hq).mono ?_; rintro e w2 ⟨rfl, hb2⟩)
    go_ret3
    exact ⟨by rw [hv.out]; rfl, hbel.trans (hb2.mono (by omega))⟩
   by_cases hc13 : c = 13
   ·subst hc13
    have hv : Hid (V = ([], k, 21)) := by
     have := stepL_13 (v := false) hq.out (.inl rfl)
     rw [hx.out] at this
     show _ = _
     rw [hjo.out, undoL_bad _ _ hnn.out _ this, joinU_bad _ _ _ (by decide)]
    go_wp2_with (go_at_call 107; refine (Next_as (s.extract k s.size) wr (by unfold maxLen; omega) 13 n hq).mono ?_; rintro e w2 ⟨rfl, hb2⟩)
    go_ret3
    exact ⟨by rw [hv.out]; rfl, hbel.trans (hb2.mono (by omega))⟩
   by_cases hc38 : c = 38
   ·subst hc38
    obtain ⟨c', n', hr⟩ : ∃ c' n', Hid (refL (s.extract k s.size).data.toList = (c', n')) := ⟨_, _, rfl⟩
    have hrl := refL_le (s.extract k s.size).data.toList
    rw [hr.out, hx.out, List.length_drop, HL.out] at hrl
    simp only at hrl
    have hstep := stepL_ref (v := false) hq.out hnp hr.out
    rw [hx.out] at hstep
    by_cases hn' : n' = 0
    ·rw [if_pos hn'] at hstep
     have hv : Hid (V = ([], k, 20)) := by
      show _ = _
      rw [hjo.out, undoL_bad _ _ hnn.out _ hstep, joinU_bad _ _ _ (by decide)]
     have hn0' : ((n' : Int) == 0) = true := by simp [hn']
     clear hn' hstep
     go_wp2_with (first | (go_at_call 107; refine (Next_as (s.extract k s.size) wr (by unfold maxLen; omega) 38 n hq).mono ?_; rintro e w2 ⟨rfl, hb2⟩) | (go_at_call 146; refine (reference_as (s.extract k s.size) _ (by unfold maxLen; omega) c' n' hr).mono ?_; rintro e w3 ⟨rfl, hb3⟩) | (go_at_call 128; refine (Put_any _ _).mono ?_; rintro e w4 ⟨rfl, hb4⟩))
     go_ret3
     have hz2 := hb2.size; have hz3 := hb3.size
     exact ⟨by rw [hv.out]; rfl, ((hbel.trans (hb2.mono (by omega))).trans (hb3.mono (by omega))).trans (hb4.mono (by omega))⟩
    rw [if_neg hn'] at hstep
    have hn0' : ((n' : Int) == 0) = false := by simp [hn']
    have hnp' : 0 < n' := by omega
    clear hn'
    by_cases hch : charB c' = false
    ·rw [if_pos hch] at hstep
     have hv : Hid (V = ([], k, 21)) := by
      show _ = _
      rw [hjo.out, undoL_bad _ _ hnn.out _ hstep, joinU_bad _ _ _ (by decide)]
     clear hstep
     go_wp2_with (first | (go_at_call 107; refine (Next_as (s.extract k s.size) wr (by unfold maxLen; omega) 38 n hq).mono ?_; rintro e w2 ⟨rfl, hb2⟩) | (go_at_call 146; refine (reference_as (s.extract k s.size) _ (by unfold maxLen; omega) c' n' hr).mono ?_; rintro e w3 ⟨rfl, hb3⟩) | (go_at_call 128; refine (Put_any _ _).mono ?_; rintro e w4 ⟨rfl, hb4⟩))
     go_ret3
     have hz2 := hb2.size; have hz3 := hb3.size
     exact ⟨by rw [hv.out]; rfl, ((hbel.trans (hb2.mono (by omega))).trans (hb3.mono (by omega))).trans (hb4.mono (by omega))⟩
    ·rw [if_neg hch] at hstep
     have hch' : charB c' = true := by simpa using hch
     have HS := Lib.hid hstep
     have hpl := putF_len c'
     clear hstep hch
     go_wp2_with (first | (go_at_call 107; refine (Next_as (s.extract k s.size) wr (by unfold maxLen; omega) 38 n hq).mono ?_; rintro e w2 ⟨rfl, hb2⟩) | (go_at_call 146; refine (reference_as (s.extract k s.size) _ (by unfold maxLen; omega) c' n' hr).mono ?_; rintro e w3 ⟨rfl, hb3⟩) | (go_at_call 128; refine (Put_any _ _).mono ?_; rintro e w4 ⟨rfl, hb4⟩))
     have hz2 := hb2.size; have hz4 := hb4.size; have hz3 := hb3.size
     have hB4 := builder_below (builder_below (builder_below hB hb2) hb3) hb4
     go_wp2_with (go_at_call 147; refine (Tryz.Builder_WriteString _ _ _ _ _ hB4 ?hlen1 (by omega)).mono ?_)
     case hlen1 => rw [Lib.byteCells_length]; show acc.length + (putF c').toArray.size ≤ _; simp; omega
     rintro e w5 ⟨rfl, hB5, hb5⟩
     have hz5 := hb5.size
     go_wp2
     go_roundw
     case rel =>
      refine ⟨k + n', acc ++ putF c', by go_num, by omega, ?_, ?_, ?_, ?_, by omega⟩
      ·show _ = _
       rw [hjo.out, undoL_step _ _ hnn.out _ _ HS.out, joinU_join, List.drop_drop]
      ·rw [List.length_append]; omega
      ·rw [Lib.byteCells_append]; exact .inr hB5
      ·exact (((hbel.trans (hb2.mono (by omega))).trans (hb3.mono (by omega))).trans (hb4.mono (by omega))).trans hb5
     case measure => simp [intOf]; omega
   have hstep := stepL_put (v := false) hq.out hnp (by omega) (by simp; omega) hc38
   rw [hx.out] at hstep
   have hb60 : (c == 60) = false := by simp; omega
   have hb62 : (c == 62) = false := by simp; omega
   have hb13 : (c == 13) = false := by simp; omega
   have hb38 : (c == 38) = false := by simp; omega
   clear hc60 hc62 hc13 hc38
   by_cases hch : charB c = false
   ·rw [if_pos hch] at hstep
    have hv : Hid (V = ([], k, 21)) := by
     show _ = _
     rw [hjo.out, undoL_bad _ _ hnn.out _ hstep, joinU_bad _ _ _ (by decide)]
    clear hstep
    go_wp2_with (first | (go_at_call 107; refine (Next_as (s.extract k s.size) wr (by unfold maxLen; omega) c n hq).mono ?_; rintro e w2 ⟨rfl, hb2⟩) | (go_at_call 128; refine (Put_any _ _).mono ?_; rintro e w4 ⟨rfl, hb4⟩))
    go_ret3
    have hz2 := hb2.size
    exact ⟨by rw [hv.out]; rfl, (hbel.trans (hb2.mono (by omega))).trans (hb4.mono (by omega))⟩
   ·rw [if_neg hch] at hstep
    have hch' : charB c = true := by simpa using hch
    have HS := Lib.hid hstep
    have hpl := putF_len c
    clear hstep hch
    go_wp2_with (first | (go_at_call 107; refine (Next_as (s.extract k s.size) wr (by unfold maxLen; omega) c n hq).mono ?_; rintro e w2 ⟨rfl, hb2⟩) | (go_at_call 128; refine (Put_any _ _).mono ?_; rintro e w4 ⟨rfl, hb4⟩))
    have hz2 := hb2.size; have hz4 := hb4.size; skip
    have hB4 := builder_below (builder_below hB hb2) hb4
    go_wp2_with (go_at_call 147; refine (Tryz.Builder_WriteString _ _ _ _ _ hB4 ?hlen2 (by omega)).mono ?_)
    case hlen2 => rw [Lib.byteCells_length]; show acc.length + (putF c).toArray.size ≤ _; simp; omega
    rintro e w5 ⟨rfl, hB5, hb5⟩
    have hz5 := hb5.size
    go_wp2
    go_roundw
    case rel =>
     refine ⟨k + n, acc ++ putF c, by go_num, by omega, ?_, ?_, ?_, ?_, by omega⟩
     ·show _ = _
      rw [hjo.out, undoL_step _ _ hnn.out _ _ HS.out, joinU_join, List.drop_drop]
     ·rw [List.length_append]; omega
     ·rw [Lib.byteCells_append]; exact .inr hB5
     ·exact ((hbel.trans (hb2.mono (by omega))).trans (hb4.mono (by omega))).trans hb5
    case measure => simp [intOf]; omega
  ·have hk : k = s.size := by omega
   have hv : Hid (V = (acc, s.size, 0)) := by
    have : s.data.toList.drop k = [] := List.drop_eq_nil_of_le (by rw [HL.out]; omega)
    show _ = _
    rw [hjo.out, this, undoL_nil, hk]; simp [joinU]
   clear hk
   go_wp2_with (go_at_call 148; refine (Tryz.Builder_String _ _ _ _ hB (by omega)).mono ?_; rintro e w2 ⟨rfl, hb2⟩)
   go_ret3
   exact ⟨by rw [hv.out]; rfl, hbel.trans hb2⟩
theorem Undo_any (s : ByteArray) (v : Bool) (w : World) (hs : s.size ≤ 1099511627776) :
  Calls Tryz.prog 141 #[.string s, .bool v] w (Ret w (.tuple #[.string ⟨(undoL v s.data.toList).1.toArray⟩, .int .i64 ((undoL v s.data.toList).2.1 : Nat), .int .i64 (undoL v s.data.toList).2.2])) := by
 cases v
 ·exact Undo_false s w hs _ rfl
 ·exact Undo_true s w hs _ rfl
end
section
open Go.RowKit
/-! Rows laid out flat. -/
theorem flat_lengthT {α β : Type} (f : α → List β) (n : Nat) (hf : ∀ a, (f a).length = n) : ∀ l : List α, (l.flatMap f).length = l.length * n
 | [] => by simp
 | a :: l => by rw [List.flatMap_cons, List.length_append, hf, flat_lengthT f n hf l, List.length_cons, Nat.add_mul]; omega
theorem flat_getT {α β : Type} (f : α → List β) (n : Nat) (hf : ∀ a, (f a).length = n) : ∀ (l : List α) (k j : Nat) (a : α), l[k]? = some a → j < n → (l.flatMap f)[k * n + j]? = (f a)[j]?
 | [], k, j, a, h, _ => by simp at h
 | b :: l, 0, j, a, h, hj => by
  simp at h; subst h
  rw [List.flatMap_cons, List.getElem?_append_left (by rw [hf]; omega)]
  simp
 | b :: l, k + 1, j, a, h, hj => by
  rw [List.flatMap_cons, List.getElem?_append_right (by rw [hf, Nat.add_mul]; omega)]
  have e : (k + 1) * n + j - (f b).length = k * n + j := by rw [hf, Nat.add_mul]; omega
  rw [e]
  exact flat_getT f n hf l k j a (by simpa using h) hj
theorem flat_setT {α β : Type} (f : α → List β) (n : Nat) (hf : ∀ a, (f a).length = n) (l : List α) (k j : Nat) (a a' : α) (v : β) (h : l[k]? = some a) (hj : j < n) (hs : f a' = (f a).set j v) :
  (l.flatMap f).set (k * n + j) v = (l.set k a').flatMap f := by
 apply List.ext_getElem?
 intro i
 rw [List.getElem?_set]
 have hk : k < l.length := (List.getElem?_eq_some_iff.1 h).1
 have hlen := flat_lengthT f n hf l
 have hlen' := flat_lengthT f n hf (l.set k a')
 rw [List.length_set] at hlen'
 by_cases hi : i < l.length * n
 ·have hn : 0 < n := by omega
  obtain ⟨q, r, hr, rfl⟩ : ∃ q r, r < n ∧ i = q * n + r := ⟨i / n, i % n, Nat.mod_lt _ hn, by rw [Nat.mul_comm]; exact (Nat.div_add_mod i n).symm⟩
  have hq : q < l.length := by
   rcases Nat.lt_or_ge q l.length with h | h
   ·exact h
   ·have := Nat.mul_le_mul_right n h; omega
  by_cases hqk : q = k
  ·subst hqk
   have e1 : (l.set q a')[q]? = some a' := by rw [List.getElem?_set]; simp [hq]
   rw [flat_getT f n hf _ q r a' e1 hr, flat_getT f n hf l q r a h hr, hs, List.getElem?_set]
   by_cases hrj : j = r
   ·subst hrj
    rw [if_pos rfl, if_pos rfl, hf, if_pos hj, hlen]
    rw [if_pos hi]
   ·rw [if_neg (by omega), if_neg hrj]
  ·have e1 : (l.set k a')[q]? = l[q]? := by rw [List.getElem?_set]; rw [if_neg (Ne.symm hqk)]
   have e2 : l[q]? = some l[q] := List.getElem?_eq_getElem hq
   rw [flat_getT f n hf _ q r _ (e1.trans e2) hr, flat_getT f n hf l q r _ e2 hr]
   rw [if_neg]
   intro he
   rcases Nat.lt_or_ge q k with hlt | hge
   ·have := Nat.mul_le_mul_right n (show q + 1 ≤ k by omega)
    rw [Nat.add_mul] at this; omega
   ·have := Nat.mul_le_mul_right n (show k + 1 ≤ q by omega)
    rw [Nat.add_mul] at this; omega
 ·have r1 : ((l.set k a').flatMap f)[i]? = none := List.getElem?_eq_none (by rw [hlen']; omega)
  have r2 : (l.flatMap f)[i]? = none := List.getElem?_eq_none (by rw [hlen]; omega)
  rw [r1, r2]
  by_cases he : k * n + j = i
  ·rw [if_pos he, if_neg (by rw [hlen]; omega)]
  ·rw [if_neg he]
/-! What an owned row reads as. -/
theorem own_flatT {α : Type} {w : World} {B : Nat} {e : TypeId} {n : Nat} {ad : Option Addr} {c : Nat} {l : List α} (f : α → List Value) (hf : ∀ a, (f a).length = n) (h : w.ownsRow B e n (.slice ad l.length c) l.length (l.flatMap f)) :
  0 < l.length → ∃ g, ad = some ⟨g, 0, none⟩ ∧ B ≤ g ∧ g < w.heap.size ∧ (∃ cur, w.heap[g]? = some (.cells cur e (0, 0))) ∧ ∀ k a j u, l[k]? = some a → (f a)[j]? = some u → w.cell? ((⟨g, 0, none⟩ : Addr).add (k * n + j)) = some u := by
 intro hl
 rcases h.2 with ⟨_, h0⟩ | ⟨g, cap, cur, hv, hb, hc, _⟩
 ·omega
 ·injection hv with hv h2 h3
  subst hv
  refine ⟨g, rfl, hb, (Array.getElem?_eq_some_iff.1 hc).1, ⟨cur, hc⟩, fun k a j u hk hu => ?_⟩
  have hj : j < n := by rw [← hf a]; exact (List.getElem?_eq_some_iff.1 hu).1
  refine h.cells (g := g) rfl _ u ?_
  rw [flat_getT f n hf l k j a hk hj]; exact hu
theorem own_typeT {w : World} {B : Nat} {e : TypeId} {size : Nat} {v : Value} {n : Nat} {xs : List Value} (h : w.ownsRow B e size v n xs) : ∀ g, v.ownBlock = some g → B ≤ g ∧ g < w.heap.size ∧ ∃ cur, w.heap[g]? = some (.cells cur e (0, 0)) := by
 intro g hg
 rcases h.2 with ⟨rfl, _⟩ | ⟨g', cap, cur, rfl, hb, hc, _⟩
 ·cases hg
 ·injection hg with hg
  have hg : g' = g := hg
  subst hg
  exact ⟨hb, (Array.getElem?_eq_some_iff.1 hc).1, cur, hc⟩
theorem own_apartT {w : World} {B B' : Nat} {e e' : TypeId} {size size' : Nat} {v v' : Value} {n n' : Nat} {xs xs' : List Value} (h : w.ownsRow B e size v n xs) (h' : w.ownsRow B' e' size' v' n' xs') (he : e ≠ e') : v.ownBlock = none ∨ v.ownBlock ≠ v'.ownBlock := by
 cases hv : v.ownBlock with
 | none => exact .inl rfl
 | some g =>
  refine .inr fun hg => ?_
  obtain ⟨_, _, cur, hc⟩ := own_typeT h g hv
  obtain ⟨_, _, cur', hc'⟩ := own_typeT h' g hg.symm
  rw [hc] at hc'
  injection hc' with hc'
  injection hc' with _ hc'
  exact he hc'
theorem own_grownT {w w' : World} {B B' : Nat} {e e' : TypeId} {size size' : Nat} {v v' : Value} {n n' : Nat} {xs xs' : List Value} (h : w.ownsRow B e size v n xs) (h' : w.ownsRow B' e' size' v' n' xs') (he : e ≠ e') (hg : w.grownBy w' v'.ownBlock) : w'.ownsRow B e size v n xs :=
 h.kept hg (own_apartT h h' he)
theorem own_storedT {w : World} {B : Nat} {e : TypeId} {size g n c : Nat} {xs : List Value} (h : w.ownsRow B e size (.slice (some ⟨g, 0, none⟩) n c) n xs) (j : Nat) (u : Value) : (w.setCell ⟨g, j, none⟩ u).ownsRow B e size (.slice (some ⟨g, 0, none⟩) n c) n (xs.set j u) := (h.stored j u).1
theorem add_zero_blockT (g k : Nat) : ((⟨g, 0, none⟩ : Addr).add k) = ⟨g, k, none⟩ := by unfold Addr.add; split <;> simp_all
theorem appendSw {P : Program} {w : World} {o : Oper} {a : Act} {K : Act → World → Prop} {Q : Exit → Act → World → Prop} (s x : Operand) (t : TypeId)
  (ho : o.op = .call { callee := .builtin .append, args := #[s, x], argTypes := #[t, t] })
  (B : Nat) (e : TypeId) (z : Value) (size bytes : Nat) (ht : P.underlying t = some (.slice e)) (hi : (P.info? e).map (fun i => (i.zero, i.size, i.bytes)) = some (some z, size, bytes))
  (hzs : z.cells.size = size) (hsz : 0 < size)
  (v : Value) (n : Nat) (xs : List Value) (news : List Value) (hs : a.eval s = v) (hown : w.ownsRow B e size v n xs) (hB : B ≤ w.heap.size)
  (X : Nat) (hx : a.eval x = .slice (some ⟨X, 0, none⟩) 1 1) (hX : X = w.heap.size) (hnl : news.length = size) (hu : ∀ u ∈ news, u.oneCell' = true) (hn : n < 4294967296) (hby : bytes ≤ 10000)
  (h : ∀ ad c w', w'.ownsRow B e size (.slice ad (n + 1) c) (n + 1) (xs ++ news) → Below B w w' → w.heap.size < w'.heap.size → (w.alloc (.cells news.toArray e)).grownBy w' v.ownBlock → K (a.put o.dst (.slice ad (n + 1) c)) w') :
  o.wp P a (w.alloc (.cells news.toArray e)) K Q := by
 subst hX
 obtain ⟨i0, hi0, hz0, hz1, hz2⟩ := info_parts hi
 have hnews : ∀ j u, news[j]? = some u → (w.alloc (.cells news.toArray e)).cell? ((⟨w.heap.size, 0, none⟩ : Addr).add j) = some u := by
  intro j u hj
  rw [add_zero_blockT, World.cell?_alloc_at _ _ _ _ (by simp)]
  simpa using hj
 obtain ⟨v', w', hrun, hown', hg, _⟩ := run_append_own (P := P) (w.alloc (.cells news.toArray e)) B t o.type e i0 z size bytes ht hi0 hz0 hz1 hz2 hzs hsz v n xs (hown.alloc _) ⟨w.heap.size, 0, none⟩ 1 1 news (by rw [hnl]; omega) hnews hu (by unfold maxLen; omega) (by
  have : (n + 1) * bytes ≤ 4294967296 * 10000 := Nat.mul_le_mul (by omega) hby
  omega) (by simp; omega)
 obtain ⟨ad, c, rfl⟩ : ∃ ad c, v' = .slice ad (n + 1) c := by
  rcases hown'.2 with ⟨_, h0⟩ | ⟨g, c, cur, hv, _⟩
  ·omega
  ·exact ⟨_, c, hv⟩
 have hsz' := hg.size
 simp at hsz'
 have hK := h ad c w' hown' (((Below.refl B w).alloc hB _).grown hg (by simp; omega) (fun k hk => (hown.lt k hk).1)) (by omega) hg
 unfold Oper.wp
 simp [execOp, ho, resolve, invoke, builtin, hs, hx, hrun, Result.andThen]
 exact hK
end
end Go.Proofs.YtcombcoilpmnkaaGreat
