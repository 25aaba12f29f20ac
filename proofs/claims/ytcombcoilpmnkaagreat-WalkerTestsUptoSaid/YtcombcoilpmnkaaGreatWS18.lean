/-
  Texts of this claim, joined (by a program of the claim's author): WSel, OpenG, Open, OpenW, WTstP, WTst, WTsw.
-/
import Derived.Test.YtcombcoilpmnkaaGreatWS1
import Derived.Test.YtcombcoilpmnkaaGreatWS17
import Derived.Test.YtcombcoilpmnkaaGreatRows
import Derived.Test.YtcombcoilpmnkaaGreatWS2
import Derived.Deep.Slices
import Derived.Deep.Fields
import Derived.ChangeSame
import Derived.Carry
import Derived.ProofKit
import Derived.Test.YtcombcoilpmnkaaGreatWS4
import Derived.Test.YtcombcoilpmnkaaGreatWS16
import Derived.Test.YtcombcoilpmnkaaGreatWS12
namespace Go.Proofs.YtcombcoilpmnkaaGreat
set_option maxRecDepth 100000
set_option maxHeartbeats 16000000
section
open Go.RowKit Go.Shelf
theorem small_any (A : Option Addr) (n c : Nat) (w : World) (r : Bool) (hr : Hid (decide ((n : Int) ≤ 40) = r)) : Calls Tryz.prog 11 #[.slice A n c] w (Ret w (.bool r)) := by
 go_enter Tryz.func11, Tryz.ntmps11
 go_wp2_with fail
 go_ret
 rw [← hr.out]
 exact ⟨rfl, Below.refl _ _⟩
theorem walk_WalkerSelf (l : List ItemD) (A : Option Addr) (c : Nat) (s : List StepD) (As : Option Addr) (cs : Nat) (w : World) (hI : ItemsAt w w.heap.size A l) (hS : SmallItems l) (hl : l.length ≤ 2000000) (hA : StepsAt w w.heap.size As s) (hSs : SmallSteps s) :
  Calls Tryz.prog 6 #[.slice A l.length c, .slice As s.length cs] w (Ret w (.bool true)) := by
 have HI := Lib.hid hI
 have HS := Lib.hid hS
 have HA := Lib.hid hA
 have HSS := Lib.hid hSs
 have hs9 := hSs.1
 have n0 : (0 : Int) ≤ (s.length : Int) := by omega
 have n1 : (s.length : Int) ≤ 1000000000 := by omega
 clear hI hS hA hSs
 go_enter Tryz.func6, Tryz.ntmps6
 go_wp2_with fail
 refine (grown_any l A c w HI.out HS.out hl).mono ?_
 rintro e w1 ⟨M, t, f, next, Ar, cr, rfl, ht1, hr1, hf1, hb1, hlo1⟩
 have HT1 := Lib.hid ht1
 have HR1 := Lib.hid hr1
 have HB1 := Lib.hid hb1
 clear ht1 hr1 hf1 hb1 hlo1
 go_upto_region 2 with (fail)
 obtain ⟨w2, hw2⟩ : ∃ w2, Hid (w1.alloc (.cells #[.slice Ar (f.flat 0).length cr, .int .i64 next] 27) = w2) := ⟨_, rfl⟩
 have hb2 : Below w1.heap.size w1 w2 := by rw [← hw2.out]; exact (Below.refl _ w1).alloc (Nat.le_refl _) _
 have HX2 : Hid (w2.heap[w1.heap.size]? = some (.cells (treeV Ar (f.flat 0).length cr next) 27 (0, 0))) := by show _ = _; rw [← hw2.out]; exact heap_alloc_new w1 _
 have HT2 := Lib.hid (HT1.out.below hb2)
 have HR2 := Lib.hid (HR1.out.below hb2)
 have HB2 := Lib.hid (HB1.out.trans (hb2.mono HB1.out.size))
 obtain ⟨rb, hrb⟩ : ∃ rb, Hid (w1.heap.size = rb) := ⟨_, rfl⟩
 rw [hrb.out] at HX2 ⊢
 rw [hw2.out]
 clear hb2
 go_wp2_with fail
 by_cases h40 : (l.length : Int) ≤ 40
 ·refine (small_any A l.length c w2 true (decide_eq_true h40)).mono ?_
  rintro e w3 ⟨rfl, hb3⟩
  have HB3 := Lib.hid (HB2.out.trans (hb3.mono HB2.out.size))
  have HT3 := Lib.hid (HT2.out.below hb3)
  have HR3 := Lib.hid (HR2.out.below hb3)
  have HX3 : Hid (w3.heap[rb]? = some (.cells (treeV Ar (f.flat 0).length cr next) 27 (0, 0))) := (hb3.block _ (Array.getElem?_eq_some_iff.1 HX2.out).1).trans HX2.out
  clear hb3
  by_cases h19 : (19 : Int) < s.length
  ·go_wp2_with fail
   refine (aliveW_any w3).mono ?_
   rintro e w4 ⟨rfl, hb4⟩
   have HB4 := Lib.hid (HB3.out.trans (hb4.mono HB3.out.size))
   clear hb4
   go_wp2_with fail
   go_ret
   exact ⟨rfl, HB4.out⟩
  by_cases h1 : (s.length : Int) < 1
  ·go_wp2_with fail
   refine (aliveW_any w3).mono ?_
   rintro e w4 ⟨rfl, hb4⟩
   have HB4 := Lib.hid (HB3.out.trans (hb4.mono HB3.out.size))
   clear hb4
   go_wp2_with fail
   go_ret
   exact ⟨rfl, HB4.out⟩
  have HL := Lib.hid (And.intro h1 h19)
  go_upto_region 4 with (fail)
  clear h1 h19 h40
  go_wp2_with fail
  refine (Eval_any HT3.out s As cs ((HA.out.below HB3.out).more HB3.out.size) HSS.out).mono ?_
  rintro e w4 ⟨Aa, ca, rfl, hra, hb4, _⟩
  have HRA := Lib.hid hra
  have HB4 := Lib.hid (HB3.out.trans (hb4.mono HB3.out.size))
  have HT4 := Lib.hid (HT3.out.below hb4)
  have HR4 := Lib.hid (HR3.out.below hb4)
  have HX4 : Hid (w4.heap[rb]? = some (.cells (treeV Ar (f.flat 0).length cr next) 27 (0, 0))) := (hb4.block _ (Array.getElem?_eq_some_iff.1 HX3.out).1).trans HX3.out
  obtain ⟨rs, hrs⟩ : ∃ rs, Hid (rightL s = rs) := ⟨_, rfl⟩
  obtain ⟨ea, hea⟩ : ∃ ea, Hid (evalW f s = ea) := ⟨_, rfl⟩
  obtain ⟨hep1, hep2⟩ := eval_point f (l := s) (by have := HL.out; omega) (by have := HL.out; omega)
  rw [hrs.out] at hep1
  rw [hea.out] at hep2
  have HEP := Lib.hid (And.intro hep1 hep2)
  rw [hea.out] at HRA
  rw [hrs.out, hea.out]
  have hsm2 : SmallSteps (s ++ [sPoint]) := ⟨by have := HL.out; simp; omega, fun x hx => by
   rcases List.mem_append.1 hx with hx | hx
   ·exact HSS.out.2 x hx
   ·rw [List.mem_singleton.1 hx]; exact ⟨by decide, by decide, fun p hp => by simp [sPoint] at hp⟩⟩
  have HSM2 := Lib.hid hsm2
  obtain ⟨pa, pc, w5, pb, pn, pd, w6, hr5, hr6, hpn, hat6, hb6, _⟩ := two_appends s As cs (B := w.heap.size) (w := w4) (HA.out.below HB4.out) HB4.out.size (by have := HL.out; omega) (sPoint, none, 0) (fun h => by simp [sPoint] at h) (by simp [sPoint])
  subst hpn
  unfold slotC sPoint at hr6
  have HAT6 := Lib.hid hat6
  have HB6 := Lib.hid (HB4.out.trans (hb6.mono HB4.out.size))
  have HT6 := Lib.hid (HT4.out.below hb6)
  have HR6 := Lib.hid (HR4.out.below hb6)
  have HX6 : Hid (w6.heap[rb]? = some (.cells (treeV Ar (f.flat 0).length cr next) 27 (0, 0))) := (hb6.block _ (Array.getElem?_eq_some_iff.1 HX4.out).1).trans HX4.out
  have HRA6 : Hid (intRow w6 (.slice Aa ea.length ca) ea) := row_block HRA.out fun b hb => hb6.block b (row_lt HRA.out hb)
  clear hra hb4 hep1 hep2 hsm2 hat6 hb6
  go_wp2_with (at_builtin; first | refine wpList_append_runI _ rfl _ _ 23 rfl (.slice (some ⟨w4.heap.size, 0, none⟩) 0 0) (.slice As s.length cs) (by simp [Act.eval]) (by simp [Act.eval]) hr5 ?_ | refine wpList_append_runI _ rfl _ _ 23 rfl (.slice pa s.length pc) (.slice (some ⟨w5.heap.size, 0, none⟩) 1 1) (by simp [Act.eval]) (by simp [Act.eval]) hr6 ?_)
  have hev := Eval_any HT6.out (s ++ [sPoint]) pb pd HAT6.out HSM2.out
  simp only [List.length_append, List.length_singleton] at hev
  refine hev.mono ?_
  clear hev
  rintro e w7 ⟨Ab, cb, rfl, hrb7, hb7, _⟩
  rw [HEP.out.1, HEP.out.2]
  rw [HEP.out.2] at hrb7
  have HRB7 := Lib.hid hrb7
  have HB7 := Lib.hid (HB6.out.trans (hb7.mono HB6.out.size))
  have HT7 := Lib.hid (HT6.out.below hb7)
  have HR7 := Lib.hid (HR6.out.below hb7)
  have HX7 : Hid (w7.heap[rb]? = some (.cells (treeV Ar (f.flat 0).length cr next) 27 (0, 0))) := (hb7.block _ (Array.getElem?_eq_some_iff.1 HX6.out).1).trans HX6.out
  have HRA7 : Hid (intRow w7 (.slice Aa ea.length ca) ea) := row_block HRA6.out fun b hb => hb7.block b (row_lt HRA6.out hb)
  clear hrb7 hb7 hr5 hr6
  go_wp2_with fail
  obtain ⟨w8, hw8⟩ : ∃ w8, Hid (w7.alloc (.cells #[.int .i64 3, .int .i64 4, .string ⟨#[]⟩, .slice none 0 0] 45) = w8) := ⟨_, rfl⟩
  have hb8 : Below w7.heap.size w7 w8 := by rw [← hw8.out]; exact (Below.refl _ w7).alloc (Nat.le_refl _) _
  have hx8 : w8.heap[w7.heap.size]? = some (.cells (slotC (sAll, none, 0)) 45 (0, 0)) := by rw [← hw8.out]; exact heap_alloc_new w7 _
  have hat8 : StepsAt w8 w8.heap.size (some ⟨w7.heap.size, 0, none⟩) [sAll] := fun _ => ⟨_, rfl, (Array.getElem?_eq_some_iff.1 hx8).1, fun k z hz => by
   have hk : k = 0 := by have := (List.getElem?_eq_some_iff.1 hz).1; simp at this; omega
   subst hk
   simp at hz
   subst hz
   rw [add_zero_block]
   exact ⟨none, 0, fun h => by simp [sAll] at h, by simp [sAll], cell_row hx8 0 _ rfl, cell_row hx8 1 _ rfl, cell_row hx8 2 _ rfl, cell_row hx8 3 _ rfl⟩⟩
  have HAT8 := Lib.hid hat8
  have HB8 := Lib.hid (HB7.out.trans (hb8.mono HB7.out.size))
  have HT8 := Lib.hid (HT7.out.below hb8)
  have HR8 := Lib.hid (HR7.out.below hb8)
  have HX8 : Hid (w8.heap[rb]? = some (.cells (treeV Ar (f.flat 0).length cr next) 27 (0, 0))) := (hb8.block _ (Array.getElem?_eq_some_iff.1 HX7.out).1).trans HX7.out
  have HRA8 : Hid (intRow w8 (.slice Aa ea.length ca) ea) := row_block HRA7.out fun b hb => hb8.block b (row_lt HRA7.out hb)
  have HRB8 : Hid (intRow w8 (.slice Ab ea.length cb) ea) := row_block HRB7.out fun b hb => hb8.block b (row_lt HRB7.out hb)
  clear hb8 hx8 hat8
  rw [hw8.out]
  refine (Eval_any HT8.out [sAll] (some ⟨w7.heap.size, 0, none⟩) 1 HAT8.out ⟨by decide, fun x hx => by rw [List.mem_singleton.1 hx]; exact ⟨by decide, by decide, fun p hp => by simp [sAll] at hp⟩⟩).mono ?_
  rintro e w9 ⟨Ac, cc, rfl, hrc9, hb9, _⟩
  rw [(eval_all f).1, (eval_all f).2]
  rw [(eval_all f).2] at hrc9
  have HRC9 := Lib.hid hrc9
  have HB9 := Lib.hid (HB8.out.trans (hb9.mono HB8.out.size))
  have HR9 := Lib.hid (HR8.out.below hb9)
  have HIN := Lib.hid HT8.out.inv
  have HX9 : Hid (w9.heap[rb]? = some (.cells (treeV Ar (f.flat 0).length cr next) 27 (0, 0))) := (hb9.block _ (Array.getElem?_eq_some_iff.1 HX8.out).1).trans HX8.out
  have HRA9 : Hid (intRow w9 (.slice Aa ea.length ca) ea) := row_block HRA8.out fun b hb => hb9.block b (row_lt HRA8.out hb)
  have HRB9 : Hid (intRow w9 (.slice Ab ea.length cb) ea) := row_block HRB8.out fun b hb => hb9.block b (row_lt HRB8.out hb)
  clear hrc9 hb9
  go_wp2_with fail
  refine (aliveW_any w9).mono ?_
  rintro e v1 ⟨rfl, hc1⟩
  have HC1 := Lib.hid hc1
  have HD1 := Lib.hid (HB9.out.trans (hc1.mono HB9.out.size))
  clear hc1
  go_wp2_with fail
  refine (SameIds_any _ _ ea ea v1 (row_block HRA9.out fun b hb => HC1.out.block b (row_lt HRA9.out hb)) (row_block HRB9.out fun b hb => HC1.out.block b (row_lt HRB9.out hb)) true (decide_eq_true rfl)).mono ?_
  rintro e v2 ⟨rfl, hc2⟩
  have HC2 : Hid (Below w9.heap.size w9 v2) := HC1.out.trans (hc2.mono HC1.out.size)
  have HD2 := Lib.hid (HB9.out.trans (HC2.out.mono HB9.out.size))
  have hx2 := (HC2.out.block _ (Array.getElem?_eq_some_iff.1 HX9.out).1).trans HX9.out
  have y0 : v2.cell? ⟨rb, 0, none⟩ = some (.slice Ar (f.flat 0).length cr) := cell_row hx2 0 _ rfl
  have y1 : v2.cell? ⟨rb, 1, none⟩ = some (.int .i64 next) := cell_row hx2 1 _ rfl
  have HRV := Lib.hid (HR9.out.below HC2.out)
  clear hc2 hx2
  go_wp2_with fail
  refine (ROrder_any (f.flat 0) Ar cr next v2 HRV.out.1 HIN.out.rows).mono ?_
  rintro e v3 ⟨Ao, co, rfl, hro, hc3⟩
  rw [Fo.flat_ids] at hro
  have HRO := Lib.hid hro
  have hlen : (f.flat 0).length = f.ids.length := by rw [Fo.flat_len, Fo.ids_len]
  rw [hlen]
  have HC3 : Hid (Below w9.heap.size w9 v3) := HC2.out.trans (hc3.mono HC2.out.size)
  have HD3 := Lib.hid (HB9.out.trans (HC3.out.mono HB9.out.size))
  rw [hlen] at HRO
  clear hro hc3 hlen y0 y1
  go_wp2_with fail
  refine (SameIds_any _ _ f.ids f.ids v3 (row_block HRC9.out fun b hb => HC3.out.block b (row_lt HRC9.out hb)) HRO.out true (decide_eq_true rfl)).mono ?_
  rintro e v4 ⟨rfl, hc4⟩
  have HD4 := Lib.hid (HD3.out.trans (hc4.mono HD3.out.size))
  clear hc4
  go_wp2_with fail
  go_ret
  exact ⟨rfl, HD4.out⟩
 ·refine (small_any A l.length c w2 false (decide_eq_false h40)).mono ?_
  rintro e w3 ⟨rfl, hb3⟩
  have HB3 := Lib.hid (HB2.out.trans (hb3.mono HB2.out.size))
  have HT3 := Lib.hid (HT2.out.below hb3)
  have HR3 := Lib.hid (HR2.out.below hb3)
  have HX3 : Hid (w3.heap[rb]? = some (.cells (treeV Ar (f.flat 0).length cr next) 27 (0, 0))) := (hb3.block _ (Array.getElem?_eq_some_iff.1 HX2.out).1).trans HX2.out
  clear hb3
  go_wp2_with fail
  refine (aliveW_any w3).mono ?_
  rintro e w4 ⟨rfl, hb4⟩
  have HB4 := Lib.hid (HB3.out.trans (hb4.mono HB3.out.size))
  clear hb4
  go_wp2_with fail
  go_ret
  exact ⟨rfl, HB4.out⟩
end
section
open Go.RowKit Go.ChangeShapes Go.WideShapes Go.Deep
theorem add_more (ad : Addr) (a j : Nat) (hj : j ≠ 0) : ad.add (a + j) = ⟨(ad.add a).block, (ad.add a).off + j, none⟩ := by
 rw [← add_of_add]
 generalize ad.add a = b
 unfold Addr.add
 rw [if_neg hj]
theorem slice_structs {H : Type} {enc : TypeId × Value → H} {P : Program} {w : World} {t e : TypeId} {fs : Array Field} {fuel : Nat} {cs : List Value} {x : DataW H × List MemPlace} (ht : P.underlying t = some (.slice e)) (he : P.underlying e = some (.struct fs))
  (h1 : oneCellFields P fs = true) (h2 : P.cellsOf e = fs.size) (h : DataW.trod enc P w 0 (fun _ => true) true fuel t cs = some x) :
  (cs = [.slice none 0 0] ∧ x.1 = .nil) ∨
  ∃ (a : Addr) (len cap : Nat) (D : Nat → DataW H) (rest : List (DataW H)), cs = [.slice (some a) len cap] ∧ len ≤ cap ∧ cap ≤ maxLen ∧ x.1 = .slice ((List.range len).map D) rest ∧
   ∀ i, i < len → ∃ (ys : List (DataW H × List MemPlace)) (n : Nat), D i = .agg (ys.map (·.1)) ∧ ys.length = fs.size ∧
    ∀ (j : Nat) (f : Field), fs[j]? = some f → ∃ v y, w.cell? (a.add (i * fs.size + j)) = some v ∧ ys[j]? = some y ∧ DataW.trod enc P w 0 (fun _ => true) true n f.type [v] = some y := by
 rcases open_slice ht h with ⟨e1, e2⟩ | ⟨a, len, cap, m, n, D, Pl, e1, _, k1, k2, k3, e2, each⟩
 ·exact .inl ⟨e1, by rw [e2]⟩
 ·right
  have hm : m = cap := by simpa using k3
  refine ⟨a, len, cap, D, _, e1, k1, k2, by rw [e2], fun i hi => ?_⟩
  obtain ⟨row, hrow, hread⟩ := each i (by omega)
  obtain ⟨_, hl, hat⟩ := World.cells?_some hrow
  obtain ⟨ys, n', _, hy, _, hyl, hfield⟩ := DataW.trod_struct he hread
  refine ⟨ys, n', by rw [Prod.mk.injEq] at hy; exact hy.1, hyl, fun j f hj => ?_⟩
  have hjs : j < fs.size := (Array.getElem?_eq_some_iff.1 hj).1
  obtain ⟨o1, o2⟩ := hone_of h1 j f hj
  have hjr : j < row.length := by rw [hl, h2]; exact hjs
  have hv := hat j (by rw [h2]; exact hjs)
  have hone : (row.drop f.offset).take (P.cellsOf f.type) = [row[j]] := by rw [o1, o2, List.drop_eq_getElem_cons hjr]; rfl
  have hr := hfield j f hj
  rw [hone] at hr
  have hys : ys[j]? = some (ys[j]'(by omega)) := List.getElem?_eq_getElem _
  refine ⟨row[j], _, ?_, hys, hr.trans hys⟩
  rw [h2, add_of_add, List.getElem?_eq_getElem hjr] at hv
  exact hv
theorem list_of {α : Type} {P : Nat → α → Prop} : ∀ (n : Nat), (∀ i, i < n → ∃ x, P i x) → ∃ l : List α, l.length = n ∧ ∀ i x, l[i]? = some x → P i x
 | 0, _ => ⟨[], rfl, fun _ _ h => by simp at h⟩
 | n + 1, h => by
  obtain ⟨l, hl, hp⟩ := list_of n (fun i hi => h i (by omega))
  obtain ⟨x, hx⟩ := h n (by omega)
  refine ⟨l ++ [x], by simp [hl], fun i y hy => ?_⟩
  by_cases hi : i < l.length
  ·rw [List.getElem?_append_left hi] at hy; exact hp i y hy
  ·rw [List.getElem?_append_right (by omega)] at hy
   have : i - l.length = 0 := by
    have := (List.getElem?_eq_some_iff.1 hy).1
    simp at this; omega
   rw [this] at hy
   simp at hy; subst hy
   rw [show i = n by omega]; exact hx
theorem bulkAll_range {H : Type} (D : Nat → DataW H) : ∀ n i, i < n → Rows.uptoBulk (D i) ≤ Rows.uptoBulkAll ((List.range n).map D) := by
 have app : ∀ (a b : List (DataW H)), Rows.uptoBulkAll (a ++ b) = Rows.uptoBulkAll a + Rows.uptoBulkAll b := by
  intro a b
  induction a with
  | nil => simp [Rows.uptoBulkAll]
  | cons x a ih => simp only [List.cons_append, Rows.uptoBulkAll, ih]; omega
 intro n
 induction n with
 | zero => intro i h; omega
 | succ n ih =>
  intro i h
  rw [List.range_succ, List.map_append, app]
  by_cases hi : i < n
  ·have := ih i hi; omega
  ·have : i = n := by omega
   subst this
   simp [Rows.uptoBulkAll]
theorem bulkAll_sum {H α : Type} (f : α → Nat) (D : Nat → DataW H) : ∀ (l : List α), (∀ i x, l[i]? = some x → f x ≤ Rows.uptoBulk (D i)) → (l.map f).sum ≤ Rows.uptoBulkAll ((List.range l.length).map D) := by
 have app : ∀ (a b : List (DataW H)), Rows.uptoBulkAll (a ++ b) = Rows.uptoBulkAll a + Rows.uptoBulkAll b := by
  intro a b
  induction a with
  | nil => simp [Rows.uptoBulkAll]
  | cons x a ih => simp only [List.cons_append, Rows.uptoBulkAll, ih]; omega
 have key : ∀ (n : Nat) (l : List α), l.length = n → (∀ i x, l[i]? = some x → f x ≤ Rows.uptoBulk (D i)) → (l.map f).sum ≤ Rows.uptoBulkAll ((List.range n).map D) := by
  intro n
  induction n with
  | zero => intro l hl _; rw [List.eq_nil_of_length_eq_zero hl]; simp
  | succ n ih =>
   intro l hl h
   have hne : l ≠ [] := fun e => by rw [e] at hl; cases hl
   rw [← List.dropLast_concat_getLast hne, List.map_append, List.sum_append, List.range_succ, List.map_append, app]
   have h1 := ih l.dropLast (by simp [hl]) (fun i x hx => h i x (by
    have hi := (List.getElem?_eq_some_iff.1 hx).1
    rw [List.getElem?_dropLast] at hx
    split at hx
    ·exact hx
    ·cases hx))
   have h2 := h n (l.getLast hne) (by rw [List.getLast_eq_getElem, ← List.getElem?_eq_getElem, hl]; rfl)
   simp only [List.map_cons, List.map_nil, List.sum_cons, List.sum_nil, Rows.uptoBulkAll]
   omega
 intro l h
 exact key l.length l rfl h
theorem sum_ones {α : Type} (l : List α) : (l.map (fun _ => 1)).sum = l.length := by
 induction l with
 | nil => rfl
 | cons x l ih => rw [List.map_cons, List.sum_cons, ih, List.length_cons]; omega
end
section
open Go.RowKit Go.ChangeShapes Go.WideShapes Go.Deep
theorem open_attrs {W : World} {H : Type} {enc : TypeId × Value → H} {fuel : Nat} {cs : List Value} {x : DataW H × List MemPlace} (h : DataW.trod enc Tryz.prog W 0 (fun _ => true) true fuel 47 cs = some x) :
  ∃ (A : Option Addr) (c : Nat) (l : List AttrD), cs = [.slice A l.length c] ∧ AttrsAt W W.heap.size A l ∧ l.length ≤ c ∧ (A = none → c = 0) ∧ l.length ≤ Rows.uptoBulk x.1 ∧ (∀ a ∈ l, a.name.length + a.value.length ≤ Rows.uptoBulk x.1) := by
 rcases slice_structs Tryz.underlying47 Tryz.underlying77 (by kernel_rfl) (by kernel_rfl) h with ⟨rfl, hx⟩ | ⟨a, len, cap, D, rest, rfl, hlc, hcm, hx, hf⟩
 ·exact ⟨none, 0, [], rfl, fun h => absurd h (by simp), Nat.le_refl _, fun _ => rfl, by simp, by simp⟩
 ·rw [hx]
  obtain ⟨l, hl, hp⟩ := list_of (P := fun i (y : AttrD) => W.cell? (a.add (i * 2)) = some (strV y.name) ∧ W.cell? ⟨(a.add (i * 2)).block, (a.add (i * 2)).off + 1, none⟩ = some (strV y.value) ∧ y.name.length + y.value.length + 1 ≤ Rows.uptoBulk (D i)) len (fun i hi => by
   obtain ⟨ys, n, hD, hyl, hj⟩ := hf i hi
   obtain ⟨v0, y0, hc0, hy0, ht0⟩ := hj 0 _ rfl
   obtain ⟨v1, y1, hc1, hy1, ht1⟩ := hj 1 _ rfl
   obtain ⟨s0, e0, rfl, _⟩ := DataW.trod_string Tryz.underlying9 ht0
   obtain ⟨s1, e1, rfl, _⟩ := DataW.trod_string Tryz.underlying9 ht1
   injection e0 with e0 _; subst e0
   injection e1 with e1 _; subst e1
   refine ⟨⟨s0.data.toList, s1.data.toList⟩, ?_, ?_, ?_⟩
   ·rw [Nat.add_zero] at hc0
    rw [show i * 2 = i * (_ : Nat) from rfl]; exact hc0
   ·rw [add_more _ _ _ (by decide)] at hc1; exact hc1
   ·rw [hD]
    match ys, hyl, hy0, hy1 with
    | [z0, z1], _, hy0, hy1 =>
     simp at hy0 hy1
     subst hy0; subst hy1
     simp [Rows.uptoBulk, Rows.uptoBulkAll]
     omega)
  refine ⟨some a, cap, l, by rw [hl], ?_, by omega, (fun h => by cases h), ?_, ?_⟩
  ·intro hpos
   have h0 : l[0]? = some (l[0]'hpos) := List.getElem?_eq_getElem hpos
   have hb := World.block_lt_of_cell? W _ (hp 0 _ h0).1
   rw [block_of_add] at hb
   exact ⟨a, rfl, hb, fun k y hy => ⟨(hp k y hy).1, (hp k y hy).2.1⟩⟩
  ·have := bulkAll_sum (fun _ : AttrD => 1) D l (fun i y hy => by have := (hp i y hy).2.2; omega)
   rw [hl] at this
   simp only [Rows.uptoBulk]
   have e := sum_ones l
   omega
  ·intro y hy
   obtain ⟨k, hk⟩ := List.mem_iff_getElem?.1 hy
   have h1 := (hp k y hk).2.2
   have h2 := bulkAll_range D len k (by rw [← hl]; exact (List.getElem?_eq_some_iff.1 hk).1)
   simp only [Rows.uptoBulk]
   omega
def NilAt (w : World) (A : Option Addr) (l : List ItemD) : Prop := ∀ ad, A = some ad → ∀ k x A' c', l[k]? = some x → w.cell? ⟨(ad.add (k * 5)).block, (ad.add (k * 5)).off + 4, none⟩ = some (.slice A' x.attrs.length c') → A' = none → c' = 0
theorem open_items {W : World} {H : Type} {enc : TypeId × Value → H} {v : Value} {d : DataW H} {p : List MemPlace} (hok : ∃ a n c, v = .slice a n c) (h : DataW.Trod enc Tryz.prog W 0 (fun _ => true) true 22 v d p) (hbulk : Rows.uptoBulk d ≤ 1048576) :
  ∃ (A : Option Addr) (c : Nat) (l : List ItemD), v = .slice A l.length c ∧ ItemsAt W W.heap.size A l ∧ SmallDoc l ∧ l.length ≤ 1048576 ∧ textSum l ≤ 1048576 ∧ NilAt W A l := by
 obtain ⟨va, vn, vc, rfl⟩ := hok
 obtain ⟨fuel, h⟩ := h
 rcases slice_structs Tryz.underlying22 Tryz.underlying75 (by kernel_rfl) (by kernel_rfl) h with ⟨e, e2⟩ | ⟨a, len, cap, D, rest, e, hlc, hcm, e2, hf⟩
 ·injection e with e _
  injection e with e1 e2' e3
  subst e1; subst e2'; subst e3
  refine ⟨none, 0, [], rfl, fun h => absurd h (by simp), ⟨⟨by simp, fun _ _ h => by simp at h⟩, by simp [textSum]⟩, by simp, by simp [textSum], fun _ h => by cases h⟩
 ·injection e with e _
  injection e with e1 e2' e3
  subst e1
  have e2'' := e2'.symm
  have e3'' := e3.symm
  subst e2''; subst e3''
  have e2 : d = .slice ((List.range len).map D) rest := e2
  subst e2
  obtain ⟨l, hl, hp⟩ := list_of (P := fun i (x : ItemD) => ∃ (A' : Option Addr) (c' : Nat), AttrsAt W W.heap.size A' x.attrs ∧ x.attrs.length ≤ c' ∧ W.cell? (a.add (i * 5)) = some (.int .i64 x.level) ∧ W.cell? ⟨(a.add (i * 5)).block, (a.add (i * 5)).off + 1, none⟩ = some (.int .i64 x.kind) ∧
    W.cell? ⟨(a.add (i * 5)).block, (a.add (i * 5)).off + 2, none⟩ = some (strV x.name) ∧ W.cell? ⟨(a.add (i * 5)).block, (a.add (i * 5)).off + 3, none⟩ = some (strV x.text) ∧ W.cell? ⟨(a.add (i * 5)).block, (a.add (i * 5)).off + 4, none⟩ = some (.slice A' x.attrs.length c') ∧
    (-9223372036854775808 ≤ x.level ∧ x.level ≤ 9223372036854775807) ∧ x.name.length + x.text.length + x.attrs.length + 1 ≤ Rows.uptoBulk (D i) ∧ (∀ y ∈ x.attrs, y.name.length + y.value.length ≤ Rows.uptoBulk (D i)) ∧ (A' = none → c' = 0)) len (fun i hi => by
   obtain ⟨ys, n, hD, hyl, hj⟩ := hf i hi
   obtain ⟨v0, y0, hc0, hy0, ht0⟩ := hj 0 _ rfl
   obtain ⟨v1, y1, hc1, hy1, ht1⟩ := hj 1 _ rfl
   obtain ⟨v2, y2, hc2, hy2, ht2⟩ := hj 2 _ rfl
   obtain ⟨v3, y3, hc3, hy3, ht3⟩ := hj 3 _ rfl
   obtain ⟨v4, y4, hc4, hy4, ht4⟩ := hj 4 _ rfl
   obtain ⟨n0, e0, rfl, w0⟩ := DataW.trod_int Tryz.underlying3 ht0
   obtain ⟨n1, e1, rfl, _⟩ := DataW.trod_int Tryz.underlying3 ht1
   obtain ⟨s2, e2, rfl, _⟩ := DataW.trod_string Tryz.underlying9 ht2
   obtain ⟨s3, e3, rfl, _⟩ := DataW.trod_string Tryz.underlying9 ht3
   obtain ⟨A', c', la, e4, hat, hlc', hnil, hb1, hb2⟩ := open_attrs ht4
   injection e0 with e0 _; subst e0
   injection e1 with e1 _; subst e1
   injection e2 with e2 _; subst e2
   injection e3 with e3 _; subst e3
   injection e4 with e4 _; subst e4
   rw [add_more _ _ _ (by decide)] at hc1 hc2 hc3 hc4
   rw [Nat.add_zero] at hc0
   refine ⟨⟨n0, n1, s2.data.toList, s3.data.toList, la⟩, A', c', hat, hlc', hc0, hc1, hc2, hc3, hc4, ?_, ?_, ?_, hnil⟩
   ·simp [Lit.wf, IntKind.min, IntKind.max, IntKind.signed, IntKind.bits] at w0
    show -9223372036854775808 ≤ n0 ∧ n0 ≤ 9223372036854775807
    exact ⟨by omega, by omega⟩
   ·rw [hD]
    match ys, hyl, hy0, hy1, hy2, hy3, hy4 with
    | [z0, z1, z2, z3, z4], _, hy0, hy1, hy2, hy3, hy4 =>
     simp at hy0 hy1 hy2 hy3 hy4
     subst hy0; subst hy1; subst hy2; subst hy3; subst hy4
     simp [Rows.uptoBulk, Rows.uptoBulkAll]
     omega
   ·intro y hy
    rw [hD]
    have := hb2 y hy
    match ys, hyl, hy0, hy1, hy2, hy3, hy4 with
    | [z0, z1, z2, z3, z4], _, hy0, hy1, hy2, hy3, hy4 =>
     simp at hy0 hy1 hy2 hy3 hy4
     subst hy0; subst hy1; subst hy2; subst hy3; subst hy4
     simp [Rows.uptoBulk, Rows.uptoBulkAll]
     omega)
  simp only [Rows.uptoBulk] at hbulk
  have hone : ∀ k, k < len → Rows.uptoBulk (D k) ≤ 1048576 := fun k hk => by have := bulkAll_range D len k hk; omega
  have hcount := bulkAll_sum (fun _ : ItemD => 1) D l (fun i y hy => by obtain ⟨_, _, _, _, _, _, _, _, _, _, h, _⟩ := hp i y hy; omega)
  have htext := bulkAll_sum (fun x : ItemD => x.text.length) D l (fun i y hy => by obtain ⟨_, _, _, _, _, _, _, _, _, _, h, _⟩ := hp i y hy; omega)
  have e := sum_ones l
  rw [hl] at hcount htext
  have hl2 : l.length ≤ 1048576 := by omega
  have ht2 : textSum l ≤ 1048576 := by unfold textSum; omega
  refine ⟨some a, cap, l, by rw [hl], ?_, ⟨⟨by omega, fun k x hx => ?_⟩, by omega⟩, hl2, ht2, ?_⟩
  ·intro hpos
   have h0 : l[0]? = some (l[0]'hpos) := List.getElem?_eq_getElem hpos
   obtain ⟨_, _, _, _, hc0, _⟩ := hp 0 _ h0
   have hb := World.block_lt_of_cell? W _ hc0
   rw [block_of_add] at hb
   refine ⟨a, rfl, hb, fun k x hx => ?_⟩
   obtain ⟨A', c', k1, k2, k3, k4, k5, k6, k7, _⟩ := hp k x hx
   exact ⟨A', c', k1, k2, k3, k4, k5, k6, k7⟩
  ·obtain ⟨A', c', k1, k2, k3, k4, k5, k6, k7, k8, k9, k10⟩ := hp k x hx
   have hk := hone k (by rw [← hl]; exact (List.getElem?_eq_some_iff.1 hx).1)
   exact ⟨by omega, by omega, by omega, fun j y hy => by have := k10.1 y (List.mem_of_getElem? hy); omega, k8⟩
  ·intro ad had k x A2 c2 hx hcell hA2
   injection had with had
   subst had
   obtain ⟨A', c', k1, k2, k3, k4, k5, k6, k7, k8, k9, k10⟩ := hp k x hx
   rw [k7] at hcell
   injection hcell with hcell
   injection hcell with q1 _ q3
   rw [← q3]
   exact k10.2 (by rw [q1]; exact hA2)
end
section
open Go.RowKit Go.ChangeShapes Go.WideShapes Go.Deep
def weightP (p : PredD) : Nat := p.name.length + p.value.length + 1
def weightS (s : StepD) : Nat := s.name.length + (s.preds.map weightP).sum + 1
theorem open_preds {W : World} {H : Type} {enc : TypeId × Value → H} {fuel : Nat} {cs : List Value} {x : DataW H × List MemPlace} (h : DataW.trod enc Tryz.prog W 0 (fun _ => true) true fuel 43 cs = some x) :
  ∃ (A : Option Addr) (c : Nat) (l : List PredD), cs = [.slice A l.length c] ∧ PredsAt W W.heap.size A l ∧ l.length ≤ c ∧ (l.map weightP).sum ≤ Rows.uptoBulk x.1 ∧ (∀ p ∈ l, p.num ≤ 9223372036854775807 ∧ -9223372036854775808 ≤ p.num ∧ p.kind ≤ 9223372036854775807 ∧ -9223372036854775808 ≤ p.kind) := by
 rcases slice_structs Tryz.underlying43 Tryz.underlying102 (by kernel_rfl) (by kernel_rfl) h with ⟨rfl, hx⟩ | ⟨a, len, cap, D, rest, rfl, hlc, hcm, hx, hf⟩
 ·exact ⟨none, 0, [], rfl, fun h => absurd h (by simp), Nat.le_refl _, by simp, by simp⟩
 ·rw [hx]
  obtain ⟨l, hl, hp⟩ := list_of (P := fun i (y : PredD) => (W.cell? (a.add (i * 4)) = some (.int .i64 y.kind) ∧ W.cell? ⟨(a.add (i * 4)).block, (a.add (i * 4)).off + 1, none⟩ = some (.int .i64 y.num) ∧
    W.cell? ⟨(a.add (i * 4)).block, (a.add (i * 4)).off + 2, none⟩ = some (.string ⟨y.name.toArray⟩) ∧ W.cell? ⟨(a.add (i * 4)).block, (a.add (i * 4)).off + 3, none⟩ = some (.string ⟨y.value.toArray⟩)) ∧
    weightP y ≤ Rows.uptoBulk (D i) ∧ (y.num ≤ 9223372036854775807 ∧ -9223372036854775808 ≤ y.num ∧ y.kind ≤ 9223372036854775807 ∧ -9223372036854775808 ≤ y.kind)) len (fun i hi => by
   obtain ⟨ys, n, hD, hyl, hj⟩ := hf i hi
   obtain ⟨v0, y0, hc0, hy0, ht0⟩ := hj 0 _ rfl
   obtain ⟨v1, y1, hc1, hy1, ht1⟩ := hj 1 _ rfl
   obtain ⟨v2, y2, hc2, hy2, ht2⟩ := hj 2 _ rfl
   obtain ⟨v3, y3, hc3, hy3, ht3⟩ := hj 3 _ rfl
   obtain ⟨n0, e0, rfl, w0⟩ := DataW.trod_int Tryz.underlying3 ht0
   obtain ⟨n1, e1, rfl, w1⟩ := DataW.trod_int Tryz.underlying3 ht1
   obtain ⟨s2, e2, rfl, _⟩ := DataW.trod_string Tryz.underlying9 ht2
   obtain ⟨s3, e3, rfl, _⟩ := DataW.trod_string Tryz.underlying9 ht3
   injection e0 with e0 _; subst e0
   injection e1 with e1 _; subst e1
   injection e2 with e2 _; subst e2
   injection e3 with e3 _; subst e3
   rw [add_more _ _ _ (by decide)] at hc1 hc2 hc3
   rw [Nat.add_zero] at hc0
   refine ⟨⟨n0, n1, s2.data.toList, s3.data.toList⟩, ⟨hc0, hc1, hc2, hc3⟩, ?_, ?_⟩
   ·rw [hD]
    match ys, hyl, hy0, hy1, hy2, hy3 with
    | [z0, z1, z2, z3], _, hy0, hy1, hy2, hy3 =>
     simp at hy0 hy1 hy2 hy3
     subst hy0; subst hy1; subst hy2; subst hy3
     simp [Rows.uptoBulk, Rows.uptoBulkAll, weightP]
     omega
   ·simp [Lit.wf, IntKind.min, IntKind.max, IntKind.signed, IntKind.bits] at w0 w1
    show n1 ≤ 9223372036854775807 ∧ -9223372036854775808 ≤ n1 ∧ n0 ≤ 9223372036854775807 ∧ -9223372036854775808 ≤ n0
    exact ⟨by omega, by omega, by omega, by omega⟩)
  refine ⟨some a, cap, l, by rw [hl], ?_, by omega, ?_, fun p hpm => ?_⟩
  ·intro hpos
   have h0 : l[0]? = some (l[0]'hpos) := List.getElem?_eq_getElem hpos
   have hb := World.block_lt_of_cell? W _ (hp 0 _ h0).1.1
   rw [block_of_add] at hb
   exact ⟨a, rfl, hb, fun k y hy => (hp k y hy).1⟩
  ·have := bulkAll_sum weightP D l (fun i y hy => (hp i y hy).2.1)
   rw [hl] at this
   simp only [Rows.uptoBulk]
   omega
  ·obtain ⟨k, hk⟩ := List.mem_iff_getElem?.1 hpm
   exact (hp k p hk).2.2
theorem open_steps {W : World} {H : Type} {enc : TypeId × Value → H} {v : Value} {d : DataW H} {p : List MemPlace} (hok : ∃ a n c, v = .slice a n c) (h : DataW.Trod enc Tryz.prog W 0 (fun _ => true) true 23 v d p) :
  ∃ (A : Option Addr) (c : Nat) (l : List StepD), v = .slice A l.length c ∧ StepsAt W W.heap.size A l ∧ (l.map weightS).sum ≤ Rows.uptoBulk d ∧ (∀ s ∈ l, ∀ p ∈ s.preds, p.num ≤ 9223372036854775807) := by
 obtain ⟨va, vn, vc, rfl⟩ := hok
 obtain ⟨fuel, h⟩ := h
 rcases slice_structs Tryz.underlying23 Tryz.underlying45 (by kernel_rfl) (by kernel_rfl) h with ⟨e, e2⟩ | ⟨a, len, cap, D, rest, e, hlc, hcm, e2, hf⟩
 ·injection e with e _
  injection e with e1 e2' e3
  subst e1; subst e2'; subst e3
  exact ⟨none, 0, [], rfl, fun h => absurd h (by simp), by simp, by simp⟩
 ·injection e with e _
  injection e with e1 e2' e3
  subst e1
  have e2'' := e2'.symm
  have e3'' := e3.symm
  subst e2''; subst e3''
  have e2 : d = .slice ((List.range len).map D) rest := e2
  subst e2
  obtain ⟨l, hl, hp⟩ := list_of (P := fun i (s : StepD) => (∃ A' c, PredsAt W W.heap.size A' s.preds ∧ s.preds.length ≤ c ∧
    W.cell? (a.add (i * 4)) = some (.int .i64 s.axis) ∧ W.cell? ⟨(a.add (i * 4)).block, (a.add (i * 4)).off + 1, none⟩ = some (.int .i64 s.test) ∧
    W.cell? ⟨(a.add (i * 4)).block, (a.add (i * 4)).off + 2, none⟩ = some (.string ⟨s.name.toArray⟩) ∧ W.cell? ⟨(a.add (i * 4)).block, (a.add (i * 4)).off + 3, none⟩ = some (.slice A' s.preds.length c)) ∧
    weightS s ≤ Rows.uptoBulk (D i) ∧ ∀ p ∈ s.preds, p.num ≤ 9223372036854775807) len (fun i hi => by
   obtain ⟨ys, n, hD, hyl, hj⟩ := hf i hi
   obtain ⟨v0, y0, hc0, hy0, ht0⟩ := hj 0 _ rfl
   obtain ⟨v1, y1, hc1, hy1, ht1⟩ := hj 1 _ rfl
   obtain ⟨v2, y2, hc2, hy2, ht2⟩ := hj 2 _ rfl
   obtain ⟨v3, y3, hc3, hy3, ht3⟩ := hj 3 _ rfl
   obtain ⟨n0, e0, rfl, w0⟩ := DataW.trod_int Tryz.underlying3 ht0
   obtain ⟨n1, e1, rfl, w1⟩ := DataW.trod_int Tryz.underlying3 ht1
   obtain ⟨s2, e2, rfl, _⟩ := DataW.trod_string Tryz.underlying9 ht2
   obtain ⟨A', c', la, e3, hat, hlc', hb1, hb2⟩ := open_preds ht3
   injection e0 with e0 _; subst e0
   injection e1 with e1 _; subst e1
   injection e2 with e2 _; subst e2
   injection e3 with e3 _; subst e3
   rw [add_more _ _ _ (by decide)] at hc1 hc2 hc3
   rw [Nat.add_zero] at hc0
   refine ⟨⟨n0, n1, s2.data.toList, la⟩, ⟨A', c', hat, hlc', hc0, hc1, hc2, hc3⟩, ?_, fun p hp => (hb2 p hp).1⟩
   rw [hD]
   match ys, hyl, hy0, hy1, hy2, hy3 with
   | [z0, z1, z2, z3], _, hy0, hy1, hy2, hy3 =>
    simp at hy0 hy1 hy2 hy3
    subst hy0; subst hy1; subst hy2; subst hy3
    simp [Rows.uptoBulk, Rows.uptoBulkAll, weightS]
    omega)
  refine ⟨some a, cap, l, by rw [hl], ?_, ?_, fun s hs => ?_⟩
  ·intro hpos
   have h0 : l[0]? = some (l[0]'hpos) := List.getElem?_eq_getElem hpos
   obtain ⟨⟨_, _, _, _, hc0, _⟩, _⟩ := hp 0 _ h0
   have hb := World.block_lt_of_cell? W _ hc0
   rw [block_of_add] at hb
   exact ⟨a, rfl, hb, fun k s hs => (hp k s hs).1⟩
  ·have := bulkAll_sum weightS D l (fun i y hy => (hp i y hy).2.1)
   rw [hl] at this
   simp only [Rows.uptoBulk]
   omega
  ·obtain ⟨k, hk⟩ := List.mem_iff_getElem?.1 hs
   exact (hp k s hk).2.2
theorem sum_mem {α : Type} (f : α → Nat) : ∀ (l : List α) (x : α), x ∈ l → f x ≤ (l.map f).sum
 | [], _, h => by cases h
 | y :: l, x, h => by
  rw [List.map_cons, List.sum_cons]
  rcases List.mem_cons.1 h with rfl | h
  ·omega
  ·have := sum_mem f l x h; omega
theorem sum_len {α : Type} (f : α → Nat) (hf : ∀ x, 1 ≤ f x) : ∀ (l : List α), l.length ≤ (l.map f).sum
 | [] => by simp
 | y :: l => by
  rw [List.map_cons, List.sum_cons, List.length_cons]
  have := sum_len f hf l
  have := hf y
  omega
theorem step_smallW {s : StepD} (h : weightS s ≤ 1048576) : SmallStep s := by
 have h3 := sum_len weightP (fun x => by unfold weightP; omega) s.preds
 have h2b : weightS s = s.name.length + (s.preds.map weightP).sum + 1 := rfl
 refine ⟨by omega, by omega, fun p hp => ?_⟩
 have h4 := sum_mem weightP s.preds p hp
 have h5 : weightP p = p.name.length + p.value.length + 1 := rfl
 exact ⟨by omega, by omega⟩
theorem open_stepsW {W : World} {H : Type} {enc : TypeId × Value → H} {v : Value} {d : DataW H} {p : List MemPlace} (hok : ∃ a n c, v = .slice a n c) (h : DataW.Trod enc Tryz.prog W 0 (fun _ => true) true 23 v d p) (hbulk : Rows.uptoBulk d ≤ 1048576) :
  ∃ (A : Option Addr) (c : Nat) (l : List StepD), v = .slice A l.length c ∧ StepsAt W W.heap.size A l ∧ SmallSteps l ∧ l.length ≤ 1048576 := by
 obtain ⟨A, c, l, e, hI, hw, _⟩ := open_steps hok h
 have h1 := sum_len weightS (fun x => by unfold weightS; omega) l
 exact ⟨A, c, l, e, hI, ⟨by omega, fun s hs => step_smallW (by have := sum_mem weightS l s hs; omega)⟩, by omega⟩
end
section
def sT (axis test : Int) : StepD := ⟨axis, test, [], []⟩
section
variable {f : Fo} {next : Int}
theorem kind_two (h : InvF f next) {y : Int} (hy : y ∈ f.ids) : (entW f y).d.kind = 1 ∨ (entW f y).d.kind = 2 := by
 obtain ⟨lv, _, _, _, _, _, _, _, hp, _⟩ := h.stand (ent_of h hy).2
 unfold partsE at hp
 split at hp
 ·rename_i hk; exact .inr hk.1
 ·split at hp
  ·cases hp
  ·rename_i hk
   simp only [not_or, Decidable.not_not] at hk
   exact .inl hk.1
theorem right_test (s : List StepD) (axis : Int) {t : Int} (ht : 2 ≤ t ∧ t ≤ 4) : rightL (s ++ [sT axis t]) = rightL (s ++ [sT axis 4]) := by
 unfold rightL
 rw [List.all_append, List.all_append, List.length_append, List.length_append]
 have e : stepB (sT axis t) = stepB (sT axis 4) := by
  unfold stepB sT
  have h1 : decide (1 ≤ t ∧ t ≤ 4) = true := decide_eq_true ⟨by omega, ht.2⟩
  have h2 : ¬ t = 1 := by omega
  simp [h1, h2]
 simp [e]
def reachW (f : Fo) (G : Int → Bool) (axis y : Int) : Bool := (0 :: f.ids).any fun id => G id && decide (y ∈ axisW f axis id)
theorem found_test (f : Fo) (G : Int → Bool) (axis t y : Int) : foundW f [sT axis t] G y = (reachW f G axis y && testW (sT axis t) (entW f y).d) := by
 have e : ∀ a b : Bool, (a = true ↔ b = true) → a = b := fun a b h => by cases a <;> cases b <;> simp_all
 refine e _ _ ?_
 unfold foundW foundW reachW
 rw [Bool.and_eq_true, List.any_eq_true, List.any_eq_true]
 have hst : ∀ id, y ∈ stepW f (sT axis t) id ↔ y ∈ axisW f axis id ∧ testW (sT axis t) (entW f y).d = true := fun id => by
  unfold stepW
  rw [show (sT axis t).preds = [] from rfl, predsW, List.mem_filter]
  exact Iff.rfl
 constructor
 ·rintro ⟨x, hx, h⟩
  rw [Bool.and_eq_true, decide_eq_true_iff, hst] at h
  exact ⟨⟨x, hx, by rw [h.1, decide_eq_true h.2.1]; rfl⟩, h.2.2⟩
 ·rintro ⟨⟨x, hx, h⟩, h2⟩
  rw [Bool.and_eq_true, decide_eq_true_iff] at h
  refine ⟨x, hx, ?_⟩
  rw [Bool.and_eq_true, decide_eq_true_iff, hst]
  exact ⟨h.1, h.2, h2⟩
theorem filter_two {α : Type} (A p : α → Bool) : ∀ l : List α, (l.filter A).length = (l.filter fun x => A x && p x).length + (l.filter fun x => A x && !p x).length
 | [] => rfl
 | x :: l => by
  have := filter_two A p l
  simp only [List.filter_cons]
  cases A x <;> cases p x <;> simp <;> omega
theorem eval_tests (h : InvF f next) (s : List StepD) (axis : Int) : (∀ x ∈ evalW f (s ++ [sT axis 4]), decide (x ∈ evalW f (s ++ [sT axis 2])) ≠ decide (x ∈ evalW f (s ++ [sT axis 3]))) ∧
  (evalW f (s ++ [sT axis 4])).length = (evalW f (s ++ [sT axis 2])).length + (evalW f (s ++ [sT axis 3])).length := by
 unfold evalW
 rw [right_test s axis (t := 2) (by omega), right_test s axis (t := 3) (by omega)]
 split
 ·obtain ⟨G, hG⟩ : ∃ G, G = foundW f s fun x => decide (x = 0) := ⟨_, rfl⟩
  obtain ⟨P, hP⟩ : ∃ P : Int → Bool, P = reachW f G axis := ⟨_, rfl⟩
  have e4 : f.ids.filter (foundW f (s ++ [sT axis 4]) fun x => decide (x = 0)) = f.ids.filter P := List.filter_congr fun y hy => by
   rw [foundW_app, found_test, ← hG, ← hP]; simp [testW, sT]
  have e2 : f.ids.filter (foundW f (s ++ [sT axis 2]) fun x => decide (x = 0)) = f.ids.filter (fun y => P y && decide ((entW f y).d.kind = 1)) := List.filter_congr fun y hy => by
   rw [foundW_app, found_test, ← hG, ← hP]; simp [testW, sT]
  have e3 : f.ids.filter (foundW f (s ++ [sT axis 3]) fun x => decide (x = 0)) = f.ids.filter (fun y => P y && !decide ((entW f y).d.kind = 1)) := List.filter_congr fun y hy => by
   rw [foundW_app, found_test, ← hG, ← hP]
   rcases kind_two h hy with hk | hk <;> simp [testW, sT, hk]
  rw [e4, e2, e3]
  refine ⟨fun x hx => ?_, filter_two _ _ _⟩
  obtain ⟨hx1, hx2⟩ := List.mem_filter.1 hx
  by_cases hk : (entW f x).d.kind = 1 <;> simp [List.mem_filter, hx1, hx2, hk]
 ·simp
end
end
section
open Go.RowKit Go.Shelf
theorem step_append {P : Program} {ops : Array Oper} {o : Oper} {a : Act} {w : World} {K : Act → World → Prop} {Q : Exit → Act → World → Prop} {E : Prop}
  (hg : o.guard = none) (s x : Operand) (t : TypeId) (hop : o.op = Op.call { callee := Callee.builtin Builtin.append, args := #[s, x], argTypes := #[t, t] })
  (v u : Value) (hs : a.eval s = v) (hx : a.eval x = u) {v' : Value} {w' : World} (hr : (Builtin.append_ #[t, t] o.type #[v, u]).run P w = .ok v' w') (hK : K (a.put o.dst v') w') :
  if Region.wanted o (yielded ops a.tmps) = true then Oper.wp P o a w K Q else E := by
 have hw : Region.wanted o (yielded ops a.tmps) = true := by simp [Region.wanted, hg]
 rw [if_pos hw]
 unfold Oper.wp execOp
 simp only [hop, resolve, invoke, builtin, Sem.run_bind, Sem.run_pure, Result.andThen_ok, List.map_toArray, List.map_cons, List.map_nil, hs, hx, hr]
 exact hK
theorem two_appends2 {w : World} {B N e b : Nat} (s : List StepD) (As : Option Addr) (cs : Nat) (hA : StepsAt w B As s) (hB : B ≤ N) (hNw : N ≤ w.heap.size) (hl : s.length ≤ 100000) (x : QSlot) (hx : PredsAt w B x.2.1 x.1.preds) (hxc : x.1.preds.length ≤ x.2.2)
  (he : w.heap[e]? = some (.cells #[] 45 (0, 0))) (hb : w.heap[b]? = some (.cells (slotC x) 45 (0, 0))) (hne : b ≠ e) (hN : N ≤ e) :
  ∃ pa pc w2 pb pn pd w4, (Builtin.append_ #[23, 23] 23 #[.slice (some ⟨e, 0, none⟩) 0 0, .slice As s.length cs]).run Tryz.prog w = .ok (.slice pa s.length pc) w2 ∧
   (Builtin.append_ #[23, 23] 23 #[.slice pa s.length pc, .slice (some ⟨b, 0, none⟩) 1 1]).run Tryz.prog w2 = .ok (.slice pb pn pd) w4 ∧ pn = (s ++ [x.1]).length ∧ StepsAt w4 w4.heap.size pb (s ++ [x.1]) ∧ Below N w w4 ∧ Below N w w2 := by
 obtain ⟨T, hT1, hT2, hT3⟩ := steps_slots hA
 have hTl : T.length = s.length := by rw [← hT1, List.length_map]
 have hown : StepsOwn w 0 (some ⟨e, 0, none⟩) 0 [] := ⟨by simp, .inr ⟨e, 0, #[], rfl, Nat.zero_le _, he, by simp, by simp, by simp⟩⟩
 obtain ⟨pa, pn, pc, w2, hr, hpn, ho2, hg2, hf2⟩ := run_append_steps hown T As cs hT3 (by simp) (by omega)
 have hpn' : pn = s.length := by rw [hpn]; simpa using hTl
 subst hpn'
 have hlt := (Array.getElem?_eq_some_iff.1 he).1
 have hb2 : Below N w w2 := (Below.refl N w).grown hg2 hNw (fun j hj => by have hj : e = j := Option.some.inj hj; omega)
 have hS2 : ([] ++ T : List QSlot) = T := rfl
 rw [hS2] at ho2 hf2
 have hx2 : w2.heap[b]? = some (.cells (slotC x) 45 (0, 0)) := (hg2.block b (Array.getElem?_eq_some_iff.1 hb).1 (fun h => hne (Option.some.inj h))).trans hb
 obtain ⟨pb, pm, pd, w4, hr4, hpm, ho4, hg4, hf4⟩ := run_append_steps ho2 [x] (some ⟨b, 0, none⟩) 1 (sl_one x hx2) (by omega) (by simp)
 have hb4 : Below N w w4 := hb2.grown hg4 (Nat.le_trans hNw hb2.size) (fun j hj => by
  rcases hf2 j (by simpa using hj) with h2 | h2
  ·have h2 : e = j := Option.some.inj h2; omega
  ·omega)
 have hp4 : SlP w4 B (T ++ [x]) := SlP.below (w := w) (SlP.app hT2 fun y hy => by rw [List.mem_singleton.1 hy]; exact ⟨hx, hxc⟩) (hb4.mono hB)
 have hat := StepsOwn.atW ho4 hp4 (Nat.le_trans hB (Nat.le_trans hNw hb4.size))
 rw [List.map_append, hT1] at hat
 exact ⟨pa, pc, w2, pb, pm, pd, w4, by simpa [hTl] using hr, by simpa [hTl] using hr4, by rw [hpm]; simp [hTl], hat, hb4, hb2⟩
section
variable {M : Nat → Prop} {t : Nat} {f : Fo} {next : Int}
theorem tests1_any (s : List StepD) (As : Option Addr) (cs : Nat) (w : World) (axis test : Int) (tb sb xb : Nat) (h : TreeM M t f next w) (hA : StepsAt w w.heap.size As s) (hSs : SmallSteps s) (hl : s.length ≤ 18)
  (c0 : w.heap[tb]? = some (.cells #[.pointer (some ⟨t, 0, none⟩)] 24 (0, 0))) (c1 : w.heap[sb]? = some (.cells #[.slice As s.length cs] 23 (0, 0))) (c2 : w.heap[xb]? = some (.cells #[.int .i64 axis] 3 (0, 0))) :
  Calls Tryz.prog 23 #[.int .i64 test, .pointer (some ⟨tb, 0, none⟩), .pointer (some ⟨sb, 0, none⟩), .pointer (some ⟨xb, 0, none⟩)] w fun e w' => ∃ A c, e = .returned (.slice A (evalW f (s ++ [sT axis test])).length c) ∧
   intRow w' (.slice A (evalW f (s ++ [sT axis test])).length c) (evalW f (s ++ [sT axis test])) ∧ Below w.heap.size w w' := by
 have HT := Lib.hid h
 have HA := Lib.hid hA
 have HSS := Lib.hid hSs
 have HL := Lib.hid hl
 have HSV : Hid (∀ V : World, Below w.heap.size w V → V.cell? ⟨tb, 0, none⟩ = some (.pointer (some ⟨t, 0, none⟩)) ∧ V.cell? ⟨sb, 0, none⟩ = some (.slice As s.length cs) ∧ V.cell? ⟨xb, 0, none⟩ = some (.int .i64 axis)) := fun V hV =>
  ⟨cell_row ((hV.block _ (Array.getElem?_eq_some_iff.1 c0).1).trans c0) 0 _ rfl, cell_row ((hV.block _ (Array.getElem?_eq_some_iff.1 c1).1).trans c1) 0 _ rfl, cell_row ((hV.block _ (Array.getElem?_eq_some_iff.1 c2).1).trans c2) 0 _ rfl⟩
 have HSM : Hid (SmallSteps (s ++ [sT axis test])) := ⟨by have := HL.out; simp; omega, fun x hx => by
  rcases List.mem_append.1 hx with hx | hx
  ·exact HSS.out.2 x hx
  ·rw [List.mem_singleton.1 hx]; exact ⟨by simp [sT], by simp [sT], fun p hp => by simp [sT] at hp⟩⟩
 clear h hA hSs hl c0 c1 c2
 go_enter Tryz.func23, Tryz.ntmps23
 go_wp2_with fail
 have hbd : Below w.heap.size w w.drew := ⟨rfl, rfl, rfl, Nat.le_refl _, fun _ _ => rfl⟩
 have hS := HSV.out w.drew hbd
 refine wp_region_held_drew (S := fun V => V.cell? ⟨tb, 0, none⟩ = some (.pointer (some ⟨t, 0, none⟩)) ∧ V.cell? ⟨sb, 0, none⟩ = some (.slice As s.length cs) ∧ V.cell? ⟨xb, 0, none⟩ = some (.int .i64 axis)) (by kernel_rfl) hS (fun hHeld => ?_)
 clear hS
 obtain ⟨v, hv⟩ : ∃ v, Hid (w.drew = v) := ⟨_, rfl⟩
 rw [hv.out] at hbd hHeld ⊢
 have HB0 := Lib.hid hbd
 have HA0 := Lib.hid (HA.out.below hbd)
 have HSZ : Hid (w.heap.size = v.heap.size) := by show _ = _; rw [← hv.out]; rfl
 clear hbd
 refine tkv 0 (h := tkv 1 (h := tkv 3 (h := tkv 5 (h := tkv 6 (h := tkv 7 (h := ?_))))))
 refine wpAnyH_ready (rs := [2, 8]) (by kernel_rfl) (by simp) ?_
 refine AllReadyH.cons (o := ⟨_, _, _, _, _, _⟩) rfl (fun K hK => ?_) (AllReadyH.cons (o := ⟨_, _, _, _, _, _⟩) rfl (fun K hK => ?_) AllReadyH.nil)
 ·go_simp
  have hbe : Below v.heap.size v (v.alloc (.cells #[] 45)) := (Below.refl _ v).alloc (Nat.le_refl _) _
  have HBE0 := Lib.hid (HB0.out.trans (hbe.mono HB0.out.size))
  refine hK.out _ _ (HSV.out _ HBE0.out) (fun hHeld => ?_)
  clear hK K
  try go_frame
  refine wpAnyH_ready (rs := [4, 8]) (by kernel_rfl) (by simp) ?_
  refine AllReadyH.cons (o := ⟨_, _, _, _, _, _⟩) rfl (fun K hK => ?_) (AllReadyH.cons (o := ⟨_, _, _, _, _, _⟩) rfl (fun K hK => ?_) AllReadyH.nil)
  ·obtain ⟨pa, pc, w2, pb, pn, pd, w4, hr5, hr6, hpn, hat, hb4, hb2⟩ := two_appends (B := w.heap.size) (w := v) s As cs HA0.out HB0.out.size (by have := HL.out; omega) (sT axis test, none, 0) (fun h => by simp [sT] at h) (by simp [sT])
   subst hpn
   unfold slotC sT at hr6
   refine step_append rfl (.tmp 11) (.tmp 12) 23 rfl _ _ rfl rfl hr5 ?_
   have HB2 := Lib.hid (HB0.out.trans (hb2.mono HB0.out.size))
   refine hK.out _ _ (HSV.out _ HB2.out) (fun hHeld => ?_)
   clear hK K
   try go_frame
   refine rdy 8 (fun K hK => ?_)
   go_simp
   have hb3 : Below w2.heap.size w2 (w2.alloc (.cells #[.int .i64 axis, .int .i64 test, .string ⟨#[]⟩, .slice none 0 0] 45)) := (Below.refl _ w2).alloc (Nat.le_refl _) _
   have HB3 := Lib.hid (HB2.out.trans (hb3.mono HB2.out.size))
   refine hK.out _ _ (HSV.out _ HB3.out) (fun hHeld => ?_)
   clear hK K
   try go_frame
   refine rdy 9 (fun K hK => ?_)
   refine step_append rfl (.tmp 13) (.tmp 17) 23 rfl _ _ rfl rfl hr6 ?_
   have HAT := Lib.hid hat
   have HBV := Lib.hid (HB0.out.trans (hb4.mono HB0.out.size))
   clear hr5 hr6 hat hb4 hb2 hb3 hbe
   obtain ⟨v9, hv9⟩ : ∃ v9, Hid (w4 = v9) := ⟨_, rfl⟩
   rw [hv9.out] at HAT HBV ⊢
   refine hK.out _ _ (HSV.out _ HBV.out) (fun hHeld => ?_)
   clear hK K
   try go_frame
   refine rdy 10 (fun K hK => ?_)
   go_simp
   have hev := Eval_any (HT.out.below HBV.out) (s ++ [sT axis test]) pb pd HAT.out HSM.out
   simp only [List.length_append, List.length_singleton] at hev
   refine hev.mono ?_
   clear hev
   rintro e ve ⟨Ab, cb, rfl, hrb, hbb, hfb⟩
   have HRB := Lib.hid hrb
   have HBE := Lib.hid (HBV.out.trans (hbb.mono HBV.out.size))
   have HFB := Lib.hid hfb
   clear hrb hbb hfb
   refine hK.out _ _ (HSV.out _ HBE.out) (fun hHeld => ?_)
   clear hK K
   try go_frame
   refine tkv 11 (h := tkv 12 (h := tkv 13 (h := tkv 14 (h := tkv 15 (h := ?_)))))
   refine wpAnyH_done (by kernel_rfl) ?_ _
   clear hHeld
   go_wp2_with fail
   go_ret
   exact ⟨Ab, cb, rfl, HRB.out, HBE.out⟩
  ·go_simp
   obtain ⟨v1, hv1⟩ : ∃ v1, Hid ((v.alloc (.cells #[] 45)).alloc (.cells #[.int .i64 axis, .int .i64 test, .string ⟨#[]⟩, .slice none 0 0] 45) = v1) := ⟨_, rfl⟩
   have hb3 : Below v.heap.size v v1 := by rw [← hv1.out]; exact hbe.alloc (by simp) _
   have HB3 := Lib.hid (HB0.out.trans (hb3.mono HB0.out.size))
   have he : v1.heap[v.heap.size]? = some (.cells #[] 45 (0, 0)) := by rw [← hv1.out]; exact (Below.heap_alloc _ _ _ (by simp)).trans (heap_alloc_new v _)
   have hx : v1.heap[v.heap.size + 1]? = some (.cells (slotC (sT axis test, none, 0)) 45 (0, 0)) := by
    rw [← hv1.out]
    have := heap_alloc_new (v.alloc (.cells #[] 45)) (.cells #[.int .i64 axis, .int .i64 test, .string ⟨#[]⟩, .slice none 0 0] 45)
    simpa [slotC, sT] using this
   obtain ⟨pa, pc, w2, pb, pn, pd, w4, hr5, hr6, hpn, hat, hb4, hb2⟩ := two_appends2 (B := w.heap.size) (N := v.heap.size) (w := v1) s As cs (HA.out.below HB3.out) HB0.out.size hb3.size (by have := HL.out; omega) (sT axis test, none, 0) (fun h => by simp [sT] at h) (by simp [sT]) he hx (by omega) (Nat.le_refl _)
   subst hpn
   rw [hv1.out]
   refine hK.out _ _ (HSV.out _ HB3.out) (fun hHeld => ?_)
   clear hK K
   try go_frame
   refine rdy 4 (fun K hK => ?_)
   refine step_append rfl (.tmp 11) (.tmp 12) 23 rfl _ _ rfl rfl hr5 ?_
   have HB2 := Lib.hid (HB3.out.trans (hb2.mono HB0.out.size))
   refine hK.out _ _ (HSV.out _ HB2.out) (fun hHeld => ?_)
   clear hK K
   try go_frame
   refine rdy 9 (fun K hK => ?_)
   refine step_append rfl (.tmp 13) (.tmp 17) 23 rfl _ _ rfl rfl hr6 ?_
   have HAT := Lib.hid hat
   have HBV := Lib.hid (HB3.out.trans (hb4.mono HB0.out.size))
   clear hr5 hr6 hat hb4 hb2 hb3 hbe he hx
   obtain ⟨v9, hv9⟩ : ∃ v9, Hid (w4 = v9) := ⟨_, rfl⟩
   rw [hv9.out] at HAT HBV ⊢
   refine hK.out _ _ (HSV.out _ HBV.out) (fun hHeld => ?_)
   clear hK K
   try go_frame
   refine rdy 10 (fun K hK => ?_)
   go_simp
   have hev := Eval_any (HT.out.below HBV.out) (s ++ [sT axis test]) pb pd HAT.out HSM.out
   simp only [List.length_append, List.length_singleton] at hev
   refine hev.mono ?_
   clear hev
   rintro e ve ⟨Ab, cb, rfl, hrb, hbb, hfb⟩
   have HRB := Lib.hid hrb
   have HBE := Lib.hid (HBV.out.trans (hbb.mono HBV.out.size))
   have HFB := Lib.hid hfb
   clear hrb hbb hfb
   refine hK.out _ _ (HSV.out _ HBE.out) (fun hHeld => ?_)
   clear hK K
   try go_frame
   refine tkv 11 (h := tkv 12 (h := tkv 13 (h := tkv 14 (h := tkv 15 (h := ?_)))))
   refine wpAnyH_done (by kernel_rfl) ?_ _
   clear hHeld
   go_wp2_with fail
   go_ret
   exact ⟨Ab, cb, rfl, HRB.out, HBE.out⟩
 ·go_simp
  obtain ⟨v0, hv0⟩ : ∃ v0, Hid (v.alloc (.cells #[.int .i64 axis, .int .i64 test, .string ⟨#[]⟩, .slice none 0 0] 45) = v0) := ⟨_, rfl⟩
  have hb0 : Below v.heap.size v v0 := by rw [← hv0.out]; exact (Below.refl _ v).alloc (Nat.le_refl _) _
  have HB1 := Lib.hid (HB0.out.trans (hb0.mono HB0.out.size))
  have hx0 : v0.heap[v.heap.size]? = some (.cells (slotC (sT axis test, none, 0)) 45 (0, 0)) := by rw [← hv0.out]; exact heap_alloc_new v _
  have hz0 : v.heap.size < v0.heap.size := (Array.getElem?_eq_some_iff.1 hx0).1
  rw [hv0.out]
  refine hK.out _ _ (HSV.out _ HB1.out) (fun hHeld => ?_)
  clear hK K
  try go_frame
  refine rdy 2 (fun K hK => ?_)
  go_simp
  obtain ⟨v1, hv1⟩ : ∃ v1, Hid (v0.alloc (.cells #[] 45) = v1) := ⟨_, rfl⟩
  have hb1 : Below v0.heap.size v0 v1 := by rw [← hv1.out]; exact (Below.refl _ v0).alloc (Nat.le_refl _) _
  have hb3 := hb0.trans (hb1.mono hb0.size)
  have HB3 := Lib.hid (HB0.out.trans (hb3.mono HB0.out.size))
  have he : v1.heap[v0.heap.size]? = some (.cells #[] 45 (0, 0)) := by rw [← hv1.out]; exact heap_alloc_new v0 _
  have hx : v1.heap[v.heap.size]? = some (.cells (slotC (sT axis test, none, 0)) 45 (0, 0)) := (hb1.block _ hz0).trans hx0
  obtain ⟨pa, pc, w2, pb, pn, pd, w4, hr5, hr6, hpn, hat, hb4, hb2⟩ := two_appends2 (B := w.heap.size) (N := v.heap.size) (w := v1) s As cs (HA.out.below HB3.out) HB0.out.size hb3.size (by have := HL.out; omega) (sT axis test, none, 0) (fun h => by simp [sT] at h) (by simp [sT]) he hx (by omega) (by omega)
  subst hpn
  rw [hv1.out]
  refine hK.out _ _ (HSV.out _ HB3.out) (fun hHeld => ?_)
  clear hK K
  try go_frame
  refine rdy 4 (fun K hK => ?_)
  refine step_append rfl (.tmp 11) (.tmp 12) 23 rfl _ _ rfl rfl hr5 ?_
  have HB2 := Lib.hid (HB3.out.trans (hb2.mono HB0.out.size))
  refine hK.out _ _ (HSV.out _ HB2.out) (fun hHeld => ?_)
  clear hK K
  try go_frame
  refine rdy 9 (fun K hK => ?_)
  refine step_append rfl (.tmp 13) (.tmp 17) 23 rfl _ _ rfl rfl hr6 ?_
  have HAT := Lib.hid hat
  have HBV := Lib.hid (HB3.out.trans (hb4.mono HB0.out.size))
  clear hr5 hr6 hat hb4 hb2 hb3 he hx hb0 hb1 hx0 hz0
  obtain ⟨v9, hv9⟩ : ∃ v9, Hid (w4 = v9) := ⟨_, rfl⟩
  rw [hv9.out] at HAT HBV ⊢
  refine hK.out _ _ (HSV.out _ HBV.out) (fun hHeld => ?_)
  clear hK K
  try go_frame
  refine rdy 10 (fun K hK => ?_)
  go_simp
  have hev := Eval_any (HT.out.below HBV.out) (s ++ [sT axis test]) pb pd HAT.out HSM.out
  simp only [List.length_append, List.length_singleton] at hev
  refine hev.mono ?_
  clear hev
  rintro e ve ⟨Ab, cb, rfl, hrb, hbb, hfb⟩
  have HRB := Lib.hid hrb
  have HBE := Lib.hid (HBV.out.trans (hbb.mono HBV.out.size))
  have HFB := Lib.hid hfb
  clear hrb hbb hfb
  refine hK.out _ _ (HSV.out _ HBE.out) (fun hHeld => ?_)
  clear hK K
  try go_frame
  refine tkv 11 (h := tkv 12 (h := tkv 13 (h := tkv 14 (h := tkv 15 (h := ?_)))))
  refine wpAnyH_done (by kernel_rfl) ?_ _
  clear hHeld
  go_wp2_with fail
  go_ret
  exact ⟨Ab, cb, rfl, HRB.out, HBE.out⟩
end
end
section
open Go.RowKit Go.Shelf
theorem in_any (A : Option Addr) (c : Nat) (l : List Int) (x : Int) (w : World) (hr : intRow w (.slice A l.length c) l) (hl : l.length ≤ 1000000) (r : Bool) (hres : Hid (decide (x ∈ l) = r)) : Calls Tryz.prog 21 #[.slice A l.length c, .int .i64 x] w (Ret w (.bool r)) := by
 have HR := Lib.hid hr
 have l0 : (0 : Int) ≤ (l.length : Int) := by omega
 have l1 : (l.length : Int) ≤ 1000000 := by omega
 clear hr
 go_enter Tryz.func21, Tryz.ntmps21
 go_wp2_with fail
 go_loopw [9] (fun i wr => ∃ k : Nat, i = .int .i64 (k : Int) ∧ k ≤ l.length ∧ Hid (x ∉ l.take k) ∧ Hid (wr = w)) (fun i _ => l.length - (intOf i).toNat)
 case atStart => exact ⟨0, rfl, Nat.zero_le _, by show _ ∉ _; simp, rfl⟩
 case round =>
  obtain ⟨k, rfl, hk, hno, hw⟩ := hrel
  have hw' := hw.out
  subst hw'
  have k0 : (0 : Int) ≤ (k : Int) := by omega
  by_cases hkl : k < l.length
  ·have k1 : (k : Int) < (l.length : Int) := by omega
   obtain ⟨y, hy⟩ : ∃ y, Hid (l[k]? = some y) := ⟨l[k], List.getElem?_eq_getElem _⟩
   obtain ⟨g, hgA⟩ : ∃ g, A = some ⟨g, 0, none⟩ := by
    rcases HR.out.2 with ⟨_, h⟩ | ⟨g, cap, cur, h, _⟩
    ·omega
    ·injection h with h _ _; exact ⟨g, h⟩
   subst hgA
   have ck := own_cell HR.out k (.int .i64 y) (by rw [List.getElem?_map, hy.out]; rfl)
   by_cases hyx : y = x
   ·have hb : (y == x) = true := by simpa using hyx
    have HF : Hid (r = true) := by
     show _ = _
     rw [← hres.out]
     exact decide_eq_true (hyx ▸ List.mem_of_getElem? hy.out)
    clear hyx
    go_wp2_with fail
    go_ret
    exact ⟨by rw [HF.out]; rfl, Below.refl _ _⟩
   ·have hb : (y == x) = false := by simpa using hyx
    have HNO : Hid (x ∉ l.take (k + 1)) := by
     show _ ∉ _
     rw [List.take_add_one, hy.out, List.mem_append, not_or]
     exact ⟨hno.out, by simpa using fun e => hyx e.symm⟩
    clear hyx
    go_wp2_with fail
    go_roundw
    case rel => exact ⟨k + 1, by go_num, by omega, HNO.out, trivial⟩
    case measure => simp [intOf]; omega
  ·have k1 : ¬ (k : Int) < (l.length : Int) := by omega
   have HF : Hid (r = false) := by
    show _ = _
    rw [← hres.out]
    have := hno.out
    rw [List.take_of_length_le (by omega)] at this
    exact decide_eq_false this
   go_wp2_with fail
   go_ret
   exact ⟨by rw [HF.out]; rfl, Below.refl _ _⟩
theorem evalW_len {f : Fo} {next : Int} (h : InvF f next) (l : List StepD) : (evalW f l).length ≤ 1000 := by
 unfold evalW
 split
 ·have := List.length_filter_le (foundW f l fun x => decide (x = 0)) f.ids
  rw [Fo.ids_len] at this
  have := h.cnt
  omega
 ·simp
theorem walk_WalkerTests (l : List ItemD) (A : Option Addr) (c : Nat) (s : List StepD) (As : Option Addr) (cs : Nat) (axis : Int) (w : World) (hI : ItemsAt w w.heap.size A l) (hS : SmallItems l) (hl : l.length ≤ 2000000) (hA : StepsAt w w.heap.size As s) (hSs : SmallSteps s) :
  Calls Tryz.prog 7 #[.slice A l.length c, .slice As s.length cs, .int .i64 axis] w (Ret w (.bool true)) := by
 have HI := Lib.hid hI
 have HS := Lib.hid hS
 have HA := Lib.hid hA
 have HSS := Lib.hid hSs
 have hs9 := hSs.1
 have n0 : (0 : Int) ≤ (s.length : Int) := by omega
 have n1 : (s.length : Int) ≤ 1000000000 := by omega
 clear hI hS hA hSs
 go_enter Tryz.func7, Tryz.ntmps7
 go_wp2_with fail
 obtain ⟨w0, hw0⟩ : ∃ w0, Hid ((w.alloc (.cells #[.slice As s.length cs] 23)).alloc (.cells #[.int .i64 axis] 3) = w0) := ⟨_, rfl⟩
 rw [hw0.out]
 have hb0 : Below w.heap.size w w0 := by rw [← hw0.out]; exact ((Below.refl _ w).alloc (Nat.le_refl _) _).alloc (by simp) _
 have hc0 : w0.heap[w.heap.size]? = some (.cells #[.slice As s.length cs] 23 (0, 0)) := by rw [← hw0.out]; exact (Below.heap_alloc _ _ _ (by simp)).trans (heap_alloc_new w _)
 have hc1 : w0.heap[w.heap.size + 1]? = some (.cells #[.int .i64 axis] 3 (0, 0)) := by
  rw [← hw0.out]
  have := heap_alloc_new (w.alloc (.cells #[.slice As s.length cs] 23)) (.cells #[.int .i64 axis] 3)
  simpa using this
 have HB0 := Lib.hid hb0
 have HC0 := Lib.hid (And.intro hc0 hc1)
 clear hb0 hc0 hc1
 refine (grown_any l A c w0 ((HI.out.below HB0.out).more HB0.out.size) HS.out hl).mono ?_
 rintro e w1 ⟨M, t, f, next, Ar, cr, rfl, ht1, hr1, hf1, hb1, hlo1⟩
 have HT1 := Lib.hid ht1
 have HB1 := Lib.hid (HB0.out.trans (hb1.mono HB0.out.size))
 have HC1 : Hid (w1.heap[w.heap.size]? = some (.cells #[.slice As s.length cs] 23 (0, 0)) ∧ w1.heap[w.heap.size + 1]? = some (.cells #[.int .i64 axis] 3 (0, 0))) :=
  ⟨(hb1.block _ (Array.getElem?_eq_some_iff.1 HC0.out.1).1).trans HC0.out.1, (hb1.block _ (Array.getElem?_eq_some_iff.1 HC0.out.2).1).trans HC0.out.2⟩
 clear ht1 hr1 hf1 hb1 hlo1
 go_upto_region 2 with (fail)
 obtain ⟨w2, hw2⟩ : ∃ w2, Hid ((w1.alloc (.cells #[.pointer (some ⟨t, 0, none⟩)] 24)).alloc (.cells #[.slice Ar (f.flat 0).length cr, .int .i64 next] 27) = w2) := ⟨_, rfl⟩
 have hb2 : Below w1.heap.size w1 w2 := by rw [← hw2.out]; exact ((Below.refl _ w1).alloc (Nat.le_refl _) _).alloc (by simp) _
 have hc2 : w2.heap[w1.heap.size]? = some (.cells #[.pointer (some ⟨t, 0, none⟩)] 24 (0, 0)) := by rw [← hw2.out]; exact (Below.heap_alloc _ _ _ (by simp)).trans (heap_alloc_new w1 _)
 obtain ⟨tb, htb⟩ : ∃ tb, Hid (w1.heap.size = tb) := ⟨_, rfl⟩
 rw [htb.out] at hc2
 rw [hw2.out, htb.out]
 have HB2 := Lib.hid (HB1.out.trans (hb2.mono HB1.out.size))
 have HT2 := Lib.hid (HT1.out.below hb2)
 have HC2 : Hid (w2.heap[w.heap.size]? = some (.cells #[.slice As s.length cs] 23 (0, 0)) ∧ w2.heap[w.heap.size + 1]? = some (.cells #[.int .i64 axis] 3 (0, 0)) ∧ w2.heap[tb]? = some (.cells #[.pointer (some ⟨t, 0, none⟩)] 24 (0, 0))) :=
  ⟨(hb2.block _ (Array.getElem?_eq_some_iff.1 HC1.out.1).1).trans HC1.out.1, (hb2.block _ (Array.getElem?_eq_some_iff.1 HC1.out.2).1).trans HC1.out.2, hc2⟩
 have k9 : w2.cell? ⟨tb, 0, none⟩ = some (.pointer (some ⟨t, 0, none⟩)) := cell_row hc2 0 _ rfl
 clear hb2 hc2
 go_wp2_with fail
 clear k9
 by_cases h40 : (l.length : Int) ≤ 40
 ·refine (small_any A l.length c w2 true (decide_eq_true h40)).mono ?_
  rintro e w3 ⟨rfl, hb3⟩
  have HB3 := Lib.hid (HB2.out.trans (hb3.mono HB2.out.size))
  have HT3 := Lib.hid (HT2.out.below hb3)
  have HC3 : Hid (w3.heap[w.heap.size]? = some (.cells #[.slice As s.length cs] 23 (0, 0)) ∧ w3.heap[w.heap.size + 1]? = some (.cells #[.int .i64 axis] 3 (0, 0)) ∧ w3.heap[tb]? = some (.cells #[.pointer (some ⟨t, 0, none⟩)] 24 (0, 0))) :=
   ⟨(hb3.block _ (Array.getElem?_eq_some_iff.1 HC2.out.1).1).trans HC2.out.1, (hb3.block _ (Array.getElem?_eq_some_iff.1 HC2.out.2.1).1).trans HC2.out.2.1, (hb3.block _ (Array.getElem?_eq_some_iff.1 HC2.out.2.2).1).trans HC2.out.2.2⟩
  clear hb3
  have k0 : w3.cell? ⟨w.heap.size, 0, none⟩ = some (.slice As s.length cs) := cell_row HC3.out.1 0 _ rfl
  have k2 : w3.cell? ⟨tb, 0, none⟩ = some (.pointer (some ⟨t, 0, none⟩)) := cell_row HC3.out.2.2 0 _ rfl
  by_cases h18 : (18 : Int) < s.length
  ·go_wp2_with fail
   refine (aliveW_any w3).mono ?_
   rintro e w4 ⟨rfl, hb4⟩
   have HB4 := Lib.hid (HB3.out.trans (hb4.mono HB3.out.size))
   clear hb4
   go_wp2_with fail
   go_ret
   exact ⟨rfl, HB4.out⟩
  have HL := Lib.hid h18
  go_upto_region 4 with (fail)
  clear h18 h40 k0 k2
  go_wp2_with fail
  refine (tests1_any s As cs w3 axis 4 tb w.heap.size (w.heap.size + 1) HT3.out ((HA.out.below HB3.out).more HB3.out.size) HSS.out (by have := HL.out; omega) HC3.out.2.2 HC3.out.1 HC3.out.2.1).mono ?_
  rintro e w4 ⟨Aa, ca, rfl, hra, hb4⟩
  have HRA := Lib.hid hra
  have HB4 := Lib.hid (HB3.out.trans (hb4.mono HB3.out.size))
  have HT4 := Lib.hid (HT3.out.below hb4)
  have HC4 : Hid (w4.heap[w.heap.size]? = some (.cells #[.slice As s.length cs] 23 (0, 0)) ∧ w4.heap[w.heap.size + 1]? = some (.cells #[.int .i64 axis] 3 (0, 0)) ∧ w4.heap[tb]? = some (.cells #[.pointer (some ⟨t, 0, none⟩)] 24 (0, 0))) :=
   ⟨(hb4.block _ (Array.getElem?_eq_some_iff.1 HC3.out.1).1).trans HC3.out.1, (hb4.block _ (Array.getElem?_eq_some_iff.1 HC3.out.2.1).1).trans HC3.out.2.1, (hb4.block _ (Array.getElem?_eq_some_iff.1 HC3.out.2.2).1).trans HC3.out.2.2⟩
  clear hra hb4
  go_wp2_with fail
  refine (tests1_any s As cs w4 axis 2 tb w.heap.size (w.heap.size + 1) HT4.out ((HA.out.below HB4.out).more HB4.out.size) HSS.out (by have := HL.out; omega) HC4.out.2.2 HC4.out.1 HC4.out.2.1).mono ?_
  rintro e w5 ⟨Ab, cb, rfl, hrb, hb5⟩
  have HRB := Lib.hid hrb
  have HB5 := Lib.hid (HB4.out.trans (hb5.mono HB4.out.size))
  have HT5 := Lib.hid (HT4.out.below hb5)
  have HC5 : Hid (w5.heap[w.heap.size]? = some (.cells #[.slice As s.length cs] 23 (0, 0)) ∧ w5.heap[w.heap.size + 1]? = some (.cells #[.int .i64 axis] 3 (0, 0)) ∧ w5.heap[tb]? = some (.cells #[.pointer (some ⟨t, 0, none⟩)] 24 (0, 0))) :=
   ⟨(hb5.block _ (Array.getElem?_eq_some_iff.1 HC4.out.1).1).trans HC4.out.1, (hb5.block _ (Array.getElem?_eq_some_iff.1 HC4.out.2.1).1).trans HC4.out.2.1, (hb5.block _ (Array.getElem?_eq_some_iff.1 HC4.out.2.2).1).trans HC4.out.2.2⟩
  have HRA5 := Lib.hid (row_block HRA.out fun b hb => hb5.block b (row_lt HRA.out hb))
  clear hrb hb5
  go_wp2_with fail
  refine (tests1_any s As cs w5 axis 3 tb w.heap.size (w.heap.size + 1) HT5.out ((HA.out.below HB5.out).more HB5.out.size) HSS.out (by have := HL.out; omega) HC5.out.2.2 HC5.out.1 HC5.out.2.1).mono ?_
  rintro e w6 ⟨Ac, cc, rfl, hrc, hb6⟩
  obtain ⟨EA, hEA⟩ : ∃ E, Hid (evalW f (s ++ [sT axis 4]) = E) := ⟨_, rfl⟩
  obtain ⟨EB, hEB⟩ : ∃ E, Hid (evalW f (s ++ [sT axis 2]) = E) := ⟨_, rfl⟩
  obtain ⟨EC, hEC⟩ : ∃ E, Hid (evalW f (s ++ [sT axis 3]) = E) := ⟨_, rfl⟩
  obtain ⟨hlaw1, hlaw2⟩ := eval_tests HT5.out.inv s axis
  have hla := evalW_len HT5.out.inv (s ++ [sT axis 4])
  have hlb := evalW_len HT5.out.inv (s ++ [sT axis 2])
  have hlc := evalW_len HT5.out.inv (s ++ [sT axis 3])
  rw [hEA.out] at hla
  rw [hEB.out] at hlb
  rw [hEC.out] at hlc hrc
  rw [hEA.out, hEB.out, hEC.out] at hlaw1 hlaw2
  have HLAW := Lib.hid hlaw1
  have HLAW2 := Lib.hid hlaw2
  rw [hEA.out, hEB.out, hEC.out]
  have HB6 := Lib.hid (HB5.out.trans (hb6.mono HB5.out.size))
  have HRA6 : Hid (intRow w6 (.slice Aa EA.length ca) EA) := by rw [← hEA.out]; exact row_block HRA5.out fun b hb => hb6.block b (row_lt HRA5.out hb)
  have HRB6 : Hid (intRow w6 (.slice Ab EB.length cb) EB) := by rw [← hEB.out]; exact row_block HRB.out fun b hb => hb6.block b (row_lt HRB.out hb)
  have HRC6 : Hid (intRow w6 (.slice Ac EC.length cc) EC) := hrc
  have a0 : (0 : Int) ≤ (EA.length : Int) := by omega
  have a1 : (EA.length : Int) ≤ 1000 := by omega
  have b0 : (0 : Int) ≤ (EB.length : Int) := by omega
  have b1 : (EB.length : Int) ≤ 1000 := by omega
  have e0 : (0 : Int) ≤ (EC.length : Int) := by omega
  have e1 : (EC.length : Int) ≤ 1000 := by omega
  have HLB : Hid (EB.length ≤ 1000 ∧ EC.length ≤ 1000) := ⟨hlb, hlc⟩
  clear hrc hb6 hlaw1 hlaw2 hla hlb hlc
  go_wp2_with fail
  go_loopw [46] (fun i wr => ∃ k : Nat, i = .int .i64 (k : Int) ∧ k ≤ EA.length ∧ Hid (Below w6.heap.size w6 wr)) (fun i _ => EA.length - (intOf i).toNat)
  case atStart => exact ⟨0, rfl, Nat.zero_le _, Below.refl _ _⟩
  case round =>
   obtain ⟨k, rfl, hk, hbl⟩ := hrel
   have k0 : (0 : Int) ≤ (k : Int) := by omega
   by_cases hkl : k < EA.length
   ·have k1 : (k : Int) < (EA.length : Int) := by omega
    obtain ⟨x, hx⟩ : ∃ x, Hid (EA[k]? = some x) := ⟨EA[k], List.getElem?_eq_getElem _⟩
    obtain ⟨g, hgA⟩ : ∃ g, Aa = some ⟨g, 0, none⟩ := by
     rcases HRA6.out.2 with ⟨_, h⟩ | ⟨g, cap, cur, h, _⟩
     ·omega
     ·injection h with h _ _; exact ⟨g, h⟩
    subst hgA
    have hr7 : intRow wr (.slice (some ⟨g, 0, none⟩) EA.length ca) EA := row_block HRA6.out fun b hb => hbl.out.block b (row_lt HRA6.out hb)
    have ck := own_cell hr7 k (.int .i64 x) (by rw [List.getElem?_map, hx.out]; rfl)
    obtain ⟨rb, hrb⟩ : ∃ r, Hid (decide (x ∈ EB) = r) := ⟨_, rfl⟩
    obtain ⟨rc, hrc⟩ : ∃ r, Hid (decide (x ∈ EC) = r) := ⟨_, rfl⟩
    have hne := HLAW.out x (List.mem_of_getElem? hx.out)
    rw [hrb.out, hrc.out] at hne
    have hbeq : (rb == rc) = false := by cases rb <;> cases rc <;> simp_all
    clear hne hr7
    go_wp2_with fail
    refine (in_any Ab cb EB x wr (row_block HRB6.out fun b hb => hbl.out.block b (row_lt HRB6.out hb)) (by have := HLB.out; omega) rb hrb).mono ?_
    rintro e w7 ⟨rfl, hb7⟩
    have HB7 : Hid (Below w6.heap.size w6 w7) := hbl.out.trans (hb7.mono hbl.out.size)
    clear hb7
    go_wp2_with fail
    refine (in_any Ac cc EC x w7 (row_block HRC6.out fun b hb => HB7.out.block b (row_lt HRC6.out hb)) (by have := HLB.out; omega) rc hrc).mono ?_
    rintro e w8 ⟨rfl, hb8⟩
    have HB8 : Hid (Below w6.heap.size w6 w8) := HB7.out.trans (hb8.mono HB7.out.size)
    clear hb8
    go_wp2_with fail
    go_roundw
    case rel => exact ⟨k + 1, by go_num, by omega, HB8.out⟩
    case measure => simp [intOf]; omega
   ·have k1 : ¬ (k : Int) < (EA.length : Int) := by omega
    have HBW := Lib.hid (HB6.out.trans (hbl.out.mono HB6.out.size))
    have hsum : (EA.length : Int) = (EB.length : Int) + (EC.length : Int) := by have := HLAW2.out; omega
    have hseq : ((EA.length : Int) == (EB.length : Int) + (EC.length : Int)) = true := by simpa using hsum
    clear hsum
    go_wp2_with fail
    refine (aliveW_any wr).mono ?_
    rintro e w7 ⟨rfl, hb7⟩
    have HB7 := Lib.hid (HBW.out.trans (hb7.mono HBW.out.size))
    clear hb7
    go_wp2_with fail
    go_ret
    exact ⟨rfl, HB7.out⟩
 ·refine (small_any A l.length c w2 false (decide_eq_false h40)).mono ?_
  rintro e w3 ⟨rfl, hb3⟩
  have HB3 := Lib.hid (HB2.out.trans (hb3.mono HB2.out.size))
  have HT3 := Lib.hid (HT2.out.below hb3)
  have HC3 : Hid (w3.heap[w.heap.size]? = some (.cells #[.slice As s.length cs] 23 (0, 0)) ∧ w3.heap[w.heap.size + 1]? = some (.cells #[.int .i64 axis] 3 (0, 0)) ∧ w3.heap[tb]? = some (.cells #[.pointer (some ⟨t, 0, none⟩)] 24 (0, 0))) :=
   ⟨(hb3.block _ (Array.getElem?_eq_some_iff.1 HC2.out.1).1).trans HC2.out.1, (hb3.block _ (Array.getElem?_eq_some_iff.1 HC2.out.2.1).1).trans HC2.out.2.1, (hb3.block _ (Array.getElem?_eq_some_iff.1 HC2.out.2.2).1).trans HC2.out.2.2⟩
  clear hb3
  have k0 : w3.cell? ⟨w.heap.size, 0, none⟩ = some (.slice As s.length cs) := cell_row HC3.out.1 0 _ rfl
  have k2 : w3.cell? ⟨tb, 0, none⟩ = some (.pointer (some ⟨t, 0, none⟩)) := cell_row HC3.out.2.2 0 _ rfl
  go_wp2_with fail
  refine (aliveW_any w3).mono ?_
  rintro e w4 ⟨rfl, hb4⟩
  have HB4 := Lib.hid (HB3.out.trans (hb4.mono HB3.out.size))
  clear hb4
  go_wp2_with fail
  go_ret
  exact ⟨rfl, HB4.out⟩
end
end Go.Proofs.YtcombcoilpmnkaaGreat
