/-
  slices.SortFunc at attributes, laid by hand (gen_sort.py); the closure of begin; what the sort leaves.
-/
import Derived.Test.YthifddkmbjnncaaAttr
import Derived.Shelf.SlSortCmp.NoneTotal
namespace Go.Proofs
open Go.Shelf Go.RowKit
def Try.laysF6_ren : Go.Shelf.Ren := ⟨fun | 6 => 74 | 14 => 99 | 15 => 100 | 20 => 119 | 21 => 120 | 22 => 121 | 23 => 122 | 24 => 123 | 25 => 124 | 26 => 125 | 27 => 126 | 28 => 127 | 29 => 128 | 46 => 140 | 47 => 141 | 48 => 142 | 49 => 143 | 50 => 144 | 57 => 145 | n => n, fun | 0 => 0 | 3 => 3 | 4 => 4 | 5 => 5 | 9 => 9 | 22 => 31 | 25 => 102 | 39 => 122 | 45 => 139 | 46 => 140 | 50 => 144 | 53 => 147 | 55 => 149 | 66 => 156 | 70 => 160 | 76 => 162 | 77 => 134 | 24 => 44 | n => n, fun | n => n⟩
theorem Try.laysF6 : Go.Proofs.SlLaysF0.n6 Try.prog Try.laysF6_ren := {
  mixed := by kernel_rfl
  f6 := ⟨"slices.SortFunc[[]incunable/api.Attr,incunable/api.Attr]", by decide, Try.func74.trans (congrArg some (by kernel_rfl))⟩
  f14 := ⟨"slices.pdqsortCmpFunc[incunable/api.Attr]", by decide, Try.func99.trans (congrArg some (by kernel_rfl))⟩
  f15 := Try.func100.trans (congrArg some (by kernel_rfl))
  f20 := ⟨"slices.insertionSortCmpFunc[incunable/api.Attr]", by decide, Try.func119.trans (congrArg some (by kernel_rfl))⟩
  f21 := ⟨"slices.heapSortCmpFunc[incunable/api.Attr]", by decide, Try.func120.trans (congrArg some (by kernel_rfl))⟩
  f22 := ⟨"slices.breakPatternsCmpFunc[incunable/api.Attr]", by decide, Try.func121.trans (congrArg some (by kernel_rfl))⟩
  f23 := ⟨"slices.choosePivotCmpFunc[incunable/api.Attr]", by decide, Try.func122.trans (congrArg some (by kernel_rfl))⟩
  f24 := ⟨"slices.reverseRangeCmpFunc[incunable/api.Attr]", by decide, Try.func123.trans (congrArg some (by kernel_rfl))⟩
  f25 := ⟨"slices.partialInsertionSortCmpFunc[incunable/api.Attr]", by decide, Try.func124.trans (congrArg some (by kernel_rfl))⟩
  f26 := ⟨"slices.partitionEqualCmpFunc[incunable/api.Attr]", by decide, Try.func125.trans (congrArg some (by kernel_rfl))⟩
  f27 := ⟨"slices.partitionCmpFunc[incunable/api.Attr]", by decide, Try.func126.trans (congrArg some (by kernel_rfl))⟩
  f28 := Try.func127.trans (congrArg some (by kernel_rfl))
  f29 := Try.func128.trans (congrArg some (by kernel_rfl))
  f46 := ⟨"slices.siftDownCmpFunc[incunable/api.Attr]", by decide, Try.func140.trans (congrArg some (by kernel_rfl))⟩
  f47 := Try.func141.trans (congrArg some (by kernel_rfl))
  f48 := Try.func142.trans (congrArg some (by kernel_rfl))
  f49 := ⟨"slices.medianAdjacentCmpFunc[incunable/api.Attr]", by decide, Try.func143.trans (congrArg some (by kernel_rfl))⟩
  f50 := ⟨"slices.medianCmpFunc[incunable/api.Attr]", by decide, Try.func144.trans (congrArg some (by kernel_rfl))⟩
  f57 := ⟨"slices.order2CmpFunc[incunable/api.Attr]", by decide, Try.func145.trans (congrArg some (by kernel_rfl))⟩
  t0 := Try.underlying0
  a0 := Try.isAgg0
  z0 := Try.sizeOf0
  v0 := Try.zeroValue0
  t3 := Try.underlying3
  a3 := Try.isAgg3
  z3 := Try.sizeOf3
  v3 := Try.zeroValue3
  t4 := Try.underlying4
  a4 := Try.isAgg4
  z4 := Try.sizeOf4
  v4 := Try.zeroValue4
  t5 := Try.underlying5
  a5 := Try.isAgg5
  z5 := Try.sizeOf5
  v5 := Try.zeroValue5
  t9 := Try.underlying9
  a9 := Try.isAgg9
  z9 := Try.sizeOf9
  v9 := Try.zeroValue9
  t22 := Try.underlying31
  a22 := Try.isAgg31
  z22 := Try.sizeOf31
  v22 := Try.zeroValue31
  t25 := Try.underlying102
  a25 := Try.isAgg102
  z25 := Try.sizeOf102
  v25 := Try.zeroValue102
  t39 := Try.underlying122
  a39 := Try.isAgg122
  z39 := Try.sizeOf122
  v39 := Try.zeroValue122
  t45 := Try.underlying139
  a45 := Try.isAgg139
  z45 := Try.sizeOf139
  v45 := Try.zeroValue139
  t46 := Try.underlying140
  a46 := Try.isAgg140
  z46 := Try.sizeOf140
  v46 := Try.zeroValue140
  t50 := Try.underlying144
  a50 := Try.isAgg144
  z50 := Try.sizeOf144
  v50 := Try.zeroValue144
  t53 := Try.underlying147
  a53 := Try.isAgg147
  z53 := Try.sizeOf147
  v53 := Try.zeroValue147
  t55 := Try.underlying149
  a55 := Try.isAgg149
  z55 := Try.sizeOf149
  v55 := Try.zeroValue149
  t66 := Try.underlying156
  a66 := Try.isAgg156
  z66 := Try.sizeOf156
  v66 := Try.zeroValue156
  t70 := Try.underlying160
  a70 := Try.isAgg160
  z70 := Try.sizeOf160
  v70 := Try.zeroValue160
  t76 := Try.underlying162
  a76 := Try.isAgg162
  z76 := Try.sizeOf162
  v76 := Try.zeroValue162
  t77 := Try.underlying134
  a77 := Try.isAgg134
  z77 := Try.sizeOf134
  v77 := Try.zeroValue134 }
end Go.Proofs
namespace Go.Proofs.Ythifddkmbjnncaa
open Go.RowKit Go.Shelf Go.Sort

set_option maxHeartbeats 1000000 in
/-- the closure of begin -/
theorem begin1_any (x y : AttrD) (W : World) :
    Calls Try.prog 75 #[.agg (cellsA x).toArray, .agg (cellsA y).toArray] W fun e w' => e = .returned (.int .i64 (nameC x y)) ∧ ∃ os, w' = grow W os := by
  show Calls Try.prog 75 #[.agg #[.string ⟨x.name.toArray⟩, .string ⟨x.value.toArray⟩], .agg #[.string ⟨y.name.toArray⟩, .string ⟨y.value.toArray⟩]] W _
  go_enter Try.func75, Try.ntmps75
  go_wp2_with fail
  refine (Try.strings_Compare _ _ _).mono ?_
  rintro e w2 ⟨rfl, rfl⟩
  go_wp2_with fail
  go_ret
  exact ⟨rfl, _, by rw [alloc_eq_grow, alloc_eq_grow, grow_grow]⟩

theorem cmpLays_begin (blk off size : Nat) (w : World) : CmpLays Try.prog 75 #[] cellsA 2 nameC blk off size w := fun m os dk hd x y => by
  show Calls Try.prog 75 #[.agg (cellsA x).toArray, .agg (cellsA y).toArray] _ _
  refine (begin1_any x y _).mono ?_
  rintro e w' ⟨rfl, os', rfl⟩
  exact ⟨rfl, 0, os', rfl⟩

theorem cellsA_flat (d : Array AttrD) : d.toList.flatMap cellsA = (flatK cellsA 2 d).toList := by
  apply List.ext_getElem?
  intro t
  have hl := flat_length cellsA 2 cellsA_length d.toList
  by_cases ht : t < d.size * 2
  · obtain ⟨q, r, hr, rfl⟩ : ∃ q r, r < 2 ∧ t = q * 2 + r := ⟨t / 2, t % 2, by omega, by omega⟩
    have hq : q < d.size := by omega
    rw [flat_get cellsA 2 cellsA_length d.toList q r d[q] (by simp [hq]) hr]
    refine (List.getElem?_eq_getElem (by rw [cellsA_length]; exact hr)).trans ?_
    have h1 := get_flatK cellsA 2 d (q * 2 + r) ht
    rw [getElem!_pos _ _ (by rw [size_flatK]; exact ht), show (q * 2 + r) / 2 = q by omega, show (q * 2 + r) % 2 = r by omega, getElem!_pos d q hq, getElem!_pos (cellsA d[q]) r (by rw [cellsA_length]; exact hr)] at h1
    rw [Array.getElem?_toList, Array.getElem?_eq_getElem (by rw [size_flatK]; exact ht), h1]
  · rw [List.getElem?_eq_none (by rw [hl]; simp at ht ⊢; omega), List.getElem?_eq_none (by simp at ht ⊢; omega)]

theorem holds_own {w : World} {B g c : Nat} {l : List AttrD} (h : AttrsOwn w B (some ⟨g, 0, none⟩) c l) (hl : 0 < l.length) : HoldsK cellsA 2 w g 0 l.toArray := by
  intro j hj
  obtain ⟨_, h2⟩ := h
  rcases h2 with ⟨h0, _⟩ | ⟨g', cap, cur, hv, _, hc, _, _, hs, ht⟩
  · cases h0
  · injection hv with hv _ hv3
    injection hv with hv
    injection hv with hv
    subst hv
    have e := cellsA_flat l.toArray
    rw [← ht] at e
    have hj' : j < cur.size := by
      have hcap : l.length ≤ cap := by omega
      have := Nat.mul_le_mul_right 2 hcap
      simp at hj; omega
    refine ⟨?_, frozen_of_row w g (0 + j) cur _ hc⟩
    rw [cell_of_row hc, Nat.zero_add]
    have h3 : (cur.toList.take (l.length * 2))[j]? = (flatK cellsA 2 l.toArray).toList[j]? := by rw [e]
    rw [List.getElem?_take_of_lt (by simpa using hj), Array.getElem?_toList, Array.getElem?_toList] at h3
    rw [h3, Array.getElem?_eq_getElem hj, getElem!_pos _ j hj]
    rfl

theorem own_sorted {w w' : World} {B g c : Nat} {l : List AttrD} (h : AttrsOwn w B (some ⟨g, 0, none⟩) c l) (hl : 0 < l.length) {n : Nat} {d : Array AttrD} {os : Array Obj} (hw : w' = sortWorldK cellsA 2 w g 0 n d os) (hd : d.size = l.length) :
    AttrsOwn w' B (some ⟨g, 0, none⟩) c d.toList ∧ w.grownBy w' (some g) := by
  have hH := holds_own h hl
  obtain ⟨h1, h2⟩ := h
  rcases h2 with ⟨h0, _⟩ | ⟨g', cap, cur, hv, hB, hc, hcap, hmax, hs, ht⟩
  · cases h0
  · injection hv with hv _ hv3
    injection hv with hv
    injection hv with hv
    subst hv
    have hg : g < w.heap.size := (Array.getElem?_eq_some_iff.1 hc).1
    have hheap : w'.heap = w.heap.modify g (onCells (putCells id 0 (flatK cellsA 2 d))) ++ os := by rw [hw]; rfl
    have hcell : w'.heap[g]? = some (.cells (putCells id 0 (flatK cellsA 2 d) cur) 44 (0, 0)) := by
      rw [hheap, Array.getElem?_append, if_pos (by simpa using hg), Array.getElem?_modify, if_pos rfl, hc]
      rfl
    refine ⟨⟨by rw [flat_length cellsA 2 cellsA_length], .inr ⟨g, cap, _, ?_, hB, hcell, ?_, hmax, ?_, ?_⟩⟩, ⟨?_, ?_, ?_, ?_, ?_⟩⟩
    · rw [hv3]
    · simpa [hd] using hcap
    · simpa [putCells] using hs
    · rw [cellsA_flat]
      have hcap' := Nat.mul_le_mul_right 2 hcap
      apply List.ext_getElem?
      intro t
      by_cases hlt : t < d.size * 2
      · rw [List.getElem?_take_of_lt (by simpa using hlt), Array.getElem?_toList, Array.getElem?_toList]
        have hts : t < cur.size := by omega
        unfold putCells
        rw [Array.getElem?_mapIdx, Array.getElem?_eq_getElem hts, Option.map_some, if_pos ⟨Nat.zero_le _, by rw [size_flatK]; omega⟩, Nat.sub_zero, Array.getElem?_eq_getElem (by rw [size_flatK]; exact hlt), getElem!_pos _ t (by rw [size_flatK]; exact hlt)]
        rfl
      · rw [List.getElem?_eq_none (by simp at hlt ⊢; omega), List.getElem?_eq_none (by simp at hlt ⊢; omega)]
    · rw [hw]; rfl
    · rw [hw]; rfl
    · rw [hw]; rfl
    · rw [hheap]; simp
    · intro k hk hne
      rw [hheap, Array.getElem?_append, if_pos (by simpa using hk), Array.getElem?_modify, if_neg (fun e => hne (by rw [e]))]

/-- slices.SortFunc at attributes of the call's own -/
theorem SortA_any (l : List AttrD) (A : Option Addr) (c B : Nat) (w : World) (hA : AttrsOwn w B A c l) (hl : l.length ≤ 1000) (hap : Apart l) :
    Calls Try.prog 74 #[.slice A l.length c, .func (.func 75) #[] #[]] w fun e w' => e = .returned (.tuple #[]) ∧ AttrsOwn w' B A c (sortA l) ∧ w.grownBy w' (Value.slice A l.length c).ownBlock := by
  cases hl0 : l with
  | nil =>
    subst hl0
    refine (AnyF.slices_SortFunc_none Try.laysF6 A c _ w).mono ?_
    rintro e w' ⟨rfl, rfl⟩
    exact ⟨rfl, hA, World.grownBy.refl _ _⟩
  | cons a r =>
    have hpos : 0 < l.length := by rw [hl0]; simp
    rw [← hl0]
    obtain ⟨g, rfl, _, hg, _, _⟩ := own_flat cellsA cellsA_length hA hpos
    have eg : ∀ args w, (callFunc 75 args).run Try.prog w = .ok (.enter 75 args) w := enters_of Try.func75 (by kernel_rfl) rfl
    have hcon := AnyQ.slices_SortFunc Try.laysF6 2 Try.isAgg44 Try.sizeOf44 cellsA cellsA_length (fun x v hv => cellsA_one [x] v (by simpa using hv)) nameC nameC_swo 75 #[] g 0 c l.toArray w eg (cmpLays_begin g 0 _ w) (holds_own hA hpos) hg (by simp; omega)
    simp only [List.size_toArray] at hcon
    refine hcon.mono ?_
    rintro e w' ⟨rfl, d', n, os, hp, hs, hw⟩
    have hd : d'.size = l.length := by have := hp.1; simpa using this
    obtain ⟨h1, h2⟩ := own_sorted hA hpos hw hd
    have he := sorted_list (d := l.toArray) (d' := d') (by simpa using hp) hs hap
    rw [he] at h1
    exact ⟨rfl, h1, h2⟩
end Go.Proofs.Ythifddkmbjnncaa
