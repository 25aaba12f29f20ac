/-
  The law GroveLoads: a document that was loaded is told as it was.
-/
import Derived.Test.YtmkgajdgnmolkaaGreatH1
import Derived.Test.YtmkgajdgnmolkaaGreatH11
import Derived.Test.YtmkgajdgnmolkaaGreatH12
namespace Go.Proofs.YtmkgajdgnmolkaaGreat
open Go.RowKit Go.Shelf
theorem named_ids (next : Int) (l : List ItemD) (more : Int) : (namedL next l more).map (·.id) = idsFrom next l.length := by
 unfold namedL
 rw [List.map_map]
 exact List.map_snd_zip (by rw [idsFrom_length]; exact Nat.le_refl _)
theorem named_back (next : Int) (l : List ItemD) : (partL (namedL next l 0) 0).map (·.x) = l := by
 unfold partL namedL
 rw [List.map_map, List.map_map]
 exact (List.map_congr_left (g := Prod.fst) fun z _ => by simp).trans (List.map_fst_zip (by rw [idsFrom_length]; exact Nat.le_refl _))
theorem named_items {next : Int} {l : List ItemD} (hc : (checkL l).2 = 0) : itemsAt (namedL next l 0) next = l := by
 obtain ⟨x, r, rfl, h0, _, _, h1, _, _⟩ := (check_ok l).1 hc
 obtain ⟨T, hT, hlv⟩ : ∃ T, namedL next (x :: r) 0 = ⟨next, { x with level := x.level + 0 }⟩ :: T ∧ ∀ z ∈ T, 1 ≤ z.x.level := by
  refine ⟨_, by unfold namedL idsFrom; rw [List.length_cons, List.range_succ_eq_map, List.map_cons, List.zip_cons_cons, List.map_cons]; simp; rfl, fun z hz => ?_⟩
  obtain ⟨q, hq, rfl⟩ := List.mem_map.1 hz
  have := h1 q.1 (List.of_mem_zip hq).1
  show 1 ≤ q.1.level
  exact this
 have hk : ∀ z ∈ T, (⟨next, { x with level := x.level + 0 }⟩ : RowD).x.level < z.x.level := fun z hz => by
  have := hlv z hz
  show x.level + 0 < _
  omega
 have hp := part_at (A := []) (K := T) (B := []) (r := ⟨next, { x with level := x.level + 0 }⟩) hk (fun z hz => by simp at hz)
 have hn := named_back next (x :: r)
 rw [hT] at hn ⊢
 unfold itemsAt findL
 rw [if_pos rfl]
 show itemsL _ 0 = _
 unfold itemsL
 simp only [List.nil_append, List.append_nil, List.length_nil] at hp
 rw [hp]
 have hl0 : lvlL ((⟨next, { x with level := x.level + 0 }⟩ : RowD) :: T) 0 = 0 := by
  show x.level + 0 = 0
  omega
 rw [hl0]
 exact hn
theorem Load_in {M : Nat → Prop} {t : Nat} {f : Fo} {next : Int} {w : World} (h : TreeM M t f next w) (l : List ItemD) (A : Option Addr) (c N : Nat) (hl : ItemsAt w N A l) (hM : ∀ b, M b → N ≤ b) (hN : N ≤ w.heap.size) (hs : SmallItems l) :
  Calls Tryz.prog 18 #[.pointer (some ⟨t, 0, none⟩), .slice A l.length c] w (DoIn M t w (loadL (f.flat 0) next l)) := by
 obtain ⟨mb, y, h, hi, hm, _⟩ := h
 refine (Load_F h hi l A c N (StandI.of hl (fun b hb => hM b (hm b hb)) hN) hN hs).mono ?_
 rintro er w' ⟨rfl, hp⟩
 exact ⟨rfl, hp.toM hm⟩
set_option maxRecDepth 100000 in
set_option maxHeartbeats 4000000 in
theorem walk_GroveLoads (l : List OpD) (A : Option Addr) (c : Nat) (li : List ItemD) (Ai : Option Addr) (ci : Nat) (w : World) (hI : OpsAt w w.heap.size A l) (hS : SmallOps l) (hIi : ItemsAt w w.heap.size Ai li) (hSi : SmallDoc li) :
  Calls Tryz.prog 5 #[.slice A l.length c, .slice Ai li.length ci] w (Ret w (.bool true)) := by
 have HI := Lib.hid hI
 have HS := Lib.hid hS
 have HII := Lib.hid hIi
 have HSI := Lib.hid hSi.1
 have hli0 : (0 : Int) ≤ (li.length : Int) := by omega
 clear hI hS hIi hSi
 go_enter Tryz.func5, Tryz.ntmps5
 go_wp2_with fail
 refine (New_in w).mono ?_
 rintro e w1 ⟨rfl, hb1, ht1⟩
 have HB1 := Lib.hid hb1
 have HT1 := Lib.hid ht1
 have HI1 := Lib.hid (HI.out.below hb1)
 clear hb1 ht1
 go_wp2_with fail
 cases hfew : fewL l with
 | false =>
  refine (few_any l A c w.heap.size w1 HI1.out HB1.out.size HS.out false hfew).mono ?_
  rintro e w2 ⟨rfl, hb2⟩
  have HB2 : Hid (Below w.heap.size w w2) := HB1.out.trans (hb2.mono HB1.out.size)
  clear hb2
  go_wp2_with fail
  refine (alive_any w2).mono ?_
  rintro e w3 ⟨rfl, hb3⟩
  have HB3 : Hid (Below w.heap.size w w3) := HB2.out.trans (hb3.mono HB2.out.size)
  clear hb3
  go_wp2_with fail
  go_ret
  exact ⟨rfl, HB3.out⟩
 | true =>
  have HFEW := Lib.hid hfew
  refine (few_any l A c w.heap.size w1 HI1.out HB1.out.size HS.out true hfew).mono ?_
  rintro e w2 ⟨rfl, hb2⟩
  by_cases hmany : 1200 < li.length
  ·have hm1 : (1200 : Int) < (li.length : Int) := by omega
   clear hmany
   have HB2 : Hid (Below w.heap.size w w2) := HB1.out.trans (hb2.mono HB1.out.size)
   clear hb2
   go_wp2_with fail
   refine (alive_any w2).mono ?_
   rintro e w3 ⟨rfl, hb3⟩
   have HB3 : Hid (Below w.heap.size w w3) := HB2.out.trans (hb3.mono HB2.out.size)
   clear hb3
   go_wp2_with fail
   go_ret
   exact ⟨rfl, HB3.out⟩
  have HB2 : Hid (Below w.heap.size w w2) := HB1.out.trans (hb2.mono HB1.out.size)
  have HT2 := Lib.hid (HT1.out.below hb2)
  have hm1 : ¬ (1200 : Int) < (li.length : Int) := by omega
  have hli1 : (li.length : Int) ≤ 1200 := by omega
  clear hb2 hfew hmany
  go_wp2_with fail
  clear hm1
  refine (RNew_any w2).mono ?_
  rintro e w3 ⟨he3, hb3⟩
  unfold treeV at he3
  subst he3
  have HB3 : Hid (Below w.heap.size w w3) := HB2.out.trans (hb3.mono HB2.out.size)
  have HT3 := Lib.hid (HT2.out.below hb3)
  clear hb3
  go_wp2_with fail
  refine (plays_in l A c w.heap.size (w.heap.size + 1) .nil 1 none 0 _ (fun _ => True) w3 HT3.out ⟨fun h => absurd h (by simp [Fo.flat]), by simp [Fo.flat, SliceOk, maxLen]⟩ (HI.out.below HB3.out) (fun b hb => by rcases hb with rfl | rfl <;> omega) HB3.out.size HS.out HFEW.out (fun _ _ => trivial) (fun _ _ => trivial)).mono ?_
  rintro e w4 ⟨M4, f4, next4, A4, c4, he4, ht4, hr4, hg4, hn4⟩
  unfold treeV at he4
  subst he4
  have HT4 := Lib.hid ht4
  have HN4 := Lib.hid hn4
  have HR4 := Lib.hid hr4
  have HLO4 : Hid (∀ b, M4 b → w.heap.size ≤ b) := hg4.low (fun b hb => by rcases hb with rfl | rfl <;> omega) HB3.out.size
  have HB4 : Hid (Below w.heap.size w w4) := HB3.out.trans (hg4.1.below (fun b hb => by rcases hb with rfl | rfl <;> omega) HB3.out.size)
  clear ht4 hr4 hg4 hn4
  obtain ⟨W5, hW5⟩ : ∃ W5, Hid (W5 = w4.alloc (.cells #[.slice A4 (f4.flat 0).length c4, .int .i64 next4] 29)) := ⟨_, rfl⟩
  have hb5 : Below w4.heap.size w4 W5 := by rw [hW5.out]; exact (Below.refl _ w4).alloc (Nat.le_refl _) _
  have hx5 : W5.heap[w4.heap.size]? = some (.cells (treeV A4 (f4.flat 0).length c4 next4) 29 (0, 0)) := by rw [hW5.out]; exact heap_alloc_new w4 _
  have HZ5 : Hid (w4.heap.size < W5.heap.size) := by show _ < _; rw [hW5.out]; simp
  have HX5 := Lib.hid hx5
  have HT5 := Lib.hid (HT4.out.below hb5)
  have HR5 := Lib.hid (HR4.out.below hb5)
  have HB5 : Hid (Below w.heap.size w W5) := HB4.out.trans (hb5.mono HB4.out.size)
  clear hb5 hx5
  go_upto_region 5 with (fail)
  rw [← hW5.out]
  obtain ⟨ans, hans⟩ : ∃ a, Hid (loadL (f4.flat 0) next4 li = a) := ⟨_, rfl⟩
  go_wp2_with fail
  refine (Load_in HT5.out li Ai ci w.heap.size (HII.out.below HB5.out) HLO4.out HB5.out.size HSI.out).mono ?_
  rw [hans.out]
  obtain ⟨L6, NX, ID, E⟩ := ans
  rintro e w6 ⟨rfl, M6, f6, hf6, ht6, hg6⟩
  obtain rfl : L6 = f6.flat 0 := hf6
  simp only at ht6
  have HT6 := Lib.hid ht6
  have hr6 := HR5.out.turn hg6
  have HR6 := Lib.hid hr6
  have hnm : ¬ M4 w4.heap.size := fun hm => by have := HT4.out.lt hm; omega
  have HX6 : Hid (w6.heap[w4.heap.size]? = some (.cells (treeV A4 (f4.flat 0).length c4 next4) 29 (0, 0))) := (hg6.1.block _ HZ5.out hnm).trans HX5.out
  have HZ6 : Hid (w4.heap.size < w6.heap.size) := Nat.lt_of_lt_of_le HZ5.out hg6.1.size
  have HB6 : Hid (Below w.heap.size w w6) := HB5.out.trans (hg6.1.below HLO4.out HB5.out.size)
  have HI6 : Hid (ItemsAt w6 w6.heap.size Ai li) := (HII.out.below HB6.out).more HB6.out.size
  obtain ⟨cn, ce, hce⟩ : ∃ cn ce, Hid (checkL li = (cn, ce)) := ⟨_, _, rfl⟩
  have hno : ¬ 2147483647 < next4 + (li.length : Int) := by have := HN4.out; omega
  have hans' := hans.out
  unfold loadL at hans'
  rw [hce.out] at hans'
  have HSW : Hid (∀ W : World, Below w6.heap.size w6 W → W.cell? ⟨w4.heap.size, 0, none⟩ = some (.slice A4 (f4.flat 0).length c4) ∧ W.cell? ⟨w4.heap.size, 1, none⟩ = some (.int .i64 next4)) := fun W hb => by
   have hx := (hb.block w4.heap.size HZ6.out).trans HX6.out
   exact ⟨cell_row hx 0 _ rfl, cell_row hx 1 _ rfl⟩
  clear ht6 hr6 hg6 hnm
  by_cases hc : ce ≠ 0
  ·have hE : E = ce := by
    simp only at hans'
    rw [if_pos hc] at hans'
    injection hans' with _ h
    injection h with _ h
    injection h with _ h
    exact h.symm
   have hID : ID = 0 := by
    simp only at hans'
    rw [if_pos hc] at hans'
    injection hans' with _ h
    injection h with _ h
    injection h with h _
    exact h.symm
   have HFL : Hid (f4.flat 0 = f6.flat 0) := by
    simp only at hans'
    rw [if_pos hc] at hans'
    injection hans' with h _
   subst hE
   subst hID
   have hc' : (E != 0) = true := by simpa using hc
   clear hans' hc hno
   go_wp2_with fail
   refine (RCheck_any li Ai ci w6 HI6.out HSI.out cn E hce).mono ?_
   rintro e w7 ⟨rfl, hb7⟩
   have HB7 := Lib.hid hb7
   clear hb7
   go_wp2_with fail
   refine (alive_any w7).mono ?_
   rintro e w8 ⟨rfl, hb8⟩
   have HB8 : Hid (Below w6.heap.size w6 w8) := HB7.out.trans (hb8.mono HB7.out.size)
   obtain ⟨g0, g1⟩ := HSW.out w8 HB8.out
   clear hb8
   go_wp2_with fail
   have hst := stands_in A4 c4 next4 (HT6.out.below HB8.out) (by rw [← HFL.out]; exact HR6.out.below HB8.out)
   rw [← HFL.out] at hst
   refine hst.mono ?_
   rintro e w9 ⟨rfl, hb9⟩
   have HB9 : Hid (Below w6.heap.size w6 w9) := HB8.out.trans (hb9.mono HB8.out.size)
   clear hb9 hst g0 g1
   go_wp2_with fail
   go_ret
   exact ⟨rfl, HB6.out.trans (HB9.out.mono HB6.out.size)⟩
  ·have hc0 : ce = 0 := Decidable.not_not.1 hc
   simp only at hans'
   rw [if_neg hc, if_neg hno] at hans'
   have HFL : Hid (f6.flat 0 = namedL next4 li 0) := by
    injection hans' with h _
    exact h.symm
   have hID : ID = next4 := by
    injection hans' with _ h
    injection h with _ h
    injection h with h _
    exact h.symm
   have hE : E = 0 := by
    injection hans' with _ h
    injection h with _ h
    injection h with _ h
    exact h.symm
   subst hID
   subst hE
   subst hc0
   have HCK : Hid ((checkL li).2 = 0) := by show _ = _; rw [hce.out]
   clear hans' hc hno
   go_wp2_with fail
   refine (RCheck_any li Ai ci w6 HI6.out HSI.out cn 0 hce).mono ?_
   rintro e w7 ⟨rfl, hb7⟩
   have HB7 := Lib.hid hb7
   have HT7 := Lib.hid (HT6.out.below hb7)
   clear hb7
   go_wp2_with fail
   refine (Order_in HT7.out).mono ?_
   rintro e w8 ⟨v8, rfl, hr8, hb8, _⟩
   obtain ⟨A8, c8, rfl, _, hm8, hn8, hs8⟩ := row_shape hr8
   have hids : f6.ids = idsFrom ID li.length := by rw [← Fo.flat_ids f6 0, HFL.out, named_ids]
   rw [hids] at hr8 hn8 ⊢
   rw [idsFrom_length] at hn8 ⊢
   have HR8 := Lib.hid hr8
   have HB8 : Hid (Below w6.heap.size w6 w8) := HB7.out.trans (hb8.mono HB7.out.size)
   have HT8 := Lib.hid (HT7.out.below hb8)
   have HS8 := Lib.hid hs8
   have HN8 := Lib.hid hn8
   obtain ⟨nb0, nb1⟩ := HT4.out.inv.nx
   clear hr8 hb8 hs8 hn8 hids
   go_wp2_with fail
   go_loopw [68] (fun i wr => ∃ j : Nat, i = .int .i64 (j : Int) ∧ j ≤ li.length ∧ Hid (Below w8.heap.size w8 wr)) (fun i _ => li.length - (intOf i).toNat)
   case atStart => exact ⟨0, rfl, Nat.zero_le _, Below.refl _ _⟩
   case round =>
    obtain ⟨j, rfl, hj, hbj⟩ := hrel
    have HBJ : Hid (Below w6.heap.size w6 wr) := HB8.out.trans (hbj.out.mono HB8.out.size)
    obtain ⟨g0, g1⟩ := HSW.out wr HBJ.out
    by_cases hjm : j < li.length
    ·have hrj : intRow wr (.slice A8 (idsFrom ID li.length).length c8) (idsFrom ID li.length) := by
      exact row_block HR8.out fun b hb => hbj.out.block b (row_lt HR8.out hb)
     cases A8 with
     | none => exfalso; have := (HN8.out rfl).1; omega
     | some a8 =>
      obtain ⟨b8, rfl, _⟩ := HS8.out a8 rfl
      have hx : (idsFrom ID li.length)[j]? = some (ID + (j : Int)) := by
       unfold idsFrom
       rw [List.getElem?_map, List.getElem?_range hjm]; rfl
      have e4 := own_cell hrj j (.int .i64 (ID + (j : Int))) (by rw [List.getElem?_map, hx]; rfl)
      have j0 : (0 : Int) ≤ (j : Int) := by omega
      have j1 : (j : Int) < (li.length : Int) := by omega
      have jw : IntKind.i64.wrap (ID + (j : Int)) = ID + (j : Int) := IntWalk.i64_in _ (by omega)
      clear hrj hx
      go_wp2_with fail
      go_roundw
      case rel => exact ⟨j + 1, by go_num, by omega, hbj.out⟩
      case measure => simp [intOf]; omega
    ·have j1 : ¬ (j : Int) < (li.length : Int) := by omega
     clear g0 g1
     go_wp2_with fail
     refine (alive_any wr).mono ?_
     rintro e w9 ⟨rfl, hb9⟩
     have HB9 : Hid (Below w6.heap.size w6 w9) := HBJ.out.trans (hb9.mono HBJ.out.size)
     have HT9 := Lib.hid (HT6.out.below HB9.out)
     obtain ⟨g0, g1⟩ := HSW.out w9 HB9.out
     clear hb9
     go_wp2_with fail
     refine (Items_in HT9.out ⟨by show _ ≤ ID; omega, by show ID ≤ _; omega⟩).mono ?_
     rintro e w10 ⟨A10, c10, S10, rfl, hS10, hown10, hat10, hb10⟩
     have hI10 := items_of_own hown10 hat10
     have hit : S10.map (·.1) = li := by rw [hS10, HFL.out]; exact named_items HCK.out
     rw [hit] at hI10
     have hsl : S10.length = li.length := by rw [← hit, List.length_map]
     rw [hsl]
     have HI10 := Lib.hid hI10
     have HB10 : Hid (Below w6.heap.size w6 w10) := HB9.out.trans (hb10.mono HB9.out.size)
     have HJ10 : Hid (ItemsAt w10 w10.heap.size Ai li) := (HI6.out.below HB10.out).more HB10.out.size
     clear hb10 hS10 hown10 hat10 hI10 hit hsl g0 g1
     go_wp2_with fail
     refine (RSame_any li li A10 Ai c10 ci w10 HI10.out HJ10.out HSI.out HSI.out true (by show _ = _; simp)).mono ?_
     rintro e w11 ⟨rfl, hb11⟩
     have HB11 : Hid (Below w6.heap.size w6 w11) := HB10.out.trans (hb11.mono HB10.out.size)
     clear hb11
     go_wp2_with fail
     go_ret
     exact ⟨rfl, HB6.out.trans (HB11.out.mono HB6.out.size)⟩
end Go.Proofs.YtmkgajdgnmolkaaGreat
