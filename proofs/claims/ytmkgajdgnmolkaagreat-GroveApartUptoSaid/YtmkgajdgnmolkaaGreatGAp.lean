/-
  The law GroveApart: a tree that was cloned goes its own way; what is told, and what was given, is the caller's own.
-/
import Derived.Test.YtmkgajdgnmolkaaGreatT1
import Derived.Test.YtmkgajdgnmolkaaGreatT11
import Derived.Test.YtmkgajdgnmolkaaGreatT12
import Derived.Test.YtmkgajdgnmolkaaGreatGCp
namespace Go.Proofs.YtmkgajdgnmolkaaGreat
open Go.RowKit Go.Shelf
theorem TreeR.to {X X' : Nat → Prop} {w w' : World} {A : Option Addr} {c : Nat} {L : List RowD} (h : TreeR X w A c L) (hb : Below w.heap.size w w') (hx : ∀ b, b < w.heap.size → X b → X' b) : TreeR X' w' A c L := by
 have h' := h.below hb
 refine ⟨fun hl => ?_, h.2⟩
 obtain ⟨ad, rfl, hbl, hr⟩ := h.1 hl
 obtain ⟨ad2, e2, hbl2, hr2⟩ := h'.1 hl
 injection e2 with e2
 subst e2
 refine ⟨ad, rfl, ⟨hbl2.1, hx _ hbl.1 hbl.2⟩, fun k r hk => ?_⟩
 obtain ⟨A1, c1, ⟨ha1, hx1⟩, _, hc1⟩ := hr k r hk
 obtain ⟨A2, c2, ⟨ha2, hx2⟩, hcc2, hc2⟩ := hr2 k r hk
 have e5 : A1 = A2 := by
  have h1 : w.cell? ⟨(ad.add (k * 6)).block, (ad.add (k * 6)).off + 5, none⟩ = some (.slice A1 r.x.attrs.length c1) := hc1.2.2.2.2.2
  have h2 : w'.cell? ⟨(ad.add (k * 6)).block, (ad.add (k * 6)).off + 5, none⟩ = some (.slice A2 r.x.attrs.length c2) := hc2.2.2.2.2.2
  have h3 := (hb.cell (p := ⟨(ad.add (k * 6)).block, (ad.add (k * 6)).off + 5, none⟩) (by show (ad.add _).block < _; rw [block_of_add]; exact hbl.1)).trans h1
  rw [h3] at h2
  injection h2 with h2
  injection h2
 subst e5
 refine ⟨A1, c2, ⟨ha2, fun hp ad3 e3 => ?_⟩, hcc2, hc2⟩
 obtain ⟨ad4, e4, hb4, _⟩ := ha1 hp
 rw [e3] at e4
 injection e4 with e4
 subst e4
 exact hx _ hb4 (hx1 hp _ e3)
theorem add_more' (a : Addr) (k j : Nat) (hj : j ≠ 0) : a.add (k + j) = ⟨(a.add k).block, (a.add k).off + j, none⟩ := by
 rw [← add_of_add]
 generalize a.add k = b
 unfold Addr.add
 rw [if_neg hj]
theorem root_wf2 {f : Fo} {next : Int} (h : InvF f next) : wfI (rootF f) := by
 cases f with
 | nil => exact ⟨by decide, by decide⟩
 | cons id d ks r =>
  have := h.rng id (by simp [Fo.ids])
  have := h.nx
  exact ⟨by show _ ≤ id; omega, by show id ≤ _; omega⟩
def Room (w : World) (B : Nat) (A : Option Addr) (n : Nat) : Prop := 0 < n → ∃ ga cur, A = some ⟨ga, 0, none⟩ ∧ B ≤ ga ∧ w.heap[ga]? = some (.cells cur 66 (0, 0)) ∧ n * 2 ≤ cur.size
theorem Room.of {w : World} {B : Nat} {A : Option Addr} {c : Nat} {l : List AttrD} (h : AttrsOwn w B A c l) : Room w B A l.length := fun hp => by
 rcases h.2 with ⟨_, h0⟩ | ⟨g, cap, cur, hv, hb, hc, h1, _, h3, _⟩
 ·omega
 ·injection hv with e1 _ _
  exact ⟨g, cur, e1, hb, hc, by omega⟩
theorem Room.low {w : World} {B B' : Nat} {A : Option Addr} {n : Nat} (h : Room w B A n) (hB : B' ≤ B) : Room w B' A n := fun hp => by
 obtain ⟨ga, cur, h1, h2, h3, h4⟩ := h hp
 exact ⟨ga, cur, h1, Nat.le_trans hB h2, h3, h4⟩
theorem Room.keep {w w' : World} {B : Nat} {A : Option Addr} {n : Nat} (h : Room w B A n) (hb : Below w.heap.size w w') : Room w' B A n := fun hp => by
 obtain ⟨ga, cur, h1, h2, h3, h4⟩ := h hp
 exact ⟨ga, cur, h1, h2, (hb.block ga (Array.getElem?_eq_some_iff.1 h3).1).trans h3, h4⟩
theorem Room.set {w : World} {B : Nat} {A : Option Addr} {n : Nat} (h : Room w B A n) {g : Nat} {cur0 : Array Value} (hg : w.heap[g]? = some (.cells cur0 66 (0, 0))) (i : Nat) (v : Value) : Room (w.setCell ⟨g, i, none⟩ v) B A n := fun hp => by
 obtain ⟨ga, cur, h1, h2, h3, h4⟩ := h hp
 by_cases e : ga = g
 ·subst e
  rw [hg] at h3
  injection h3 with h3
  injection h3 with h3
  subst h3
  exact ⟨ga, _, h1, h2, Lib.heap_setCell_same (i := i) hg v, by simpa using h4⟩
 ·exact ⟨ga, cur, h1, h2, (Below.heap_setCell _ _ _ _ e).trans h3, h4⟩
theorem mine_get {w : World} {g n m : Nat} {cur : Array Value} (hg : w.heap[g]? = some (.cells cur 66 (0, 0))) (hn : n * 2 ≤ cur.size) (hm : m < n) : ∃ old, w.cell? ⟨g, m * 2 + 1, none⟩ = some old :=
 ⟨cur[m * 2 + 1], cell_row hg (m * 2 + 1) _ (Array.getElem?_eq_getElem (by omega))⟩
set_option maxRecDepth 100000 in
set_option maxHeartbeats 8000000 in
theorem walk_GroveApart (l : List OpD) (A : Option Addr) (c : Nat) (l2 : List OpD) (A2 : Option Addr) (c2 : Nat) (w : World) (hI : OpsAt w w.heap.size A l) (hS : SmallOps l) (hI2 : OpsAt w w.heap.size A2 l2) (hS2 : SmallOps l2) :
  Calls Tryz.prog 8 #[.slice A l.length c, .slice A2 l2.length c2] w (Ret w (.bool true)) := by
 have HI := Lib.hid hI
 have HS := Lib.hid hS
 have HIB := Lib.hid hI2
 have HSB := Lib.hid hS2
 clear hI hS hI2 hS2
 go_enter Tryz.func8, Tryz.ntmps8
 go_wp2_with fail
 refine (New_in w).mono ?_
 rintro e w1 ⟨rfl, hb1, ht1⟩
 have HB1 := Lib.hid hb1
 have HT1 := Lib.hid ht1
 have HI1 := Lib.hid (HI.out.below hb1)
 clear hb1 ht1
 go_wp2_with fail
 cases hfew : fewL l with
 | false =>
  refine (few_any l A c w.heap.size w1 HI1.out HB1.out.size HS.out false hfew).mono ?_
  rintro e w2 ⟨rfl, hb2⟩
  have HB2 : Hid (Below w.heap.size w w2) := HB1.out.trans (hb2.mono HB1.out.size)
  clear hb2
  go_wp2_with fail
  refine (alive_any w2).mono ?_
  rintro e w3 ⟨rfl, hb3⟩
  have HB3 : Hid (Below w.heap.size w w3) := HB2.out.trans (hb3.mono HB2.out.size)
  clear hb3
  go_wp2_with fail
  go_ret
  exact ⟨rfl, HB3.out⟩
 | true =>
  have HFEW := Lib.hid hfew
  refine (few_any l A c w.heap.size w1 HI1.out HB1.out.size HS.out true hfew).mono ?_
  rintro e w2' ⟨rfl, hb2'⟩
  have HB2' : Hid (Below w.heap.size w w2') := HB1.out.trans (hb2'.mono HB1.out.size)
  have HT2' := Lib.hid (HT1.out.below hb2')
  clear hb2' hfew
  go_wp2_with fail
  cases hfew2 : fewL l2 with
  | false =>
   refine (few_any l2 A2 c2 w.heap.size w2' (HIB.out.below HB2'.out) HB2'.out.size HSB.out false hfew2).mono ?_
   rintro e w2 ⟨rfl, hb2⟩
   have HB1 := HB2'
   have HB2 : Hid (Below w.heap.size w w2) := HB1.out.trans (hb2.mono HB1.out.size)
   clear hb2
   go_wp2_with fail
   refine (alive_any w2).mono ?_
   rintro e w3 ⟨rfl, hb3⟩
   have HB3 : Hid (Below w.heap.size w w3) := HB2.out.trans (hb3.mono HB2.out.size)
   clear hb3
   go_wp2_with fail
   go_ret
   exact ⟨rfl, HB3.out⟩
  | true =>
   have HFEW2 := Lib.hid hfew2
   refine (few_any l2 A2 c2 w.heap.size w2' (HIB.out.below HB2'.out) HB2'.out.size HSB.out true hfew2).mono ?_
   rintro e w2 ⟨rfl, hb2⟩
   have HB2 : Hid (Below w.heap.size w w2) := HB2'.out.trans (hb2.mono HB2'.out.size)
   have HT2 := Lib.hid (HT2'.out.below hb2)
   clear hb2 hfew2
   go_wp2_with fail
   refine (RNew_any w2).mono ?_
   rintro e w3 ⟨he3, hb3⟩
   unfold treeV at he3
   subst he3
   have HB3 : Hid (Below w.heap.size w w3) := HB2.out.trans (hb3.mono HB2.out.size)
   have HT3 := Lib.hid (HT2.out.below hb3)
   clear hb3
   go_wp2_with fail
   refine (plays_in l A c w.heap.size (w.heap.size + 1) .nil 1 none 0 _ (fun _ => True) w3 HT3.out ⟨fun h => absurd h (by simp [Fo.flat]), by simp [Fo.flat, SliceOk, maxLen]⟩ (HI.out.below HB3.out) (fun b hb => by rcases hb with rfl | rfl <;> omega) HB3.out.size HS.out HFEW.out (fun _ _ => trivial) (fun _ _ => trivial)).mono ?_
   rintro e w4 ⟨M4, f4, next4, A4, c4, he4, ht4, hr4, hg4, hn4⟩
   unfold treeV at he4
   subst he4
   have HT4 := Lib.hid ht4
   have HN4 := Lib.hid hn4
   have HR4 := Lib.hid hr4
   have HLO4 : Hid (∀ b, M4 b → w.heap.size ≤ b) := hg4.low (fun b hb => by rcases hb with rfl | rfl <;> omega) HB3.out.size
   have HB4 : Hid (Below w.heap.size w w4) := HB3.out.trans (hg4.1.below (fun b hb => by rcases hb with rfl | rfl <;> omega) HB3.out.size)
   clear ht4 hr4 hg4 hn4
   obtain ⟨W5, hW5⟩ : ∃ W5, Hid (W5 = w4.alloc (.cells #[.slice A4 (f4.flat 0).length c4, .int .i64 next4] 29)) := ⟨_, rfl⟩
   have hb5 : Below w4.heap.size w4 W5 := by rw [hW5.out]; exact (Below.refl _ w4).alloc (Nat.le_refl _) _
   have hx5 : W5.heap[w4.heap.size]? = some (.cells (treeV A4 (f4.flat 0).length c4 next4) 29 (0, 0)) := by rw [hW5.out]; exact heap_alloc_new w4 _
   have HZ5 : Hid (w4.heap.size < W5.heap.size) := by show _ < _; rw [hW5.out]; simp
   have HX5 := Lib.hid hx5
   have HT5 := Lib.hid (HT4.out.below hb5)
   have HR5 := Lib.hid (HR4.out.below hb5)
   have HB5 : Hid (Below w.heap.size w W5) := HB4.out.trans (hb5.mono HB4.out.size)
   clear hb5 hx5
   go_upto_region 5 with (fail)
   rw [← hW5.out]
   go_wp2_with fail
   refine (Clone_in HT5.out).mono ?_
   rintro e w6 ⟨u, M6, rfl, ht6, hm6, hb6⟩
   have HM6 := Lib.hid hm6
   have HTU6 := Lib.hid ht6
   have HTT6 := Lib.hid (HT5.out.below hb6)
   have HRR6 : Hid (TreeR (Off M6 fun b => ¬ M4 b) w6 A4 c4 (f4.flat 0)) := HR5.out.to hb6 fun b hb hx => ⟨fun hm => by have := hm6 b hm; omega, hx.1⟩
   have HX6 : Hid (w6.heap[w4.heap.size]? = some (.cells (treeV A4 (f4.flat 0).length c4 next4) 29 (0, 0))) := (hb6.block _ HZ5.out).trans HX5.out
   have HB6 : Hid (Below w.heap.size w w6) := HB5.out.trans (hb6.mono HB5.out.size)
   have HZ6 : Hid (W5.heap.size ≤ w6.heap.size) := hb6.size
   have HM4L : Hid (∀ b, M4 b → b < W5.heap.size) := fun b hb => HT5.out.lt hb
   have HM6L : Hid (∀ b, M6 b → W5.heap.size ≤ b ∧ b < w6.heap.size) := fun b hb => ⟨HM6.out b hb, HTU6.out.lt hb⟩
   clear ht6 hm6 hb6
   have x0 : w6.cell? ⟨w4.heap.size, 0, none⟩ = some (.slice A4 (f4.flat 0).length c4) := cell_row HX6.out 0 _ rfl
   have x1 : w6.cell? ⟨w4.heap.size, 1, none⟩ = some (.int .i64 next4) := cell_row HX6.out 1 _ rfl
   go_wp2_with fail
   refine (plays_in l2 A2 c2 w.heap.size u f4 next4 A4 c4 M6 (fun b => ¬ M4 b) w6 HTU6.out HRR6.out (HIB.out.below HB6.out) (fun b hb => by have := HM6.out b hb; have := HB5.out.size; omega) HB6.out.size HSB.out HFEW2.out (fun b hb hm => by have := HM4L.out b hm; have := HZ6.out; omega) (fun b hb hm => by have := HLO4.out b hm; omega)).mono ?_
   rintro e w7 ⟨M7, f7, next7, A7, c7, he7, ht7, hr7, hg7, _⟩
   unfold treeV at he7
   subst he7
   have hd46 : ∀ b, M4 b → ¬ M6 b := fun b hb hm => by have := HM4L.out b hb; have := HM6.out b hm; omega
   have HTT7 := Lib.hid (HTT6.out.turn hg7.1 hd46)
   have HRR7 := Lib.hid (HRR6.out.turn hg7)
   have HTU7 := Lib.hid ht7
   have HRU7 := Lib.hid hr7
   have HX7 : Hid (w7.heap[w4.heap.size]? = some (.cells (treeV A4 (f4.flat 0).length c4 next4) 29 (0, 0))) := (hg7.1.block _ (by have := HZ5.out; have := HZ6.out; omega) (fun hm => by have := HM6.out _ hm; have := HZ5.out; omega)).trans HX6.out
   have HB7 : Hid (Below w.heap.size w w7) := HB6.out.trans (hg7.1.below (fun b hb => by have := HM6.out b hb; have := HB5.out.size; omega) HB6.out.size)
   have HZ7 : Hid (w4.heap.size < w7.heap.size) := by have h1 := HZ5.out; have h2 := HZ6.out; have h3 := hg7.1.size; show _ < _; omega
   clear ht7 hr7 hg7 hd46 x0 x1
   obtain ⟨W8, hW8⟩ : ∃ W8, Hid (W8 = w7.alloc (.cells #[.slice A7 (f7.flat 0).length c7, .int .i64 next7] 29)) := ⟨_, rfl⟩
   have hb8 : Below w7.heap.size w7 W8 := by rw [hW8.out]; exact (Below.refl _ w7).alloc (Nat.le_refl _) _
   have hq8 : W8.heap[w7.heap.size]? = some (.cells (treeV A7 (f7.flat 0).length c7 next7) 29 (0, 0)) := by rw [hW8.out]; exact heap_alloc_new w7 _
   have HZ8 : Hid (w7.heap.size < W8.heap.size) := by show _ < _; rw [hW8.out]; simp
   have HQ8 := Lib.hid hq8
   have HX8 : Hid (W8.heap[w4.heap.size]? = some (.cells (treeV A4 (f4.flat 0).length c4 next4) 29 (0, 0))) := (hb8.block _ HZ7.out).trans HX7.out
   have HTT8 := Lib.hid (HTT7.out.below hb8)
   have HRR8 := Lib.hid (HRR7.out.below hb8)
   have HTU8 := Lib.hid (HTU7.out.below hb8)
   have HRU8 := Lib.hid (HRU7.out.below hb8)
   have HB8 : Hid (Below w.heap.size w W8) := HB7.out.trans (hb8.mono HB7.out.size)
   clear hb8 hq8
   go_upto_region 9 with (fail)
   rw [← hW8.out]
   go_wp2_with fail
   refine (Root_in HTT8.out).mono ?_
   rintro e w9 ⟨rfl, rfl⟩
   go_wp2_with fail
   refine (Items_in HTT8.out (root_wf2 HTT8.out.inv)).mono ?_
   rintro e w9 ⟨A9, c9, S9, rfl, hS9, hown9, hat9, hb9⟩
   have HB89 := Lib.hid hb9
   have HOWN9 := Lib.hid hown9
   have HRM9 : Hid (∀ s ∈ S9, Room w9 W8.heap.size s.2.1 s.1.attrs.length) := fun s hs => Room.of (hat9 s hs)
   have hsm9 := items_small HTT8.out.inv (rootF f4)
   have hn9 : (S9.length : Int) ≤ 1000000000 := by
    have := hsm9.1
    rw [← hS9, List.length_map] at this
    omega
   have HSL9 : Hid (∀ s ∈ S9, s.1.attrs.length ≤ 1000000000) := fun s hs => by
    obtain ⟨k, hk⟩ := List.mem_iff_getElem?.1 hs
    exact (hsm9.2 k s.1 (by rw [← hS9, List.getElem?_map, hk]; rfl)).2.2.1
   have hn90 : (0 : Int) ≤ (S9.length : Int) := by omega
   clear hb9 hown9 hat9 hS9 hsm9
   go_wp2_with fail
   go_loopw [64] (fun i wr => ∃ j : Nat, i = .int .i64 (j : Int) ∧ j ≤ S9.length ∧ Hid (Below W8.heap.size W8 wr) ∧ Hid (ItemsOwn wr W8.heap.size A9 c9 S9) ∧ Hid (∀ s ∈ S9, Room wr W8.heap.size s.2.1 s.1.attrs.length)) (fun i _ => S9.length - (intOf i).toNat)
   case atStart => exact ⟨0, rfl, Nat.zero_le _, HB89.out, HOWN9.out, HRM9.out⟩
   case round =>
    obtain ⟨j, rfl, hj, hbj, howj, hrmj⟩ := hrel
    have j0 : (0 : Int) ≤ (j : Int) := by omega
    by_cases hjl : j < S9.length
    ·have j1 : (j : Int) < (S9.length : Int) := by omega
     obtain ⟨s, hs⟩ : ∃ s, Hid (S9[j]? = some s) := ⟨S9[j], List.getElem?_eq_getElem _⟩
     have HSM := Lib.hid (List.mem_of_getElem? hs.out)
     obtain ⟨g9, hA9, _, _, _, hcl⟩ := own_flat cellsI cellsI_length howj.out (by omega)
     have hSL := HSL9.out s HSM.out
     have hsl1 : (s.1.attrs.length : Int) ≤ 1000000000 := by omega
     have hsl0 : (0 : Int) ≤ (s.1.attrs.length : Int) := by omega
     obtain ⟨ad, had⟩ : ∃ ad, Hid ((⟨g9, 0, none⟩ : Addr) = ad) := ⟨_, rfl⟩
     rw [had.out] at hA9 hcl
     subst hA9
     have y0 := hcl j s 0 _ hs.out rfl
     have y1 := hcl j s 1 _ hs.out rfl
     have y2 := hcl j s 2 _ hs.out rfl
     have y3 := hcl j s 3 _ hs.out rfl
     have y4 := hcl j s 4 _ hs.out rfl
     rw [Nat.add_zero] at y0
     rw [add_more' _ _ _ (by decide)] at y1 y2 y3 y4
     unfold strV at y2 y3
     obtain ⟨v1, hv1⟩ : ∃ v1, Hid (v1 = wr.alloc (.cells #[.int .i64 s.1.level, .int .i64 s.1.kind, .string ⟨s.1.name.toArray⟩, .string ⟨s.1.text.toArray⟩, .slice s.2.1 s.1.attrs.length s.2.2] 62)) := ⟨_, rfl⟩
     have hbx : Below wr.heap.size wr v1 := by rw [hv1.out]; exact (Below.refl _ wr).alloc (Nat.le_refl _) _
     obtain ⟨bx, hbx0⟩ : ∃ bx, Hid (wr.heap.size = bx) := ⟨_, rfl⟩
     have HX1 : Hid (v1.heap[bx]? = some (.cells #[.int .i64 s.1.level, .int .i64 s.1.kind, .string ⟨s.1.name.toArray⟩, .string ⟨s.1.text.toArray⟩, .slice s.2.1 s.1.attrs.length s.2.2] 62 (0, 0))) := by show _ = _; rw [hv1.out, ← hbx0.out]; exact heap_alloc_new wr _
     have HBW1 : Hid (Below W8.heap.size W8 v1) := hbj.out.trans (hbx.mono hbj.out.size)
     have HOW1 : Hid (ItemsOwn v1 W8.heap.size (some ad) c9 S9) := own_below howj.out hbx
     have HRM1 : Hid (∀ s ∈ S9, Room v1 W8.heap.size s.2.1 s.1.attrs.length) := fun s hs => (hrmj.out s hs).keep hbx
     clear hcl hbx hSL
     go_upto_region 12 with (fail)
     rw [← hv1.out, hbx0.out]
     have z4 := cell_row HX1.out 4 _ rfl
     clear y0 y1 y2 y3 y4
     go_wp2_with fail
     clear z4
     go_loopw [71] (fun i wr => ∃ m : Nat, i = .int .i64 (m : Int) ∧ m ≤ s.1.attrs.length ∧ Hid (Below W8.heap.size W8 wr) ∧ Hid (ItemsOwn wr W8.heap.size (some ad) c9 S9) ∧ Hid (∀ s ∈ S9, Room wr W8.heap.size s.2.1 s.1.attrs.length) ∧ Hid (wr.heap[bx]? = some (.cells #[.int .i64 s.1.level, .int .i64 s.1.kind, .string ⟨s.1.name.toArray⟩, .string ⟨s.1.text.toArray⟩, .slice s.2.1 s.1.attrs.length s.2.2] 62 (0, 0)))) (fun i _ => s.1.attrs.length - (intOf i).toNat)
     case atStart => exact ⟨0, rfl, Nat.zero_le _, HBW1.out, HOW1.out, HRM1.out, HX1.out⟩
     case round =>
      obtain ⟨m, rfl, hm, hbm, howm, hrmm, hxm⟩ := hrel
      have m0 : (0 : Int) ≤ (m : Int) := by omega
      by_cases hml : m < s.1.attrs.length
      ·have m1 : (m : Int) < (s.1.attrs.length : Int) := by omega
       obtain ⟨ga, cur, hga, hgb, hgc, hgn⟩ := hrmm.out s HSM.out (by omega)
       obtain ⟨old, ho⟩ := mine_get hgc hgn hml
       have fo := free_row hgc (m * 2 + 1)
       have z4 := cell_row hxm.out 4 _ rfl
       rw [hga] at z4
       have HGC := Lib.hid hgc
       have HGB := Lib.hid hgb
       have hbne : bx ≠ ga := fun e' => by
        have h1 := hxm.out
        rw [e', HGC.out] at h1
        injection h1 with h1
        injection h1 with _ h1 _
        exact absurd h1 (by decide)
       have HB' : Hid (∀ v, Below W8.heap.size W8 (wr.setCell ⟨ga, m * 2 + 1, none⟩ v)) := fun v => hbm.out.setCell HGB.out v
       have HO' : Hid (∀ v, ItemsOwn (wr.setCell ⟨ga, m * 2 + 1, none⟩ v) W8.heap.size (some ad) c9 S9) := fun v => row_block howm.out fun b hb => Below.heap_setCell _ _ _ _ fun e' => by
        obtain ⟨cur', h1⟩ := row_type (World.ownsRow.mono howm.out (Nat.zero_le _)) hb
        have e2 : b = ga := e'
        rw [e2, HGC.out] at h1
        injection h1 with h1
        injection h1 with _ h1 _
        exact absurd h1 (by decide)
       have HR' : Hid (∀ v, ∀ s ∈ S9, Room (wr.setCell ⟨ga, m * 2 + 1, none⟩ v) W8.heap.size s.2.1 s.1.attrs.length) := fun v s hs => (hrmm.out s hs).set HGC.out _ v
       have HX' : Hid (∀ v, (wr.setCell ⟨ga, m * 2 + 1, none⟩ v).heap[bx]? = some (.cells #[.int .i64 s.1.level, .int .i64 s.1.kind, .string ⟨s.1.name.toArray⟩, .string ⟨s.1.text.toArray⟩, .slice s.2.1 s.1.attrs.length s.2.2] 62 (0, 0))) := fun v => (Below.heap_setCell _ _ _ _ hbne).trans hxm.out
       clear hbne hgc hgb hgn
       go_wp2_with fail
       go_roundw
       case rel => exact ⟨m + 1, by go_num, by omega, HB'.out _, HO'.out _, HR'.out _, HX'.out _⟩
       case measure => simp [intOf]; omega
      ·have m1 : ¬ (m : Int) < (s.1.attrs.length : Int) := by omega
       go_wp2_with fail
       go_roundw
       case rel => exact ⟨j + 1, by go_num, by omega, hbm.out, howm.out, hrmm.out⟩
       case measure => simp [intOf]; omega
    ·have j1 : ¬ (j : Int) < (S9.length : Int) := by omega
     go_wp2_with fail
     refine (Order_in (HTT8.out.below hbj.out)).mono ?_
     rintro e w10 ⟨v10, rfl, hr10, hb10, _⟩
     obtain ⟨A10, c10, rfl, _, hm10, hn10, hs10⟩ := row_shape hr10
     have HB10 : Hid (Below W8.heap.size W8 w10) := hbj.out.trans (hb10.mono hbj.out.size)
     have HR10 := Lib.hid hr10
     have HN10 := Lib.hid hn10
     have HS10 := Lib.hid hs10
     have hidl : (f4.ids.length : Int) ≤ 1000 := by have := HTT8.out.inv.cnt; rw [Fo.ids_len]; omega
     have hidl0 : (0 : Int) ≤ (f4.ids.length : Int) := by omega
     clear hr10 hb10 hn10 hs10 hm10
     go_wp2_with fail
     go_loopw [84] (fun i wr => ∃ j : Nat, i = .int .i64 (j : Int) ∧ j ≤ f4.ids.length ∧ Hid (Below W8.heap.size W8 wr) ∧ Hid (intRow wr (.slice A10 f4.ids.length c10) f4.ids)) (fun i _ => f4.ids.length - (intOf i).toNat)
     case atStart => exact ⟨0, rfl, Nat.zero_le _, HB10.out, HR10.out⟩
     case round =>
      obtain ⟨k, rfl, hk, hbk, hrk⟩ := hrel
      have k0 : (0 : Int) ≤ (k : Int) := by omega
      by_cases hkl : k < f4.ids.length
      ·have k1 : (k : Int) < (f4.ids.length : Int) := by omega
       obtain ⟨x, hx⟩ : ∃ x, Hid (f4.ids[k]? = some x) := ⟨f4.ids[k], List.getElem?_eq_getElem _⟩
       obtain ⟨en, hen⟩ := Fo.ent_some f4 0 x (List.mem_of_getElem? hx.out)
       have HEN := Lib.hid hen
       clear hen
       cases A10 with
       | none => exfalso; have := (HN10.out rfl).1; omega
       | some a10 =>
        obtain ⟨b10, rfl, _⟩ := HS10.out a10 rfl
        have e4 := own_cell hrk.out k (.int .i64 x) (by rw [List.getElem?_map, hx.out]; rfl)
        have hal : en.d.attrs.length ≤ 20 := HTT8.out.inv.attrs x en HEN.out
        have hal1 : (en.d.attrs.length : Int) ≤ 20 := by omega
        have hal0 : (0 : Int) ≤ (en.d.attrs.length : Int) := by omega
        go_wp2_with fail
        clear e4
        refine (Get_in (HTT8.out.below hbk.out) HEN.out).mono ?_
        rintro e w11 ⟨Ag, cg, he11, ha11, hb11⟩
        unfold nodeR strV at he11
        subst he11
        obtain ⟨v1, hv1⟩ : ∃ v1, Hid (v1 = w11.alloc (.cells #[.int .i64 x, .int .i64 en.par, .int .i64 en.d.kind, .int .i64 (en.kids.length : Int), .string ⟨en.d.name.toArray⟩, .string ⟨en.d.text.toArray⟩, .slice Ag en.d.attrs.length cg] 50)) := ⟨_, rfl⟩
        have hbx : Below w11.heap.size w11 v1 := by rw [hv1.out]; exact (Below.refl _ w11).alloc (Nat.le_refl _) _
        obtain ⟨bx, hbx0⟩ : ∃ bx, Hid (w11.heap.size = bx) := ⟨_, rfl⟩
        have HX1 : Hid (v1.heap[bx]? = some (.cells #[.int .i64 x, .int .i64 en.par, .int .i64 en.d.kind, .int .i64 (en.kids.length : Int), .string ⟨en.d.name.toArray⟩, .string ⟨en.d.text.toArray⟩, .slice Ag en.d.attrs.length cg] 50 (0, 0))) := by show _ = _; rw [hv1.out, ← hbx0.out]; exact heap_alloc_new w11 _
        have HBW1 : Hid (Below W8.heap.size W8 v1) := (hbk.out.trans (hb11.mono hbk.out.size)).trans (hbx.mono (Nat.le_trans hbk.out.size hb11.size))
        have HRW1 : Hid (intRow v1 (.slice (some ⟨b10, 0, none⟩) f4.ids.length c10) f4.ids) := row_block (row_block hrk.out fun b hb => hb11.block b (row_lt hrk.out hb)) fun b hb => hbx.block b (Nat.lt_of_lt_of_le (row_lt hrk.out hb) hb11.size)
        have HRM1 : Hid (Room v1 W8.heap.size Ag en.d.attrs.length) := ((Room.of ha11).low hbk.out.size).keep hbx
        clear hbx hb11 ha11
        go_upto_region 22 with (fail)
        rw [← hv1.out, hbx0.out]
        have z6 := cell_row HX1.out 6 _ rfl
        go_wp2_with fail
        clear z6
        go_loopw [97] (fun i wr => ∃ m : Nat, i = .int .i64 (m : Int) ∧ m ≤ en.d.attrs.length ∧ Hid (Below W8.heap.size W8 wr) ∧ Hid (intRow wr (.slice (some ⟨b10, 0, none⟩) f4.ids.length c10) f4.ids) ∧ Hid (Room wr W8.heap.size Ag en.d.attrs.length) ∧ Hid (wr.heap[bx]? = some (.cells #[.int .i64 x, .int .i64 en.par, .int .i64 en.d.kind, .int .i64 (en.kids.length : Int), .string ⟨en.d.name.toArray⟩, .string ⟨en.d.text.toArray⟩, .slice Ag en.d.attrs.length cg] 50 (0, 0)))) (fun i _ => en.d.attrs.length - (intOf i).toNat)
        case atStart => exact ⟨0, rfl, Nat.zero_le _, HBW1.out, HRW1.out, HRM1.out, HX1.out⟩
        case round =>
         obtain ⟨m, rfl, hm, hbm, hrwm, hrmm, hxm⟩ := hrel
         have m0 : (0 : Int) ≤ (m : Int) := by omega
         by_cases hml : m < en.d.attrs.length
         ·have m1 : (m : Int) < (en.d.attrs.length : Int) := by omega
          obtain ⟨ga, cur, hga, hgb, hgc, hgn⟩ := hrmm.out (by omega)
          obtain ⟨old, ho⟩ := mine_get hgc hgn hml
          have fo := free_row hgc (m * 2 + 1)
          have z6 := cell_row hxm.out 6 _ rfl
          rw [hga] at z6
          have HGC := Lib.hid hgc
          have HGB := Lib.hid hgb
          have hbne : bx ≠ ga := fun e' => by
           have h1 := hxm.out
           rw [e', HGC.out] at h1
           injection h1 with h1
           injection h1 with _ h1 _
           exact absurd h1 (by decide)
          have HB' : Hid (∀ v, Below W8.heap.size W8 (wr.setCell ⟨ga, m * 2 + 1, none⟩ v)) := fun v => hbm.out.setCell HGB.out v
          have HO' : Hid (∀ v, intRow (wr.setCell ⟨ga, m * 2 + 1, none⟩ v) (.slice (some ⟨b10, 0, none⟩) f4.ids.length c10) f4.ids) := fun v => row_block hrwm.out fun b hb => Below.heap_setCell _ _ _ _ fun e' => by
           obtain ⟨cur', h1⟩ := row_type hrwm.out hb
           have e2 : b = ga := e'
           rw [e2, HGC.out] at h1
           injection h1 with h1
           injection h1 with _ h1 _
           exact absurd h1 (by decide)
          have HR' : Hid (∀ v, Room (wr.setCell ⟨ga, m * 2 + 1, none⟩ v) W8.heap.size Ag en.d.attrs.length) := fun v => hrmm.out.set HGC.out _ v
          have HX' : Hid (∀ v, (wr.setCell ⟨ga, m * 2 + 1, none⟩ v).heap[bx]? = some (.cells #[.int .i64 x, .int .i64 en.par, .int .i64 en.d.kind, .int .i64 (en.kids.length : Int), .string ⟨en.d.name.toArray⟩, .string ⟨en.d.text.toArray⟩, .slice Ag en.d.attrs.length cg] 50 (0, 0))) := fun v => (Below.heap_setCell _ _ _ _ hbne).trans hxm.out
          clear hgc hgb hgn hbne
          go_wp2_with fail
          go_roundw
          case rel => exact ⟨m + 1, by go_num, by omega, HB'.out _, HO'.out _, HR'.out _, HX'.out _⟩
          case measure => simp [intOf]; omega
         ·have m1 : ¬ (m : Int) < (en.d.attrs.length : Int) := by omega
          go_wp2_with fail
          go_roundw
          case rel => exact ⟨k + 1, by go_num, by omega, hbm.out, hrwm.out⟩
          case measure => simp [intOf]; omega
      ·have k1 : ¬ (k : Int) < (f4.ids.length : Int) := by omega
       go_wp2_with fail
       refine (alive_any wr).mono ?_
       rintro e w12 ⟨rfl, hb12⟩
       have HB12 : Hid (Below W8.heap.size W8 w12) := hbk.out.trans (hb12.mono hbk.out.size)
       have hq := (HB12.out.block _ HZ8.out).trans HQ8.out
       have x0 : w12.cell? ⟨w7.heap.size, 0, none⟩ = some (.slice A7 (f7.flat 0).length c7) := cell_row hq 0 _ rfl
       have x1 : w12.cell? ⟨w7.heap.size, 1, none⟩ = some (.int .i64 next7) := cell_row hq 1 _ rfl
       clear hb12 hq
       go_wp2_with fail
       refine (stands_in A7 c7 next7 (HTU8.out.below HB12.out) (HRU8.out.below HB12.out)).mono ?_
       rintro e w13 ⟨rfl, hb13⟩
       have HB13 : Hid (Below W8.heap.size W8 w13) := HB12.out.trans (hb13.mono HB12.out.size)
       have hr := (HB13.out.block _ (Nat.lt_trans HZ7.out HZ8.out)).trans HX8.out
       clear hb13 x0 x1
       have x0 : w13.cell? ⟨w4.heap.size, 0, none⟩ = some (.slice A4 (f4.flat 0).length c4) := cell_row hr 0 _ rfl
       have x1 : w13.cell? ⟨w4.heap.size, 1, none⟩ = some (.int .i64 next4) := cell_row hr 1 _ rfl
       clear hr
       go_wp2_with fail
       refine (stands_in A4 c4 next4 (HTT8.out.below HB13.out) (HRR8.out.below HB13.out)).mono ?_
       rintro e w14 ⟨rfl, hb14⟩
       have HB14 : Hid (Below W8.heap.size W8 w14) := HB13.out.trans (hb14.mono HB13.out.size)
       clear hb14 x0 x1
       go_wp2_with fail
       go_ret
       exact ⟨rfl, HB8.out.trans (HB14.out.mono HB8.out.size)⟩
end Go.Proofs.YtmkgajdgnmolkaaGreat
