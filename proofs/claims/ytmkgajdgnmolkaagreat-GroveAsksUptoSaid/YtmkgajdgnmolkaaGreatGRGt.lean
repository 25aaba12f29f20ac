/-
  The document's trees: a node told, and a node's kid.
-/
import Derived.Test.YtmkgajdgnmolkaaGreatH1
import Derived.Test.YtmkgajdgnmolkaaGreatH11
import Derived.Test.YtmkgajdgnmolkaaGreatH6
namespace Go.Proofs.YtmkgajdgnmolkaaGreat
open Go.RowKit Go.Shelf
variable {X : Nat → Prop}
def nodeV (id par kind kn : Int) (nm tx : List UInt8) (A : Option Addr) (n c : Nat) : Array Value := #[.int .i64 id, .int .i64 par, .int .i64 kind, .int .i64 kn, strV nm, strV tx, .slice A n c]
theorem nodeV_one (id par kind kn : Int) (nm tx : List UInt8) (A : Option Addr) (n c : Nat) : (nodeV id par kind kn nm tx A n c).all (·.oneCell') = true := by simp [nodeV, strV, Value.oneCell']
def NodePost (w : World) (id par kn : Int) (x : ItemD) (er : Ending) (w' : World) : Prop := ∃ A c, er = .returned (.tuple #[.agg (nodeV id par x.kind kn x.name x.text A x.attrs.length c), .bool true]) ∧ AttrsAt w' w'.heap.size A x.attrs ∧ Below w.heap.size w w'
set_option maxRecDepth 100000 in
set_option maxHeartbeats 2000000 in
theorem RGet_no (L : List RowD) (A : Option Addr) (c : Nat) (next id : Int) (w : World) (hT : TreeR X w A c L) (hs : SmallRows L) (hf : findL L id = none) :
  Calls Tryz.prog 24 #[.agg #[.slice A L.length c, .int .i64 next], .int .i64 id] w fun er w' => er = .returned (.tuple #[.agg nodeZ, .bool false]) ∧ Below w.heap.size w w' := by
 obtain ⟨v, hr⟩ : ∃ v, Hid (findI L id = v) := ⟨_, rfl⟩
 obtain ⟨W2, hW2⟩ : ∃ W2, Hid (W2 = (w.alloc (.cells #[.slice A L.length c, .int .i64 next] 29)).alloc (.cells nodeZ 50)) := ⟨_, rfl⟩
 have hb2 : Below w.heap.size w W2 := by rw [hW2.out]; exact ((Below.refl _ w).alloc (Nat.le_refl _) _).alloc (by simp) _
 have hz2 : W2.heap.size = w.heap.size + 2 := by rw [hW2.out]; simp
 have hx2 : W2.heap[w.heap.size]? = some (.cells (treeV A L.length c next) 29 (0, 0)) := by
  rw [hW2.out]
  exact (Below.heap_alloc _ _ _ (by simp)).trans (heap_alloc_new w _)
 have HY2 : Hid (W2.heap[w.heap.size + 1]? = some (.cells nodeZ 50 (0, 0))) := by
  show _ = _
  rw [hW2.out]
  have := heap_alloc_new (w.alloc (.cells #[.slice A L.length c, .int .i64 next] 29)) (.cells nodeZ 50)
  simpa using this
 have x0 : W2.cell? ⟨w.heap.size, 0, none⟩ = some (.slice A L.length c) := cell_row hx2 0 _ rfl
 have x1 : W2.cell? ⟨w.heap.size, 1, none⟩ = some (.int .i64 next) := cell_row hx2 1 _ rfl
 have HX2 := Lib.hid hx2
 have HB2 := Lib.hid hb2
 have HZ2 := Lib.hid hz2
 have HT2 := Lib.hid (hT.below hb2)
 have HT := Lib.hid hT
 have HS := Lib.hid hs
 have hW2' := hW2.out
 unfold nodeZ at hW2'
 replace hW2 := Lib.hid hW2'
 clear hT hs hb2 hx2 hz2 hW2'
 have hv1 : v = -1 := by rw [← hr.out]; unfold findI; rw [hf]
 clear hf
 subst hv1
 go_enter Tryz.func24, Tryz.ntmps24
 go_wp2_with fail
 rw [← hW2.out]
 refine (RFind_any L A c next id W2 HT2.out.1 HS.out (-1) hr).mono ?_
 rintro e3 w3 ⟨rfl, hb3⟩
 have HB3 : Hid (Below w.heap.size w w3) := HB2.out.trans (hb3.mono HB2.out.size)
 have HY3 : Hid (w3.heap[w.heap.size + 1]? = some (.cells nodeZ 50 (0, 0))) := (hb3.block (w.heap.size + 1) (by have := HZ2.out; omega)).trans HY2.out
 clear hb3 x0 x1
 go_wp2_with (refine wpList_store_row rfl 50 (.tmp 4) (.tmp 13) rfl (w.heap.size + 1) nodeZ rfl rfl 50 nodeZ HY3.out (by kernel_rfl) rfl nodeZ_one ?_)
 try simp only [Exit.inBlock, Exit.then]
 refine bodyPost_ret (results_cellb Tryz.results24 _ _ (w.heap.size + 1) 50 nodeZ (0, 0) _ rfl (setRow_heap _ _ _ _ _ _ HY3.out) Tryz.underlying50 rfl (by kernel_rfl)) rfl ?_
 have h := HB3.out
 exact ⟨rfl, h.os, h.tape, h.output, by rw [setRow_size]; exact h.size, fun b hb => (setRow_other _ _ _ _ (by omega)).trans (h.block b hb)⟩
set_option maxRecDepth 100000 in
set_option maxHeartbeats 4000000 in
theorem RGet_yes (L : List RowD) (A : Option Addr) (c : Nat) (next id : Int) (w : World) (hT : TreeR X w A c L) (hs : SmallRows L) (k : Nat) (hf : findL L id = some k) (ri : Int) (x : ItemD) (hrk : Hid (L[k]? = some ⟨ri, x⟩)) (par : Int) (hpar : Hid (parentL L k = par)) (kn : Nat) (hkn : Hid ((kidsL L k).length = kn)) :
  Calls Tryz.prog 24 #[.agg #[.slice A L.length c, .int .i64 next], .int .i64 id] w (NodePost w id par (kn : Int) x) := by
 obtain ⟨v, hr⟩ : ∃ v, Hid (findI L id = v) := ⟨_, rfl⟩
 obtain ⟨W2, hW2⟩ : ∃ W2, Hid (W2 = (w.alloc (.cells #[.slice A L.length c, .int .i64 next] 29)).alloc (.cells nodeZ 50)) := ⟨_, rfl⟩
 have hb2 : Below w.heap.size w W2 := by rw [hW2.out]; exact ((Below.refl _ w).alloc (Nat.le_refl _) _).alloc (by simp) _
 have hz2 : W2.heap.size = w.heap.size + 2 := by rw [hW2.out]; simp
 have hx2 : W2.heap[w.heap.size]? = some (.cells (treeV A L.length c next) 29 (0, 0)) := by
  rw [hW2.out]
  exact (Below.heap_alloc _ _ _ (by simp)).trans (heap_alloc_new w _)
 have HY2 : Hid (W2.heap[w.heap.size + 1]? = some (.cells nodeZ 50 (0, 0))) := by
  show _ = _
  rw [hW2.out]
  have := heap_alloc_new (w.alloc (.cells #[.slice A L.length c, .int .i64 next] 29)) (.cells nodeZ 50)
  simpa using this
 have x0 : W2.cell? ⟨w.heap.size, 0, none⟩ = some (.slice A L.length c) := cell_row hx2 0 _ rfl
 have x1 : W2.cell? ⟨w.heap.size, 1, none⟩ = some (.int .i64 next) := cell_row hx2 1 _ rfl
 have HX2 := Lib.hid hx2
 have HB2 := Lib.hid hb2
 have HZ2 := Lib.hid hz2
 have HT2 := Lib.hid (hT.below hb2)
 have HT := Lib.hid hT
 have HS := Lib.hid hs
 have hW2' := hW2.out
 unfold nodeZ at hW2'
 replace hW2 := Lib.hid hW2'
 clear hT hs hb2 hx2 hz2 hW2'
 have hv1 : v = (k : Int) := by rw [← hr.out]; unfold findI; rw [hf]
 have hk : k < L.length := find_lt hf
 have hkc : (k : Int) < (L.length : Int) := by omega
 have k0 : (0 : Int) ≤ (k : Int) := by omega
 have n1 : (L.length : Int) ≤ 1000000 := by have := HS.out.1; omega
 subst hv1
 have HAD : Hid (∃ ad, A = some ad) := by
  obtain ⟨ad, hA, _⟩ := HT.out.1 (by omega)
  exact ⟨ad, hA⟩
 clear hf
 go_enter Tryz.func24, Tryz.ntmps24
 go_wp2_with fail
 rw [← hW2.out]
 refine (RFind_any L A c next id W2 HT2.out.1 HS.out (k : Int) hr).mono ?_
 rintro e3 w3 ⟨rfl, hb3⟩
 obtain ⟨ad, rfl⟩ := HAD.out
 have HB3 : Hid (Below w.heap.size w w3) := HB2.out.trans (hb3.mono HB2.out.size)
 have HX3 : Hid (w3.heap[w.heap.size]? = some (.cells (treeV (some ad) L.length c next) 29 (0, 0))) := (hb3.block w.heap.size (by have := HZ2.out; omega)).trans HX2.out
 have HY3 : Hid (w3.heap[w.heap.size + 1]? = some (.cells nodeZ 50 (0, 0))) := (hb3.block (w.heap.size + 1) (by have := HZ2.out; omega)).trans HY2.out
 have HT3 := Lib.hid (HT2.out.below hb3)
 have HZ3 : Hid (w.heap.size + 2 ≤ w3.heap.size) := by show _ ≤ _; have := hb3.size; have := HZ2.out; omega
 clear hb3 x0 x1
 obtain ⟨_, Ax, cx, hat, hac, q0, q1, q2, q3, q4, q5⟩ := HT3.out.1.row hrk.out
 unfold strV at q3 q4
 have e0 : w3.cell? ⟨w.heap.size, 0, none⟩ = some (.slice (some ad) L.length c) := cell_row HX3.out 0 _ rfl
 have HAT := Lib.hid hat.1
 have HNA : Hid (0 < x.attrs.length → ∀ a, Ax = some a → a.block ≠ w.heap.size + 1) := fun hp a ha => by
  obtain ⟨ad0, hA0, hbl0, hr0⟩ := HT.out.1 (by omega)
  injection hA0 with hA0
  subst hA0
  obtain ⟨Ay, cy, hay, _, hcy⟩ := hr0 k _ hrk.out
  have h5 : w.cell? ⟨(ad.add (k * 6)).block, (ad.add (k * 6)).off + 5, none⟩ = some (.slice Ay x.attrs.length cy) := hcy.2.2.2.2.2
  have h6 := (HB3.out.cell (p := ⟨(ad.add (k * 6)).block, (ad.add (k * 6)).off + 5, none⟩) (by show (ad.add _).block < _; rw [block_of_add]; exact hbl0.1)).trans h5
  have h7 : w3.cell? ⟨(ad.add (k * 6)).block, (ad.add (k * 6)).off + 5, none⟩ = some (.slice Ax x.attrs.length cx) := q5
  rw [h6] at h7
  injection h7 with h7
  injection h7 with h7 _ _
  obtain ⟨a2, ha2, hb2, _⟩ := hay.1 hp
  rw [h7, ha] at ha2
  injection ha2 with ha2
  subst ha2
  omega
 clear hat hac
 obtain ⟨w4, hw4⟩ : ∃ w4, Hid (w4 = w3.alloc (.cells #[.int .i64 x.level, .int .i64 x.kind, .string ⟨x.name.toArray⟩, .string ⟨x.text.toArray⟩, .slice Ax x.attrs.length cx] 62)) := ⟨_, rfl⟩
 have hb4 : Below w3.heap.size w3 w4 := by rw [hw4.out]; exact (Below.refl _ w3).alloc (Nat.le_refl _) _
 have hi4 : w4.heap[w3.heap.size]? = some (.cells #[.int .i64 x.level, .int .i64 x.kind, .string ⟨x.name.toArray⟩, .string ⟨x.text.toArray⟩, .slice Ax x.attrs.length cx] 62 (0, 0)) := by rw [hw4.out]; exact heap_alloc_new w3 _
 have HZ4 : Hid (w3.heap.size < w4.heap.size) := by show _ < _; rw [hw4.out]; simp
 have HSW : Hid (∀ W : World, Below w4.heap.size w4 W → W.cell? ⟨w.heap.size, 0, none⟩ = some (.slice (some ad) L.length c) ∧ W.cell? ⟨w.heap.size, 1, none⟩ = some (.int .i64 next) ∧ W.cell? ⟨w3.heap.size, 1, none⟩ = some (.int .i64 x.kind) ∧ W.cell? ⟨w3.heap.size, 2, none⟩ = some (.string ⟨x.name.toArray⟩) ∧ W.cell? ⟨w3.heap.size, 3, none⟩ = some (.string ⟨x.text.toArray⟩) ∧ W.cell? ⟨w3.heap.size, 4, none⟩ = some (.slice Ax x.attrs.length cx)) := fun W hb => by
  have hx := (hb.block w.heap.size (by have := HZ3.out; have := HZ4.out; omega)).trans ((hb4.block w.heap.size (by have := HZ3.out; omega)).trans HX3.out)
  have hi := (hb.block w3.heap.size HZ4.out).trans hi4
  exact ⟨cell_row hx 0 _ rfl, cell_row hx 1 _ rfl, cell_row hi 1 _ rfl, cell_row hi 2 _ rfl, cell_row hi 3 _ rfl, cell_row hi 4 _ rfl⟩
 have HB34 := Lib.hid hb4
 clear hb4 hi4
 go_upto_region 5 with (fail)
 rw [← hw4.out]
 clear e0 q0 q1 q2 q3 q4 q5
 have hbd : Below w4.heap.size w4 w4.drew := ⟨rfl, rfl, rfl, Nat.le_refl _, fun _ _ => rfl⟩
 have hS := HSW.out w4.drew hbd
 refine wp_region_held_drew (S := fun W => W.cell? ⟨w.heap.size, 0, none⟩ = some (.slice (some ad) L.length c) ∧ W.cell? ⟨w.heap.size, 1, none⟩ = some (.int .i64 next) ∧ W.cell? ⟨w3.heap.size, 1, none⟩ = some (.int .i64 x.kind) ∧ W.cell? ⟨w3.heap.size, 2, none⟩ = some (.string ⟨x.name.toArray⟩) ∧ W.cell? ⟨w3.heap.size, 3, none⟩ = some (.string ⟨x.text.toArray⟩) ∧ W.cell? ⟨w3.heap.size, 4, none⟩ = some (.slice Ax x.attrs.length cx)) (by kernel_rfl) hS (fun hHeld => ?_)
 clear hS
 refine tkv 0 (h := tkv 1 (h := tkv 2 (h := ?_)))
 refine tkv 4 (h := tkv 5 (h := tkv 6 (h := tkv 7 (h := ?_))))
 refine tkv 10 (h := tkv 11 (h := tkv 12 (h := tkv 13 (h := tkv 14 (h := tkv 15 (h := ?_))))))
 obtain ⟨w5, hw5⟩ : ∃ w5, Hid (w4.drew = w5) := ⟨_, rfl⟩
 rw [hw5.out] at hbd ⊢
 have HB5 := Lib.hid hbd
 have HB35 : Hid (Below w3.heap.size w3 w5) := HB34.out.trans (hbd.mono HB34.out.size)
 clear hbd
 refine rdy 3 (fun K hK => ?_)
 go_simp
 refine (Rparent_any L (some ad) c next k w5 (HT3.out.below HB35.out).1 HS.out hk par hpar).mono ?_
 rintro e6 w6 ⟨rfl, hb6⟩
 have HB6 : Hid (Below w4.heap.size w4 w6) := HB5.out.trans (hb6.mono HB5.out.size)
 have HB36 : Hid (Below w3.heap.size w3 w6) := HB35.out.trans (hb6.mono HB35.out.size)
 clear hb6
 go_wp2_with fail
 refine hK.out _ _ (HSW.out w6 HB6.out) (fun hHeld => ?_)
 clear hK K
 try go_frame
 refine rdy 8 (fun K hK => ?_)
 go_simp
 refine (Rkids_g L (some ad) c next k w6 (HT3.out.below HB36.out).1 HS.out hk).mono ?_
 rintro e7 w7 ⟨A7, c7, rfl, _, hb7⟩
 rw [ints_length, hkn.out]
 have HB7 : Hid (Below w4.heap.size w4 w7) := HB6.out.trans (hb7.mono HB6.out.size)
 have HB37 : Hid (Below w3.heap.size w3 w7) := HB36.out.trans (hb7.mono HB36.out.size)
 have HY7 : Hid (w7.heap[w.heap.size + 1]? = some (.cells nodeZ 50 (0, 0))) := (HB37.out.block (w.heap.size + 1) (by have := HZ3.out; omega)).trans HY3.out
 clear hb7
 go_wp2_with fail
 refine hK.out _ _ (HSW.out w7 HB7.out) (fun hHeld => ?_)
 clear hK K
 try go_frame
 refine tkv 9 (h := ?_)
 refine tkv 16 (h := ?_)
 refine rdy 17 (fun K hK => ?_)
 refine step_store_row rfl 50 (.tmp 4) (.tmp 36) rfl (w.heap.size + 1) (nodeV id par x.kind (kn : Int) x.name x.text Ax x.attrs.length cx) rfl rfl 50 nodeZ HY7.out (by kernel_rfl) rfl (nodeV_one _ _ _ _ _ _ _ _ _) ?_
 obtain ⟨w8, hw8⟩ : ∃ w8, Hid (w7.setRow (w.heap.size + 1) (nodeV id par x.kind (kn : Int) x.name x.text Ax x.attrs.length cx) = w8) := ⟨_, rfl⟩
 have HY8 : Hid (w8.heap[w.heap.size + 1]? = some (.cells (nodeV id par x.kind (kn : Int) x.name x.text Ax x.attrs.length cx) 50 (0, 0))) := by show _ = _; rw [← hw8.out]; exact setRow_heap _ _ _ _ _ _ HY7.out
 have hoth : ∀ j, j ≠ w.heap.size + 1 → w8.heap[j]? = w7.heap[j]? := fun j hj => by rw [← hw8.out]; exact setRow_other _ _ _ _ hj
 have hsz8 : w8.heap.size = w7.heap.size := by rw [← hw8.out]; exact setRow_size _ _ _
 have hs8 := HSW.out w7 HB7.out
 have hcell8 : ∀ p : Addr, p.block ≠ w.heap.size + 1 → w8.cell? p = w7.cell? p := fun p hp => by unfold World.cell?; rw [hoth _ hp]
 have hS8 : Hid (w8.cell? ⟨w.heap.size, 0, none⟩ = some (.slice (some ad) L.length c) ∧ w8.cell? ⟨w.heap.size, 1, none⟩ = some (.int .i64 next) ∧ w8.cell? ⟨w3.heap.size, 1, none⟩ = some (.int .i64 x.kind) ∧ w8.cell? ⟨w3.heap.size, 2, none⟩ = some (.string ⟨x.name.toArray⟩) ∧ w8.cell? ⟨w3.heap.size, 3, none⟩ = some (.string ⟨x.text.toArray⟩) ∧ w8.cell? ⟨w3.heap.size, 4, none⟩ = some (.slice Ax x.attrs.length cx)) := by
  have h3 := HZ3.out
  obtain ⟨g0, g1, g2, g3, g4, g5⟩ := hs8
  exact ⟨(hcell8 _ (by show w.heap.size ≠ _; omega)).trans g0, (hcell8 _ (by show w.heap.size ≠ _; omega)).trans g1, (hcell8 _ (by show w3.heap.size ≠ _; omega)).trans g2, (hcell8 _ (by show w3.heap.size ≠ _; omega)).trans g3, (hcell8 _ (by show w3.heap.size ≠ _; omega)).trans g4, (hcell8 _ (by show w3.heap.size ≠ _; omega)).trans g5⟩
 have HAT8 : Hid (AttrsAt w8 w8.heap.size Ax x.attrs) := by
  have h7 := (HAT.out.below HB37.out).more HB37.out.size
  intro hp
  obtain ⟨a2, ha2, hb2, hc2⟩ := h7 hp
  have hne : a2.block ≠ w.heap.size + 1 := HNA.out hp a2 ha2
  refine ⟨a2, ha2, by rw [hsz8]; exact hb2, fun j a hj => ?_⟩
  obtain ⟨p1, p2⟩ := hc2 j a hj
  exact ⟨(hcell8 _ (by rw [block_of_add]; exact hne)).trans p1, (hcell8 _ (by show (a2.add _).block ≠ _; rw [block_of_add]; exact hne)).trans p2⟩
 have HB8 : Hid (Below w.heap.size w w8) := by
  have h := HB3.out.trans (HB37.out.mono HB3.out.size)
  have e : w7.setRow (w.heap.size + 1) (nodeV id par x.kind (kn : Int) x.name x.text Ax x.attrs.length cx) = w8 := hw8.out
  show Below _ _ _
  rw [← e]
  exact ⟨h.os, h.tape, h.output, by rw [setRow_size]; exact h.size, fun b hb => (setRow_other _ _ _ _ (by omega)).trans (h.block b hb)⟩
 rw [hw8.out]
 clear hs8 hoth hcell8 hsz8
 refine hK.out _ _ (hS8.out) (fun hHeld => ?_)
 clear hK K
 try go_frame
 refine tkv 18 (h := ?_)
 refine wpAnyH_done (by kernel_rfl) ?_ _
 go_wp2_with fail
 refine bodyPost_ret (results_cellb Tryz.results24 _ _ (w.heap.size + 1) 50 (nodeV id par x.kind (kn : Int) x.name x.text Ax x.attrs.length cx) (0, 0) _ rfl HY8.out Tryz.underlying50 rfl (by kernel_rfl)) rfl ?_
 exact ⟨Ax, cx, rfl, HAT8.out, HB8.out⟩
end Go.Proofs.YtmkgajdgnmolkaaGreat
