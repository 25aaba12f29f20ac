/-
  The walk of the closure of scribe.Print, that calls itself.
-/
import Derived.Test.YtiopijjlkmpikaaTag
import Derived.Test.YtiopijjlkmpikaaEnd
import Derived.Test.YtiopijjlkmpikaaNorm
namespace Go.Proofs.Ytiopijjlkmpikaa
open Go.RowKit

/-- What the printing leaves alone. -/
def PK (b : Nat) (w w' : World) : Prop := Below b w w' ∧ Lib.OthersKept 5 (some b) w w'
theorem PK.refl (b : Nat) (w : World) : PK b w w := ⟨Below.refl _ _, Lib.OthersKept.refl _ _ _⟩
theorem PK.trans {b : Nat} {w w' w'' : World} (h : PK b w w') (k : PK b w' w'') : PK b w w'' := ⟨h.1.trans k.1, h.2.trans k.2⟩
theorem PK.drew {b : Nat} {w w' : World} (h : PK b w w') : PK b w w'.drew := ⟨h.1.drew, h.2.drew⟩
theorem PK.of_below {b : Nat} {w w' : World} (hb : b ≤ w.heap.size) (h : Below w.heap.size w w') : PK b w w' := ⟨h.mono hb, fun k o hk _ _ => by
  rw [h.block k (Array.getElem?_eq_some_iff.1 hk).1]; exact hk⟩
theorem PK.size {b : Nat} {w w' : World} (h : PK b w w') : w.heap.size ≤ w'.heap.size := h.1.size

/-- What the closure has caught, and the row. -/
structure PEnv (N : List ItemD) (ad : Addr) (c lb b : Nat) (w : World) : Prop where
  lv : w.cell? ⟨lb, 0, none⟩ = some (.slice (some ad) N.length c)
  hlb : lb < b
  items : ItemsAt w b (some ad) N
  av : w.heap[b + 1]? = some (.cells #[.func (.func 16) #[.pointer (some ⟨b, 0, none⟩)] #[]] 41 (0, 0))
  pv : w.heap[b + 2]? = some (.cells #[.func (.func 17) #[] #[.pointer (some ⟨lb, 0, none⟩), .pointer (some ⟨b + 1, 0, none⟩), .pointer (some ⟨b + 2, 0, none⟩)]] 42 (0, 0))
theorem PEnv.keep {N : List ItemD} {ad : Addr} {c lb b : Nat} {w w' : World} (h : PEnv N ad c lb b w) (k : PK b w w') : PEnv N ad c lb b w' :=
  ⟨(k.1.cell (p := ⟨lb, 0, none⟩) h.hlb).trans h.lv, h.hlb, h.items.below k.1, k.2 _ _ h.av (by simp) (fun _ _ => by intro e; injection e with _ e; revert e; decide), k.2 _ _ h.pv (by simp) (fun _ _ => by intro e; injection e with _ e; revert e; decide)⟩
theorem PEnv.size {N : List ItemD} {ad : Addr} {c lb b : Nat} {w : World} (h : PEnv N ad c lb b w) : b + 2 < w.heap.size := (Array.getElem?_eq_some_iff.1 h.pv).1

abbrev Bld (b : Nat) (acc : List UInt8) (w : World) : Prop := Lib.IsBuilderF 40 5 b b (Lib.byteCells acc) w

def PutPost (b : Nat) (acc : List UInt8) (w : World) (e : Ending) (w' : World) : Prop := e = .returned (.tuple #[]) ∧ Bld b acc w' ∧ PK b w w'


set_option maxRecDepth 100000 in
set_option maxHeartbeats 4000000 in
theorem put_any (N : List ItemD) (ad : Addr) (c lb b : Nat) (hN : SmallItems N) (d : Nat) : ∀ (k : Nat) (x : ItemD) (acc : List UInt8) (w : World), N.length - k ≤ d → N[k]? = some x → PEnv N ad c lb b w → Bld b acc w → acc.length + (nodeAt N k).length ≤ 1000000000 →
    Calls Try.prog 17 #[.int .i64 k, .pointer (some ⟨lb, 0, none⟩), .pointer (some ⟨b + 1, 0, none⟩), .pointer (some ⟨b + 2, 0, none⟩)] w (PutPost b (acc ++ nodeAt N k) w) := by
  induction d with
  | zero =>
    intro k x acc w hd hx
    have := (List.getElem?_eq_some_iff.1 hx).1
    omega
  | succ d ih =>
    intro k x acc w hd hx henv hbld hlen
    have hk : k < N.length := (List.getElem?_eq_some_iff.1 hx).1
    obtain ⟨hN1, hN2⟩ := hN
    have hkE := endN_le hx
    have hn := nodeAt_eq hx
    have hks := kids_seg hx
    have hst : ∀ n y, k < n → n < endN N k → N[n]? = some y → n < endN N n ∧ endN N n ≤ endN N k ∧ pr ((N.drop n).take (endN N k - n)) = nodeAt N n ++ pr ((N.drop (endN N n)).take (endN N k - endN N n)) := fun n y h1 h2 hy => seg_step hx h1 h2 hy
    obtain ⟨_, A', c', hat, hac, h0, h1, h2, h3, h4⟩ := henv.items.item hx
    unfold strV at h2 h3
    have hadb := (henv.items.item hx).1
    have hsx := hN2 k x hx
    have HIT := Lib.hid henv.items
    have IH := Lib.hid ih
    have HX := Lib.hid hx
    have HENV := Lib.hid henv
    have HB := Lib.hid hbld
    have HN := Lib.hid (show SmallItems N from ⟨hN1, hN2⟩)
    have HSX := Lib.hid hsx
    have hs2 := hsx.2.1
    have hz := henv.size
    obtain ⟨E, hE⟩ : ∃ E, Hid (endN N k = E) := ⟨_, rfl⟩
    obtain ⟨O, hO⟩ : ∃ O, Hid (nodeAt N k = O) := ⟨_, rfl⟩
    obtain ⟨Y, hY⟩ : ∃ Y, Hid (kidsOf x.level (N.drop (k + 1)) = Y) := ⟨_, rfl⟩
    rw [hO.out] at hlen hn ⊢
    rw [hY.out] at hn hks
    rw [hE.out] at hkE hks hst
    have hYl : Hid (E = k + 1 + Y.length) := by show _ = _; rw [← hE.out, endN_eq hx, hY.out]
    have HO := Lib.hid hn
    have HKS := Lib.hid hks
    have HST := Lib.hid hst
    have hcell : Hid (∀ w', PK b w w' → (fun w' => w'.cell? ⟨lb, 0, none⟩ = some (.slice (some ad) N.length c) ∧ w'.cell? ⟨b + 1, 0, none⟩ = some (.func (.func 16) #[.pointer (some ⟨b, 0, none⟩)] #[]) ∧ w'.cell? (ad.add (k * 5)) = some (.int .i64 x.level) ∧ w'.cell? ⟨(ad.add (k * 5)).block, (ad.add (k * 5)).off + 1, none⟩ = some (.int .i64 x.kind) ∧ w'.cell? ⟨(ad.add (k * 5)).block, (ad.add (k * 5)).off + 2, none⟩ = some (.string ⟨x.name.toArray⟩) ∧ w'.cell? ⟨(ad.add (k * 5)).block, (ad.add (k * 5)).off + 3, none⟩ = some (.string ⟨x.text.toArray⟩) ∧ w'.cell? ⟨(ad.add (k * 5)).block, (ad.add (k * 5)).off + 4, none⟩ = some (.slice A' x.attrs.length c')) w') := fun w' hw => by
      have he := henv.keep hw
      have ka : ∀ j, w'.cell? ⟨(ad.add (k * 5)).block, j, none⟩ = w.cell? ⟨(ad.add (k * 5)).block, j, none⟩ := fun j => hw.1.cell (by show (ad.add _).block < _; rw [block_of_add]; exact hadb)
      refine ⟨he.lv, ?_, (hw.1.cell (by rw [block_of_add]; exact hadb)).trans h0, (ka _).trans h1, (ka _).trans h2, (ka _).trans h3, (ka _).trans h4⟩
      rw [Lib.cell_of_heap he.av]; rfl
    have hcellp : Hid (∀ w', PK b w w' → w'.cell? ⟨b + 2, 0, none⟩ = some (.func (.func 17) #[] #[.pointer (some ⟨lb, 0, none⟩), .pointer (some ⟨b + 1, 0, none⟩), .pointer (some ⟨b + 2, 0, none⟩)])) := fun w' hw => by
      have he := henv.keep hw
      rw [Lib.cell_of_heap he.pv]; rfl
    have HAT : Hid (∀ w', PK b w w' → AttrsAt w' w'.heap.size A' x.attrs) := fun w' hw => by
      have := hw.size
      exact (hat.below hw.1).more (by omega)
    obtain ⟨hkE1, hkE2⟩ := hkE
    clear ih hx henv hbld hN2 hn hks hst hat h0 h1 h2 h3 h4 hsx
    obtain ⟨c0, c1, c2, c3, c4, c5, c6⟩ := hcell.out w (PK.refl _ _)
    have hbz : b ≤ w.heap.size := by omega
    go_enter Try.func17, Try.ntmps17
    go_wp2_with fail
    refine (End_in N ad c k x w (HIT.out.more hbz) HX.out hN1 E hE).mono ?_
    rintro e w2 ⟨rfl, hb2⟩
    have hp2 : PK b w w2 := PK.of_below hbz hb2
    have hbz2 : b ≤ w2.heap.size := by have := hp2.size; omega
    have HB2 : Hid (Bld b acc w2) := builderF_below HB.out hb2
    clear c0 c1 c2 c3 c4 c5 c6
    obtain ⟨c0, c1, c2, c3, c4, c5, c6⟩ := hcell.out w2 hp2
    by_cases hk2 : x.kind = 2
    · have hOT : Hid (O = escT x.text) := by show _ = _; rw [HO.out]; unfold nodeL; rw [if_pos hk2]
      obtain ⟨o, ho⟩ : ∃ o, Hid (escT x.text = o) := ⟨_, rfl⟩
      have hol : o.length ≤ 1000000000 := by have := hOT.out; rw [ho.out] at this; rw [this] at hlen; omega
      have d1 : (x.kind == 2) = true := by simp [hk2]
      clear hk2
      go_wp2_with fail
      refine (Text_l _ _ hs2 o ho).mono ?_; rintro e w3 ⟨rfl, hb3⟩
      have hp3 : PK b w w3 := hp2.trans (PK.of_below hbz2 hb3)
      have HB3 : Hid (Bld b acc w3) := builderF_below HB2.out hb3
      have hbz3 : b ≤ w3.heap.size := by have := hp3.size; omega
      clear c0 c1 c2 c3 c4 c5 c6 d1
      obtain ⟨c0, c1, c2, c3, c4, c5, c6⟩ := hcell.out w3 hp3
      go_wp2_with fail
      have hsz : (Lib.byteCells acc).length + (⟨o.toArray⟩ : ByteArray).size ≤ 140737488355328 := by
        rw [Lib.byteCells_length]; show acc.length + o.toArray.size ≤ _; rw [List.size_toArray]
        have := hOT.out; rw [ho.out] at this; rw [this] at hlen; omega
      refine (WriteK b b (Lib.byteCells acc) ⟨o.toArray⟩ w3 HB3.out hsz hbz3).mono ?_
      rintro e w4 ⟨rfl, hB4, hb4, hk4⟩
      clear hsz c0 c1 c2 c3 c4 c5 c6
      go_wp2_with fail
      go_end0
      refine ⟨rfl, .inr ?_, hp3.trans ⟨hb4, hk4⟩⟩
      rw [Lib.byteCells_append, hOT.out, ho.out]
      exact hB4
    · obtain ⟨T, hT⟩ : ∃ T, Hid (tagL x = T) := ⟨_, rfl⟩
      have hO2 := HO.out
      unfold nodeL at hO2
      rw [if_neg hk2, hT.out] at hO2
      have d1 : (x.kind == 2) = false := by simp [hk2]
      clear hk2
      by_cases hY0 : Y = []
      · rw [if_pos hY0] at hO2
        have hTl2 : acc.length + (T.length + 2) ≤ 1000000000 := by rw [hO2] at hlen; simpa using hlen
        have hTl : T.length ≤ 1000000000 := by omega
        have dE : ((E : Int) == (k : Int) + 1) = true := by
          have := hYl.out
          rw [hY0] at this
          simp at this
          simp; omega
        have htl : ¬ (9223372036854775807 < T.length + 2) := by omega
        have HO2 := Lib.hid hO2
        clear hO2 hY0
        go_wp2_with fail
        clear dE d1 c0 c1 c2 c3 c4 c5 c6
        refine wp_region_held_drew (S := fun w' => w'.cell? ⟨lb, 0, none⟩ = some (.slice (some ad) N.length c) ∧ w'.cell? ⟨b + 1, 0, none⟩ = some (.func (.func 16) #[.pointer (some ⟨b, 0, none⟩)] #[]) ∧ w'.cell? (ad.add (k * 5)) = some (.int .i64 x.level) ∧ w'.cell? ⟨(ad.add (k * 5)).block, (ad.add (k * 5)).off + 1, none⟩ = some (.int .i64 x.kind) ∧ w'.cell? ⟨(ad.add (k * 5)).block, (ad.add (k * 5)).off + 2, none⟩ = some (.string ⟨x.name.toArray⟩) ∧ w'.cell? ⟨(ad.add (k * 5)).block, (ad.add (k * 5)).off + 3, none⟩ = some (.string ⟨x.text.toArray⟩) ∧ w'.cell? ⟨(ad.add (k * 5)).block, (ad.add (k * 5)).off + 4, none⟩ = some (.slice A' x.attrs.length c')) (by kernel_rfl) (hcell.out _ hp2.drew) (fun hHeld => ?_)
        refine wpAnyH_take (i := 0) (oi := ⟨_, _, _, _, _, _⟩) (v := ?_) rfl (by kernel_rfl) (by kernel_rfl) (by kernel_rfl) (fun _ _ _ h => h) (Or.inl ⟨by rfl, ?_⟩) (by assumption) ?_
        rotate_left
        · (intro wS hSw; (try dsimp only at hSw); go_simp); all_goals with_reducible rfl
        try simp only [Act.put, List.setIfInBounds_toArray, List.set_cons_zero, List.set_cons_succ]
        refine wpAnyH_take (i := 1) (oi := ⟨_, _, _, _, _, _⟩) (v := ?_) rfl (by kernel_rfl) (by kernel_rfl) (by kernel_rfl) (fun _ _ _ h => h) (Or.inl ⟨by rfl, ?_⟩) (by assumption) ?_
        rotate_left
        · (intro wS hSw; (try dsimp only at hSw); go_simp); all_goals with_reducible rfl
        try simp only [Act.put, List.setIfInBounds_toArray, List.set_cons_zero, List.set_cons_succ]
        refine wpAnyH_take (i := 2) (oi := ⟨_, _, _, _, _, _⟩) (v := ?_) rfl (by kernel_rfl) (by kernel_rfl) (by kernel_rfl) (fun _ _ _ h => h) (Or.inl ⟨by rfl, ?_⟩) (by assumption) ?_
        rotate_left
        · (intro wS hSw; (try dsimp only at hSw); go_simp); all_goals with_reducible rfl
        try simp only [Act.put, List.setIfInBounds_toArray, List.set_cons_zero, List.set_cons_succ]
        refine wpAnyH_take (i := 3) (oi := ⟨_, _, _, _, _, _⟩) (v := ?_) rfl (by kernel_rfl) (by kernel_rfl) (by kernel_rfl) (fun _ _ _ h => h) (Or.inl ⟨by rfl, ?_⟩) (by assumption) ?_
        rotate_left
        · (intro wS hSw; (try dsimp only at hSw); go_simp); all_goals with_reducible rfl
        try simp only [Act.put, List.setIfInBounds_toArray, List.set_cons_zero, List.set_cons_succ]
        refine wpAnyH_take (i := 4) (oi := ⟨_, _, _, _, _, _⟩) (v := ?_) rfl (by kernel_rfl) (by kernel_rfl) (by kernel_rfl) (fun _ _ _ h => h) (Or.inl ⟨by rfl, ?_⟩) (by assumption) ?_
        rotate_left
        · (intro wS hSw; (try dsimp only at hSw); go_simp); all_goals with_reducible rfl
        try simp only [Act.put, List.setIfInBounds_toArray, List.set_cons_zero, List.set_cons_succ]
        refine wpAnyH_ready (rs := [5]) (by kernel_rfl) (by simp) ?_
        refine AllReadyH.cons (o := ⟨_, _, _, _, _, _⟩) rfl (fun K hK => ?_) AllReadyH.nil
        go_simp
        refine (tag_any x A' c' _ (HAT.out _ hp2.drew) HSX.out T hT hTl).mono ?_; rintro e w3 ⟨rfl, hb3⟩
        go_wp2_with fail
        have hp3 : PK b w w3 := hp2.drew.trans (PK.of_below hbz2 hb3)
        have HB3 : Hid (Bld b acc w3) := builderF_below (w := w2.drew) HB2.out hb3
        have hbz3 : b ≤ w3.heap.size := by have := hp3.size; omega
        refine hK.out _ _ (hcell.out _ hp3) (fun hHeld => ?_)
        clear hK K
        try simp only [Act.put, List.setIfInBounds_toArray, List.set_cons_zero, List.set_cons_succ]
        refine wpAnyH_take (i := 6) (oi := ⟨_, _, _, _, _, _⟩) (v := ?_) rfl (by kernel_rfl) (by kernel_rfl) (by kernel_rfl) (fun _ _ _ h => h) (Or.inl ⟨by rfl, ?_⟩) (by assumption) ?_
        rotate_left
        · (intro wS hSw; (try dsimp only at hSw); go_simp); all_goals with_reducible rfl
        try simp only [Act.put, List.setIfInBounds_toArray, List.set_cons_zero, List.set_cons_succ]
        refine wpAnyH_ready (rs := [7]) (by kernel_rfl) (by simp) ?_
        refine AllReadyH.cons (o := ⟨_, _, _, _, _, _⟩) rfl (fun K hK => ?_) AllReadyH.nil
        go_simp
        have hsz : (Lib.byteCells acc).length + ((⟨T.toArray⟩ : ByteArray) ++ ⟨([47, 62] : List UInt8).toArray⟩).size ≤ 140737488355328 := by
          rw [Lib.byteCells_length, ByteArray.size_append]
          show acc.length + (T.toArray.size + ([47, 62] : List UInt8).toArray.size) ≤ _
          simp only [List.size_toArray, List.length_cons, List.length_nil]
          omega
        refine (WriteK b b (Lib.byteCells acc) _ w3 HB3.out hsz hbz3).mono ?_
        rintro e w4 ⟨rfl, hB4, hb4, hk4⟩
        have hp4 : PK b w w4 := hp3.trans ⟨hb4, hk4⟩
        clear hsz
        go_wp2_with fail
        refine hK.out _ _ (hcell.out _ hp4) (fun hHeld => ?_)
        clear hK K
        try simp only [Act.put, List.setIfInBounds_toArray, List.set_cons_zero, List.set_cons_succ]
        refine wpAnyH_done (by kernel_rfl) ?_ _
        clear hHeld htl
        go_wp2_with fail
        go_end0
        refine ⟨rfl, .inr ?_, hp4⟩
        rw [Lib.byteCells_append, HO2.out]
        rw [str_app, strCells_bytes] at hB4
        exact hB4
      · rw [if_neg hY0] at hO2
        have hTl2 : acc.length + (T.length + 1 + (pr Y).length + x.name.length + 3) ≤ 1000000000 := by
          rw [hO2] at hlen; simp at hlen; omega
        have hTl3 : acc.length + (T.length + 1) ≤ 1000000000 := by omega
        have hTl : T.length ≤ 1000000000 := by omega
        have hYp : 0 < Y.length := List.length_pos_iff.2 hY0
        have dE : ((E : Int) == (k : Int) + 1) = false := by
          have := hYl.out
          simp; omega
        have htl : ¬ (9223372036854775807 < T.length + 1) := by omega
        have HO2 := Lib.hid hO2
        clear hO2 hY0
        go_wp2_with fail
        clear dE d1 c0 c1 c2 c3 c4 c5 c6
        refine wp_region_held_drew (S := fun w' => w'.cell? ⟨lb, 0, none⟩ = some (.slice (some ad) N.length c) ∧ w'.cell? ⟨b + 1, 0, none⟩ = some (.func (.func 16) #[.pointer (some ⟨b, 0, none⟩)] #[]) ∧ w'.cell? (ad.add (k * 5)) = some (.int .i64 x.level) ∧ w'.cell? ⟨(ad.add (k * 5)).block, (ad.add (k * 5)).off + 1, none⟩ = some (.int .i64 x.kind) ∧ w'.cell? ⟨(ad.add (k * 5)).block, (ad.add (k * 5)).off + 2, none⟩ = some (.string ⟨x.name.toArray⟩) ∧ w'.cell? ⟨(ad.add (k * 5)).block, (ad.add (k * 5)).off + 3, none⟩ = some (.string ⟨x.text.toArray⟩) ∧ w'.cell? ⟨(ad.add (k * 5)).block, (ad.add (k * 5)).off + 4, none⟩ = some (.slice A' x.attrs.length c')) (by kernel_rfl) (hcell.out _ hp2.drew) (fun hHeld => ?_)
        refine wpAnyH_take (i := 0) (oi := ⟨_, _, _, _, _, _⟩) (v := ?_) rfl (by kernel_rfl) (by kernel_rfl) (by kernel_rfl) (fun _ _ _ h => h) (Or.inl ⟨by rfl, ?_⟩) (by assumption) ?_
        rotate_left
        · (intro wS hSw; (try dsimp only at hSw); go_simp); all_goals with_reducible rfl
        try simp only [Act.put, List.setIfInBounds_toArray, List.set_cons_zero, List.set_cons_succ]
        refine wpAnyH_take (i := 1) (oi := ⟨_, _, _, _, _, _⟩) (v := ?_) rfl (by kernel_rfl) (by kernel_rfl) (by kernel_rfl) (fun _ _ _ h => h) (Or.inl ⟨by rfl, ?_⟩) (by assumption) ?_
        rotate_left
        · (intro wS hSw; (try dsimp only at hSw); go_simp); all_goals with_reducible rfl
        try simp only [Act.put, List.setIfInBounds_toArray, List.set_cons_zero, List.set_cons_succ]
        refine wpAnyH_take (i := 2) (oi := ⟨_, _, _, _, _, _⟩) (v := ?_) rfl (by kernel_rfl) (by kernel_rfl) (by kernel_rfl) (fun _ _ _ h => h) (Or.inl ⟨by rfl, ?_⟩) (by assumption) ?_
        rotate_left
        · (intro wS hSw; (try dsimp only at hSw); go_simp); all_goals with_reducible rfl
        try simp only [Act.put, List.setIfInBounds_toArray, List.set_cons_zero, List.set_cons_succ]
        refine wpAnyH_take (i := 3) (oi := ⟨_, _, _, _, _, _⟩) (v := ?_) rfl (by kernel_rfl) (by kernel_rfl) (by kernel_rfl) (fun _ _ _ h => h) (Or.inl ⟨by rfl, ?_⟩) (by assumption) ?_
        rotate_left
        · (intro wS hSw; (try dsimp only at hSw); go_simp); all_goals with_reducible rfl
        try simp only [Act.put, List.setIfInBounds_toArray, List.set_cons_zero, List.set_cons_succ]
        refine wpAnyH_take (i := 4) (oi := ⟨_, _, _, _, _, _⟩) (v := ?_) rfl (by kernel_rfl) (by kernel_rfl) (by kernel_rfl) (fun _ _ _ h => h) (Or.inl ⟨by rfl, ?_⟩) (by assumption) ?_
        rotate_left
        · (intro wS hSw; (try dsimp only at hSw); go_simp); all_goals with_reducible rfl
        try simp only [Act.put, List.setIfInBounds_toArray, List.set_cons_zero, List.set_cons_succ]
        refine wpAnyH_ready (rs := [5]) (by kernel_rfl) (by simp) ?_
        refine AllReadyH.cons (o := ⟨_, _, _, _, _, _⟩) rfl (fun K hK => ?_) AllReadyH.nil
        go_simp
        refine (tag_any x A' c' _ (HAT.out _ hp2.drew) HSX.out T hT hTl).mono ?_; rintro e w3 ⟨rfl, hb3⟩
        go_wp2_with fail
        have hp3 : PK b w w3 := hp2.drew.trans (PK.of_below hbz2 hb3)
        have HB3 : Hid (Bld b acc w3) := builderF_below (w := w2.drew) HB2.out hb3
        have hbz3 : b ≤ w3.heap.size := by have := hp3.size; omega
        refine hK.out _ _ (hcell.out _ hp3) (fun hHeld => ?_)
        clear hK K
        try simp only [Act.put, List.setIfInBounds_toArray, List.set_cons_zero, List.set_cons_succ]
        refine wpAnyH_take (i := 6) (oi := ⟨_, _, _, _, _, _⟩) (v := ?_) rfl (by kernel_rfl) (by kernel_rfl) (by kernel_rfl) (fun _ _ _ h => h) (Or.inl ⟨by rfl, ?_⟩) (by assumption) ?_
        rotate_left
        · (intro wS hSw; (try dsimp only at hSw); go_simp); all_goals with_reducible rfl
        try simp only [Act.put, List.setIfInBounds_toArray, List.set_cons_zero, List.set_cons_succ]
        refine wpAnyH_ready (rs := [7]) (by kernel_rfl) (by simp) ?_
        refine AllReadyH.cons (o := ⟨_, _, _, _, _, _⟩) rfl (fun K hK => ?_) AllReadyH.nil
        go_simp
        have hsz : (Lib.byteCells acc).length + ((⟨T.toArray⟩ : ByteArray) ++ ⟨([62] : List UInt8).toArray⟩).size ≤ 140737488355328 := by
          rw [Lib.byteCells_length, ByteArray.size_append]
          show acc.length + (T.toArray.size + ([62] : List UInt8).toArray.size) ≤ _
          simp only [List.size_toArray, List.length_cons, List.length_nil]
          omega
        refine (WriteK b b (Lib.byteCells acc) _ w3 HB3.out hsz hbz3).mono ?_
        rintro e w4 ⟨rfl, hB4, hb4, hk4⟩
        have hp4 : PK b w w4 := hp3.trans ⟨hb4, hk4⟩
        clear hsz
        go_wp2_with fail
        refine hK.out _ _ (hcell.out _ hp4) (fun hHeld => ?_)
        clear hK K
        try simp only [Act.put, List.setIfInBounds_toArray, List.set_cons_zero, List.set_cons_succ]
        refine wpAnyH_done (by kernel_rfl) ?_ _
        clear hHeld htl
        have hbz4 : b ≤ w4.heap.size := by have := hp4.size; omega
        rw [str_app, strCells_bytes, ← Lib.byteCells_append] at hB4
        have HB4 : Hid (Bld b (acc ++ (T ++ [62])) w4) := .inr hB4
        have hkeq : Hid (pr Y = pr ((N.drop (k + 1)).take (E - (k + 1)))) := by show _ = _; rw [HKS.out]
        clear hB4 hk4 hb4 hb3
        go_wp2_with fail
        go_loopw [8] (fun i wr => ∃ (n : Nat) (s : List UInt8), k + 1 ≤ n ∧ n ≤ E ∧ i = .int .i64 n ∧ Hid (s ++ pr ((N.drop n).take (E - n)) = pr Y) ∧ Hid (Bld b (acc ++ (T ++ [62]) ++ s) wr) ∧ PK b w wr) (fun i _ => E - (intOf i).toNat)
        case atStart => exact ⟨k + 1, [], Nat.le_refl _, by omega, by go_num, by show _ = _; rw [hkeq.out]; rfl, by rw [List.append_nil]; exact HB4.out, hp4⟩
        case round =>
          obtain ⟨n, s, hkn, hnE, rfl, hs, hbl, hpr⟩ := hrel
          have hbzr : b ≤ wr.heap.size := by have := hpr.size; omega
          have hpv := hcellp.out wr hpr
          obtain ⟨c0, c1, c2, c3, c4, c5, c6⟩ := hcell.out wr hpr
          by_cases hlt : n < E
          · obtain ⟨y, hy⟩ : ∃ y, Hid (N[n]? = some y) := ⟨N[n]'(by omega), List.getElem?_eq_getElem _⟩
            obtain ⟨g1, g2, g3⟩ := HST.out n y (by omega) hlt hy.out
            have hs' := hs.out
            rw [g3] at hs'
            have hsl : (acc ++ (T ++ [62]) ++ s).length + (nodeAt N n).length ≤ 1000000000 := by
              have := congrArg List.length hs'
              simp only [List.length_append, List.length_cons, List.length_nil] at this ⊢
              omega
            obtain ⟨E2, hE2⟩ : ∃ E2, Hid (endN N n = E2) := ⟨_, rfl⟩
            rw [hE2.out] at g1 g2 hs'
            have HS' := Lib.hid hs'
            have hIH := IH.out n y (acc ++ (T ++ [62]) ++ s) wr (by omega) hy.out (HENV.out.keep hpr) hbl.out hsl
            obtain ⟨P, hP⟩ : ∃ P : List UInt8, Hid (acc ++ (T ++ [62]) ++ s ++ nodeAt N n = P) := ⟨acc ++ (T ++ [62]) ++ s ++ nodeAt N n, Lib.hid rfl⟩
            rw [hP.out] at hIH
            have HIH := Lib.hid hIH
            clear g3 hs' hsl hIH hs c2 c3 c4 c5 c6
            go_wp2_with fail
            refine HIH.out.mono ?_
            rintro e w5 ⟨rfl, hb5, hp5⟩
            have hp5' := hpr.trans hp5
            have hbz5 : b ≤ w5.heap.size := by have := hp5'.size; omega
            have HB5 := Lib.hid hb5
            clear c0 c1 hpv hb5
            obtain ⟨c0, _, _, _, _, _, _⟩ := hcell.out w5 hp5'
            go_wp2_with fail
            refine (End_in N ad c n y w5 ((HIT.out.below hp5'.1).more hbz5) hy.out hN1 E2 hE2).mono ?_
            rintro e w6 ⟨rfl, hb6⟩
            have hp6 := hp5'.trans (PK.of_below hbz5 hb6)
            have HB6 : Hid (Bld b P w6) := builderF_below HB5.out hb6
            go_wp2_with fail
            go_roundw
            case rel =>
              refine ⟨E2, s ++ nodeAt N n, by omega, g2, by go_num, ?_, ?_, hp6⟩
              · show _ = _
                rw [← HS'.out, List.append_assoc]
              · rw [← List.append_assoc, hP.out]; exact HB6.out
            case measure => simp [intOf]; omega
          · have hs' := hs.out
            rw [show E - n = 0 by omega, List.take_zero, pr_nil, List.append_nil] at hs'
            have hn' : n = E := by omega
            subst hn'
            rw [hs'] at hbl
            clear hs hs' hlt hpv
            clear c2 c3 c5 c6
            have htl2 : ¬ (9223372036854775807 < x.name.length + 2) := by omega
            have htl4 : ¬ (9223372036854775807 < 2 + x.name.length) := by omega
            have htl3 : ¬ (9223372036854775807 < x.name.length + 2 + 1) := by omega
            have htl5 : ¬ (9223372036854775807 < 2 + x.name.length + 1) := by omega
            have HBL := hbl
            clear hbl
            go_wp2_with fail
            clear c0 c1 c4
            refine wp_region_held_drew (S := fun w' => w'.cell? ⟨lb, 0, none⟩ = some (.slice (some ad) N.length c) ∧ w'.cell? ⟨b + 1, 0, none⟩ = some (.func (.func 16) #[.pointer (some ⟨b, 0, none⟩)] #[]) ∧ w'.cell? (ad.add (k * 5)) = some (.int .i64 x.level) ∧ w'.cell? ⟨(ad.add (k * 5)).block, (ad.add (k * 5)).off + 1, none⟩ = some (.int .i64 x.kind) ∧ w'.cell? ⟨(ad.add (k * 5)).block, (ad.add (k * 5)).off + 2, none⟩ = some (.string ⟨x.name.toArray⟩) ∧ w'.cell? ⟨(ad.add (k * 5)).block, (ad.add (k * 5)).off + 3, none⟩ = some (.string ⟨x.text.toArray⟩) ∧ w'.cell? ⟨(ad.add (k * 5)).block, (ad.add (k * 5)).off + 4, none⟩ = some (.slice A' x.attrs.length c')) (by kernel_rfl) (hcell.out _ hpr.drew) (fun hHeld => ?_)
            refine wpAnyH_take (i := 0) (oi := ⟨_, _, _, _, _, _⟩) (v := ?_) rfl (by kernel_rfl) (by kernel_rfl) (by kernel_rfl) (fun _ _ _ h => h) (Or.inl ⟨by rfl, ?_⟩) (by assumption) ?_
            rotate_left
            · (intro wS hSw; (try dsimp only at hSw); go_simp); all_goals with_reducible rfl
            try simp only [Act.put, List.setIfInBounds_toArray, List.set_cons_zero, List.set_cons_succ]
            refine wpAnyH_take (i := 1) (oi := ⟨_, _, _, _, _, _⟩) (v := ?_) rfl (by kernel_rfl) (by kernel_rfl) (by kernel_rfl) (fun _ _ _ h => h) (Or.inl ⟨by rfl, ?_⟩) (by assumption) ?_
            rotate_left
            · (intro wS hSw; (try dsimp only at hSw); go_simp); all_goals with_reducible rfl
            try simp only [Act.put, List.setIfInBounds_toArray, List.set_cons_zero, List.set_cons_succ]
            refine wpAnyH_take (i := 2) (oi := ⟨_, _, _, _, _, _⟩) (v := ?_) rfl (by kernel_rfl) (by kernel_rfl) (by kernel_rfl) (fun _ _ _ h => h) (Or.inl ⟨by rfl, ?_⟩) (by assumption) ?_
            rotate_left
            · (intro wS hSw; (try dsimp only at hSw); go_simp); all_goals with_reducible rfl
            try simp only [Act.put, List.setIfInBounds_toArray, List.set_cons_zero, List.set_cons_succ]
            refine wpAnyH_take (i := 3) (oi := ⟨_, _, _, _, _, _⟩) (v := ?_) rfl (by kernel_rfl) (by kernel_rfl) (by kernel_rfl) (fun _ _ _ h => h) (Or.inl ⟨by rfl, ?_⟩) (by assumption) ?_
            rotate_left
            · (intro wS hSw; (try dsimp only at hSw); go_simp); all_goals with_reducible rfl
            try simp only [Act.put, List.setIfInBounds_toArray, List.set_cons_zero, List.set_cons_succ]
            refine wpAnyH_take (i := 4) (oi := ⟨_, _, _, _, _, _⟩) (v := ?_) rfl (by kernel_rfl) (by kernel_rfl) (by kernel_rfl) (fun _ _ _ h => h) (Or.inl ⟨by rfl, ?_⟩) (by assumption) ?_
            rotate_left
            · (intro wS hSw; (try dsimp only at hSw); go_simp); all_goals with_reducible rfl
            try simp only [Act.put, List.setIfInBounds_toArray, List.set_cons_zero, List.set_cons_succ]
            refine wpAnyH_take (i := 5) (oi := ⟨_, _, _, _, _, _⟩) (v := ?_) rfl (by kernel_rfl) (by kernel_rfl) (by kernel_rfl) (fun _ _ _ h => h) (Or.inl ⟨by rfl, ?_⟩) (by assumption) ?_
            rotate_left
            · (intro wS hSw; (try dsimp only at hSw); go_simp); all_goals with_reducible rfl
            try simp only [Act.put, List.setIfInBounds_toArray, List.set_cons_zero, List.set_cons_succ]
            refine wpAnyH_take (i := 6) (oi := ⟨_, _, _, _, _, _⟩) (v := ?_) rfl (by kernel_rfl) (by kernel_rfl) (by kernel_rfl) (fun _ _ _ h => h) (Or.inl ⟨by rfl, ?_⟩) (by assumption) ?_
            rotate_left
            · (intro wS hSw; (try dsimp only at hSw); go_simp); all_goals with_reducible rfl
            try simp only [Act.put, List.setIfInBounds_toArray, List.set_cons_zero, List.set_cons_succ]
            refine wpAnyH_take (i := 7) (oi := ⟨_, _, _, _, _, _⟩) (v := ?_) rfl (by kernel_rfl) (by kernel_rfl) (by kernel_rfl) (fun _ _ _ h => h) (Or.inl ⟨by rfl, ?_⟩) (by assumption) ?_
            rotate_left
            · (intro wS hSw; (try dsimp only at hSw); go_simp); all_goals with_reducible rfl
            try simp only [Act.put, List.setIfInBounds_toArray, List.set_cons_zero, List.set_cons_succ]
            refine wpAnyH_ready (rs := [8]) (by kernel_rfl) (by simp) ?_
            refine AllReadyH.cons (o := ⟨_, _, _, _, _, _⟩) rfl (fun K hK => ?_) AllReadyH.nil
            go_simp
            have hsz : (Lib.byteCells (acc ++ (T ++ [62]) ++ pr Y)).length + ((⟨[60, 47].toArray⟩ : ByteArray) ++ ⟨x.name.toArray⟩ ++ ⟨[62].toArray⟩).size ≤ 140737488355328 := by
              rw [Lib.byteCells_length, ByteArray.size_append, ByteArray.size_append]
              show _ + (([60, 47] : List UInt8).toArray.size + x.name.toArray.size + ([62] : List UInt8).toArray.size) ≤ _
              simp only [List.size_toArray, List.length_append, List.length_cons, List.length_nil]
              omega
            refine (WriteK b b (Lib.byteCells (acc ++ (T ++ [62]) ++ pr Y)) _ wr.drew HBL.out hsz hbzr).mono ?_
            rintro e w7 ⟨rfl, hB7, hb7, hk7⟩
            have hp7 : PK b w w7 := hpr.drew.trans ⟨hb7, hk7⟩
            clear hsz
            go_wp2_with fail
            refine hK.out _ _ (hcell.out _ hp7) (fun hHeld => ?_)
            clear hK K
            try simp only [Act.put, List.setIfInBounds_toArray, List.set_cons_zero, List.set_cons_succ]
            refine wpAnyH_done (by kernel_rfl) ?_ _
            clear hHeld htl2 htl3 htl4 htl5
            go_wp2_with fail
            go_end0
            refine ⟨rfl, .inr ?_, hp7⟩
            have e1 : acc ++ O = (acc ++ (T ++ [62]) ++ pr Y) ++ ([60, 47] ++ x.name ++ [62]) := by rw [HO2.out]; simp
            rw [e1, Lib.byteCells_append]
            rw [str_app, str_app, strCells_bytes] at hB7
            exact hB7
end Go.Proofs.Ytiopijjlkmpikaa
