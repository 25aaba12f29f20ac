/-
  Texts of this claim, joined (by a program of the claim's author): Close, Add, Take, Parse, Alive4, SmallPlain, Parts.
-/
import Derived.Test.YthifddkmbjnncaaP1
import Derived.Test.YthifddkmbjnncaaP6
import Derived.Test.YthifddkmbjnncaaP3
/-
  The reader of documents: the walk of close.
-/
namespace Go.Proofs.Ythifddkmbjnncaa
open Go.RowKit

/-- the reader's block -/
def PBlk (w : World) (b : Nat) (IA : Option Addr) (In Ic : Nat) (OA : Option Addr) (On Oc : Nat) : Prop := w.heap[b]? = some (.cells #[.slice IA In Ic, .slice OA On Oc] 71 (0, 0))
/-- what it holds -/
structure PInv (w : World) (B b : Nat) (items : List ItemD) (o : List (List UInt8)) : Prop where
  out : ∃ (S : List Slot) (IA : Option Addr) (Ic : Nat) (OA : Option Addr) (Oc : Nat), PBlk w b IA S.length Ic OA o.length Oc ∧ ItemsOwn w B IA Ic S ∧ (∀ s ∈ S, AttrsOwn w B s.2.1 s.2.2 s.1.attrs) ∧ OpenOwn w B OA Oc o ∧ S.map (·.1) = items
theorem PBlk.lt {w : World} {b : Nat} {IA OA : Option Addr} {In Ic On Oc : Nat} (h : PBlk w b IA In Ic OA On Oc) : b < w.heap.size := (Array.getElem?_eq_some_iff.1 h).1
theorem PBlk.cells {w : World} {b : Nat} {IA OA : Option Addr} {In Ic On Oc : Nat} (h : PBlk w b IA In Ic OA On Oc) : w.cell? ⟨b, 0, none⟩ = some (.slice IA In Ic) ∧ w.cell? ⟨b, 1, none⟩ = some (.slice OA On Oc) ∧ w.frozen? ⟨b, 0, none⟩ = false ∧ w.frozen? ⟨b, 1, none⟩ = false :=
  ⟨by rw [cell_of_row h]; rfl, by rw [cell_of_row h]; rfl, frozen_of_row w b 0 _ _ h, frozen_of_row w b 1 _ _ h⟩
theorem PBlk.below {w w' : World} {b : Nat} {IA OA : Option Addr} {In Ic On Oc : Nat} (h : PBlk w b IA In Ic OA On Oc) (hb : Below w.heap.size w w') : PBlk w' b IA In Ic OA On Oc := (hb.block b h.lt).trans h
theorem PBlk.setOpen {w : World} {b : Nat} {IA OA : Option Addr} {In Ic On Oc : Nat} (h : PBlk w b IA In Ic OA On Oc) (A : Option Addr) (n c : Nat) : PBlk (w.setCell ⟨b, 1, none⟩ (.slice A n c)) b IA In Ic A n c := Lib.heap_setCell_same (i := 1) h _
theorem PBlk.setItems {w : World} {b : Nat} {IA OA : Option Addr} {In Ic On Oc : Nat} (h : PBlk w b IA In Ic OA On Oc) (A : Option Addr) (n c : Nat) : PBlk (w.setCell ⟨b, 0, none⟩ (.slice A n c)) b A n c OA On Oc := Lib.heap_setCell_same (i := 0) h _
theorem PInv.below {w w' : World} {B b : Nat} {items : List ItemD} {o : List (List UInt8)} (h : PInv w B b items o) (hb : Below w.heap.size w w') : PInv w' B b items o := by
  obtain ⟨S, IA, Ic, OA, Oc, h1, h2, h3, h4, h5⟩ := h.out
  exact ⟨S, IA, Ic, OA, Oc, h1.below hb, own_keep h2 hb, fun s hs => own_keep (h3 s hs) hb, h4.below hb, h5⟩
/-- a row of another type stands where the reader's block is written -/
theorem own_set {w : World} {b j : Nat} {IA OA : Option Addr} {In Ic On Oc : Nat} (hp : PBlk w b IA In Ic OA On Oc) (u : Value) {B : Nat} {e : TypeId} {size : Nat} {v : Value} {n : Nat} {xs : List Value} (h : w.ownsRow B e size v n xs) (he : e ≠ 71) : (w.setCell ⟨b, j, none⟩ u).ownsRow B e size v n xs := by
  refine World.ownsRow.kept h (Lib.grownBy_setCell w b j u) ?_
  cases hv : v.ownBlock with
  | none => exact .inl rfl
  | some g =>
    refine .inr fun hg => ?_
    injection hg with hg
    subst hg
    obtain ⟨_, _, cur, hc⟩ := own_type h g hv
    unfold PBlk at hp
    rw [hc] at hp
    injection hp with hp
    injection hp with _ hp
    exact he hp
theorem open_set {w : World} {b j : Nat} {IA OA : Option Addr} {In Ic On Oc : Nat} (hp : PBlk w b IA In Ic OA On Oc) (u : Value) {B : Nat} {A : Option Addr} {c : Nat} {o : List (List UInt8)} (h : OpenOwn w B A c o) : OpenOwn (w.setCell ⟨b, j, none⟩ u) B A c o :=
  h.grown (Lib.grownBy_setCell w b j u) (fun g hg _ => by injection hg with hg; subst hg; exact ⟨_, _, hp, by decide⟩)

theorem get_last {α : Type} {l : List α} (h : l ≠ []) : ∃ x, l[l.length - 1]? = some x ∧ l.getLast? = some x := by
  have hl : 0 < l.length := List.length_pos_iff.2 h
  refine ⟨l[l.length - 1], List.getElem?_eq_getElem (by omega), ?_⟩
  rw [List.getLast?_eq_getElem?]; exact List.getElem?_eq_getElem (by omega)

def tokV (t : TokD) (at_ : Int) (A : Option Addr) (c : Nat) : Value := .agg #[.int .i64 t.kind, .int .i64 at_, .string ⟨t.name.toArray⟩, .string ⟨t.text.toArray⟩, .slice A t.attrs.length c]



set_option maxRecDepth 100000 in
set_option maxHeartbeats 1000000 in
theorem close_any (b B : Nat) (items : List ItemD) (o : List (List UInt8)) (w : World) (h : PInv w B b items o) (hB : B ≤ b) (hBw : B ≤ w.heap.size) (ho : o.length ≤ 1000000000) (t : TokD) (at_ : Int) (A : Option Addr) (c : Nat) (v : Bool) (hv : Hid (decide (o.getLast? = some t.name) = v)) :
    Calls Try.prog 80 #[.pointer (some ⟨b, 0, none⟩), tokV t at_ A c] w fun e w' => e = .returned (.int .i64 (if v then 0 else 41)) ∧ PInv w' B b items (if v then o.dropLast else o) ∧ Below B w w' := by
  obtain ⟨S, IA, Ic, OA, Oc, h1, h2, h3, h4, h5⟩ := h.out
  have HP := Lib.hid h
  obtain ⟨W1, hW1⟩ : ∃ W1, Hid (W1 = w.alloc (.cells #[.int .i64 t.kind, .int .i64 at_, .string ⟨t.name.toArray⟩, .string ⟨t.text.toArray⟩, .slice A t.attrs.length c] 34)) := ⟨_, rfl⟩
  have hbW : Below w.heap.size w W1 := by rw [hW1.out]; exact (Below.refl _ w).alloc (Nat.le_refl _) _
  have y2 : W1.cell? ⟨w.heap.size, 2, none⟩ = some (.string ⟨t.name.toArray⟩) := by rw [hW1.out, World.cell?_alloc_at _ _ _ _ (by simp)]; rfl
  have HB1 := Lib.hid (h1.below hbW)
  have H2 := Lib.hid (own_keep h2 hbW)
  have H3 : Hid (∀ s ∈ S, AttrsOwn W1 B s.2.1 s.2.2 s.1.attrs) := fun s hs => own_keep (h3 s hs) hbW
  have H4 := Lib.hid (h4.below hbW)
  have H5 := Lib.hid h5
  have hz1 : w.heap.size < W1.heap.size := by rw [hW1.out]; simp
  obtain ⟨_, z1, _, zf1⟩ := h1.cells
  have hbl := h1.lt
  have hbne : b ≠ w.heap.size := by omega
  have H4w := Lib.hid h4
  clear h h1 h2 h3 h4 h5
  show Calls Try.prog 80 #[.pointer (some ⟨b, 0, none⟩), .agg #[.int .i64 t.kind, .int .i64 at_, .string ⟨t.name.toArray⟩, .string ⟨t.text.toArray⟩, .slice A t.attrs.length c]] w _
  by_cases h0 : o = []
  · subst h0
    have hv' : v = false := by rw [← hv.out]; simp
    subst hv'
    simp only [List.length_nil] at z1
    go_enter Try.func80, Try.ntmps80
    go_wp2_with fail
    rw [← hW1.out]
    refine wp_region_held_drew (S := fun _ => True) (by kernel_rfl) trivial (fun hHeld => ?_)
    refine tks (oi := ⟨_, _, _, _, _, _⟩) (v := ?_) 0 rfl (.inl ⟨by rfl, ?_⟩) ?_; rotate_left
    · (intro wS hSw; (try dsimp only at hSw); go_simp); all_goals with_reducible rfl
    try go_frame
    refine tks (oi := ⟨_, _, _, _, _, _⟩) (v := ?_) 1 rfl (.inl ⟨by rfl, ?_⟩) ?_; rotate_left
    · (intro wS hSw; (try dsimp only at hSw); go_simp); all_goals with_reducible rfl
    try go_frame
    refine tks (oi := ⟨_, _, _, _, _, _⟩) (v := ?_) 2 rfl (.inl ⟨by rfl, ?_⟩) ?_; rotate_left
    · (intro wS hSw; (try dsimp only at hSw); go_simp); all_goals with_reducible rfl
    try go_frame
    refine tks (oi := ⟨_, _, _, _, _, _⟩) (v := undef) 3 rfl (.inr ⟨by rfl, rfl⟩) ?_
    try go_frame
    refine tks (oi := ⟨_, _, _, _, _, _⟩) (v := undef) 4 rfl (.inr ⟨by rfl, rfl⟩) ?_
    try go_frame
    refine tks (oi := ⟨_, _, _, _, _, _⟩) (v := undef) 5 rfl (.inr ⟨by rfl, rfl⟩) ?_
    try go_frame
    refine tks (oi := ⟨_, _, _, _, _, _⟩) (v := undef) 6 rfl (.inr ⟨by rfl, rfl⟩) ?_
    try go_frame
    refine tks (oi := ⟨_, _, _, _, _, _⟩) (v := undef) 7 rfl (.inr ⟨by rfl, rfl⟩) ?_
    try go_frame
    refine tks (oi := ⟨_, _, _, _, _, _⟩) (v := undef) 8 rfl (.inr ⟨by rfl, rfl⟩) ?_
    try go_frame
    refine tks (oi := ⟨_, _, _, _, _, _⟩) (v := undef) 9 rfl (.inr ⟨by rfl, rfl⟩) ?_
    try go_frame
    refine tks (oi := ⟨_, _, _, _, _, _⟩) (v := undef) 10 rfl (.inr ⟨by rfl, rfl⟩) ?_
    try go_frame
    refine tks (oi := ⟨_, _, _, _, _, _⟩) (v := undef) 11 rfl (.inr ⟨by rfl, rfl⟩) ?_
    try go_frame
    refine tks (oi := ⟨_, _, _, _, _, _⟩) (v := undef) 12 rfl (.inr ⟨by rfl, rfl⟩) ?_
    try go_frame
    refine tks (oi := ⟨_, _, _, _, _, _⟩) (v := undef) 13 rfl (.inr ⟨by rfl, rfl⟩) ?_
    try go_frame
    refine tks (oi := ⟨_, _, _, _, _, _⟩) (v := ?_) 14 rfl (.inl ⟨by rfl, ?_⟩) ?_; rotate_left
    · (intro wS hSw; (try dsimp only at hSw); go_simp); all_goals with_reducible rfl
    try go_frame
    refine wpAnyH_done (by kernel_rfl) ?_ _
    clear hHeld
    go_wp2_with fail
    go_ret
    exact ⟨rfl, ⟨S, IA, Ic, _, Oc, HB1.out, H2.out, H3.out, H4.out, H5.out⟩, (hbW.mono hBw).drew⟩
  · obtain ⟨x, hx, hxl⟩ := get_last h0
    obtain ⟨g, rfl, hg, hcell⟩ := H4w.out.last hx
    have hpos : 0 < o.length := List.length_pos_iff.2 h0
    have t0 : ((o.length : Int) == 0) = false := by simp; omega
    have hkw : IntKind.i64.wrap ((o.length : Int) - 1) = (o.length : Int) - 1 := IntWalk.i64_in _ (by omega)
    have hkn : ((o.length : Int) - 1).toNat = o.length - 1 := by omega
    have hk0 : (0 : Int) ≤ (o.length : Int) - 1 := by omega
    have hk1 : (o.length : Int) - 1 < o.length := by omega
    have hk2 : (1 : Int) ≤ o.length := by omega
    have hg1 : W1.cell? ⟨g, o.length - 1, none⟩ = some (.string ⟨x.toArray⟩) := (hbW.cell (p := ⟨g, o.length - 1, none⟩) hg).trans hcell
    have HS : Hid (W1.drew.cell? ⟨b, 1, none⟩ = some (.slice (some ⟨g, 0, none⟩) o.length Oc) ∧ W1.drew.cell? ((⟨g, 0, none⟩ : Addr).add (o.length - 1)) = some (.string ⟨x.toArray⟩) ∧ W1.drew.cell? ⟨g, o.length - 1, none⟩ = some (.string ⟨x.toArray⟩) ∧ W1.drew.cell? ⟨w.heap.size, 2, none⟩ = some (.string ⟨t.name.toArray⟩)) :=
      ⟨HB1.out.cells.2.1, by rw [add_zero_block]; exact hg1, hg1, y2⟩
    have hne := Lib.hid h0
    clear h0 hg1 y2
    cases v with
    | true =>
      have hxx : x = t.name := by
        have := of_decide_eq_true hv.out
        rw [hxl] at this
        injection this
      subst hxx
      clear hx hcell
      go_enter Try.func80, Try.ntmps80
      go_wp2_with fail
      rw [← hW1.out]
      refine wp_region_held_drew (S := fun w' => w'.cell? ⟨b, 1, none⟩ = some (.slice (some ⟨g, 0, none⟩) o.length Oc) ∧ w'.cell? ((⟨g, 0, none⟩ : Addr).add (o.length - 1)) = some (.string ⟨t.name.toArray⟩) ∧ w'.cell? ⟨g, o.length - 1, none⟩ = some (.string ⟨t.name.toArray⟩) ∧ w'.cell? ⟨w.heap.size, 2, none⟩ = some (.string ⟨t.name.toArray⟩)) (by kernel_rfl) HS.out (fun hHeld => ?_)
      refine tks (oi := ⟨_, _, _, _, _, _⟩) (v := ?_) 0 rfl (.inl ⟨by rfl, ?_⟩) ?_; rotate_left
      · (intro wS hSw; (try dsimp only at hSw); go_simp); all_goals with_reducible rfl
      try go_frame
      refine tks (oi := ⟨_, _, _, _, _, _⟩) (v := ?_) 1 rfl (.inl ⟨by rfl, ?_⟩) ?_; rotate_left
      · (intro wS hSw; (try dsimp only at hSw); go_simp); all_goals with_reducible rfl
      try go_frame
      refine tks (oi := ⟨_, _, _, _, _, _⟩) (v := ?_) 2 rfl (.inl ⟨by rfl, ?_⟩) ?_; rotate_left
      · (intro wS hSw; (try dsimp only at hSw); go_simp); all_goals with_reducible rfl
      try go_frame
      refine tks (oi := ⟨_, _, _, _, _, _⟩) (v := ?_) 3 rfl (.inl ⟨by rfl, ?_⟩) ?_; rotate_left
      · (intro wS hSw; (try dsimp only at hSw); go_simp); all_goals with_reducible rfl
      try go_frame
      refine tks (oi := ⟨_, _, _, _, _, _⟩) (v := ?_) 4 rfl (.inl ⟨by rfl, ?_⟩) ?_; rotate_left
      · (intro wS hSw; (try dsimp only at hSw); go_simp); all_goals with_reducible rfl
      try go_frame
      refine tks (oi := ⟨_, _, _, _, _, _⟩) (v := ?_) 5 rfl (.inl ⟨by rfl, ?_⟩) ?_; rotate_left
      · (intro wS hSw; (try dsimp only at hSw); go_simp); all_goals with_reducible rfl
      try go_frame
      refine tks (oi := ⟨_, _, _, _, _, _⟩) (v := ?_) 6 rfl (.inl ⟨by rfl, ?_⟩) ?_; rotate_left
      · (intro wS hSw; (try dsimp only at hSw); go_simp); all_goals with_reducible rfl
      try go_frame
      refine tks (oi := ⟨_, _, _, _, _, _⟩) (v := ?_) 7 rfl (.inl ⟨by rfl, ?_⟩) ?_; rotate_left
      · (intro wS hSw; (try dsimp only at hSw); go_simp); all_goals with_reducible rfl
      try go_frame
      refine tks (oi := ⟨_, _, _, _, _, _⟩) (v := ?_) 8 rfl (.inl ⟨by rfl, ?_⟩) ?_; rotate_left
      · (intro wS hSw; (try dsimp only at hSw); go_simp); all_goals with_reducible rfl
      try go_frame
      refine tks (oi := ⟨_, _, _, _, _, _⟩) (v := ?_) 9 rfl (.inl ⟨by rfl, ?_⟩) ?_; rotate_left
      · (intro wS hSw; (try dsimp only at hSw); go_simp); all_goals with_reducible rfl
      try go_frame
      refine tks (oi := ⟨_, _, _, _, _, _⟩) (v := ?_) 10 rfl (.inl ⟨by rfl, ?_⟩) ?_; rotate_left
      · (intro wS hSw; (try dsimp only at hSw); go_simp); all_goals with_reducible rfl
      try go_frame
      refine tks (oi := ⟨_, _, _, _, _, _⟩) (v := ?_) 11 rfl (.inl ⟨by rfl, ?_⟩) ?_; rotate_left
      · (intro wS hSw; (try dsimp only at hSw); go_simp); all_goals with_reducible rfl
      try go_frame
      refine tks (oi := ⟨_, _, _, _, _, _⟩) (v := ?_) 12 rfl (.inl ⟨by rfl, ?_⟩) ?_; rotate_left
      · (intro wS hSw; (try dsimp only at hSw); go_simp); all_goals with_reducible rfl
      try go_frame
      refine tks (oi := ⟨_, _, _, _, _, _⟩) (v := ?_) 13 rfl (.inl ⟨by rfl, ?_⟩) ?_; rotate_left
      · (intro wS hSw; (try dsimp only at hSw); go_simp); all_goals with_reducible rfl
      try go_frame
      refine tks (oi := ⟨_, _, _, _, _, _⟩) (v := ?_) 14 rfl (.inl ⟨by rfl, ?_⟩) ?_; rotate_left
      · (intro wS hSw; (try dsimp only at hSw); go_simp); all_goals with_reducible rfl
      try go_frame
      refine wpAnyH_done (by kernel_rfl) ?_ _
      clear hHeld
      obtain ⟨q1, _⟩ := HS.out
      have hf : W1.drew.frozen? ⟨b, 1, none⟩ = false := HB1.out.cells.2.2.2
      have hcap := H4.out.cap
      have hcmax := H4.out.capMax
      have hc1 : (o.length : Int) - 1 ≤ (Oc : Int) := by omega
      have hc2 : (Oc : Int) ≤ 9223372036854775807 := by unfold maxLen at hcmax; omega
      clear hcap hcmax
      go_wp2_with fail
      go_ret
      refine ⟨rfl, ⟨S, IA, Ic, some ⟨g, 0, none⟩, o.length - 1, ?_, own_set (w := W1.drew) HB1.out _ H2.out (by decide), fun s hs => own_set (w := W1.drew) HB1.out _ (H3.out s hs) (by decide), open_set (w := W1.drew) HB1.out _ (H4.out.cut hne.out), H5.out⟩, ((hbW.mono hBw).drew).setCell hB _⟩
      have := PBlk.setOpen (w := W1.drew) HB1.out (some ⟨g, 0, none⟩) (o.length - 1) (o.length - 1)
      rw [List.length_dropLast]
      exact this
    | false =>
      have hxx : (x == t.name) = false := by
        have := of_decide_eq_false hv.out
        rw [hxl] at this
        simp only [beq_eq_false_iff_ne, ne_eq]
        exact fun e => this (by rw [e])
      clear hx hcell
      go_enter Try.func80, Try.ntmps80
      go_wp2_with fail
      rw [← hW1.out]
      refine wp_region_held_drew (S := fun w' => w'.cell? ⟨b, 1, none⟩ = some (.slice (some ⟨g, 0, none⟩) o.length Oc) ∧ w'.cell? ((⟨g, 0, none⟩ : Addr).add (o.length - 1)) = some (.string ⟨x.toArray⟩) ∧ w'.cell? ⟨g, o.length - 1, none⟩ = some (.string ⟨x.toArray⟩) ∧ w'.cell? ⟨w.heap.size, 2, none⟩ = some (.string ⟨t.name.toArray⟩)) (by kernel_rfl) HS.out (fun hHeld => ?_)
      refine tks (oi := ⟨_, _, _, _, _, _⟩) (v := ?_) 0 rfl (.inl ⟨by rfl, ?_⟩) ?_; rotate_left
      · (intro wS hSw; (try dsimp only at hSw); go_simp); all_goals with_reducible rfl
      try go_frame
      refine tks (oi := ⟨_, _, _, _, _, _⟩) (v := ?_) 1 rfl (.inl ⟨by rfl, ?_⟩) ?_; rotate_left
      · (intro wS hSw; (try dsimp only at hSw); go_simp); all_goals with_reducible rfl
      try go_frame
      refine tks (oi := ⟨_, _, _, _, _, _⟩) (v := ?_) 2 rfl (.inl ⟨by rfl, ?_⟩) ?_; rotate_left
      · (intro wS hSw; (try dsimp only at hSw); go_simp); all_goals with_reducible rfl
      try go_frame
      refine tks (oi := ⟨_, _, _, _, _, _⟩) (v := ?_) 3 rfl (.inl ⟨by rfl, ?_⟩) ?_; rotate_left
      · (intro wS hSw; (try dsimp only at hSw); go_simp); all_goals with_reducible rfl
      try go_frame
      refine tks (oi := ⟨_, _, _, _, _, _⟩) (v := ?_) 4 rfl (.inl ⟨by rfl, ?_⟩) ?_; rotate_left
      · (intro wS hSw; (try dsimp only at hSw); go_simp); all_goals with_reducible rfl
      try go_frame
      refine tks (oi := ⟨_, _, _, _, _, _⟩) (v := ?_) 5 rfl (.inl ⟨by rfl, ?_⟩) ?_; rotate_left
      · (intro wS hSw; (try dsimp only at hSw); go_simp); all_goals with_reducible rfl
      try go_frame
      refine tks (oi := ⟨_, _, _, _, _, _⟩) (v := ?_) 6 rfl (.inl ⟨by rfl, ?_⟩) ?_; rotate_left
      · (intro wS hSw; (try dsimp only at hSw); go_simp); all_goals with_reducible rfl
      try go_frame
      refine tks (oi := ⟨_, _, _, _, _, _⟩) (v := ?_) 7 rfl (.inl ⟨by rfl, ?_⟩) ?_; rotate_left
      · (intro wS hSw; (try dsimp only at hSw); go_simp); all_goals with_reducible rfl
      try go_frame
      refine tks (oi := ⟨_, _, _, _, _, _⟩) (v := ?_) 8 rfl (.inl ⟨by rfl, ?_⟩) ?_; rotate_left
      · (intro wS hSw; (try dsimp only at hSw); go_simp); all_goals with_reducible rfl
      try go_frame
      refine tks (oi := ⟨_, _, _, _, _, _⟩) (v := ?_) 9 rfl (.inl ⟨by rfl, ?_⟩) ?_; rotate_left
      · (intro wS hSw; (try dsimp only at hSw); go_simp); all_goals with_reducible rfl
      try go_frame
      refine tks (oi := ⟨_, _, _, _, _, _⟩) (v := ?_) 10 rfl (.inl ⟨by rfl, ?_⟩) ?_; rotate_left
      · (intro wS hSw; (try dsimp only at hSw); go_simp); all_goals with_reducible rfl
      try go_frame
      refine tks (oi := ⟨_, _, _, _, _, _⟩) (v := ?_) 11 rfl (.inl ⟨by rfl, ?_⟩) ?_; rotate_left
      · (intro wS hSw; (try dsimp only at hSw); go_simp); all_goals with_reducible rfl
      try go_frame
      refine tks (oi := ⟨_, _, _, _, _, _⟩) (v := ?_) 12 rfl (.inl ⟨by rfl, ?_⟩) ?_; rotate_left
      · (intro wS hSw; (try dsimp only at hSw); go_simp); all_goals with_reducible rfl
      try go_frame
      refine tks (oi := ⟨_, _, _, _, _, _⟩) (v := ?_) 13 rfl (.inl ⟨by rfl, ?_⟩) ?_; rotate_left
      · (intro wS hSw; (try dsimp only at hSw); go_simp); all_goals with_reducible rfl
      try go_frame
      refine tks (oi := ⟨_, _, _, _, _, _⟩) (v := ?_) 14 rfl (.inl ⟨by rfl, ?_⟩) ?_; rotate_left
      · (intro wS hSw; (try dsimp only at hSw); go_simp); all_goals with_reducible rfl
      try go_frame
      refine wpAnyH_done (by kernel_rfl) ?_ _
      clear hHeld
      go_wp2_with fail
      go_ret
      exact ⟨rfl, ⟨S, IA, Ic, _, Oc, HB1.out, H2.out, H3.out, H4.out, H5.out⟩, (hbW.mono hBw).drew⟩
end Go.Proofs.Ythifddkmbjnncaa

/-
  The reader of documents: the walk of add.
-/
namespace Go.Proofs.Ythifddkmbjnncaa
open Go.RowKit

/-- why an item of a kind may not be added -/
def addK (items : List ItemD) (o : List (List UInt8)) (kind : Int) : Int :=
  if o = [] ∧ (kind = 2 ∨ items ≠ []) then 40 else if 40 ≤ o.length then 42 else if 1000 ≤ items.length then 43 else 0
def itV (x : ItemD) (A : Option Addr) (c : Nat) : Value := .agg #[.int .i64 x.level, .int .i64 x.kind, .string ⟨x.name.toArray⟩, .string ⟨x.text.toArray⟩, .slice A x.attrs.length c]

def AddPost (w : World) (B b : Nat) (items : List ItemD) (o : List (List UInt8)) (x : ItemD) (E : Int) (e : Ending) (w' : World) : Prop :=
  e = .returned (.int .i64 E) ∧ PInv w' B b (if E = 0 then items ++ [{ x with level := o.length }] else items) o ∧ Below B w w' ∧ (∀ (g : Nat) (cs : Array Value) (ty : TypeId), w.heap[g]? = some (.cells cs ty (0, 0)) → ty ≠ 50 → g ≠ b → w'.heap[g]? = w.heap[g]?)

theorem appendSw {P : Program} {w : World} {o : Oper} {a : Act} {K : Act → World → Prop} {Q : Exit → Act → World → Prop} (s x : Operand) (t : TypeId)
    (ho : o.op = .call { callee := .builtin .append, args := #[s, x], argTypes := #[t, t] })
    (B : Nat) (e : TypeId) (z : Value) (size bytes : Nat) (ht : P.underlying t = some (.slice e)) (hi : (P.info? e).map (fun i => (i.zero, i.size, i.bytes)) = some (some z, size, bytes))
    (hzs : z.cells.size = size) (hsz : 0 < size)
    (v : Value) (n : Nat) (xs : List Value) (news : List Value) (hs : a.eval s = v) (hown : w.ownsRow B e size v n xs) (hB : B ≤ w.heap.size)
    (X : Nat) (hx : a.eval x = .slice (some ⟨X, 0, none⟩) 1 1) (hX : X = w.heap.size) (hnl : news.length = size) (hu : ∀ u ∈ news, u.oneCell' = true) (hn : n < 4294967296) (hby : bytes ≤ 10000)
    (h : ∀ ad c w', w'.ownsRow B e size (.slice ad (n + 1) c) (n + 1) (xs ++ news) → Below B w w' → w.heap.size < w'.heap.size → (w.alloc (.cells news.toArray e)).grownBy w' v.ownBlock → K (a.put o.dst (.slice ad (n + 1) c)) w') :
    o.wp P a (w.alloc (.cells news.toArray e)) K Q := by
  subst hX
  obtain ⟨i0, hi0, hz0, hz1, hz2⟩ := info_parts hi
  have hnews : ∀ j u, news[j]? = some u → (w.alloc (.cells news.toArray e)).cell? ((⟨w.heap.size, 0, none⟩ : Addr).add j) = some u := by
    intro j u hj
    rw [add_zero_block, World.cell?_alloc_at _ _ _ _ (by simp)]
    simpa using hj
  obtain ⟨v', w', hrun, hown', hg, _⟩ := run_append_own (P := P) (w.alloc (.cells news.toArray e)) B t o.type e i0 z size bytes ht hi0 hz0 hz1 hz2 hzs hsz v n xs (hown.alloc _) ⟨w.heap.size, 0, none⟩ 1 1 news (by rw [hnl]; omega) hnews hu (by unfold maxLen; omega) (by
    have : (n + 1) * bytes ≤ 4294967296 * 10000 := Nat.mul_le_mul (by omega) hby
    omega) (by simp; omega)
  obtain ⟨ad, c, rfl⟩ : ∃ ad c, v' = .slice ad (n + 1) c := by
    rcases hown'.2 with ⟨_, h0⟩ | ⟨g, c, cur, hv, _⟩
    · omega
    · exact ⟨_, c, hv⟩
  have hsz' := hg.size
  simp at hsz'
  have hK := h ad c w' hown' (((Below.refl B w).alloc hB _).grown hg (by simp; omega) (fun k hk => (hown.lt k hk).1)) (by omega) hg
  unfold Oper.wp
  simp [execOp, ho, resolve, invoke, builtin, hs, hx, hrun, Result.andThen]
  exact hK


set_option maxRecDepth 100000 in
set_option maxHeartbeats 1000000 in
theorem add_no (b B : Nat) (items : List ItemD) (o : List (List UInt8)) (w : World) (h : PInv w B b items o) (_hB : B ≤ b) (hBw : B ≤ w.heap.size) (ho : o.length ≤ 1000000000) (hi : items.length ≤ 1000000000) (x : ItemD) (A : Option Addr) (c : Nat) (E : Int) (hE : Hid (addK items o x.kind = E)) (hE0 : E ≠ 0) :
    Calls Try.prog 81 #[.pointer (some ⟨b, 0, none⟩), itV x A c] w (AddPost w B b items o x E) := by
  by_cases h0 : o = []
  · by_cases hk : x.kind = 2
    · have HE : Hid (E = 40) := by show _ = _; rw [← hE.out]; unfold addK; rw [if_pos ⟨h0, .inl hk⟩]
      have hk' : (x.kind == 2) = true := by simpa using hk
      have t0 : ((o.length : Int) == 0) = true := by rw [h0]; rfl
      clear hk h0 hE0
      obtain ⟨S, IA, Ic, OA, Oc, h1, h2, h3, h4, h5⟩ := h.out
      have hlen : Hid (S.length = items.length) := by show _ = _; rw [← h5, List.length_map]
      obtain ⟨W1, hW1⟩ : ∃ W1, Hid (W1 = w.alloc (.cells #[.int .i64 o.length, .int .i64 x.kind, .string ⟨x.name.toArray⟩, .string ⟨x.text.toArray⟩, .slice A x.attrs.length c] 50)) := ⟨_, rfl⟩
      have hbW : Below w.heap.size w W1 := by rw [hW1.out]; exact (Below.refl _ w).alloc (Nat.le_refl _) _
      have HB1 := Lib.hid (h1.below hbW)
      have H2 := Lib.hid (own_keep h2 hbW)
      have H3 : Hid (∀ s ∈ S, AttrsOwn W1 B s.2.1 s.2.2 s.1.attrs) := fun s hs => own_keep (h3 s hs) hbW
      have H4 := Lib.hid (h4.below hbW)
      have H5 := Lib.hid h5
      have hz1 : w.heap.size < W1.heap.size := by rw [hW1.out]; simp
      obtain ⟨z0, z1, _, _⟩ := h1.cells
      have hbl := h1.lt
      have hbne : b ≠ w.heap.size := by omega
      have hown2 : ∀ g, (Value.slice IA S.length Ic).ownBlock = some g → g = w.heap.size → False := fun g hg e => by have := (own_type h2 g hg).2.1; omega
      have hownb : (Value.slice IA S.length Ic).ownBlock ≠ some b := fun hg => by
        obtain ⟨_, _, cur, hc⟩ := own_type h2 b hg
        unfold PBlk at h1
        rw [hc] at h1
        injection h1 with h1
        injection h1 with _ h1
        exact absurd h1 (by decide)
      clear h h1 h2 h3 h4 h5
      skip
      show Calls Try.prog 81 #[.pointer (some ⟨b, 0, none⟩), .agg #[.int .i64 x.level, .int .i64 x.kind, .string ⟨x.name.toArray⟩, .string ⟨x.text.toArray⟩, .slice A x.attrs.length c]] w _
      go_enter Try.func81, Try.ntmps81
      go_wp2_with fail
      go_ret
      rw [HE.out]
      refine ⟨rfl, ?_, ?_, fun g cs ty hg _ _ => ?_⟩
      · rw [if_neg (by decide)]
        rw [← hW1.out]
        exact ⟨S, IA, Ic, OA, Oc, HB1.out, H2.out, H3.out, H4.out, H5.out⟩
      · rw [← hW1.out]; exact hbW.mono hBw
      · rw [← hW1.out]; exact hbW.block g (Array.getElem?_eq_some_iff.1 hg).1
    · by_cases hi0 : items = []
      · exfalso
        apply hE0
        rw [← hE.out]; unfold addK
        rw [if_neg (by intro hh; rcases hh.2 with h | h; exact hk h; exact h hi0), if_neg (by rw [h0]; simp), if_neg (by rw [hi0]; simp)]
      · have HE : Hid (E = 40) := by show _ = _; rw [← hE.out]; unfold addK; rw [if_pos ⟨h0, .inr hi0⟩]
        have hk' : (x.kind == 2) = false := by simpa using hk
        have t0 : ((o.length : Int) == 0) = true := by rw [h0]; rfl
        have hpos : 0 < items.length := List.length_pos_iff.2 hi0
        clear hk h0 hE0 hi0
        obtain ⟨S, IA, Ic, OA, Oc, h1, h2, h3, h4, h5⟩ := h.out
        have hlen : Hid (S.length = items.length) := by show _ = _; rw [← h5, List.length_map]
        obtain ⟨W1, hW1⟩ : ∃ W1, Hid (W1 = w.alloc (.cells #[.int .i64 o.length, .int .i64 x.kind, .string ⟨x.name.toArray⟩, .string ⟨x.text.toArray⟩, .slice A x.attrs.length c] 50)) := ⟨_, rfl⟩
        have hbW : Below w.heap.size w W1 := by rw [hW1.out]; exact (Below.refl _ w).alloc (Nat.le_refl _) _
        have HB1 := Lib.hid (h1.below hbW)
        have H2 := Lib.hid (own_keep h2 hbW)
        have H3 : Hid (∀ s ∈ S, AttrsOwn W1 B s.2.1 s.2.2 s.1.attrs) := fun s hs => own_keep (h3 s hs) hbW
        have H4 := Lib.hid (h4.below hbW)
        have H5 := Lib.hid h5
        have hz1 : w.heap.size < W1.heap.size := by rw [hW1.out]; simp
        obtain ⟨z0, z1, _, _⟩ := h1.cells
        have hbl := h1.lt
        have hbne : b ≠ w.heap.size := by omega
        have hown2 : ∀ g, (Value.slice IA S.length Ic).ownBlock = some g → g = w.heap.size → False := fun g hg e => by have := (own_type h2 g hg).2.1; omega
        have hownb : (Value.slice IA S.length Ic).ownBlock ≠ some b := fun hg => by
          obtain ⟨_, _, cur, hc⟩ := own_type h2 b hg
          unfold PBlk at h1
          rw [hc] at h1
          injection h1 with h1
          injection h1 with _ h1
          exact absurd h1 (by decide)
        clear h h1 h2 h3 h4 h5
        have hpos' : 0 < S.length := by have := hlen.out; omega
        show Calls Try.prog 81 #[.pointer (some ⟨b, 0, none⟩), .agg #[.int .i64 x.level, .int .i64 x.kind, .string ⟨x.name.toArray⟩, .string ⟨x.text.toArray⟩, .slice A x.attrs.length c]] w _
        go_enter Try.func81, Try.ntmps81
        go_wp2_with fail
        all_goals try (exfalso; omega)
        go_ret
        rw [HE.out]
        refine ⟨rfl, ?_, ?_, fun g cs ty hg _ _ => ?_⟩
        · rw [if_neg (by decide)]
          rw [← hW1.out]
          exact ⟨S, IA, Ic, OA, Oc, HB1.out, H2.out, H3.out, H4.out, H5.out⟩
        · rw [← hW1.out]; exact hbW.mono hBw
        · rw [← hW1.out]; exact hbW.block g (Array.getElem?_eq_some_iff.1 hg).1
  · have hpos : 0 < o.length := List.length_pos_iff.2 h0
    have t0 : ((o.length : Int) == 0) = false := by simp; omega
    by_cases h40 : 40 ≤ o.length
    · have HE : Hid (E = 42) := by show _ = _; rw [← hE.out]; unfold addK; rw [if_neg (fun hh => h0 hh.1), if_pos h40]
      have h40' : (40 : Int) ≤ o.length := by omega
      clear h0 hE0 h40
      obtain ⟨S, IA, Ic, OA, Oc, h1, h2, h3, h4, h5⟩ := h.out
      have hlen : Hid (S.length = items.length) := by show _ = _; rw [← h5, List.length_map]
      obtain ⟨W1, hW1⟩ : ∃ W1, Hid (W1 = w.alloc (.cells #[.int .i64 o.length, .int .i64 x.kind, .string ⟨x.name.toArray⟩, .string ⟨x.text.toArray⟩, .slice A x.attrs.length c] 50)) := ⟨_, rfl⟩
      have hbW : Below w.heap.size w W1 := by rw [hW1.out]; exact (Below.refl _ w).alloc (Nat.le_refl _) _
      have HB1 := Lib.hid (h1.below hbW)
      have H2 := Lib.hid (own_keep h2 hbW)
      have H3 : Hid (∀ s ∈ S, AttrsOwn W1 B s.2.1 s.2.2 s.1.attrs) := fun s hs => own_keep (h3 s hs) hbW
      have H4 := Lib.hid (h4.below hbW)
      have H5 := Lib.hid h5
      have hz1 : w.heap.size < W1.heap.size := by rw [hW1.out]; simp
      obtain ⟨z0, z1, _, _⟩ := h1.cells
      have hbl := h1.lt
      have hbne : b ≠ w.heap.size := by omega
      have hown2 : ∀ g, (Value.slice IA S.length Ic).ownBlock = some g → g = w.heap.size → False := fun g hg e => by have := (own_type h2 g hg).2.1; omega
      have hownb : (Value.slice IA S.length Ic).ownBlock ≠ some b := fun hg => by
        obtain ⟨_, _, cur, hc⟩ := own_type h2 b hg
        unfold PBlk at h1
        rw [hc] at h1
        injection h1 with h1
        injection h1 with _ h1
        exact absurd h1 (by decide)
      clear h h1 h2 h3 h4 h5
      skip
      show Calls Try.prog 81 #[.pointer (some ⟨b, 0, none⟩), .agg #[.int .i64 x.level, .int .i64 x.kind, .string ⟨x.name.toArray⟩, .string ⟨x.text.toArray⟩, .slice A x.attrs.length c]] w _
      go_enter Try.func81, Try.ntmps81
      go_wp2_with fail
      go_ret
      rw [HE.out]
      refine ⟨rfl, ?_, ?_, fun g cs ty hg _ _ => ?_⟩
      · rw [if_neg (by decide)]
        rw [← hW1.out]
        exact ⟨S, IA, Ic, OA, Oc, HB1.out, H2.out, H3.out, H4.out, H5.out⟩
      · rw [← hW1.out]; exact hbW.mono hBw
      · rw [← hW1.out]; exact hbW.block g (Array.getElem?_eq_some_iff.1 hg).1
    · have h1000 : 1000 ≤ items.length := by
        rcases Nat.lt_or_ge items.length 1000 with hlt | hge
        · exfalso
          apply hE0
          rw [← hE.out]; unfold addK
          rw [if_neg (fun hh => h0 hh.1), if_neg h40, if_neg (by omega)]
        · exact hge
      have HE : Hid (E = 43) := by show _ = _; rw [← hE.out]; unfold addK; rw [if_neg (fun hh => h0 hh.1), if_neg h40, if_pos h1000]
      have h40' : (o.length : Int) < 40 := by omega
      clear h0 hE0 h40
      obtain ⟨S, IA, Ic, OA, Oc, h1, h2, h3, h4, h5⟩ := h.out
      have hlen : Hid (S.length = items.length) := by show _ = _; rw [← h5, List.length_map]
      obtain ⟨W1, hW1⟩ : ∃ W1, Hid (W1 = w.alloc (.cells #[.int .i64 o.length, .int .i64 x.kind, .string ⟨x.name.toArray⟩, .string ⟨x.text.toArray⟩, .slice A x.attrs.length c] 50)) := ⟨_, rfl⟩
      have hbW : Below w.heap.size w W1 := by rw [hW1.out]; exact (Below.refl _ w).alloc (Nat.le_refl _) _
      have HB1 := Lib.hid (h1.below hbW)
      have H2 := Lib.hid (own_keep h2 hbW)
      have H3 : Hid (∀ s ∈ S, AttrsOwn W1 B s.2.1 s.2.2 s.1.attrs) := fun s hs => own_keep (h3 s hs) hbW
      have H4 := Lib.hid (h4.below hbW)
      have H5 := Lib.hid h5
      have hz1 : w.heap.size < W1.heap.size := by rw [hW1.out]; simp
      obtain ⟨z0, z1, _, _⟩ := h1.cells
      have hbl := h1.lt
      have hbne : b ≠ w.heap.size := by omega
      have hown2 : ∀ g, (Value.slice IA S.length Ic).ownBlock = some g → g = w.heap.size → False := fun g hg e => by have := (own_type h2 g hg).2.1; omega
      have hownb : (Value.slice IA S.length Ic).ownBlock ≠ some b := fun hg => by
        obtain ⟨_, _, cur, hc⟩ := own_type h2 b hg
        unfold PBlk at h1
        rw [hc] at h1
        injection h1 with h1
        injection h1 with _ h1
        exact absurd h1 (by decide)
      clear h h1 h2 h3 h4 h5
      have hS : (1000 : Int) ≤ S.length := by have := hlen.out; omega
      show Calls Try.prog 81 #[.pointer (some ⟨b, 0, none⟩), .agg #[.int .i64 x.level, .int .i64 x.kind, .string ⟨x.name.toArray⟩, .string ⟨x.text.toArray⟩, .slice A x.attrs.length c]] w _
      go_enter Try.func81, Try.ntmps81
      go_wp2_with fail
      go_ret
      rw [HE.out]
      refine ⟨rfl, ?_, ?_, fun g cs ty hg _ _ => ?_⟩
      · rw [if_neg (by decide)]
        rw [← hW1.out]
        exact ⟨S, IA, Ic, OA, Oc, HB1.out, H2.out, H3.out, H4.out, H5.out⟩
      · rw [← hW1.out]; exact hbW.mono hBw
      · rw [← hW1.out]; exact hbW.block g (Array.getElem?_eq_some_iff.1 hg).1

theorem cellsI_cell (s : Slot) : ∀ u ∈ cellsI s, u.oneCell' = true := by
  intro u hu
  simp [cellsI, strV] at hu
  rcases hu with rfl | rfl | rfl | rfl | rfl <;> rfl
/-- an item in a block of its own -/
def BoxI (w : World) (g : Nat) (lv : Int) (x : ItemD) (A : Option Addr) (c : Nat) : Prop := w.cell? ⟨g, 0, none⟩ = some (.int .i64 lv) ∧ w.cell? ⟨g, 1, none⟩ = some (.int .i64 x.kind) ∧ w.cell? ⟨g, 2, none⟩ = some (.string ⟨x.name.toArray⟩) ∧ w.cell? ⟨g, 3, none⟩ = some (.string ⟨x.text.toArray⟩) ∧ w.cell? ⟨g, 4, none⟩ = some (.slice A x.attrs.length c)
theorem BoxI.keep {w w' : World} {g : Nat} {lv : Int} {x : ItemD} {A : Option Addr} {c : Nat} (h : BoxI w g lv x A c) (hk : ∀ j, w'.cell? ⟨g, j, none⟩ = w.cell? ⟨g, j, none⟩) : BoxI w' g lv x A c := by
  obtain ⟨h0, h1, h2, h3, h4⟩ := h
  exact ⟨(hk 0).trans h0, (hk 1).trans h1, (hk 2).trans h2, (hk 3).trans h3, (hk 4).trans h4⟩



set_option maxRecDepth 100000 in
set_option maxHeartbeats 1000000 in
theorem add_yes (b B : Nat) (items : List ItemD) (o : List (List UInt8)) (w : World) (h : PInv w B b items o) (hB : B ≤ b) (hBw : B ≤ w.heap.size) (x : ItemD) (A : Option Addr) (c : Nat) (hA : AttrsOwn w B A c x.attrs) (hE : addK items o x.kind = 0) :
    Calls Try.prog 81 #[.pointer (some ⟨b, 0, none⟩), itV x A c] w (AddPost w B b items o x 0) := by
  have hE1 : ¬ (o = [] ∧ (x.kind = 2 ∨ items ≠ [])) := fun hh => by unfold addK at hE; rw [if_pos hh] at hE; exact absurd hE (by decide)
  have hE2 : o.length < 40 := by
    rcases Nat.lt_or_ge o.length 40 with hlt | hge
    · exact hlt
    · exfalso; unfold addK at hE; rw [if_neg hE1, if_pos hge] at hE; exact absurd hE (by decide)
  have hE3 : items.length < 1000 := by
    rcases Nat.lt_or_ge items.length 1000 with hlt | hge
    · exact hlt
    · exfalso; unfold addK at hE; rw [if_neg hE1, if_neg (by omega), if_pos hge] at hE; exact absurd hE (by decide)
  have h40' : (o.length : Int) < 40 := by omega
  have HA : Hid (AttrsOwn (w.alloc (.cells #[.int .i64 o.length, .int .i64 x.kind, .string ⟨x.name.toArray⟩, .string ⟨x.text.toArray⟩, .slice A x.attrs.length c] 50)) B A c x.attrs) := World.ownsRow.alloc hA _
  clear hA hE
  by_cases h0 : o = []
  · have hk' : (x.kind == 2) = false := by
      by_cases hk : x.kind = 2
      · exact absurd ⟨h0, .inl hk⟩ hE1
      · simpa using hk
    have hi0 : items = [] := by
      by_cases hi : items = []
      · exact hi
      · exact absurd ⟨h0, .inr hi⟩ hE1
    have t0 : ((o.length : Int) == 0) = true := by rw [h0]; rfl
    have hil : items.length = 0 := by rw [hi0]; rfl
    have hE1' := Lib.hid hE1
    clear hE1 h0 hi0
    obtain ⟨S, IA, Ic, OA, Oc, h1, h2, h3, h4, h5⟩ := h.out
    have hlen : Hid (S.length = items.length) := by show _ = _; rw [← h5, List.length_map]
    obtain ⟨W1, hW1⟩ : ∃ W1, Hid (W1 = w.alloc (.cells #[.int .i64 o.length, .int .i64 x.kind, .string ⟨x.name.toArray⟩, .string ⟨x.text.toArray⟩, .slice A x.attrs.length c] 50)) := ⟨_, rfl⟩
    have hbW : Below w.heap.size w W1 := by rw [hW1.out]; exact (Below.refl _ w).alloc (Nat.le_refl _) _
    have HB1 := Lib.hid (h1.below hbW)
    have H2 := Lib.hid (own_keep h2 hbW)
    have H3 : Hid (∀ s ∈ S, AttrsOwn W1 B s.2.1 s.2.2 s.1.attrs) := fun s hs => own_keep (h3 s hs) hbW
    have H4 := Lib.hid (h4.below hbW)
    have H5 := Lib.hid h5
    have hz1 : w.heap.size < W1.heap.size := by rw [hW1.out]; simp
    obtain ⟨z0, z1, _, _⟩ := h1.cells
    have hbl := h1.lt
    have hbne : b ≠ w.heap.size := by omega
    have hown2 : ∀ g, (Value.slice IA S.length Ic).ownBlock = some g → g = w.heap.size → False := fun g hg e => by have := (own_type h2 g hg).2.1; omega
    have hownb : (Value.slice IA S.length Ic).ownBlock ≠ some b := fun hg => by
      obtain ⟨_, _, cur, hc⟩ := own_type h2 b hg
      unfold PBlk at h1
      rw [hc] at h1
      injection h1 with h1
      injection h1 with _ h1
      exact absurd h1 (by decide)
    clear h h1 h2 h3 h4 h5
    have hS : S.length ≤ 0 := by have := hlen.out; omega
    show Calls Try.prog 81 #[.pointer (some ⟨b, 0, none⟩), .agg #[.int .i64 x.level, .int .i64 x.kind, .string ⟨x.name.toArray⟩, .string ⟨x.text.toArray⟩, .slice A x.attrs.length c]] w _
    go_enter Try.func81, Try.ntmps81
    go_wp2_with fail
    all_goals try (exfalso; omega)
    have y : ∀ (j : Nat) (u : Value), (#[.int .i64 o.length, .int .i64 x.kind, .string ⟨x.name.toArray⟩, .string ⟨x.text.toArray⟩, .slice A x.attrs.length c] : Array Value)[j]? = some u → W1.cell? ⟨w.heap.size, j, none⟩ = some u := fun j u hu => by rw [hW1.out, World.cell?_alloc_at _ _ _ _ rfl]; exact hu
    have HS : Hid (BoxI W1.drew w.heap.size o.length x A c) := ⟨y 0 _ rfl, y 1 _ rfl, y 2 _ rfl, y 3 _ rfl, y 4 _ rfl⟩
    have hzB : B ≤ W1.drew.heap.size := Nat.le_trans hBw hbW.size
    clear y
    rw [← hW1.out]
    refine wp_region_held_drew (S := fun w' => w'.cell? ⟨w.heap.size, 0, none⟩ = some (.int .i64 o.length) ∧ w'.cell? ⟨w.heap.size, 1, none⟩ = some (.int .i64 x.kind) ∧ w'.cell? ⟨w.heap.size, 2, none⟩ = some (.string ⟨x.name.toArray⟩) ∧ w'.cell? ⟨w.heap.size, 3, none⟩ = some (.string ⟨x.text.toArray⟩) ∧ w'.cell? ⟨w.heap.size, 4, none⟩ = some (.slice A x.attrs.length c)) (by kernel_rfl) HS.out (fun hHeld => ?_)
    refine tks (oi := ⟨_, _, _, _, _, _⟩) (v := ?_) 0 rfl (.inl ⟨by rfl, ?_⟩) ?_; rotate_left
    · (intro wS hSw; (try dsimp only at hSw); go_simp); all_goals with_reducible rfl
    try go_frame
    refine tks (oi := ⟨_, _, _, _, _, _⟩) (v := ?_) 1 rfl (.inl ⟨by rfl, ?_⟩) ?_; rotate_left
    · (intro wS hSw; (try dsimp only at hSw); go_simp); all_goals with_reducible rfl
    try go_frame
    refine tks (oi := ⟨_, _, _, _, _, _⟩) (v := ?_) 2 rfl (.inl ⟨by rfl, ?_⟩) ?_; rotate_left
    · (intro wS hSw; (try dsimp only at hSw); go_simp); all_goals with_reducible rfl
    try go_frame
    refine tks (oi := ⟨_, _, _, _, _, _⟩) (v := ?_) 3 rfl (.inl ⟨by rfl, ?_⟩) ?_; rotate_left
    · (intro wS hSw; (try dsimp only at hSw); go_simp); all_goals with_reducible rfl
    try go_frame
    refine tks (oi := ⟨_, _, _, _, _, _⟩) (v := ?_) 5 rfl (.inl ⟨by rfl, ?_⟩) ?_; rotate_left
    · (intro wS hSw; (try dsimp only at hSw); go_simp); all_goals with_reducible rfl
    try go_frame
    have z0d : W1.cell? ⟨b, 0, none⟩ = some (.slice IA S.length Ic) := HB1.out.cells.1
    have z0e : W1.drew.cell? ⟨b, 0, none⟩ = some (.slice IA S.length Ic) := HB1.out.cells.1
    have HS2 : Hid (BoxI (W1.drew.alloc (.cells #[.int .i64 o.length, .int .i64 x.kind, .string ⟨x.name.toArray⟩, .string ⟨x.text.toArray⟩, .slice A x.attrs.length c] 50)) w.heap.size o.length x A c) := BoxI.keep HS.out (fun j => World.cell?_alloc_lt _ _ _ hz1)
    have hbd : b < W1.heap.size := Nat.lt_of_lt_of_le hbl hbW.size
    have z0f : (W1.drew.alloc (.cells #[.int .i64 o.length, .int .i64 x.kind, .string ⟨x.name.toArray⟩, .string ⟨x.text.toArray⟩, .slice A x.attrs.length c] 50)).cell? ⟨b, 0, none⟩ = some (.slice IA S.length Ic) := (World.cell?_alloc_lt _ _ _ hbd).trans z0e
    refine wpAnyH_ready (rs := [4, 6]) (by kernel_rfl) (by simp) ?_
    refine AllReadyH.cons (o := ⟨_, _, _, _, _, _⟩) rfl (fun K hK => ?_) (AllReadyH.cons (o := ⟨_, _, _, _, _, _⟩) rfl (fun K hK => ?_) AllReadyH.nil)
    · go_simp
      refine hK.out _ _ (HS.out) (fun hHeld => ?_)
      clear hK K
      try go_frame
      refine wpAnyH_ready (rs := [6]) (by kernel_rfl) (by simp) ?_
      refine AllReadyH.cons (o := ⟨_, _, _, _, _, _⟩) rfl (fun K hK => ?_) AllReadyH.nil
      go_simp
      refine hK.out _ _ (HS2.out) (fun hHeld => ?_)
      clear hK K
      try go_frame
      refine wpAnyH_ready (rs := [7]) (by kernel_rfl) (by simp) ?_
      refine AllReadyH.cons (o := ⟨_, _, _, _, _, _⟩) rfl (fun K hK => ?_) AllReadyH.nil
      refine appendSw (.tmp 43) (.tmp 45) 45 rfl B 50 (.agg #[.int .i64 0, .int .i64 0, .string ByteArray.empty, .string ByteArray.empty, .slice none 0 0]) 5 72 Try.underlying45 infoItem rfl (by decide) _ S.length _ (cellsI ({ x with level := o.length }, A, c)) rfl H2.out hzB _ rfl rfl (cellsI_length _) (cellsI_cell _) (by omega) (by decide) ?_
      intro a4 c4 w4 hown4 hb4 hz4 hg4
      have hz4' : W1.heap.size < w4.heap.size := hz4
      have HS4 : Hid (BoxI w4 w.heap.size o.length x A c) := BoxI.keep HS2.out (fun j => World.grownBy.cell_far hg4 ⟨w.heap.size, j, none⟩ (by show w.heap.size < _; simp; omega) (fun e => hown2 _ e.symm rfl))
      have HB4 : Hid (PBlk w4 b IA S.length Ic OA o.length Oc) := by
        have h0 : PBlk (W1.drew.alloc (.cells #[.int .i64 o.length, .int .i64 x.kind, .string ⟨x.name.toArray⟩, .string ⟨x.text.toArray⟩, .slice A x.attrs.length c] 50)) b IA S.length Ic OA o.length Oc := PBlk.below (w := W1.drew) HB1.out ((Below.refl _ _).alloc (Nat.le_refl _) _)
        exact (hg4.block b h0.lt (fun e => hownb e.symm)).trans h0
      obtain ⟨k0, _, kf0, _⟩ := HB4.out.cells
      refine hK.out _ _ (HS4.out) (fun hHeld => ?_)
      clear hK K
      try go_frame
      refine tks (oi := ⟨_, _, _, _, _, _⟩) (v := ?_) 8 rfl (.inl ⟨by rfl, ?_⟩) ?_; rotate_left
      · (intro wS hSw; (try dsimp only at hSw); go_simp); all_goals with_reducible rfl
      try go_frame
      refine tks (oi := ⟨_, _, _, _, _, _⟩) (v := ?_) 9 rfl (.inl ⟨by rfl, ?_⟩) ?_; rotate_left
      · (intro wS hSw; (try dsimp only at hSw); go_simp); all_goals with_reducible rfl
      try go_frame
      refine wpAnyH_ready (rs := [10]) (by kernel_rfl) (by simp) ?_
      refine AllReadyH.cons (o := ⟨_, _, _, _, _, _⟩) rfl (fun K hK => ?_) AllReadyH.nil
      go_simp
      have HS5 : Hid (BoxI (w4.setCell ⟨b, 0, none⟩ (.slice a4 (S.length + 1) c4)) w.heap.size o.length x A c) := BoxI.keep HS4.out (fun j => World.grownBy.cell_far (Lib.grownBy_setCell w4 b 0 _) ⟨w.heap.size, j, none⟩ (by show w.heap.size < _; omega) (fun e => by injection e with e; have e' : w.heap.size = b := e; omega))
      refine hK.out _ _ (HS5.out) (fun hHeld => ?_)
      clear hK K
      try go_frame
      refine wpAnyH_done (by kernel_rfl) ?_ _
      clear hHeld
      go_wp2_with fail
      go_ret
      have hfin : ItemsOwn w4 B a4 c4 (S ++ [(({ x with level := (o.length : Int) } : ItemD), A, c)]) := by
        unfold ItemsOwn
        rw [List.length_append, List.flatMap_append]
        simpa using hown4
      have halloc : ∀ {e : TypeId} {size : Nat} {v : Value} {n : Nat} {xs : List Value}, W1.ownsRow B e size v n xs → e ≠ 50 → w4.ownsRow B e size v n xs := fun hr he =>
        own_grown (World.ownsRow.alloc (w := W1.drew) hr _) (World.ownsRow.alloc (w := W1.drew) H2.out _) he hg4
      refine ⟨rfl, ?_, (((hbW.mono hBw).drew).trans hb4).setCell hB _, fun g cs ty hg hty hgb => ?_⟩
      rotate_left
      · have hlt : g < w.heap.size := (Array.getElem?_eq_some_iff.1 hg).1
        have hg1 : W1.heap[g]? = w.heap[g]? := hbW.block g hlt
        have hlt1 : g < W1.heap.size := Nat.lt_trans hlt hz1
        have e1 : (w4.setCell ⟨b, 0, none⟩ (.slice a4 (S.length + 1) c4)).heap[g]? = w4.heap[g]? := (Lib.grownBy_setCell w4 b 0 _).block g (by omega) (fun e => by injection e with e; exact hgb e)
        have e2 : w4.heap[g]? = (W1.drew.alloc (.cells #[.int .i64 o.length, .int .i64 x.kind, .string ⟨x.name.toArray⟩, .string ⟨x.text.toArray⟩, .slice A x.attrs.length c] 50)).heap[g]? := hg4.block g (by show g < _; simp; omega) (fun e => by
          obtain ⟨_, _, cur, hc⟩ := own_type (World.ownsRow.alloc (w := W1.drew) H2.out _) g e.symm
          have e3 : (W1.drew.alloc (.cells #[.int .i64 o.length, .int .i64 x.kind, .string ⟨x.name.toArray⟩, .string ⟨x.text.toArray⟩, .slice A x.attrs.length c] 50)).heap[g]? = W1.heap[g]? := heap_alloc_old W1.drew _ hlt1
          rw [e3, hg1, hg] at hc
          injection hc with hc
          injection hc with _ hc
          exact hty hc)
        exact e1.trans (e2.trans ((heap_alloc_old W1.drew _ hlt1).trans hg1))
      rw [if_pos rfl]
      refine ⟨S ++ [(({ x with level := (o.length : Int) } : ItemD), A, c)], a4, c4, OA, Oc, ?_, own_set HB4.out _ hfin (by decide), fun s hs => ?_, ?_, ?_⟩
      · have := HB4.out.setItems a4 (S.length + 1) c4
        rw [List.length_append]
        exact this
      · refine own_set HB4.out _ (halloc (e := 44) ?_ (by decide)) (by decide)
        rcases List.mem_append.1 hs with hm | hm
        · exact H3.out s hm
        · simp at hm; subst hm
          have := HA.out
          rw [← hW1.out] at this
          exact this
      · refine open_set HB4.out _ ?_
        have h0 : OpenOwn (W1.drew.alloc (.cells #[.int .i64 o.length, .int .i64 x.kind, .string ⟨x.name.toArray⟩, .string ⟨x.text.toArray⟩, .slice A x.attrs.length c] 50)) B OA Oc o := OpenOwn.below (w := W1.drew) H4.out ((Below.refl _ _).alloc (Nat.le_refl _) _)
        exact h0.grown hg4 (fun g hg _ => by
          obtain ⟨_, _, cur, hc⟩ := own_type (World.ownsRow.alloc (w := W1.drew) H2.out _) g hg
          exact ⟨cur, _, hc, by decide⟩)
      · rw [List.map_append, H5.out]; rfl
    · go_simp
      refine hK.out _ _ (HS2.out) (fun hHeld => ?_)
      clear hK K
      try go_frame
      refine wpAnyH_ready (rs := [4]) (by kernel_rfl) (by simp) ?_
      refine AllReadyH.cons (o := ⟨_, _, _, _, _, _⟩) rfl (fun K hK => ?_) AllReadyH.nil
      go_simp
      refine hK.out _ _ (HS2.out) (fun hHeld => ?_)
      clear hK K
      try go_frame
      refine wpAnyH_ready (rs := [7]) (by kernel_rfl) (by simp) ?_
      refine AllReadyH.cons (o := ⟨_, _, _, _, _, _⟩) rfl (fun K hK => ?_) AllReadyH.nil
      refine appendSw (.tmp 43) (.tmp 45) 45 rfl B 50 (.agg #[.int .i64 0, .int .i64 0, .string ByteArray.empty, .string ByteArray.empty, .slice none 0 0]) 5 72 Try.underlying45 infoItem rfl (by decide) _ S.length _ (cellsI ({ x with level := o.length }, A, c)) rfl H2.out hzB _ rfl rfl (cellsI_length _) (cellsI_cell _) (by omega) (by decide) ?_
      intro a4 c4 w4 hown4 hb4 hz4 hg4
      have hz4' : W1.heap.size < w4.heap.size := hz4
      have HS4 : Hid (BoxI w4 w.heap.size o.length x A c) := BoxI.keep HS2.out (fun j => World.grownBy.cell_far hg4 ⟨w.heap.size, j, none⟩ (by show w.heap.size < _; simp; omega) (fun e => hown2 _ e.symm rfl))
      have HB4 : Hid (PBlk w4 b IA S.length Ic OA o.length Oc) := by
        have h0 : PBlk (W1.drew.alloc (.cells #[.int .i64 o.length, .int .i64 x.kind, .string ⟨x.name.toArray⟩, .string ⟨x.text.toArray⟩, .slice A x.attrs.length c] 50)) b IA S.length Ic OA o.length Oc := PBlk.below (w := W1.drew) HB1.out ((Below.refl _ _).alloc (Nat.le_refl _) _)
        exact (hg4.block b h0.lt (fun e => hownb e.symm)).trans h0
      obtain ⟨k0, _, kf0, _⟩ := HB4.out.cells
      refine hK.out _ _ (HS4.out) (fun hHeld => ?_)
      clear hK K
      try go_frame
      refine tks (oi := ⟨_, _, _, _, _, _⟩) (v := ?_) 8 rfl (.inl ⟨by rfl, ?_⟩) ?_; rotate_left
      · (intro wS hSw; (try dsimp only at hSw); go_simp); all_goals with_reducible rfl
      try go_frame
      refine tks (oi := ⟨_, _, _, _, _, _⟩) (v := ?_) 9 rfl (.inl ⟨by rfl, ?_⟩) ?_; rotate_left
      · (intro wS hSw; (try dsimp only at hSw); go_simp); all_goals with_reducible rfl
      try go_frame
      refine wpAnyH_ready (rs := [10]) (by kernel_rfl) (by simp) ?_
      refine AllReadyH.cons (o := ⟨_, _, _, _, _, _⟩) rfl (fun K hK => ?_) AllReadyH.nil
      go_simp
      have HS5 : Hid (BoxI (w4.setCell ⟨b, 0, none⟩ (.slice a4 (S.length + 1) c4)) w.heap.size o.length x A c) := BoxI.keep HS4.out (fun j => World.grownBy.cell_far (Lib.grownBy_setCell w4 b 0 _) ⟨w.heap.size, j, none⟩ (by show w.heap.size < _; omega) (fun e => by injection e with e; have e' : w.heap.size = b := e; omega))
      refine hK.out _ _ (HS5.out) (fun hHeld => ?_)
      clear hK K
      try go_frame
      refine wpAnyH_done (by kernel_rfl) ?_ _
      clear hHeld
      go_wp2_with fail
      go_ret
      have hfin : ItemsOwn w4 B a4 c4 (S ++ [(({ x with level := (o.length : Int) } : ItemD), A, c)]) := by
        unfold ItemsOwn
        rw [List.length_append, List.flatMap_append]
        simpa using hown4
      have halloc : ∀ {e : TypeId} {size : Nat} {v : Value} {n : Nat} {xs : List Value}, W1.ownsRow B e size v n xs → e ≠ 50 → w4.ownsRow B e size v n xs := fun hr he =>
        own_grown (World.ownsRow.alloc (w := W1.drew) hr _) (World.ownsRow.alloc (w := W1.drew) H2.out _) he hg4
      refine ⟨rfl, ?_, (((hbW.mono hBw).drew).trans hb4).setCell hB _, fun g cs ty hg hty hgb => ?_⟩
      rotate_left
      · have hlt : g < w.heap.size := (Array.getElem?_eq_some_iff.1 hg).1
        have hg1 : W1.heap[g]? = w.heap[g]? := hbW.block g hlt
        have hlt1 : g < W1.heap.size := Nat.lt_trans hlt hz1
        have e1 : (w4.setCell ⟨b, 0, none⟩ (.slice a4 (S.length + 1) c4)).heap[g]? = w4.heap[g]? := (Lib.grownBy_setCell w4 b 0 _).block g (by omega) (fun e => by injection e with e; exact hgb e)
        have e2 : w4.heap[g]? = (W1.drew.alloc (.cells #[.int .i64 o.length, .int .i64 x.kind, .string ⟨x.name.toArray⟩, .string ⟨x.text.toArray⟩, .slice A x.attrs.length c] 50)).heap[g]? := hg4.block g (by show g < _; simp; omega) (fun e => by
          obtain ⟨_, _, cur, hc⟩ := own_type (World.ownsRow.alloc (w := W1.drew) H2.out _) g e.symm
          have e3 : (W1.drew.alloc (.cells #[.int .i64 o.length, .int .i64 x.kind, .string ⟨x.name.toArray⟩, .string ⟨x.text.toArray⟩, .slice A x.attrs.length c] 50)).heap[g]? = W1.heap[g]? := heap_alloc_old W1.drew _ hlt1
          rw [e3, hg1, hg] at hc
          injection hc with hc
          injection hc with _ hc
          exact hty hc)
        exact e1.trans (e2.trans ((heap_alloc_old W1.drew _ hlt1).trans hg1))
      rw [if_pos rfl]
      refine ⟨S ++ [(({ x with level := (o.length : Int) } : ItemD), A, c)], a4, c4, OA, Oc, ?_, own_set HB4.out _ hfin (by decide), fun s hs => ?_, ?_, ?_⟩
      · have := HB4.out.setItems a4 (S.length + 1) c4
        rw [List.length_append]
        exact this
      · refine own_set HB4.out _ (halloc (e := 44) ?_ (by decide)) (by decide)
        rcases List.mem_append.1 hs with hm | hm
        · exact H3.out s hm
        · simp at hm; subst hm
          have := HA.out
          rw [← hW1.out] at this
          exact this
      · refine open_set HB4.out _ ?_
        have h0 : OpenOwn (W1.drew.alloc (.cells #[.int .i64 o.length, .int .i64 x.kind, .string ⟨x.name.toArray⟩, .string ⟨x.text.toArray⟩, .slice A x.attrs.length c] 50)) B OA Oc o := OpenOwn.below (w := W1.drew) H4.out ((Below.refl _ _).alloc (Nat.le_refl _) _)
        exact h0.grown hg4 (fun g hg _ => by
          obtain ⟨_, _, cur, hc⟩ := own_type (World.ownsRow.alloc (w := W1.drew) H2.out _) g hg
          exact ⟨cur, _, hc, by decide⟩)
      · rw [List.map_append, H5.out]; rfl
  · have hpos : 0 < o.length := List.length_pos_iff.2 h0
    have t0 : ((o.length : Int) == 0) = false := by simp; omega
    have hE1' := Lib.hid hE1
    clear hE1 h0
    obtain ⟨S, IA, Ic, OA, Oc, h1, h2, h3, h4, h5⟩ := h.out
    have hlen : Hid (S.length = items.length) := by show _ = _; rw [← h5, List.length_map]
    obtain ⟨W1, hW1⟩ : ∃ W1, Hid (W1 = w.alloc (.cells #[.int .i64 o.length, .int .i64 x.kind, .string ⟨x.name.toArray⟩, .string ⟨x.text.toArray⟩, .slice A x.attrs.length c] 50)) := ⟨_, rfl⟩
    have hbW : Below w.heap.size w W1 := by rw [hW1.out]; exact (Below.refl _ w).alloc (Nat.le_refl _) _
    have HB1 := Lib.hid (h1.below hbW)
    have H2 := Lib.hid (own_keep h2 hbW)
    have H3 : Hid (∀ s ∈ S, AttrsOwn W1 B s.2.1 s.2.2 s.1.attrs) := fun s hs => own_keep (h3 s hs) hbW
    have H4 := Lib.hid (h4.below hbW)
    have H5 := Lib.hid h5
    have hz1 : w.heap.size < W1.heap.size := by rw [hW1.out]; simp
    obtain ⟨z0, z1, _, _⟩ := h1.cells
    have hbl := h1.lt
    have hbne : b ≠ w.heap.size := by omega
    have hown2 : ∀ g, (Value.slice IA S.length Ic).ownBlock = some g → g = w.heap.size → False := fun g hg e => by have := (own_type h2 g hg).2.1; omega
    have hownb : (Value.slice IA S.length Ic).ownBlock ≠ some b := fun hg => by
      obtain ⟨_, _, cur, hc⟩ := own_type h2 b hg
      unfold PBlk at h1
      rw [hc] at h1
      injection h1 with h1
      injection h1 with _ h1
      exact absurd h1 (by decide)
    clear h h1 h2 h3 h4 h5
    have hS : (S.length : Int) < 1000 := by have := hlen.out; omega
    show Calls Try.prog 81 #[.pointer (some ⟨b, 0, none⟩), .agg #[.int .i64 x.level, .int .i64 x.kind, .string ⟨x.name.toArray⟩, .string ⟨x.text.toArray⟩, .slice A x.attrs.length c]] w _
    go_enter Try.func81, Try.ntmps81
    go_wp2_with fail
    have y : ∀ (j : Nat) (u : Value), (#[.int .i64 o.length, .int .i64 x.kind, .string ⟨x.name.toArray⟩, .string ⟨x.text.toArray⟩, .slice A x.attrs.length c] : Array Value)[j]? = some u → W1.cell? ⟨w.heap.size, j, none⟩ = some u := fun j u hu => by rw [hW1.out, World.cell?_alloc_at _ _ _ _ rfl]; exact hu
    have HS : Hid (BoxI W1.drew w.heap.size o.length x A c) := ⟨y 0 _ rfl, y 1 _ rfl, y 2 _ rfl, y 3 _ rfl, y 4 _ rfl⟩
    have hzB : B ≤ W1.drew.heap.size := Nat.le_trans hBw hbW.size
    clear y
    rw [← hW1.out]
    refine wp_region_held_drew (S := fun w' => w'.cell? ⟨w.heap.size, 0, none⟩ = some (.int .i64 o.length) ∧ w'.cell? ⟨w.heap.size, 1, none⟩ = some (.int .i64 x.kind) ∧ w'.cell? ⟨w.heap.size, 2, none⟩ = some (.string ⟨x.name.toArray⟩) ∧ w'.cell? ⟨w.heap.size, 3, none⟩ = some (.string ⟨x.text.toArray⟩) ∧ w'.cell? ⟨w.heap.size, 4, none⟩ = some (.slice A x.attrs.length c)) (by kernel_rfl) HS.out (fun hHeld => ?_)
    refine tks (oi := ⟨_, _, _, _, _, _⟩) (v := ?_) 0 rfl (.inl ⟨by rfl, ?_⟩) ?_; rotate_left
    · (intro wS hSw; (try dsimp only at hSw); go_simp); all_goals with_reducible rfl
    try go_frame
    refine tks (oi := ⟨_, _, _, _, _, _⟩) (v := ?_) 1 rfl (.inl ⟨by rfl, ?_⟩) ?_; rotate_left
    · (intro wS hSw; (try dsimp only at hSw); go_simp); all_goals with_reducible rfl
    try go_frame
    refine tks (oi := ⟨_, _, _, _, _, _⟩) (v := ?_) 2 rfl (.inl ⟨by rfl, ?_⟩) ?_; rotate_left
    · (intro wS hSw; (try dsimp only at hSw); go_simp); all_goals with_reducible rfl
    try go_frame
    refine tks (oi := ⟨_, _, _, _, _, _⟩) (v := ?_) 3 rfl (.inl ⟨by rfl, ?_⟩) ?_; rotate_left
    · (intro wS hSw; (try dsimp only at hSw); go_simp); all_goals with_reducible rfl
    try go_frame
    refine tks (oi := ⟨_, _, _, _, _, _⟩) (v := ?_) 5 rfl (.inl ⟨by rfl, ?_⟩) ?_; rotate_left
    · (intro wS hSw; (try dsimp only at hSw); go_simp); all_goals with_reducible rfl
    try go_frame
    have z0d : W1.cell? ⟨b, 0, none⟩ = some (.slice IA S.length Ic) := HB1.out.cells.1
    have z0e : W1.drew.cell? ⟨b, 0, none⟩ = some (.slice IA S.length Ic) := HB1.out.cells.1
    have HS2 : Hid (BoxI (W1.drew.alloc (.cells #[.int .i64 o.length, .int .i64 x.kind, .string ⟨x.name.toArray⟩, .string ⟨x.text.toArray⟩, .slice A x.attrs.length c] 50)) w.heap.size o.length x A c) := BoxI.keep HS.out (fun j => World.cell?_alloc_lt _ _ _ hz1)
    have hbd : b < W1.heap.size := Nat.lt_of_lt_of_le hbl hbW.size
    have z0f : (W1.drew.alloc (.cells #[.int .i64 o.length, .int .i64 x.kind, .string ⟨x.name.toArray⟩, .string ⟨x.text.toArray⟩, .slice A x.attrs.length c] 50)).cell? ⟨b, 0, none⟩ = some (.slice IA S.length Ic) := (World.cell?_alloc_lt _ _ _ hbd).trans z0e
    refine wpAnyH_ready (rs := [4, 6]) (by kernel_rfl) (by simp) ?_
    refine AllReadyH.cons (o := ⟨_, _, _, _, _, _⟩) rfl (fun K hK => ?_) (AllReadyH.cons (o := ⟨_, _, _, _, _, _⟩) rfl (fun K hK => ?_) AllReadyH.nil)
    · go_simp
      refine hK.out _ _ (HS.out) (fun hHeld => ?_)
      clear hK K
      try go_frame
      refine wpAnyH_ready (rs := [6]) (by kernel_rfl) (by simp) ?_
      refine AllReadyH.cons (o := ⟨_, _, _, _, _, _⟩) rfl (fun K hK => ?_) AllReadyH.nil
      go_simp
      refine hK.out _ _ (HS2.out) (fun hHeld => ?_)
      clear hK K
      try go_frame
      refine wpAnyH_ready (rs := [7]) (by kernel_rfl) (by simp) ?_
      refine AllReadyH.cons (o := ⟨_, _, _, _, _, _⟩) rfl (fun K hK => ?_) AllReadyH.nil
      refine appendSw (.tmp 43) (.tmp 45) 45 rfl B 50 (.agg #[.int .i64 0, .int .i64 0, .string ByteArray.empty, .string ByteArray.empty, .slice none 0 0]) 5 72 Try.underlying45 infoItem rfl (by decide) _ S.length _ (cellsI ({ x with level := o.length }, A, c)) rfl H2.out hzB _ rfl rfl (cellsI_length _) (cellsI_cell _) (by omega) (by decide) ?_
      intro a4 c4 w4 hown4 hb4 hz4 hg4
      have hz4' : W1.heap.size < w4.heap.size := hz4
      have HS4 : Hid (BoxI w4 w.heap.size o.length x A c) := BoxI.keep HS2.out (fun j => World.grownBy.cell_far hg4 ⟨w.heap.size, j, none⟩ (by show w.heap.size < _; simp; omega) (fun e => hown2 _ e.symm rfl))
      have HB4 : Hid (PBlk w4 b IA S.length Ic OA o.length Oc) := by
        have h0 : PBlk (W1.drew.alloc (.cells #[.int .i64 o.length, .int .i64 x.kind, .string ⟨x.name.toArray⟩, .string ⟨x.text.toArray⟩, .slice A x.attrs.length c] 50)) b IA S.length Ic OA o.length Oc := PBlk.below (w := W1.drew) HB1.out ((Below.refl _ _).alloc (Nat.le_refl _) _)
        exact (hg4.block b h0.lt (fun e => hownb e.symm)).trans h0
      obtain ⟨k0, _, kf0, _⟩ := HB4.out.cells
      refine hK.out _ _ (HS4.out) (fun hHeld => ?_)
      clear hK K
      try go_frame
      refine tks (oi := ⟨_, _, _, _, _, _⟩) (v := ?_) 8 rfl (.inl ⟨by rfl, ?_⟩) ?_; rotate_left
      · (intro wS hSw; (try dsimp only at hSw); go_simp); all_goals with_reducible rfl
      try go_frame
      refine tks (oi := ⟨_, _, _, _, _, _⟩) (v := ?_) 9 rfl (.inl ⟨by rfl, ?_⟩) ?_; rotate_left
      · (intro wS hSw; (try dsimp only at hSw); go_simp); all_goals with_reducible rfl
      try go_frame
      refine wpAnyH_ready (rs := [10]) (by kernel_rfl) (by simp) ?_
      refine AllReadyH.cons (o := ⟨_, _, _, _, _, _⟩) rfl (fun K hK => ?_) AllReadyH.nil
      go_simp
      have HS5 : Hid (BoxI (w4.setCell ⟨b, 0, none⟩ (.slice a4 (S.length + 1) c4)) w.heap.size o.length x A c) := BoxI.keep HS4.out (fun j => World.grownBy.cell_far (Lib.grownBy_setCell w4 b 0 _) ⟨w.heap.size, j, none⟩ (by show w.heap.size < _; omega) (fun e => by injection e with e; have e' : w.heap.size = b := e; omega))
      refine hK.out _ _ (HS5.out) (fun hHeld => ?_)
      clear hK K
      try go_frame
      refine wpAnyH_done (by kernel_rfl) ?_ _
      clear hHeld
      go_wp2_with fail
      go_ret
      have hfin : ItemsOwn w4 B a4 c4 (S ++ [(({ x with level := (o.length : Int) } : ItemD), A, c)]) := by
        unfold ItemsOwn
        rw [List.length_append, List.flatMap_append]
        simpa using hown4
      have halloc : ∀ {e : TypeId} {size : Nat} {v : Value} {n : Nat} {xs : List Value}, W1.ownsRow B e size v n xs → e ≠ 50 → w4.ownsRow B e size v n xs := fun hr he =>
        own_grown (World.ownsRow.alloc (w := W1.drew) hr _) (World.ownsRow.alloc (w := W1.drew) H2.out _) he hg4
      refine ⟨rfl, ?_, (((hbW.mono hBw).drew).trans hb4).setCell hB _, fun g cs ty hg hty hgb => ?_⟩
      rotate_left
      · have hlt : g < w.heap.size := (Array.getElem?_eq_some_iff.1 hg).1
        have hg1 : W1.heap[g]? = w.heap[g]? := hbW.block g hlt
        have hlt1 : g < W1.heap.size := Nat.lt_trans hlt hz1
        have e1 : (w4.setCell ⟨b, 0, none⟩ (.slice a4 (S.length + 1) c4)).heap[g]? = w4.heap[g]? := (Lib.grownBy_setCell w4 b 0 _).block g (by omega) (fun e => by injection e with e; exact hgb e)
        have e2 : w4.heap[g]? = (W1.drew.alloc (.cells #[.int .i64 o.length, .int .i64 x.kind, .string ⟨x.name.toArray⟩, .string ⟨x.text.toArray⟩, .slice A x.attrs.length c] 50)).heap[g]? := hg4.block g (by show g < _; simp; omega) (fun e => by
          obtain ⟨_, _, cur, hc⟩ := own_type (World.ownsRow.alloc (w := W1.drew) H2.out _) g e.symm
          have e3 : (W1.drew.alloc (.cells #[.int .i64 o.length, .int .i64 x.kind, .string ⟨x.name.toArray⟩, .string ⟨x.text.toArray⟩, .slice A x.attrs.length c] 50)).heap[g]? = W1.heap[g]? := heap_alloc_old W1.drew _ hlt1
          rw [e3, hg1, hg] at hc
          injection hc with hc
          injection hc with _ hc
          exact hty hc)
        exact e1.trans (e2.trans ((heap_alloc_old W1.drew _ hlt1).trans hg1))
      rw [if_pos rfl]
      refine ⟨S ++ [(({ x with level := (o.length : Int) } : ItemD), A, c)], a4, c4, OA, Oc, ?_, own_set HB4.out _ hfin (by decide), fun s hs => ?_, ?_, ?_⟩
      · have := HB4.out.setItems a4 (S.length + 1) c4
        rw [List.length_append]
        exact this
      · refine own_set HB4.out _ (halloc (e := 44) ?_ (by decide)) (by decide)
        rcases List.mem_append.1 hs with hm | hm
        · exact H3.out s hm
        · simp at hm; subst hm
          have := HA.out
          rw [← hW1.out] at this
          exact this
      · refine open_set HB4.out _ ?_
        have h0 : OpenOwn (W1.drew.alloc (.cells #[.int .i64 o.length, .int .i64 x.kind, .string ⟨x.name.toArray⟩, .string ⟨x.text.toArray⟩, .slice A x.attrs.length c] 50)) B OA Oc o := OpenOwn.below (w := W1.drew) H4.out ((Below.refl _ _).alloc (Nat.le_refl _) _)
        exact h0.grown hg4 (fun g hg _ => by
          obtain ⟨_, _, cur, hc⟩ := own_type (World.ownsRow.alloc (w := W1.drew) H2.out _) g hg
          exact ⟨cur, _, hc, by decide⟩)
      · rw [List.map_append, H5.out]; rfl
    · go_simp
      refine hK.out _ _ (HS2.out) (fun hHeld => ?_)
      clear hK K
      try go_frame
      refine wpAnyH_ready (rs := [4]) (by kernel_rfl) (by simp) ?_
      refine AllReadyH.cons (o := ⟨_, _, _, _, _, _⟩) rfl (fun K hK => ?_) AllReadyH.nil
      go_simp
      refine hK.out _ _ (HS2.out) (fun hHeld => ?_)
      clear hK K
      try go_frame
      refine wpAnyH_ready (rs := [7]) (by kernel_rfl) (by simp) ?_
      refine AllReadyH.cons (o := ⟨_, _, _, _, _, _⟩) rfl (fun K hK => ?_) AllReadyH.nil
      refine appendSw (.tmp 43) (.tmp 45) 45 rfl B 50 (.agg #[.int .i64 0, .int .i64 0, .string ByteArray.empty, .string ByteArray.empty, .slice none 0 0]) 5 72 Try.underlying45 infoItem rfl (by decide) _ S.length _ (cellsI ({ x with level := o.length }, A, c)) rfl H2.out hzB _ rfl rfl (cellsI_length _) (cellsI_cell _) (by omega) (by decide) ?_
      intro a4 c4 w4 hown4 hb4 hz4 hg4
      have hz4' : W1.heap.size < w4.heap.size := hz4
      have HS4 : Hid (BoxI w4 w.heap.size o.length x A c) := BoxI.keep HS2.out (fun j => World.grownBy.cell_far hg4 ⟨w.heap.size, j, none⟩ (by show w.heap.size < _; simp; omega) (fun e => hown2 _ e.symm rfl))
      have HB4 : Hid (PBlk w4 b IA S.length Ic OA o.length Oc) := by
        have h0 : PBlk (W1.drew.alloc (.cells #[.int .i64 o.length, .int .i64 x.kind, .string ⟨x.name.toArray⟩, .string ⟨x.text.toArray⟩, .slice A x.attrs.length c] 50)) b IA S.length Ic OA o.length Oc := PBlk.below (w := W1.drew) HB1.out ((Below.refl _ _).alloc (Nat.le_refl _) _)
        exact (hg4.block b h0.lt (fun e => hownb e.symm)).trans h0
      obtain ⟨k0, _, kf0, _⟩ := HB4.out.cells
      refine hK.out _ _ (HS4.out) (fun hHeld => ?_)
      clear hK K
      try go_frame
      refine tks (oi := ⟨_, _, _, _, _, _⟩) (v := ?_) 8 rfl (.inl ⟨by rfl, ?_⟩) ?_; rotate_left
      · (intro wS hSw; (try dsimp only at hSw); go_simp); all_goals with_reducible rfl
      try go_frame
      refine tks (oi := ⟨_, _, _, _, _, _⟩) (v := ?_) 9 rfl (.inl ⟨by rfl, ?_⟩) ?_; rotate_left
      · (intro wS hSw; (try dsimp only at hSw); go_simp); all_goals with_reducible rfl
      try go_frame
      refine wpAnyH_ready (rs := [10]) (by kernel_rfl) (by simp) ?_
      refine AllReadyH.cons (o := ⟨_, _, _, _, _, _⟩) rfl (fun K hK => ?_) AllReadyH.nil
      go_simp
      have HS5 : Hid (BoxI (w4.setCell ⟨b, 0, none⟩ (.slice a4 (S.length + 1) c4)) w.heap.size o.length x A c) := BoxI.keep HS4.out (fun j => World.grownBy.cell_far (Lib.grownBy_setCell w4 b 0 _) ⟨w.heap.size, j, none⟩ (by show w.heap.size < _; omega) (fun e => by injection e with e; have e' : w.heap.size = b := e; omega))
      refine hK.out _ _ (HS5.out) (fun hHeld => ?_)
      clear hK K
      try go_frame
      refine wpAnyH_done (by kernel_rfl) ?_ _
      clear hHeld
      go_wp2_with fail
      go_ret
      have hfin : ItemsOwn w4 B a4 c4 (S ++ [(({ x with level := (o.length : Int) } : ItemD), A, c)]) := by
        unfold ItemsOwn
        rw [List.length_append, List.flatMap_append]
        simpa using hown4
      have halloc : ∀ {e : TypeId} {size : Nat} {v : Value} {n : Nat} {xs : List Value}, W1.ownsRow B e size v n xs → e ≠ 50 → w4.ownsRow B e size v n xs := fun hr he =>
        own_grown (World.ownsRow.alloc (w := W1.drew) hr _) (World.ownsRow.alloc (w := W1.drew) H2.out _) he hg4
      refine ⟨rfl, ?_, (((hbW.mono hBw).drew).trans hb4).setCell hB _, fun g cs ty hg hty hgb => ?_⟩
      rotate_left
      · have hlt : g < w.heap.size := (Array.getElem?_eq_some_iff.1 hg).1
        have hg1 : W1.heap[g]? = w.heap[g]? := hbW.block g hlt
        have hlt1 : g < W1.heap.size := Nat.lt_trans hlt hz1
        have e1 : (w4.setCell ⟨b, 0, none⟩ (.slice a4 (S.length + 1) c4)).heap[g]? = w4.heap[g]? := (Lib.grownBy_setCell w4 b 0 _).block g (by omega) (fun e => by injection e with e; exact hgb e)
        have e2 : w4.heap[g]? = (W1.drew.alloc (.cells #[.int .i64 o.length, .int .i64 x.kind, .string ⟨x.name.toArray⟩, .string ⟨x.text.toArray⟩, .slice A x.attrs.length c] 50)).heap[g]? := hg4.block g (by show g < _; simp; omega) (fun e => by
          obtain ⟨_, _, cur, hc⟩ := own_type (World.ownsRow.alloc (w := W1.drew) H2.out _) g e.symm
          have e3 : (W1.drew.alloc (.cells #[.int .i64 o.length, .int .i64 x.kind, .string ⟨x.name.toArray⟩, .string ⟨x.text.toArray⟩, .slice A x.attrs.length c] 50)).heap[g]? = W1.heap[g]? := heap_alloc_old W1.drew _ hlt1
          rw [e3, hg1, hg] at hc
          injection hc with hc
          injection hc with _ hc
          exact hty hc)
        exact e1.trans (e2.trans ((heap_alloc_old W1.drew _ hlt1).trans hg1))
      rw [if_pos rfl]
      refine ⟨S ++ [(({ x with level := (o.length : Int) } : ItemD), A, c)], a4, c4, OA, Oc, ?_, own_set HB4.out _ hfin (by decide), fun s hs => ?_, ?_, ?_⟩
      · have := HB4.out.setItems a4 (S.length + 1) c4
        rw [List.length_append]
        exact this
      · refine own_set HB4.out _ (halloc (e := 44) ?_ (by decide)) (by decide)
        rcases List.mem_append.1 hs with hm | hm
        · exact H3.out s hm
        · simp at hm; subst hm
          have := HA.out
          rw [← hW1.out] at this
          exact this
      · refine open_set HB4.out _ ?_
        have h0 : OpenOwn (W1.drew.alloc (.cells #[.int .i64 o.length, .int .i64 x.kind, .string ⟨x.name.toArray⟩, .string ⟨x.text.toArray⟩, .slice A x.attrs.length c] 50)) B OA Oc o := OpenOwn.below (w := W1.drew) H4.out ((Below.refl _ _).alloc (Nat.le_refl _) _)
        exact h0.grown hg4 (fun g hg _ => by
          obtain ⟨_, _, cur, hc⟩ := own_type (World.ownsRow.alloc (w := W1.drew) H2.out _) g hg
          exact ⟨cur, _, hc, by decide⟩)
      · rw [List.map_append, H5.out]; rfl
end Go.Proofs.Ythifddkmbjnncaa

/-
  The reader of documents: the walk of take.
-/
namespace Go.Proofs.Ythifddkmbjnncaa
open Go.RowKit

set_option maxRecDepth 100000 in
theorem appendOw {w : World} {op : Oper} {a : Act} {K : Act → World → Prop} {Q : Exit → Act → World → Prop} (s x : Operand)
    (hop : op.op = .call { callee := .builtin .append, args := #[s, x], argTypes := #[69, 69] })
    (B : Nat) (A : Option Addr) (c : Nat) (o : List (List UInt8)) (n : List UInt8) (hs : a.eval s = .slice A o.length c) (hown : OpenOwn w B A c o) (hB : B ≤ w.heap.size)
    (X : Nat) (hx : a.eval x = .slice (some ⟨X, 0, none⟩) 1 1) (hX : X = w.heap.size) (hn : o.length < 4294967296)
    (h : ∀ A' c' w', OpenOwn w' B A' c' (o ++ [n]) → Below B w w' → w.heap.size < w'.heap.size → (w.alloc (.cells #[strV n] 9)).grownBy w' (Value.slice A o.length c).ownBlock → K (a.put op.dst (.slice A' (o.length + 1) c')) w') :
    op.wp Try.prog a (w.alloc (.cells #[strV n] 9)) K Q := by
  have hlen : (o ++ [n]).length = o.length + 1 := by simp
  rcases hown with ⟨rfl, rfl, rfl⟩ | ⟨g, cur, rfl, h2, h3, h4, h5, h6, h7, h8⟩
  · refine appendSw s x 69 hop B 9 (.string ByteArray.empty) 1 16 Try.underlying69 infoStr rfl (by decide) _ 0 [] [strV n] hs (World.ownsRow_nil _ _ _ _) hB X hx hX rfl (by intro u hu; simp at hu; subst hu; rfl) (by omega) (by decide) ?_
    intro ad cc w' hown' hb hz hg
    exact h ad cc w' (OpenOwn.own (o := [n]) hown') hb hz hg
  · by_cases hc : c = cur.size
    · have hrow : w.ownsRow B 9 1 (.slice (some ⟨g, 0, none⟩) o.length c) o.length (o.map strV) :=
        ⟨by simp, .inr ⟨g, c, cur, rfl, h2, h3, h4, by omega, by omega, by rw [Nat.mul_one]; exact h7⟩⟩
      refine appendSw s x 69 hop B 9 (.string ByteArray.empty) 1 16 Try.underlying69 infoStr rfl (by decide) _ o.length (o.map strV) [strV n] hs hrow hB X hx hX rfl (by intro u hu; simp at hu; subst hu; rfl) hn (by decide) ?_
      intro ad cc w' hown' hb hz hg
      refine h ad cc w' (OpenOwn.own ?_) hb hz hg
      rw [hlen, List.map_append]
      exact hown'
    · have hcn : c = o.length := by
        rcases h8 with h8 | h8
        · exact h8
        · exact absurd h8 hc
      subst hX
      obtain ⟨i0, hi0, hz0, hz1, hz2⟩ := info_parts infoStr
      have hg : g < w.heap.size := (Array.getElem?_eq_some_iff.1 h3).1
      obtain ⟨v', w', hrun, hown', hgr⟩ := run_append_arg_grows (P := Try.prog) (w.alloc (.cells #[strV n] 9)) 69 op.type 9 i0 (.string ByteArray.empty) 1 16 Try.underlying69 hi0 hz0 hz1 hz2 rfl (by decide) ⟨g, 0, none⟩ o.length c (o.map strV) (by simp) (by
        intro j u hu
        rw [add_zero_block, World.cell?_alloc_lt _ _ _ hg, cell_of_row h3]
        have hj : j < o.length := by have := (List.getElem?_eq_some_iff.1 hu).1; simpa using this
        rw [← h7, List.getElem?_take_of_lt hj, Array.getElem?_toList] at hu
        exact hu) ⟨w.heap.size, 0, none⟩ 1 1 [strV n] rfl (by
        intro j u hu
        rw [add_zero_block, World.cell?_alloc_at _ _ _ _ (by simp)]
        have hj : j < 1 := (List.getElem?_eq_some_iff.1 hu).1
        have hj0 : j = 0 := by omega
        subst hj0
        simpa using hu) (by omega) (by unfold maxLen; omega) (by omega)
      obtain ⟨ad, cc, rfl⟩ : ∃ ad cc, v' = .slice ad (o.length + 1) cc := by
        rcases hown'.2 with ⟨_, h0⟩ | ⟨g, c, cur, hv, _⟩
        · omega
        · exact ⟨_, c, hv⟩
      have hsz := hgr.size
      simp at hsz
      have hK := h ad cc w' (OpenOwn.own (by rw [hlen, List.map_append]; exact row_base hown' (by simp; omega))) (((Below.refl B w).alloc hB _).grown hgr (by simp; omega) (fun k hk => by cases hk)) (by omega) ⟨hgr.os, hgr.tape, hgr.output, hgr.size, fun k hk _ => hgr.block k hk (by simp)⟩
      unfold Oper.wp
      simp [execOp, hop, resolve, invoke, builtin, hs, hx, hrun, Result.andThen]
      exact hK

theorem OpenOwn.type {w : World} {B : Nat} {A : Option Addr} {c : Nat} {o : List (List UInt8)} (h : OpenOwn w B A c o) : ∀ g, (Value.slice A o.length c).ownBlock = some g → ∃ cur, w.heap[g]? = some (.cells cur 9 (0, 0)) := by
  intro g hg
  rcases h with ⟨rfl, _, _⟩ | ⟨g', cur, rfl, _, h3, _⟩
  · cases hg
  · injection hg with hg
    have e : g' = g := hg
    subst e
    exact ⟨cur, h3⟩

def TakePost (w : World) (B b : Nat) (V : Int ⊕ (List ItemD × List (List UInt8))) (e : Ending) (w' : World) : Prop :=
  Below B w w' ∧ match V with
  | .inl c => e = .returned (.int .i64 c)
  | .inr q => e = .returned (.int .i64 0) ∧ PInv w' B b q.1 q.2

theorem addE_K (items : List ItemD) (o : List (List UInt8)) (kind k : Int) (h : kind = 4 ↔ k = 2) : addE items o kind = addK items o k := by
  unfold addE addK
  by_cases hk : k = 2
  · simp [hk, h.2 hk]
  · have h4 : ¬ kind = 4 := fun e => hk (h.1 e)
    simp [hk, h4]

theorem add_any (b B : Nat) (items : List ItemD) (o : List (List UInt8)) (w : World) (h : PInv w B b items o) (hB : B ≤ b) (hBw : B ≤ w.heap.size) (ho : o.length ≤ 1000000000) (hi : items.length ≤ 1000000000) (x : ItemD) (A : Option Addr) (c : Nat) (hA : AttrsOwn w B A c x.attrs) (E : Int) (hE : Hid (addK items o x.kind = E)) :
    Calls Try.prog 81 #[.pointer (some ⟨b, 0, none⟩), .agg #[.int .i64 x.level, .int .i64 x.kind, .string ⟨x.name.toArray⟩, .string ⟨x.text.toArray⟩, .slice A x.attrs.length c]] w (AddPost w B b items o x E) := by
  by_cases h0 : E = 0
  · subst h0; exact add_yes b B items o w h hB hBw x A c hA hE.out
  · exact add_no b B items o w h hB hBw ho hi x A c E hE h0




set_option maxRecDepth 100000 in
set_option maxHeartbeats 4000000 in
theorem take_any (b B : Nat) (items : List ItemD) (o : List (List UInt8)) (w : World) (h : PInv w B b items o) (hB : B ≤ b) (hBw : B ≤ w.heap.size) (ho : o.length ≤ 1000000000) (hi : items.length ≤ 1000000000) (t : TokD) (at_ : Int) (A : Option Addr) (c : Nat) (hA : AttrsOwn w B A c t.attrs) (hk : t.kind = 1 ∨ t.kind = 2 ∨ t.kind = 3 ∨ t.kind = 4) (V : Int ⊕ (List ItemD × List (List UInt8))) (hV : Hid (takeT items o t = V)) :
    Calls Try.prog 48 #[.pointer (some ⟨b, 0, none⟩), .agg #[.int .i64 t.kind, .int .i64 at_, .string ⟨t.name.toArray⟩, .string ⟨t.text.toArray⟩, .slice A t.attrs.length c]] w (TakePost w B b V) := by
  obtain ⟨tk, tn, tt, ta⟩ := t
  simp only at hk hA ⊢
  have HA := Lib.hid hA
  have hbl : b < w.heap.size := by obtain ⟨S, IA, Ic, OA, Oc, h1, _⟩ := h.out; exact h1.lt
  clear hA
  rcases hk with rfl | rfl | rfl | rfl
  · obtain ⟨E, hE⟩ : ∃ E, Hid (addE items o 1 = E) := ⟨_, rfl⟩
    have hE' : Hid (addK items o 1 = E) := by show _ = _; rw [← hE.out]; exact (addE_K _ _ _ _ (by decide)).symm
    go_enter Try.func48, Try.ntmps48
    go_wp2_with fail
    obtain ⟨W1, hW1⟩ : ∃ W1, Hid (W1 = (w.alloc (.cells #[.int .i64 1, .int .i64 at_, .string ⟨tn.toArray⟩, .string ⟨tt.toArray⟩, .slice A ta.length c] 34)).alloc (.cells #[.int .i64 0, .int .i64 1, .string ⟨tn.toArray⟩, .string ⟨#[]⟩, .slice A ta.length c] 50)) := ⟨_, rfl⟩
    rw [← hW1.out]
    have hbW : Below w.heap.size w W1 := by rw [hW1.out]; exact ((Below.refl _ w).alloc (Nat.le_refl _) _).alloc (by simp) _
    have hP1 := PInv.below h hbW
    have hz1 : w.heap.size + 1 < W1.heap.size := by rw [hW1.out]; simp
    have y2 : W1.cell? ⟨w.heap.size, 2, none⟩ = some (.string ⟨tn.toArray⟩) := by
      rw [hW1.out, World.cell?_alloc_lt _ _ _ (by simp), World.cell?_alloc_at _ _ _ _ rfl]; rfl
    refine (add_any b B items o W1 hP1 hB (Nat.le_trans hBw hbW.size) ho hi ⟨0, 1, tn, [], ta⟩ A c (own_keep HA.out hbW) E hE').mono ?_
    rintro e W2 ⟨rfl, hP2, hb2, hkeep⟩
    by_cases h0 : E = 0
    · subst h0
      have HV : Hid (V = .inr (items ++ [⟨o.length, 1, tn, [], ta⟩], o ++ [tn])) := by
        show _ = _
        rw [← hV.out]; unfold takeT
        simp only
        rw [if_neg (by decide), hE.out, if_neg (by decide), if_pos trivial]
        rfl
      rw [if_pos rfl] at hP2
      have hP2' : PInv W2 B b (items ++ [⟨o.length, 1, tn, [], ta⟩]) o := hP2
      obtain ⟨S, IA, Ic, OA, Oc, h1, h2, h3, h4, h5⟩ := hP2'.out
      have HB2 := Lib.hid h1
      have H2 := Lib.hid h2
      have H3 : Hid (∀ s ∈ S, AttrsOwn W2 B s.2.1 s.2.2 s.1.attrs) := h3
      have H4 := Lib.hid h4
      have H5 := Lib.hid h5
      have hy : W1.heap[w.heap.size]? = some (.cells #[.int .i64 1, .int .i64 at_, .string ⟨tn.toArray⟩, .string ⟨tt.toArray⟩, .slice A ta.length c] 34 (0, 0)) := by
        rw [hW1.out]; exact heap_alloc2_old _ _ _
      have hy2 := (hkeep _ _ _ hy (by decide) (by omega)).trans hy
      have HS : Hid (W2.drew.cell? ⟨w.heap.size, 2, none⟩ = some (.string ⟨tn.toArray⟩)) := by show W2.cell? _ = _; rw [cell_of_row hy2]; rfl
      have hz2 : w.heap.size < W2.drew.heap.size := (Array.getElem?_eq_some_iff.1 hy2).1
      have hzB : B ≤ W2.drew.heap.size := Nat.le_trans hBw (Nat.le_trans hbW.size hb2.size)
      have hownb : (Value.slice OA o.length Oc).ownBlock ≠ some b := fun hg => by
        obtain ⟨cur, hc⟩ := h4.type b hg
        unfold PBlk at h1
        rw [hc] at h1
        injection h1 with h1
        injection h1 with _ h1
        exact absurd h1 (by decide)
      have hownt : (Value.slice OA o.length Oc).ownBlock ≠ some w.heap.size := fun hg => by
        obtain ⟨cur, hc⟩ := h4.type _ hg
        rw [hc] at hy2
        injection hy2 with hy2
        injection hy2 with _ hy2
        exact absurd hy2 (by decide)
      have hownt2 : ∀ g, (Value.slice OA o.length Oc).ownBlock = some g → ∀ cur e, W2.heap[g]? = some (.cells cur e (0, 0)) → e ≠ 9 → False := fun g hg cur e he hne => by
        obtain ⟨cur', hc⟩ := h4.type _ hg
        rw [hc] at he
        injection he with he
        injection he with _ he
        exact hne he.symm
      clear hy hy2 h1 h2 h3 h4 h5 hP2 hP2' hkeep
      go_wp2_with fail
      have z1d : W2.cell? ⟨b, 1, none⟩ = some (.slice OA o.length Oc) := HB2.out.cells.2.1
      have z1e : W2.drew.cell? ⟨b, 1, none⟩ = some (.slice OA o.length Oc) := HB2.out.cells.2.1
      have HS2 : Hid ((W2.drew.alloc (.cells #[.string ⟨tn.toArray⟩] 9)).cell? ⟨w.heap.size, 2, none⟩ = some (.string ⟨tn.toArray⟩)) := (World.cell?_alloc_lt _ _ _ hz2).trans HS.out
      have hbd : b < W2.heap.size := HB2.out.lt
      have z1f : (W2.drew.alloc (.cells #[.string ⟨tn.toArray⟩] 9)).cell? ⟨b, 1, none⟩ = some (.slice OA o.length Oc) := (World.cell?_alloc_lt _ _ _ hbd).trans z1e
      refine wp_region_held_drew (S := fun w' => w'.cell? ⟨w.heap.size, 2, none⟩ = some (.string ⟨tn.toArray⟩)) (by kernel_rfl) HS.out (fun hHeld => ?_)
      refine tks (oi := ⟨_, _, _, _, _, _⟩) (v := ?_) 0 rfl (.inl ⟨by rfl, ?_⟩) ?_; rotate_left
      · (intro wS hSw; (try dsimp only at hSw); go_simp); all_goals with_reducible rfl
      try go_frame
      refine tks (oi := ⟨_, _, _, _, _, _⟩) (v := ?_) 1 rfl (.inl ⟨by rfl, ?_⟩) ?_; rotate_left
      · (intro wS hSw; (try dsimp only at hSw); go_simp); all_goals with_reducible rfl
      try go_frame
      refine tks (oi := ⟨_, _, _, _, _, _⟩) (v := ?_) 2 rfl (.inl ⟨by rfl, ?_⟩) ?_; rotate_left
      · (intro wS hSw; (try dsimp only at hSw); go_simp); all_goals with_reducible rfl
      try go_frame
      refine tks (oi := ⟨_, _, _, _, _, _⟩) (v := ?_) 3 rfl (.inl ⟨by rfl, ?_⟩) ?_; rotate_left
      · (intro wS hSw; (try dsimp only at hSw); go_simp); all_goals with_reducible rfl
      try go_frame
      refine tks (oi := ⟨_, _, _, _, _, _⟩) (v := ?_) 5 rfl (.inl ⟨by rfl, ?_⟩) ?_; rotate_left
      · (intro wS hSw; (try dsimp only at hSw); go_simp); all_goals with_reducible rfl
      try go_frame
      refine tks (oi := ⟨_, _, _, _, _, _⟩) (v := ?_) 6 rfl (.inl ⟨by rfl, ?_⟩) ?_; rotate_left
      · (intro wS hSw; (try dsimp only at hSw); go_simp); all_goals with_reducible rfl
      try go_frame
      refine wpAnyH_ready (rs := [4, 7]) (by kernel_rfl) (by simp) ?_
      refine AllReadyH.cons (o := ⟨_, _, _, _, _, _⟩) rfl (fun K hK => ?_) (AllReadyH.cons (o := ⟨_, _, _, _, _, _⟩) rfl (fun K hK => ?_) AllReadyH.nil)
      · go_simp
        refine hK.out _ _ (HS.out) (fun hHeld => ?_)
        clear hK K
        try go_frame
        refine wpAnyH_ready (rs := [7]) (by kernel_rfl) (by simp) ?_
        refine AllReadyH.cons (o := ⟨_, _, _, _, _, _⟩) rfl (fun K hK => ?_) AllReadyH.nil
        go_simp
        refine hK.out _ _ (HS2.out) (fun hHeld => ?_)
        clear hK K
        try go_frame
        refine wpAnyH_ready (rs := [8]) (by kernel_rfl) (by simp) ?_
        refine AllReadyH.cons (o := ⟨_, _, _, _, _, _⟩) rfl (fun K hK => ?_) AllReadyH.nil
        refine appendOw (w := W2.drew) (.tmp 38) (.tmp 41) rfl B OA Oc o tn rfl H4.out hzB W2.drew.heap.size rfl rfl (by omega) ?_
        intro a4 c4 w4 hown4 hb4 hz4 hg4
        have hz4' : W2.heap.size < w4.heap.size := hz4
        have HB4 : Hid (PBlk w4 b IA S.length Ic OA o.length Oc) := by
          have h0 : PBlk (W2.drew.alloc (.cells #[.string ⟨tn.toArray⟩] 9)) b IA S.length Ic OA o.length Oc := PBlk.below (w := W2.drew) HB2.out ((Below.refl _ _).alloc (Nat.le_refl _) _)
          exact (hg4.block b h0.lt (fun e => hownb e.symm)).trans h0
        have HS4 : Hid (w4.cell? ⟨w.heap.size, 2, none⟩ = some (.string ⟨tn.toArray⟩)) := (World.grownBy.cell_far hg4 ⟨w.heap.size, 2, none⟩ (by show w.heap.size < _; have : w.heap.size < W2.heap.size := hz2; simp; omega) (fun e => hownt e.symm)).trans HS2.out
        obtain ⟨_, k1, _, kf1⟩ := HB4.out.cells
        refine hK.out _ _ (HS4.out) (fun hHeld => ?_)
        clear hK K
        try go_frame
        refine tks (oi := ⟨_, _, _, _, _, _⟩) (v := ?_) 9 rfl (.inl ⟨by rfl, ?_⟩) ?_; rotate_left
        · (intro wS hSw; (try dsimp only at hSw); go_simp); all_goals with_reducible rfl
        try go_frame
        refine tks (oi := ⟨_, _, _, _, _, _⟩) (v := ?_) 10 rfl (.inl ⟨by rfl, ?_⟩) ?_; rotate_left
        · (intro wS hSw; (try dsimp only at hSw); go_simp); all_goals with_reducible rfl
        try go_frame
        refine wpAnyH_ready (rs := [11]) (by kernel_rfl) (by simp) ?_
        refine AllReadyH.cons (o := ⟨_, _, _, _, _, _⟩) rfl (fun K hK => ?_) AllReadyH.nil
        go_simp
        have HS5 : Hid ((w4.setCell ⟨b, 1, none⟩ (.slice a4 (o.length + 1) c4)).cell? ⟨w.heap.size, 2, none⟩ = some (.string ⟨tn.toArray⟩)) := (World.grownBy.cell_far (Lib.grownBy_setCell w4 b 1 _) ⟨w.heap.size, 2, none⟩ (by show w.heap.size < _; have : w.heap.size < W2.heap.size := hz2; omega) (fun e => by injection e with e; have e' : w.heap.size = b := e; omega)).trans HS4.out
        refine hK.out _ _ (HS5.out) (fun hHeld => ?_)
        clear hK K
        try go_frame
        refine wpAnyH_done (by kernel_rfl) ?_ _
        clear hHeld
        go_wp2_with fail
        go_ret
        rw [HV.out]
        have halloc : ∀ {e : TypeId} {size : Nat} {v : Value} {n : Nat} {xs : List Value}, W2.ownsRow B e size v n xs → e ≠ 9 → w4.ownsRow B e size v n xs := fun hr he => by
          refine World.ownsRow.kept (World.ownsRow.alloc (w := W2.drew) hr _) hg4 ?_
          rename_i v _ _
          cases hv : v.ownBlock with
          | none => exact .inl rfl
          | some g =>
            refine .inr fun e => ?_
            obtain ⟨_, _, cur, hc⟩ := own_type hr g hv
            exact hownt2 g e.symm _ _ hc he
        refine ⟨(((hbW.mono hBw).trans hb2).drew.trans hb4).setCell hB _, rfl, ⟨S, IA, Ic, a4, c4, ?_, own_set HB4.out _ (halloc H2.out (by decide)) (by decide), fun s hs => own_set HB4.out _ (halloc (H3.out s hs) (by decide)) (by decide), open_set HB4.out _ hown4, H5.out⟩⟩
        have := HB4.out.setOpen a4 (o.length + 1) c4
        rw [List.length_append]
        exact this
      · go_simp
        refine hK.out _ _ (HS2.out) (fun hHeld => ?_)
        clear hK K
        try go_frame
        refine wpAnyH_ready (rs := [4]) (by kernel_rfl) (by simp) ?_
        refine AllReadyH.cons (o := ⟨_, _, _, _, _, _⟩) rfl (fun K hK => ?_) AllReadyH.nil
        go_simp
        refine hK.out _ _ (HS2.out) (fun hHeld => ?_)
        clear hK K
        try go_frame
        refine wpAnyH_ready (rs := [8]) (by kernel_rfl) (by simp) ?_
        refine AllReadyH.cons (o := ⟨_, _, _, _, _, _⟩) rfl (fun K hK => ?_) AllReadyH.nil
        refine appendOw (w := W2.drew) (.tmp 38) (.tmp 41) rfl B OA Oc o tn rfl H4.out hzB W2.drew.heap.size rfl rfl (by omega) ?_
        intro a4 c4 w4 hown4 hb4 hz4 hg4
        have hz4' : W2.heap.size < w4.heap.size := hz4
        have HB4 : Hid (PBlk w4 b IA S.length Ic OA o.length Oc) := by
          have h0 : PBlk (W2.drew.alloc (.cells #[.string ⟨tn.toArray⟩] 9)) b IA S.length Ic OA o.length Oc := PBlk.below (w := W2.drew) HB2.out ((Below.refl _ _).alloc (Nat.le_refl _) _)
          exact (hg4.block b h0.lt (fun e => hownb e.symm)).trans h0
        have HS4 : Hid (w4.cell? ⟨w.heap.size, 2, none⟩ = some (.string ⟨tn.toArray⟩)) := (World.grownBy.cell_far hg4 ⟨w.heap.size, 2, none⟩ (by show w.heap.size < _; have : w.heap.size < W2.heap.size := hz2; simp; omega) (fun e => hownt e.symm)).trans HS2.out
        obtain ⟨_, k1, _, kf1⟩ := HB4.out.cells
        refine hK.out _ _ (HS4.out) (fun hHeld => ?_)
        clear hK K
        try go_frame
        refine tks (oi := ⟨_, _, _, _, _, _⟩) (v := ?_) 9 rfl (.inl ⟨by rfl, ?_⟩) ?_; rotate_left
        · (intro wS hSw; (try dsimp only at hSw); go_simp); all_goals with_reducible rfl
        try go_frame
        refine tks (oi := ⟨_, _, _, _, _, _⟩) (v := ?_) 10 rfl (.inl ⟨by rfl, ?_⟩) ?_; rotate_left
        · (intro wS hSw; (try dsimp only at hSw); go_simp); all_goals with_reducible rfl
        try go_frame
        refine wpAnyH_ready (rs := [11]) (by kernel_rfl) (by simp) ?_
        refine AllReadyH.cons (o := ⟨_, _, _, _, _, _⟩) rfl (fun K hK => ?_) AllReadyH.nil
        go_simp
        have HS5 : Hid ((w4.setCell ⟨b, 1, none⟩ (.slice a4 (o.length + 1) c4)).cell? ⟨w.heap.size, 2, none⟩ = some (.string ⟨tn.toArray⟩)) := (World.grownBy.cell_far (Lib.grownBy_setCell w4 b 1 _) ⟨w.heap.size, 2, none⟩ (by show w.heap.size < _; have : w.heap.size < W2.heap.size := hz2; omega) (fun e => by injection e with e; have e' : w.heap.size = b := e; omega)).trans HS4.out
        refine hK.out _ _ (HS5.out) (fun hHeld => ?_)
        clear hK K
        try go_frame
        refine wpAnyH_done (by kernel_rfl) ?_ _
        clear hHeld
        go_wp2_with fail
        go_ret
        rw [HV.out]
        have halloc : ∀ {e : TypeId} {size : Nat} {v : Value} {n : Nat} {xs : List Value}, W2.ownsRow B e size v n xs → e ≠ 9 → w4.ownsRow B e size v n xs := fun hr he => by
          refine World.ownsRow.kept (World.ownsRow.alloc (w := W2.drew) hr _) hg4 ?_
          rename_i v _ _
          cases hv : v.ownBlock with
          | none => exact .inl rfl
          | some g =>
            refine .inr fun e => ?_
            obtain ⟨_, _, cur, hc⟩ := own_type hr g hv
            exact hownt2 g e.symm _ _ hc he
        refine ⟨(((hbW.mono hBw).trans hb2).drew.trans hb4).setCell hB _, rfl, ⟨S, IA, Ic, a4, c4, ?_, own_set HB4.out _ (halloc H2.out (by decide)) (by decide), fun s hs => own_set HB4.out _ (halloc (H3.out s hs) (by decide)) (by decide), open_set HB4.out _ hown4, H5.out⟩⟩
        have := HB4.out.setOpen a4 (o.length + 1) c4
        rw [List.length_append]
        exact this
    · have HV : Hid (V = .inl E) := by
        show _ = _
        rw [← hV.out]; unfold takeT
        simp only
        rw [if_neg (by decide), hE.out, if_pos h0]
      have h0' : (E == 0) = false := by simpa using h0
      clear h0 hP2
      go_wp2_with fail
      go_ret
      rw [HV.out]
      exact ⟨(hbW.mono hBw).trans hb2, rfl⟩
  · obtain ⟨v, hv⟩ : ∃ v, Hid (decide (o.getLast? = some tn) = v) := ⟨_, rfl⟩
    have HV : Hid (V = if v then .inr (items, o.dropLast) else .inl 41) := by
      show _ = _
      rw [← hV.out, ← hv.out]; unfold takeT
      simp only
      rw [if_pos trivial]
      by_cases hq : o.getLast? = some tn
      · simp [hq]
      · simp [hq]
    go_enter Try.func48, Try.ntmps48
    go_wp2_with fail
    obtain ⟨W1, hW1⟩ : ∃ W1, Hid (W1 = (w.alloc (.cells #[.int .i64 2, .int .i64 at_, .string ⟨tn.toArray⟩, .string ⟨tt.toArray⟩, .slice A ta.length c] 34)).alloc (.cells #[.int .i64 0, .int .i64 1, .string ⟨tn.toArray⟩, .string ⟨#[]⟩, .slice A ta.length c] 50)) := ⟨_, rfl⟩
    rw [← hW1.out]
    have hbW : Below w.heap.size w W1 := by rw [hW1.out]; exact ((Below.refl _ w).alloc (Nat.le_refl _) _).alloc (by simp) _
    have hP1 := PInv.below h hbW
    have hz1 : w.heap.size + 1 < W1.heap.size := by rw [hW1.out]; simp
    cases v with
    | true =>
      refine (close_any b B items o W1 hP1 hB (Nat.le_trans hBw hbW.size) ho ⟨2, tn, tt, ta⟩ at_ A c true hv).mono ?_
      rintro e W2 ⟨rfl, hP2, hb2⟩
      go_wp2_with fail
      go_ret
      rw [HV.out.trans (if_pos trivial)]
      exact ⟨(hbW.mono hBw).trans hb2, rfl, hP2⟩
    | false =>
      refine (close_any b B items o W1 hP1 hB (Nat.le_trans hBw hbW.size) ho ⟨2, tn, tt, ta⟩ at_ A c false hv).mono ?_
      rintro e W2 ⟨rfl, hP2, hb2⟩
      go_wp2_with fail
      go_ret
      rw [HV.out.trans (if_neg (by decide))]
      exact ⟨(hbW.mono hBw).trans hb2, rfl⟩
  · obtain ⟨E, hE⟩ : ∃ E, Hid (addE items o 3 = E) := ⟨_, rfl⟩
    have hE' : Hid (addK items o 1 = E) := by show _ = _; rw [← hE.out]; exact (addE_K _ _ _ _ (by decide)).symm
    go_enter Try.func48, Try.ntmps48
    go_wp2_with fail
    obtain ⟨W1, hW1⟩ : ∃ W1, Hid (W1 = (w.alloc (.cells #[.int .i64 3, .int .i64 at_, .string ⟨tn.toArray⟩, .string ⟨tt.toArray⟩, .slice A ta.length c] 34)).alloc (.cells #[.int .i64 0, .int .i64 1, .string ⟨tn.toArray⟩, .string ⟨#[]⟩, .slice A ta.length c] 50)) := ⟨_, rfl⟩
    rw [← hW1.out]
    have hbW : Below w.heap.size w W1 := by rw [hW1.out]; exact ((Below.refl _ w).alloc (Nat.le_refl _) _).alloc (by simp) _
    have hP1 := PInv.below h hbW
    have hz1 : w.heap.size + 1 < W1.heap.size := by rw [hW1.out]; simp
    refine (add_any b B items o W1 hP1 hB (Nat.le_trans hBw hbW.size) ho hi ⟨0, 1, tn, [], ta⟩ A c (own_keep HA.out hbW) E hE').mono ?_
    rintro e W2 ⟨rfl, hP2, hb2, hkeep⟩
    go_wp2_with fail
    go_ret
    by_cases h0 : E = 0
    · subst h0
      have HV : V = .inr (items ++ [⟨o.length, 1, tn, [], ta⟩], o) := by
        rw [← hV.out]; unfold takeT
        simp only
        rw [if_neg (by decide), hE.out, if_neg (by decide), if_neg (by decide)]
        rfl
      rw [HV]
      rw [if_pos rfl] at hP2
      exact ⟨(hbW.mono hBw).trans hb2, rfl, hP2⟩
    · have HV : V = .inl E := by
        rw [← hV.out]; unfold takeT
        simp only
        rw [if_neg (by decide), hE.out, if_pos h0]
      rw [HV]
      exact ⟨(hbW.mono hBw).trans hb2, rfl⟩
  · obtain ⟨E, hE⟩ : ∃ E, Hid (addE items o 4 = E) := ⟨_, rfl⟩
    have hE' : Hid (addK items o 2 = E) := by show _ = _; rw [← hE.out]; exact (addE_K _ _ _ _ (by decide)).symm
    go_enter Try.func48, Try.ntmps48
    go_wp2_with fail
    obtain ⟨W1, hW1⟩ : ∃ W1, Hid (W1 = (w.alloc (.cells #[.int .i64 4, .int .i64 at_, .string ⟨tn.toArray⟩, .string ⟨tt.toArray⟩, .slice A ta.length c] 34)).alloc (.cells #[.int .i64 0, .int .i64 2, .string ⟨#[]⟩, .string ⟨tt.toArray⟩, .slice none 0 0] 50)) := ⟨_, rfl⟩
    rw [← hW1.out]
    have hbW : Below w.heap.size w W1 := by rw [hW1.out]; exact ((Below.refl _ w).alloc (Nat.le_refl _) _).alloc (by simp) _
    have hP1 := PInv.below h hbW
    have hz1 : w.heap.size + 1 < W1.heap.size := by rw [hW1.out]; simp
    refine (add_any b B items o W1 hP1 hB (Nat.le_trans hBw hbW.size) ho hi ⟨0, 2, [], tt, []⟩ none 0 (World.ownsRow_nil _ _ _ _) E hE').mono ?_
    rintro e W2 ⟨rfl, hP2, hb2, hkeep⟩
    go_wp2_with fail
    go_ret
    by_cases h0 : E = 0
    · subst h0
      have HV : V = .inr (items ++ [⟨o.length, 2, [], tt, []⟩], o) := by
        rw [← hV.out]; unfold takeT
        simp only
        rw [if_neg (by decide), hE.out, if_neg (by decide), if_neg (by decide)]
        rfl
      rw [HV]
      rw [if_pos rfl] at hP2
      exact ⟨(hbW.mono hBw).trans hb2, rfl, hP2⟩
    · have HV : V = .inl E := by
        rw [← hV.out]; unfold takeT
        simp only
        rw [if_neg (by decide), hE.out, if_pos h0]
      rw [HV]
      exact ⟨(hbW.mono hBw).trans hb2, rfl⟩
end Go.Proofs.Ythifddkmbjnncaa

/-
  parse.Parse walked.
-/
namespace Go.Proofs.Ythifddkmbjnncaa
open Go.RowKit

def ParsePost (w : World) (R : List ItemD × Nat × Int) (e : Ending) (w' : World) : Prop :=
  Below w.heap.size w w' ∧ ((R.2.2 = 0 ∧ ∃ A c S, e = .returned (.tuple #[.slice A S.length c, .int .i64 0, .int .i64 0]) ∧ ItemsOwn w' w.heap.size A c S ∧ (∀ s ∈ S, AttrsOwn w' w.heap.size s.2.1 s.2.2 s.1.attrs) ∧ S.map (·.1) = R.1)
    ∨ (R.2.2 ≠ 0 ∧ e = .returned (.tuple #[.slice none 0 0, .int .i64 R.2.1, .int .i64 R.2.2])))

theorem takeT_small {items : List ItemD} {o : List (List UInt8)} {t : TokD} {q : List ItemD × List (List UInt8)} (h : takeT items o t = .inr q) : q.1.length ≤ items.length + 1 ∧ q.2.length ≤ o.length + 1 := by
  unfold takeT at h
  split at h
  · split at h
    · injection h with h; subst h; simp; omega
    · cases h
  · split at h
    · cases h
    · injection h with h; subst h
      refine ⟨by simp, ?_⟩
      simp only
      split
      · simp
      · omega
theorem takeT_ne {items : List ItemD} {o : List (List UInt8)} {t : TokD} {e : Int} (h : takeT items o t = .inl e) : e ≠ 0 := by
  unfold takeT at h
  split at h
  · split at h
    · cases h
    · injection h with h; omega
  · split at h
    · rename_i hn; injection h with h; rw [← h]; exact hn
    · cases h
theorem tok_kinds {l : List UInt8} {t : TokD} {n : Nat} (h : oneT l = .ok t n) : t.kind = 1 ∨ t.kind = 2 ∨ t.kind = 3 ∨ t.kind = 4 := by
  rcases oneT_fine h with ⟨hk, _⟩ | ⟨hk, _⟩ | ⟨hk, _⟩
  · exact .inr (.inr (.inr hk))
  · exact .inr (.inl hk)
  · rcases hk with hk | hk
    · exact .inl hk
    · exact .inr (.inr (.inl hk))
theorem parseF_form : ∀ (f : Nat) (p : Nat) (l : List UInt8) (items : List ItemD) (o : List (List UInt8)), (parseF f p l items o).2.2 ≠ 0 → (parseF f p l items o).1 = []
  | 0, p, l, items, o, h => by
    rw [parseF] at h ⊢
    unfold endP at h ⊢
    split
    · rfl
    · rename_i hi; rw [if_neg hi] at h
      split
      · rfl
      · rename_i ho; rw [if_neg ho] at h; exact absurd rfl h
  | f + 1, p, l, items, o, h => by
    rw [parseF] at h ⊢
    split
    · rename_i hl
      rw [if_pos hl] at h
      unfold endP at h ⊢
      split
      · rfl
      · rename_i hi; rw [if_neg hi] at h
        split
        · rfl
        · rename_i ho; rw [if_neg ho] at h; exact absurd rfl h
    · rename_i hl
      rw [if_neg hl] at h
      cases ho : oneT l with
      | bad k e => rfl
      | ok t n =>
        rw [ho] at h
        simp only at h ⊢
        cases ht : takeT items o t with
        | inl e => rfl
        | inr q =>
          rw [ht] at h
          exact parseF_form f _ _ _ _ h

set_option maxRecDepth 100000 in
set_option maxHeartbeats 4000000 in
theorem Parse_any (s : ByteArray) (w : World) (hs : s.size ≤ 100000000) (R : List ItemD × Nat × Int) (hR : Hid (parseL 0 s.data.toList [] [] = R)) :
    Calls Try.prog 24 #[.string s] w (ParsePost w R) := by
  have HL := Lib.hid (size_toList s)
  have hR0 : Hid (parseL 0 (s.data.toList.drop 0) [] [] = R) := by show _ = _; rw [List.drop_zero]; exact hR.out
  go_enter Try.func24, Try.ntmps24
  go_wp2_with fail
  obtain ⟨b, hbq⟩ : ∃ b, Hid (b = w.heap.size) := ⟨_, rfl⟩
  obtain ⟨W0, hW0⟩ : ∃ W0, Hid (W0 = w.alloc (.cells #[.slice none 0 0, .slice none 0 0] 71)) := ⟨_, rfl⟩
  rw [← hW0.out]
  rw [← hbq.out]
  have hP0 : PInv W0 w.heap.size b [] [] := by
    refine ⟨[], none, 0, none, 0, ?_, World.ownsRow_nil _ _ _ _, fun _ h => absurd h List.not_mem_nil, .inl ⟨rfl, rfl, rfl⟩, rfl⟩
    show W0.heap[b]? = _
    rw [hW0.out, hbq.out]
    exact heap_alloc_new w _
  have hb0 : Below w.heap.size w W0 := by rw [hW0.out]; exact (Below.refl _ w).alloc (Nat.le_refl _) _
  have hBb : w.heap.size ≤ b := by rw [hbq.out]; exact Nat.le_refl _
  go_loopw [6] (fun i wr => ∃ (p : Nat) (items : List ItemD) (o : List (List UInt8)), p ≤ s.size ∧ items.length ≤ p ∧ o.length ≤ p ∧ i = .int .i64 p ∧ Hid (PInv wr w.heap.size b items o) ∧ Hid (Below w.heap.size w wr) ∧ Hid (parseL p (s.data.toList.drop p) items o = R)) (fun i _ => s.size - (intOf i).toNat)
  case atStart => exact ⟨0, [], [], Nat.zero_le _, Nat.zero_le _, Nat.zero_le _, rfl, hP0, hb0, hR0.out⟩
  case round =>
    obtain ⟨p, items, o, hps, hip, hop, rfl, hP, hbel, hin⟩ := hrel
    by_cases hlt : p < s.size
    · have hlt' : (p : Int) < s.size := by omega
      have hne : Hid (s.data.toList.drop p ≠ []) := by
        show _ ≠ _
        intro e
        have := congrArg List.length e
        rw [List.length_drop, HL.out] at this
        simp at this; omega
      obtain ⟨V, hV⟩ : ∃ V, Hid (oneT (s.data.toList.drop p) = V) := ⟨_, rfl⟩
      have hwit := oneT_within _ hne.out
      rw [hV.out, List.length_drop, HL.out] at hwit
      have hs' : s.size ≤ 1000000000 := by omega
      go_wp2_with fail
      refine (One_any s p wr hlt hs' V hV).mono ?_
      rintro e1 w2 ⟨hb2, hpost⟩
      have hbw2 : Below w.heap.size w w2 := hbel.out.trans (hb2.mono hbel.out.size)
      cases V with
      | bad k e =>
        have he : e ≠ 0 := hwit.2
        have he1 : (e != 0) = true := by simpa using he
        have HE := Lib.hid he
        have HR : Hid (R = ([], p + k, e)) := by
          show _ = _
          rw [← hin.out, parseL_bad _ _ _ _ hne.out k e hV.out]
        have hee : e1 = .returned (.tuple #[.agg #[.int .i64 0, .int .i64 0, .string ⟨#[]⟩, .string ⟨#[]⟩, .slice none 0 0], .int .i64 0, .int .i64 (p + k : Nat), .int .i64 e]) := hpost
        clear he hwit hpost
        subst hee
        go_wp2_with fail
        go_ret3
        rw [HR.out]
        exact ⟨hbw2.alloc hbw2.size _, .inr ⟨HE.out, rfl⟩⟩
      | ok t n =>
        obtain ⟨A2, c2, hee0, hA2'⟩ := hpost
        have hA2 := Lib.hid hA2'
        clear hA2'
        have hee : e1 = .returned (.tuple #[.agg #[.int .i64 t.kind, .int .i64 p, .string ⟨t.name.toArray⟩, .string ⟨t.text.toArray⟩, .slice A2 t.attrs.length c2], .int .i64 (p + n : Nat), .int .i64 0, .int .i64 0]) := hee0
        clear hee0
        subst hee
        obtain ⟨hn1, hn2⟩ := hwit
        have hkk := tok_kinds hV.out
        obtain ⟨W2, hW2⟩ : ∃ W2, Hid (W2 = w2.alloc (.cells #[.int .i64 t.kind, .int .i64 p, .string ⟨t.name.toArray⟩, .string ⟨t.text.toArray⟩, .slice A2 t.attrs.length c2] 34)) := ⟨_, rfl⟩
        have hb2' : Below wr.heap.size wr W2 := by rw [hW2.out]; exact hb2.alloc hb2.size _
        have hbw : Below w.heap.size w W2 := hbel.out.trans (hb2'.mono hbel.out.size)
        have HP2 := Lib.hid (PInv.below hP.out hb2')
        have HA2 : Hid (AttrsOwn W2 w.heap.size A2 c2 t.attrs) := by
          show AttrsOwn _ _ _ _ _
          rw [hW2.out]
          exact row_base (World.ownsRow.alloc hA2.out _) hbel.out.size
        obtain ⟨q, hq⟩ : ∃ q, Hid (takeT items o t = q) := ⟨_, rfl⟩
        have HK := Lib.hid hkk
        clear hkk
        go_wp2_with fail
        rw [← hW2.out]
        refine (take_any b w.heap.size items o W2 HP2.out hBb hbw.size (by omega) (by omega) t p A2 c2 HA2.out HK.out q hq).mono ?_
        rintro e w3 ⟨hb3, hpost3⟩
        cases q with
        | inl e' =>
          obtain rfl := hpost3
          have HE : Hid (e' ≠ 0) := takeT_ne hq.out
          have he1 : (e' != 0) = true := by simpa using HE.out
          have HR : Hid (R = ([], p, e')) := by
            show _ = _
            rw [← hin.out, parseL_no _ _ _ _ hne.out t n hV.out e' hq.out]
          go_wp2_with fail
          go_ret3
          rw [HR.out]
          exact ⟨hbw.trans hb3, .inr ⟨HE.out, rfl⟩⟩
        | inr q =>
          obtain ⟨rfl, hP3⟩ := hpost3
          obtain ⟨hq1, hq2⟩ := takeT_small hq.out
          have HIN : Hid (parseL (p + n) (s.data.toList.drop (p + n)) q.1 q.2 = R) := by
            show _ = _
            rw [← hin.out, parseL_step _ _ _ _ hne.out t n hV.out q hq.out, List.drop_drop]
          have HP3 := Lib.hid hP3
          clear hP3
          go_wp2_with fail
          go_roundw
          case rel => exact ⟨p + n, q.1, q.2, by omega, by omega, by omega, by go_num, HP3.out, hbw.trans hb3, HIN.out⟩
          case measure => simp [intOf]; omega
    · have hlt' : (s.size : Int) ≤ (p : Int) := by omega
      have hpe : Hid (p = s.size) := by show p = s.size; omega
      have HR : Hid (R = endP items o s.size) := by
        show _ = _
        rw [← hin.out, List.drop_eq_nil_of_le (by rw [HL.out]; omega), parseL_nil, hpe.out]
      obtain ⟨S, IA, Ic, OA, Oc, h1, h2, h3, h4, h5⟩ := hP.out.out
      obtain ⟨z0, z1, _⟩ := h1.cells
      have hlen : Hid (S.length = items.length) := by show _ = _; rw [← h5, List.length_map]
      have H2 := Lib.hid h2
      have H3 : Hid (∀ s ∈ S, AttrsOwn wr w.heap.size s.2.1 s.2.2 s.1.attrs) := h3
      have H5 := Lib.hid h5
      clear h1 h2 h3 h4 h5
      by_cases hi0 : items = []
      · have hv : Hid (R = ([], s.size, 40)) := by show _ = _; rw [HR.out]; unfold endP; rw [if_pos hi0]
        have t0 : ((S.length : Int) == 0) = true := by have := hlen.out; rw [hi0] at this; simp [this]
        clear hi0
        go_wp2_with fail
        go_ret3
        rw [hv.out]
        exact ⟨hbel.out, .inr ⟨by simp, rfl⟩⟩
      · have hpos : 0 < items.length := List.length_pos_iff.2 hi0
        have t0 : ((S.length : Int) == 0) = false := beq_eq_false_iff_ne.2 (by have := hlen.out; omega)
        by_cases ho0 : o = []
        · have hv : Hid (R = (items, 0, 0)) := by show _ = _; rw [HR.out]; unfold endP; rw [if_neg hi0, if_neg (fun h => h ho0)]
          have t1 : o.length ≤ 0 := by rw [ho0]; simp
          clear hi0 ho0
          go_wp2_with fail
          all_goals try (exfalso; omega)
          go_ret3
          rw [hv.out]
          exact ⟨hbel.out, .inl ⟨rfl, IA, Ic, S, rfl, H2.out, H3.out, H5.out⟩⟩
        · have hv : Hid (R = ([], s.size, 41)) := by show _ = _; rw [HR.out]; unfold endP; rw [if_neg hi0, if_pos ho0]
          have t1 : 0 < o.length := List.length_pos_iff.2 ho0
          clear hi0 ho0
          go_wp2_with fail
          all_goals try (exfalso; omega)
          go_ret3
          rw [hv.out]
          exact ⟨hbel.out, .inr ⟨by simp, rfl⟩⟩
end Go.Proofs.Ythifddkmbjnncaa

/-
  The walk of law04.alive.
-/
namespace Go.Proofs.Ythifddkmbjnncaa
open Go.RowKit

def aliveI : List ItemD := [⟨0, 1, [97], [], []⟩, ⟨1, 2, [], [120], []⟩, ⟨1, 1, [98], [], []⟩]
theorem alive_parse : parseL 0 [60, 97, 62, 120, 60, 98, 47, 62, 60, 47, 97, 62] [] [] = (aliveI, 0, 0) := by decide +kernel
theorem alive_parse2 : parseL 0 [60, 97, 62, 60, 47, 98, 62] [] [] = ([], 3, 41) := by decide +kernel
theorem three_of {α : Type} : ∀ {l : List α}, l.length = 3 → ∃ a b c, l = [a, b, c]
  | [a, b, c], _ => ⟨a, b, c, rfl⟩

theorem ItemsOwn.cells {w : World} {B : Nat} {A : Option Addr} {c : Nat} {S : List Slot} (h : ItemsOwn w B A c S) (hl : 0 < S.length) :
    ∃ g, A = some ⟨g, 0, none⟩ ∧ B ≤ g ∧ g < w.heap.size ∧ ∀ k x j u, S[k]? = some x → (cellsI x)[j]? = some u → w.cell? ⟨g, k * 5 + j, none⟩ = some u := by
  obtain ⟨g, rfl, hB, hg, _, hc⟩ := own_flat cellsI cellsI_length h hl
  refine ⟨g, rfl, hB, hg, fun k x j u hx hu => ?_⟩
  have := hc k x j u hx hu
  rwa [add_zero_block] at this

set_option maxRecDepth 100000 in
set_option maxHeartbeats 2000000 in
theorem alive4_any (w : World) : Calls Try.prog 23 #[] w (Ret w (.bool true)) := by
  have HP : Hid (parseL 0 (⟨#[60, 97, 62, 120, 60, 98, 47, 62, 60, 47, 97, 62]⟩ : ByteArray).data.toList [] [] = (aliveI, 0, 0)) := alive_parse
  have HP2 : Hid (parseL 0 (⟨#[60, 97, 62, 60, 47, 98, 62]⟩ : ByteArray).data.toList [] [] = ([], 3, 41)) := alive_parse2
  go_enter Try.func23, Try.ntmps23
  go_wp2_with fail
  refine (Parse_any _ w (by decide) _ HP).mono ?_
  rintro e w1 ⟨hb1, hpost⟩
  rcases hpost with ⟨_, A, c, S, hee, hown, hat, hS⟩ | ⟨h, _⟩
  · have hlen : S.length = 3 := by have := congrArg List.length hS; simpa [aliveI] using this
    obtain ⟨x0, x1, x2, rfl⟩ := three_of hlen
    obtain ⟨x0, A0, c0⟩ := x0
    obtain ⟨x1, A1, c1⟩ := x1
    obtain ⟨x2, A2, c2⟩ := x2
    simp only [List.map_cons, List.map_nil, aliveI, List.cons.injEq, and_true] at hS
    obtain ⟨rfl, rfl, rfl⟩ := hS
    obtain ⟨g, rfl, hBg, hg, hc⟩ := hown.cells (by simp)
    have y8 : w1.cell? ⟨g, 8, none⟩ = some (.string ⟨#[120]⟩) := hc 1 _ 3 _ rfl rfl
    have y10 : w1.cell? ⟨g, 10, none⟩ = some (.int .i64 1) := hc 2 _ 0 _ rfl rfl
    have y12 : w1.cell? ⟨g, 12, none⟩ = some (.string ⟨#[98]⟩) := hc 2 _ 2 _ rfl rfl
    have hee' : e = .returned (.tuple #[.slice (some ⟨g, 0, none⟩) 3 c, .int .i64 0, .int .i64 0]) := hee
    clear hee hown hat hc
    subst hee'
    go_wp2_with fail
    refine (Parse_any _ w1 (by decide) _ HP2).mono ?_
    rintro e w2 ⟨hb2, hpost⟩
    rcases hpost with ⟨h, _⟩ | ⟨_, hee⟩
    · exact absurd h (by decide)
    · have hee' : e = .returned (.tuple #[.slice none 0 0, .int .i64 3, .int .i64 41]) := hee
      clear hee
      subst hee'
      rw [← hb2.cell (p := ⟨g, 8, none⟩) hg] at y8
      rw [← hb2.cell (p := ⟨g, 10, none⟩) hg] at y10
      rw [← hb2.cell (p := ⟨g, 12, none⟩) hg] at y12
      go_wp2_with fail
      go_ret
      exact ⟨rfl, hb1.trans (hb2.mono hb1.size)⟩
  · exact absurd rfl h
end Go.Proofs.Ythifddkmbjnncaa

/-
  The plain law of sizes: what is told of tokens, and what is read, is no longer than what it was told of. No program in sight.
-/
namespace Go.Proofs.Ythifddkmbjnncaa

def AttrSm (N : Nat) (a : AttrD) : Prop := a.name.length ≤ N ∧ a.value.length ≤ 1500
theorem attrL_sm {l : List UInt8} {bs : List AttrD} {a : AttrD} {n : Nat} (h : attrL l bs = .ok a n) : AttrSm l.length a := by
  have hw := wordL_len l
  unfold attrL at h
  simp only at h
  split at h
  · cases h
  split at h
  · cases h
  split at h
  · cases h
  split at h
  · cases h
  split at h
  · cases h
  unfold valueT at h
  simp only at h
  split at h
  · cases h
  split at h
  · cases h
  split at h
  · cases h
  · rename_i h5
    injection h with h _
    subst h
    exact ⟨hw, by simpa using h5⟩
theorem attrsF_sm (N : Nat) : ∀ (f : Nat) (l : List UInt8) (bs : List AttrD) (q : Int × List AttrD) (n : Nat), l.length ≤ N → (∀ b ∈ bs, AttrSm N b) → attrsF f l bs = .ok q n → ∀ b ∈ q.2, AttrSm N b
  | 0, _, _, _, _, _, _, h => by cases h
  | f + 1, l, bs, q, n, hl, hb, h => by
    rw [attrsF] at h
    split at h
    · injection h with h _; subst h; exact hb
    split at h
    · injection h with h _; subst h; exact hb
    split at h
    · cases h
    cases ha : attrL (l.drop (skipL l)) bs with
    | bad k e => rw [ha] at h; cases h
    | ok a m =>
      rw [ha] at h
      simp only at h
      have hs := attrL_sm ha
      rw [List.length_drop] at hs
      cases hq : attrsF f ((l.drop (skipL l)).drop m) (bs ++ [a]) with
      | bad k e => rw [hq] at h; cases h
      | ok r k =>
        rw [hq] at h
        injection h with h _
        subst h
        refine attrsF_sm N f _ _ _ _ (by simp only [List.length_drop]; omega) (fun b hb' => ?_) hq
        rcases List.mem_append.1 hb' with hb' | hb'
        · exact hb b hb'
        · simp at hb'; subst hb'; exact ⟨by have := hs.1; omega, hs.2⟩

/-- no part of a token is longer than what it was told of -/
structure TokSm (N : Nat) (t : TokD) : Prop where
  name : t.name.length ≤ N
  text : t.text.length ≤ 1500
  many : t.attrs.length ≤ 20
  attrs : ∀ a ∈ t.attrs, AttrSm N a
theorem tok_sm {l : List UInt8} {t : TokD} {n : Nat} (h : oneT l = .ok t n) : TokSm l.length t := by
  have hm := (tok_parts h).2.2.2.1
  unfold oneT at h
  split at h
  · cases he : endT (l.drop 2) with
    | bad k e => rw [he] at h; cases h
    | ok u k =>
      rw [he] at h
      injection h with h _
      subst h
      have hw := wordL_len (l.drop 2)
      rw [List.length_drop] at hw
      unfold endT at he
      simp only at he
      split at he
      · cases he
      split at he
      · injection he with he _
        subst he
        exact ⟨by show (wordL (l.drop 2)).length ≤ _; omega, by simp, by simp, fun a h => by cases h⟩
      · cases he
  · split at h
    · cases he : beginT (l.drop 1) with
      | bad k e => rw [he] at h; cases h
      | ok u k =>
        rw [he] at h
        injection h with h _
        subst h
        have hw := wordL_len (l.drop 1)
        rw [List.length_drop] at hw
        unfold beginT at he
        simp only at he
        split at he
        · cases he
        cases ha : attrsF ((l.drop 1).length + 1) ((l.drop 1).drop (wordL (l.drop 1)).length) [] with
        | bad k e => rw [ha] at he; cases he
        | ok q m =>
          rw [ha] at he
          injection he with he _
          subst he
          have hs := attrsF_sm l.length _ _ _ _ _ (by simp only [List.length_drop]; omega) (fun _ h => by cases h) ha
          exact ⟨by show (wordL (l.drop 1)).length ≤ _; omega, by simp, hm, fun a h => hs a ((sortA_perm q.2).mem_iff.1 h)⟩
    · unfold textT at h
      simp only at h
      split at h
      · cases h
      split at h
      · cases h
      · rename_i h5
        injection h with h _
        subst h
        exact ⟨by simp, by simpa using h5, by simp, fun a h => by cases h⟩

structure ItemSm (N : Nat) (x : ItemD) : Prop where
  name : x.name.length ≤ N
  text : x.text.length ≤ 1500
  many : x.attrs.length ≤ 20
  attrs : ∀ a ∈ x.attrs, AttrSm N a
  level : 0 ≤ x.level ∧ x.level < 40
theorem AttrSm.more {N M : Nat} {a : AttrD} (h : AttrSm N a) (hm : N ≤ M) : AttrSm M a := ⟨Nat.le_trans h.1 hm, h.2⟩
theorem takeT_sm {N : Nat} {items : List ItemD} {o : List (List UInt8)} {t : TokD} {q : List ItemD × List (List UInt8)} (hi : ∀ x ∈ items, ItemSm N x) (ht : TokSm N t) (h : takeT items o t = .inr q) : ∀ x ∈ q.1, ItemSm N x := by
  unfold takeT at h
  split at h
  · split at h
    · injection h with h; subst h; exact hi
    · cases h
  · split at h
    · cases h
    · rename_i he
      injection h with h; subst h
      intro x hx
      rcases List.mem_append.1 hx with hx | hx
      · exact hi x hx
      · simp at hx; subst hx
        have hd : o.length < 40 := by
          have he' : addE items o t.kind = 0 := by simpa using he
          unfold addE at he'
          split at he'
          · omega
          split at he'
          · omega
          · omega
        unfold itemOf
        split
        · exact ⟨by simp, ht.text, by simp, (fun a h => by cases h), ⟨by simp, by simp; omega⟩⟩
        · exact ⟨ht.name, by simp, ht.many, ht.attrs, ⟨by simp, by simp; omega⟩⟩
theorem parseF_sm (N : Nat) : ∀ (f : Nat) (p : Nat) (l : List UInt8) (items : List ItemD) (o : List (List UInt8)), l.length ≤ N → (∀ x ∈ items, ItemSm N x) → ∀ x ∈ (parseF f p l items o).1, ItemSm N x
  | 0, p, l, items, o, _, hi => by
    rw [parseF]; unfold endP
    split
    · intro x h; cases h
    split
    · intro x h; cases h
    · exact hi
  | f + 1, p, l, items, o, hl, hi => by
    rw [parseF]
    split
    · unfold endP
      split
      · intro x h; cases h
      split
      · intro x h; cases h
      · exact hi
    · cases ho : oneT l with
      | bad k e => intro x h; cases h
      | ok t n =>
        simp only
        cases ht : takeT items o t with
        | inl e => intro x h; cases h
        | inr q =>
          simp only
          have hts := tok_sm ho
          exact parseF_sm N f _ _ _ _ (by rw [List.length_drop]; omega) (takeT_sm hi ⟨Nat.le_trans hts.name hl, hts.text, hts.many, fun a h => (hts.attrs a h).more hl⟩ ht)
theorem parse_sm {p : Nat} {l : List UInt8} : ∀ x ∈ (parseL p l [] []).1, ItemSm l.length x := parseF_sm l.length _ p l [] [] (Nat.le_refl _) (fun _ h => by cases h)
end Go.Proofs.Ythifddkmbjnncaa

/-
  The walk of parse.parts.
-/
namespace Go.Proofs.Ythifddkmbjnncaa
open Go.RowKit

set_option maxRecDepth 100000 in
set_option maxHeartbeats 2000000 in
theorem parts_any (x : ItemD) (A : Option Addr) (c : Nat) (w : World) (hA : AttrsAt w w.heap.size A x.attrs) (hs : SmallItem x) (V : Int) (hV : Hid (partsE x = V)) :
    Calls Try.prog 51 #[.agg (itemVal x A c)] w (Ret w (.int .i64 V)) := by
  have HSM := Lib.hid hs
  obtain ⟨hs1, hs2, hs3, hs4, hs5⟩ := hs
  have HS4 := Lib.hid hs4
  have HA := Lib.hid hA
  clear hs4 hA hs5
  have hV' := hV.out
  unfold partsE at hV'
  clear hV
  by_cases h1 : x.kind = 2 ∧ x.name = [] ∧ x.attrs = []
  · rw [if_pos h1] at hV'
    obtain ⟨k1, k2, k3⟩ := h1
    have HV := Lib.hid hV'
    have e1 : (x.kind == 2) = true := by rw [k1]; rfl
    have e2 : (x.name == []) = true := by rw [k2]; rfl
    have e3 : x.attrs.length = 0 := by rw [k3]; rfl
    unfold itemVal strV
    rw [k2, e3, k1]
    clear k1 k2 k3 e1 e2 e3 hV'
    go_enter Try.func51, Try.ntmps51
    go_wp2_with fail
    refine (chars_l _ _ hs2 _ HV).mono ?_; rintro e w2 ⟨rfl, hb2⟩
    go_wp2_with fail
    go_ret
    exact ⟨rfl, ((Below.refl _ w).alloc (Nat.le_refl _) _).trans (hb2.mono (by simp))⟩
  · rw [if_neg h1] at hV'
    by_cases h2 : x.kind ≠ 1 ∨ x.text ≠ []
    · rw [if_pos h2] at hV'
      have hv : Hid (V = 68) := hV'.symm
      clear hV'
      by_cases k2 : x.kind = 2
      · have e1 : (x.kind == 2) = true := by simp [k2]
        have e4 : (x.kind != 1) = true := by simp [k2]
        by_cases k3 : x.name = []
        · have e2 : (x.name == []) = true := by simp [k3]
          have e3 : ((x.attrs.length : Int) == 0) = false := by
            have : x.attrs ≠ [] := fun h => h1 ⟨k2, k3, h⟩
            have : x.attrs.length ≠ 0 := fun h => this (List.eq_nil_of_length_eq_zero h)
            simp; omega
          clear h1 h2 k2 k3
          unfold itemVal strV
          go_enter Try.func51, Try.ntmps51
          go_wp2_with fail
          go_ret
          exact ⟨by rw [hv.out]; rfl, (Below.refl _ w).alloc (Nat.le_refl _) _⟩
        · have e2 : (x.name == []) = false := by simp [k3]
          clear h1 h2 k2 k3
          unfold itemVal strV
          go_enter Try.func51, Try.ntmps51
          go_wp2_with fail
          go_ret
          exact ⟨by rw [hv.out]; rfl, (Below.refl _ w).alloc (Nat.le_refl _) _⟩
      · have e1 : (x.kind == 2) = false := by simp [k2]
        by_cases k3 : x.kind = 1
        · have e4 : (x.kind != 1) = false := by simp [k3]
          have e5 : (x.text == []) = false := by
            have : x.text ≠ [] := h2.resolve_left (fun h => h k3)
            simp [this]
          clear h1 h2 k2 k3
          unfold itemVal strV
          go_enter Try.func51, Try.ntmps51
          go_wp2_with fail
          go_ret
          exact ⟨by rw [hv.out]; rfl, (Below.refl _ w).alloc (Nat.le_refl _) _⟩
        · have e4 : (x.kind != 1) = true := by simp [k3]
          clear h1 h2 k2 k3
          unfold itemVal strV
          go_enter Try.func51, Try.ntmps51
          go_wp2_with fail
          go_ret
          exact ⟨by rw [hv.out]; rfl, (Below.refl _ w).alloc (Nat.le_refl _) _⟩
    · rw [if_neg h2] at hV'
      have k1 : x.kind = 1 := Decidable.of_not_not fun h => h2 (.inl h)
      have k5 : x.text = [] := Decidable.of_not_not fun h => h2 (.inr h)
      have e1 : (x.kind == 2) = false := by simp [k1]
      have e4 : (x.kind != 1) = false := by simp [k1]
      have e5 : (x.text == []) = true := by simp [k5]
      clear h1 h2 k1 k5
      obtain ⟨E, hE⟩ : ∃ E, Hid (namesE x = E) := ⟨_, rfl⟩
      rw [hE.out] at hV'
      have HV := Lib.hid hV'
      clear hV'
      have HN : ∀ w1 : World, Below w.heap.size w w1 → Calls Try.prog 83 #[.agg (itemVal x A c)] w1 (Ret w1 (.int .i64 E)) :=
        fun w1 hb => names_any x A c w1 ((HA.out.below hb).more hb.size) HSM.out E hE
      have HNH := Lib.hid HN
      clear HN
      unfold itemVal strV at *
      go_enter Try.func51, Try.ntmps51
      go_wp2_with fail
      obtain ⟨w1, hw1⟩ : ∃ w1, Hid (w1 = w.alloc (.cells #[.int .i64 x.level, .int .i64 x.kind, .string ⟨x.name.toArray⟩, .string ⟨x.text.toArray⟩, .slice A x.attrs.length c] 50)) := ⟨_, rfl⟩
      have hbw1 : Below w.heap.size w w1 := by rw [hw1.out]; exact (Below.refl _ w).alloc (Nat.le_refl _) _
      have hz1 : w.heap.size < w1.heap.size := by rw [hw1.out]; simp
      have hcell1 : Hid (w1.cell? ⟨w.heap.size, 4, none⟩ = some (.slice A x.attrs.length c)) := by
        show _ = _
        rw [hw1.out, World.cell?_alloc_at _ _ _ _ (by simp)]; rfl
      rw [← hw1.out]
      refine (HNH.out w1 hbw1).mono ?_; rintro e w2 ⟨rfl, hb2⟩
      have hz2 := hb2.size
      have hc4 : w2.cell? ⟨w.heap.size, 4, none⟩ = some (.slice A x.attrs.length c) := by
        rw [hb2.cell (p := ⟨w.heap.size, 4, none⟩) hz1]; exact hcell1.out
      go_wp2_with fail
      go_loopw [3, 38] (fun ev i wr => ∃ (k : Nat) (f : Int), k ≤ x.attrs.length ∧ i = .int .i64 k ∧ ev = .int .i64 f ∧ Hid ((if f = 0 then valuesE (x.attrs.drop k) else f) = V) ∧ Below w2.heap.size w2 wr) (fun _ i _ => x.attrs.length - (intOf i).toNat)
      case atStart => exact ⟨0, E, Nat.zero_le _, rfl, rfl, HV, Below.refl _ _⟩
      case round =>
        obtain ⟨k, f, hk, rfl, rfl, hin, hbel⟩ := hrel
        have hzr := hbel.size
        have hbwr : Below w.heap.size w wr := (hbw1.trans (hb2.mono (by omega))).trans (hbel.mono (by omega))
        by_cases hlt : k < x.attrs.length
        · obtain ⟨a, ha⟩ : ∃ a, Hid (x.attrs[k]? = some a) := ⟨x.attrs[k], List.getElem?_eq_getElem _⟩
          obtain ⟨ad, hAd, hbl, hcs⟩ := (HA.out.below hbwr) (by omega)
          obtain ⟨hc0, hc1⟩ := hcs k a ha.out
          unfold strV at hc0 hc1
          clear hcs
          have hin' := hin.out
          rw [drop_cons ha.out, valuesE] at hin'
          have hnm := (HS4.out k a ha.out).2
          subst hAd
          have hlt' : (k : Int) < x.attrs.length := by omega
          by_cases hf : f = 0
          · rw [if_pos hf] at hin'
            subst hf
            obtain ⟨q, hq⟩ : ∃ q, Hid (charsE a.value = q) := ⟨_, rfl⟩
            rw [hq.out] at hin'
            have hv : Hid ((if q = 0 then valuesE (x.attrs.drop (k + 1)) else q) = V) := hin'
            clear hin'
            go_wp2_with fail
            refine (chars_l _ _ hnm _ hq).mono ?_; rintro e w3 ⟨rfl, hb3⟩
            have hz3 := hb3.size
            simp only [World.size_alloc] at hz3
            go_wp2_with fail
            go_roundw
            case rel => exact ⟨k + 1, q, by omega, by go_num, rfl, hv, (hbel.alloc (by omega) _).trans (hb3.mono (by simp; omega))⟩
            case measure => simp [intOf]; omega
          · rw [if_neg hf] at hin'
            have hv : Hid ((if f = 0 then valuesE (x.attrs.drop (k + 1)) else f) = V) := by show _ = _; rw [if_neg hf]; exact hin'
            clear hin'
            have ef : (f == 0) = false := by simp [hf]
            clear hf
            go_wp2_with fail
            go_roundw
            case rel => exact ⟨k + 1, f, by omega, by go_num, rfl, hv, hbel.alloc (by omega) _⟩
            case measure => simp [intOf]; omega
        · have hk' : k = x.attrs.length := by omega
          have hv : Hid (V = f) := by
            show _ = _
            rw [← hin.out, List.drop_eq_nil_of_le (by omega)]
            simp only [valuesE]
            split <;> simp_all
          subst hk'
          go_wp2_with fail
          go_ret
          exact ⟨by rw [hv.out]; rfl, hbwr⟩
end Go.Proofs.Ythifddkmbjnncaa
