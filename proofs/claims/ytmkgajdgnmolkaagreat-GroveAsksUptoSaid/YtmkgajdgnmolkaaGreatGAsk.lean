/-
  Trees: any id is answered as the document says: plain.
-/
import Derived.Test.YtmkgajdgnmolkaaGreatH1
import Derived.Test.YtmkgajdgnmolkaaGreatGRKd
import Derived.Test.YtmkgajdgnmolkaaGreatH11
namespace Go.Proofs.YtmkgajdgnmolkaaGreat
open Go.RowKit Go.Shelf
variable {X : Nat → Prop}
theorem offs_row : ∀ (F : Fo) (lv : Int) (b n i : Nat), (offs b F)[n]? = some i → ∃ r, (F.flat lv)[i - b]? = some r ∧ b ≤ i ∧ F.roots[n]? = some r.id
 | .nil, _, _, _, _, h => by simp [offs] at h
 | .cons id d ks r, lv, b, 0, i, h => by
  simp [offs] at h
  subst h
  exact ⟨⟨id, d.at lv⟩, by rw [Nat.sub_self]; rfl, Nat.le_refl _, rfl⟩
 | .cons id d ks r, lv, b, n + 1, i, h => by
  simp only [offs, List.getElem?_cons_succ] at h
  obtain ⟨z, h1, h2, h3⟩ := offs_row r lv (b + 1 + ks.cnt) n i h
  refine ⟨z, ?_, by omega, by simpa [Fo.roots] using h3⟩
  rw [Fo.flat, show i - b = (ks.cnt + (i - (b + 1 + ks.cnt))) + 1 by omega, List.getElem?_cons_succ, List.getElem?_append_right (by rw [Fo.flat_len]; omega), Fo.flat_len, Nat.add_sub_cancel_left]
  exact h1
def kidE (kids : List Int) (n : Int) : Int × Bool := if n < 0 then (0, false) else match kids[n.toNat]? with
 | none => (0, false)
 | some x => (x, true)
theorem kid_stand {f : Fo} {p lv : Int} {d : NodeD} {ks : Fo} {A B : List RowD} (hs : Stand f p lv d ks A B) (n : Int) : kidA (f.flat 0) p n = kidE ks.roots n := by
 unfold kidA kidE
 rw [hs.find]
 simp only
 rw [hs.kids]
 split
 ·rfl
 ·cases h : (offs (A.length + 1) ks)[n.toNat]? with
  | none =>
   have hl := List.getElem?_eq_none_iff.1 h
   rw [offs_len] at hl
   rw [List.getElem?_eq_none hl]
  | some i =>
   obtain ⟨r, h1, h2, h3⟩ := offs_row ks (lv + 1) (A.length + 1) n.toNat i h
   have hi : (f.flat 0)[i]? = some r := by
    have hlt : i - (A.length + 1) < (ks.flat (lv + 1)).length := (List.getElem?_eq_some_iff.1 h1).1
    rw [hs.flat, List.getElem?_append_right (by omega), show i - A.length = (i - (A.length + 1)) + 1 by omega, List.getElem?_cons_succ, List.getElem?_append_left hlt]
    exact h1
   simp only [hi, h3]
def NodeP (w : World) (i p k n : Int) (nm tx : List UInt8) (l : List AttrD) (b : Bool) (er : Ending) (w' : World) : Prop := ∃ A c, er = .returned (.tuple #[.agg (nodeV i p k n nm tx A l.length c), .bool b]) ∧ AttrsAt w' w'.heap.size A l ∧ Below w.heap.size w w'
def KidP (w : World) (a : Int × Bool) (er : Ending) (w' : World) : Prop := er = .returned (.tuple #[.int .i64 a.1, .bool a.2]) ∧ w = w'
theorem asks {t : Nat} {f : Fo} {next : Int} (hi : InvF f next) {id : Int} (hw : wfI id) (n : Int) : ∃ (ni np nk nn : Int) (nm tx : List UInt8) (al : List AttrD) (b : Bool) (a : Int × Bool), al.length ≤ 1000 ∧ kidA (f.flat 0) id n = a ∧
  (∀ (M : Nat → Prop) (w : World), TreeM M t f next w → Calls Tryz.prog 23 #[.pointer (some ⟨t, 0, none⟩), .int .i64 id] w (NodeP w ni np nk nn nm tx al b)) ∧
  (∀ (M : Nat → Prop) (w : World), TreeM M t f next w → Calls Tryz.prog 25 #[.pointer (some ⟨t, 0, none⟩), .int .i64 id, .int .i64 n] w (KidP w a)) ∧
  ∀ (X : Nat → Prop) (w : World) (A : Option Addr) (c : Nat) (nx : Int), TreeR X w A c (f.flat 0) → Calls Tryz.prog 24 #[.agg #[.slice A (f.flat 0).length c, .int .i64 nx], .int .i64 id] w (NodeP w ni np nk nn nm tx al b) := by
 cases he : f.ent 0 id with
 | none =>
  have hf := find_ent he
  refine ⟨0, 0, 0, 0, [], [], [], false, (0, false), by simp, by unfold kidA; rw [hf], fun M w h => ?_, fun M w h => ?_, fun X w A c nx h => ?_⟩
  ·refine (Get_out h hw he).mono ?_
   rintro e w' ⟨rfl, hb⟩
   exact ⟨none, 0, rfl, fun h => absurd h (by simp), hb⟩
  ·obtain ⟨_, _, h, _⟩ := h
   exact Kid_no h n hw he
  ·refine (RGet_no (f.flat 0) A c nx id w h hi.rows hf).mono ?_
   rintro e w' ⟨rfl, hb⟩
   exact ⟨none, 0, rfl, fun h => absurd h (by simp), hb⟩
 | some e =>
  obtain ⟨lv, ks, A0, B0, hs, hkr, hpar, _, _, _, _⟩ := hi.stand he
  refine ⟨id, e.par, e.d.kind, e.kids.length, e.d.name, e.d.text, e.d.attrs, true, kidE e.kids n, by have := hi.attrs _ _ he; omega, by rw [kid_stand hs, hkr], fun M w h => ?_, fun M w h => ?_, fun X w A c nx h => ?_⟩
  ·refine (Get_in h he).mono ?_
   rintro er w' ⟨A, c, rfl, ha, hb⟩
   exact ⟨A, c, rfl, AttrsOwn.at (World.ownsRow.mono ha (Nat.zero_le _)), hb⟩
  ·obtain ⟨_, _, h, _⟩ := h
   unfold kidE
   by_cases hn : n < 0
   ·rw [if_pos hn]
    exact Kid_out h n hw he (.inl hn)
   ·rw [if_neg hn]
    cases hx : e.kids[n.toNat]? with
    | none =>
     have := List.getElem?_eq_none_iff.1 hx
     exact Kid_out h n hw he (.inr (by omega))
    | some x =>
     have := Kid_yes h n.toNat x hw he hx
     rw [show ((n.toNat : Nat) : Int) = n by omega] at this
     exact this
  ·exact RGet_yes (f.flat 0) A c nx id w h hi.rows A0.length hs.find id (e.d.at lv) (Lib.hid hs.get) e.par (Lib.hid hpar) e.kids.length (Lib.hid (by rw [hs.kids_len, hkr]))
set_option maxRecDepth 100000 in
set_option maxHeartbeats 4000000 in
theorem same_any (ni np nk nn : Int) (nm tx : List UInt8) (al : List AttrD) (A B : Option Addr) (c d : Nat) (w : World) (hA : AttrsAt w w.heap.size A al) (hB : AttrsAt w w.heap.size B al) (hl : al.length ≤ 1000) :
  Calls Tryz.prog 27 #[.agg #[.int .i64 ni, .int .i64 np, .int .i64 nk, .int .i64 nn, .string ⟨nm.toArray⟩, .string ⟨tx.toArray⟩, .slice A al.length c], .agg #[.int .i64 ni, .int .i64 np, .int .i64 nk, .int .i64 nn, .string ⟨nm.toArray⟩, .string ⟨tx.toArray⟩, .slice B al.length d]] w (Ret w (.bool true)) := by
 obtain ⟨W2, hW2⟩ : ∃ W2, Hid (W2 = (w.alloc (.cells #[.int .i64 ni, .int .i64 np, .int .i64 nk, .int .i64 nn, .string ⟨nm.toArray⟩, .string ⟨tx.toArray⟩, .slice A al.length c] 50)).alloc (.cells #[.int .i64 ni, .int .i64 np, .int .i64 nk, .int .i64 nn, .string ⟨nm.toArray⟩, .string ⟨tx.toArray⟩, .slice B al.length d] 50)) := ⟨_, rfl⟩
 have hb2 : Below w.heap.size w W2 := by rw [hW2.out]; exact ((Below.refl _ w).alloc (Nat.le_refl _) _).alloc (by simp) _
 have hx2 : W2.heap[w.heap.size]? = some (.cells #[.int .i64 ni, .int .i64 np, .int .i64 nk, .int .i64 nn, .string ⟨nm.toArray⟩, .string ⟨tx.toArray⟩, .slice A al.length c] 50 (0, 0)) := by
  rw [hW2.out]
  exact (Below.heap_alloc _ _ _ (by simp)).trans (heap_alloc_new w _)
 have hy2 : W2.heap[w.heap.size + 1]? = some (.cells #[.int .i64 ni, .int .i64 np, .int .i64 nk, .int .i64 nn, .string ⟨nm.toArray⟩, .string ⟨tx.toArray⟩, .slice B al.length d] 50 (0, 0)) := by
  rw [hW2.out]
  have := heap_alloc_new (w.alloc (.cells #[.int .i64 ni, .int .i64 np, .int .i64 nk, .int .i64 nn, .string ⟨nm.toArray⟩, .string ⟨tx.toArray⟩, .slice A al.length c] 50)) (.cells #[.int .i64 ni, .int .i64 np, .int .i64 nk, .int .i64 nn, .string ⟨nm.toArray⟩, .string ⟨tx.toArray⟩, .slice B al.length d] 50)
  simpa using this
 have HA := Lib.hid ((hA.below hb2).more hb2.size)
 have HB := Lib.hid ((hB.below hb2).more hb2.size)
 have HB2 := Lib.hid hb2
 clear hA hB hb2
 go_enter Tryz.func27, Tryz.ntmps27
 go_upto_region 1 with (fail)
 rw [← hW2.out]
 have a0 := cell_row hx2 0 _ rfl
 have a1 := cell_row hx2 1 _ rfl
 have a2 := cell_row hx2 2 _ rfl
 have a3 := cell_row hx2 3 _ rfl
 have a4 := cell_row hx2 4 _ rfl
 have a5 := cell_row hx2 5 _ rfl
 have a6 := cell_row hx2 6 _ rfl
 have b0 := cell_row hy2 0 _ rfl
 have b1 := cell_row hy2 1 _ rfl
 have b2 := cell_row hy2 2 _ rfl
 have b3 := cell_row hy2 3 _ rfl
 have b4 := cell_row hy2 4 _ rfl
 have b5 := cell_row hy2 5 _ rfl
 have b6 := cell_row hy2 6 _ rfl
 clear hx2 hy2
 go_wp2_with fail
 refine (SameAttrs_any al al A B c d W2 HA.out HB.out (by omega) (by omega) true (by show _ = _; simp)).mono ?_
 rintro e w3 ⟨rfl, hb3⟩
 have HB3 : Hid (Below w.heap.size w w3) := HB2.out.trans (hb3.mono HB2.out.size)
 clear hb3 a0 a1 a2 a3 a4 a5 a6 b0 b1 b2 b3 b4 b5 b6
 go_wp2_with fail
 go_ret
 exact ⟨rfl, HB3.out⟩
end Go.Proofs.YtmkgajdgnmolkaaGreat
