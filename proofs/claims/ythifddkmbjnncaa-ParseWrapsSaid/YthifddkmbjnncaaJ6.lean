/-
  Texts of this claim, joined (by a program of the claim's author): Rd.
-/
import Derived.Test.YthifddkmbjnncaaJ1
import Derived.Test.YthifddkmbjnncaaJ5
import Derived.Test.YthifddkmbjnncaaJ2
import Derived.Test.YthifddkmbjnncaaJ4
import Derived.Lib.BufferOwn
import Derived.Deep.RegionHeld3
import Derived.StillTailTactics
/-
  The reader of tokens: its block; the walks of its small methods: fail, is, must, blanks, word, undone.
-/
namespace Go.Proofs.Ythifddkmbjnncaa
open Go.RowKit

structure Rdr where
  s : ByteArray
  pos : Nat
  kind : Int
  place : Int
  name : List UInt8
  text : List UInt8
  A : Option Addr
  n : Nat
  c : Nat
  bad : Int
  code : Int
def Rdr.cells (r : Rdr) : Array Value := #[.string r.s, .int .i64 r.pos, .int .i64 r.kind, .int .i64 r.place, .string ⟨r.name.toArray⟩, .string ⟨r.text.toArray⟩, .slice r.A r.n r.c, .int .i64 r.bad, .int .i64 r.code]
/-- a reader's block -/
def RdAt (w : World) (b : Nat) (r : Rdr) : Prop := w.heap[b]? = some (.cells r.cells 64 (0, 0))

theorem cell_of_row {w : World} {b : Nat} {cur : Array Value} {e : TypeId} (h : w.heap[b]? = some (.cells cur e (0, 0))) (j : Nat) : w.cell? ⟨b, j, none⟩ = cur[j]? := by
  simp [World.cell?, h]
theorem RdAt.all {w : World} {b : Nat} {r : Rdr} (h : RdAt w b r) :
    w.cell? ⟨b, 0, none⟩ = some (.string r.s) ∧ w.cell? ⟨b, 1, none⟩ = some (.int .i64 r.pos) ∧ w.cell? ⟨b, 2, none⟩ = some (.int .i64 r.kind) ∧ w.cell? ⟨b, 3, none⟩ = some (.int .i64 r.place) ∧ w.cell? ⟨b, 4, none⟩ = some (.string ⟨r.name.toArray⟩) ∧ w.cell? ⟨b, 5, none⟩ = some (.string ⟨r.text.toArray⟩) ∧ w.cell? ⟨b, 6, none⟩ = some (.slice r.A r.n r.c) ∧ w.cell? ⟨b, 7, none⟩ = some (.int .i64 r.bad) ∧ w.cell? ⟨b, 8, none⟩ = some (.int .i64 r.code) := by
  refine ⟨?_, ?_, ?_, ?_, ?_, ?_, ?_, ?_, ?_⟩ <;> (rw [cell_of_row h]; rfl)
theorem RdAt.froz {w : World} {b : Nat} {r : Rdr} (h : RdAt w b r) (j : Nat) : w.frozen? ⟨b, j, none⟩ = false := frozen_of_row w b j _ _ h
theorem RdAt.drew {w : World} {b : Nat} {r : Rdr} (h : RdAt w b r) : RdAt w.drew b r := h
theorem RdAt.lt {w : World} {b : Nat} {r : Rdr} (h : RdAt w b r) : b < w.heap.size := (Array.getElem?_eq_some_iff.1 h).1
theorem RdAt.grown {w w' : World} {b : Nat} {r : Rdr} (h : RdAt w b r) (hg : w.grownBy w' none) : RdAt w' b r := by
  unfold RdAt; rw [hg.block b h.lt (by simp)]; exact h
theorem RdAt.below {w w' : World} {b : Nat} {r : Rdr} (h : RdAt w b r) (hb : Below w.heap.size w w') : RdAt w' b r := h.grown (Lib.grownBy_below (World.grownBy.refl w none) hb)
section
variable {w : World} {b : Nat} {r : Rdr} (h : RdAt w b r)
include h
theorem RdAt.pos (p : Nat) : RdAt (w.setCell ⟨b, 1, none⟩ (.int .i64 p)) b { r with pos := p } := Lib.heap_setCell_same (i := 1) h _
theorem RdAt.kind (p : Int) : RdAt (w.setCell ⟨b, 2, none⟩ (.int .i64 p)) b { r with kind := p } := Lib.heap_setCell_same (i := 2) h _
theorem RdAt.name (p : List UInt8) : RdAt (w.setCell ⟨b, 4, none⟩ (.string ⟨p.toArray⟩)) b { r with name := p } := Lib.heap_setCell_same (i := 4) h _
theorem RdAt.text (p : List UInt8) : RdAt (w.setCell ⟨b, 5, none⟩ (.string ⟨p.toArray⟩)) b { r with text := p } := Lib.heap_setCell_same (i := 5) h _
theorem RdAt.attrs (A : Option Addr) (n c : Nat) : RdAt (w.setCell ⟨b, 6, none⟩ (.slice A n c)) b { r with A := A, n := n, c := c } := Lib.heap_setCell_same (i := 6) h _
theorem RdAt.bad (p : Int) : RdAt (w.setCell ⟨b, 7, none⟩ (.int .i64 p)) b { r with bad := p } := Lib.heap_setCell_same (i := 7) h _
theorem RdAt.code (p : Int) : RdAt (w.setCell ⟨b, 8, none⟩ (.int .i64 p)) b { r with code := p } := Lib.heap_setCell_same (i := 8) h _
end

/-- what a method leaves: its answer, the reader, all else as it was -/
def RdPost (w : World) (b : Nat) (r' : Rdr) (v : Value) (e : Ending) (w' : World) : Prop := e = .returned v ∧ RdAt w' b r' ∧ w.grownBy w' (some b)

set_option maxHeartbeats 1000000 in
theorem fail_any (b : Nat) (r : Rdr) (w : World) (h : RdAt w b r) (p e : Int) :
    Calls Try.prog 68 #[.pointer (some ⟨b, 0, none⟩), .int .i64 p, .int .i64 e] w (RdPost w b { r with bad := p, code := e } (.bool false)) := by
  have H := Lib.hid h
  obtain ⟨_, _, _, _, _, _, _, h7, h8⟩ := h.all
  have f7 := h.froz 7
  have f8 := h.froz 8
  clear h
  go_enter Try.func68, Try.ntmps68
  go_wp2_with fail
  go_ret
  exact ⟨rfl, (H.out.bad p).code e, Lib.grownBy_setB (Lib.grownBy_setCell w b 7 _) 8 _⟩

theorem grown_drew {w w' : World} {row : Option Nat} (h : w.grownBy w' row) : w.grownBy w'.drew row := ⟨h.os, h.tape, h.output, h.size, h.block⟩
theorem extract_from (s : ByteArray) (k : Nat) : (s.extract k s.size).data.toList = s.data.toList.drop k := Lib.extract_to_end s k


set_option maxRecDepth 100000 in
set_option maxHeartbeats 2000000 in
theorem is_any (b : Nat) (r : Rdr) (w : World) (h : RdAt w b r) (p : List UInt8) (hp : r.pos ≤ r.s.size) (hs : r.s.size ≤ 1000000000) (v : Bool) (hv : Hid (pre p (r.s.data.toList.drop r.pos) = v)) (hl : p.length ≤ 1000) :
    Calls Try.prog 41 #[.pointer (some ⟨b, 0, none⟩), .string ⟨p.toArray⟩] w (RdPost w b (if v then { r with pos := r.pos + p.length } else r) (.bool v)) := by
  have H := Lib.hid h
  have hb := h.lt
  have hc := Lib.hid h.all
  have hf := Lib.hid h.froz
  have hsz : (⟨p.toArray⟩ : ByteArray).size = p.length := by show p.toArray.size = _; simp
  have hx : Hid ((r.s.extract r.pos r.s.size).data.toList = r.s.data.toList.drop r.pos) := Lib.extract_to_end _ _
  have HS : Hid (w.drew.cell? ⟨b, 0, none⟩ = some (.string r.s) ∧ w.drew.cell? ⟨b, 1, none⟩ = some (.int .i64 r.pos)) := ⟨hc.out.1, hc.out.2.1⟩
  have i0 : (0 : Int) ≤ (r.pos : Int) := by omega
  have i1 : (r.pos : Int) ≤ r.s.size := by omega
  clear h
  cases v with
  | false =>
    go_enter Try.func41, Try.ntmps41
    go_wp2_with fail
    refine wp_region_held_drew (S := fun w' => w'.cell? ⟨b, 0, none⟩ = some (.string r.s) ∧ w'.cell? ⟨b, 1, none⟩ = some (.int .i64 r.pos)) (by kernel_rfl) HS.out (fun hHeld => ?_)
    refine tk (oi := ⟨_, _, _, _, _, _⟩) (v := ?_) 0 rfl (by kernel_rfl) (fun _ _ _ h => h) (.inl ⟨by rfl, ?_⟩) (by assumption) ?_; rotate_left
    · (intro wS hSw; (try dsimp only at hSw); go_simp); all_goals with_reducible rfl
    try go_frame
    refine tk (oi := ⟨_, _, _, _, _, _⟩) (v := ?_) 1 rfl (by kernel_rfl) (fun _ _ _ h => h) (.inl ⟨by rfl, ?_⟩) (by assumption) ?_; rotate_left
    · (intro wS hSw; (try dsimp only at hSw); go_simp); all_goals with_reducible rfl
    try go_frame
    refine tk (oi := ⟨_, _, _, _, _, _⟩) (v := ?_) 2 rfl (by kernel_rfl) (fun _ _ _ h => h) (.inl ⟨by rfl, ?_⟩) (by assumption) ?_; rotate_left
    · (intro wS hSw; (try dsimp only at hSw); go_simp); all_goals with_reducible rfl
    try go_frame
    refine tk (oi := ⟨_, _, _, _, _, _⟩) (v := ?_) 3 rfl (by kernel_rfl) (fun _ _ _ h => h) (.inl ⟨by rfl, ?_⟩) (by assumption) ?_; rotate_left
    · (intro wS hSw; (try dsimp only at hSw); go_simp); all_goals with_reducible rfl
    try go_frame
    refine tk (oi := ⟨_, _, _, _, _, _⟩) (v := ?_) 4 rfl (by kernel_rfl) (fun _ _ _ h => h) (.inl ⟨by rfl, ?_⟩) (by assumption) ?_; rotate_left
    · (intro wS hSw; (try dsimp only at hSw); go_simp); all_goals with_reducible rfl
    try go_frame
    refine tk (oi := ⟨_, _, _, _, _, _⟩) (v := ?_) 5 rfl (by kernel_rfl) (fun _ _ _ h => h) (.inl ⟨by rfl, ?_⟩) (by assumption) ?_; rotate_left
    · (intro wS hSw; (try dsimp only at hSw); go_simp); all_goals with_reducible rfl
    try go_frame
    refine tk (oi := ⟨_, _, _, _, _, _⟩) (v := ?_) 6 rfl (by kernel_rfl) (fun _ _ _ h => h) (.inl ⟨by rfl, ?_⟩) (by assumption) ?_; rotate_left
    · (intro wS hSw; (try dsimp only at hSw); go_simp); all_goals with_reducible rfl
    try go_frame
    refine tk (oi := ⟨_, _, _, _, _, _⟩) (v := ?_) 7 rfl (by kernel_rfl) (fun _ _ _ h => h) (.inl ⟨by rfl, ?_⟩) (by assumption) ?_; rotate_left
    · (intro wS hSw; (try dsimp only at hSw); go_simp); all_goals with_reducible rfl
    try go_frame
    refine tk (oi := ⟨_, _, _, _, _, _⟩) (v := ?_) 8 rfl (by kernel_rfl) (fun _ _ _ h => h) (.inl ⟨by rfl, ?_⟩) (by assumption) ?_; rotate_left
    · (intro wS hSw; (try dsimp only at hSw); go_simp); all_goals with_reducible rfl
    try go_frame
    refine tk (oi := ⟨_, _, _, _, _, _⟩) (v := ?_) 9 rfl (by kernel_rfl) (fun _ _ _ h => h) (.inl ⟨by rfl, ?_⟩) (by assumption) ?_; rotate_left
    · (intro wS hSw; (try dsimp only at hSw); go_simp); all_goals with_reducible rfl
    try go_frame
    refine wpAnyH_ready (rs := [10]) (by kernel_rfl) (by simp) ?_
    refine AllReadyH.cons (o := ⟨_, _, _, _, _, _⟩) rfl (fun K hK => ?_) AllReadyH.nil
    go_simp
    refine (hasPrefix_pre _ p _).mono ?_
    rw [hx.out, hv.out]
    rintro e w2 ⟨rfl, rfl⟩
    go_wp2_with fail
    refine hK.out _ _ (HS.out) (fun hHeld => ?_)
    clear hK K
    try go_frame
    refine tk (oi := ⟨_, _, _, _, _, _⟩) (v := ?_) 11 rfl (by kernel_rfl) (fun _ _ _ h => h) (.inl ⟨by rfl, ?_⟩) (by assumption) ?_; rotate_left
    · (intro wS hSw; (try dsimp only at hSw); go_simp); all_goals with_reducible rfl
    try go_frame
    refine wpAnyH_done (by kernel_rfl) ?_ _
    clear hHeld
    go_wp2_with fail
    go_ret
    exact ⟨rfl, H.out, grown_drew (World.grownBy.refl w _)⟩
  | true =>
    go_enter Try.func41, Try.ntmps41
    go_wp2_with fail
    refine wp_region_held_drew (S := fun w' => w'.cell? ⟨b, 0, none⟩ = some (.string r.s) ∧ w'.cell? ⟨b, 1, none⟩ = some (.int .i64 r.pos)) (by kernel_rfl) HS.out (fun hHeld => ?_)
    refine tk (oi := ⟨_, _, _, _, _, _⟩) (v := ?_) 0 rfl (by kernel_rfl) (fun _ _ _ h => h) (.inl ⟨by rfl, ?_⟩) (by assumption) ?_; rotate_left
    · (intro wS hSw; (try dsimp only at hSw); go_simp); all_goals with_reducible rfl
    try go_frame
    refine tk (oi := ⟨_, _, _, _, _, _⟩) (v := ?_) 1 rfl (by kernel_rfl) (fun _ _ _ h => h) (.inl ⟨by rfl, ?_⟩) (by assumption) ?_; rotate_left
    · (intro wS hSw; (try dsimp only at hSw); go_simp); all_goals with_reducible rfl
    try go_frame
    refine tk (oi := ⟨_, _, _, _, _, _⟩) (v := ?_) 2 rfl (by kernel_rfl) (fun _ _ _ h => h) (.inl ⟨by rfl, ?_⟩) (by assumption) ?_; rotate_left
    · (intro wS hSw; (try dsimp only at hSw); go_simp); all_goals with_reducible rfl
    try go_frame
    refine tk (oi := ⟨_, _, _, _, _, _⟩) (v := ?_) 3 rfl (by kernel_rfl) (fun _ _ _ h => h) (.inl ⟨by rfl, ?_⟩) (by assumption) ?_; rotate_left
    · (intro wS hSw; (try dsimp only at hSw); go_simp); all_goals with_reducible rfl
    try go_frame
    refine tk (oi := ⟨_, _, _, _, _, _⟩) (v := ?_) 4 rfl (by kernel_rfl) (fun _ _ _ h => h) (.inl ⟨by rfl, ?_⟩) (by assumption) ?_; rotate_left
    · (intro wS hSw; (try dsimp only at hSw); go_simp); all_goals with_reducible rfl
    try go_frame
    refine tk (oi := ⟨_, _, _, _, _, _⟩) (v := ?_) 5 rfl (by kernel_rfl) (fun _ _ _ h => h) (.inl ⟨by rfl, ?_⟩) (by assumption) ?_; rotate_left
    · (intro wS hSw; (try dsimp only at hSw); go_simp); all_goals with_reducible rfl
    try go_frame
    refine tk (oi := ⟨_, _, _, _, _, _⟩) (v := ?_) 6 rfl (by kernel_rfl) (fun _ _ _ h => h) (.inl ⟨by rfl, ?_⟩) (by assumption) ?_; rotate_left
    · (intro wS hSw; (try dsimp only at hSw); go_simp); all_goals with_reducible rfl
    try go_frame
    refine tk (oi := ⟨_, _, _, _, _, _⟩) (v := ?_) 7 rfl (by kernel_rfl) (fun _ _ _ h => h) (.inl ⟨by rfl, ?_⟩) (by assumption) ?_; rotate_left
    · (intro wS hSw; (try dsimp only at hSw); go_simp); all_goals with_reducible rfl
    try go_frame
    refine tk (oi := ⟨_, _, _, _, _, _⟩) (v := ?_) 8 rfl (by kernel_rfl) (fun _ _ _ h => h) (.inl ⟨by rfl, ?_⟩) (by assumption) ?_; rotate_left
    · (intro wS hSw; (try dsimp only at hSw); go_simp); all_goals with_reducible rfl
    try go_frame
    refine tk (oi := ⟨_, _, _, _, _, _⟩) (v := ?_) 9 rfl (by kernel_rfl) (fun _ _ _ h => h) (.inl ⟨by rfl, ?_⟩) (by assumption) ?_; rotate_left
    · (intro wS hSw; (try dsimp only at hSw); go_simp); all_goals with_reducible rfl
    try go_frame
    refine wpAnyH_ready (rs := [10]) (by kernel_rfl) (by simp) ?_
    refine AllReadyH.cons (o := ⟨_, _, _, _, _, _⟩) rfl (fun K hK => ?_) AllReadyH.nil
    go_simp
    refine (hasPrefix_pre _ p _).mono ?_
    rw [hx.out, hv.out]
    rintro e w2 ⟨rfl, rfl⟩
    go_wp2_with fail
    refine hK.out _ _ (HS.out) (fun hHeld => ?_)
    clear hK K
    try go_frame
    refine tk (oi := ⟨_, _, _, _, _, _⟩) (v := ?_) 11 rfl (by kernel_rfl) (fun _ _ _ h => h) (.inl ⟨by rfl, ?_⟩) (by assumption) ?_; rotate_left
    · (intro wS hSw; (try dsimp only at hSw); go_simp); all_goals with_reducible rfl
    try go_frame
    refine wpAnyH_done (by kernel_rfl) ?_ _
    clear hHeld
    obtain ⟨h0, h1⟩ := HS.out
    have f1 : w.drew.frozen? ⟨b, 1, none⟩ = false := H.out.drew.froz 1
    go_wp2_with fail
    go_ret
    exact ⟨rfl, H.out.drew.pos _, Lib.grownBy_setB (grown_drew (World.grownBy.refl w _)) 1 _⟩

set_option maxRecDepth 100000 in
set_option maxHeartbeats 2000000 in
theorem must_any (b : Nat) (r : Rdr) (w : World) (h : RdAt w b r) (p : List UInt8) (hp : r.pos ≤ r.s.size) (hs : r.s.size ≤ 1000000000) (v : Bool) (hv : Hid (pre p (r.s.data.toList.drop r.pos) = v)) (hl : p.length ≤ 1000) :
    Calls Try.prog 72 #[.pointer (some ⟨b, 0, none⟩), .string ⟨p.toArray⟩] w (RdPost w b (if v then { r with pos := r.pos + p.length } else { r with bad := r.pos, code := 30 }) (.bool v)) := by
  cases v with
  | false =>
    go_enter Try.func72, Try.ntmps72
    go_wp2_with fail
    refine (is_any b r w h p hp hs false hv hl).mono ?_
    rintro e w2 ⟨rfl, h2, hg2⟩
    have h2' : RdAt w2 b r := h2
    obtain ⟨_, h21, _⟩ := h2'.all
    go_wp2_with fail
    refine (fail_any b r w2 h2' r.pos 30).mono ?_
    rintro e w3 ⟨rfl, h3, hg3⟩
    go_wp2_with fail
    go_ret
    exact ⟨rfl, h3, Lib.grownBy_trans hg2 hg3⟩
  | true =>
    go_enter Try.func72, Try.ntmps72
    go_wp2_with fail
    refine (is_any b r w h p hp hs true hv hl).mono ?_
    rintro e w2 ⟨rfl, h2, hg2⟩
    go_wp2_with fail
    go_ret
    exact ⟨rfl, h2, hg2⟩

theorem Undo_at (s : ByteArray) (v : Bool) (w : World) (hs : s.size ≤ 1099511627776) (o : List UInt8) (k : Nat) (e : Int) (h : Hid (undoL v s.data.toList = (o, k, e))) :
    Calls Try.prog 96 #[.string s, .bool v] w (Ret w (.tuple #[.string ⟨o.toArray⟩, .int .i64 (k : Nat), .int .i64 e])) := by
  have := Undo_any s v w hs
  rw [h.out] at this
  exact this
theorem grown_twice {w w1 w2 : World} {b : Nat} (h1 : w.grownBy w1 (some b)) (h2 : w1.grownBy w2 (some b)) : w.grownBy w2 (some b) := Lib.grownBy_trans h1 h2

set_option maxRecDepth 100000 in
set_option maxHeartbeats 2000000 in
theorem undone_any (b : Nat) (r : Rdr) (w : World) (h : RdAt w b r) (i j : Nat) (hij : i ≤ j) (hj : j ≤ r.s.size) (hs : r.s.size ≤ 1000000000) (v : Bool) (V : List UInt8 × Nat × Int) (hV : Hid (undoL v ((r.s.data.toList.drop i).take (j - i)) = V)) :
    Calls Try.prog 67 #[.pointer (some ⟨b, 0, none⟩), .int .i64 i, .int .i64 j, .bool v] w (RdPost w b (if V.2.2 = 0 then r else { r with bad := (i : Int) + V.2.1, code := V.2.2 }) (.tuple #[.string ⟨(if V.2.2 = 0 then V.1 else []).toArray⟩, .bool (decide (V.2.2 = 0))])) := by
  have H := Lib.hid h
  obtain ⟨h0, _⟩ := h.all
  have hx : Hid ((r.s.extract i j).data.toList = (r.s.data.toList.drop i).take (j - i)) := by
    show _ = _
    rw [Lib.extract_data]
  have hxs : (r.s.extract i j).size ≤ 1099511627776 := by simp; omega
  have hle := undoL_le v ((r.s.data.toList.drop i).take (j - i))
  rw [hV.out, List.length_take, List.length_drop, size_toList] at hle
  obtain ⟨t, n, e⟩ := V
  simp only at hle
  have hV' : Hid (undoL v (r.s.extract i j).data.toList = (t, n, e)) := by show _ = _; rw [hx.out]; exact hV.out
  have i0 : (0 : Int) ≤ (i : Int) := by omega
  have i1 : (i : Int) ≤ j := by omega
  have i2 : (j : Int) ≤ r.s.size := by omega
  clear h
  by_cases he : e = 0
  · subst he
    go_enter Try.func67, Try.ntmps67
    go_wp2_with fail
    refine (Undo_at (r.s.extract i j) v w hxs t n 0 hV').mono ?_
    rintro e w2 ⟨rfl, hb2⟩
    go_wp2_with fail
    go_ret2
    exact ⟨rfl, H.out.below hb2, Lib.grownBy_below (World.grownBy.refl w _) hb2⟩
  · have he1 : (e != 0) = true := by simpa using he
    have HE := Lib.hid he
    clear he
    go_enter Try.func67, Try.ntmps67
    go_wp2_with fail
    refine (Undo_at (r.s.extract i j) v w hxs t n e hV').mono ?_
    rintro e' w2 ⟨rfl, hb2⟩
    go_wp2_with fail
    refine (fail_any b r w2 (H.out.below hb2) ((i : Int) + n) e).mono ?_
    rintro e' w3 ⟨rfl, h3, hg3⟩
    go_wp2_with fail
    go_ret2
    exact ⟨by simp, h3, grown_twice (Lib.grownBy_below (World.grownBy.refl w _) hb2) hg3⟩
end Go.Proofs.Ythifddkmbjnncaa
