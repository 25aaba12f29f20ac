/-
  Texts of this claim, joined (by a program of the claim's author): Rd, SortPlain, LexLaw, Rd2, OwnS, OwnA, Rd3, SameA, Has.
-/
import Derived.Test.YthifddkmbjnncaaLR1
import Derived.Test.YthifddkmbjnncaaLR2
import Derived.Test.YthifddkmbjnncaaLR3
import Derived.Lib.BufferOwn
import Derived.Deep.RegionHeld3
import Derived.StillTailTactics
import Derived.Lib.Bytealg
import Derived.Sort.Statements
import Derived.Deep.LoopGhost
import Derived.Laws.OwnMore
import Derived.Laws.StructEq
import Derived.Shelf.SlicesQ.IndexFunc
namespace Go.Proofs.Ythifddkmbjnncaa
set_option maxRecDepth 100000
set_option maxHeartbeats 16000000
section
open Go.RowKit
structure Rdr where
 s : ByteArray
 pos : Nat
 kind : Int
 place : Int
 name : List UInt8
 text : List UInt8
 A : Option Addr
 n : Nat
 c : Nat
 bad : Int
 code : Int
def Rdr.cells (r : Rdr) : Array Value := #[.string r.s, .int .i64 r.pos, .int .i64 r.kind, .int .i64 r.place, .string ⟨r.name.toArray⟩, .string ⟨r.text.toArray⟩, .slice r.A r.n r.c, .int .i64 r.bad, .int .i64 r.code]
def RdAt (w : World) (b : Nat) (r : Rdr) : Prop := w.heap[b]? = some (.cells r.cells 64 (0, 0))
theorem cell_of_row {w : World} {b : Nat} {cur : Array Value} {e : TypeId} (h : w.heap[b]? = some (.cells cur e (0, 0))) (j : Nat) : w.cell? ⟨b, j, none⟩ = cur[j]? := by
 simp [World.cell?, h]
theorem RdAt.all {w : World} {b : Nat} {r : Rdr} (h : RdAt w b r) :
  w.cell? ⟨b, 0, none⟩ = some (.string r.s) ∧ w.cell? ⟨b, 1, none⟩ = some (.int .i64 r.pos) ∧ w.cell? ⟨b, 2, none⟩ = some (.int .i64 r.kind) ∧ w.cell? ⟨b, 3, none⟩ = some (.int .i64 r.place) ∧ w.cell? ⟨b, 4, none⟩ = some (.string ⟨r.name.toArray⟩) ∧ w.cell? ⟨b, 5, none⟩ = some (.string ⟨r.text.toArray⟩) ∧ w.cell? ⟨b, 6, none⟩ = some (.slice r.A r.n r.c) ∧ w.cell? ⟨b, 7, none⟩ = some (.int .i64 r.bad) ∧ w.cell? ⟨b, 8, none⟩ = some (.int .i64 r.code) := by
 refine ⟨?_, ?_, ?_, ?_, ?_, ?_, ?_, ?_, ?_⟩ <;> (rw [cell_of_row h]; rfl)
theorem RdAt.froz {w : World} {b : Nat} {r : Rdr} (h : RdAt w b r) (j : Nat) : w.frozen? ⟨b, j, none⟩ = false := frozen_of_row w b j _ _ h
theorem RdAt.drew {w : World} {b : Nat} {r : Rdr} (h : RdAt w b r) : RdAt w.drew b r := h
theorem RdAt.lt {w : World} {b : Nat} {r : Rdr} (h : RdAt w b r) : b < w.heap.size := (Array.getElem?_eq_some_iff.1 h).1
theorem RdAt.grown {w w' : World} {b : Nat} {r : Rdr} (h : RdAt w b r) (hg : w.grownBy w' none) : RdAt w' b r := by
 unfold RdAt; rw [hg.block b h.lt (by simp)]; exact h
theorem RdAt.below {w w' : World} {b : Nat} {r : Rdr} (h : RdAt w b r) (hb : Below w.heap.size w w') : RdAt w' b r := h.grown (Lib.grownBy_below (World.grownBy.refl w none) hb)
section
variable {w : World} {b : Nat} {r : Rdr} (h : RdAt w b r)
include h
theorem RdAt.pos (p : Nat) : RdAt (w.setCell ⟨b, 1, none⟩ (.int .i64 p)) b { r with pos := p } := Lib.heap_setCell_same (i := 1) h _
theorem RdAt.kind (p : Int) : RdAt (w.setCell ⟨b, 2, none⟩ (.int .i64 p)) b { r with kind := p } := Lib.heap_setCell_same (i := 2) h _
theorem RdAt.name (p : List UInt8) : RdAt (w.setCell ⟨b, 4, none⟩ (.string ⟨p.toArray⟩)) b { r with name := p } := Lib.heap_setCell_same (i := 4) h _
theorem RdAt.text (p : List UInt8) : RdAt (w.setCell ⟨b, 5, none⟩ (.string ⟨p.toArray⟩)) b { r with text := p } := Lib.heap_setCell_same (i := 5) h _
theorem RdAt.attrs (A : Option Addr) (n c : Nat) : RdAt (w.setCell ⟨b, 6, none⟩ (.slice A n c)) b { r with A := A, n := n, c := c } := Lib.heap_setCell_same (i := 6) h _
theorem RdAt.bad (p : Int) : RdAt (w.setCell ⟨b, 7, none⟩ (.int .i64 p)) b { r with bad := p } := Lib.heap_setCell_same (i := 7) h _
theorem RdAt.code (p : Int) : RdAt (w.setCell ⟨b, 8, none⟩ (.int .i64 p)) b { r with code := p } := Lib.heap_setCell_same (i := 8) h _
end
def RdPost (w : World) (b : Nat) (r' : Rdr) (v : Value) (e : Ending) (w' : World) : Prop := e = .returned v ∧ RdAt w' b r' ∧ w.grownBy w' (some b)
theorem fail_any (b : Nat) (r : Rdr) (w : World) (h : RdAt w b r) (p e : Int) :
  Calls Try.prog 68 #[.pointer (some ⟨b, 0, none⟩), .int .i64 p, .int .i64 e] w (RdPost w b { r with bad := p, code := e } (.bool false)) := by
 have H := Lib.hid h
 obtain ⟨_, _, _, _, _, _, _, h7, h8⟩ := h.all
 have f7 := h.froz 7
 have f8 := h.froz 8
 clear h
 go_enter Try.func68, Try.ntmps68
 go_wp2_with fail
 go_ret
 exact ⟨rfl, (H.out.bad p).code e, Lib.grownBy_setB (Lib.grownBy_setCell w b 7 _) 8 _⟩
theorem grown_drew {w w' : World} {row : Option Nat} (h : w.grownBy w' row) : w.grownBy w'.drew row := ⟨h.os, h.tape, h.output, h.size, h.block⟩
theorem is_any (b : Nat) (r : Rdr) (w : World) (h : RdAt w b r) (p : List UInt8) (hp : r.pos ≤ r.s.size) (hs : r.s.size ≤ 1000000000) (v : Bool) (hv : Hid (pre p (r.s.data.toList.drop r.pos) = v)) (hl : p.length ≤ 1000) :
  Calls Try.prog 41 #[.pointer (some ⟨b, 0, none⟩), .string ⟨p.toArray⟩] w (RdPost w b (if v then { r with pos := r.pos + p.length } else r) (.bool v)) := by
 have H := Lib.hid h
 have hb := h.lt
 have hc := Lib.hid h.all
 have hf := Lib.hid h.froz
 have hsz : (⟨p.toArray⟩ : ByteArray).size = p.length := by show p.toArray.size = _; simp
 have hx : Hid ((r.s.extract r.pos r.s.size).data.toList = r.s.data.toList.drop r.pos) := Lib.extract_to_end _ _
 have HS : Hid (w.drew.cell? ⟨b, 0, none⟩ = some (.string r.s) ∧ w.drew.cell? ⟨b, 1, none⟩ = some (.int .i64 r.pos)) := ⟨hc.out.1, hc.out.2.1⟩
 have i0 : (0 : Int) ≤ (r.pos : Int) := by omega
 have i1 : (r.pos : Int) ≤ r.s.size := by omega
 clear h
 cases v with
 | false =>
  go_enter Try.func41, Try.ntmps41
  go_wp2_with fail
  refine wp_region_held_drew (S := fun w' => w'.cell? ⟨b, 0, none⟩ = some (.string r.s) ∧ w'.cell? ⟨b, 1, none⟩ = some (.int .i64 r.pos)) (by kernel_rfl) HS.out (fun hHeld => ?_)
  refine tkv 0 (h := tkv 1 (h := tkv 2 (h := tkv 3 (h := tkv 4 (h := tkv 5 (h := ?_))))))
  refine tkv 6 (h := tkv 7 (h := tkv 8 (h := tkv 9 (h := ?_))))
  refine rdy 10 (fun K hK => ?_)
  go_simp
  refine (hasPrefix_pre _ p _).mono ?_
  rw [hx.out, hv.out]
  rintro e w2 ⟨rfl, rfl⟩
  go_wp2_with fail
  refine hK.out _ _ (HS.out) (fun hHeld => ?_)
  clear hK K
  try go_frame
  refine tkv 11 (h := ?_)
  refine wpAnyH_done (by kernel_rfl) ?_ _
  clear hHeld
  go_wp2_with fail
  go_ret
  exact ⟨rfl, H.out, grown_drew (World.grownBy.refl w _)⟩
 | true =>
  go_enter Try.func41, Try.ntmps41
  go_wp2_with fail
  refine wp_region_held_drew (S := fun w' => w'.cell? ⟨b, 0, none⟩ = some (.string r.s) ∧ w'.cell? ⟨b, 1, none⟩ = some (.int .i64 r.pos)) (by kernel_rfl) HS.out (fun hHeld => ?_)
  refine tkv 0 (h := tkv 1 (h := tkv 2 (h := tkv 3 (h := tkv 4 (h := tkv 5 (h := ?_))))))
  refine tkv 6 (h := tkv 7 (h := tkv 8 (h := tkv 9 (h := ?_))))
  refine rdy 10 (fun K hK => ?_)
  go_simp
  refine (hasPrefix_pre _ p _).mono ?_
  rw [hx.out, hv.out]
  rintro e w2 ⟨rfl, rfl⟩
  go_wp2_with fail
  refine hK.out _ _ (HS.out) (fun hHeld => ?_)
  clear hK K
  try go_frame
  refine tkv 11 (h := ?_)
  refine wpAnyH_done (by kernel_rfl) ?_ _
  clear hHeld
  obtain ⟨h0, h1⟩ := HS.out
  have f1 : w.drew.frozen? ⟨b, 1, none⟩ = false := H.out.drew.froz 1
  go_wp2_with fail
  go_ret
  exact ⟨rfl, H.out.drew.pos _, Lib.grownBy_setB (grown_drew (World.grownBy.refl w _)) 1 _⟩
theorem must_any (b : Nat) (r : Rdr) (w : World) (h : RdAt w b r) (p : List UInt8) (hp : r.pos ≤ r.s.size) (hs : r.s.size ≤ 1000000000) (v : Bool) (hv : Hid (pre p (r.s.data.toList.drop r.pos) = v)) (hl : p.length ≤ 1000) :
  Calls Try.prog 72 #[.pointer (some ⟨b, 0, none⟩), .string ⟨p.toArray⟩] w (RdPost w b (if v then { r with pos := r.pos + p.length } else { r with bad := r.pos, code := 30 }) (.bool v)) := by
 cases v with
 | false =>
  go_enter Try.func72, Try.ntmps72
  go_wp2_with fail
  refine (is_any b r w h p hp hs false hv hl).mono ?_
  rintro e w2 ⟨rfl, h2, hg2⟩
  have h2' : RdAt w2 b r := h2
  obtain ⟨_, h21, _⟩ := h2'.all
  go_wp2_with fail
  refine (fail_any b r w2 h2' r.pos 30).mono ?_
  rintro e w3 ⟨rfl, h3, hg3⟩
  go_wp2_with fail
  go_ret
  exact ⟨rfl, h3, Lib.grownBy_trans hg2 hg3⟩
 | true =>
  go_enter Try.func72, Try.ntmps72
  go_wp2_with fail
  refine (is_any b r w h p hp hs true hv hl).mono ?_
  rintro e w2 ⟨rfl, h2, hg2⟩
  go_wp2_with fail
  go_ret
  exact ⟨rfl, h2, hg2⟩
theorem Undo_at (s : ByteArray) (v : Bool) (w : World) (hs : s.size ≤ 1099511627776) (o : List UInt8) (k : Nat) (e : Int) (h : Hid (undoL v s.data.toList = (o, k, e))) :
  Calls Try.prog 96 #[.string s, .bool v] w (Ret w (.tuple #[.string ⟨o.toArray⟩, .int .i64 (k : Nat), .int .i64 e])) := by
 have := Undo_any s v w hs
 rw [h.out] at this
 exact this
theorem grown_twice {w w1 w2 : World} {b : Nat} (h1 : w.grownBy w1 (some b)) (h2 : w1.grownBy w2 (some b)) : w.grownBy w2 (some b) := Lib.grownBy_trans h1 h2
theorem undone_any (b : Nat) (r : Rdr) (w : World) (h : RdAt w b r) (i j : Nat) (hij : i ≤ j) (hj : j ≤ r.s.size) (hs : r.s.size ≤ 1000000000) (v : Bool) (V : List UInt8 × Nat × Int) (hV : Hid (undoL v ((r.s.data.toList.drop i).take (j - i)) = V)) :
  Calls Try.prog 67 #[.pointer (some ⟨b, 0, none⟩), .int .i64 i, .int .i64 j, .bool v] w (RdPost w b (if V.2.2 = 0 then r else { r with bad := (i : Int) + V.2.1, code := V.2.2 }) (.tuple #[.string ⟨(if V.2.2 = 0 then V.1 else []).toArray⟩, .bool (decide (V.2.2 = 0))])) := by
 have H := Lib.hid h
 obtain ⟨h0, _⟩ := h.all
 have hx : Hid ((r.s.extract i j).data.toList = (r.s.data.toList.drop i).take (j - i)) := by
  show _ = _
  rw [Lib.extract_data]
 have hxs : (r.s.extract i j).size ≤ 1099511627776 := by simp; omega
 have hle := undoL_le v ((r.s.data.toList.drop i).take (j - i))
 rw [hV.out, List.length_take, List.length_drop, size_toList] at hle
 obtain ⟨t, n, e⟩ := V
 simp only at hle
 have hV' : Hid (undoL v (r.s.extract i j).data.toList = (t, n, e)) := by show _ = _; rw [hx.out]; exact hV.out
 have i0 : (0 : Int) ≤ (i : Int) := by omega
 have i1 : (i : Int) ≤ j := by omega
 have i2 : (j : Int) ≤ r.s.size := by omega
 clear h
 by_cases he : e = 0
 ·subst he
  go_enter Try.func67, Try.ntmps67
  go_wp2_with fail
  refine (Undo_at (r.s.extract i j) v w hxs t n 0 hV').mono ?_
  rintro e w2 ⟨rfl, hb2⟩
  go_wp2_with fail
  go_ret2
  exact ⟨rfl, H.out.below hb2, Lib.grownBy_below (World.grownBy.refl w _) hb2⟩
 ·have he1 : (e != 0) = true := by simpa using he
  have HE := Lib.hid he
  clear he
  go_enter Try.func67, Try.ntmps67
  go_wp2_with fail
  refine (Undo_at (r.s.extract i j) v w hxs t n e hV').mono ?_
  rintro e' w2 ⟨rfl, hb2⟩
  go_wp2_with fail
  refine (fail_any b r w2 (H.out.below hb2) ((i : Int) + n) e).mono ?_
  rintro e' w3 ⟨rfl, h3, hg3⟩
  go_wp2_with fail
  go_ret2
  exact ⟨by simp, h3, grown_twice (Lib.grownBy_below (World.grownBy.refl w _) hb2) hg3⟩
end
section
theorem less_lt : ∀ (x y : List UInt8), Op.bytesLess x y = decide (x < y)
 | [], [] => by simp [Op.bytesLess]
 | _ :: _, [] => by simp [Op.bytesLess]
 | [], _ :: _ => by simp [Op.bytesLess]
 | a :: x, b :: y => by
  rw [Op.bytesLess, less_lt x y]
  simp only [List.cons_lt_cons_iff]
  by_cases h1 : a < b <;> by_cases h2 : a = b <;> by_cases h3 : x < y <;> simp [h1, h2, h3]
theorem less_irrefl (x : List UInt8) : Op.bytesLess x x = false := by
 rw [less_lt]; exact decide_eq_false (List.lt_irrefl x)
theorem less_trans {x y z : List UInt8} (h : Op.bytesLess x y = true) (h' : Op.bytesLess y z = true) : Op.bytesLess x z = true := by
 rw [less_lt] at *
 exact decide_eq_true (List.lt_trans (of_decide_eq_true h) (of_decide_eq_true h'))
theorem less_tri {x y : List UInt8} (h : Op.bytesLess x y = false) (h' : Op.bytesLess y x = false) : x = y := by
 rw [less_lt] at *
 have h1 := of_decide_eq_false h
 have h2 := of_decide_eq_false h'
 exact List.le_antisymm (List.not_lt.1 h2) (List.not_lt.1 h1)
theorem less_asymm {x y : List UInt8} (h : Op.bytesLess x y = true) : Op.bytesLess y x = false := by
 cases h' : Op.bytesLess y x with
 | false => rfl
 | true => have := less_trans h h'; rw [less_irrefl] at this; cases this
theorem less_ntrans {x y z : List UInt8} (h : Op.bytesLess x y = false) (h' : Op.bytesLess y z = false) : Op.bytesLess x z = false := by
 cases hz : Op.bytesLess x z with
 | false => rfl
 | true =>
  cases hyx : Op.bytesLess y x with
  | true => rw [less_trans hyx hz] at h'; cases h'
  | false => rw [less_tri h hyx] at hz; rw [hz] at h'; cases h'
theorem cmp_less : ∀ (x y : List UInt8), decide (Lib.compareBytes x y < 0) = Op.bytesLess x y
 | [], [] => by simp [Op.bytesLess, Lib.compareBytes]
 | _ :: _, [] => by simp [Op.bytesLess, Lib.compareBytes]
 | [], _ :: _ => by simp [Op.bytesLess, Lib.compareBytes]
 | a :: x, b :: y => by
  rw [Op.bytesLess, Lib.compareBytes, ← cmp_less x y]
  by_cases h1 : a < b
  ·simp [h1]
  ·by_cases h2 : b < a
   ·have h3 : a ≠ b := by intro e; subst e; exact h1 h2
    simp [h1, h2, h3]
   ·have h3 : a = b := by
     have h4 := UInt8.not_lt.1 h1
     have h5 := UInt8.not_lt.1 h2
     exact UInt8.le_antisymm h5 h4
    subst h3
    simp
def nameC (a b : AttrD) : Int := Lib.compareBytes a.name b.name
theorem nameC_swo : Sort.SWO (fun a b : AttrD => decide (nameC a b < 0)) where
 irrefl x := by unfold nameC; simp only [cmp_less]; exact less_irrefl _
 trans x y z := by unfold nameC; simp only [cmp_less]; exact less_trans
 ntrans x y z := by unfold nameC; simp only [cmp_less]; exact less_ntrans
def Rise (l : List AttrD) : Prop := l.Pairwise fun a b => Op.bytesLess a.name b.name = true
def ApartS (l : List AttrD) : Prop := l.Pairwise fun a b => a.name ≠ b.name
theorem insA_perm (a : AttrD) : ∀ l : List AttrD, (insA a l).Perm (a :: l)
 | [] => List.Perm.refl _
 | b :: r => by
  rw [insA]
  split
  ·exact List.Perm.refl _
  ·exact ((insA_perm a r).cons b).trans (List.Perm.swap a b r)
theorem fold_perm : ∀ (l o : List AttrD), (l.foldl (fun o a => insA a o) o).Perm (o ++ l)
 | [], o => by simp
 | a :: l, o => by
  rw [List.foldl_cons]
  refine (fold_perm l (insA a o)).trans ?_
  refine ((insA_perm a o).append_right l).trans ?_
  simp only [List.cons_append]
  exact List.perm_middle.symm
theorem sortA_perm (l : List AttrD) : (sortA l).Perm l := by
 have := fold_perm l []
 simpa [sortA] using this
theorem insA_rise {a : AttrD} : ∀ {l : List AttrD}, Rise l → (∀ b ∈ l, b.name ≠ a.name) → Rise (insA a l)
 | [], _, _ => by unfold Rise insA; simp
 | b :: r, h, hn => by
  obtain ⟨hb, hr⟩ := List.pairwise_cons.1 h
  rw [insA]
  split
  ·rename_i hl
   refine List.pairwise_cons.2 ⟨fun c hc => ?_, h⟩
   rcases List.mem_cons.1 hc with rfl | hc
   ·exact hl
   ·exact less_trans hl (hb c hc)
  ·rename_i hl
   have hba : Op.bytesLess b.name a.name = true := by
    cases hba : Op.bytesLess b.name a.name with
    | true => rfl
    | false => exact absurd (less_tri hba (by simpa using hl)) (hn b (by simp))
   refine List.pairwise_cons.2 ⟨fun c hc => ?_, insA_rise hr (fun c hc => hn c (by simp [hc]))⟩
   rcases List.mem_cons.1 ((insA_perm a r).mem_iff.1 hc) with rfl | hc
   ·exact hba
   ·exact hb c hc
theorem fold_rise : ∀ (l o : List AttrD), Rise o → ApartS l → (∀ a ∈ l, ∀ b ∈ o, b.name ≠ a.name) → Rise (l.foldl (fun o a => insA a o) o)
 | [], o, h, _, _ => h
 | a :: l, o, h, hl, hn => by
  obtain ⟨h1, h2⟩ := List.pairwise_cons.1 hl
  rw [List.foldl_cons]
  refine fold_rise l _ (insA_rise h (hn a (by simp))) h2 (fun c hc b hb => ?_)
  rcases List.mem_cons.1 ((insA_perm a o).mem_iff.1 hb) with rfl | hb
  ·exact h1 c hc
  ·exact hn c (by simp [hc]) b hb
theorem sortA_rise {l : List AttrD} (h : ApartS l) : Rise (sortA l) := fold_rise l [] List.Pairwise.nil h (fun _ _ _ hb => by cases hb)
theorem rise_unique {l d : List AttrD} (hp : d.Perm l) (hl : Rise l) (hd : d.Pairwise fun a b => Op.bytesLess b.name a.name = false) : d = l := by
 refine List.Perm.eq_of_pairwise (le := fun a b => Op.bytesLess b.name a.name = false) (fun a b ha hb h1 h2 => ?_) hd (hl.imp fun h => less_asymm h) hp
 have hn := less_tri h2 h1
 have ha' := hp.mem_iff.1 ha
 obtain ⟨i, hi, ei⟩ := List.mem_iff_getElem.1 ha'
 obtain ⟨j, hj, ej⟩ := List.mem_iff_getElem.1 hb
 rcases Nat.lt_trichotomy i j with h | h | h
 ·have := List.pairwise_iff_getElem.1 hl i j hi hj h
  rw [ei, ej, hn, less_irrefl] at this; cases this
 ·subst h; rw [← ei, ← ej]
 ·have := List.pairwise_iff_getElem.1 hl j i hj hi h
  rw [ei, ej, hn, less_irrefl] at this; cases this
theorem sort_unique {l d : List AttrD} (hp : d.Perm l) (hl : ApartS l) (hd : d.Pairwise fun a b => Op.bytesLess b.name a.name = false) : d = sortA l :=
 rise_unique (hp.trans (sortA_perm l).symm) (sortA_rise hl) hd
instance : Inhabited AttrD := ⟨⟨[], []⟩⟩
theorem sorted_list {d d' : Array AttrD} (hp : Sort.PermIn 0 d.size d d') (hs : Sort.SortedIn (fun a b : AttrD => decide (nameC a b < 0)) 0 d.size d') (hl : ApartS d.toList) : d'.toList = sortA d.toList := by
 obtain ⟨h1, _, h3⟩ := hp
 have e1 : d'.extract 0 d.size = d' := by rw [← h1, Array.extract_size]
 have e2 : d.extract 0 d.size = d := Array.extract_size
 rw [e1, e2] at h3
 refine sort_unique h3 hl (List.pairwise_iff_getElem.2 fun i j hi hj hij => ?_)
 have := hs i j (Nat.zero_le _) hij (by simp at hj; omega)
 unfold nameC at this
 simp only [cmp_less] at this
 simp only [Array.length_toList] at hi hj
 rw [getElem!_pos d' i hi, getElem!_pos d' j hj] at this
 simpa using this
/-! ## What is told of attributes -/
theorem any_name {bs : List AttrD} {n : List UInt8} (h : bs.any (fun a => decide (a.name = n)) = false) : ∀ b ∈ bs, b.name ≠ n := by
 intro b hb e
 have := List.any_eq_false.1 h b hb
 simp [e] at this
theorem apart_snoc {bs : List AttrD} {a : AttrD} (h : ApartS bs) (hn : ∀ b ∈ bs, b.name ≠ a.name) : ApartS (bs ++ [a]) := by
 refine List.pairwise_append.2 ⟨h, List.pairwise_singleton _ _, fun x hx y hy => ?_⟩
 simp at hy; subst hy; exact hn x hx
structure AttrFine (a : AttrD) : Prop where
 name : nameL a.name = true
 value : ∃ l, (undoL true l).2.2 = 0 ∧ (undoL true l).1 = a.value
 long : a.value.length ≤ 1500
theorem attrL_fine {l : List UInt8} {bs : List AttrD} {a : AttrD} {n : Nat} (h : attrL l bs = .ok a n) : AttrFine a ∧ bs.length < 20 ∧ ∀ b ∈ bs, b.name ≠ a.name := by
 unfold attrL at h
 simp only at h
 split at h
 ·cases h
 rename_i h1
 split at h
 ·cases h
 rename_i h2
 split at h
 ·cases h
 rename_i h3
 split at h
 ·cases h
 split at h
 ·cases h
 unfold valueT at h
 simp only at h
 split at h
 ·cases h
 split at h
 ·cases h
 rename_i h4
 split at h
 ·cases h
 rename_i h5
 injection h with h _
 subst h
 exact ⟨⟨by simpa using h1, ⟨_, by simpa using h4, rfl⟩, by simpa using h5⟩, by omega, any_name (by simpa using h3)⟩
structure AttrsFine (bs : List AttrD) : Prop where
 apart : ApartS bs
 all : ∀ a ∈ bs, AttrFine a
 many : bs.length ≤ 20
theorem attrsFine_nil : AttrsFine [] := ⟨List.Pairwise.nil, fun _ h => (by cases h), by simp⟩
theorem attrsFine_snoc {l : List UInt8} {bs : List AttrD} {a : AttrD} {n : Nat} (hf : AttrsFine bs) (h : attrL l bs = .ok a n) : AttrsFine (bs ++ [a]) := by
 obtain ⟨h1, h2, h3⟩ := attrL_fine h
 refine ⟨apart_snoc hf.apart h3, fun b hb => ?_, by simp; omega⟩
 rcases List.mem_append.1 hb with hb | hb
 ·exact hf.all b hb
 ·simp at hb; subst hb; exact h1
theorem attrsF_fine : ∀ (f : Nat) (l : List UInt8) (bs : List AttrD) (q : Int × List AttrD) (n : Nat), AttrsFine bs → attrsF f l bs = .ok q n → AttrsFine q.2 ∧ (q.1 = 1 ∨ q.1 = 3)
 | 0, _, _, _, _, _, h => by cases h
 | f + 1, l, bs, q, n, hf, h => by
  rw [attrsF] at h
  split at h
  ·injection h with h _; subst h; exact ⟨hf, .inl rfl⟩
  split at h
  ·injection h with h _; subst h; exact ⟨hf, .inr rfl⟩
  split at h
  ·cases h
  cases ha : attrL (l.drop (skipL l)) bs with
  | bad k e => rw [ha] at h; cases h
  | ok a m =>
   rw [ha] at h
   simp only at h
   cases hq : attrsF f ((l.drop (skipL l)).drop m) (bs ++ [a]) with
   | bad k e => rw [hq] at h; cases h
   | ok r k =>
    rw [hq] at h
    injection h with h _
    subst h
    exact attrsF_fine f _ _ _ _ (attrsFine_snoc hf ha) hq
end
section
/-! ## What stands behind is no matter -/
theorem span_word (l : List UInt8) (p : UInt8 → Bool) : l = l.takeWhile p ++ l.drop (l.takeWhile p).length := by
 have h := List.takeWhile_append_dropWhile (p := p) (l := l)
 have h2 : l.dropWhile p = l.drop (l.takeWhile p).length := by
  conv => rhs; rw [← h]
  rw [show (List.takeWhile p (List.takeWhile p l ++ List.dropWhile p l)) = List.takeWhile p l by rw [h]]
  rw [List.drop_append_of_le_length (Nat.le_refl _), List.drop_length, List.nil_append]
 rw [← h2, h]
theorem pre_cons2 {c d : UInt8} {l : List UInt8} (h : pre [c, d] l = true) : ∃ t, l = c :: d :: t := by
 match l, h with
 | [], h => simp [pre] at h
 | [a], h => simp [pre] at h
 | a :: b :: t, h =>
  have := eq_of_beq h
  simp at this
  exact ⟨t, by rw [this.1, this.2]⟩
end
section
open Go.RowKit
theorem skipL_cons (x : UInt8) (l : List UInt8) : skipL (x :: l) = if blankB x then skipL l + 1 else 0 := by
 unfold skipL
 rw [List.takeWhile_cons]
 split <;> rfl
theorem wordL_cons (x : UInt8) (l : List UInt8) : wordL (x :: l) = if nb x then x :: wordL l else [] := by
 unfold wordL
 rw [List.takeWhile_cons]
theorem u8_ne {x c : UInt8} (h : x ≠ c) : ((x.toNat : Int) == (c.toNat : Int)) = false := by
 have : x.toNat ≠ c.toNat := fun e => h (UInt8.toNat.inj e)
 simp; omega
theorem blanks_any (b : Nat) (r : Rdr) (w : World) (h : RdAt w b r) (hp : r.pos ≤ r.s.size) (hs : r.s.size ≤ 1000000000) (n : Nat) (hn : Hid (skipL (r.s.data.toList.drop r.pos) = n)) :
  Calls Try.prog 71 #[.pointer (some ⟨b, 0, none⟩)] w (RdPost w b { r with pos := r.pos + n } (.bool (decide (0 < n)))) := by
 have H := Lib.hid h
 obtain ⟨h0, h1, _⟩ := h.all
 have HL := Lib.hid (size_toList r.s)
 clear h
 go_enter Try.func71, Try.ntmps71
 go_wp2_with fail
 clear h0 h1
 go_loopg [] (r.s.size - r.pos) (fun g wr => ∃ p : Nat, r.pos ≤ p ∧ p ≤ r.s.size ∧ g = r.s.size - p ∧ Hid (RdAt wr b { r with pos := p }) ∧ Hid (p + skipL (r.s.data.toList.drop p) = r.pos + n) ∧ Hid (w.grownBy wr (some b)))
 case atStart => exact ⟨r.pos, Nat.le_refl _, hp, rfl, H.out, by show _ = _; rw [hn.out], World.grownBy.refl w _⟩
 case round =>
  obtain ⟨p, hrp, hk, rfl, HR, hin, hg⟩ := hrel
  have HS : Hid (wr.drew.cell? ⟨b, 0, none⟩ = some (.string r.s) ∧ wr.drew.cell? ⟨b, 1, none⟩ = some (.int .i64 p)) := ⟨HR.out.drew.all.1, HR.out.drew.all.2.1⟩
  by_cases hlt : p < r.s.size
  ·obtain ⟨x, HX⟩ : ∃ x, Hid (r.s.data.toList[p]? = some x) := ⟨r.s.data.toList[p]'(by have := HL.out; omega), List.getElem?_eq_getElem _⟩
   have hsx : r.s[p] = x := getk_of r.s p x HX.out hlt
   have hin' := hin.out
   rw [drop_cons HX.out, skipL_cons] at hin'
   have j0 : (0 : Int) ≤ (p : Int) := by omega
   have j1 : (p : Int) < r.s.size := by omega
   clear hin
   by_cases hx32 : x = 32
   ·subst hx32
    rw [if_pos (by decide)] at hin'
    have HIN : Hid (p + 1 + skipL (r.s.data.toList.drop (p + 1)) = r.pos + n) := by show _ = _; rw [← hin']; omega
    clear hin'
    go_wp2_with fail
    refine wp_region_held_drew (S := fun w' => w'.cell? ⟨b, 0, none⟩ = some (.string r.s) ∧ w'.cell? ⟨b, 1, none⟩ = some (.int .i64 p)) (by kernel_rfl) HS.out (fun hHeld => ?_)
    refine tkv 0 (h := tkv 1 (h := tkv 2 (h := tkv 3 (h := tkv 4 (h := tkv 5 (h := ?_))))))
    refine tkv 6 (h := tkv 7 (h := tkv 8 (h := tkv 9 (h := tkv 10 (h := tkv 11 (h := ?_))))))
    refine tkv 12 (h := tkv 13 (h := tkv 14 (h := tkv 15 (h := tkv 16 (h := tkv 17 (h := ?_))))))
    refine tkv 18 (h := tkv 19 (h := tkv 20 (h := tkv 21 (h := ?_))))
    refine tkn 22 (h := tkn 23 (h := tkn 24 (h := tkn 25 (h := tkn 26 (h := tkn 27 (h := ?_))))))
    refine tkn 28 (h := tkn 29 (h := tkn 30 (h := tkn 31 (h := ?_))))
    refine tkv 32 (h := tkv 33 (h := ?_))
    refine tkn 34 (h := tkn 35 (h := tkn 36 (h := tkn 37 (h := tkn 38 (h := tkn 39 (h := ?_))))))
    refine tkn 40 (h := tkn 41 (h := tkn 42 (h := tkn 43 (h := ?_))))
    refine tkv 44 (h := tkv 45 (h := ?_))
    refine wpAnyH_done (by kernel_rfl) ?_ _
    clear hHeld
    obtain ⟨h0, h1⟩ := HS.out
    have f1 : wr.drew.frozen? ⟨b, 1, none⟩ = false := HR.out.drew.froz 1
    go_wp2_with fail
    go_roundg (r.s.size - (p + 1))
    case measure => omega
    case rel => exact ⟨p + 1, by omega, by omega, rfl, HR.out.drew.pos (p + 1), HIN, grown_twice (grown_drew hg.out) (Lib.grownBy_setCell _ b 1 _)⟩
   by_cases hx9 : x = 9
   ·subst hx9
    rw [if_pos (by decide)] at hin'
    have HIN : Hid (p + 1 + skipL (r.s.data.toList.drop (p + 1)) = r.pos + n) := by show _ = _; rw [← hin']; omega
    clear hin' hx32
    go_wp2_with fail
    refine wp_region_held_drew (S := fun w' => w'.cell? ⟨b, 0, none⟩ = some (.string r.s) ∧ w'.cell? ⟨b, 1, none⟩ = some (.int .i64 p)) (by kernel_rfl) HS.out (fun hHeld => ?_)
    refine tkv 0 (h := tkv 1 (h := tkv 2 (h := tkv 3 (h := tkv 4 (h := tkv 5 (h := ?_))))))
    refine tkv 6 (h := tkv 7 (h := tkv 8 (h := tkv 9 (h := tkv 10 (h := tkv 11 (h := ?_))))))
    refine tkv 12 (h := tkv 13 (h := tkv 14 (h := tkv 15 (h := tkv 16 (h := tkv 17 (h := ?_))))))
    refine tkv 18 (h := tkv 19 (h := tkv 20 (h := tkv 21 (h := tkv 22 (h := tkv 23 (h := ?_))))))
    refine tkv 24 (h := tkv 25 (h := tkv 26 (h := tkv 27 (h := tkv 28 (h := tkv 29 (h := ?_))))))
    refine tkv 30 (h := tkv 31 (h := tkv 32 (h := tkv 33 (h := ?_))))
    refine tkn 34 (h := tkn 35 (h := tkn 36 (h := tkn 37 (h := tkn 38 (h := tkn 39 (h := ?_))))))
    refine tkn 40 (h := tkn 41 (h := tkn 42 (h := tkn 43 (h := ?_))))
    refine tkv 44 (h := tkv 45 (h := ?_))
    refine wpAnyH_done (by kernel_rfl) ?_ _
    clear hHeld
    obtain ⟨h0, h1⟩ := HS.out
    have f1 : wr.drew.frozen? ⟨b, 1, none⟩ = false := HR.out.drew.froz 1
    go_wp2_with fail
    go_roundg (r.s.size - (p + 1))
    case measure => omega
    case rel => exact ⟨p + 1, by omega, by omega, rfl, HR.out.drew.pos (p + 1), HIN, grown_twice (grown_drew hg.out) (Lib.grownBy_setCell _ b 1 _)⟩
   by_cases hx10 : x = 10
   ·subst hx10
    rw [if_pos (by decide)] at hin'
    have HIN : Hid (p + 1 + skipL (r.s.data.toList.drop (p + 1)) = r.pos + n) := by show _ = _; rw [← hin']; omega
    clear hin' hx32 hx9
    go_wp2_with fail
    refine wp_region_held_drew (S := fun w' => w'.cell? ⟨b, 0, none⟩ = some (.string r.s) ∧ w'.cell? ⟨b, 1, none⟩ = some (.int .i64 p)) (by kernel_rfl) HS.out (fun hHeld => ?_)
    refine tkv 0 (h := tkv 1 (h := tkv 2 (h := tkv 3 (h := tkv 4 (h := tkv 5 (h := ?_))))))
    refine tkv 6 (h := tkv 7 (h := tkv 8 (h := tkv 9 (h := tkv 10 (h := tkv 11 (h := ?_))))))
    refine tkv 12 (h := tkv 13 (h := tkv 14 (h := tkv 15 (h := tkv 16 (h := tkv 17 (h := ?_))))))
    refine tkv 18 (h := tkv 19 (h := tkv 20 (h := tkv 21 (h := tkv 22 (h := tkv 23 (h := ?_))))))
    refine tkv 24 (h := tkv 25 (h := tkv 26 (h := tkv 27 (h := tkv 28 (h := tkv 29 (h := ?_))))))
    refine tkv 30 (h := tkv 31 (h := tkv 32 (h := tkv 33 (h := tkv 34 (h := tkv 35 (h := ?_))))))
    refine tkv 36 (h := tkv 37 (h := tkv 38 (h := tkv 39 (h := tkv 40 (h := tkv 41 (h := ?_))))))
    refine tkv 42 (h := tkv 43 (h := tkv 44 (h := tkv 45 (h := ?_))))
    refine wpAnyH_done (by kernel_rfl) ?_ _
    clear hHeld
    obtain ⟨h0, h1⟩ := HS.out
    have f1 : wr.drew.frozen? ⟨b, 1, none⟩ = false := HR.out.drew.froz 1
    go_wp2_with fail
    go_roundg (r.s.size - (p + 1))
    case measure => omega
    case rel => exact ⟨p + 1, by omega, by omega, rfl, HR.out.drew.pos (p + 1), HIN, grown_twice (grown_drew hg.out) (Lib.grownBy_setCell _ b 1 _)⟩
   have hbx : blankB x = false := by simp [blankB, hx32, hx9, hx10]
   rw [hbx] at hin'
   have HIN : Hid (p = r.pos + n) := hin'
   have e32 : ((x.toNat : Int) == 32) = false := u8_ne hx32
   have e9 : ((x.toNat : Int) == 9) = false := u8_ne hx9
   have e10 : ((x.toNat : Int) == 10) = false := u8_ne hx10
   clear hin' hx32 hx9 hx10 hbx
   go_wp2_with fail
   refine wp_region_held_drew (S := fun w' => w'.cell? ⟨b, 0, none⟩ = some (.string r.s) ∧ w'.cell? ⟨b, 1, none⟩ = some (.int .i64 p)) (by kernel_rfl) HS.out (fun hHeld => ?_)
   refine tkv 0 (h := tkv 1 (h := tkv 2 (h := tkv 3 (h := tkv 4 (h := tkv 5 (h := ?_))))))
   refine tkv 6 (h := tkv 7 (h := tkv 8 (h := tkv 9 (h := tkv 10 (h := tkv 11 (h := ?_))))))
   refine tkv 12 (h := tkv 13 (h := tkv 14 (h := tkv 15 (h := tkv 16 (h := tkv 17 (h := ?_))))))
   refine tkv 18 (h := tkv 19 (h := tkv 20 (h := tkv 21 (h := tkv 22 (h := tkv 23 (h := ?_))))))
   refine tkv 24 (h := tkv 25 (h := tkv 26 (h := tkv 27 (h := tkv 28 (h := tkv 29 (h := ?_))))))
   refine tkv 30 (h := tkv 31 (h := tkv 32 (h := tkv 33 (h := tkv 34 (h := tkv 35 (h := ?_))))))
   refine tkv 36 (h := tkv 37 (h := tkv 38 (h := tkv 39 (h := tkv 40 (h := tkv 41 (h := ?_))))))
   refine tkv 42 (h := tkv 43 (h := tkv 44 (h := tkv 45 (h := ?_))))
   refine wpAnyH_done (by kernel_rfl) ?_ _
   clear hHeld
   obtain ⟨h0, h1⟩ := HS.out
   go_wp2_with fail
   go_ret
   refine ⟨?_, ?_, grown_drew hg.out⟩
   ·have := HIN.out
    simp
    omega
   ·have := HR.out.drew
    rw [show r.pos + n = p from by have := HIN.out; omega]; exact this
  ·have HIN : Hid (p = r.pos + n) := by
    show _ = _
    rw [← hin.out, List.drop_eq_nil_of_le (by have := HL.out; omega)]; rfl
   have t3 : decide ((p : Int) < r.s.size) = false := by simp; omega
   have t4 : decide (p < r.s.size) = false := by simp; omega
   clear hin
   go_wp2_with fail
   refine wp_region_held_drew (S := fun w' => w'.cell? ⟨b, 0, none⟩ = some (.string r.s) ∧ w'.cell? ⟨b, 1, none⟩ = some (.int .i64 p)) (by kernel_rfl) HS.out (fun hHeld => ?_)
   refine tkv 0 (h := tkv 1 (h := tkv 2 (h := tkv 3 (h := tkv 4 (h := tkv 5 (h := ?_))))))
   refine tkv 6 (h := tkv 7 (h := tkv 8 (h := tkv 9 (h := tkv 10 (h := ?_)))))
   refine tkn 11 (h := tkn 12 (h := tkn 13 (h := tkn 14 (h := tkn 15 (h := tkn 16 (h := ?_))))))
   refine tkn 17 (h := tkn 18 (h := tkn 19 (h := tkn 20 (h := tkn 21 (h := tkn 22 (h := ?_))))))
   refine tkn 23 (h := tkn 24 (h := tkn 25 (h := tkn 26 (h := tkn 27 (h := tkn 28 (h := ?_))))))
   refine tkn 29 (h := tkn 30 (h := tkn 31 (h := tkn 32 (h := tkn 33 (h := tkn 34 (h := ?_))))))
   refine tkn 35 (h := tkn 36 (h := tkn 37 (h := tkn 38 (h := tkn 39 (h := tkn 40 (h := ?_))))))
   refine tkn 41 (h := tkn 42 (h := tkn 43 (h := tkn 44 (h := ?_))))
   refine tkv 45 (h := ?_)
   refine wpAnyH_done (by kernel_rfl) ?_ _
   clear hHeld
   obtain ⟨h0, h1⟩ := HS.out
   go_wp2_with fail
   go_ret
   refine ⟨?_, ?_, grown_drew hg.out⟩
   ·have := HIN.out
    simp
    omega
   ·have := HR.out.drew
    rw [show r.pos + n = p from by have := HIN.out; omega]; exact this
theorem stop_idx (x : UInt8) : decide (Lib.indexByte [32, 9, 10, 61, 62, 60, 47, 34] x < 0) = nb x := by
 by_cases h1 : x = 32
 ·subst h1; decide
 by_cases h2 : x = 9
 ·subst h2; decide
 by_cases h3 : x = 10
 ·subst h3; decide
 by_cases h4 : x = 61
 ·subst h4; decide
 by_cases h5 : x = 62
 ·subst h5; decide
 by_cases h6 : x = 60
 ·subst h6; decide
 by_cases h7 : x = 47
 ·subst h7; decide
 by_cases h8 : x = 34
 ·subst h8; decide
 simp [Lib.indexByte, nb, h1, h2, h3, h4, h5, h6, h7, h8, Ne.symm h1, Ne.symm h2, Ne.symm h3, Ne.symm h4, Ne.symm h5, Ne.symm h6, Ne.symm h7, Ne.symm h8]
theorem ba_list (s : ByteArray) : s = ⟨s.data.toList.toArray⟩ := by simp
theorem u8_back (x : UInt8) : ((x.toNat : Int)).toNat.toUInt8 = x := by simp
def WordInv (w : World) (b : Nat) (r : Rdr) (n : List UInt8) (g : Nat) (wr : World) : Prop :=
 ∃ p : Nat, r.pos ≤ p ∧ p ≤ r.s.size ∧ g = r.s.size - p ∧ Hid (RdAt wr b { r with pos := p }) ∧ Hid (p + (wordL (r.s.data.toList.drop p)).length = r.pos + n.length) ∧ Hid (w.grownBy wr (some b))
theorem word_any (b : Nat) (r : Rdr) (w : World) (h : RdAt w b r) (hp : r.pos ≤ r.s.size) (hs : r.s.size ≤ 1000000000) (n : List UInt8) (hn : Hid (wordL (r.s.data.toList.drop r.pos) = n)) (v : Bool) (hv : Hid (nameL n = v)) (R : Rdr) (hR : Hid ((if v then { r with pos := r.pos + n.length } else { r with pos := r.pos + n.length, bad := r.pos, code := 31 }) = R)) (T : List UInt8) (hT : Hid ((if v then n else []) = T)) :
  Calls Try.prog 70 #[.pointer (some ⟨b, 0, none⟩)] w (RdPost w b R (.tuple #[.string ⟨T.toArray⟩, .bool v])) := by
 have H := Lib.hid h
 obtain ⟨h0, h1, _⟩ := h.all
 have HL := Lib.hid (size_toList r.s)
 clear h
 go_enter Try.func70, Try.ntmps70
 go_wp2_with fail
 clear h0 h1
 go_loopg [] (r.s.size - r.pos) (fun g wr => WordInv w b r n g wr)
 case atStart => exact ⟨r.pos, Nat.le_refl _, hp, rfl, H.out, by show _ = _; rw [hn.out], World.grownBy.refl w _⟩
 case round =>
  obtain ⟨p, hrp, hk, rfl, HR, hin, hg⟩ := hrel
  have HS : Hid (wr.drew.cell? ⟨b, 0, none⟩ = some (.string r.s) ∧ wr.drew.cell? ⟨b, 1, none⟩ = some (.int .i64 p)) := ⟨HR.out.drew.all.1, HR.out.drew.all.2.1⟩
  by_cases hlt : p < r.s.size
  ·obtain ⟨x, HX⟩ : ∃ x, Hid (r.s.data.toList[p]? = some x) := ⟨r.s.data.toList[p]'(by have := HL.out; omega), List.getElem?_eq_getElem _⟩
   have hsx : r.s[p] = x := getk_of r.s p x HX.out hlt
   have hin' := hin.out
   rw [drop_cons HX.out, wordL_cons] at hin'
   have j0 : (0 : Int) ≤ (p : Int) := by omega
   have j1 : (p : Int) < r.s.size := by omega
   clear hin
   have hst := stop_idx x
   obtain ⟨q, hq⟩ : ∃ q, Hid (Lib.indexByte [32, 9, 10, 61, 62, 60, 47, 34] x = q) := ⟨_, rfl⟩
   rw [hq.out] at hst
   cases hnb : nb x with
   | true =>
    rw [hnb] at hst hin'
    have HIN : Hid (p + 1 + (wordL (r.s.data.toList.drop (p + 1))).length = r.pos + n.length) := by show _ = _; rw [← hin', if_pos rfl, List.length_cons]; omega
    clear hin' hnb
    go_wp2_with fail
    refine wp_region_held_drew (S := fun w' => w'.cell? ⟨b, 0, none⟩ = some (.string r.s) ∧ w'.cell? ⟨b, 1, none⟩ = some (.int .i64 p)) (by kernel_rfl) HS.out (fun hHeld => ?_)
    refine tkv 0 (h := tkv 1 (h := tkv 2 (h := tkv 3 (h := tkv 4 (h := tkv 5 (h := ?_))))))
    refine tkv 6 (h := tkv 7 (h := tkv 8 (h := tkv 9 (h := tkv 10 (h := tkv 11 (h := ?_))))))
    refine tkv 12 (h := tkv 13 (h := tkv 14 (h := tkv 15 (h := tkv 16 (h := tkv 17 (h := ?_))))))
    refine tkv 18 (h := tkv 19 (h := ?_))
    refine rdy 20 (fun K hK => ?_)
    go_simp
    refine (Try.strings_IndexByte _ _ _).mono ?_
    rw [u8_back]
    have hq' := hq.out
    unfold Hid at hq'
    rintro e w2 ⟨rfl, rfl⟩
    rw [show (⟨#[32, 9, 10, 61, 62, 60, 47, 34]⟩ : ByteArray).data.toList = [32, 9, 10, 61, 62, 60, 47, 34] from rfl, hq']
    clear hq'
    go_wp2_with fail
    refine hK.out _ _ (HS.out) (fun hHeld => ?_)
    clear hK K
    try go_frame
    refine tkv 21 (h := tkv 22 (h := ?_))
    refine wpAnyH_done (by kernel_rfl) ?_ _
    clear hHeld
    obtain ⟨h0, h1⟩ := HS.out
    have f1 : wr.drew.frozen? ⟨b, 1, none⟩ = false := HR.out.drew.froz 1
    go_wp2_with fail
    go_roundg (r.s.size - (p + 1))
    case measure => omega
    case rel => exact ⟨p + 1, by omega, by omega, rfl, HR.out.drew.pos (p + 1), HIN, grown_twice (grown_drew hg.out) (Lib.grownBy_setCell _ b 1 _)⟩
   | false =>
    rw [hnb] at hst hin'
    have HIN : Hid (p = r.pos + n.length) := hin'
    clear hin' hnb
    go_wp2_with fail
    refine wp_region_held_drew (S := fun w' => w'.cell? ⟨b, 0, none⟩ = some (.string r.s) ∧ w'.cell? ⟨b, 1, none⟩ = some (.int .i64 p)) (by kernel_rfl) HS.out (fun hHeld => ?_)
    refine tkv 0 (h := tkv 1 (h := tkv 2 (h := tkv 3 (h := tkv 4 (h := tkv 5 (h := ?_))))))
    refine tkv 6 (h := tkv 7 (h := tkv 8 (h := tkv 9 (h := tkv 10 (h := tkv 11 (h := ?_))))))
    refine tkv 12 (h := tkv 13 (h := tkv 14 (h := tkv 15 (h := tkv 16 (h := tkv 17 (h := ?_))))))
    refine tkv 18 (h := tkv 19 (h := ?_))
    refine rdy 20 (fun K hK => ?_)
    go_simp
    refine (Try.strings_IndexByte _ _ _).mono ?_
    rw [u8_back]
    have hq' := hq.out
    unfold Hid at hq'
    rintro e w2 ⟨rfl, rfl⟩
    rw [show (⟨#[32, 9, 10, 61, 62, 60, 47, 34]⟩ : ByteArray).data.toList = [32, 9, 10, 61, 62, 60, 47, 34] from rfl, hq']
    clear hq'
    go_wp2_with fail
    refine hK.out _ _ (HS.out) (fun hHeld => ?_)
    clear hK K
    try go_frame
    refine tkv 21 (h := tkv 22 (h := ?_))
    refine wpAnyH_done (by kernel_rfl) ?_ _
    clear hHeld
    obtain ⟨h0, h1⟩ := HS.out
    have hnl : n.length ≤ (r.s.data.toList.drop r.pos).length := by rw [← hn.out]; exact wordL_len _
    have hext : Hid (r.s.extract r.pos p = ⟨n.toArray⟩) := by
     show _ = _
     rw [ba_list (r.s.extract r.pos p), Lib.extract_data]
     have : (r.s.data.toList.drop r.pos).take (p - r.pos) = n := by
      have hp2 := HIN.out
      rw [show p - r.pos = n.length by omega]
      have h2 := span_word (r.s.data.toList.drop r.pos) nb
      have h3 : (r.s.data.toList.drop r.pos).takeWhile nb = n := hn.out
      rw [h3] at h2
      conv => lhs; rw [h2]
      rw [List.take_append_of_le_length (Nat.le_refl _), List.take_length]
     rw [this]
    have i0 : (0 : Int) ≤ (r.pos : Int) := by omega
    have i1 : (r.pos : Int) ≤ p := by omega
    have i2 : (p : Int) ≤ r.s.size := by omega
    have hsz : n.length ≤ 1000000000 := by rw [List.length_drop, HL.out] at hnl; omega
    clear hnl
    go_wp2_with fail
    refine wp_region_held_drew (S := fun w' => w'.cell? ⟨b, 0, none⟩ = some (.string r.s) ∧ w'.cell? ⟨b, 1, none⟩ = some (.int .i64 p)) (by kernel_rfl) HS.out (fun hHeld => ?_)
    refine tkv 0 (h := tkv 1 (h := tkv 2 (h := tkv 3 (h := tkv 4 (h := tkv 5 (h := ?_))))))
    refine tkv 6 (h := tkv 7 (h := tkv 8 (h := tkv 9 (h := tkv 10 (h := ?_)))))
    refine wpAnyH_done (by kernel_rfl) ?_ _
    clear hHeld h0 h1
    rw [hext.out]
    go_wp2_with fail
    refine (Name_l n _ hsz v hv).mono ?_
    rintro e w2 ⟨rfl, hb2⟩
    have hR2 : RdAt w2 b { r with pos := r.pos + n.length } := by
     rw [← HIN.out]; exact RdAt.below (w := wr.drew.drew) HR.out.drew.drew hb2
    have hg2 : w.grownBy w2 (some b) := Lib.grownBy_below (grown_drew (grown_drew hg.out)) hb2
    cases v with
    | true =>
     go_wp2_with fail
     go_ret2
     exact ⟨by rw [← hT.out]; rfl, by rw [← hR.out]; exact hR2, hg2⟩
    | false =>
     go_wp2_with fail
     refine (fail_any b _ w2 hR2 r.pos 31).mono ?_
     rintro e w3 ⟨rfl, h3, hg3⟩
     go_wp2_with fail
     go_ret2
     exact ⟨by rw [← hT.out]; rfl, by rw [← hR.out]; exact h3, grown_twice hg2 hg3⟩
  ·have HIN : Hid (p = r.pos + n.length) := by
    show _ = _
    rw [← hin.out, List.drop_eq_nil_of_le (by have := HL.out; omega)]; rfl
   have t3 : decide ((p : Int) < r.s.size) = false := by simp; omega
   have t4 : decide (p < r.s.size) = false := by simp; omega
   clear hin
   go_wp2_with fail
   refine wp_region_held_drew (S := fun w' => w'.cell? ⟨b, 0, none⟩ = some (.string r.s) ∧ w'.cell? ⟨b, 1, none⟩ = some (.int .i64 p)) (by kernel_rfl) HS.out (fun hHeld => ?_)
   refine tkv 0 (h := tkv 1 (h := tkv 2 (h := tkv 3 (h := tkv 4 (h := tkv 5 (h := ?_))))))
   refine tkv 6 (h := tkv 7 (h := tkv 8 (h := tkv 9 (h := tkv 10 (h := ?_)))))
   refine tkn 11 (h := tkn 12 (h := tkn 13 (h := tkn 14 (h := tkn 15 (h := tkn 16 (h := ?_))))))
   refine tkn 17 (h := tkn 18 (h := tkn 19 (h := tkn 20 (h := tkn 21 (h := ?_)))))
   refine tkv 22 (h := ?_)
   refine wpAnyH_done (by kernel_rfl) ?_ _
   clear hHeld
   obtain ⟨h0, h1⟩ := HS.out
   have hnl : n.length ≤ (r.s.data.toList.drop r.pos).length := by rw [← hn.out]; exact wordL_len _
   have hext : Hid (r.s.extract r.pos p = ⟨n.toArray⟩) := by
    show _ = _
    rw [ba_list (r.s.extract r.pos p), Lib.extract_data]
    have : (r.s.data.toList.drop r.pos).take (p - r.pos) = n := by
     have hp2 := HIN.out
     rw [show p - r.pos = n.length by omega]
     have h2 := span_word (r.s.data.toList.drop r.pos) nb
     have h3 : (r.s.data.toList.drop r.pos).takeWhile nb = n := hn.out
     rw [h3] at h2
     conv => lhs; rw [h2]
     rw [List.take_append_of_le_length (Nat.le_refl _), List.take_length]
    rw [this]
   have i0 : (0 : Int) ≤ (r.pos : Int) := by omega
   have i1 : (r.pos : Int) ≤ p := by omega
   have i2 : (p : Int) ≤ r.s.size := by omega
   have hsz : n.length ≤ 1000000000 := by rw [List.length_drop, HL.out] at hnl; omega
   clear hnl
   go_wp2_with fail
   refine wp_region_held_drew (S := fun w' => w'.cell? ⟨b, 0, none⟩ = some (.string r.s) ∧ w'.cell? ⟨b, 1, none⟩ = some (.int .i64 p)) (by kernel_rfl) HS.out (fun hHeld => ?_)
   refine tkv 0 (h := tkv 1 (h := tkv 2 (h := tkv 3 (h := tkv 4 (h := tkv 5 (h := ?_))))))
   refine tkv 6 (h := tkv 7 (h := tkv 8 (h := tkv 9 (h := tkv 10 (h := ?_)))))
   refine wpAnyH_done (by kernel_rfl) ?_ _
   clear hHeld h0 h1
   rw [hext.out]
   go_wp2_with fail
   refine (Name_l n _ hsz v hv).mono ?_
   rintro e w2 ⟨rfl, hb2⟩
   have hR2 : RdAt w2 b { r with pos := r.pos + n.length } := by
    rw [← HIN.out]; exact RdAt.below (w := wr.drew.drew) HR.out.drew.drew hb2
   have hg2 : w.grownBy w2 (some b) := Lib.grownBy_below (grown_drew (grown_drew hg.out)) hb2
   cases v with
   | true =>
    go_wp2_with fail
    go_ret2
    exact ⟨by rw [← hT.out]; rfl, by rw [← hR.out]; exact hR2, hg2⟩
   | false =>
    go_wp2_with fail
    refine (fail_any b _ w2 hR2 r.pos 31).mono ?_
    rintro e w3 ⟨rfl, h3, hg3⟩
    go_wp2_with fail
    go_ret2
    exact ⟨by rw [← hT.out]; rfl, by rw [← hR.out]; exact h3, grown_twice hg2 hg3⟩
end
section
open Go.RowKit
/-! Rows laid out flat. -/
theorem flat_length {α β : Type} (f : α → List β) (n : Nat) (hf : ∀ a, (f a).length = n) : ∀ l : List α, (l.flatMap f).length = l.length * n
 | [] => by simp
 | a :: l => by rw [List.flatMap_cons, List.length_append, hf, flat_length f n hf l, List.length_cons, Nat.add_mul]; omega
theorem flat_get {α β : Type} (f : α → List β) (n : Nat) (hf : ∀ a, (f a).length = n) : ∀ (l : List α) (k j : Nat) (a : α), l[k]? = some a → j < n → (l.flatMap f)[k * n + j]? = (f a)[j]?
 | [], k, j, a, h, _ => by simp at h
 | b :: l, 0, j, a, h, hj => by
  simp at h; subst h
  rw [List.flatMap_cons, List.getElem?_append_left (by rw [hf]; omega)]
  simp
 | b :: l, k + 1, j, a, h, hj => by
  rw [List.flatMap_cons, List.getElem?_append_right (by rw [hf, Nat.add_mul]; omega)]
  have e : (k + 1) * n + j - (f b).length = k * n + j := by rw [hf, Nat.add_mul]; omega
  rw [e]
  exact flat_get f n hf l k j a (by simpa using h) hj
theorem own_flat {α : Type} {w : World} {B : Nat} {e : TypeId} {n : Nat} {ad : Option Addr} {c : Nat} {l : List α} (f : α → List Value) (hf : ∀ a, (f a).length = n) (h : w.ownsRow B e n (.slice ad l.length c) l.length (l.flatMap f)) :
  0 < l.length → ∃ g, ad = some ⟨g, 0, none⟩ ∧ B ≤ g ∧ g < w.heap.size ∧ (∃ cur, w.heap[g]? = some (.cells cur e (0, 0))) ∧ ∀ k a j u, l[k]? = some a → (f a)[j]? = some u → w.cell? ((⟨g, 0, none⟩ : Addr).add (k * n + j)) = some u := by
 intro hl
 rcases h.2 with ⟨_, h0⟩ | ⟨g, cap, cur, hv, hb, hc, _⟩
 ·omega
 ·injection hv with hv h2 h3
  subst hv
  refine ⟨g, rfl, hb, (Array.getElem?_eq_some_iff.1 hc).1, ⟨cur, hc⟩, fun k a j u hk hu => ?_⟩
  have hj : j < n := by rw [← hf a]; exact (List.getElem?_eq_some_iff.1 hu).1
  refine h.cells (g := g) rfl _ u ?_
  rw [flat_get f n hf l k j a hk hj]; exact hu
theorem own_type {w : World} {B : Nat} {e : TypeId} {size : Nat} {v : Value} {n : Nat} {xs : List Value} (h : w.ownsRow B e size v n xs) : ∀ g, v.ownBlock = some g → B ≤ g ∧ g < w.heap.size ∧ ∃ cur, w.heap[g]? = some (.cells cur e (0, 0)) := by
 intro g hg
 rcases h.2 with ⟨rfl, _⟩ | ⟨g', cap, cur, rfl, hb, hc, _⟩
 ·cases hg
 ·injection hg with hg
  have hg : g' = g := hg
  subst hg
  exact ⟨hb, (Array.getElem?_eq_some_iff.1 hc).1, cur, hc⟩
theorem own_apart {w : World} {B B' : Nat} {e e' : TypeId} {size size' : Nat} {v v' : Value} {n n' : Nat} {xs xs' : List Value} (h : w.ownsRow B e size v n xs) (h' : w.ownsRow B' e' size' v' n' xs') (he : e ≠ e') : v.ownBlock = none ∨ v.ownBlock ≠ v'.ownBlock := by
 cases hv : v.ownBlock with
 | none => exact .inl rfl
 | some g =>
  refine .inr fun hg => ?_
  obtain ⟨_, _, cur, hc⟩ := own_type h g hv
  obtain ⟨_, _, cur', hc'⟩ := own_type h' g hg.symm
  rw [hc] at hc'
  injection hc' with hc'
  injection hc' with _ hc'
  exact he hc'
theorem appendS {P : Program} {w : World} {ops : Array Oper} {rest : List Oper} {o : Oper} {a : Act} {Q : Exit → Act → World → Prop} (hgd : o.guard = none) (s x : Operand) (t : TypeId)
  (ho : o.op = .call { callee := .builtin .append, args := #[s, x], argTypes := #[t, t] })
  (B : Nat) (e : TypeId) (z : Value) (size bytes : Nat) (ht : P.underlying t = some (.slice e)) (hi : (P.info? e).map (fun i => (i.zero, i.size, i.bytes)) = some (some z, size, bytes))
  (hzs : z.cells.size = size) (hsz : 0 < size)
  (v : Value) (n : Nat) (xs : List Value) (news : List Value) (hs : a.eval s = v) (hown : w.ownsRow B e size v n xs) (hB : B ≤ w.heap.size)
  (X : Nat) (hx : a.eval x = .slice (some ⟨X, 0, none⟩) 1 1) (hX : X = w.heap.size) (hnl : news.length = size) (hu : ∀ u ∈ news, u.oneCell' = true) (hn : n < 4294967296) (hby : bytes ≤ 10000)
  (h : ∀ ad c w', w'.ownsRow B e size (.slice ad (n + 1) c) (n + 1) (xs ++ news) → Below B w w' → w.heap.size < w'.heap.size → (w.alloc (.cells news.toArray e)).grownBy w' v.ownBlock → wpList P ops Q rest (a.put o.dst (.slice ad (n + 1) c)) w') :
  wpList P ops Q (o :: rest) a (w.alloc (.cells news.toArray e)) := by
 subst hX
 obtain ⟨i0, hi0, hz0, hz1, hz2⟩ := info_parts hi
 refine wpList_append_own _ hgd s x t ho B e i0 z size bytes ht hi0 hz0 hz1 hz2 hzs hsz v n xs hs (hown.alloc _) ⟨w.heap.size, 0, none⟩ 1 1 news hx (by rw [hnl]; omega) ?_ hu
  (by unfold maxLen; omega) ?_ (by simp; omega) ?_
 ·intro j u hj
  have e : (⟨w.heap.size, 0, none⟩ : Addr).add j = ⟨w.heap.size, j, none⟩ := by unfold Addr.add; split <;> simp_all
  have hjl : j < news.length := (List.getElem?_eq_some_iff.1 hj).1
  rw [e, World.cell?_alloc_at _ _ _ _ (by simp)]
  simp [hj]
 ·have : (n + 1) * bytes ≤ 4294967296 * 10000 := Nat.mul_le_mul (by omega) hby
  omega
 ·intro v' w' hown' hg _
  obtain ⟨ad, c, rfl⟩ : ∃ ad c, v' = .slice ad (n + 1) c := by
   rcases hown'.2 with ⟨_, h0⟩ | ⟨g, c, cur, hv, _⟩
   ·omega
   ·exact ⟨_, c, hv⟩
  have hsz' := hg.size
  simp at hsz'
  exact h ad c w' hown' (((Below.refl B w).alloc hB _).grown hg (by simp; omega) (fun k hk => (hown.lt k hk).1)) (by omega) hg
theorem own_grown {w w' : World} {B B' : Nat} {e e' : TypeId} {size size' : Nat} {v v' : Value} {n n' : Nat} {xs xs' : List Value} (h : w.ownsRow B e size v n xs) (h' : w.ownsRow B' e' size' v' n' xs') (he : e ≠ e') (hg : w.grownBy w' v'.ownBlock) : w'.ownsRow B e size v n xs :=
 h.kept hg (own_apart h h' he)
end
section
open Go.RowKit
def cellsA (a : AttrD) : List Value := [strV a.name, strV a.value]
abbrev Slot := ItemD × Option Addr × Nat
def cellsI (s : Slot) : List Value := [.int .i64 s.1.level, .int .i64 s.1.kind, strV s.1.name, strV s.1.text, .slice s.2.1 s.1.attrs.length s.2.2]
theorem cellsA_length (a : AttrD) : (cellsA a).length = 2 := rfl
theorem cellsI_length (s : Slot) : (cellsI s).length = 5 := rfl
def AttrsOwn (w : World) (B : Nat) (A : Option Addr) (c : Nat) (l : List AttrD) : Prop := w.ownsRow B 44 2 (.slice A l.length c) l.length (l.flatMap cellsA)
def ItemsOwn (w : World) (B : Nat) (A : Option Addr) (c : Nat) (S : List Slot) : Prop := w.ownsRow B 50 5 (.slice A S.length c) S.length (S.flatMap cellsI)
theorem add_zero_block (g k : Nat) : ((⟨g, 0, none⟩ : Addr).add k) = ⟨g, k, none⟩ := by unfold Addr.add; split <;> simp_all
theorem AttrsOwn.at {w : World} {B : Nat} {A : Option Addr} {c : Nat} {l : List AttrD} (h : AttrsOwn w B A c l) : AttrsAt w w.heap.size A l := fun hl => by
 obtain ⟨g, rfl, hb, hg, _, hc⟩ := own_flat cellsA cellsA_length h hl
 refine ⟨_, rfl, hg, fun k a ha => ⟨?_, ?_⟩⟩
 ·have := hc k a 0 (strV a.name) ha rfl
  simpa using this
 ·have := hc k a 1 (strV a.value) ha rfl
  rw [add_zero_block] at this ⊢
  exact this
theorem AttrsOwn.cap {w : World} {B : Nat} {A : Option Addr} {c : Nat} {l : List AttrD} (h : AttrsOwn w B A c l) : l.length ≤ c := by
 rcases h.2 with ⟨h1, h2⟩ | ⟨g, cap, cur, h1, _, _, h4, _⟩
 ·omega
 ·injection h1 with _ _ h3; omega
theorem ItemsOwn.at {w : World} {B : Nat} {A : Option Addr} {c : Nat} {S : List Slot} (h : ItemsOwn w B A c S) (ha : ∀ s ∈ S, AttrsAt w w.heap.size s.2.1 s.1.attrs ∧ s.1.attrs.length ≤ s.2.2) : ItemsAt w w.heap.size A (S.map (·.1)) := fun hl => by
 have hl' : 0 < S.length := by simpa using hl
 obtain ⟨g, rfl, hb, hg, _, hc⟩ := own_flat cellsI cellsI_length h hl'
 refine ⟨_, rfl, hg, fun k x hx => ?_⟩
 rw [List.getElem?_map] at hx
 obtain ⟨s, hs, rfl⟩ := Option.map_eq_some_iff.1 hx
 obtain ⟨h1, h2⟩ := ha s (List.mem_of_getElem? hs)
 have e : ∀ j u, (cellsI s)[j]? = some u → w.cell? ⟨g, k * 5 + j, none⟩ = some u := fun j u hu => by
  have := hc k s j u hs hu
  rwa [add_zero_block] at this
 refine ⟨s.2.1, s.2.2, h1, h2, ?_⟩
 rw [add_zero_block]
 exact ⟨e 0 _ rfl, e 1 _ rfl, e 2 _ rfl, e 3 _ rfl, e 4 _ rfl⟩
theorem infoAttr : (Try.prog.info? 44).map (fun i => (i.zero, i.size, i.bytes)) = some (some (.agg #[.string ByteArray.empty, .string ByteArray.empty]), 2, 32) := by kernel_rfl
theorem AttrsAt.flat {w : World} {B : Nat} {ad : Addr} {l : List AttrD} (h : AttrsAt w B (some ad) l) : ∀ j u, (l.flatMap cellsA)[j]? = some u → w.cell? (ad.add j) = some u := by
 intro j u hu
 have hlen := flat_length cellsA 2 cellsA_length l
 have hj : j < l.length * 2 := by rw [← hlen]; exact (List.getElem?_eq_some_iff.1 hu).1
 obtain ⟨q, r, hr, rfl⟩ : ∃ q r, r < 2 ∧ j = q * 2 + r := ⟨j / 2, j % 2, by omega, by omega⟩
 have hq : q < l.length := by omega
 have hx : l[q]? = some l[q] := List.getElem?_eq_getElem hq
 rw [flat_get cellsA 2 cellsA_length l q r _ hx hr] at hu
 obtain ⟨ad', e, _, hc⟩ := h (by omega)
 injection e with e; subst e
 obtain ⟨h0, h1⟩ := hc q _ hx
 match r, hr, hu with
 | 0, _, hu => injection hu with hu; subst hu; exact h0
 | 1, _, hu =>
  injection hu with hu; subst hu
  have : ad.add (q * 2 + 1) = ⟨(ad.add (q * 2)).block, (ad.add (q * 2)).off + 1, none⟩ := by
   rw [← add_of_add]; rfl
  rw [this]; exact h1
theorem cellsA_one (l : List AttrD) : ∀ u ∈ l.flatMap cellsA, u.oneCell' = true := by
 intro u hu
 obtain ⟨a, _, ha⟩ := List.mem_flatMap.1 hu
 simp [cellsA, strV] at ha
 rcases ha with rfl | rfl <;> rfl
def ClonePost (w : World) (l : List AttrD) (e : Ending) (w' : World) : Prop := ∃ A c, e = .returned (.slice A l.length c) ∧ AttrsOwn w' w.heap.size A c l ∧ Below w.heap.size w w'
end
section
open Go.RowKit
def Rdr.new (s : ByteArray) (pos place : Nat) : Rdr := ⟨s, pos, 0, place, [], [], none, 0, 0, 0, 0⟩
def TokPost (w : World) (B b : Nat) (s : ByteArray) (pos place : Nat) (V : Told TokD) (e : Ending) (w' : World) : Prop :=
 Below B w w' ∧ match V with
 | .ok t n => e = .returned (.bool true) ∧ ∃ A c, RdAt w' b ⟨s, pos + n, t.kind, place, t.name, t.text, A, t.attrs.length, c, 0, 0⟩ ∧ AttrsOwn w' B A c t.attrs
 | .bad k c => e = .returned (.bool false) ∧ ∃ R : Rdr, RdAt w' b R ∧ R.bad = ((pos + k : Nat) : Int) ∧ R.code = c
theorem below_of_grown {w w' : World} {B b : Nat} (hg : w.grownBy w' (some b)) (hb : B ≤ b) (hw : B ≤ w.heap.size) : Below B w w' :=
 (Below.refl B w).grown hg hw (fun k hk => by injection hk with hk; omega)
theorem idx_not (c : UInt8) : ∀ l : List UInt8, (l.takeWhile (· != c)).length = l.length → Lib.indexByte l c = -1
 | [], _ => rfl
 | a :: l, h => by
  rw [List.takeWhile_cons] at h
  by_cases ha : a = c
  ·subst ha; simp at h
  ·have hb : (a != c) = true := by simpa using ha
   rw [if_pos hb] at h
   simp only [List.length_cons] at h
   rw [Lib.indexByte, idx_not c l (by omega)]
   simp [ha]
theorem idx_yes (c : UInt8) : ∀ l : List UInt8, (l.takeWhile (· != c)).length ≠ l.length → Lib.indexByte l c = ((l.takeWhile (· != c)).length : Nat)
 | [], h => absurd rfl h
 | a :: l, h => by
  rw [List.takeWhile_cons] at h ⊢
  by_cases ha : a = c
  ·subst ha; simp [Lib.indexByte]
  ·have hb : (a != c) = true := by simpa using ha
   rw [if_pos hb] at h ⊢
   simp only [List.length_cons] at h ⊢
   rw [Lib.indexByte, idx_yes c l (by omega)]
   have : ((((l.takeWhile (· != c)).length : Nat) : Int) == -1) = false := by simp
   simp [ha, this]
theorem textT_of {l t u : List UInt8} {n : Nat} {e : Int} (ht : l.takeWhile (· != 60) = t) (hu : undoL false t = (u, n, e)) :
  textT l = if e ≠ 0 then .bad n e else if 1500 < u.length then .bad 0 34 else .ok ⟨4, [], u, []⟩ t.length := by
 unfold textT
 simp only [ht, hu]
theorem undone_at (b : Nat) (r : Rdr) (w : World) (h : RdAt w b r) (i j : Nat) (hij : i ≤ j) (hj : j ≤ r.s.size) (hs : r.s.size ≤ 1000000000) (v : Bool) (V : List UInt8 × Nat × Int) (hV : Hid (undoL v ((r.s.data.toList.drop i).take (j - i)) = V)) (jI : Int) (hjI : Hid (jI = j)) :
  Calls Try.prog 67 #[.pointer (some ⟨b, 0, none⟩), .int .i64 i, .int .i64 jI, .bool v] w (RdPost w b (if V.2.2 = 0 then r else { r with bad := (i : Int) + V.2.1, code := V.2.2 }) (.tuple #[.string ⟨(if V.2.2 = 0 then V.1 else []).toArray⟩, .bool (decide (V.2.2 = 0))])) := by
 have e := hjI.out
 subst e
 exact undone_any b r w h i j hij hj hs v V hV
theorem text_any (b B : Nat) (s : ByteArray) (pos place : Nat) (w : World) (h : RdAt w b (Rdr.new s pos place)) (hB : B ≤ b) (hBw : B ≤ w.heap.size) (hp : pos ≤ s.size) (hs : s.size ≤ 1000000000) (V : Told TokD) (hV : Hid (textT (s.data.toList.drop pos) = V)) :
  Calls Try.prog 40 #[.pointer (some ⟨b, 0, none⟩)] w (TokPost w B b s pos place V) := by
 have HR : Hid (RdAt w.drew b (Rdr.new s pos place)) := h.drew
 have HL := Lib.hid (size_toList s)
 have hx : Hid ((s.extract pos s.size).data.toList = s.data.toList.drop pos) := Lib.extract_to_end _ _
 have HS : Hid (w.drew.cell? ⟨b, 0, none⟩ = some (.string s) ∧ w.drew.cell? ⟨b, 1, none⟩ = some (.int .i64 pos)) := ⟨h.all.1, h.all.2.1⟩
 have HR1 : Hid (RdAt (w.setCell ⟨b, 1, none⟩ (.int .i64 s.size)) b { Rdr.new s pos place with pos := s.size }) := h.pos s.size
 have i0 : (0 : Int) ≤ (pos : Int) := by omega
 have i1 : (pos : Int) ≤ s.size := by omega
 obtain ⟨t, ht⟩ : ∃ t, Hid ((s.data.toList.drop pos).takeWhile (· != 60) = t) := ⟨_, rfl⟩
 obtain ⟨k, hk⟩ : ∃ k, Hid (t.length = k) := ⟨_, rfl⟩
 have hkl : pos + k ≤ s.size := by
  have := takeWhile_len (· != 60) (s.data.toList.drop pos)
  rw [ht.out, hk.out, List.length_drop, HL.out] at this; omega
 have htk : Hid ((s.data.toList.drop pos).take (pos + k - pos) = t) := by
  show _ = _
  have h2 := span_word (s.data.toList.drop pos) (· != 60)
  rw [ht.out] at h2
  rw [show pos + k - pos = t.length by have := hk.out; omega]
  conv => lhs; rw [h2]
  rw [List.take_append_of_le_length (Nat.le_refl _), List.take_length]
 obtain ⟨u, n, e, hu⟩ : ∃ u n e, Hid (undoL false t = (u, n, e)) := ⟨_, _, _, rfl⟩
 have hU : Hid (undoL false ((s.data.toList.drop pos).take (pos + k - pos)) = (u, n, e)) := by show _ = _; rw [htk.out]; exact hu.out
 have HY : Hid ((w.setCell ⟨b, 1, none⟩ (.int .i64 s.size)).cell? ⟨b, 0, none⟩ = some (.string s) ∧ (w.setCell ⟨b, 1, none⟩ (.int .i64 s.size)).cell? ⟨b, 1, none⟩ = some (.int .i64 s.size)) := ⟨HR1.out.all.1, HR1.out.all.2.1⟩
 by_cases hlast : k = s.size - pos
 ·have hq : Hid (Lib.indexByte (s.data.toList.drop pos) 60 = -1) := idx_not 60 _ (by rw [ht.out, hk.out, List.length_drop, HL.out]; exact hlast)
  have HG : Hid (True ∧ True) := ⟨trivial, trivial⟩
  have HR2 : Hid (RdAt (w.setCell ⟨b, 1, none⟩ (.int .i64 s.size)) b { Rdr.new s pos place with pos := pos + k }) := by
   rw [show pos + k = s.size by omega]; exact HR1.out
  have hJ : Hid ((s.size : Int) = ((pos + k : Nat) : Int)) := by show _ = _; omega
  clear h hlast
  go_enter Try.func40, Try.ntmps40
  go_wp2_with fail
  refine wp_region_held_drew (S := fun w' => w'.cell? ⟨b, 0, none⟩ = some (.string s) ∧ w'.cell? ⟨b, 1, none⟩ = some (.int .i64 pos)) (by kernel_rfl) HS.out (fun hHeld => ?_)
  refine tkv 0 (h := tkv 1 (h := tkv 2 (h := tkv 3 (h := tkv 4 (h := tkv 5 (h := ?_))))))
  refine tkv 6 (h := tkv 7 (h := tkv 8 (h := tkv 9 (h := tkv 10 (h := tkv 11 (h := ?_))))))
  refine tkv 12 (h := ?_)
  refine rdy 13 (fun K hK => ?_)
  go_simp
  refine (Try.strings_IndexByte _ _ _).mono ?_
  rw [hx.out]
  rintro e w2 ⟨rfl, rfl⟩
  rw [show ((60 : Int)).toNat.toUInt8 = 60 from rfl, hq.out]
  go_wp2_with fail
  refine hK.out _ _ (HS.out) (fun hHeld => ?_)
  clear hK K
  try go_frame
  refine tkv 14 (h := tkv 15 (h := ?_))
  refine wpAnyH_done (by kernel_rfl) ?_ _
  clear hHeld
  obtain ⟨g0, g1⟩ := HG.out
  obtain ⟨y0, y1⟩ := HY.out
  have f1 : w.drew.frozen? ⟨b, 1, none⟩ = false := HR.out.froz 1
  have f2 : (w.setCell ⟨b, 1, none⟩ (.int .i64 s.size)).frozen? ⟨b, 1, none⟩ = false := HR1.out.froz 1
  obtain ⟨h0, h1⟩ := HS.out
  go_wp2_with fail
  refine (undone_at b { Rdr.new s pos place with pos := pos + k } (w.setCell ⟨b, 1, none⟩ (.int .i64 s.size)).drew HR2.out.drew pos (pos + k) (Nat.le_add_right _ _) hkl hs false (u, n, e) hU (s.size : Int) hJ).mono ?_
  rintro e2 W2 ⟨rfl, hW2, hg2⟩
  clear h0 h1 y0 y1 f1 f2 g0 g1
  have hgW : w.grownBy W2 (some b) := grown_twice (grown_drew (Lib.grownBy_setCell w b 1 _)) hg2
  by_cases he : e = 0
  ·subst he
   have hW2' : RdAt W2 b { Rdr.new s pos place with pos := pos + k } := hW2
   clear hW2
   by_cases hlong : 1500 < u.length
   ·have hlong' : (1500 : Int) < u.length := by omega
    have HV : Hid (V = .bad 0 34) := by show _ = _; rw [← hV.out, textT_of ht.out hu.out, if_neg (by simp), if_pos hlong]
    clear hlong
    go_wp2_with fail
    refine (fail_any b _ W2 hW2' pos 34).mono ?_
    rintro e3 W3 ⟨rfl, hW3, hg3⟩
    go_wp2_with fail
    go_ret
    rw [HV.out]
    exact ⟨below_of_grown (grown_twice hgW hg3) hB hBw, rfl, _, hW3, rfl, rfl⟩
   ·have hlong' : (u.length : Int) ≤ 1500 := by omega
    have HV : Hid (V = .ok ⟨4, [], u, []⟩ k) := by show _ = _; rw [← hV.out, textT_of ht.out hu.out, if_neg (by simp), if_neg hlong, hk.out]
    clear hlong
    have HW2 := Lib.hid hW2'
    obtain ⟨_, _, z2, _, _, z5, _⟩ := hW2'.all
    have zf2 := hW2'.froz 2
    have zf5 := hW2'.froz 5
    clear hW2'
    go_wp2_with fail
    go_ret
    rw [HV.out]
    exact ⟨below_of_grown (Lib.grownBy_setB (Lib.grownBy_setB hgW 2 _) 5 _) hB hBw, rfl, none, 0, (HW2.out.kind 4).text u, World.ownsRow_nil _ _ _ _⟩
  ·have HV : Hid (V = .bad n e) := by show _ = _; rw [← hV.out, textT_of ht.out hu.out, if_pos he]
   have hd : decide (e = 0) = false := decide_eq_false he
   have HE := Lib.hid he
   clear he
   go_wp2_with fail
   go_ret
   rw [HV.out]
   refine ⟨below_of_grown hgW hB hBw, rfl, ?_⟩
   have hW2' : RdAt W2 b (if e = 0 then { Rdr.new s pos place with pos := pos + k } else { { Rdr.new s pos place with pos := pos + k } with bad := (pos : Int) + n, code := e }) := hW2
   rw [if_neg HE.out] at hW2'
   exact ⟨_, hW2', rfl, rfl⟩
 ·have hq : Hid (Lib.indexByte (s.data.toList.drop pos) 60 = (k : Nat)) := by
   show _ = _
   rw [← hk.out, ← ht.out]
   exact idx_yes 60 _ (by rw [ht.out, hk.out, List.length_drop, HL.out]; exact hlast)
  have HR2 : Hid (RdAt ((w.setCell ⟨b, 1, none⟩ (.int .i64 s.size)).setCell ⟨b, 1, none⟩ (.int .i64 ((pos : Int) + k))) b { Rdr.new s pos place with pos := pos + k }) := HR1.out.pos (pos + k)
  have HG : Hid (((w.setCell ⟨b, 1, none⟩ (.int .i64 s.size)).setCell ⟨b, 1, none⟩ (.int .i64 ((pos : Int) + k))).cell? ⟨b, 0, none⟩ = some (.string s) ∧ ((w.setCell ⟨b, 1, none⟩ (.int .i64 s.size)).setCell ⟨b, 1, none⟩ (.int .i64 ((pos : Int) + k))).cell? ⟨b, 1, none⟩ = some (.int .i64 ((pos : Int) + k))) := ⟨HR2.out.all.1, HR2.out.all.2.1⟩
  have hJ : Hid (((pos : Int) + k) = ((pos + k : Nat) : Int)) := by show _ = _; omega
  clear h hlast
  go_enter Try.func40, Try.ntmps40
  go_wp2_with fail
  refine wp_region_held_drew (S := fun w' => w'.cell? ⟨b, 0, none⟩ = some (.string s) ∧ w'.cell? ⟨b, 1, none⟩ = some (.int .i64 pos)) (by kernel_rfl) HS.out (fun hHeld => ?_)
  refine tkv 0 (h := tkv 1 (h := tkv 2 (h := tkv 3 (h := tkv 4 (h := tkv 5 (h := ?_))))))
  refine tkv 6 (h := tkv 7 (h := tkv 8 (h := tkv 9 (h := tkv 10 (h := tkv 11 (h := ?_))))))
  refine tkv 12 (h := ?_)
  refine rdy 13 (fun K hK => ?_)
  go_simp
  refine (Try.strings_IndexByte _ _ _).mono ?_
  rw [hx.out]
  rintro e w2 ⟨rfl, rfl⟩
  rw [show ((60 : Int)).toNat.toUInt8 = 60 from rfl, hq.out]
  go_wp2_with fail
  refine hK.out _ _ (HS.out) (fun hHeld => ?_)
  clear hK K
  try go_frame
  refine tkv 14 (h := tkv 15 (h := ?_))
  refine wpAnyH_done (by kernel_rfl) ?_ _
  clear hHeld
  obtain ⟨g0, g1⟩ := HG.out
  obtain ⟨y0, y1⟩ := HY.out
  have f1 : w.drew.frozen? ⟨b, 1, none⟩ = false := HR.out.froz 1
  have f2 : (w.setCell ⟨b, 1, none⟩ (.int .i64 s.size)).frozen? ⟨b, 1, none⟩ = false := HR1.out.froz 1
  obtain ⟨h0, h1⟩ := HS.out
  go_wp2_with fail
  refine (undone_at b { Rdr.new s pos place with pos := pos + k } ((w.setCell ⟨b, 1, none⟩ (.int .i64 s.size)).setCell ⟨b, 1, none⟩ (.int .i64 ((pos : Int) + k))).drew HR2.out.drew pos (pos + k) (Nat.le_add_right _ _) hkl hs false (u, n, e) hU ((pos : Int) + k) hJ).mono ?_
  rintro e2 W2 ⟨rfl, hW2, hg2⟩
  clear h0 h1 y0 y1 f1 f2 g0 g1
  have hgW : w.grownBy W2 (some b) := grown_twice (grown_drew (Lib.grownBy_setB (Lib.grownBy_setCell w b 1 _) 1 _)) hg2
  by_cases he : e = 0
  ·subst he
   have hW2' : RdAt W2 b { Rdr.new s pos place with pos := pos + k } := hW2
   clear hW2
   by_cases hlong : 1500 < u.length
   ·have hlong' : (1500 : Int) < u.length := by omega
    have HV : Hid (V = .bad 0 34) := by show _ = _; rw [← hV.out, textT_of ht.out hu.out, if_neg (by simp), if_pos hlong]
    clear hlong
    go_wp2_with fail
    refine (fail_any b _ W2 hW2' pos 34).mono ?_
    rintro e3 W3 ⟨rfl, hW3, hg3⟩
    go_wp2_with fail
    go_ret
    rw [HV.out]
    exact ⟨below_of_grown (grown_twice hgW hg3) hB hBw, rfl, _, hW3, rfl, rfl⟩
   ·have hlong' : (u.length : Int) ≤ 1500 := by omega
    have HV : Hid (V = .ok ⟨4, [], u, []⟩ k) := by show _ = _; rw [← hV.out, textT_of ht.out hu.out, if_neg (by simp), if_neg hlong, hk.out]
    clear hlong
    have HW2 := Lib.hid hW2'
    obtain ⟨_, _, z2, _, _, z5, _⟩ := hW2'.all
    have zf2 := hW2'.froz 2
    have zf5 := hW2'.froz 5
    clear hW2'
    go_wp2_with fail
    go_ret
    rw [HV.out]
    exact ⟨below_of_grown (Lib.grownBy_setB (Lib.grownBy_setB hgW 2 _) 5 _) hB hBw, rfl, none, 0, (HW2.out.kind 4).text u, World.ownsRow_nil _ _ _ _⟩
  ·have HV : Hid (V = .bad n e) := by show _ = _; rw [← hV.out, textT_of ht.out hu.out, if_pos he]
   have hd : decide (e = 0) = false := decide_eq_false he
   have HE := Lib.hid he
   clear he
   go_wp2_with fail
   go_ret
   rw [HV.out]
   refine ⟨below_of_grown hgW hB hBw, rfl, ?_⟩
   have hW2' : RdAt W2 b (if e = 0 then { Rdr.new s pos place with pos := pos + k } else { { Rdr.new s pos place with pos := pos + k } with bad := (pos : Int) + n, code := e }) := hW2
   rw [if_neg HE.out] at hW2'
   exact ⟨_, hW2', rfl, rfl⟩
theorem end_any (b B : Nat) (s : ByteArray) (pos place : Nat) (w : World) (h : RdAt w b (Rdr.new s pos place)) (hB : B ≤ b) (hBw : B ≤ w.heap.size) (hp : pos ≤ s.size) (hs : s.size ≤ 1000000000) (V : Told TokD) (hV : Hid (endT (s.data.toList.drop pos) = V)) :
  Calls Try.prog 42 #[.pointer (some ⟨b, 0, none⟩)] w (TokPost w B b s pos place V) := by
 have HL := Lib.hid (size_toList s)
 obtain ⟨n, hn⟩ : ∃ n, Hid (wordL (s.data.toList.drop pos) = n) := ⟨_, rfl⟩
 obtain ⟨v, hv⟩ : ∃ v, Hid (nameL n = v) := ⟨_, rfl⟩
 have hn1 : pos + n.length ≤ s.size := by
  have := wordL_len (s.data.toList.drop pos)
  rw [hn.out, List.length_drop, HL.out] at this; omega
 cases v with
 | false =>
  have HV : Hid (V = .bad 0 31) := by
   show _ = _
   rw [← hV.out]
   unfold endT
   simp only [hn.out, hv.out]
   rw [if_pos trivial]
  go_enter Try.func42, Try.ntmps42
  go_wp2_with fail
  refine (word_any b (Rdr.new s pos place) w h hp hs n hn false hv _ rfl [] rfl).mono ?_
  rintro e W1 ⟨rfl, hW1, hg1⟩
  go_wp2_with fail
  go_ret
  rw [HV.out]
  exact ⟨below_of_grown hg1 hB hBw, rfl, _, hW1, rfl, rfl⟩
 | true =>
  obtain ⟨k, hk⟩ : ∃ k, Hid (skipL (s.data.toList.drop (pos + n.length)) = k) := ⟨_, rfl⟩
  have hk1 : pos + n.length + k ≤ s.size := by
   have := skipL_len (s.data.toList.drop (pos + n.length))
   rw [hk.out, List.length_drop, HL.out] at this; omega
  obtain ⟨m, hm⟩ : ∃ m, Hid (pre [62] (s.data.toList.drop (pos + n.length + k)) = m) := ⟨_, rfl⟩
  have hVE : Hid (V = if m then .ok ⟨2, n, [], []⟩ (n.length + k + 1) else .bad (n.length + k) 30) := by
   show _ = _
   rw [← hV.out]
   unfold endT
   simp only [hn.out, hv.out, List.drop_drop, hk.out]
   rw [if_neg (by simp), show pos + (n.length + k) = pos + n.length + k by omega, hm.out]
  go_enter Try.func42, Try.ntmps42
  go_wp2_with fail
  refine (word_any b (Rdr.new s pos place) w h hp hs n hn true hv _ rfl n rfl).mono ?_
  rintro e W1 ⟨rfl, hW1, hg1⟩
  have hW1' : RdAt W1 b { Rdr.new s pos place with pos := pos + n.length } := hW1
  go_wp2_with fail
  refine (blanks_any b _ W1 hW1' hn1 hs k hk).mono ?_
  rintro e W2 ⟨rfl, hW2, hg2⟩
  have hW2' : RdAt W2 b { Rdr.new s pos place with pos := pos + n.length + k } := hW2
  obtain ⟨_, _, z2, _, z4, _⟩ := hW2'.all
  have zf2 := hW2'.froz 2
  have zf4 := hW2'.froz 4
  have hW3 : Hid (RdAt ((W2.setCell ⟨b, 2, none⟩ (.int .i64 2)).setCell ⟨b, 4, none⟩ (.string ⟨n.toArray⟩)) b { Rdr.new s pos place with pos := pos + n.length + k, kind := 2, name := n }) := (hW2'.kind 2).name n
  have hg3 : w.grownBy ((W2.setCell ⟨b, 2, none⟩ (.int .i64 2)).setCell ⟨b, 4, none⟩ (.string ⟨n.toArray⟩)) (some b) := Lib.grownBy_setB (Lib.grownBy_setB (grown_twice hg1 hg2) 2 _) 4 _
  clear hW2 hW2' hW1 hW1' h
  go_wp2_with fail
  refine (must_any b _ _ hW3.out [62] hk1 hs m hm (by decide)).mono ?_
  rintro e W4 ⟨rfl, hW4, hg4⟩
  go_wp2_with fail
  go_ret
  cases m with
  | true =>
   rw [hVE.out, if_pos rfl]
   refine ⟨below_of_grown (grown_twice hg3 hg4) hB hBw, rfl, none, 0, ?_, World.ownsRow_nil _ _ _ _⟩
   have hW4' : RdAt W4 b { Rdr.new s pos place with pos := pos + n.length + k + 1, kind := 2, name := n } := hW4
   rw [show pos + (n.length + k + 1) = pos + n.length + k + 1 by omega]
   exact hW4'
  | false =>
   rw [hVE.out, if_neg (by decide)]
   refine ⟨below_of_grown (grown_twice hg3 hg4) hB hBw, rfl, _, hW4, ?_, rfl⟩
   show ((pos + n.length + k : Nat) : Int) = _
   rw [show pos + (n.length + k) = pos + n.length + k by omega]
end
section
open Go.RowKit
theorem beq_str (a c : List UInt8) : (ByteArray.toList ⟨a.toArray⟩ == ByteArray.toList ⟨c.toArray⟩) = decide (a = c) := by
 rw [ByteArray.toList_eq, ByteArray.toList_eq]
 show (a.toArray.toList == c.toArray.toList) = _
 cases h : (a == c) <;> simp_all
end
end Go.Proofs.Ythifddkmbjnncaa
namespace Go.Proofs
open Go.Shelf Go.RowKit
def Try.laysH8_ren : Go.Shelf.Ren := ⟨fun | 6 => 139 | 8 => 117 | n => n, fun | 0 => 0 | 3 => 3 | 4 => 4 | 22 => 31 | 23 => 44 | 25 => 137 | n => n, fun | n => n⟩
theorem Try.laysH8 : Go.Proofs.SlLaysH0.n8 Try.prog Try.laysH8_ren := {
 mixed := by kernel_rfl
 f6 := ⟨ "slices.IndexFunc[[]incunable/api.Attr,incunable/api.Attr]", by decide, Try.func139.trans (congrArg some (by kernel_rfl))⟩
 f8 := ⟨ "slices.ContainsFunc[[]incunable/api.Attr,incunable/api.Attr]", by decide, Try.func117.trans (congrArg some (by kernel_rfl))⟩
 t0 := Try.underlying0
 a0 := Try.isAgg0
 z0 := Try.sizeOf0
 v0 := Try.zeroValue0
 t3 := Try.underlying3
 a3 := Try.isAgg3
 z3 := Try.sizeOf3
 v3 := Try.zeroValue3
 t4 := Try.underlying4
 a4 := Try.isAgg4
 z4 := Try.sizeOf4
 v4 := Try.zeroValue4
 t22 := Try.underlying31
 a22 := Try.isAgg31
 z22 := Try.sizeOf31
 v22 := Try.zeroValue31
 t25 := Try.underlying137
 a25 := Try.isAgg137
 z25 := Try.sizeOf137
 v25 := Try.zeroValue137 }
end Go.Proofs
namespace Go.Proofs.Ythifddkmbjnncaa
set_option maxRecDepth 100000
set_option maxHeartbeats 16000000
section
open Go.RowKit Go.Shelf
theorem has1_any (n : List UInt8) (g : Nat) (w : World) (hg : g < w.heap.size) (hcell : w.cell? ⟨g, 0, none⟩ = some (.string ⟨n.toArray⟩)) :
  PredBelow Try.prog 118 #[.pointer (some ⟨g, 0, none⟩)] (fun a : AttrD => .agg (cellsA a).toArray) (fun a => decide (a.name = n)) w := fun W a hb => by
 have hc : W.cell? ⟨g, 0, none⟩ = some (.string ⟨n.toArray⟩) := (hb.cell (p := ⟨g, 0, none⟩) hg).trans hcell
 have hBW : g < W.heap.size := Nat.lt_of_lt_of_le hg hb.size
 have hne : g ≠ W.heap.size := by omega
 have hbe := beq_str a.name n
 show Calls Try.prog 118 #[.agg #[.string ⟨a.name.toArray⟩, .string ⟨a.value.toArray⟩], .pointer (some ⟨g, 0, none⟩)] W _
 go_enter Try.func118, Try.ntmps118
 go_wp2_with fail
 go_ret
 exact ⟨ret_bool (by rw [Bool.eq_iff_iff, beq_iff_eq, decide_eq_true_iff]), hb.alloc hb.size _⟩
theorem IndexA_none (p : Option Addr) (c : Nat) (fv : Value) (w : World) :
  Calls Try.prog 139 #[.slice p 0 c, fv] w fun e w' => e = .returned (.int .i64 (-1)) ∧ w = w' := by
 go_enter Try.func139, Try.ntmps139
 go_wp2_with fail
 refine wp_loop_rounds 1 ?_
 rw [rounds_succ]
 go_wp2_with fail
 go_ret
 exact ⟨rfl, rfl⟩
theorem ContainsA_none (p : Option Addr) (c : Nat) (fv : Value) (w : World) :
  Calls Try.prog 117 #[.slice p 0 c, fv] w fun e w' => e = .returned (.bool false) ∧ w = w' := by
 go_enter Try.func117, Try.ntmps117
 go_wp2_with fail
 refine (IndexA_none p c fv w).mono ?_
 rintro e w' ⟨rfl, rfl⟩
 go_wp2_with fail
 go_ret
 exact ⟨rfl, rfl⟩
theorem ContainsA_any (l : List AttrD) (A : Option Addr) (c B : Nat) (n : List UInt8) (g : Nat) (w : World) (hA : AttrsOwn w B A c l) (hl : l.length ≤ 1000) (hg : g < w.heap.size) (hcell : w.cell? ⟨g, 0, none⟩ = some (.string ⟨n.toArray⟩)) (v : Bool) (hv : Hid (l.any (fun a => decide (a.name = n)) = v)) :
  Calls Try.prog 117 #[.slice A l.length c, .func (.func 118) #[] #[.pointer (some ⟨g, 0, none⟩)]] w fun e w' => e = .returned (.bool v) ∧ Below w.heap.size w w' := by
 cases l with
 | nil =>
  have hv' : v = false := hv.out.symm
  subst hv'
  exact (ContainsA_none A c _ w).mono fun e w' ⟨h1, h2⟩ => ⟨h1, by subst h2; exact Below.refl _ _⟩
 | cons a r =>
  obtain ⟨gb, rfl, _, hgb, _, hc⟩ := own_flat cellsA cellsA_length hA (by simp)
  have eg : ∀ args w, (callFunc 118 args).run Try.prog w = .ok (.enter 118 args) w := enters_of Try.func118 (by kernel_rfl) rfl
  have hcon := AnyQ.slices_ContainsFunc Try.laysH8 2 Try.isAgg44 Try.sizeOf44 cellsA cellsA_length (fun a => decide (a.name = n)) 118 #[.pointer (some ⟨g, 0, none⟩)] eg gb 0 (a :: r).length c (a :: r) w (has1_any n g w hg hcell) (Nat.le_refl _) (by omega) hgb (fun j hj i u hi => by
   have hj' : (a :: r)[j]? = some (a :: r)[j]! := by rw [List.getElem?_eq_getElem hj, getElem!_pos (a :: r) j hj]
   have := hc j _ i u hj' hi
   rw [add_zero_block] at this
   rw [Nat.zero_add]
   exact this)
  rw [List.take_length, hv.out] at hcon
  exact hcon
theorem hasA_any (b B : Nat) (r : Rdr) (w : World) (h : RdAt w b r) (l : List AttrD) (hn : r.n = l.length) (hA : AttrsOwn w B r.A r.c l) (hl : l.length ≤ 1000) (n : List UInt8) (v : Bool) (hv : Hid (l.any (fun a => decide (a.name = n)) = v)) :
  Calls Try.prog 98 #[.pointer (some ⟨b, 0, none⟩), .string ⟨n.toArray⟩] w (Ret w (.bool v)) := by
 obtain ⟨_, _, _, _, _, _, h6, _⟩ := h.all
 rw [hn] at h6
 have hb := h.lt
 have hne : b ≠ w.heap.size := by omega
 have hA1 : AttrsOwn (w.alloc (.cells #[.string ⟨n.toArray⟩] 9)) B r.A r.c l := World.ownsRow.alloc hA _
 have HA := Lib.hid hA1
 clear hA1 hA
 go_enter Try.func98, Try.ntmps98
 go_wp2_with fail
 refine (ContainsA_any l r.A r.c B n w.heap.size _ HA.out hl (by simp) (by rw [World.cell?_alloc_at _ _ _ _ (by simp)]; rfl) v hv).mono ?_
 rintro e w2 ⟨rfl, hb2⟩
 go_wp2_with fail
 go_ret
 exact ⟨rfl, ((Below.refl _ w).alloc (Nat.le_refl _) _).trans (hb2.mono (by simp))⟩
end
end Go.Proofs.Ythifddkmbjnncaa
