/-
  Texts of this claim, joined (by a program of the claim's author): Attr, Attr2, SortA, Begin, Res, One, All, Alive3.
-/
import Derived.Test.YthifddkmbjnncaaLR4
import Derived.Test.YthifddkmbjnncaaLR1
import Derived.Shelf.SlSortCmp.NoneTotal
import Derived.Laws.Rows
namespace Go.Proofs.Ythifddkmbjnncaa
set_option maxRecDepth 100000
set_option maxHeartbeats 16000000
section
open Go.RowKit
def AttrPost (w : World) (B b : Nat) (r : Rdr) (l : List AttrD) (V : Told AttrD) (e : Ending) (w' : World) : Prop :=
 Below B w w' ∧ match V with
 | .ok a n => e = .returned (.bool true) ∧ ∃ A c, RdAt w' b { r with pos := r.pos + n, A := A, n := (l ++ [a]).length, c := c } ∧ AttrsOwn w' B A c (l ++ [a])
 | .bad k c => e = .returned (.bool false) ∧ ∃ R : Rdr, RdAt w' b R ∧ R.bad = ((r.pos + k : Nat) : Int) ∧ R.code = c
theorem attrs_kept {w w' : World} {B b : Nat} {r : Rdr} (h : RdAt w b r) {A : Option Addr} {c : Nat} {l : List AttrD} (hA : AttrsOwn w B A c l) (hg : w.grownBy w' (some b)) : AttrsOwn w' B A c l := by
 refine World.ownsRow.kept hA hg ?_
 cases hv : (Value.slice A l.length c).ownBlock with
 | none => exact .inl rfl
 | some g =>
  refine .inr fun e => ?_
  injection e with e
  subst e
  obtain ⟨_, _, cur, hc⟩ := own_type hA g hv
  unfold RdAt at h
  rw [hc] at h
  injection h with h
  injection h with _ h
  exact absurd h (by decide)
theorem attr_early (b B : Nat) (r : Rdr) (w : World) (h : RdAt w b r) (hB : B ≤ b) (hBw : B ≤ w.heap.size) (hp : r.pos ≤ r.s.size) (hs : r.s.size ≤ 1000000000) (l : List AttrD) (hn : r.n = l.length) (hA : AttrsOwn w B r.A r.c l) (hl : l.length ≤ 1000)
  (n : List UInt8) (hw : Hid (wordL (r.s.data.toList.drop r.pos) = n)) (hb : nameL n = false ∨ 20 ≤ l.length ∨ l.any (fun a => decide (a.name = n)) = true) (V : Told AttrD) (hV : Hid (attrL (r.s.data.toList.drop r.pos) l = V)) :
  Calls Try.prog 73 #[.pointer (some ⟨b, 0, none⟩)] w (AttrPost w B b r l V) := by
 obtain ⟨_, h1, _⟩ := h.all
 cases hv : nameL n with
 | false =>
  have HV : Hid (V = .bad 0 31) := by
   show _ = _
   rw [← hV.out]; unfold attrL; simp only [hw.out, hv]; rw [if_pos trivial]
  go_enter Try.func73, Try.ntmps73
  go_wp2_with fail
  refine (word_any b r w h hp hs n hw false hv _ rfl [] rfl).mono ?_
  rintro e W1 ⟨rfl, hW1, hg1⟩
  go_wp2_with fail
  go_ret
  rw [HV.out]
  exact ⟨below_of_grown hg1 hB hBw, rfl, _, hW1, rfl, rfl⟩
 | true =>
  have HB := Lib.hid hb
  have hvv : Hid (nameL n = true) := hv
  have hn1 : r.pos + n.length ≤ r.s.size := by
   have := wordL_len (r.s.data.toList.drop r.pos)
   rw [hw.out, List.length_drop, size_toList] at this; omega
  clear hb hv
  by_cases h20 : 20 ≤ l.length
  ·have HV : Hid (V = .bad 0 33) := by
    show _ = _
    rw [← hV.out]; unfold attrL; simp only [hw.out, hvv.out]; rw [if_neg (by decide), if_pos h20]
   have h20' : (20 : Int) ≤ l.length := by omega
   clear h20
   go_enter Try.func73, Try.ntmps73
   go_wp2_with fail
   refine (word_any b r w h hp hs n hw true hvv _ rfl n rfl).mono ?_
   rintro e W1 ⟨rfl, hW1, hg1⟩
   have hW1' : RdAt W1 b { r with pos := r.pos + n.length } := hW1
   have z6 : W1.cell? ⟨b, 6, none⟩ = some (.slice r.A l.length r.c) := by rw [← hn]; exact hW1'.all.2.2.2.2.2.2.1
   go_wp2_with fail
   refine (fail_any b _ W1 hW1' r.pos 33).mono ?_
   rintro e W2 ⟨rfl, hW2, hg2⟩
   go_wp2_with fail
   go_ret
   rw [HV.out]
   exact ⟨below_of_grown (grown_twice hg1 hg2) hB hBw, rfl, _, hW2, rfl, rfl⟩
  ·have hany : Hid (l.any (fun a => decide (a.name = n)) = true) := by
    rcases HB.out with h | h | h
    ·rw [hvv.out] at h; cases h
    ·exact absurd h h20
    ·exact h
   have HV : Hid (V = .bad 0 32) := by
    show _ = _
    rw [← hV.out]; unfold attrL; simp only [hw.out, hvv.out]; rw [if_neg (by decide), if_neg h20, if_pos hany.out]
   have h20' : (l.length : Int) < 20 := by omega
   clear h20
   go_enter Try.func73, Try.ntmps73
   go_wp2_with fail
   refine (word_any b r w h hp hs n hw true hvv _ rfl n rfl).mono ?_
   rintro e W1 ⟨rfl, hW1, hg1⟩
   have hW1' : RdAt W1 b { r with pos := r.pos + n.length } := hW1
   have z6 : W1.cell? ⟨b, 6, none⟩ = some (.slice r.A l.length r.c) := by rw [← hn]; exact hW1'.all.2.2.2.2.2.2.1
   have hA1 := Lib.hid (attrs_kept h hA hg1)
   go_wp2_with fail
   refine (hasA_any b B _ W1 hW1' l hn hA1.out hl n true hany).mono ?_
   rintro e W2 ⟨rfl, hb2⟩
   go_wp2_with fail
   refine (fail_any b _ W2 (hW1'.below hb2) r.pos 32).mono ?_
   rintro e W3 ⟨rfl, hW3, hg3⟩
   go_wp2_with fail
   go_ret
   rw [HV.out]
   exact ⟨below_of_grown (grown_twice (Lib.grownBy_below hg1 hb2) hg3) hB hBw, rfl, _, hW3, rfl, rfl⟩
theorem attr_form (b B : Nat) (r : Rdr) (w : World) (h : RdAt w b r) (hB : B ≤ b) (hBw : B ≤ w.heap.size) (hp : r.pos ≤ r.s.size) (hs : r.s.size ≤ 1000000000) (l : List AttrD) (hn : r.n = l.length) (hA : AttrsOwn w B r.A r.c l) (hl : l.length ≤ 1000)
  (n : List UInt8) (hw : Hid (wordL (r.s.data.toList.drop r.pos) = n)) (hvv : Hid (nameL n = true)) (h20 : l.length < 20) (hany : Hid (l.any (fun a => decide (a.name = n)) = false)) (m1 m2 : Bool) (hm1 : Hid (pre [61] (r.s.data.toList.drop (r.pos + n.length)) = m1)) (hm2 : Hid (pre [34] (r.s.data.toList.drop (r.pos + n.length + 1)) = m2)) (hb : (m1 && m2) = false) (V : Told AttrD) (hV : Hid (attrL (r.s.data.toList.drop r.pos) l = V)) :
  Calls Try.prog 73 #[.pointer (some ⟨b, 0, none⟩)] w (AttrPost w B b r l V) := by
 have hn1 : r.pos + n.length ≤ r.s.size := by
  have := wordL_len (r.s.data.toList.drop r.pos)
  rw [hw.out, List.length_drop, size_toList] at this; omega
 have hVE : Hid (V = if m1 = false then .bad n.length 30 else if m2 = false then .bad (n.length + 1) 30 else valueT n (r.s.data.toList.drop (r.pos + (n.length + 2)))) := by
  show _ = _
  rw [← hV.out]; unfold attrL; simp only [hw.out, hvv.out, hany.out, List.drop_drop]
  rw [if_neg (by decide), if_neg (by omega), if_neg (by decide), hm1.out, show r.pos + (n.length + 1) = r.pos + n.length + 1 by omega, hm2.out]
 cases m1 with
 | false =>
  have HV : Hid (V = .bad n.length 30) := by show _ = _; rw [hVE.out, if_pos rfl]
  clear hb hVE
  obtain ⟨_, h1, _⟩ := h.all
  have h20' : (l.length : Int) < 20 := by omega
  go_enter Try.func73, Try.ntmps73
  go_wp2_with fail
  refine (word_any b r w h hp hs n hw true hvv _ rfl n rfl).mono ?_
  rintro e W1 ⟨rfl, hW1, hg1⟩
  have hW1' : RdAt W1 b { r with pos := r.pos + n.length } := hW1
  have z6 : W1.cell? ⟨b, 6, none⟩ = some (.slice r.A l.length r.c) := by rw [← hn]; exact hW1'.all.2.2.2.2.2.2.1
  have hA1 := Lib.hid (attrs_kept h hA hg1)
  go_wp2_with fail
  refine (hasA_any b B _ W1 hW1' l hn hA1.out hl n false hany).mono ?_
  rintro e W2 ⟨rfl, hb2⟩
  have hW2 := hW1'.below hb2
  have hg2 : w.grownBy W2 (some b) := Lib.grownBy_below hg1 hb2
  clear z6 h1 hW1 hW1'
  go_wp2_with fail
  refine (must_any b _ W2 hW2 [61] hn1 hs false hm1 (by decide)).mono ?_
  rintro e W3 ⟨rfl, hW3, hg3⟩
  go_wp2_with fail
  go_ret
  rw [HV.out]
  exact ⟨below_of_grown (grown_twice hg2 hg3) hB hBw, rfl, _, hW3, rfl, rfl⟩
 | true =>
  have hm2' : m2 = false := by simpa using hb
  subst hm2'
  have HV : Hid (V = .bad (n.length + 1) 30) := by show _ = _; rw [hVE.out, if_neg (by decide), if_pos rfl]
  have hn2 := pre1_len hm1.out
  rw [size_toList] at hn2
  clear hb hVE
  obtain ⟨_, h1, _⟩ := h.all
  have h20' : (l.length : Int) < 20 := by omega
  go_enter Try.func73, Try.ntmps73
  go_wp2_with fail
  refine (word_any b r w h hp hs n hw true hvv _ rfl n rfl).mono ?_
  rintro e W1 ⟨rfl, hW1, hg1⟩
  have hW1' : RdAt W1 b { r with pos := r.pos + n.length } := hW1
  have z6 : W1.cell? ⟨b, 6, none⟩ = some (.slice r.A l.length r.c) := by rw [← hn]; exact hW1'.all.2.2.2.2.2.2.1
  have hA1 := Lib.hid (attrs_kept h hA hg1)
  go_wp2_with fail
  refine (hasA_any b B _ W1 hW1' l hn hA1.out hl n false hany).mono ?_
  rintro e W2 ⟨rfl, hb2⟩
  have hW2 := hW1'.below hb2
  have hg2 : w.grownBy W2 (some b) := Lib.grownBy_below hg1 hb2
  clear z6 h1 hW1 hW1'
  go_wp2_with fail
  refine (must_any b _ W2 hW2 [61] hn1 hs true hm1 (by decide)).mono ?_
  rintro e W3 ⟨rfl, hW3, hg3⟩
  have hW3' : RdAt W3 b { r with pos := r.pos + n.length + 1 } := hW3
  obtain ⟨_, y1, _⟩ := hW3'.all
  clear hW3
  go_wp2_with fail
  refine (must_any b _ W3 hW3' [34] hn2 hs false hm2 (by decide)).mono ?_
  rintro e W4 ⟨rfl, hW4, hg4⟩
  go_wp2_with fail
  go_ret
  rw [HV.out]
  exact ⟨below_of_grown (grown_twice (grown_twice hg2 hg3) hg4) hB hBw, rfl, _, hW4, rfl, rfl⟩
end
section
open Go.RowKit
theorem attr_open (b B : Nat) (r : Rdr) (w : World) (h : RdAt w b r) (hB : B ≤ b) (hBw : B ≤ w.heap.size) (hp : r.pos ≤ r.s.size) (hs : r.s.size ≤ 1000000000) (l : List AttrD) (hn : r.n = l.length) (hA : AttrsOwn w B r.A r.c l) (hl : l.length ≤ 1000)
  (n : List UInt8) (hw : Hid (wordL (r.s.data.toList.drop r.pos) = n)) (hvv : Hid (nameL n = true)) (h20 : l.length < 20) (hany : Hid (l.any (fun a => decide (a.name = n)) = false)) (hm1 : Hid (pre [61] (r.s.data.toList.drop (r.pos + n.length)) = true)) (hm2 : Hid (pre [34] (r.s.data.toList.drop (r.pos + n.length + 1)) = true)) (Q : Nat) (hQ : Hid (r.pos + n.length + 1 + 1 = Q))
  (hv : ((r.s.data.toList.drop Q).takeWhile (· != 34)).length = (r.s.data.toList.drop Q).length) (V : Told AttrD) (hV : Hid (attrL (r.s.data.toList.drop r.pos) l = V)) :
  Calls Try.prog 73 #[.pointer (some ⟨b, 0, none⟩)] w (AttrPost w B b r l V) := by
 have HL := Lib.hid (size_toList r.s)
 have hn1 : r.pos + n.length ≤ r.s.size := by
  have := wordL_len (r.s.data.toList.drop r.pos)
  rw [hw.out, List.length_drop, HL.out] at this; omega
 have hn2 : r.pos + n.length + 1 ≤ r.s.size := by have := pre1_len hm1.out; rw [HL.out] at this; exact this
 have hn3 : Q ≤ r.s.size := by have := pre1_len hm2.out; rw [HL.out] at this; have := hQ.out; omega
 have hx : Hid ((r.s.extract Q r.s.size).data.toList = r.s.data.toList.drop Q) := Lib.extract_to_end _ _
 have hq : Hid (Lib.indexByte (r.s.data.toList.drop Q) 34 = -1) := idx_not 34 _ hv
 have i0 : (0 : Int) ≤ (Q : Int) := by omega
 have i1 : (Q : Int) ≤ r.s.size := by omega
 have HV : Hid (V = .bad (n.length + 2 + (r.s.data.toList.drop Q).length) 30) := by
  show _ = _
  rw [← hV.out]; unfold attrL; simp only [hw.out, hvv.out, hany.out, List.drop_drop]
  rw [if_neg (by decide), if_neg (by omega), if_neg (by decide), hm1.out, if_neg (by decide), show r.pos + (n.length + 1) = r.pos + n.length + 1 by omega, hm2.out, if_neg (by decide), show r.pos + (n.length + 2) = Q by have := hQ.out; omega]
  unfold valueT
  simp only
  rw [if_pos hv, hv]
 clear hv
 obtain ⟨_, h1, _⟩ := h.all
 have h20' : (l.length : Int) < 20 := by omega
 go_enter Try.func73, Try.ntmps73
 go_wp2_with fail
 refine (word_any b r w h hp hs n hw true hvv _ rfl n rfl).mono ?_
 rintro e W1 ⟨rfl, hW1, hg1⟩
 have hW1' : RdAt W1 b { r with pos := r.pos + n.length } := hW1
 have z6 : W1.cell? ⟨b, 6, none⟩ = some (.slice r.A l.length r.c) := by rw [← hn]; exact hW1'.all.2.2.2.2.2.2.1
 have hA1 := Lib.hid (attrs_kept h hA hg1)
 go_wp2_with fail
 refine (hasA_any b B _ W1 hW1' l hn hA1.out hl n false hany).mono ?_
 rintro e W2 ⟨rfl, hb2⟩
 have hW2 := hW1'.below hb2
 have hg2 : w.grownBy W2 (some b) := Lib.grownBy_below hg1 hb2
 clear z6 h1 hW1 hW1'
 go_wp2_with fail
 refine (must_any b _ W2 hW2 [61] hn1 hs true hm1 (by decide)).mono ?_
 rintro e W3 ⟨rfl, hW3, hg3⟩
 have hW3' : RdAt W3 b { r with pos := r.pos + n.length + 1 } := hW3
 obtain ⟨_, y1, _⟩ := hW3'.all
 clear hW3
 go_wp2_with fail
 refine (must_any b _ W3 hW3' [34] hn2 hs true hm2 (by decide)).mono ?_
 rintro e W4 ⟨rfl, hW4, hg4⟩
 have hW4' : RdAt W4 b { r with pos := Q } := by rw [← hQ.out]; exact hW4
 have hg5 := grown_twice (grown_twice hg2 hg3) hg4
 have HS : Hid (W4.drew.cell? ⟨b, 0, none⟩ = some (.string r.s) ∧ W4.drew.cell? ⟨b, 1, none⟩ = some (.int .i64 Q)) := ⟨hW4'.all.1, hW4'.all.2.1⟩
 clear hW4 y1
 go_wp2_with fail
 refine wp_region_held_drew (S := fun w' => w'.cell? ⟨b, 0, none⟩ = some (.string r.s) ∧ w'.cell? ⟨b, 1, none⟩ = some (.int .i64 Q)) (by kernel_rfl) HS.out (fun hHeld => ?_)
 refine tkv 0 (h := tkv 1 (h := tkv 2 (h := tkv 3 (h := tkv 4 (h := tkv 5 (h := ?_))))))
 refine tkv 6 (h := tkv 7 (h := tkv 8 (h := ?_)))
 refine rdy 9 (fun K hK => ?_)
 go_simp
 refine (Try.strings_IndexByte _ _ _).mono ?_
 rw [hx.out]
 rintro e w2 ⟨rfl, rfl⟩
 rw [show ((34 : Int)).toNat.toUInt8 = 34 from rfl, hq.out]
 go_wp2_with fail
 refine hK.out _ _ (HS.out) (fun hHeld => ?_)
 clear hK K
 try go_frame
 refine tkv 10 (h := ?_)
 refine wpAnyH_done (by kernel_rfl) ?_ _
 clear hHeld
 have hW4d := hW4'.drew
 obtain ⟨u0, _⟩ := hW4d.all
 go_wp2_with fail
 refine (fail_any b _ W4.drew hW4d r.s.size 30).mono ?_
 rintro e W5 ⟨rfl, hW5, hg6⟩
 go_wp2_with fail
 go_ret
 rw [HV.out]
 refine ⟨below_of_grown (grown_twice (grown_drew hg5) hg6) hB hBw, rfl, _, hW5, ?_, rfl⟩
 show (r.s.size : Int) = _
 rw [List.length_drop, HL.out]
 have := hQ.out
 omega
theorem RdAt.kept {w w' : World} {b : Nat} {r : Rdr} (h : RdAt w b r) {k : Option Nat} (hg : w.grownBy w' k) (hk : k ≠ some b) : RdAt w' b r := by
 unfold RdAt; rw [hg.block b h.lt (fun e => hk e.symm)]; exact h
theorem rd_apart {w : World} {b B : Nat} {r : Rdr} (h : RdAt w b r) {A : Option Addr} {c : Nat} {l : List AttrD} (hA : AttrsOwn w B A c l) : (Value.slice A l.length c).ownBlock ≠ some b := by
 intro hv
 obtain ⟨_, _, cur, hc⟩ := own_type hA b hv
 unfold RdAt at h
 rw [hc] at h
 injection h with h
 injection h with _ h
 exact absurd h (by decide)
theorem attr_amiss (b B : Nat) (r : Rdr) (w : World) (h : RdAt w b r) (hB : B ≤ b) (hBw : B ≤ w.heap.size) (hp : r.pos ≤ r.s.size) (hs : r.s.size ≤ 1000000000) (l : List AttrD) (hn : r.n = l.length) (hA : AttrsOwn w B r.A r.c l) (hl : l.length ≤ 1000)
  (n : List UInt8) (hw : Hid (wordL (r.s.data.toList.drop r.pos) = n)) (hvv : Hid (nameL n = true)) (h20 : l.length < 20) (hany : Hid (l.any (fun a => decide (a.name = n)) = false)) (hm1 : Hid (pre [61] (r.s.data.toList.drop (r.pos + n.length)) = true)) (hm2 : Hid (pre [34] (r.s.data.toList.drop (r.pos + n.length + 1)) = true)) (Q : Nat) (hQ : Hid (r.pos + n.length + 1 + 1 = Q))
  (t : List UInt8) (ht : Hid ((r.s.data.toList.drop Q).takeWhile (· != 34) = t)) (k : Nat) (hk : Hid (t.length = k)) (hv : ((r.s.data.toList.drop Q).takeWhile (· != 34)).length ≠ (r.s.data.toList.drop Q).length) (u : List UInt8) (m : Nat) (e : Int) (hu : Hid (undoL true t = (u, m, e))) (he : e ≠ 0) (V : Told AttrD) (hV : Hid (attrL (r.s.data.toList.drop r.pos) l = V)) :
  Calls Try.prog 73 #[.pointer (some ⟨b, 0, none⟩)] w (AttrPost w B b r l V) := by
 have HE := Lib.hid he
 have hd : decide (e = 0) = false := decide_eq_false he
 clear he
 have HL := Lib.hid (size_toList r.s)
 have hn1 : r.pos + n.length ≤ r.s.size := by
  have := wordL_len (r.s.data.toList.drop r.pos)
  rw [hw.out, List.length_drop, HL.out] at this; omega
 have hn2 : r.pos + n.length + 1 ≤ r.s.size := by have := pre1_len hm1.out; rw [HL.out] at this; exact this
 have hn3 : Q ≤ r.s.size := by have := pre1_len hm2.out; rw [HL.out] at this; have := hQ.out; omega
 have hx : Hid ((r.s.extract Q r.s.size).data.toList = r.s.data.toList.drop Q) := Lib.extract_to_end _ _
 have hkl : Q + k < r.s.size := by
  have := takeWhile_len (· != 34) (r.s.data.toList.drop Q)
  rw [ht.out] at this hv
  rw [List.length_drop, HL.out] at this hv
  have := hk.out
  omega
 have hq : Hid (Lib.indexByte (r.s.data.toList.drop Q) 34 = (k : Nat)) := by
  show _ = _
  rw [← hk.out, ← ht.out]
  exact idx_yes 34 _ hv
 have htk : Hid ((r.s.data.toList.drop Q).take (Q + k - Q) = t) := by
  show _ = _
  have h2 := span_word (r.s.data.toList.drop Q) (· != 34)
  rw [ht.out] at h2
  rw [show Q + k - Q = t.length by have := hk.out; omega]
  conv => lhs; rw [h2]
  rw [List.take_append_of_le_length (Nat.le_refl _), List.take_length]
 have hU : Hid (undoL true ((r.s.data.toList.drop Q).take (Q + k - Q)) = (u, m, e)) := by show _ = _; rw [htk.out]; exact hu.out
 have i0 : (0 : Int) ≤ (Q : Int) := by omega
 have i1 : (Q : Int) ≤ r.s.size := by omega
 have i2 : (Q : Int) + k < r.s.size := by omega
 have HV : Hid (V = .bad (n.length + 2 + m) e) := by
  show _ = _
  rw [← hV.out]; unfold attrL; simp only [hw.out, hvv.out, hany.out, List.drop_drop]
  rw [if_neg (by decide), if_neg (by omega), if_neg (by decide), hm1.out, if_neg (by decide), show r.pos + (n.length + 1) = r.pos + n.length + 1 by omega, hm2.out, if_neg (by decide), show r.pos + (n.length + 2) = Q by have := hQ.out; omega]
  unfold valueT
  simp only
  rw [if_neg hv, ht.out, hu.out, hk.out]
  rw [if_pos HE.out]
 have hJ : Hid (((Q : Int) + k) = ((Q + k : Nat) : Int)) := by show _ = _; omega
 clear hv
 obtain ⟨_, h1, _⟩ := h.all
 have h20' : (l.length : Int) < 20 := by omega
 go_enter Try.func73, Try.ntmps73
 go_wp2_with fail
 refine (word_any b r w h hp hs n hw true hvv _ rfl n rfl).mono ?_
 rintro e W1 ⟨rfl, hW1, hg1⟩
 have hW1' : RdAt W1 b { r with pos := r.pos + n.length } := hW1
 have z6 : W1.cell? ⟨b, 6, none⟩ = some (.slice r.A l.length r.c) := by rw [← hn]; exact hW1'.all.2.2.2.2.2.2.1
 have hA1 := Lib.hid (attrs_kept h hA hg1)
 go_wp2_with fail
 refine (hasA_any b B _ W1 hW1' l hn hA1.out hl n false hany).mono ?_
 rintro e W2 ⟨rfl, hb2⟩
 have hW2 := hW1'.below hb2
 have hg2 : w.grownBy W2 (some b) := Lib.grownBy_below hg1 hb2
 clear z6 h1 hW1 hW1'
 go_wp2_with fail
 refine (must_any b _ W2 hW2 [61] hn1 hs true hm1 (by decide)).mono ?_
 rintro e W3 ⟨rfl, hW3, hg3⟩
 have hW3' : RdAt W3 b { r with pos := r.pos + n.length + 1 } := hW3
 obtain ⟨_, y1, _⟩ := hW3'.all
 clear hW3
 go_wp2_with fail
 refine (must_any b _ W3 hW3' [34] hn2 hs true hm2 (by decide)).mono ?_
 rintro e W4 ⟨rfl, hW4, hg4⟩
 have hW4' : RdAt W4 b { r with pos := Q } := by rw [← hQ.out]; exact hW4
 have hg5 := grown_twice (grown_twice hg2 hg3) hg4
 have HS : Hid (W4.drew.cell? ⟨b, 0, none⟩ = some (.string r.s) ∧ W4.drew.cell? ⟨b, 1, none⟩ = some (.int .i64 Q)) := ⟨hW4'.all.1, hW4'.all.2.1⟩
 clear hW4 y1
 go_wp2_with fail
 refine wp_region_held_drew (S := fun w' => w'.cell? ⟨b, 0, none⟩ = some (.string r.s) ∧ w'.cell? ⟨b, 1, none⟩ = some (.int .i64 Q)) (by kernel_rfl) HS.out (fun hHeld => ?_)
 refine tkv 0 (h := tkv 1 (h := tkv 2 (h := tkv 3 (h := tkv 4 (h := tkv 5 (h := ?_))))))
 refine tkv 6 (h := tkv 7 (h := tkv 8 (h := ?_)))
 refine rdy 9 (fun K hK => ?_)
 go_simp
 refine (Try.strings_IndexByte _ _ _).mono ?_
 rw [hx.out]
 rintro e w2 ⟨rfl, rfl⟩
 rw [show ((34 : Int)).toNat.toUInt8 = 34 from rfl, hq.out]
 go_wp2_with fail
 refine hK.out _ _ (HS.out) (fun hHeld => ?_)
 clear hK K
 try go_frame
 refine tkv 10 (h := ?_)
 refine wpAnyH_done (by kernel_rfl) ?_ _
 clear hHeld
 have HS2 : Hid (W4.drew.drew.cell? ⟨b, 0, none⟩ = some (.string r.s) ∧ W4.drew.drew.cell? ⟨b, 1, none⟩ = some (.int .i64 Q)) := ⟨hW4'.all.1, hW4'.all.2.1⟩
 have kn0 : (0 : Int) ≤ (k : Int) := by omega
 have hwr : IntKind.i64.wrap ((Q : Int) + k) = (Q : Int) + k :=
  IntWalk.i64_in _ (by omega)
 go_wp2_with fail
 refine wp_region_held_drew (S := fun w' => w'.cell? ⟨b, 0, none⟩ = some (.string r.s) ∧ w'.cell? ⟨b, 1, none⟩ = some (.int .i64 Q)) (by kernel_rfl) HS2.out (fun hHeld => ?_)
 refine tkv 0 (h := tkv 1 (h := tkv 2 (h := tkv 3 (h := tkv 4 (h := tkv 5 (h := ?_))))))
 refine tkv 6 (h := tkv 7 (h := tkv 8 (h := tkv 9 (h := tkv 10 (h := ?_)))))
 refine rdy 11 (fun K hK => ?_)
 go_simp
 refine (undone_at b { r with pos := Q } W4.drew.drew hW4'.drew.drew Q (Q + k) (Nat.le_add_right _ _) (Nat.le_of_lt hkl) hs true (u, m, e) hU _ hJ).mono ?_
 rintro e2 W5 ⟨rfl, hW5, hg6⟩
 have hgW : w.grownBy W5 (some b) := grown_twice (grown_drew (grown_drew hg5)) hg6
 have hW5' : RdAt W5 b (if e = 0 then { r with pos := Q } else { r with pos := Q, bad := (Q : Int) + m, code := e }) := hW5
 rw [if_neg HE.out] at hW5'
 have HS5 : Hid (W5.cell? ⟨b, 0, none⟩ = some (.string r.s) ∧ W5.cell? ⟨b, 1, none⟩ = some (.int .i64 Q)) := ⟨hW5'.all.1, hW5'.all.2.1⟩
 go_wp2_with fail
 refine hK.out _ _ (HS5.out) (fun hHeld => ?_)
 clear hK K
 try go_frame
 refine tkv 12 (h := tkv 13 (h := tkv 14 (h := tkv 15 (h := tkv 16 (h := ?_)))))
 refine wpAnyH_done (by kernel_rfl) ?_ _
 clear hHeld
 go_wp2_with fail
 go_ret
 rw [HV.out]
 refine ⟨below_of_grown hgW hB hBw, rfl, _, hW5', ?_, rfl⟩
 show (Q : Int) + m = _
 have := hQ.out
 omega
theorem attr_long (b B : Nat) (r : Rdr) (w : World) (h : RdAt w b r) (hB : B ≤ b) (hBw : B ≤ w.heap.size) (hp : r.pos ≤ r.s.size) (hs : r.s.size ≤ 1000000000) (l : List AttrD) (hn : r.n = l.length) (hA : AttrsOwn w B r.A r.c l) (hl : l.length ≤ 1000)
  (n : List UInt8) (hw : Hid (wordL (r.s.data.toList.drop r.pos) = n)) (hvv : Hid (nameL n = true)) (h20 : l.length < 20) (hany : Hid (l.any (fun a => decide (a.name = n)) = false)) (hm1 : Hid (pre [61] (r.s.data.toList.drop (r.pos + n.length)) = true)) (hm2 : Hid (pre [34] (r.s.data.toList.drop (r.pos + n.length + 1)) = true)) (Q : Nat) (hQ : Hid (r.pos + n.length + 1 + 1 = Q))
  (t : List UInt8) (ht : Hid ((r.s.data.toList.drop Q).takeWhile (· != 34) = t)) (k : Nat) (hk : Hid (t.length = k)) (hv : ((r.s.data.toList.drop Q).takeWhile (· != 34)).length ≠ (r.s.data.toList.drop Q).length) (u : List UInt8) (m : Nat) (hu : Hid (undoL true t = (u, m, 0))) (hlong : 1500 < u.length) (V : Told AttrD) (hV : Hid (attrL (r.s.data.toList.drop r.pos) l = V)) :
  Calls Try.prog 73 #[.pointer (some ⟨b, 0, none⟩)] w (AttrPost w B b r l V) := by
 have hlong' : (1500 : Int) < u.length := by omega
 have HL := Lib.hid (size_toList r.s)
 have hn1 : r.pos + n.length ≤ r.s.size := by
  have := wordL_len (r.s.data.toList.drop r.pos)
  rw [hw.out, List.length_drop, HL.out] at this; omega
 have hn2 : r.pos + n.length + 1 ≤ r.s.size := by have := pre1_len hm1.out; rw [HL.out] at this; exact this
 have hn3 : Q ≤ r.s.size := by have := pre1_len hm2.out; rw [HL.out] at this; have := hQ.out; omega
 have hx : Hid ((r.s.extract Q r.s.size).data.toList = r.s.data.toList.drop Q) := Lib.extract_to_end _ _
 have hkl : Q + k < r.s.size := by
  have := takeWhile_len (· != 34) (r.s.data.toList.drop Q)
  rw [ht.out] at this hv
  rw [List.length_drop, HL.out] at this hv
  have := hk.out
  omega
 have hq : Hid (Lib.indexByte (r.s.data.toList.drop Q) 34 = (k : Nat)) := by
  show _ = _
  rw [← hk.out, ← ht.out]
  exact idx_yes 34 _ hv
 have htk : Hid ((r.s.data.toList.drop Q).take (Q + k - Q) = t) := by
  show _ = _
  have h2 := span_word (r.s.data.toList.drop Q) (· != 34)
  rw [ht.out] at h2
  rw [show Q + k - Q = t.length by have := hk.out; omega]
  conv => lhs; rw [h2]
  rw [List.take_append_of_le_length (Nat.le_refl _), List.take_length]
 have hU : Hid (undoL true ((r.s.data.toList.drop Q).take (Q + k - Q)) = (u, m, 0)) := by show _ = _; rw [htk.out]; exact hu.out
 have i0 : (0 : Int) ≤ (Q : Int) := by omega
 have i1 : (Q : Int) ≤ r.s.size := by omega
 have i2 : (Q : Int) + k < r.s.size := by omega
 have HV : Hid (V = .bad (n.length + 1) 34) := by
  show _ = _
  rw [← hV.out]; unfold attrL; simp only [hw.out, hvv.out, hany.out, List.drop_drop]
  rw [if_neg (by decide), if_neg (by omega), if_neg (by decide), hm1.out, if_neg (by decide), show r.pos + (n.length + 1) = r.pos + n.length + 1 by omega, hm2.out, if_neg (by decide), show r.pos + (n.length + 2) = Q by have := hQ.out; omega]
  unfold valueT
  simp only
  rw [if_neg hv, ht.out, hu.out, hk.out]
  rw [if_neg (by simp), if_pos hlong]
 have hJ : Hid (((Q : Int) + k) = ((Q + k : Nat) : Int)) := by show _ = _; omega
 clear hv
 obtain ⟨_, h1, _⟩ := h.all
 have h20' : (l.length : Int) < 20 := by omega
 go_enter Try.func73, Try.ntmps73
 go_wp2_with fail
 refine (word_any b r w h hp hs n hw true hvv _ rfl n rfl).mono ?_
 rintro e W1 ⟨rfl, hW1, hg1⟩
 have hW1' : RdAt W1 b { r with pos := r.pos + n.length } := hW1
 have z6 : W1.cell? ⟨b, 6, none⟩ = some (.slice r.A l.length r.c) := by rw [← hn]; exact hW1'.all.2.2.2.2.2.2.1
 have hA1 := Lib.hid (attrs_kept h hA hg1)
 go_wp2_with fail
 refine (hasA_any b B _ W1 hW1' l hn hA1.out hl n false hany).mono ?_
 rintro e W2 ⟨rfl, hb2⟩
 have hW2 := hW1'.below hb2
 have hg2 : w.grownBy W2 (some b) := Lib.grownBy_below hg1 hb2
 clear z6 h1 hW1 hW1'
 go_wp2_with fail
 refine (must_any b _ W2 hW2 [61] hn1 hs true hm1 (by decide)).mono ?_
 rintro e W3 ⟨rfl, hW3, hg3⟩
 have hW3' : RdAt W3 b { r with pos := r.pos + n.length + 1 } := hW3
 obtain ⟨_, y1, _⟩ := hW3'.all
 clear hW3
 go_wp2_with fail
 refine (must_any b _ W3 hW3' [34] hn2 hs true hm2 (by decide)).mono ?_
 rintro e W4 ⟨rfl, hW4, hg4⟩
 have hW4' : RdAt W4 b { r with pos := Q } := by rw [← hQ.out]; exact hW4
 have hg5 := grown_twice (grown_twice hg2 hg3) hg4
 have HS : Hid (W4.drew.cell? ⟨b, 0, none⟩ = some (.string r.s) ∧ W4.drew.cell? ⟨b, 1, none⟩ = some (.int .i64 Q)) := ⟨hW4'.all.1, hW4'.all.2.1⟩
 clear hW4 y1
 go_wp2_with fail
 refine wp_region_held_drew (S := fun w' => w'.cell? ⟨b, 0, none⟩ = some (.string r.s) ∧ w'.cell? ⟨b, 1, none⟩ = some (.int .i64 Q)) (by kernel_rfl) HS.out (fun hHeld => ?_)
 refine tkv 0 (h := tkv 1 (h := tkv 2 (h := tkv 3 (h := tkv 4 (h := tkv 5 (h := ?_))))))
 refine tkv 6 (h := tkv 7 (h := tkv 8 (h := ?_)))
 refine rdy 9 (fun K hK => ?_)
 go_simp
 refine (Try.strings_IndexByte _ _ _).mono ?_
 rw [hx.out]
 rintro e w2 ⟨rfl, rfl⟩
 rw [show ((34 : Int)).toNat.toUInt8 = 34 from rfl, hq.out]
 go_wp2_with fail
 refine hK.out _ _ (HS.out) (fun hHeld => ?_)
 clear hK K
 try go_frame
 refine tkv 10 (h := ?_)
 refine wpAnyH_done (by kernel_rfl) ?_ _
 clear hHeld
 have HS2 : Hid (W4.drew.drew.cell? ⟨b, 0, none⟩ = some (.string r.s) ∧ W4.drew.drew.cell? ⟨b, 1, none⟩ = some (.int .i64 Q)) := ⟨hW4'.all.1, hW4'.all.2.1⟩
 have kn0 : (0 : Int) ≤ (k : Int) := by omega
 have hwr : IntKind.i64.wrap ((Q : Int) + k) = (Q : Int) + k :=
  IntWalk.i64_in _ (by omega)
 go_wp2_with fail
 refine wp_region_held_drew (S := fun w' => w'.cell? ⟨b, 0, none⟩ = some (.string r.s) ∧ w'.cell? ⟨b, 1, none⟩ = some (.int .i64 Q)) (by kernel_rfl) HS2.out (fun hHeld => ?_)
 refine tkv 0 (h := tkv 1 (h := tkv 2 (h := tkv 3 (h := tkv 4 (h := tkv 5 (h := ?_))))))
 refine tkv 6 (h := tkv 7 (h := tkv 8 (h := tkv 9 (h := tkv 10 (h := ?_)))))
 refine rdy 11 (fun K hK => ?_)
 go_simp
 refine (undone_at b { r with pos := Q } W4.drew.drew hW4'.drew.drew Q (Q + k) (Nat.le_add_right _ _) (Nat.le_of_lt hkl) hs true (u, m, 0) hU _ hJ).mono ?_
 rintro e2 W5 ⟨rfl, hW5, hg6⟩
 have hgW : w.grownBy W5 (some b) := grown_twice (grown_drew (grown_drew hg5)) hg6
 have hW5' : RdAt W5 b { r with pos := Q } := hW5
 have HS5 : Hid (W5.cell? ⟨b, 0, none⟩ = some (.string r.s) ∧ W5.cell? ⟨b, 1, none⟩ = some (.int .i64 Q)) := ⟨hW5'.all.1, hW5'.all.2.1⟩
 go_wp2_with fail
 refine hK.out _ _ (HS5.out) (fun hHeld => ?_)
 clear hK K
 try go_frame
 refine tkv 12 (h := tkv 13 (h := tkv 14 (h := tkv 15 (h := tkv 16 (h := ?_)))))
 refine wpAnyH_done (by kernel_rfl) ?_ _
 clear hHeld
 go_wp2_with fail
 refine (fail_any b _ W5 hW5' (r.pos + n.length + 1 : Nat) 34).mono ?_
 rintro e3 W6 ⟨rfl, hW6, hg7⟩
 go_wp2_with fail
 go_ret
 rw [HV.out]
 refine ⟨below_of_grown (grown_twice hgW hg7) hB hBw, rfl, _, hW6, ?_, rfl⟩
 show ((r.pos + n.length + 1 : Nat) : Int) = _
 rw [show r.pos + (n.length + 1) = r.pos + n.length + 1 by omega]
theorem attr_fine (b B : Nat) (r : Rdr) (w : World) (h : RdAt w b r) (hB : B ≤ b) (hBw : B ≤ w.heap.size) (hp : r.pos ≤ r.s.size) (hs : r.s.size ≤ 1000000000) (l : List AttrD) (hn : r.n = l.length) (hA : AttrsOwn w B r.A r.c l) (hl : l.length ≤ 1000)
  (n : List UInt8) (hw : Hid (wordL (r.s.data.toList.drop r.pos) = n)) (hvv : Hid (nameL n = true)) (h20 : l.length < 20) (hany : Hid (l.any (fun a => decide (a.name = n)) = false)) (hm1 : Hid (pre [61] (r.s.data.toList.drop (r.pos + n.length)) = true)) (hm2 : Hid (pre [34] (r.s.data.toList.drop (r.pos + n.length + 1)) = true)) (Q : Nat) (hQ : Hid (r.pos + n.length + 1 + 1 = Q))
  (t : List UInt8) (ht : Hid ((r.s.data.toList.drop Q).takeWhile (· != 34) = t)) (k : Nat) (hk : Hid (t.length = k)) (hv : ((r.s.data.toList.drop Q).takeWhile (· != 34)).length ≠ (r.s.data.toList.drop Q).length) (u : List UInt8) (m : Nat) (hu : Hid (undoL true t = (u, m, 0))) (hlong : ¬ 1500 < u.length) (V : Told AttrD) (hV : Hid (attrL (r.s.data.toList.drop r.pos) l = V)) :
  Calls Try.prog 73 #[.pointer (some ⟨b, 0, none⟩)] w (AttrPost w B b r l V) := by
 have hlong' : (u.length : Int) ≤ 1500 := by omega
 have HL := Lib.hid (size_toList r.s)
 have hn1 : r.pos + n.length ≤ r.s.size := by
  have := wordL_len (r.s.data.toList.drop r.pos)
  rw [hw.out, List.length_drop, HL.out] at this; omega
 have hn2 : r.pos + n.length + 1 ≤ r.s.size := by have := pre1_len hm1.out; rw [HL.out] at this; exact this
 have hn3 : Q ≤ r.s.size := by have := pre1_len hm2.out; rw [HL.out] at this; have := hQ.out; omega
 have hx : Hid ((r.s.extract Q r.s.size).data.toList = r.s.data.toList.drop Q) := Lib.extract_to_end _ _
 have hkl : Q + k < r.s.size := by
  have := takeWhile_len (· != 34) (r.s.data.toList.drop Q)
  rw [ht.out] at this hv
  rw [List.length_drop, HL.out] at this hv
  have := hk.out
  omega
 have hq : Hid (Lib.indexByte (r.s.data.toList.drop Q) 34 = (k : Nat)) := by
  show _ = _
  rw [← hk.out, ← ht.out]
  exact idx_yes 34 _ hv
 have htk : Hid ((r.s.data.toList.drop Q).take (Q + k - Q) = t) := by
  show _ = _
  have h2 := span_word (r.s.data.toList.drop Q) (· != 34)
  rw [ht.out] at h2
  rw [show Q + k - Q = t.length by have := hk.out; omega]
  conv => lhs; rw [h2]
  rw [List.take_append_of_le_length (Nat.le_refl _), List.take_length]
 have hU : Hid (undoL true ((r.s.data.toList.drop Q).take (Q + k - Q)) = (u, m, 0)) := by show _ = _; rw [htk.out]; exact hu.out
 have i0 : (0 : Int) ≤ (Q : Int) := by omega
 have i1 : (Q : Int) ≤ r.s.size := by omega
 have i2 : (Q : Int) + k < r.s.size := by omega
 have HV : Hid (V = .ok ⟨n, u⟩ (n.length + 2 + k + 1)) := by
  show _ = _
  rw [← hV.out]; unfold attrL; simp only [hw.out, hvv.out, hany.out, List.drop_drop]
  rw [if_neg (by decide), if_neg (by omega), if_neg (by decide), hm1.out, if_neg (by decide), show r.pos + (n.length + 1) = r.pos + n.length + 1 by omega, hm2.out, if_neg (by decide), show r.pos + (n.length + 2) = Q by have := hQ.out; omega]
  unfold valueT
  simp only
  rw [if_neg hv, ht.out, hu.out, hk.out]
  rw [if_neg (by simp), if_neg hlong]
 have hJ : Hid (((Q : Int) + k) = ((Q + k : Nat) : Int)) := by show _ = _; omega
 clear hv
 obtain ⟨_, h1, _⟩ := h.all
 have h20' : (l.length : Int) < 20 := by omega
 go_enter Try.func73, Try.ntmps73
 go_wp2_with fail
 refine (word_any b r w h hp hs n hw true hvv _ rfl n rfl).mono ?_
 rintro e W1 ⟨rfl, hW1, hg1⟩
 have hW1' : RdAt W1 b { r with pos := r.pos + n.length } := hW1
 have z6 : W1.cell? ⟨b, 6, none⟩ = some (.slice r.A l.length r.c) := by rw [← hn]; exact hW1'.all.2.2.2.2.2.2.1
 have hA1 := Lib.hid (attrs_kept h hA hg1)
 go_wp2_with fail
 refine (hasA_any b B _ W1 hW1' l hn hA1.out hl n false hany).mono ?_
 rintro e W2 ⟨rfl, hb2⟩
 have hW2 := hW1'.below hb2
 have hg2 : w.grownBy W2 (some b) := Lib.grownBy_below hg1 hb2
 clear z6 h1 hW1 hW1'
 go_wp2_with fail
 refine (must_any b _ W2 hW2 [61] hn1 hs true hm1 (by decide)).mono ?_
 rintro e W3 ⟨rfl, hW3, hg3⟩
 have hW3' : RdAt W3 b { r with pos := r.pos + n.length + 1 } := hW3
 obtain ⟨_, y1, _⟩ := hW3'.all
 clear hW3
 go_wp2_with fail
 refine (must_any b _ W3 hW3' [34] hn2 hs true hm2 (by decide)).mono ?_
 rintro e W4 ⟨rfl, hW4, hg4⟩
 have hW4' : RdAt W4 b { r with pos := Q } := by rw [← hQ.out]; exact hW4
 have hg5 := grown_twice (grown_twice hg2 hg3) hg4
 have HS : Hid (W4.drew.cell? ⟨b, 0, none⟩ = some (.string r.s) ∧ W4.drew.cell? ⟨b, 1, none⟩ = some (.int .i64 Q)) := ⟨hW4'.all.1, hW4'.all.2.1⟩
 clear hW4 y1
 go_wp2_with fail
 refine wp_region_held_drew (S := fun w' => w'.cell? ⟨b, 0, none⟩ = some (.string r.s) ∧ w'.cell? ⟨b, 1, none⟩ = some (.int .i64 Q)) (by kernel_rfl) HS.out (fun hHeld => ?_)
 refine tkv 0 (h := tkv 1 (h := tkv 2 (h := tkv 3 (h := tkv 4 (h := tkv 5 (h := ?_))))))
 refine tkv 6 (h := tkv 7 (h := tkv 8 (h := ?_)))
 refine rdy 9 (fun K hK => ?_)
 go_simp
 refine (Try.strings_IndexByte _ _ _).mono ?_
 rw [hx.out]
 rintro e w2 ⟨rfl, rfl⟩
 rw [show ((34 : Int)).toNat.toUInt8 = 34 from rfl, hq.out]
 go_wp2_with fail
 refine hK.out _ _ (HS.out) (fun hHeld => ?_)
 clear hK K
 try go_frame
 refine tkv 10 (h := ?_)
 refine wpAnyH_done (by kernel_rfl) ?_ _
 clear hHeld
 have HS2 : Hid (W4.drew.drew.cell? ⟨b, 0, none⟩ = some (.string r.s) ∧ W4.drew.drew.cell? ⟨b, 1, none⟩ = some (.int .i64 Q)) := ⟨hW4'.all.1, hW4'.all.2.1⟩
 have kn0 : (0 : Int) ≤ (k : Int) := by omega
 have hwr : IntKind.i64.wrap ((Q : Int) + k) = (Q : Int) + k :=
  IntWalk.i64_in _ (by omega)
 go_wp2_with fail
 refine wp_region_held_drew (S := fun w' => w'.cell? ⟨b, 0, none⟩ = some (.string r.s) ∧ w'.cell? ⟨b, 1, none⟩ = some (.int .i64 Q)) (by kernel_rfl) HS2.out (fun hHeld => ?_)
 refine tkv 0 (h := tkv 1 (h := tkv 2 (h := tkv 3 (h := tkv 4 (h := tkv 5 (h := ?_))))))
 refine tkv 6 (h := tkv 7 (h := tkv 8 (h := tkv 9 (h := tkv 10 (h := ?_)))))
 refine rdy 11 (fun K hK => ?_)
 go_simp
 refine (undone_at b { r with pos := Q } W4.drew.drew hW4'.drew.drew Q (Q + k) (Nat.le_add_right _ _) (Nat.le_of_lt hkl) hs true (u, m, 0) hU _ hJ).mono ?_
 rintro e2 W5 ⟨rfl, hW5, hg6⟩
 have hgW : w.grownBy W5 (some b) := grown_twice (grown_drew (grown_drew hg5)) hg6
 have hW5' : RdAt W5 b { r with pos := Q } := hW5
 have HS5 : Hid (W5.cell? ⟨b, 0, none⟩ = some (.string r.s) ∧ W5.cell? ⟨b, 1, none⟩ = some (.int .i64 Q)) := ⟨hW5'.all.1, hW5'.all.2.1⟩
 go_wp2_with fail
 refine hK.out _ _ (HS5.out) (fun hHeld => ?_)
 clear hK K
 try go_frame
 refine tkv 12 (h := tkv 13 (h := tkv 14 (h := tkv 15 (h := tkv 16 (h := ?_)))))
 refine wpAnyH_done (by kernel_rfl) ?_ _
 clear hHeld hlong
 obtain ⟨_, z1, _, _, _, _, z6, _⟩ := hW5'.all
 replace z6 : W5.cell? ⟨b, 6, none⟩ = some (.slice r.A l.length r.c) := by rw [← hn]; exact z6
 have zf1 := hW5'.froz 1
 have HA5 := Lib.hid (attrs_kept h hA hgW)
 obtain ⟨W6, hW6⟩ : ∃ W6, Hid (W6 = W5.setCell ⟨b, 1, none⟩ (.int .i64 ((Q : Int) + ((k : Int) + 1)))) := ⟨_, rfl⟩
 have hR6 : Hid (RdAt W6 b { r with pos := Q + (k + 1) }) := by show RdAt _ _ _; rw [hW6.out]; exact hW5'.pos (Q + (k + 1))
 have hg7 : w.grownBy W6 (some b) := by rw [hW6.out]; exact Lib.grownBy_setB hgW 1 _
 have hA6 := Lib.hid (attrs_kept h hA hg7)
 have hz6 : B ≤ W6.heap.size := by have := hg7.size; omega
 clear hW5 hW5'
 go_wp2_with (at_builtin; rw [← hW6.out]; go_loud (refine appendS rfl (.tmp 108) (.tmp 112) 31 rfl B 44 (.agg #[.string ByteArray.empty, .string ByteArray.empty]) 2 32 Try.underlying31 infoAttr rfl (by decide) _ l.length _ (cellsA ⟨n, u⟩) rfl hA6.out hz6 _ rfl (by rw [hW6.out]; simp) (cellsA_length _) (by intro v hv; exact cellsA_one [⟨n, u⟩] v (by simpa using hv)) (by omega) (by decide) ?_))
 intro a7 c7 W7 hown7 hb7 hz7 hgr7
 have hA7 : AttrsOwn W7 B a7 c7 (l ++ [⟨n, u⟩]) := by
  unfold AttrsOwn
  rw [List.length_append, List.flatMap_append]
  simpa using hown7
 have hR7 : RdAt W7 b { r with pos := Q + (k + 1) } := RdAt.kept (w := W6.alloc _) (hR6.out.below ((Below.refl _ _).alloc (Nat.le_refl _) _)) hgr7 (rd_apart hR6.out hA6.out)
 have y6f := hR7.froz 6
 obtain ⟨_, _, _, _, _, _, y6, _⟩ := hR7.all
 clear hown7 hgr7
 go_wp2_with fail
 go_ret
 rw [HV.out]
 refine ⟨((below_of_grown hg7 hB hBw).trans hb7).setCell hB _, rfl, a7, c7, ?_, attrs_kept hR7 hA7 (Lib.grownBy_setCell _ b 6 _)⟩
 have := hR7.attrs a7 (l.length + 1) c7
 rw [show r.pos + (n.length + 2 + k + 1) = Q + (k + 1) by have := hQ.out; omega, List.length_append]
 exact this
theorem attr_any (b B : Nat) (r : Rdr) (w : World) (h : RdAt w b r) (hB : B ≤ b) (hBw : B ≤ w.heap.size) (hp : r.pos ≤ r.s.size) (hs : r.s.size ≤ 1000000000) (l : List AttrD) (hn : r.n = l.length) (hA : AttrsOwn w B r.A r.c l) (hl : l.length ≤ 1000) (V : Told AttrD) (hV : Hid (attrL (r.s.data.toList.drop r.pos) l = V)) :
  Calls Try.prog 73 #[.pointer (some ⟨b, 0, none⟩)] w (AttrPost w B b r l V) := by
 obtain ⟨n, hw⟩ : ∃ n, Hid (wordL (r.s.data.toList.drop r.pos) = n) := ⟨_, rfl⟩
 by_cases hb : nameL n = false ∨ 20 ≤ l.length ∨ l.any (fun a => decide (a.name = n)) = true
 ·exact attr_early b B r w h hB hBw hp hs l hn hA hl n hw hb V hV
 ·have hvv : Hid (nameL n = true) := by
   show _ = _
   cases hq : nameL n with
   | true => rfl
   | false => exact absurd (.inl hq) hb
  have h20 : l.length < 20 := Nat.lt_of_not_le fun hq => hb (.inr (.inl hq))
  have hany : Hid (l.any (fun a => decide (a.name = n)) = false) := by
   show _ = _
   cases hq : l.any (fun a => decide (a.name = n)) with
   | false => rfl
   | true => exact absurd (.inr (.inr hq)) hb
  obtain ⟨m1, hm1⟩ : ∃ m1, Hid (pre [61] (r.s.data.toList.drop (r.pos + n.length)) = m1) := ⟨_, rfl⟩
  obtain ⟨m2, hm2⟩ : ∃ m2, Hid (pre [34] (r.s.data.toList.drop (r.pos + n.length + 1)) = m2) := ⟨_, rfl⟩
  cases hm : m1 && m2 with
  | false => exact attr_form b B r w h hB hBw hp hs l hn hA hl n hw hvv h20 hany m1 m2 hm1 hm2 hm V hV
  | true =>
   obtain ⟨rfl, rfl⟩ := Bool.and_eq_true_iff.1 hm
   obtain ⟨Q, hQ⟩ : ∃ Q, Hid (r.pos + n.length + 1 + 1 = Q) := ⟨_, rfl⟩
   by_cases hv : ((r.s.data.toList.drop Q).takeWhile (· != 34)).length = (r.s.data.toList.drop Q).length
   ·exact attr_open b B r w h hB hBw hp hs l hn hA hl n hw hvv h20 hany hm1 hm2 Q hQ hv V hV
   ·obtain ⟨t, ht⟩ : ∃ t, Hid ((r.s.data.toList.drop Q).takeWhile (· != 34) = t) := ⟨_, rfl⟩
    obtain ⟨u, m, e, hu⟩ : ∃ u m e, Hid (undoL true t = (u, m, e)) := ⟨_, _, _, rfl⟩
    by_cases he : e = 0
    ·subst he
     by_cases hlong : 1500 < u.length
     ·exact attr_long b B r w h hB hBw hp hs l hn hA hl n hw hvv h20 hany hm1 hm2 Q hQ t ht _ rfl hv u m hu hlong V hV
     ·exact attr_fine b B r w h hB hBw hp hs l hn hA hl n hw hvv h20 hany hm1 hm2 Q hQ t ht _ rfl hv u m hu hlong V hV
    ·exact attr_amiss b B r w h hB hBw hp hs l hn hA hl n hw hvv h20 hany hm1 hm2 Q hQ t ht _ rfl hv u m e hu he V hV
end
end Go.Proofs.Ythifddkmbjnncaa
namespace Go.Proofs
open Go.Shelf Go.RowKit
def Try.laysF6_ren : Go.Shelf.Ren := ⟨fun | 6 => 74 | 14 => 99 | 15 => 100 | 20 => 119 | 21 => 120 | 22 => 121 | 23 => 122 | 24 => 123 | 25 => 124 | 26 => 125 | 27 => 126 | 28 => 127 | 29 => 128 | 46 => 140 | 47 => 141 | 48 => 142 | 49 => 143 | 50 => 144 | 57 => 145 | n => n, fun | 0 => 0 | 3 => 3 | 4 => 4 | 5 => 5 | 9 => 9 | 22 => 31 | 25 => 102 | 39 => 122 | 45 => 139 | 46 => 140 | 50 => 144 | 53 => 147 | 55 => 149 | 66 => 156 | 70 => 160 | 76 => 162 | 77 => 134 | 24 => 44 | n => n, fun | n => n⟩
theorem Try.laysF6 : Go.Proofs.SlLaysF0.n6 Try.prog Try.laysF6_ren := {
 mixed := by kernel_rfl
 f6 := ⟨ "slices.SortFunc[[]incunable/api.Attr,incunable/api.Attr]", by decide, Try.func74.trans (congrArg some (by kernel_rfl))⟩
 f14 := ⟨ "slices.pdqsortCmpFunc[incunable/api.Attr]", by decide, Try.func99.trans (congrArg some (by kernel_rfl))⟩
 f15 := Try.func100.trans (congrArg some (by kernel_rfl))
 f20 := ⟨ "slices.insertionSortCmpFunc[incunable/api.Attr]", by decide, Try.func119.trans (congrArg some (by kernel_rfl))⟩
 f21 := ⟨ "slices.heapSortCmpFunc[incunable/api.Attr]", by decide, Try.func120.trans (congrArg some (by kernel_rfl))⟩
 f22 := ⟨ "slices.breakPatternsCmpFunc[incunable/api.Attr]", by decide, Try.func121.trans (congrArg some (by kernel_rfl))⟩
 f23 := ⟨ "slices.choosePivotCmpFunc[incunable/api.Attr]", by decide, Try.func122.trans (congrArg some (by kernel_rfl))⟩
 f24 := ⟨ "slices.reverseRangeCmpFunc[incunable/api.Attr]", by decide, Try.func123.trans (congrArg some (by kernel_rfl))⟩
 f25 := ⟨ "slices.partialInsertionSortCmpFunc[incunable/api.Attr]", by decide, Try.func124.trans (congrArg some (by kernel_rfl))⟩
 f26 := ⟨ "slices.partitionEqualCmpFunc[incunable/api.Attr]", by decide, Try.func125.trans (congrArg some (by kernel_rfl))⟩
 f27 := ⟨ "slices.partitionCmpFunc[incunable/api.Attr]", by decide, Try.func126.trans (congrArg some (by kernel_rfl))⟩
 f28 := Try.func127.trans (congrArg some (by kernel_rfl))
 f29 := Try.func128.trans (congrArg some (by kernel_rfl))
 f46 := ⟨ "slices.siftDownCmpFunc[incunable/api.Attr]", by decide, Try.func140.trans (congrArg some (by kernel_rfl))⟩
 f47 := Try.func141.trans (congrArg some (by kernel_rfl))
 f48 := Try.func142.trans (congrArg some (by kernel_rfl))
 f49 := ⟨ "slices.medianAdjacentCmpFunc[incunable/api.Attr]", by decide, Try.func143.trans (congrArg some (by kernel_rfl))⟩
 f50 := ⟨ "slices.medianCmpFunc[incunable/api.Attr]", by decide, Try.func144.trans (congrArg some (by kernel_rfl))⟩
 f57 := ⟨ "slices.order2CmpFunc[incunable/api.Attr]", by decide, Try.func145.trans (congrArg some (by kernel_rfl))⟩
 t0 := Try.underlying0
 a0 := Try.isAgg0
 z0 := Try.sizeOf0
 v0 := Try.zeroValue0
 t3 := Try.underlying3
 a3 := Try.isAgg3
 z3 := Try.sizeOf3
 v3 := Try.zeroValue3
 t4 := Try.underlying4
 a4 := Try.isAgg4
 z4 := Try.sizeOf4
 v4 := Try.zeroValue4
 t5 := Try.underlying5
 a5 := Try.isAgg5
 z5 := Try.sizeOf5
 v5 := Try.zeroValue5
 t9 := Try.underlying9
 a9 := Try.isAgg9
 z9 := Try.sizeOf9
 v9 := Try.zeroValue9
 t22 := Try.underlying31
 a22 := Try.isAgg31
 z22 := Try.sizeOf31
 v22 := Try.zeroValue31
 t25 := Try.underlying102
 a25 := Try.isAgg102
 z25 := Try.sizeOf102
 v25 := Try.zeroValue102
 t39 := Try.underlying122
 a39 := Try.isAgg122
 z39 := Try.sizeOf122
 v39 := Try.zeroValue122
 t45 := Try.underlying139
 a45 := Try.isAgg139
 z45 := Try.sizeOf139
 v45 := Try.zeroValue139
 t46 := Try.underlying140
 a46 := Try.isAgg140
 z46 := Try.sizeOf140
 v46 := Try.zeroValue140
 t50 := Try.underlying144
 a50 := Try.isAgg144
 z50 := Try.sizeOf144
 v50 := Try.zeroValue144
 t53 := Try.underlying147
 a53 := Try.isAgg147
 z53 := Try.sizeOf147
 v53 := Try.zeroValue147
 t55 := Try.underlying149
 a55 := Try.isAgg149
 z55 := Try.sizeOf149
 v55 := Try.zeroValue149
 t66 := Try.underlying156
 a66 := Try.isAgg156
 z66 := Try.sizeOf156
 v66 := Try.zeroValue156
 t70 := Try.underlying160
 a70 := Try.isAgg160
 z70 := Try.sizeOf160
 v70 := Try.zeroValue160
 t76 := Try.underlying162
 a76 := Try.isAgg162
 z76 := Try.sizeOf162
 v76 := Try.zeroValue162
 t77 := Try.underlying134
 a77 := Try.isAgg134
 z77 := Try.sizeOf134
 v77 := Try.zeroValue134 }
end Go.Proofs
namespace Go.Proofs.Ythifddkmbjnncaa
set_option maxRecDepth 100000
set_option maxHeartbeats 16000000
section
open Go.RowKit Go.Shelf Go.Sort
theorem begin1_any (x y : AttrD) (W : World) :
  Calls Try.prog 75 #[.agg (cellsA x).toArray, .agg (cellsA y).toArray] W fun e w' => e = .returned (.int .i64 (nameC x y)) ∧ ∃ os, w' = grow W os := by
 show Calls Try.prog 75 #[.agg #[.string ⟨x.name.toArray⟩, .string ⟨x.value.toArray⟩], .agg #[.string ⟨y.name.toArray⟩, .string ⟨y.value.toArray⟩]] W _
 go_enter Try.func75, Try.ntmps75
 go_wp2_with fail
 refine (Try.strings_Compare _ _ _).mono ?_
 rintro e w2 ⟨rfl, rfl⟩
 go_wp2_with fail
 go_ret
 exact ⟨rfl, _, by rw [alloc_eq_grow, alloc_eq_grow, grow_grow]⟩
theorem cmpLays_begin (blk off size : Nat) (w : World) : CmpLays Try.prog 75 #[] cellsA 2 nameC blk off size w := fun m os dk hd x y => by
 show Calls Try.prog 75 #[.agg (cellsA x).toArray, .agg (cellsA y).toArray] _ _
 refine (begin1_any x y _).mono ?_
 rintro e w' ⟨rfl, os', rfl⟩
 exact ⟨rfl, 0, os', rfl⟩
theorem cellsA_flat (d : Array AttrD) : d.toList.flatMap cellsA = (flatK cellsA 2 d).toList := by
 apply List.ext_getElem?
 intro t
 have hl := flat_length cellsA 2 cellsA_length d.toList
 by_cases ht : t < d.size * 2
 ·obtain ⟨q, r, hr, rfl⟩ : ∃ q r, r < 2 ∧ t = q * 2 + r := ⟨t / 2, t % 2, by omega, by omega⟩
  have hq : q < d.size := by omega
  rw [flat_get cellsA 2 cellsA_length d.toList q r d[q] (by simp [hq]) hr]
  refine (List.getElem?_eq_getElem (by rw [cellsA_length]; exact hr)).trans ?_
  have h1 := get_flatK cellsA 2 d (q * 2 + r) ht
  rw [getElem!_pos _ _ (by rw [size_flatK]; exact ht), show (q * 2 + r) / 2 = q by omega, show (q * 2 + r) % 2 = r by omega, getElem!_pos d q hq, getElem!_pos (cellsA d[q]) r (by rw [cellsA_length]; exact hr)] at h1
  rw [Array.getElem?_toList, Array.getElem?_eq_getElem (by rw [size_flatK]; exact ht), h1]
 ·rw [List.getElem?_eq_none (by rw [hl]; simp at ht ⊢; omega), List.getElem?_eq_none (by simp at ht ⊢; omega)]
theorem holds_own {w : World} {B g c : Nat} {l : List AttrD} (h : AttrsOwn w B (some ⟨g, 0, none⟩) c l) (_hl : 0 < l.length) : HoldsK cellsA 2 w g 0 l.toArray := by
 intro j hj
 obtain ⟨_, h2⟩ := h
 rcases h2 with ⟨h0, _⟩ | ⟨g', cap, cur, hv, _, hc, _, _, hs, ht⟩
 ·cases h0
 ·injection hv with hv _ hv3
  injection hv with hv
  injection hv with hv
  subst hv
  have e := cellsA_flat l.toArray
  rw [← ht] at e
  have hj' : j < cur.size := by
   have hcap : l.length ≤ cap := by omega
   have := Nat.mul_le_mul_right 2 hcap
   simp at hj; omega
  refine ⟨?_, frozen_of_row w g (0 + j) cur _ hc⟩
  rw [cell_of_row hc, Nat.zero_add]
  have h3 : (cur.toList.take (l.length * 2))[j]? = (flatK cellsA 2 l.toArray).toList[j]? := by rw [e]
  rw [List.getElem?_take_of_lt (by simpa using hj), Array.getElem?_toList, Array.getElem?_toList] at h3
  rw [h3, Array.getElem?_eq_getElem hj, getElem!_pos _ j hj]
  rfl
theorem own_sorted {w w' : World} {B g c : Nat} {l : List AttrD} (h : AttrsOwn w B (some ⟨g, 0, none⟩) c l) (hl : 0 < l.length) {n : Nat} {d : Array AttrD} {os : Array Obj} (hw : w' = sortWorldK cellsA 2 w g 0 n d os) (hd : d.size = l.length) :
  AttrsOwn w' B (some ⟨g, 0, none⟩) c d.toList ∧ w.grownBy w' (some g) := by
 have hH := holds_own h hl
 obtain ⟨h1, h2⟩ := h
 rcases h2 with ⟨h0, _⟩ | ⟨g', cap, cur, hv, hB, hc, hcap, hmax, hs, ht⟩
 ·cases h0
 ·injection hv with hv _ hv3
  injection hv with hv
  injection hv with hv
  subst hv
  have hg : g < w.heap.size := (Array.getElem?_eq_some_iff.1 hc).1
  have hheap : w'.heap = w.heap.modify g (onCells (putCells id 0 (flatK cellsA 2 d))) ++ os := by rw [hw]; rfl
  have hcell : w'.heap[g]? = some (.cells (putCells id 0 (flatK cellsA 2 d) cur) 44 (0, 0)) := by
   rw [hheap, Array.getElem?_append, if_pos (by simpa using hg), Array.getElem?_modify, if_pos rfl, hc]
   rfl
  refine ⟨⟨by rw [flat_length cellsA 2 cellsA_length], .inr ⟨g, cap, _, ?_, hB, hcell, ?_, hmax, ?_, ?_⟩⟩, ⟨?_, ?_, ?_, ?_, ?_⟩⟩
  ·rw [hv3]
  ·simpa [hd] using hcap
  ·simpa [putCells] using hs
  ·rw [cellsA_flat]
   have hcap' := Nat.mul_le_mul_right 2 hcap
   apply List.ext_getElem?
   intro t
   by_cases hlt : t < d.size * 2
   ·rw [List.getElem?_take_of_lt (by simpa using hlt), Array.getElem?_toList, Array.getElem?_toList]
    have hts : t < cur.size := by omega
    unfold putCells
    rw [Array.getElem?_mapIdx, Array.getElem?_eq_getElem hts, Option.map_some, if_pos ⟨Nat.zero_le _, by rw [size_flatK]; omega⟩, Nat.sub_zero, Array.getElem?_eq_getElem (by rw [size_flatK]; exact hlt), getElem!_pos _ t (by rw [size_flatK]; exact hlt)]
    rfl
   ·rw [List.getElem?_eq_none (by simp at hlt ⊢; omega), List.getElem?_eq_none (by simp at hlt ⊢; omega)]
  ·rw [hw]; rfl
  ·rw [hw]; rfl
  ·rw [hw]; rfl
  ·rw [hheap]; simp
  ·intro k hk hne
   rw [hheap, Array.getElem?_append, if_pos (by simpa using hk), Array.getElem?_modify, if_neg (fun e => hne (by rw [e]))]
theorem SortA_any (l : List AttrD) (A : Option Addr) (c B : Nat) (w : World) (hA : AttrsOwn w B A c l) (hl : l.length ≤ 1000) (hap : ApartS l) :
  Calls Try.prog 74 #[.slice A l.length c, .func (.func 75) #[] #[]] w fun e w' => e = .returned (.tuple #[]) ∧ AttrsOwn w' B A c (sortA l) ∧ w.grownBy w' (Value.slice A l.length c).ownBlock := by
 cases hl0 : l with
 | nil =>
  subst hl0
  refine (AnyF.slices_SortFunc_none Try.laysF6 A c _ w).mono ?_
  rintro e w' ⟨rfl, rfl⟩
  exact ⟨rfl, hA, World.grownBy.refl _ _⟩
 | cons a r =>
  have hpos : 0 < l.length := by rw [hl0]; simp
  rw [← hl0]
  obtain ⟨g, rfl, _, hg, _, _⟩ := own_flat cellsA cellsA_length hA hpos
  have eg : ∀ args w, (callFunc 75 args).run Try.prog w = .ok (.enter 75 args) w := enters_of Try.func75 (by kernel_rfl) rfl
  have hcon := AnyQ.slices_SortFunc Try.laysF6 2 Try.isAgg44 Try.sizeOf44 cellsA cellsA_length (fun x v hv => cellsA_one [x] v (by simpa using hv)) nameC nameC_swo 75 #[] g 0 c l.toArray w eg (cmpLays_begin g 0 _ w) (holds_own hA hpos) hg (by simp; omega)
  simp only [List.size_toArray] at hcon
  refine hcon.mono ?_
  rintro e w' ⟨rfl, d', n, os, hp, hs, hw⟩
  have hd : d'.size = l.length := by have := hp.1; simpa using this
  obtain ⟨h1, h2⟩ := own_sorted hA hpos hw hd
  have he := sorted_list (d := l.toArray) (d' := d') (by simpa using hp) hs hap
  rw [he] at h1
  exact ⟨rfl, h1, h2⟩
end
section
open Go.RowKit Go.Sort
theorem sortA_len (l : List AttrD) : (sortA l).length = l.length := (sortA_perm l).length_eq
theorem begin_any (b B : Nat) (s : ByteArray) (pos place : Nat) (w : World) (h : RdAt w b (Rdr.new s pos place)) (hB : B ≤ b) (hBw : B ≤ w.heap.size) (hp : pos ≤ s.size) (hs : s.size ≤ 1000000000) (V : Told TokD) (hV : Hid (beginT (s.data.toList.drop pos) = V)) :
  Calls Try.prog 43 #[.pointer (some ⟨b, 0, none⟩)] w (TokPost w B b s pos place V) := by
 have HL := Lib.hid (size_toList s)
 obtain ⟨n, hn⟩ : ∃ n, Hid (wordL (s.data.toList.drop pos) = n) := ⟨_, rfl⟩
 obtain ⟨v, hv⟩ : ∃ v, Hid (nameL n = v) := ⟨_, rfl⟩
 have hn1 : pos + n.length ≤ s.size := by
  have := wordL_len (s.data.toList.drop pos)
  rw [hn.out, List.length_drop, HL.out] at this; omega
 cases v with
 | false =>
  have HV : Hid (V = .bad 0 31) := by
   show _ = _
   rw [← hV.out]
   unfold beginT
   simp only [hn.out, hv.out]
   rw [if_pos trivial]
  go_enter Try.func43, Try.ntmps43
  go_wp2_with fail
  go_step3
  go_wp2_with fail
  refine (word_any b (Rdr.new s pos place) w h hp hs n hn false hv _ rfl [] rfl).mono ?_
  rintro e W1 ⟨rfl, hW1, hg1⟩
  go_wp2_with fail
  try rw [Exit.noGoto_ret]
  go_ret
  rw [HV.out]
  exact ⟨below_of_grown hg1 hB hBw, rfl, _, hW1, rfl, rfl⟩
 | true =>
  obtain ⟨q0, hq0⟩ : ∃ q0, Hid (pos + n.length = q0) := ⟨_, rfl⟩
  have hq1 : q0 ≤ s.size := by rw [← hq0.out]; exact hn1
  have hVE : Hid (V = match attrsL (s.data.toList.drop q0) [] with | .bad k e => .bad (n.length + k) e | .ok q k => .ok ⟨q.1, n, [], sortA q.2⟩ (n.length + k)) := by
   show _ = _
   rw [← hV.out]
   unfold beginT
   simp only [hn.out, hv.out]
   rw [if_neg (by decide), List.drop_drop, hq0.out]
   unfold attrsL
   rw [attrsF_more ((s.data.toList.drop pos).length + 1) (s.data.toList.drop q0) [] ((s.data.toList.drop q0).length + 1) (by simp only [List.length_drop]; have := hq0.out; omega) (by omega)]
   cases attrsF ((s.data.toList.drop q0).length + 1) (s.data.toList.drop q0) [] <;> rfl
  obtain ⟨R, hR0⟩ : ∃ R, Hid (attrsL (s.data.toList.drop q0) [] = R) := ⟨_, rfl⟩
  rw [hR0.out] at hVE
  go_enter Try.func43, Try.ntmps43
  go_wp2_with fail
  go_step3
  go_wp2_with fail
  refine (word_any b (Rdr.new s pos place) w h hp hs n hn true hv _ rfl n rfl).mono ?_
  rintro e W1 ⟨rfl, hW1, hg1⟩
  have hW1' : RdAt W1 b { Rdr.new s pos place with pos := q0 } := by rw [← hq0.out]; exact hW1
  have zf4 := hW1'.froz 4
  obtain ⟨_, _, _, _, z4, _⟩ := hW1'.all
  have HW2 : Hid (RdAt (W1.setCell ⟨b, 4, none⟩ (.string ⟨n.toArray⟩)) b { Rdr.new s pos place with pos := q0, name := n }) := hW1'.name n
  have hbw := hBw
  have hb2 : Below B w (W1.setCell ⟨b, 4, none⟩ (.string ⟨n.toArray⟩)) := (below_of_grown hg1 hB hBw).setCell hB _
  clear hW1 hW1' h hn hv hV
  go_wp2_with fail
  go_step3
  go_wp2_with fail
  clear z4 zf4
  go_loopg [] (s.size - q0) (fun g wr => ∃ (p : Nat) (bs : List AttrD) (A : Option Addr) (c : Nat), q0 ≤ p ∧ p ≤ s.size ∧ g = s.size - p ∧ Hid (RdAt wr b ⟨s, p, 0, place, n, [], A, bs.length, c, 0, 0⟩) ∧ Hid (AttrsOwn wr B A c bs) ∧ Hid (AttrsFine bs) ∧ Hid (Below B w wr) ∧ Hid ((attrsL (s.data.toList.drop p) bs).past (p - q0) = R))
  case atStart => exact ⟨q0, [], none, 0, Nat.le_refl _, hq1, rfl, HW2.out, World.ownsRow_nil _ _ _ _, attrsFine_nil, hb2, by show _ = _; rw [hR0.out, Nat.sub_self, Told.past_zero]⟩
  case round =>
   obtain ⟨p, bs, A, c, hqp, hps, rfl, HR, HA, hfine, hbel, hin⟩ := hrel
   obtain ⟨k, hk⟩ : ∃ k, Hid (skipL (s.data.toList.drop p) = k) := ⟨_, rfl⟩
   have hpk : p + k ≤ s.size := by
    have := skipL_len (s.data.toList.drop p)
    rw [hk.out, List.length_drop, HL.out] at this; omega
   obtain ⟨m1, hm1⟩ : ∃ m1, Hid (pre [62] (s.data.toList.drop (p + k)) = m1) := ⟨_, rfl⟩
   obtain ⟨m2, hm2⟩ : ∃ m2, Hid (pre [47, 62] (s.data.toList.drop (p + k)) = m2) := ⟨_, rfl⟩
   have hbs1 : bs.length ≤ 1000 := by have := hfine.out.many; omega
   go_wp2_with fail
   refine (blanks_any b _ wr HR.out hps hs k hk).mono ?_
   rintro e W2 ⟨rfl, hW2, hg2⟩
   have HW3 : Hid (RdAt W2 b ⟨s, p + k, 0, place, n, [], A, bs.length, c, 0, 0⟩) := hW2
   have HA2 := Lib.hid (attrs_kept HR.out HA.out hg2)
   have hb3 := hbel.out.grown hg2 (Nat.le_trans hbw hbel.out.size) (fun j hj => by injection hj with hj; omega)
   clear hW2
   cases m1 with
   | true =>
    have HV : Hid (V = .ok ⟨1, n, [], sortA bs⟩ (n.length + (p - q0 + (k + 1)))) := by
     show _ = _
     rw [hVE.out, ← hin.out, attrsL_one _ _ k hk.out.symm (by rw [List.drop_drop]; exact hm1.out)]
     rfl
    go_wp2_with fail
    refine (is_any b _ W2 HW3.out [62] hpk hs true hm1 (by decide)).mono ?_
    rintro e W4 ⟨rfl, hW4, hg4⟩
    have hW4' : RdAt W4 b ⟨s, p + k + 1, 0, place, n, [], A, bs.length, c, 0, 0⟩ := hW4
    have HA4 := Lib.hid (attrs_kept HW3.out HA2.out hg4)
    have hb4 := hb3.grown hg4 (Nat.le_trans hbw hb3.size) (fun j hj => by injection hj with hj; omega)
    have zf2 := hW4'.froz 2
    obtain ⟨_, _, z2, _⟩ := hW4'.all
    have hRK : RdAt (W4.setCell ⟨b, 2, none⟩ (.int .i64 1)) b ⟨s, pos + (n.length + (p - q0 + (k + 1))), 1, place, n, [], A, bs.length, c, 0, 0⟩ := by
     have := hW4'.kind 1
     rw [show pos + (n.length + (p - q0 + (k + 1))) = p + k + 1 by have := hq0.out; omega]; exact this
    have HAK : Hid (AttrsOwn (W4.setCell ⟨b, 2, none⟩ (.int .i64 1)) B A c bs) := attrs_kept hW4' HA4.out (Lib.grownBy_setCell _ b 2 _)
    have hbK : Below B w (W4.setCell ⟨b, 2, none⟩ (.int .i64 1)) := hb4.setCell hB _
    clear hW4 hW4'
    obtain ⟨_, _, _, _, _, _, z6, _⟩ := hRK.all
    have HRK := Lib.hid hRK
    clear hRK
    go_wp2_with fail
    refine (SortA_any bs A c B _ HAK.out hbs1 hfine.out.apart).mono ?_
    rintro e W6 ⟨rfl, hA6, hg6⟩
    have hR6 := HRK.out.kept hg6 (rd_apart HRK.out HAK.out)
    go_wp2_with fail
    try rw [Exit.noGoto_ret]
    go_ret
    rw [HV.out]
    refine ⟨hbK.grown hg6 (Nat.le_trans hbw hbK.size) (fun k hk => (HAK.out.lt k hk).1), rfl, A, c, ?_, ?_⟩
    ·rw [sortA_len]
     exact hR6
    ·exact hA6
   | false =>
    cases m2 with
    | true =>
     have HV : Hid (V = .ok ⟨3, n, [], sortA bs⟩ (n.length + (p - q0 + (k + 2)))) := by
      show _ = _
      rw [hVE.out, ← hin.out, attrsL_two _ _ k hk.out.symm (by rw [List.drop_drop]; exact hm1.out) (by rw [List.drop_drop]; exact hm2.out)]
      rfl
     go_wp2_with fail
     refine (is_any b _ W2 HW3.out [62] hpk hs false hm1 (by decide)).mono ?_
     rintro e W4 ⟨rfl, hW4, hg4⟩
     have hW4' : RdAt W4 b ⟨s, p + k, 0, place, n, [], A, bs.length, c, 0, 0⟩ := hW4
     have HA4 := Lib.hid (attrs_kept HW3.out HA2.out hg4)
     have hb4 := hb3.grown hg4 (Nat.le_trans hbw hb3.size) (fun j hj => by injection hj with hj; omega)
     clear hW4
     go_wp2_with fail
     refine (is_any b _ W4 hW4' [47, 62] hpk hs true hm2 (by decide)).mono ?_
     rintro e W5 ⟨rfl, hW5, hg5⟩
     have hW5' : RdAt W5 b ⟨s, p + k + 2, 0, place, n, [], A, bs.length, c, 0, 0⟩ := hW5
     have HA5 := Lib.hid (attrs_kept hW4' HA4.out hg5)
     have hb5 := hb4.grown hg5 (Nat.le_trans hbw hb4.size) (fun j hj => by injection hj with hj; omega)
     have zf2 := hW5'.froz 2
     obtain ⟨_, _, z2, _⟩ := hW5'.all
     have hRK : RdAt (W5.setCell ⟨b, 2, none⟩ (.int .i64 3)) b ⟨s, pos + (n.length + (p - q0 + (k + 2))), 3, place, n, [], A, bs.length, c, 0, 0⟩ := by
      have := hW5'.kind 3
      rw [show pos + (n.length + (p - q0 + (k + 2))) = p + k + 2 by have := hq0.out; omega]; exact this
     have HAK : Hid (AttrsOwn (W5.setCell ⟨b, 2, none⟩ (.int .i64 3)) B A c bs) := attrs_kept hW5' HA5.out (Lib.grownBy_setCell _ b 2 _)
     have hbK : Below B w (W5.setCell ⟨b, 2, none⟩ (.int .i64 3)) := hb5.setCell hB _
     clear hW5 hW5' hW4'
     obtain ⟨_, _, _, _, _, _, z6, _⟩ := hRK.all
     have HRK := Lib.hid hRK
     clear hRK
     go_wp2_with fail
     refine (SortA_any bs A c B _ HAK.out hbs1 hfine.out.apart).mono ?_
     rintro e W6 ⟨rfl, hA6, hg6⟩
     have hR6 := HRK.out.kept hg6 (rd_apart HRK.out HAK.out)
     go_wp2_with fail
     try rw [Exit.noGoto_ret]
     go_ret
     rw [HV.out]
     refine ⟨hbK.grown hg6 (Nat.le_trans hbw hbK.size) (fun k hk => (HAK.out.lt k hk).1), rfl, A, c, ?_, ?_⟩
     ·rw [sortA_len]
      exact hR6
     ·exact hA6
    | false =>
     go_wp2_with fail
     refine (is_any b _ W2 HW3.out [62] hpk hs false hm1 (by decide)).mono ?_
     rintro e W4 ⟨rfl, hW4, hg4⟩
     have hW4' : RdAt W4 b ⟨s, p + k, 0, place, n, [], A, bs.length, c, 0, 0⟩ := hW4
     have HA4 := Lib.hid (attrs_kept HW3.out HA2.out hg4)
     have hb4 := hb3.grown hg4 (Nat.le_trans hbw hb3.size) (fun j hj => by injection hj with hj; omega)
     clear hW4
     go_wp2_with fail
     refine (is_any b _ W4 hW4' [47, 62] hpk hs false hm2 (by decide)).mono ?_
     rintro e W5 ⟨rfl, hW5, hg5⟩
     obtain ⟨x, hx⟩ : ∃ x, Hid (p + k = x) := ⟨_, rfl⟩
     have HW5 : Hid (RdAt W5 b ⟨s, x, 0, place, n, [], A, bs.length, c, 0, 0⟩) := by show RdAt _ _ _; rw [← hx.out]; exact hW5
     have HA5 := Lib.hid (attrs_kept hW4' HA4.out hg5)
     have hb5 := hb4.grown hg5 (Nat.le_trans hbw hb4.size) (fun j hj => by injection hj with hj; omega)
     have HS : Hid (W5.drew.cell? ⟨b, 0, none⟩ = some (.string s) ∧ W5.drew.cell? ⟨b, 1, none⟩ = some (.int .i64 x)) := ⟨HW5.out.drew.all.1, HW5.out.drew.all.2.1⟩
     have hd1 : Hid (pre [62] ((s.data.toList.drop p).drop k) = false) := by show _ = _; rw [List.drop_drop]; exact hm1.out
     have hd2 : Hid (pre [47, 62] ((s.data.toList.drop p).drop k) = false) := by show _ = _; rw [List.drop_drop]; exact hm2.out
     have hdx : Hid ((s.data.toList.drop p).drop k = s.data.toList.drop x) := by show _ = _; rw [List.drop_drop, hx.out]
     have hxs : x ≤ s.size := by rw [← hx.out]; exact hpk
     have hbK := hb5.drew
     clear hW5 hW4' hpk
     by_cases hk0 : k = 0
     ·have hkd : decide (0 < k) = false := by simp; omega
      have HV : Hid (V = .bad (n.length + (p - q0 + k)) 30) := by
       show _ = _
       rw [hVE.out, ← hin.out, attrsL_form _ _ k hk.out.symm hd1.out hd2.out (.inl hk0)]
       rfl
      clear hk0
      go_wp2_with fail
      refine wp_region_held_drew (S := fun w' => w'.cell? ⟨b, 0, none⟩ = some (.string s) ∧ w'.cell? ⟨b, 1, none⟩ = some (.int .i64 x)) (by kernel_rfl) HS.out (fun hHeld => ?_)
      refine tkv 0 (h := tkv 1 (h := tkv 2 (h := ?_)))
      refine tkn 3 (h := tkn 4 (h := tkn 5 (h := tkn 6 (h := tkn 7 (h := tkn 8 (h := ?_))))))
      refine tkn 9 (h := tkn 10 (h := tkn 11 (h := tkn 12 (h := ?_))))
      refine tkv 13 (h := tkv 14 (h := ?_))
      refine wpAnyH_done (by kernel_rfl) ?_ _
      clear hHeld
      obtain ⟨_, g1⟩ := HS.out
      go_wp2_with fail
      refine (fail_any b _ W5.drew HW5.out.drew x 30).mono ?_
      rintro e W6 ⟨rfl, hW6, hg6⟩
      go_wp2_with fail
      try rw [Exit.noGoto_ret]
      go_ret
      rw [HV.out]
      refine ⟨hbK.grown hg6 (Nat.le_trans hbw hbK.size) (fun j hj => by injection hj with hj; omega), rfl, _, hW6, ?_, rfl⟩
      show (x : Int) = _
      have := hx.out
      have := hq0.out
      omega
     ·have hkd : decide (0 < k) = true := by simp; omega
      have HK := Lib.hid hk0
      clear hk0
      by_cases hend : x = s.size
      ·have HV : Hid (V = .bad (n.length + (p - q0 + k)) 30) := by
        show _ = _
        rw [hVE.out, ← hin.out, attrsL_form _ _ k hk.out.symm hd1.out hd2.out (.inr (by rw [hdx.out]; exact List.drop_eq_nil_of_le (by rw [HL.out]; omega)))]
        rfl
       have hxe : (s.size : Int) ≤ (x : Int) := by omega
       clear hend
       go_wp2_with fail
       refine wp_region_held_drew (S := fun w' => w'.cell? ⟨b, 0, none⟩ = some (.string s) ∧ w'.cell? ⟨b, 1, none⟩ = some (.int .i64 x)) (by kernel_rfl) HS.out (fun hHeld => ?_)
       refine tkv 0 (h := tkv 1 (h := tkv 2 (h := tkv 3 (h := tkv 4 (h := tkv 5 (h := ?_))))))
       refine tkv 6 (h := tkv 7 (h := tkv 8 (h := tkv 9 (h := tkv 10 (h := tkv 11 (h := ?_))))))
       refine tkv 12 (h := tkv 13 (h := tkv 14 (h := ?_)))
       refine wpAnyH_done (by kernel_rfl) ?_ _
       clear hHeld
       obtain ⟨_, g1⟩ := HS.out
       go_wp2_with fail
       refine (fail_any b _ W5.drew HW5.out.drew x 30).mono ?_
       rintro e W6 ⟨rfl, hW6, hg6⟩
       go_wp2_with fail
       try rw [Exit.noGoto_ret]
       go_ret
       rw [HV.out]
       refine ⟨hbK.grown hg6 (Nat.le_trans hbw hbK.size) (fun j hj => by injection hj with hj; omega), rfl, _, hW6, ?_, rfl⟩
       show (x : Int) = _
       have := hx.out
       have := hq0.out
       omega
      ·have hxe : (x : Int) < (s.size : Int) := by omega
       have hxn : Hid (s.data.toList.drop x ≠ []) := by
        show _ ≠ _
        intro e
        have := congrArg List.length e
        rw [List.length_drop, HL.out] at this
        simp at this; omega
       obtain ⟨V', hV'⟩ : ∃ V', Hid (attrL (s.data.toList.drop x) bs = V') := ⟨_, rfl⟩
       clear hend
       go_wp2_with fail
       refine wp_region_held_drew (S := fun w' => w'.cell? ⟨b, 0, none⟩ = some (.string s) ∧ w'.cell? ⟨b, 1, none⟩ = some (.int .i64 x)) (by kernel_rfl) HS.out (fun hHeld => ?_)
       refine tkv 0 (h := tkv 1 (h := tkv 2 (h := tkv 3 (h := tkv 4 (h := tkv 5 (h := ?_))))))
       refine tkv 6 (h := tkv 7 (h := tkv 8 (h := tkv 9 (h := tkv 10 (h := tkv 11 (h := ?_))))))
       refine tkv 12 (h := tkv 13 (h := tkv 14 (h := ?_)))
       refine wpAnyH_done (by kernel_rfl) ?_ _
       clear hHeld
       go_wp2_with fail
       refine (attr_any b B _ W5.drew HW5.out.drew hB (Nat.le_trans hbw hbK.size) hxs hs bs rfl HA5.out hbs1 V' hV').mono ?_
       rintro e W6 ⟨hb6, hpost⟩
       cases V' with
       | bad j e' =>
        obtain ⟨rfl, R6, hR6, hR61, hR62⟩ := hpost
        have HV : Hid (V = .bad (n.length + (p - q0 + (k + j))) e') := by
         show _ = _
         rw [hVE.out, ← hin.out, attrsL_bad _ _ k hk.out.symm hd1.out hd2.out HK.out (by rw [hdx.out]; exact hxn.out) j e' (by rw [hdx.out]; exact hV'.out)]
         rfl
        have H61 := Lib.hid hR61
        have H62 := Lib.hid hR62
        clear hR61 hR62
        go_wp2_with fail
        try rw [Exit.noGoto_ret]
        go_ret
        rw [HV.out]
        refine ⟨hbK.trans hb6, rfl, R6, hR6, ?_, H62.out⟩
        rw [H61.out]
        show ((x + j : Nat) : Int) = _
        have := hx.out
        have := hq0.out
        omega
       | ok a m =>
        obtain ⟨rfl, A', c', hR6, hA6⟩ := hpost
        have hwit := attrL_within (s.data.toList.drop x) bs
        rw [hV'.out, List.length_drop, HL.out] at hwit
        obtain ⟨hm3, hmx⟩ := hwit
        have HIN : Hid ((attrsL (s.data.toList.drop (x + m)) (bs ++ [a])).past (x + m - q0) = R) := by
         show _ = _
         rw [← hin.out, attrsL_step _ _ k hk.out.symm hd1.out hd2.out HK.out (by rw [hdx.out]; exact hxn.out) a m (by rw [hdx.out]; exact hV'.out), Told.past_past, List.drop_drop, show p + (k + m) = x + m by have := hx.out; omega, show p - q0 + (k + m) = x + m - q0 by have := hx.out; omega]
        have HR6 : Hid (RdAt W6 b ⟨s, x + m, 0, place, n, [], A', (bs ++ [a]).length, c', 0, 0⟩) := hR6
        clear hR6
        go_wp2_with fail
        go_roundg (s.size - (x + m))
        case measure => have := hx.out; omega
        case rel => exact ⟨x + m, bs ++ [a], A', c', by have := hx.out; omega, by omega, rfl, HR6.out, hA6, attrsFine_snoc hfine.out hV'.out, hbK.trans hb6, HIN.out⟩
end
section
open Go.RowKit
theorem results_cell3 {P : Program} {fn : Func} {p u v x : Tmp} {ty : TypeId} (h : fn.results = #[.cell p ty, .tmp u, .tmp v, .tmp x]) (tmps : Array Value) (w : World) (g : Nat) (t : TypeId) (cs : Array Value) (fr : Nat × Nat) (d : TypeDesc)
  (hp : tmps.getD p undef = .pointer (some ⟨g, 0, none⟩)) (hg : w.heap[g]? = some (.cells cs t fr))
  (hu : P.underlying ty = some d) (hd : (match d with | .struct _ | .array _ _ => true | _ => false) = true) (hi : (P.info? ty).map (·.size) = some cs.size) :
  (results fn tmps).run P w = .ok (.tuple #[.agg cs, tmps.getD u undef, tmps.getD v undef, tmps.getD x undef]) w := by
 have hp' : tmps[p]?.getD undef = .pointer (some ⟨g, 0, none⟩) := by simpa using hp
 simp [results, h, hp', asAddr, Result.andThen, run_loadVar_row w g t ty cs fr d hg hu hd hi]
theorem row_base {w : World} {B B' : Nat} {e : TypeId} {size : Nat} {v : Value} {n : Nat} {xs : List Value} (h : w.ownsRow B e size v n xs) (hB : B' ≤ B) : w.ownsRow B' e size v n xs := by
 refine ⟨h.1, ?_⟩
 rcases h.2 with h | ⟨g, cap, cur, h1, h2, h3⟩
 ·exact .inl h
 ·exact .inr ⟨g, cap, cur, h1, Nat.le_trans hB h2, h3⟩
theorem row_setRow {w : World} {B g : Nat} {e : TypeId} {size : Nat} {v : Value} {n : Nat} {xs : List Value} (h : w.ownsRow B e size v n xs) (hg : g < B) (cs : Array Value) : (w.setRow g cs).ownsRow B e size v n xs := by
 refine ⟨h.1, ?_⟩
 rcases h.2 with h | ⟨g', cap, cur, h1, h2, h3, h4⟩
 ·exact .inl h
 ·exact .inr ⟨g', cap, cur, h1, h2, by rw [setRow_other _ _ _ _ (by omega)]; exact h3, h4⟩
end
section
open Go.RowKit
def tokC (pos : Nat) (t : TokD) (A : Option Addr) (c : Nat) : Array Value := #[.int .i64 t.kind, .int .i64 pos, .string ⟨t.name.toArray⟩, .string ⟨t.text.toArray⟩, .slice A t.attrs.length c]
def zeroTok : Array Value := #[.int .i64 0, .int .i64 0, .string ByteArray.empty, .string ByteArray.empty, .slice none 0 0]
theorem tokC_one (pos : Nat) (t : TokD) (A : Option Addr) (c : Nat) : (tokC pos t A c).all (·.oneCell') = true := by simp [tokC, Value.oneCell']
theorem zeroTok_one : zeroTok.all (·.oneCell') = true := by simp [zeroTok, Value.oneCell']
theorem below_row {B g : Nat} {w0 w : World} (hb : Below B w0 w) (hBg : B ≤ g) (cs : Array Value) : Below B w0 (w.setRow g cs) :=
 ⟨hb.os, hb.tape, hb.output, by rw [setRow_size]; exact hb.size, fun k hk => (setRow_other _ _ _ _ (by omega)).trans (hb.block k hk)⟩
theorem RdAt.setRow {w : World} {b g : Nat} {r : Rdr} (h : RdAt w b r) (hg : b ≠ g) (cs : Array Value) : RdAt (w.setRow g cs) b r := by
 unfold RdAt
 rw [setRow_other _ _ _ _ hg]; exact h
def OnePost (w : World) (pos : Nat) (V : Told TokD) (e : Ending) (w' : World) : Prop :=
 Below w.heap.size w w' ∧ match V with
 | .ok t n => ∃ A c, e = .returned (.tuple #[.agg (tokC pos t A c), .int .i64 (pos + n : Nat), .int .i64 0, .int .i64 0]) ∧ AttrsOwn w' w.heap.size A c t.attrs
 | .bad k c => e = .returned (.tuple #[.agg zeroTok, .int .i64 0, .int .i64 (pos + k : Nat), .int .i64 c])
theorem block_below {w w' : World} {B g : Nat} {o : Obj} (h : Below B w w') (hg : g < B) (ho : w.heap[g]? = some o) : w'.heap[g]? = some o := by rw [h.block g hg]; exact ho
theorem One_any (s : ByteArray) (pos : Nat) (w : World) (hp : pos < s.size) (hs : s.size ≤ 1000000000) (V : Told TokD) (hV : Hid (oneT (s.data.toList.drop pos) = V)) :
  Calls Try.prog 20 #[.string s, .int .i64 pos] w (OnePost w pos V) := by
 have HL := Lib.hid (size_toList s)
 have i0 : (0 : Int) ≤ (pos : Int) := by omega
 have i1 : (pos : Int) < s.size := by omega
 obtain ⟨m1, hm1⟩ : ∃ m1, Hid (pre [60, 47] (s.data.toList.drop pos) = m1) := ⟨_, rfl⟩
 obtain ⟨m2, hm2⟩ : ∃ m2, Hid (pre [60] (s.data.toList.drop pos) = m2) := ⟨_, rfl⟩
 cases m1 with
 | true =>
  obtain ⟨V', hV'⟩ : ∃ V', Hid (endT (s.data.toList.drop (pos + 2)) = V') := ⟨_, rfl⟩
  have hVE : Hid (V = V'.past 2) := by
   show _ = _
   rw [← hV.out]
   unfold oneT
   rw [hm1.out, if_pos rfl, List.drop_drop, hV'.out]
  have hp2 : pos + 2 ≤ s.size := by have := pre_len hm1.out; rw [List.length_drop, HL.out] at this; simp at this; omega
  go_enter Try.func20, Try.ntmps20
  go_wp2_with fail
  obtain ⟨W1, hW1⟩ : ∃ W1, Hid (W1 = (w.alloc (.cells #[.int .i64 0, .int .i64 0, .string ⟨#[]⟩, .string ⟨#[]⟩, .slice none 0 0] 34)).alloc (.cells #[.string s, .int .i64 pos, .int .i64 0, .int .i64 pos, .string ⟨#[]⟩, .string ⟨#[]⟩, .slice none 0 0, .int .i64 0, .int .i64 0] 64)) := ⟨_, rfl⟩
  rw [← hW1.out]
  have hR1 : Hid (RdAt W1 (w.heap.size + 1) (Rdr.new s pos pos)) := by show RdAt _ _ _; rw [hW1.out]; exact heap_alloc2_new _ _ _
  have hT1 : Hid (W1.heap[w.heap.size]? = some (.cells zeroTok 34 (0, 0))) := by show _ = _; rw [hW1.out]; exact heap_alloc2_old _ _ _
  have hb1 : Below w.heap.size w W1 := by rw [hW1.out]; exact ((Below.refl _ w).alloc (Nat.le_refl _) _).alloc (by simp) _
  have hz1 : w.heap.size + 1 ≤ W1.heap.size := by rw [hW1.out]; simp
  refine (is_any (w.heap.size + 1) _ W1 hR1.out [60, 47] (Nat.le_of_lt hp) hs true hm1 (by decide)).mono ?_
  rintro e W2 ⟨rfl, hW2, hg2⟩
  have HR2 : Hid (RdAt W2 (w.heap.size + 1) (Rdr.new s (pos + 2) pos)) := hW2
  have hbw : Below (w.heap.size + 1) W1 W2 := below_of_grown hg2 (Nat.le_refl _) hz1
  clear hW2
  go_wp2_with fail
  refine (end_any (w.heap.size + 1) (w.heap.size + 1) s (pos + 2) pos W2 HR2.out (Nat.le_refl _) (Nat.le_trans hz1 hbw.size) hp2 hs V' hV').mono ?_
  rintro e W4 ⟨hb4, hpost⟩
  cases V' with
  | bad k c =>
   obtain ⟨rfl, R, hR4, hR41, hR42⟩ := hpost
   obtain ⟨x, hx⟩ : ∃ x, Hid (pos + 2 + k = x) := ⟨_, rfl⟩
   have HV : Hid (V = .bad (2 + k) c) := hVE.out
   rw [hx.out] at hR41
   obtain ⟨_, _, _, _, _, _, _, z7, z8⟩ := hR4.all
   rw [hR41] at z7
   rw [hR42] at z8
   have HT4 : Hid (W4.drew.heap[w.heap.size]? = some (.cells zeroTok 34 (0, 0))) := block_below ((hbw.trans hb4).drew) (Nat.lt_succ_self _) hT1.out
   clear hR41 hR42
   go_wp2_with fail
   refine wp_region_held_drew (S := fun w' => w'.cell? ⟨w.heap.size + 1, 7, none⟩ = some (.int .i64 x) ∧ w'.cell? ⟨w.heap.size + 1, 8, none⟩ = some (.int .i64 c)) (by kernel_rfl) ⟨z7, z8⟩ (fun hHeld => ?_)
   refine tkv 0 (h := tkv 1 (h := tkv 2 (h := tkv 3 (h := tkv 4 (h := tkv 5 (h := ?_))))))
   refine tkv 6 (h := tkv 7 (h := tkv 8 (h := ?_)))
   refine rdy 9 (fun K hK => ?_)
   refine wp_store_row 34 (.tmp 4) (.tmp 41) rfl w.heap.size zeroTok rfl rfl 34 zeroTok HT4.out (by kernel_rfl) rfl zeroTok_one ?_
   refine hK.out _ _ (⟨(cell_setRow_other _ _ _ _ (Nat.succ_ne_self _)).trans z7, (cell_setRow_other _ _ _ _ (Nat.succ_ne_self _)).trans z8⟩) (fun hHeld => ?_)
   clear hK K
   try go_frame
   refine tkv 10 (h := tkv 11 (h := tkv 12 (h := ?_)))
   refine wpAnyH_done (by kernel_rfl) ?_ _
   clear hHeld
   go_wp2_with fail
   try simp only [Exit.inBlock, Exit.then]
   refine bodyPost_ret (results_cell3 Try.results20 _ _ w.heap.size 34 zeroTok (0, 0) _ rfl (setRow_heap _ _ _ _ _ _ HT4.out) Try.underlying34 rfl (by kernel_rfl)) rfl ?_
   rw [HV.out]
   refine ⟨hb1.trans (below_row (((hbw.trans hb4).mono (Nat.le_succ _)).drew) (Nat.le_refl _) _), ?_⟩
   show _ = Ending.returned (.tuple #[.agg zeroTok, .int .i64 0, .int .i64 (pos + (2 + k) : Nat), .int .i64 c])
   rw [show pos + (2 + k) = x by have := hx.out; omega]
   rfl
  | ok t n =>
   obtain ⟨rfl, A, c, hR4, hA4⟩ := hpost
   obtain ⟨x, hx⟩ : ∃ x, Hid (pos + 2 + n = x) := ⟨_, rfl⟩
   have HV : Hid (V = .ok t (2 + n)) := hVE.out
   rw [hx.out] at hR4
   obtain ⟨_, z1, z2, z3, z4, z5, z6, _⟩ := hR4.all
   have HT4 : Hid (W4.drew.heap[w.heap.size]? = some (.cells zeroTok 34 (0, 0))) := block_below ((hbw.trans hb4).drew) (Nat.lt_succ_self _) hT1.out
   have HA4 : Hid (AttrsOwn W4.drew (w.heap.size + 1) A c t.attrs) := hA4
   clear hA4
   go_wp2_with fail
   have HS : Hid (RdAt W4.drew (w.heap.size + 1) ⟨s, x, t.kind, pos, t.name, t.text, A, t.attrs.length, c, 0, 0⟩) := hR4
   refine wp_region_held_drew (S := fun w' => w'.cell? ⟨w.heap.size + 1, 1, none⟩ = some (.int .i64 x) ∧ w'.cell? ⟨w.heap.size + 1, 2, none⟩ = some (.int .i64 t.kind) ∧ w'.cell? ⟨w.heap.size + 1, 3, none⟩ = some (.int .i64 pos) ∧ w'.cell? ⟨w.heap.size + 1, 4, none⟩ = some (.string ⟨t.name.toArray⟩) ∧ w'.cell? ⟨w.heap.size + 1, 5, none⟩ = some (.string ⟨t.text.toArray⟩) ∧ w'.cell? ⟨w.heap.size + 1, 6, none⟩ = some (.slice A t.attrs.length c)) (by kernel_rfl) ⟨z1, z2, z3, z4, z5, z6⟩ (fun hHeld => ?_)
   refine tkv 0 (h := tkv 1 (h := tkv 2 (h := tkv 3 (h := tkv 4 (h := tkv 5 (h := ?_))))))
   refine tkv 6 (h := tkv 7 (h := ?_))
   refine rdy 8 (fun K hK => ?_)
   refine wp_store_row 34 (.tmp 4) (.tmp 53) rfl w.heap.size (tokC pos t A c) rfl rfl 34 zeroTok HT4.out (by kernel_rfl) rfl (tokC_one _ _ _ _) ?_
   have HSR := HS.out.setRow (g := w.heap.size) (Nat.succ_ne_self _) (tokC pos t A c)
   refine hK.out _ _ (⟨HSR.all.2.1, HSR.all.2.2.1, HSR.all.2.2.2.1, HSR.all.2.2.2.2.1, HSR.all.2.2.2.2.2.1, HSR.all.2.2.2.2.2.2.1⟩) (fun hHeld => ?_)
   clear hK K
   try go_frame
   refine tkv 9 (h := tkv 10 (h := tkv 11 (h := ?_)))
   refine wpAnyH_done (by kernel_rfl) ?_ _
   clear hHeld
   go_wp2_with fail
   try simp only [Exit.inBlock, Exit.then]
   refine bodyPost_ret (results_cell3 Try.results20 _ _ w.heap.size 34 (tokC pos t A c) (0, 0) _ rfl (setRow_heap _ _ _ _ _ _ HT4.out) Try.underlying34 rfl (by kernel_rfl)) rfl ?_
   rw [HV.out]
   refine ⟨hb1.trans (below_row (((hbw.trans hb4).mono (Nat.le_succ _)).drew) (Nat.le_refl _) _), A, c, ?_, row_base (row_setRow HA4.out (Nat.lt_succ_self _) _) (Nat.le_succ _)⟩
   rw [show pos + (2 + n) = x by have := hx.out; omega]
   rfl
 | false =>
  cases m2 with
  | true =>
   obtain ⟨V', hV'⟩ : ∃ V', Hid (beginT (s.data.toList.drop (pos + 1)) = V') := ⟨_, rfl⟩
   have hVE : Hid (V = V'.past 1) := by
    show _ = _
    rw [← hV.out]
    unfold oneT
    rw [hm1.out, if_neg (by decide), hm2.out, if_pos rfl, List.drop_drop, hV'.out]
   have hp2 : pos + 1 ≤ s.size := hp
   go_enter Try.func20, Try.ntmps20
   go_wp2_with fail
   obtain ⟨W1, hW1⟩ : ∃ W1, Hid (W1 = (w.alloc (.cells #[.int .i64 0, .int .i64 0, .string ⟨#[]⟩, .string ⟨#[]⟩, .slice none 0 0] 34)).alloc (.cells #[.string s, .int .i64 pos, .int .i64 0, .int .i64 pos, .string ⟨#[]⟩, .string ⟨#[]⟩, .slice none 0 0, .int .i64 0, .int .i64 0] 64)) := ⟨_, rfl⟩
   rw [← hW1.out]
   have hR1 : Hid (RdAt W1 (w.heap.size + 1) (Rdr.new s pos pos)) := by show RdAt _ _ _; rw [hW1.out]; exact heap_alloc2_new _ _ _
   have hT1 : Hid (W1.heap[w.heap.size]? = some (.cells zeroTok 34 (0, 0))) := by show _ = _; rw [hW1.out]; exact heap_alloc2_old _ _ _
   have hb1 : Below w.heap.size w W1 := by rw [hW1.out]; exact ((Below.refl _ w).alloc (Nat.le_refl _) _).alloc (by simp) _
   have hz1 : w.heap.size + 1 ≤ W1.heap.size := by rw [hW1.out]; simp
   refine (is_any (w.heap.size + 1) _ W1 hR1.out [60, 47] (Nat.le_of_lt hp) hs false hm1 (by decide)).mono ?_
   rintro e W2 ⟨rfl, hW2, hg2⟩
   have HR2 : Hid (RdAt W2 (w.heap.size + 1) (Rdr.new s pos pos)) := hW2
   clear hW2
   go_wp2_with fail
   refine (is_any (w.heap.size + 1) _ W2 HR2.out [60] (Nat.le_of_lt hp) hs true hm2 (by decide)).mono ?_
   rintro e W3 ⟨rfl, hW3, hg3⟩
   have HR3 : Hid (RdAt W3 (w.heap.size + 1) (Rdr.new s (pos + 1) pos)) := hW3
   have hbw : Below (w.heap.size + 1) W1 W3 := below_of_grown (grown_twice hg2 hg3) (Nat.le_refl _) hz1
   clear hW3
   go_wp2_with fail
   refine (begin_any (w.heap.size + 1) (w.heap.size + 1) s (pos + 1) pos W3 HR3.out (Nat.le_refl _) (Nat.le_trans hz1 hbw.size) hp2 hs V' hV').mono ?_
   rintro e W4 ⟨hb4, hpost⟩
   cases V' with
   | bad k c =>
    obtain ⟨rfl, R, hR4, hR41, hR42⟩ := hpost
    obtain ⟨x, hx⟩ : ∃ x, Hid (pos + 1 + k = x) := ⟨_, rfl⟩
    have HV : Hid (V = .bad (1 + k) c) := hVE.out
    rw [hx.out] at hR41
    obtain ⟨_, _, _, _, _, _, _, z7, z8⟩ := hR4.all
    rw [hR41] at z7
    rw [hR42] at z8
    have HT4 : Hid (W4.drew.heap[w.heap.size]? = some (.cells zeroTok 34 (0, 0))) := block_below ((hbw.trans hb4).drew) (Nat.lt_succ_self _) hT1.out
    clear hR41 hR42
    go_wp2_with fail
    refine wp_region_held_drew (S := fun w' => w'.cell? ⟨w.heap.size + 1, 7, none⟩ = some (.int .i64 x) ∧ w'.cell? ⟨w.heap.size + 1, 8, none⟩ = some (.int .i64 c)) (by kernel_rfl) ⟨z7, z8⟩ (fun hHeld => ?_)
    refine tkv 0 (h := tkv 1 (h := tkv 2 (h := tkv 3 (h := tkv 4 (h := tkv 5 (h := ?_))))))
    refine tkv 6 (h := tkv 7 (h := tkv 8 (h := ?_)))
    refine rdy 9 (fun K hK => ?_)
    refine wp_store_row 34 (.tmp 4) (.tmp 41) rfl w.heap.size zeroTok rfl rfl 34 zeroTok HT4.out (by kernel_rfl) rfl zeroTok_one ?_
    refine hK.out _ _ (⟨(cell_setRow_other _ _ _ _ (Nat.succ_ne_self _)).trans z7, (cell_setRow_other _ _ _ _ (Nat.succ_ne_self _)).trans z8⟩) (fun hHeld => ?_)
    clear hK K
    try go_frame
    refine tkv 10 (h := tkv 11 (h := tkv 12 (h := ?_)))
    refine wpAnyH_done (by kernel_rfl) ?_ _
    clear hHeld
    go_wp2_with fail
    try simp only [Exit.inBlock, Exit.then]
    refine bodyPost_ret (results_cell3 Try.results20 _ _ w.heap.size 34 zeroTok (0, 0) _ rfl (setRow_heap _ _ _ _ _ _ HT4.out) Try.underlying34 rfl (by kernel_rfl)) rfl ?_
    rw [HV.out]
    refine ⟨hb1.trans (below_row (((hbw.trans hb4).mono (Nat.le_succ _)).drew) (Nat.le_refl _) _), ?_⟩
    show _ = Ending.returned (.tuple #[.agg zeroTok, .int .i64 0, .int .i64 (pos + (1 + k) : Nat), .int .i64 c])
    rw [show pos + (1 + k) = x by have := hx.out; omega]
    rfl
   | ok t n =>
    obtain ⟨rfl, A, c, hR4, hA4⟩ := hpost
    obtain ⟨x, hx⟩ : ∃ x, Hid (pos + 1 + n = x) := ⟨_, rfl⟩
    have HV : Hid (V = .ok t (1 + n)) := hVE.out
    rw [hx.out] at hR4
    obtain ⟨_, z1, z2, z3, z4, z5, z6, _⟩ := hR4.all
    have HT4 : Hid (W4.drew.heap[w.heap.size]? = some (.cells zeroTok 34 (0, 0))) := block_below ((hbw.trans hb4).drew) (Nat.lt_succ_self _) hT1.out
    have HA4 : Hid (AttrsOwn W4.drew (w.heap.size + 1) A c t.attrs) := hA4
    clear hA4
    go_wp2_with fail
    have HS : Hid (RdAt W4.drew (w.heap.size + 1) ⟨s, x, t.kind, pos, t.name, t.text, A, t.attrs.length, c, 0, 0⟩) := hR4
    refine wp_region_held_drew (S := fun w' => w'.cell? ⟨w.heap.size + 1, 1, none⟩ = some (.int .i64 x) ∧ w'.cell? ⟨w.heap.size + 1, 2, none⟩ = some (.int .i64 t.kind) ∧ w'.cell? ⟨w.heap.size + 1, 3, none⟩ = some (.int .i64 pos) ∧ w'.cell? ⟨w.heap.size + 1, 4, none⟩ = some (.string ⟨t.name.toArray⟩) ∧ w'.cell? ⟨w.heap.size + 1, 5, none⟩ = some (.string ⟨t.text.toArray⟩) ∧ w'.cell? ⟨w.heap.size + 1, 6, none⟩ = some (.slice A t.attrs.length c)) (by kernel_rfl) ⟨z1, z2, z3, z4, z5, z6⟩ (fun hHeld => ?_)
    refine tkv 0 (h := tkv 1 (h := tkv 2 (h := tkv 3 (h := tkv 4 (h := tkv 5 (h := ?_))))))
    refine tkv 6 (h := tkv 7 (h := ?_))
    refine rdy 8 (fun K hK => ?_)
    refine wp_store_row 34 (.tmp 4) (.tmp 53) rfl w.heap.size (tokC pos t A c) rfl rfl 34 zeroTok HT4.out (by kernel_rfl) rfl (tokC_one _ _ _ _) ?_
    have HSR := HS.out.setRow (g := w.heap.size) (Nat.succ_ne_self _) (tokC pos t A c)
    refine hK.out _ _ (⟨HSR.all.2.1, HSR.all.2.2.1, HSR.all.2.2.2.1, HSR.all.2.2.2.2.1, HSR.all.2.2.2.2.2.1, HSR.all.2.2.2.2.2.2.1⟩) (fun hHeld => ?_)
    clear hK K
    try go_frame
    refine tkv 9 (h := tkv 10 (h := tkv 11 (h := ?_)))
    refine wpAnyH_done (by kernel_rfl) ?_ _
    clear hHeld
    go_wp2_with fail
    try simp only [Exit.inBlock, Exit.then]
    refine bodyPost_ret (results_cell3 Try.results20 _ _ w.heap.size 34 (tokC pos t A c) (0, 0) _ rfl (setRow_heap _ _ _ _ _ _ HT4.out) Try.underlying34 rfl (by kernel_rfl)) rfl ?_
    rw [HV.out]
    refine ⟨hb1.trans (below_row (((hbw.trans hb4).mono (Nat.le_succ _)).drew) (Nat.le_refl _) _), A, c, ?_, row_base (row_setRow HA4.out (Nat.lt_succ_self _) _) (Nat.le_succ _)⟩
    rw [show pos + (1 + n) = x by have := hx.out; omega]
    rfl
  | false =>
   obtain ⟨V', hV'⟩ : ∃ V', Hid (textT (s.data.toList.drop pos) = V') := ⟨_, rfl⟩
   have hVE : Hid (V = V'.past 0) := by
    show _ = _
    rw [← hV.out, Told.past_zero, ← hV'.out]
    unfold oneT
    rw [hm1.out, if_neg (by decide), hm2.out, if_neg (by decide)]
   go_enter Try.func20, Try.ntmps20
   go_wp2_with fail
   obtain ⟨W1, hW1⟩ : ∃ W1, Hid (W1 = (w.alloc (.cells #[.int .i64 0, .int .i64 0, .string ⟨#[]⟩, .string ⟨#[]⟩, .slice none 0 0] 34)).alloc (.cells #[.string s, .int .i64 pos, .int .i64 0, .int .i64 pos, .string ⟨#[]⟩, .string ⟨#[]⟩, .slice none 0 0, .int .i64 0, .int .i64 0] 64)) := ⟨_, rfl⟩
   rw [← hW1.out]
   have hR1 : Hid (RdAt W1 (w.heap.size + 1) (Rdr.new s pos pos)) := by show RdAt _ _ _; rw [hW1.out]; exact heap_alloc2_new _ _ _
   have hT1 : Hid (W1.heap[w.heap.size]? = some (.cells zeroTok 34 (0, 0))) := by show _ = _; rw [hW1.out]; exact heap_alloc2_old _ _ _
   have hb1 : Below w.heap.size w W1 := by rw [hW1.out]; exact ((Below.refl _ w).alloc (Nat.le_refl _) _).alloc (by simp) _
   have hz1 : w.heap.size + 1 ≤ W1.heap.size := by rw [hW1.out]; simp
   refine (is_any (w.heap.size + 1) _ W1 hR1.out [60, 47] (Nat.le_of_lt hp) hs false hm1 (by decide)).mono ?_
   rintro e W2 ⟨rfl, hW2, hg2⟩
   have HR2 : Hid (RdAt W2 (w.heap.size + 1) (Rdr.new s pos pos)) := hW2
   clear hW2
   go_wp2_with fail
   refine (is_any (w.heap.size + 1) _ W2 HR2.out [60] (Nat.le_of_lt hp) hs false hm2 (by decide)).mono ?_
   rintro e W3 ⟨rfl, hW3, hg3⟩
   have HR3 : Hid (RdAt W3 (w.heap.size + 1) (Rdr.new s pos pos)) := hW3
   have hbw : Below (w.heap.size + 1) W1 W3 := below_of_grown (grown_twice hg2 hg3) (Nat.le_refl _) hz1
   clear hW3
   go_wp2_with fail
   refine (text_any (w.heap.size + 1) (w.heap.size + 1) s pos pos W3 HR3.out (Nat.le_refl _) (Nat.le_trans hz1 hbw.size) (Nat.le_of_lt hp) hs V' hV').mono ?_
   rintro e W4 ⟨hb4, hpost⟩
   cases V' with
   | bad k c =>
    obtain ⟨rfl, R, hR4, hR41, hR42⟩ := hpost
    obtain ⟨x, hx⟩ : ∃ x, Hid (pos + k = x) := ⟨_, rfl⟩
    have HV : Hid (V = .bad (0 + k) c) := hVE.out
    rw [hx.out] at hR41
    obtain ⟨_, _, _, _, _, _, _, z7, z8⟩ := hR4.all
    rw [hR41] at z7
    rw [hR42] at z8
    have HT4 : Hid (W4.drew.heap[w.heap.size]? = some (.cells zeroTok 34 (0, 0))) := block_below ((hbw.trans hb4).drew) (Nat.lt_succ_self _) hT1.out
    clear hR41 hR42
    go_wp2_with fail
    refine wp_region_held_drew (S := fun w' => w'.cell? ⟨w.heap.size + 1, 7, none⟩ = some (.int .i64 x) ∧ w'.cell? ⟨w.heap.size + 1, 8, none⟩ = some (.int .i64 c)) (by kernel_rfl) ⟨z7, z8⟩ (fun hHeld => ?_)
    refine tkv 0 (h := tkv 1 (h := tkv 2 (h := tkv 3 (h := tkv 4 (h := tkv 5 (h := ?_))))))
    refine tkv 6 (h := tkv 7 (h := tkv 8 (h := ?_)))
    refine rdy 9 (fun K hK => ?_)
    refine wp_store_row 34 (.tmp 4) (.tmp 41) rfl w.heap.size zeroTok rfl rfl 34 zeroTok HT4.out (by kernel_rfl) rfl zeroTok_one ?_
    refine hK.out _ _ (⟨(cell_setRow_other _ _ _ _ (Nat.succ_ne_self _)).trans z7, (cell_setRow_other _ _ _ _ (Nat.succ_ne_self _)).trans z8⟩) (fun hHeld => ?_)
    clear hK K
    try go_frame
    refine tkv 10 (h := tkv 11 (h := tkv 12 (h := ?_)))
    refine wpAnyH_done (by kernel_rfl) ?_ _
    clear hHeld
    go_wp2_with fail
    try simp only [Exit.inBlock, Exit.then]
    refine bodyPost_ret (results_cell3 Try.results20 _ _ w.heap.size 34 zeroTok (0, 0) _ rfl (setRow_heap _ _ _ _ _ _ HT4.out) Try.underlying34 rfl (by kernel_rfl)) rfl ?_
    rw [HV.out]
    refine ⟨hb1.trans (below_row (((hbw.trans hb4).mono (Nat.le_succ _)).drew) (Nat.le_refl _) _), ?_⟩
    show _ = Ending.returned (.tuple #[.agg zeroTok, .int .i64 0, .int .i64 (pos + (0 + k) : Nat), .int .i64 c])
    rw [show pos + (0 + k) = x by have := hx.out; omega]
    rfl
   | ok t n =>
    obtain ⟨rfl, A, c, hR4, hA4⟩ := hpost
    obtain ⟨x, hx⟩ : ∃ x, Hid (pos + n = x) := ⟨_, rfl⟩
    have HV : Hid (V = .ok t (0 + n)) := hVE.out
    rw [hx.out] at hR4
    obtain ⟨_, z1, z2, z3, z4, z5, z6, _⟩ := hR4.all
    have HT4 : Hid (W4.drew.heap[w.heap.size]? = some (.cells zeroTok 34 (0, 0))) := block_below ((hbw.trans hb4).drew) (Nat.lt_succ_self _) hT1.out
    have HA4 : Hid (AttrsOwn W4.drew (w.heap.size + 1) A c t.attrs) := hA4
    clear hA4
    go_wp2_with fail
    have HS : Hid (RdAt W4.drew (w.heap.size + 1) ⟨s, x, t.kind, pos, t.name, t.text, A, t.attrs.length, c, 0, 0⟩) := hR4
    refine wp_region_held_drew (S := fun w' => w'.cell? ⟨w.heap.size + 1, 1, none⟩ = some (.int .i64 x) ∧ w'.cell? ⟨w.heap.size + 1, 2, none⟩ = some (.int .i64 t.kind) ∧ w'.cell? ⟨w.heap.size + 1, 3, none⟩ = some (.int .i64 pos) ∧ w'.cell? ⟨w.heap.size + 1, 4, none⟩ = some (.string ⟨t.name.toArray⟩) ∧ w'.cell? ⟨w.heap.size + 1, 5, none⟩ = some (.string ⟨t.text.toArray⟩) ∧ w'.cell? ⟨w.heap.size + 1, 6, none⟩ = some (.slice A t.attrs.length c)) (by kernel_rfl) ⟨z1, z2, z3, z4, z5, z6⟩ (fun hHeld => ?_)
    refine tkv 0 (h := tkv 1 (h := tkv 2 (h := tkv 3 (h := tkv 4 (h := tkv 5 (h := ?_))))))
    refine tkv 6 (h := tkv 7 (h := ?_))
    refine rdy 8 (fun K hK => ?_)
    refine wp_store_row 34 (.tmp 4) (.tmp 53) rfl w.heap.size (tokC pos t A c) rfl rfl 34 zeroTok HT4.out (by kernel_rfl) rfl (tokC_one _ _ _ _) ?_
    have HSR := HS.out.setRow (g := w.heap.size) (Nat.succ_ne_self _) (tokC pos t A c)
    refine hK.out _ _ (⟨HSR.all.2.1, HSR.all.2.2.1, HSR.all.2.2.2.1, HSR.all.2.2.2.2.1, HSR.all.2.2.2.2.2.1, HSR.all.2.2.2.2.2.2.1⟩) (fun hHeld => ?_)
    clear hK K
    try go_frame
    refine tkv 9 (h := tkv 10 (h := tkv 11 (h := ?_)))
    refine wpAnyH_done (by kernel_rfl) ?_ _
    clear hHeld
    go_wp2_with fail
    try simp only [Exit.inBlock, Exit.then]
    refine bodyPost_ret (results_cell3 Try.results20 _ _ w.heap.size 34 (tokC pos t A c) (0, 0) _ rfl (setRow_heap _ _ _ _ _ _ HT4.out) Try.underlying34 rfl (by kernel_rfl)) rfl ?_
    rw [HV.out]
    refine ⟨hb1.trans (below_row (((hbw.trans hb4).mono (Nat.le_succ _)).drew) (Nat.le_refl _) _), A, c, ?_, row_base (row_setRow HA4.out (Nat.lt_succ_self _) _) (Nat.le_succ _)⟩
    rw [show pos + (0 + n) = x by have := hx.out; omega]
    rfl
end
section
open Go.RowKit
theorem own_keep {w w' : World} {B : Nat} {e : TypeId} {size : Nat} {v : Value} {n : Nat} {xs : List Value} (h : w.ownsRow B e size v n xs) (hb : Below w.heap.size w w') : w'.ownsRow B e size v n xs := by
 refine ⟨h.1, ?_⟩
 rcases h.2 with h | ⟨g, cap, cur, h1, h2, h3, h4⟩
 ·exact .inl h
 ·exact .inr ⟨g, cap, cur, h1, h2, by rw [hb.block g (Array.getElem?_eq_some_iff.1 h3).1]; exact h3, h4⟩
abbrev TSlot := (Nat × TokD) × Option Addr × Nat
def cellsT (x : TSlot) : List Value := [.int .i64 x.1.2.kind, .int .i64 x.1.1, strV x.1.2.name, strV x.1.2.text, .slice x.2.1 x.1.2.attrs.length x.2.2]
theorem cellsT_length (x : TSlot) : (cellsT x).length = 5 := rfl
theorem cellsT_one (x : TSlot) : ∀ u ∈ cellsT x, u.oneCell' = true := by
 intro u hu
 simp [cellsT, strV] at hu
 rcases hu with rfl | rfl | rfl | rfl | rfl <;> rfl
theorem infoToken : (Try.prog.info? 34).map (fun i => (i.zero, i.size, i.bytes)) = some (some (.agg #[.int .i64 0, .int .i64 0, .string ByteArray.empty, .string ByteArray.empty, .slice none 0 0]), 5, 72) := by kernel_rfl
def TokensOwn (w : World) (B : Nat) (A : Option Addr) (c : Nat) (S : List TSlot) : Prop := w.ownsRow B 34 5 (.slice A S.length c) S.length (S.flatMap cellsT)
def TAttrs (w : World) (B : Nat) (S : List TSlot) : Prop := ∀ x ∈ S, AttrsOwn w B x.2.1 x.2.2 x.1.2.attrs
def AllPost3 (w : World) (R : List (Nat × TokD) × Nat × Int) (e : Ending) (w' : World) : Prop :=
 Below w.heap.size w w' ∧ ((R.2.2 = 0 ∧ ∃ A c S, e = .returned (.tuple #[.slice A S.length c, .int .i64 0, .int .i64 0]) ∧ TokensOwn w' w.heap.size A c S ∧ TAttrs w' w.heap.size S ∧ S.map (·.1) = R.1)
  ∨ (R.2.2 ≠ 0 ∧ e = .returned (.tuple #[.slice none 0 0, .int .i64 R.2.1, .int .i64 R.2.2])))
theorem TAttrs.keep {w w' : World} {B : Nat} {S : List TSlot} (h : TAttrs w B S) {B' : Nat} (hb : Below B' w w') (hz : w.heap.size ≤ B') : TAttrs w' B S := fun x hx => own_keep (h x hx) (hb.mono hz)
theorem allF_form : ∀ (f : Nat) (p : Nat) (l : List UInt8), l.length < f → (allF f p l).2.2 = 0 → (allF f p l).2.1 = 0
 | 0, _, _, h, _ => by omega
 | f + 1, p, l, hf, h => by
  rw [allF] at h ⊢
  split
  ·rfl
  ·rename_i hl
   rw [if_neg hl] at h
   have hw := oneT_within l hl
   cases ho : oneT l with
   | bad k e => rw [ho] at h hw; exact absurd h hw.2
   | ok t n =>
    simp only
    split
    ·rfl
    ·rename_i hq
     rw [ho] at h
     simp only at h
     rw [if_neg hq] at h
     exact absurd h hq
theorem allF_empty : ∀ (f : Nat) (p : Nat) (l : List UInt8), (allF f p l).2.2 ≠ 0 → (allF f p l).1 = []
 | 0, _, _, h => absurd rfl h
 | f + 1, p, l, h => by
  rw [allF] at h ⊢
  split
  ·rfl
  ·rename_i hl
   rw [if_neg hl] at h
   cases ho : oneT l with
   | bad k e => rfl
   | ok t n =>
    rw [ho] at h
    simp only at h ⊢
    split
    ·rename_i hq; rw [if_pos hq] at h; exact absurd rfl h
    ·rfl
theorem joinT_start (p : Nat) (l : List UInt8) : joinT [] (allL p l) = allL p l := by
 unfold joinT
 by_cases h : (allL p l).2.2 = 0
 ·have h1 := allF_form (l.length + 1) p l (Nat.lt_succ_self _) h
  rw [if_pos h]
  show ([] ++ (allL p l).1, 0, 0) = allL p l
  have e1 : (allL p l).2.1 = 0 := h1
  rw [List.nil_append]
  exact Prod.ext rfl (Prod.ext e1.symm h.symm)
 ·rw [if_neg h]
  have h1 := allF_empty (l.length + 1) p l h
  exact Prod.ext h1.symm rfl
theorem All_any (s : ByteArray) (w : World) (hs : s.size ≤ 1000000000) (R : List (Nat × TokD) × Nat × Int) (hR : Hid (allL 0 s.data.toList = R)) :
  Calls Try.prog 17 #[.string s] w (AllPost3 w R) := by
 have HL := Lib.hid (size_toList s)
 have hJ0 : Hid (joinT [] (allL 0 (s.data.toList.drop 0)) = R) := by
  show _ = _
  rw [List.drop_zero, hR.out]
  rw [← hR.out]
  exact joinT_start _ _
 go_enter Try.func17, Try.ntmps17
 go_wp2_with fail
 go_loopw [5, 6] (fun l i wr => ∃ (pos : Nat) (S : List TSlot) (A : Option Addr) (c m : Nat), pos ≤ s.size ∧ m ≤ pos ∧ i = .int .i64 pos ∧ l = .slice A m c ∧ Hid (S.length = m) ∧ Hid (TokensOwn wr w.heap.size A c S) ∧ Hid (TAttrs wr w.heap.size S) ∧ Hid (Below w.heap.size w wr) ∧ Hid (joinT (S.map (·.1)) (allL pos (s.data.toList.drop pos)) = R)) (fun _ i _ => s.size - (intOf i).toNat)
 case atStart => exact ⟨0, [], none, 0, 0, Nat.zero_le _, Nat.le_refl _, rfl, rfl, rfl, World.ownsRow_nil _ _ _ _, (fun _ h => absurd h List.not_mem_nil : TAttrs w w.heap.size []), Below.refl _ _, hJ0.out⟩
 case round =>
  obtain ⟨pos, S, A, c, m, hps, hmp, rfl, rfl, hm, hown, hat, hbel, hin⟩ := hrel
  by_cases hlt : pos < s.size
  ·have hlt' : (pos : Int) < s.size := by omega
   have hne : Hid (s.data.toList.drop pos ≠ []) := by
    show _ ≠ _
    intro e
    have := congrArg List.length e
    rw [List.length_drop, HL.out] at this
    simp at this; omega
   obtain ⟨V, hV⟩ : ∃ V, Hid (oneT (s.data.toList.drop pos) = V) := ⟨_, rfl⟩
   have hwit := oneT_within _ hne.out
   rw [hV.out, List.length_drop, HL.out] at hwit
   go_wp2_with fail
   refine (One_any s pos wr hlt hs V hV).mono ?_
   rintro e1 w2 ⟨hb2, hpost⟩
   cases V with
   | bad k e =>
    have he : e ≠ 0 := hwit.2
    have he1 : (e != 0) = true := by simpa using he
    have HE := Lib.hid he
    have HR : Hid (R = ([], pos + k, e)) := by
     show _ = _
     rw [← hin.out, joinT_one_bad _ _ _ hne.out k e hV.out]
    have hee : e1 = .returned (.tuple #[.agg #[.int .i64 0, .int .i64 0, .string ⟨#[]⟩, .string ⟨#[]⟩, .slice none 0 0], .int .i64 0, .int .i64 (pos + k : Nat), .int .i64 e]) := hpost
    clear he hwit hpost
    subst hee
    go_wp2_with fail
    go_ret3
    rw [HR.out]
    exact ⟨hbel.out.trans ((hb2.mono hbel.out.size).alloc (Nat.le_trans hbel.out.size hb2.size) _), .inr ⟨HE.out, rfl⟩⟩
   | ok t n =>
    obtain ⟨A2, c2, hee0, hA2'⟩ := hpost
    have hee : e1 = .returned (.tuple #[.agg #[.int .i64 t.kind, .int .i64 pos, .string ⟨t.name.toArray⟩, .string ⟨t.text.toArray⟩, .slice A2 t.attrs.length c2], .int .i64 (pos + n : Nat), .int .i64 0, .int .i64 0]) := hee0
    clear hee0
    subst hee
    have hA2 := Lib.hid hA2'
    clear hA2'
    obtain ⟨W2, hW2⟩ : ∃ W2, Hid (W2 = w2.alloc (.cells #[.int .i64 t.kind, .int .i64 pos, .string ⟨t.name.toArray⟩, .string ⟨t.text.toArray⟩, .slice A2 t.attrs.length c2] 34)) := ⟨_, rfl⟩
    have hb2' : Below wr.heap.size wr W2 := by rw [hW2.out]; exact hb2.alloc hb2.size _
    have hown2 : W2.ownsRow w.heap.size 34 5 (.slice A m c) m (S.flatMap cellsT) := by rw [← hm.out]; exact own_keep hown.out hb2'
    have hat2 : Hid (TAttrs W2 w.heap.size (S ++ [((pos, t), A2, c2)])) := fun x hx => by
     rcases List.mem_append.1 hx with h | h
     ·exact own_keep (hat.out x h) hb2'
     ·simp at h; subst h
      rw [hW2.out]
      exact row_base (World.ownsRow.alloc hA2.out _) hbel.out.size
    have hz2 : w.heap.size ≤ W2.heap.size := Nat.le_trans hbel.out.size hb2'.size
    have HIN : Hid (joinT ((S ++ [((pos, t), A2, c2)]).map (·.1)) (allL (pos + n) (s.data.toList.drop (pos + n))) = R) := by
     show _ = _
     rw [List.map_append, ← hin.out, joinT_step _ pos _ hne.out t n hV.out, List.drop_drop]
     rfl
    go_wp2_with (at_builtin; rw [← hW2.out]; go_loud (refine appendS rfl (.tmp 27) (.tmp 29) 23 rfl w.heap.size 34 (.agg #[.int .i64 0, .int .i64 0, .string ByteArray.empty, .string ByteArray.empty, .slice none 0 0]) 5 72 Try.underlying23 infoToken rfl (by decide) _ m _ (cellsT ((pos, t), A2, c2)) rfl hown2 hz2 _ rfl (by rw [hW2.out]; simp) (cellsT_length _) (cellsT_one _) (by omega) (by decide) ?_))
    intro a4 c4 w4 hown4 hb4 hz4 hg4
    have hown4' : TokensOwn w4 w.heap.size a4 c4 (S ++ [((pos, t), A2, c2)]) := by
     unfold TokensOwn
     rw [List.length_append, List.flatMap_append, hm.out]
     simpa using hown4
    have hat4 : Hid (TAttrs w4 w.heap.size (S ++ [((pos, t), A2, c2)])) := fun x hx => own_grown (World.ownsRow.alloc (hat2.out x hx) _) (World.ownsRow.alloc hown2 _) (by decide) hg4
    have hb4' : Below w.heap.size w w4 := hbel.out.trans ((hb2'.mono hbel.out.size).trans hb4)
    obtain ⟨hn1, hn2⟩ := hwit
    clear hown4 hg4
    go_wp2_with fail
    go_roundw
    case rel => exact ⟨pos + n, S ++ [((pos, t), A2, c2)], a4, c4, m + 1, by omega, by omega, by go_num, rfl, by show _ = _; rw [List.length_append, hm.out]; rfl, hown4', hat4.out, hb4', HIN.out⟩
    case measure => simp [intOf]; omega
  ·have hlt' : (s.size : Int) ≤ (pos : Int) := by omega
   have HR : Hid (R = (S.map (·.1), 0, 0)) := by
    show _ = _
    rw [← hin.out, List.drop_eq_nil_of_le (by rw [HL.out]; omega), allL_nil, joinT_nil]
   go_wp2_with fail
   go_ret3
   rw [HR.out]
   exact ⟨hbel.out, .inl ⟨rfl, A, c, S, by rw [hm.out]; rfl, hown.out, hat.out, rfl⟩⟩
end
section
open Go.RowKit
def aliveT : List (Nat × TokD) := [(0, ⟨3, [97], [], [⟨[98], [49]⟩]⟩), (10, ⟨4, [], [120], []⟩)]
theorem alive_all : allL 0 [60, 97, 32, 98, 61, 34, 49, 34, 47, 62, 120] = (aliveT, 0, 0) := by decide +kernel
theorem alive_all2 : allL 0 [60, 97, 32, 98, 61, 49, 62] = ([], 5, 30) := by decide +kernel
theorem two_of {α : Type} : ∀ {l : List α}, l.length = 2 → ∃ a b, l = [a, b]
 | [a, b], _ => ⟨a, b, rfl⟩
theorem TokensOwn.cells {w : World} {B : Nat} {A : Option Addr} {c : Nat} {S : List TSlot} (h : TokensOwn w B A c S) (hl : 0 < S.length) :
  ∃ g, A = some ⟨g, 0, none⟩ ∧ B ≤ g ∧ g < w.heap.size ∧ ∀ k x j u, S[k]? = some x → (cellsT x)[j]? = some u → w.cell? ⟨g, k * 5 + j, none⟩ = some u := by
 obtain ⟨g, rfl, hB, hg, _, hc⟩ := own_flat cellsT cellsT_length h hl
 refine ⟨g, rfl, hB, hg, fun k x j u hx hu => ?_⟩
 have := hc k x j u hx hu
 rwa [add_zero_block] at this
theorem AttrsOwn.cells {w : World} {B : Nat} {A : Option Addr} {c : Nat} {l : List AttrD} (h : AttrsOwn w B A c l) (hl : 0 < l.length) :
  ∃ g, A = some ⟨g, 0, none⟩ ∧ B ≤ g ∧ g < w.heap.size ∧ ∀ k x j u, l[k]? = some x → (cellsA x)[j]? = some u → w.cell? ⟨g, k * 2 + j, none⟩ = some u := by
 obtain ⟨g, rfl, hB, hg, _, hc⟩ := own_flat cellsA cellsA_length h hl
 refine ⟨g, rfl, hB, hg, fun k x j u hx hu => ?_⟩
 have := hc k x j u hx hu
 rwa [add_zero_block] at this
theorem alive3_any (w : World) : Calls Try.prog 16 #[] w (Ret w (.bool true)) := by
 have HP : Hid (allL 0 (⟨#[60, 97, 32, 98, 61, 34, 49, 34, 47, 62, 120]⟩ : ByteArray).data.toList = (aliveT, 0, 0)) := alive_all
 have HP2 : Hid (allL 0 (⟨#[60, 97, 32, 98, 61, 49, 62]⟩ : ByteArray).data.toList = ([], 5, 30)) := alive_all2
 go_enter Try.func16, Try.ntmps16
 go_wp2_with fail
 refine (All_any _ w (by decide) _ HP).mono ?_
 rintro e w1 ⟨hb1, hpost⟩
 rcases hpost with ⟨_, A, c, S, hee, hown, hat, hS⟩ | ⟨h, _⟩
 ·have hlen : S.length = 2 := by have := congrArg List.length hS; simpa [aliveT] using this
  obtain ⟨x0, x1, rfl⟩ := two_of hlen
  obtain ⟨⟨p0, t0⟩, A0, c0⟩ := x0
  obtain ⟨⟨p1, t1⟩, A1, c1⟩ := x1
  simp only [List.map_cons, List.map_nil, aliveT, List.cons.injEq, Prod.mk.injEq, and_true] at hS
  obtain ⟨⟨rfl, rfl⟩, rfl, rfl⟩ := hS
  obtain ⟨g, rfl, hBg, hg, hc⟩ := hown.cells (by simp)
  have ha0 : AttrsOwn w1 w.heap.size A0 c0 [⟨[98], [49]⟩] := hat _ List.mem_cons_self
  obtain ⟨g0, rfl, _, hg0, hc0⟩ := ha0.cells (by simp)
  have y0 : w1.cell? ⟨g, 0, none⟩ = some (.int .i64 3) := hc 0 _ 0 _ rfl rfl
  have y2 : w1.cell? ⟨g, 2, none⟩ = some (.string ⟨#[97]⟩) := hc 0 _ 2 _ rfl rfl
  have y4 : w1.cell? ⟨g, 4, none⟩ = some (.slice (some ⟨g0, 0, none⟩) 1 c0) := hc 0 _ 4 _ rfl rfl
  have y8 : w1.cell? ⟨g, 8, none⟩ = some (.string ⟨#[120]⟩) := hc 1 _ 3 _ rfl rfl
  have y9 : w1.cell? ⟨g0, 1, none⟩ = some (.string ⟨#[49]⟩) := hc0 0 _ 1 _ rfl rfl
  have hee' : e = .returned (.tuple #[.slice (some ⟨g, 0, none⟩) 2 c, .int .i64 0, .int .i64 0]) := hee
  clear hee hown hat ha0 hc hc0
  subst hee'
  go_wp2_with fail
  refine (All_any _ w1 (by decide) _ HP2).mono ?_
  rintro e w2 ⟨hb2, hpost⟩
  rcases hpost with ⟨h, _⟩ | ⟨_, hee⟩
  ·exact absurd h (by decide)
  ·have hee' : e = .returned (.tuple #[.slice none 0 0, .int .i64 5, .int .i64 30]) := hee
   clear hee
   subst hee'
   rw [← hb2.cell (p := ⟨g, 0, none⟩) hg] at y0
   rw [← hb2.cell (p := ⟨g, 2, none⟩) hg] at y2
   rw [← hb2.cell (p := ⟨g, 4, none⟩) hg] at y4
   rw [← hb2.cell (p := ⟨g, 8, none⟩) hg] at y8
   rw [← hb2.cell (p := ⟨g0, 1, none⟩) hg0] at y9
   go_wp2_with fail
   go_ret
   exact ⟨rfl, hb1.trans (hb2.mono hb1.size)⟩
 ·exact absurd rfl h
end
end Go.Proofs.Ythifddkmbjnncaa
