/-
  The reader of tokens: the walk of attr.
-/
import Derived.Test.YthifddkmbjnncaaHas
namespace Go.Proofs.Ythifddkmbjnncaa
open Go.RowKit

/-- what attr leaves -/
def AttrPost (w : World) (B b : Nat) (r : Rdr) (l : List AttrD) (V : Told AttrD) (e : Ending) (w' : World) : Prop :=
  Below B w w' ∧ match V with
  | .ok a n => e = .returned (.bool true) ∧ ∃ A c, RdAt w' b { r with pos := r.pos + n, A := A, n := (l ++ [a]).length, c := c } ∧ AttrsOwn w' B A c (l ++ [a])
  | .bad k c => e = .returned (.bool false) ∧ ∃ R : Rdr, RdAt w' b R ∧ R.bad = ((r.pos + k : Nat) : Int) ∧ R.code = c

/-- the attributes stand where only the reader's block is written -/
theorem attrs_kept {w w' : World} {B b : Nat} {r : Rdr} (h : RdAt w b r) {A : Option Addr} {c : Nat} {l : List AttrD} (hA : AttrsOwn w B A c l) (hg : w.grownBy w' (some b)) : AttrsOwn w' B A c l := by
  refine World.ownsRow.kept hA hg ?_
  cases hv : (Value.slice A l.length c).ownBlock with
  | none => exact .inl rfl
  | some g =>
    refine .inr fun e => ?_
    injection e with e
    subst e
    obtain ⟨_, _, cur, hc⟩ := own_type hA g hv
    unfold RdAt at h
    rw [hc] at h
    injection h with h
    injection h with _ h
    exact absurd h (by decide)

set_option maxRecDepth 100000 in
set_option maxHeartbeats 1000000 in
theorem attr_early (b B : Nat) (r : Rdr) (w : World) (h : RdAt w b r) (hB : B ≤ b) (hBw : B ≤ w.heap.size) (hp : r.pos ≤ r.s.size) (hs : r.s.size ≤ 1000000000) (l : List AttrD) (hn : r.n = l.length) (hA : AttrsOwn w B r.A r.c l) (hl : l.length ≤ 1000)
    (n : List UInt8) (hw : Hid (wordL (r.s.data.toList.drop r.pos) = n)) (hb : nameL n = false ∨ 20 ≤ l.length ∨ l.any (fun a => decide (a.name = n)) = true) (V : Told AttrD) (hV : Hid (attrL (r.s.data.toList.drop r.pos) l = V)) :
    Calls Try.prog 73 #[.pointer (some ⟨b, 0, none⟩)] w (AttrPost w B b r l V) := by
  obtain ⟨_, h1, _⟩ := h.all
  cases hv : nameL n with
  | false =>
    have HV : Hid (V = .bad 0 31) := by
      show _ = _
      rw [← hV.out]; unfold attrL; simp only [hw.out, hv]; rw [if_pos trivial]
    go_enter Try.func73, Try.ntmps73
    go_wp2_with fail
    refine (word_any b r w h hp hs n hw false hv _ rfl [] rfl).mono ?_
    rintro e W1 ⟨rfl, hW1, hg1⟩
    go_wp2_with fail
    go_ret
    rw [HV.out]
    exact ⟨below_of_grown hg1 hB hBw, rfl, _, hW1, rfl, rfl⟩
  | true =>
    have HB := Lib.hid hb
    have hvv : Hid (nameL n = true) := hv
    have hn1 : r.pos + n.length ≤ r.s.size := by
      have := wordL_len (r.s.data.toList.drop r.pos)
      rw [hw.out, List.length_drop, size_toList] at this; omega
    clear hb hv
    by_cases h20 : 20 ≤ l.length
    · have HV : Hid (V = .bad 0 33) := by
        show _ = _
        rw [← hV.out]; unfold attrL; simp only [hw.out, hvv.out]; rw [if_neg (by decide), if_pos h20]
      have h20' : (20 : Int) ≤ l.length := by omega
      clear h20
      go_enter Try.func73, Try.ntmps73
      go_wp2_with fail
      refine (word_any b r w h hp hs n hw true hvv _ rfl n rfl).mono ?_
      rintro e W1 ⟨rfl, hW1, hg1⟩
      have hW1' : RdAt W1 b { r with pos := r.pos + n.length } := hW1
      have z6 : W1.cell? ⟨b, 6, none⟩ = some (.slice r.A l.length r.c) := by rw [← hn]; exact hW1'.all.2.2.2.2.2.2.1
      go_wp2_with fail
      refine (fail_any b _ W1 hW1' r.pos 33).mono ?_
      rintro e W2 ⟨rfl, hW2, hg2⟩
      go_wp2_with fail
      go_ret
      rw [HV.out]
      exact ⟨below_of_grown (grown_twice hg1 hg2) hB hBw, rfl, _, hW2, rfl, rfl⟩
    · have hany : Hid (l.any (fun a => decide (a.name = n)) = true) := by
        rcases HB.out with h | h | h
        · rw [hvv.out] at h; cases h
        · exact absurd h h20
        · exact h
      have HV : Hid (V = .bad 0 32) := by
        show _ = _
        rw [← hV.out]; unfold attrL; simp only [hw.out, hvv.out]; rw [if_neg (by decide), if_neg h20, if_pos hany.out]
      have h20' : (l.length : Int) < 20 := by omega
      clear h20
      go_enter Try.func73, Try.ntmps73
      go_wp2_with fail
      refine (word_any b r w h hp hs n hw true hvv _ rfl n rfl).mono ?_
      rintro e W1 ⟨rfl, hW1, hg1⟩
      have hW1' : RdAt W1 b { r with pos := r.pos + n.length } := hW1
      have z6 : W1.cell? ⟨b, 6, none⟩ = some (.slice r.A l.length r.c) := by rw [← hn]; exact hW1'.all.2.2.2.2.2.2.1
      have hA1 := Lib.hid (attrs_kept h hA hg1)
      go_wp2_with fail
      refine (hasA_any b B _ W1 hW1' l hn hA1.out hl n true hany).mono ?_
      rintro e W2 ⟨rfl, hb2⟩
      go_wp2_with fail
      refine (fail_any b _ W2 (hW1'.below hb2) r.pos 32).mono ?_
      rintro e W3 ⟨rfl, hW3, hg3⟩
      go_wp2_with fail
      go_ret
      rw [HV.out]
      exact ⟨below_of_grown (grown_twice (Lib.grownBy_below hg1 hb2) hg3) hB hBw, rfl, _, hW3, rfl, rfl⟩


set_option maxRecDepth 100000 in
set_option maxHeartbeats 1000000 in
theorem attr_form (b B : Nat) (r : Rdr) (w : World) (h : RdAt w b r) (hB : B ≤ b) (hBw : B ≤ w.heap.size) (hp : r.pos ≤ r.s.size) (hs : r.s.size ≤ 1000000000) (l : List AttrD) (hn : r.n = l.length) (hA : AttrsOwn w B r.A r.c l) (hl : l.length ≤ 1000)
    (n : List UInt8) (hw : Hid (wordL (r.s.data.toList.drop r.pos) = n)) (hvv : Hid (nameL n = true)) (h20 : l.length < 20) (hany : Hid (l.any (fun a => decide (a.name = n)) = false)) (m1 m2 : Bool) (hm1 : Hid (pre [61] (r.s.data.toList.drop (r.pos + n.length)) = m1)) (hm2 : Hid (pre [34] (r.s.data.toList.drop (r.pos + n.length + 1)) = m2)) (hb : (m1 && m2) = false) (V : Told AttrD) (hV : Hid (attrL (r.s.data.toList.drop r.pos) l = V)) :
    Calls Try.prog 73 #[.pointer (some ⟨b, 0, none⟩)] w (AttrPost w B b r l V) := by
  have hn1 : r.pos + n.length ≤ r.s.size := by
    have := wordL_len (r.s.data.toList.drop r.pos)
    rw [hw.out, List.length_drop, size_toList] at this; omega
  have hVE : Hid (V = if m1 = false then .bad n.length 30 else if m2 = false then .bad (n.length + 1) 30 else valueT n (r.s.data.toList.drop (r.pos + (n.length + 2)))) := by
    show _ = _
    rw [← hV.out]; unfold attrL; simp only [hw.out, hvv.out, hany.out, List.drop_drop]
    rw [if_neg (by decide), if_neg (by omega), if_neg (by decide), hm1.out, show r.pos + (n.length + 1) = r.pos + n.length + 1 by omega, hm2.out]
  cases m1 with
  | false =>
    have HV : Hid (V = .bad n.length 30) := by show _ = _; rw [hVE.out, if_pos rfl]
    clear hb hVE
    obtain ⟨_, h1, _⟩ := h.all
    have h20' : (l.length : Int) < 20 := by omega
    go_enter Try.func73, Try.ntmps73
    go_wp2_with fail
    refine (word_any b r w h hp hs n hw true hvv _ rfl n rfl).mono ?_
    rintro e W1 ⟨rfl, hW1, hg1⟩
    have hW1' : RdAt W1 b { r with pos := r.pos + n.length } := hW1
    have z6 : W1.cell? ⟨b, 6, none⟩ = some (.slice r.A l.length r.c) := by rw [← hn]; exact hW1'.all.2.2.2.2.2.2.1
    have hA1 := Lib.hid (attrs_kept h hA hg1)
    go_wp2_with fail
    refine (hasA_any b B _ W1 hW1' l hn hA1.out hl n false hany).mono ?_
    rintro e W2 ⟨rfl, hb2⟩
    have hW2 := hW1'.below hb2
    have hg2 : w.grownBy W2 (some b) := Lib.grownBy_below hg1 hb2
    clear z6 h1 hW1 hW1'
    go_wp2_with fail
    refine (must_any b _ W2 hW2 [61] hn1 hs false hm1 (by decide)).mono ?_
    rintro e W3 ⟨rfl, hW3, hg3⟩
    go_wp2_with fail
    go_ret
    rw [HV.out]
    exact ⟨below_of_grown (grown_twice hg2 hg3) hB hBw, rfl, _, hW3, rfl, rfl⟩
  | true =>
    have hm2' : m2 = false := by simpa using hb
    subst hm2'
    have HV : Hid (V = .bad (n.length + 1) 30) := by show _ = _; rw [hVE.out, if_neg (by decide), if_pos rfl]
    have hn2 := pre1_len hm1.out
    rw [size_toList] at hn2
    clear hb hVE
    obtain ⟨_, h1, _⟩ := h.all
    have h20' : (l.length : Int) < 20 := by omega
    go_enter Try.func73, Try.ntmps73
    go_wp2_with fail
    refine (word_any b r w h hp hs n hw true hvv _ rfl n rfl).mono ?_
    rintro e W1 ⟨rfl, hW1, hg1⟩
    have hW1' : RdAt W1 b { r with pos := r.pos + n.length } := hW1
    have z6 : W1.cell? ⟨b, 6, none⟩ = some (.slice r.A l.length r.c) := by rw [← hn]; exact hW1'.all.2.2.2.2.2.2.1
    have hA1 := Lib.hid (attrs_kept h hA hg1)
    go_wp2_with fail
    refine (hasA_any b B _ W1 hW1' l hn hA1.out hl n false hany).mono ?_
    rintro e W2 ⟨rfl, hb2⟩
    have hW2 := hW1'.below hb2
    have hg2 : w.grownBy W2 (some b) := Lib.grownBy_below hg1 hb2
    clear z6 h1 hW1 hW1'
    go_wp2_with fail
    refine (must_any b _ W2 hW2 [61] hn1 hs true hm1 (by decide)).mono ?_
    rintro e W3 ⟨rfl, hW3, hg3⟩
    have hW3' : RdAt W3 b { r with pos := r.pos + n.length + 1 } := hW3
    obtain ⟨_, y1, _⟩ := hW3'.all
    clear hW3
    go_wp2_with fail
    refine (must_any b _ W3 hW3' [34] hn2 hs false hm2 (by decide)).mono ?_
    rintro e W4 ⟨rfl, hW4, hg4⟩
    go_wp2_with fail
    go_ret
    rw [HV.out]
    exact ⟨below_of_grown (grown_twice (grown_twice hg2 hg3) hg4) hB hBw, rfl, _, hW4, rfl, rfl⟩
end Go.Proofs.Ythifddkmbjnncaa
