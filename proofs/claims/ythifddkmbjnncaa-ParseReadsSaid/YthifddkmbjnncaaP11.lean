/-
  Texts of this claim, joined (by a program of the claim's author): RL1, RefPlain, RNum, RRefer, RUndo, RL2, RWith.
-/
import Derived.Test.YthifddkmbjnncaaP6
import Derived.Test.YthifddkmbjnncaaP3
import Derived.Test.YthifddkmbjnncaaP4
import Derived.Test.YthifddkmbjnncaaP1
import Derived.Deep.QuietTactic
import Derived.BigQuiet
import Derived.RegionTactic
import Derived.ChangeAlike
import Derived.Test.YthifddkmbjnncaaP2
import Derived.Test.YthifddkmbjnncaaP9
import Derived.Test.YthifddkmbjnncaaP5
/-
  The document's reader of tokens: the walks of there, blank, skip, wordEnd, find, fails (gen_rl1.py).
-/
namespace Go.Proofs.Ythifddkmbjnncaa
open Go.RowKit

set_option maxRecDepth 100000 in
set_option maxHeartbeats 1000000 in
theorem there_any (s : ByteArray) (p : Nat) (t : List UInt8) (w : World) (hp : p ≤ s.size) (hs : s.size ≤ 1000000000) (ht : t.length ≤ 1000) (v : Bool) (hv : Hid (pre t (s.data.toList.drop p) = v)) :
    Calls Try.prog 62 #[.string s, .int .i64 p, .string ⟨t.toArray⟩] w (Ret w (.bool v)) := by
  have hsz : (⟨t.toArray⟩ : ByteArray).size = t.length := by show t.toArray.size = _; simp
  by_cases hl : t.length ≤ s.size - p
  · have hx : (s.extract p (p + t.length)).data.toList = (s.data.toList.drop p).take t.length := by
      rw [Lib.extract_data]; congr 1; omega
    have hq : Hid (((s.extract p (p + t.length)).toList == t) = v) := by
      show _ = _
      rw [ByteArray.toList_eq, hx, ← hv.out]; rfl
    have i0 : (0 : Int) ≤ (p : Int) := by omega
    have i1 : (t.length : Int) ≤ (s.size : Int) - p := by omega
    have i2 : (p : Int) + t.length ≤ s.size := by omega
    have i3 : (p : Int) ≤ (p : Int) + t.length := by omega
    have i4 : (p : Int) ≤ s.size := by omega
    clear hx hl
    go_enter Try.func62, Try.ntmps62
    go_wp2_with fail
    go_ret
    exact ⟨ret_bool hq.out, Below.refl _ _⟩
  · have hv' : v = false := by
      rw [← hv.out]
      cases h : pre t (s.data.toList.drop p) with
      | false => rfl
      | true => have := pre_len h; rw [List.length_drop, size_toList] at this; omega
    subst hv'
    have i1 : (s.size : Int) - p < t.length := by omega
    go_enter Try.func62, Try.ntmps62
    go_wp2_with fail
    go_ret
    exact ⟨rfl, Below.refl _ _⟩

set_option maxHeartbeats 1000000 in
theorem rblank_any (x : UInt8) (w : World) : Calls Try.prog 107 #[.int .u8 x.toNat] w (Ret w (.bool (blankB x))) := by
  by_cases h32 : x = 32
  · subst h32
    go_enter Try.func107, Try.ntmps107
    go_wp2_with fail
    go_ret
    exact ⟨rfl, Below.refl _ _⟩
  by_cases h9 : x = 9
  · subst h9
    go_enter Try.func107, Try.ntmps107
    go_wp2_with fail
    go_ret
    exact ⟨rfl, Below.refl _ _⟩
  by_cases h10 : x = 10
  · subst h10
    go_enter Try.func107, Try.ntmps107
    go_wp2_with fail
    go_ret
    exact ⟨rfl, Below.refl _ _⟩
  have hb : blankB x = false := by simp [blankB, h32, h9, h10]
  rw [hb]
  have e32 : ((x.toNat : Int) == 32) = false := u8_ne h32
  have e9 : ((x.toNat : Int) == 9) = false := u8_ne h9
  have e10 : ((x.toNat : Int) == 10) = false := u8_ne h10
  clear h32 h9 h10 hb
  go_enter Try.func107, Try.ntmps107
  go_wp2_with fail
  go_ret
  exact ⟨rfl, Below.refl _ _⟩

set_option maxRecDepth 100000 in
set_option maxHeartbeats 1000000 in
theorem rfails_any (p e : Int) (w : World) :
    Calls Try.prog 90 #[.int .i64 p, .int .i64 e] w (Ret w (.agg #[.int .i64 0, .int .i64 0, .int .i64 0, .string ⟨#[]⟩, .string ⟨#[]⟩, .slice none 0 0, .int .i64 p, .int .i64 e])) := by
  go_enter Try.func90, Try.ntmps90
  go_wp2_with fail
  try simp only [Exit.inBlock, Exit.then]
  refine bodyPost_ret (results_cell_row Try.results90 _ _ w.heap.size 94 #[.int .i64 0, .int .i64 0, .int .i64 0, .string ⟨#[]⟩, .string ⟨#[]⟩, .slice none 0 0, .int .i64 p, .int .i64 e] (0, 0) _ rfl (heap_alloc_new w _) Try.underlying94 rfl (by kernel_rfl)) rfl ?_
  exact ⟨rfl, (Below.refl _ w).alloc (Nat.le_refl _) _⟩

set_option maxRecDepth 100000 in
set_option maxHeartbeats 2000000 in
theorem rskip_any (s : ByteArray) (p0 : Nat) (w : World) (hp : p0 ≤ s.size) (hs : s.size ≤ 1000000000) (n : Nat) (hn : Hid (p0 + skipL (s.data.toList.drop p0) = n)) :
    Calls Try.prog 91 #[.string s, .int .i64 p0] w (Ret w (.int .i64 n)) := by
  have HL := Lib.hid (size_toList s)
  go_enter Try.func91, Try.ntmps91
  go_wp2_with fail
  go_loopw [1] (fun i wr => ∃ (p : Nat), p ≤ s.size ∧ i = .int .i64 (p : Int) ∧ Hid (p + skipL (s.data.toList.drop p) = n) ∧ Hid (Below w.heap.size w wr)) (fun i _ => s.size - (intOf i).toNat)
  case atStart => exact ⟨p0, hp, rfl, hn.out, Below.refl _ _⟩
  case round =>
    obtain ⟨p, hps, rfl, hin, hbel⟩ := hrel
    by_cases hlt : p < s.size
    · obtain ⟨x, HX⟩ : ∃ x, Hid (s.data.toList[p]? = some x) := ⟨s.data.toList[p]'(by have := HL.out; omega), List.getElem?_eq_getElem _⟩
      have hsx : s[p] = x := getk_of s p x HX.out hlt
      have hin' := hin.out
      rw [drop_cons HX.out, skipL_cons] at hin'
      have j0 : (0 : Int) ≤ (p : Int) := by omega
      have j1 : (p : Int) < s.size := by omega
      obtain ⟨bv, hbv⟩ : ∃ bv, Hid (blankB x = bv) := ⟨_, rfl⟩
      rw [hbv.out] at hin'
      cases bv with
      | true =>
        have HIN : Hid (p + 1 + skipL (s.data.toList.drop (p + 1)) = n) := by show _ = _; rw [← hin', if_pos rfl]; omega
        clear hin hin'
        go_wp2_with fail
        refine (rblank_any x wr).mono ?_
        rintro e w2 ⟨he, hb2⟩
        rw [hbv.out] at he
        subst he
        go_wp2_with fail
        go_roundw
        case rel => exact ⟨p + 1, by omega, by go_num, HIN.out, hbel.out.trans (hb2.mono hbel.out.size)⟩
        case measure => simp [intOf]; omega
      | false =>
        have HIN : Hid (p = n) := by show _ = _; rw [← hin', if_neg (by decide)]; rfl
        clear hin hin'
        go_wp2_with fail
        refine (rblank_any x wr).mono ?_
        rintro e w2 ⟨he, hb2⟩
        rw [hbv.out] at he
        subst he
        go_wp2_with fail
        go_ret
        exact ⟨by rw [← HIN.out]; rfl, hbel.out.trans (hb2.mono hbel.out.size)⟩
    · have HIN : Hid (p = n) := by
        show _ = _
        rw [← hin.out, List.drop_eq_nil_of_le (by rw [HL.out]; omega)]; rfl
      have j1 : (s.size : Int) ≤ (p : Int) := by omega
      clear hin
      go_wp2_with fail
      go_ret
      exact ⟨by rw [← HIN.out]; rfl, hbel.out⟩

set_option maxRecDepth 100000 in
set_option maxHeartbeats 2000000 in
theorem rfind_any (s : ByteArray) (p0 : Nat) (c : UInt8) (w : World) (hp : p0 ≤ s.size) (hs : s.size ≤ 1000000000) (n : Nat) (hn : Hid (p0 + ((s.data.toList.drop p0).takeWhile (· != c)).length = n)) :
    Calls Try.prog 93 #[.string s, .int .i64 p0, .int .u8 c.toNat] w (Ret w (.int .i64 n)) := by
  have HL := Lib.hid (size_toList s)
  go_enter Try.func93, Try.ntmps93
  go_wp2_with fail
  go_loopw [1] (fun i wr => ∃ (p : Nat), p ≤ s.size ∧ i = .int .i64 (p : Int) ∧ Hid (p + ((s.data.toList.drop p).takeWhile (· != c)).length = n) ∧ Hid (Below w.heap.size w wr)) (fun i _ => s.size - (intOf i).toNat)
  case atStart => exact ⟨p0, hp, rfl, hn.out, Below.refl _ _⟩
  case round =>
    obtain ⟨p, hps, rfl, hin, hbel⟩ := hrel
    by_cases hlt : p < s.size
    · obtain ⟨x, HX⟩ : ∃ x, Hid (s.data.toList[p]? = some x) := ⟨s.data.toList[p]'(by have := HL.out; omega), List.getElem?_eq_getElem _⟩
      have hsx : s[p] = x := getk_of s p x HX.out hlt
      have hin' := hin.out
      rw [drop_cons HX.out, List.takeWhile_cons] at hin'
      have j0 : (0 : Int) ≤ (p : Int) := by omega
      have j1 : (p : Int) < s.size := by omega
      by_cases hc : x = c
      · subst hc
        have HIN : Hid (p = n) := by show _ = _; rw [← hin']; simp
        clear hin hin'
        go_wp2_with fail
        go_ret
        exact ⟨by rw [← HIN.out]; rfl, hbel.out⟩
      · have hne : (x != c) = true := by simpa using hc
        have hne2 : ((x.toNat : Int) != (c.toNat : Int)) = true := by have := u8_ne hc; simp [bne, this]
        have HIN : Hid (p + 1 + ((s.data.toList.drop (p + 1)).takeWhile (· != c)).length = n) := by
          show _ = _; rw [← hin', if_pos hne, List.length_cons]; omega
        clear hin hin' hc hne
        go_wp2_with fail
        go_roundw
        case rel => exact ⟨p + 1, by omega, by go_num, HIN.out, hbel.out⟩
        case measure => simp [intOf]; omega
    · have HIN : Hid (p = n) := by
        show _ = _
        rw [← hin.out, List.drop_eq_nil_of_le (by rw [HL.out]; omega)]; rfl
      have j1 : (s.size : Int) ≤ (p : Int) := by omega
      clear hin
      go_wp2_with fail
      go_ret
      exact ⟨by rw [← HIN.out]; rfl, hbel.out⟩


set_option maxRecDepth 100000 in
set_option maxHeartbeats 4000000 in
theorem rword_any (s : ByteArray) (p0 : Nat) (w : World) (hp : p0 ≤ s.size) (hs : s.size ≤ 1000000000) (n : Nat) (hn : Hid (p0 + (wordL (s.data.toList.drop p0)).length = n)) :
    Calls Try.prog 88 #[.string s, .int .i64 p0] w (Ret w (.int .i64 n)) := by
  have HL := Lib.hid (size_toList s)
  go_enter Try.func88, Try.ntmps88
  go_wp2_with fail
  go_loopw [1] (fun i wr => ∃ (p : Nat), p ≤ s.size ∧ i = .int .i64 (p : Int) ∧ Hid (p + (wordL (s.data.toList.drop p)).length = n) ∧ Hid (Below w.heap.size w wr)) (fun i _ => s.size - (intOf i).toNat)
  case atStart => exact ⟨p0, hp, rfl, hn.out, Below.refl _ _⟩
  case round =>
    obtain ⟨p, hps, rfl, hin, hbel⟩ := hrel
    by_cases hlt : p < s.size
    · obtain ⟨x, HX⟩ : ∃ x, Hid (s.data.toList[p]? = some x) := ⟨s.data.toList[p]'(by have := HL.out; omega), List.getElem?_eq_getElem _⟩
      have hsx : s[p] = x := getk_of s p x HX.out hlt
      have hin' := hin.out
      rw [drop_cons HX.out, wordL_cons] at hin'
      have j0 : (0 : Int) ≤ (p : Int) := by omega
      have j1 : (p : Int) < s.size := by omega
      obtain ⟨bv, hbv⟩ : ∃ bv, Hid (blankB x = bv) := ⟨_, rfl⟩
      cases bv with
      | true =>
        have hnb : nb x = false := by
          have h := hbv.out
          unfold blankB at h
          simp only [Bool.or_eq_true, beq_iff_eq] at h
          rcases h with (rfl | rfl) | rfl <;> decide
        have HIN : Hid (p = n) := by show _ = _; rw [← hin', hnb]; simp
        clear hin hin'
        go_wp2_with fail
        refine (rblank_any x wr).mono ?_
        rintro e w2 ⟨he, hb2⟩
        rw [hbv.out] at he
        subst he
        go_wp2_with fail
        go_ret
        exact ⟨by rw [← HIN.out]; rfl, hbel.out.trans (hb2.mono hbel.out.size)⟩
      | false =>
        by_cases h61 : x = 61
        · subst h61
          have HIN : Hid (p = n) := by show _ = _; rw [← hin', show nb 61 = false from by decide]; simp
          clear hin hin'
          go_wp2_with fail
          refine (rblank_any 61 wr).mono ?_
          rintro e w2 ⟨he, hb2⟩
          rw [show blankB 61 = false from by decide] at he
          subst he
          go_wp2_with fail
          go_ret
          exact ⟨by rw [← HIN.out]; rfl, hbel.out.trans (hb2.mono hbel.out.size)⟩
        by_cases h62 : x = 62
        · subst h62
          have HIN : Hid (p = n) := by show _ = _; rw [← hin', show nb 62 = false from by decide]; simp
          clear hin hin' h61
          go_wp2_with fail
          refine (rblank_any 62 wr).mono ?_
          rintro e w2 ⟨he, hb2⟩
          rw [show blankB 62 = false from by decide] at he
          subst he
          go_wp2_with fail
          go_ret
          exact ⟨by rw [← HIN.out]; rfl, hbel.out.trans (hb2.mono hbel.out.size)⟩
        by_cases h60 : x = 60
        · subst h60
          have HIN : Hid (p = n) := by show _ = _; rw [← hin', show nb 60 = false from by decide]; simp
          clear hin hin' h61 h62
          go_wp2_with fail
          refine (rblank_any 60 wr).mono ?_
          rintro e w2 ⟨he, hb2⟩
          rw [show blankB 60 = false from by decide] at he
          subst he
          go_wp2_with fail
          go_ret
          exact ⟨by rw [← HIN.out]; rfl, hbel.out.trans (hb2.mono hbel.out.size)⟩
        by_cases h47 : x = 47
        · subst h47
          have HIN : Hid (p = n) := by show _ = _; rw [← hin', show nb 47 = false from by decide]; simp
          clear hin hin' h61 h62 h60
          go_wp2_with fail
          refine (rblank_any 47 wr).mono ?_
          rintro e w2 ⟨he, hb2⟩
          rw [show blankB 47 = false from by decide] at he
          subst he
          go_wp2_with fail
          go_ret
          exact ⟨by rw [← HIN.out]; rfl, hbel.out.trans (hb2.mono hbel.out.size)⟩
        by_cases h34 : x = 34
        · subst h34
          have HIN : Hid (p = n) := by show _ = _; rw [← hin', show nb 34 = false from by decide]; simp
          clear hin hin' h61 h62 h60 h47
          go_wp2_with fail
          refine (rblank_any 34 wr).mono ?_
          rintro e w2 ⟨he, hb2⟩
          rw [show blankB 34 = false from by decide] at he
          subst he
          go_wp2_with fail
          go_ret
          exact ⟨by rw [← HIN.out]; rfl, hbel.out.trans (hb2.mono hbel.out.size)⟩
        have hnb : nb x = true := by
          have h := hbv.out
          unfold blankB at h
          simp only [Bool.or_eq_false_iff, beq_eq_false_iff_ne] at h
          unfold nb
          simp [h.1.1, h.1.2, h.2, h61, h62, h60, h47, h34]
        have HIN : Hid (p + 1 + (wordL (s.data.toList.drop (p + 1))).length = n) := by show _ = _; rw [← hin', hnb, if_pos rfl, List.length_cons]; omega
        have e61 : ((x.toNat : Int) != 61) = true := by have : ((x.toNat : Int) == 61) = false := u8_ne h61; simp [bne, this]
        have e62 : ((x.toNat : Int) != 62) = true := by have : ((x.toNat : Int) == 62) = false := u8_ne h62; simp [bne, this]
        have e60 : ((x.toNat : Int) != 60) = true := by have : ((x.toNat : Int) == 60) = false := u8_ne h60; simp [bne, this]
        have e47 : ((x.toNat : Int) != 47) = true := by have : ((x.toNat : Int) == 47) = false := u8_ne h47; simp [bne, this]
        have e34 : ((x.toNat : Int) != 34) = true := by have : ((x.toNat : Int) == 34) = false := u8_ne h34; simp [bne, this]
        clear hin hin' hnb h61 h62 h60 h47 h34
        go_wp2_with fail
        refine (rblank_any x wr).mono ?_
        rintro e w2 ⟨he, hb2⟩
        rw [hbv.out] at he
        subst he
        go_wp2_with fail
        go_roundw
        case rel => exact ⟨p + 1, by omega, by go_num, HIN.out, hbel.out.trans (hb2.mono hbel.out.size)⟩
        case measure => simp [intOf]; omega
    · have HIN : Hid (p = n) := by
        show _ = _
        rw [← hin.out, List.drop_eq_nil_of_le (by rw [HL.out]; omega)]; rfl
      have j1 : (s.size : Int) ≤ (p : Int) := by omega
      clear hin
      go_wp2_with fail
      go_ret
      exact ⟨by rw [← HIN.out]; rfl, hbel.out⟩
end Go.Proofs.Ythifddkmbjnncaa

/-
  The document's way to read a reference comes to the same: no program in sight.
-/
namespace Go.Proofs.Ythifddkmbjnncaa

def numF (base : Int) (c : Int) (ds : List UInt8) : Int := ds.foldl (fun c x => c * base + digitV base x.toNat) c
def digs (base : Int) (ds : List UInt8) : Bool := ds.all (fun x => decide (0 ≤ digitV base x.toNat))
/-- the number of digits; below 0: they are none -/
def numR (base : Int) (ds : List UInt8) : Int := if digs base ds = true ∧ 1 ≤ ds.length ∧ ds.length ≤ 7 then numF base 0 ds else -1

def no59 (x : UInt8) : Bool := x != 59
/-- the place of the first semicolon, in the first 12 bytes -/
def endRf (l : List UInt8) : Nat := ((l.take 12).takeWhile no59).length

def refR (l : List UInt8) : Int × Nat :=
  if pre [38, 97, 109, 112, 59] l then (38, 5)
  else if pre [38, 108, 116, 59] l then (60, 4)
  else if pre [38, 103, 116, 59] l then (62, 4)
  else if pre [38, 113, 117, 111, 116, 59] l then (34, 6)
  else if pre [38, 97, 112, 111, 115, 59] l then (39, 6)
  else
    let e := endRf l
    if e = l.length ∨ e = 12 ∨ pre [38, 35] l = false then (0, 0)
    else
      let n := if pre [38, 35, 120] l then numR 16 ((l.take e).drop 3) else numR 10 ((l.take e).drop 2)
      if n < 0 then (0, 0) else (n, e + 1)

theorem scan_spec (base : Int) : ∀ (r : List UInt8) (k : Nat) (c : Int), k ≤ 7 →
    scanL base k c r = if (r.takeWhile no59).length < r.length ∧ digs base (r.takeWhile no59) = true ∧ 1 ≤ k + (r.takeWhile no59).length ∧ k + (r.takeWhile no59).length ≤ 7 then some (numF base c (r.takeWhile no59), k + (r.takeWhile no59).length) else none := by
  have d59 : digitV base ((59 : UInt8).toNat) = -1 := by
    show digitV base 59 = -1
    unfold digitV
    repeat (first | split | omega)
  intro r
  induction r with
  | nil => intro k c hk; simp [scanL]
  | cons x r ih =>
    intro k c hk
    by_cases hx : x = 59
    · subst hx
      have ht : ((59 : UInt8) :: r).takeWhile no59 = [] := by simp [List.takeWhile, no59]
      rw [ht]
      simp only [scanL, d59]
      by_cases h0 : 0 < k
      · rw [if_pos ⟨trivial, h0⟩, if_pos ⟨by simp, rfl, by simp; omega, by simpa using hk⟩]; rfl
      · rw [if_neg (fun h => h0 h.2), if_pos (.inl (by decide)), if_neg (fun h => h0 (by have := h.2.2.1; simp at this; omega))]
    · have hn : no59 x = true := by unfold no59; simpa using hx
      have ht : (x :: r).takeWhile no59 = x :: r.takeWhile no59 := by rw [List.takeWhile_cons, if_pos hn]
      rw [ht]
      simp only [scanL]
      rw [if_neg (fun h => hx h.1)]
      have hd : digs base (x :: r.takeWhile no59) = (decide (0 ≤ digitV base x.toNat) && digs base (r.takeWhile no59)) := rfl
      by_cases hdk : digitV base x.toNat < 0 ∨ 7 ≤ k
      · rw [if_pos hdk, if_neg]
        rintro ⟨_, h2, _, h4⟩
        rw [hd, Bool.and_eq_true] at h2
        have := of_decide_eq_true h2.1
        simp only [List.length_cons] at h4
        omega
      · rw [if_neg hdk, ih (k + 1) _ (by omega)]
        have e1 : k + 1 + (r.takeWhile no59).length = k + (x :: r.takeWhile no59).length := by simp; omega
        have hdx : decide (0 ≤ digitV base x.toNat) = true := decide_eq_true (by omega)
        have hf : numF base (c * base + digitV base x.toNat) (r.takeWhile no59) = numF base c (x :: r.takeWhile no59) := rfl
        rw [e1, hf, hd, hdx, Bool.true_and]
        congr 1
        simp only [List.length_cons, Nat.add_lt_add_iff_right]

theorem numF_nonneg (base : Int) (hb : 0 ≤ base) : ∀ (ds : List UInt8) (c : Int), 0 ≤ c → digs base ds = true → 0 ≤ numF base c ds := by
  intro ds
  induction ds with
  | nil => intro c hc _; exact hc
  | cons x ds ih =>
    intro c hc h
    have hd : digs base (x :: ds) = (decide (0 ≤ digitV base x.toNat) && digs base ds) := rfl
    rw [hd, Bool.and_eq_true] at h
    have := of_decide_eq_true h.1
    have hm := Int.mul_nonneg hc hb
    exact ih (c * base + digitV base x.toNat) (by omega) h.2

theorem takeWhile_take (p : UInt8 → Bool) : ∀ (l : List UInt8) (n : Nat), ((l.take n).takeWhile p).length = min n (l.takeWhile p).length := by
  intro l
  induction l with
  | nil => intro n; simp
  | cons x l ih =>
    intro n
    cases n with
    | zero => simp
    | succ n =>
      rw [List.take_succ_cons]
      simp only [List.takeWhile]
      cases p x with
      | true => simp only [List.length_cons, ih]; omega
      | false => simp

/-- the number's part, from one place on -/
theorem ref_num (base : Int) (hb : 0 ≤ base) (hd l : List UInt8) (r : List UInt8) (hl : l = hd ++ r) (h59 : hd.takeWhile no59 = hd) (hle : hd.length ≤ 3) (b0 : Bool) (hb0 : b0 = true) :
    pick hd.length (scanL base 0 0 r) = if endRf l = l.length ∨ endRf l = 12 ∨ b0 = false then (0, 0) else if numR base ((l.take (endRf l)).drop hd.length) < 0 then (0, 0) else (numR base ((l.take (endRf l)).drop hd.length), endRf l + 1) := by
  subst hb0
  have htw : l.takeWhile no59 = hd ++ r.takeWhile no59 := by
    rw [hl]
    rw [List.takeWhile_append, if_pos (by rw [h59])]
  have he : endRf l = min 12 (hd.length + (r.takeWhile no59).length) := by
    unfold endRf; rw [takeWhile_take, htw, List.length_append]
  have hll : l.length = hd.length + r.length := by rw [hl, List.length_append]
  have hdr : (r.takeWhile no59).length ≤ r.length := (List.takeWhile_sublist _).length_le
  rw [scan_spec base r 0 0 (by omega)]
  generalize hds : r.takeWhile no59 = ds at *
  by_cases h12 : 12 ≤ hd.length + ds.length
  · rw [if_neg (by omega), if_pos (.inr (.inl (by omega)))]; rfl
  · have he' : endRf l = hd.length + ds.length := by omega
    rw [he']
    by_cases hend : ds.length = r.length
    · rw [if_neg (by omega), if_pos (.inl (by omega))]; rfl
    · have hxs : (l.take (hd.length + ds.length)).drop hd.length = ds := by
        rw [hl, List.take_append, List.drop_append]
        have e1 : (hd.take (hd.length + ds.length)).drop hd.length = [] := by
          rw [List.take_of_length_le (by omega)]; exact List.drop_length
        rw [e1, List.take_of_length_le (l := hd) (by omega), Nat.sub_self, List.drop_zero, Nat.add_sub_cancel_left, List.nil_append, ← hds]
        exact (List.prefix_iff_eq_take.1 (List.takeWhile_prefix _)).symm
      rw [if_neg (c := hd.length + ds.length = l.length ∨ _) (by simp; omega), hxs]
      unfold numR
      by_cases hg : digs base ds = true ∧ 1 ≤ ds.length ∧ ds.length ≤ 7
      · rw [if_pos ⟨by omega, hg.1, by omega, by omega⟩, if_pos hg]
        have := numF_nonneg base hb ds 0 (Int.le_refl _) hg.1
        rw [if_neg (by omega)]
        simp [pick]
      · rw [if_neg (fun h => hg ⟨h.2.1, by omega, by omega⟩), if_neg hg]; rfl

theorem refR_eq (l : List UInt8) : refR l = refL l := by
  unfold refR refL
  split
  · rfl
  split
  · rfl
  split
  · rfl
  split
  · rfl
  split
  · rfl
  by_cases h5 : pre [38, 35] l = true
  · rw [if_pos h5]
    have hsplit : ∀ p, pre p l = true → l = p ++ l.drop p.length := fun p hp => by
      have := eq_of_beq hp
      conv => lhs; rw [← List.take_append_drop p.length l, this]
    by_cases h6 : pre [38, 35, 120] l = true
    · simp only [if_pos h6]
      exact (ref_num 16 (by decide) [38, 35, 120] l _ (hsplit _ h6) (by decide) (by decide) _ h5).symm
    · simp only [if_neg h6]
      exact (ref_num 10 (by decide) [38, 35] l _ (hsplit _ h5) (by decide) (by decide) _ h5).symm
  · have h5' : pre [38, 35] l = false := by simpa using h5
    rw [if_neg h5]
    simp only [h5', or_true, if_true]

theorem numF_lt (base : Int) (hb0 : 0 ≤ base) (hb : base ≤ 16) : ∀ (ds : List UInt8) (c : Int) (k : Nat), 0 ≤ c → c < 16 ^ k → digs base ds = true → numF base c ds < 16 ^ (k + ds.length) := by
  intro ds
  induction ds with
  | nil => intro c k _ h _; exact h
  | cons x ds ih =>
    intro c k hc h hd
    have hd' : digs base (x :: ds) = (decide (0 ≤ digitV base x.toNat) && digs base ds) := rfl
    rw [hd', Bool.and_eq_true] at hd
    have h0 := of_decide_eq_true hd.1
    have h16 := (digitV_bd base x.toNat).2
    have hm := Int.mul_nonneg hc hb0
    have hm2 : c * base ≤ c * 16 := Int.mul_le_mul_of_nonneg_left hb hc
    have := ih (c * base + digitV base x.toNat) (k + 1) (by omega) (by rw [Int.pow_succ]; omega) hd.2
    have e : k + 1 + ds.length = k + (x :: ds).length := by simp; omega
    rw [e] at this
    exact this

theorem refL_bd (l : List UInt8) : 0 ≤ (refL l).1 ∧ (refL l).1 < 2147483648 := by
  have key : ∀ n base r, 0 ≤ base → base ≤ 16 → 0 ≤ (pick n (scanL base 0 0 r)).1 ∧ (pick n (scanL base 0 0 r)).1 < 2147483648 := by
    intro n base r h0 h1
    rw [scan_spec base r 0 0 (by omega)]
    split
    · rename_i h
      obtain ⟨_, hd, _, h7⟩ := h
      have h2 := numF_nonneg base h0 _ 0 (Int.le_refl _) hd
      have h3 := numF_lt base h0 h1 _ 0 0 (Int.le_refl _) (by decide) hd
      have h4 : (16 : Int) ^ (0 + (r.takeWhile no59).length) ≤ 268435456 := by
        generalize (r.takeWhile no59).length = m at *
        rcases (by omega : m = 0 ∨ m = 1 ∨ m = 2 ∨ m = 3 ∨ m = 4 ∨ m = 5 ∨ m = 6 ∨ m = 7) with rfl | rfl | rfl | rfl | rfl | rfl | rfl | rfl <;> decide
      simp only [pick]
      omega
    · simp [pick]
  unfold refL
  split
  · simp
  split
  · simp
  split
  · simp
  split
  · simp
  split
  · simp
  split
  · split
    · exact key 3 16 _ (by decide) (by decide)
    · exact key 2 10 _ (by decide) (by decide)
  · simp
end Go.Proofs.Ythifddkmbjnncaa

/-
  The walks of the document's begins, number and reference.
-/
namespace Go.Proofs.Ythifddkmbjnncaa
open Go.RowKit

set_option maxRecDepth 100000 in
set_option maxHeartbeats 400000 in
theorem begins_any (s : ByteArray) (p : List UInt8) (w : World) (_hs : s.size ≤ maxLen) (_hp : p.length ≤ 1000) :
    Calls Try.prog 134 #[.string s, .string ⟨p.toArray⟩] w fun e w' => e = .returned (.bool (pre p s.data.toList)) ∧ w = w' := by
  unfold maxLen at _hs
  have hl := Lib.hid (size_toList s)
  by_cases hc : p.length ≤ s.size
  · have hx : Hid ((s.extract 0 p.length).toList = s.data.toList.take p.length) := by
      show _ = _; rw [ByteArray.toList_eq, Lib.extract_data]; rfl
    have hpt : Hid (∀ (q : List UInt8), (⟨q.toArray⟩ : ByteArray).toList = q) := fun q => by rw [ByteArray.toList_eq]
    by_cases hq : ((s.extract 0 p.length).toList == p) = true
    · have hv : Hid (pre p s.data.toList = true) := by
        show _ = _; unfold pre; rw [← hx.out]; exact hq
      go_enter Try.func134, Try.ntmps134
      go_wp2_with fail
      go_ret
      exact ⟨by rw [hv.out]; rfl, rfl⟩
    · have hq' : ((s.extract 0 p.length).toList == p) = false := by simpa using hq
      clear hq
      have hv : Hid (pre p s.data.toList = false) := by
        show _ = _; unfold pre; rw [← hx.out]; exact hq'
      go_enter Try.func134, Try.ntmps134
      go_wp2_with fail
      go_ret
      exact ⟨by rw [hv.out]; rfl, rfl⟩
  · have hv : Hid (pre p s.data.toList = false) := by
      cases hh : pre p s.data.toList with
      | false => rfl
      | true => have := pre_len hh; have := hl.out; omega
    have hc' : s.size < p.length := by omega
    clear hc
    go_enter Try.func134, Try.ntmps134
    go_wp2_with fail
    go_ret
    exact ⟨by rw [hv.out]; rfl, rfl⟩

set_option maxRecDepth 100000 in
set_option maxHeartbeats 2000000 in
theorem number_10 (s : ByteArray) (w : World) (hs : s.size ≤ 12) (V : Int) (hV : Hid (V = numR 10 s.data.toList)) :
    Calls Try.prog 135 #[.string s, .int .i64 10] w fun e w' => e = .returned (.int .i64 V) ∧ w = w' := by
  have HL := Lib.hid (size_toList s)
  go_enter Try.func135, Try.ntmps135
  go_wp2_with fail
  go_loop [5, 6] (fun c i => ∃ (k : Nat) (cv : Int), k ≤ s.size ∧ i = .int .i64 k ∧ c = .int .i64 cv ∧ 0 ≤ cv ∧ Hid (cv < 16 ^ k) ∧ Hid (digs 10 (s.data.toList.take k) = true) ∧ Hid (cv = numF 10 0 (s.data.toList.take k))) (fun _ i => s.size - (intOf i).toNat)
  case atStart => exact ⟨0, 0, Nat.zero_le _, rfl, rfl, by omega, (by decide : (0 : Int) < 16 ^ 0), rfl, rfl⟩
  case round =>
    obtain ⟨k, cv, hk, rfl, rfl, hc0, hc1, hdg, hnf⟩ := hrel
    have hcv : cv < 281474976710656 := by
      have := hc1.out
      have : (16 : Int) ^ k ≤ 16 ^ 12 := by
        rcases (by omega : k = 0 ∨ k = 1 ∨ k = 2 ∨ k = 3 ∨ k = 4 ∨ k = 5 ∨ k = 6 ∨ k = 7 ∨ k = 8 ∨ k = 9 ∨ k = 10 ∨ k = 11 ∨ k = 12) with rfl | rfl | rfl | rfl | rfl | rfl | rfl | rfl | rfl | rfl | rfl | rfl | rfl <;> decide
      have e : (16 : Int) ^ 12 = 281474976710656 := by decide
      omega
    by_cases hlt : k < s.size
    · obtain ⟨x, HX⟩ : ∃ x, Hid (s.data.toList[k]? = some x) := ⟨s.data.toList[k]'(by have := HL.out; omega), List.getElem?_eq_getElem _⟩
      have hsx : s[k] = x := getk_of s k x HX.out hlt
      have hx1 : (x.toNat : Int) < 256 := by have := x.toNat_lt; omega
      have htk : Hid (s.data.toList.take (k + 1) = s.data.toList.take k ++ [x]) := by
        have := HX.out
        show _ = _
        rw [List.take_add_one, this]; rfl
      have hmem : Hid (x ∈ s.data.toList) := List.mem_of_getElem? HX.out
      rcases (by omega : (48 ≤ (x.toNat : Int) ∧ (x.toNat : Int) ≤ 57) ∨ (x.toNat : Int) < 48 ∨ 57 < (x.toNat : Int)) with ⟨hA, hA'⟩ | hB | hC
      · have hd : Hid (digitV 10 x.toNat = (x.toNat : Int) - 48) := by
          show _ = _; unfold digitV; repeat (first | rw [if_pos (by omega)] | rw [if_neg (by omega)])
        have hpw : Hid (cv * 10 + ((x.toNat : Int) - 48) < 16 ^ (k + 1)) := by
          have := hc1.out
          show _ < _
          rw [Int.pow_succ]; omega
        go_wp2_with fail
        go_round
        case rel =>
          refine ⟨k + 1, cv * 10 + ((x.toNat : Int) - 48), by omega, by go_num, rfl, by omega, hpw, ?_, ?_⟩
          · show _ = _
            rw [htk.out]
            unfold digs
            rw [List.all_append]
            have := hdg.out
            unfold digs at this
            rw [this]; simp [hd.out]; omega
          · show _ = _
            rw [htk.out, numF, List.foldl_append]
            show _ = numF 10 0 (s.data.toList.take k) * 10 + digitV 10 x.toNat
            rw [← hnf.out, hd.out]
        case measure => simp [intOf]; omega
      · have hd : Hid (digitV 10 x.toNat = -1) := by
          show _ = _; unfold digitV; repeat (first | rw [if_pos (by omega)] | rw [if_neg (by omega)])
        have hv : Hid (V = -1) := by
          show _ = _
          rw [hV.out]
          unfold numR
          rw [if_neg]
          rintro ⟨hall, _⟩
          unfold digs at hall
          rw [List.all_eq_true] at hall
          have := of_decide_eq_true (hall x hmem.out)
          rw [hd.out] at this
          omega
        go_wp2_with fail
        go_ret
        exact ⟨by rw [hv.out]; rfl, rfl⟩
      · have hd : Hid (digitV 10 x.toNat = -1) := by
          show _ = _; unfold digitV; repeat (first | rw [if_pos (by omega)] | rw [if_neg (by omega)])
        have hv : Hid (V = -1) := by
          show _ = _
          rw [hV.out]
          unfold numR
          rw [if_neg]
          rintro ⟨hall, _⟩
          unfold digs at hall
          rw [List.all_eq_true] at hall
          have := of_decide_eq_true (hall x hmem.out)
          rw [hd.out] at this
          omega
        go_wp2_with fail
        go_ret
        exact ⟨by rw [hv.out]; rfl, rfl⟩
    · have hk' : k = s.size := by omega
      have hfull : s.data.toList.take k = s.data.toList := List.take_of_length_le (by have := HL.out; omega)
      have hdg' : digs 10 s.data.toList = true := by have := hdg.out; rwa [hfull] at this
      have hnf' : cv = numF 10 0 s.data.toList := by have := hnf.out; rwa [hfull] at this
      have HD := Lib.hid hdg'; have HN := Lib.hid hnf'
      clear hfull hdg' hnf'
      by_cases hr : 1 ≤ s.size ∧ s.size ≤ 7
      · obtain ⟨hr1, hr7⟩ := hr
        have hv : Hid (V = cv) := by
          have := HL.out
          show _ = _
          rw [hV.out, HN.out]; unfold numR; rw [if_pos ⟨HD.out, by omega, by omega⟩]
        clear hk'
        go_wp2_with fail
        go_ret
        exact ⟨by rw [hv.out]; rfl, rfl⟩
      · have hv : Hid (V = -1) := by
          have := HL.out
          show _ = _
          rw [hV.out]; unfold numR; rw [if_neg (fun h => hr ⟨by omega, by omega⟩)]
        clear hk'
        rcases (by omega : s.size < 1 ∨ (1 ≤ s.size ∧ 7 < s.size)) with h1 | ⟨h1, h7⟩
        · clear hr
          go_wp2_with fail
          go_ret
          exact ⟨by rw [hv.out]; rfl, rfl⟩
        · clear hr
          go_wp2_with fail
          go_ret
          exact ⟨by rw [hv.out]; rfl, rfl⟩

set_option maxRecDepth 100000 in
set_option maxHeartbeats 2000000 in
theorem number_16 (s : ByteArray) (w : World) (hs : s.size ≤ 12) (V : Int) (hV : Hid (V = numR 16 s.data.toList)) :
    Calls Try.prog 135 #[.string s, .int .i64 16] w fun e w' => e = .returned (.int .i64 V) ∧ w = w' := by
  have HL := Lib.hid (size_toList s)
  go_enter Try.func135, Try.ntmps135
  go_wp2_with fail
  go_loop [5, 6] (fun c i => ∃ (k : Nat) (cv : Int), k ≤ s.size ∧ i = .int .i64 k ∧ c = .int .i64 cv ∧ 0 ≤ cv ∧ Hid (cv < 16 ^ k) ∧ Hid (digs 16 (s.data.toList.take k) = true) ∧ Hid (cv = numF 16 0 (s.data.toList.take k))) (fun _ i => s.size - (intOf i).toNat)
  case atStart => exact ⟨0, 0, Nat.zero_le _, rfl, rfl, by omega, (by decide : (0 : Int) < 16 ^ 0), rfl, rfl⟩
  case round =>
    obtain ⟨k, cv, hk, rfl, rfl, hc0, hc1, hdg, hnf⟩ := hrel
    have hcv : cv < 281474976710656 := by
      have := hc1.out
      have : (16 : Int) ^ k ≤ 16 ^ 12 := by
        rcases (by omega : k = 0 ∨ k = 1 ∨ k = 2 ∨ k = 3 ∨ k = 4 ∨ k = 5 ∨ k = 6 ∨ k = 7 ∨ k = 8 ∨ k = 9 ∨ k = 10 ∨ k = 11 ∨ k = 12) with rfl | rfl | rfl | rfl | rfl | rfl | rfl | rfl | rfl | rfl | rfl | rfl | rfl <;> decide
      have e : (16 : Int) ^ 12 = 281474976710656 := by decide
      omega
    by_cases hlt : k < s.size
    · obtain ⟨x, HX⟩ : ∃ x, Hid (s.data.toList[k]? = some x) := ⟨s.data.toList[k]'(by have := HL.out; omega), List.getElem?_eq_getElem _⟩
      have hsx : s[k] = x := getk_of s k x HX.out hlt
      have hx1 : (x.toNat : Int) < 256 := by have := x.toNat_lt; omega
      have htk : Hid (s.data.toList.take (k + 1) = s.data.toList.take k ++ [x]) := by
        have := HX.out
        show _ = _
        rw [List.take_add_one, this]; rfl
      have hmem : Hid (x ∈ s.data.toList) := List.mem_of_getElem? HX.out
      rcases (by omega : (48 ≤ (x.toNat : Int) ∧ (x.toNat : Int) ≤ 57) ∨ (97 ≤ (x.toNat : Int) ∧ (x.toNat : Int) ≤ 102) ∨ (65 ≤ (x.toNat : Int) ∧ (x.toNat : Int) ≤ 70) ∨ (x.toNat : Int) < 48 ∨ (58 ≤ (x.toNat : Int) ∧ (x.toNat : Int) ≤ 64) ∨ (71 ≤ (x.toNat : Int) ∧ (x.toNat : Int) ≤ 96) ∨ 102 < (x.toNat : Int)) with ⟨hA, hA'⟩ | ⟨hA, hA'⟩ | ⟨hA, hA'⟩ | hB | ⟨hB, hB'⟩ | ⟨hB, hB'⟩ | hB
      · have hd : Hid (digitV 16 x.toNat = (x.toNat : Int) - 48) := by
          show _ = _; unfold digitV; repeat (first | rw [if_pos (by omega)] | rw [if_neg (by omega)])
        have hpw : Hid (cv * 16 + ((x.toNat : Int) - 48) < 16 ^ (k + 1)) := by
          have := hc1.out
          show _ < _
          rw [Int.pow_succ]; omega
        go_wp2_with fail
        go_round
        case rel =>
          refine ⟨k + 1, cv * 16 + ((x.toNat : Int) - 48), by omega, by go_num, rfl, by omega, hpw, ?_, ?_⟩
          · show _ = _
            rw [htk.out]
            unfold digs
            rw [List.all_append]
            have := hdg.out
            unfold digs at this
            rw [this]; simp [hd.out]; omega
          · show _ = _
            rw [htk.out, numF, List.foldl_append]
            show _ = numF 16 0 (s.data.toList.take k) * 16 + digitV 16 x.toNat
            rw [← hnf.out, hd.out]
        case measure => simp [intOf]; omega
      · have hd : Hid (digitV 16 x.toNat = (x.toNat : Int) - 87) := by
          show _ = _; unfold digitV; repeat (first | rw [if_pos (by omega)] | rw [if_neg (by omega)])
        have hpw : Hid (cv * 16 + ((x.toNat : Int) - 87) < 16 ^ (k + 1)) := by
          have := hc1.out
          show _ < _
          rw [Int.pow_succ]; omega
        go_wp2_with fail
        go_round
        case rel =>
          refine ⟨k + 1, cv * 16 + ((x.toNat : Int) - 87), by omega, by go_num, rfl, by omega, hpw, ?_, ?_⟩
          · show _ = _
            rw [htk.out]
            unfold digs
            rw [List.all_append]
            have := hdg.out
            unfold digs at this
            rw [this]; simp [hd.out]; omega
          · show _ = _
            rw [htk.out, numF, List.foldl_append]
            show _ = numF 16 0 (s.data.toList.take k) * 16 + digitV 16 x.toNat
            rw [← hnf.out, hd.out]
        case measure => simp [intOf]; omega
      · have hd : Hid (digitV 16 x.toNat = (x.toNat : Int) - 55) := by
          show _ = _; unfold digitV; repeat (first | rw [if_pos (by omega)] | rw [if_neg (by omega)])
        have hpw : Hid (cv * 16 + ((x.toNat : Int) - 55) < 16 ^ (k + 1)) := by
          have := hc1.out
          show _ < _
          rw [Int.pow_succ]; omega
        go_wp2_with fail
        go_round
        case rel =>
          refine ⟨k + 1, cv * 16 + ((x.toNat : Int) - 55), by omega, by go_num, rfl, by omega, hpw, ?_, ?_⟩
          · show _ = _
            rw [htk.out]
            unfold digs
            rw [List.all_append]
            have := hdg.out
            unfold digs at this
            rw [this]; simp [hd.out]; omega
          · show _ = _
            rw [htk.out, numF, List.foldl_append]
            show _ = numF 16 0 (s.data.toList.take k) * 16 + digitV 16 x.toNat
            rw [← hnf.out, hd.out]
        case measure => simp [intOf]; omega
      · have hd : Hid (digitV 16 x.toNat = -1) := by
          show _ = _; unfold digitV; repeat (first | rw [if_pos (by omega)] | rw [if_neg (by omega)])
        have hv : Hid (V = -1) := by
          show _ = _
          rw [hV.out]
          unfold numR
          rw [if_neg]
          rintro ⟨hall, _⟩
          unfold digs at hall
          rw [List.all_eq_true] at hall
          have := of_decide_eq_true (hall x hmem.out)
          rw [hd.out] at this
          omega
        go_wp2_with fail
        go_ret
        exact ⟨by rw [hv.out]; rfl, rfl⟩
      · have hd : Hid (digitV 16 x.toNat = -1) := by
          show _ = _; unfold digitV; repeat (first | rw [if_pos (by omega)] | rw [if_neg (by omega)])
        have hv : Hid (V = -1) := by
          show _ = _
          rw [hV.out]
          unfold numR
          rw [if_neg]
          rintro ⟨hall, _⟩
          unfold digs at hall
          rw [List.all_eq_true] at hall
          have := of_decide_eq_true (hall x hmem.out)
          rw [hd.out] at this
          omega
        go_wp2_with fail
        go_ret
        exact ⟨by rw [hv.out]; rfl, rfl⟩
      · have hd : Hid (digitV 16 x.toNat = -1) := by
          show _ = _; unfold digitV; repeat (first | rw [if_pos (by omega)] | rw [if_neg (by omega)])
        have hv : Hid (V = -1) := by
          show _ = _
          rw [hV.out]
          unfold numR
          rw [if_neg]
          rintro ⟨hall, _⟩
          unfold digs at hall
          rw [List.all_eq_true] at hall
          have := of_decide_eq_true (hall x hmem.out)
          rw [hd.out] at this
          omega
        go_wp2_with fail
        go_ret
        exact ⟨by rw [hv.out]; rfl, rfl⟩
      · have hd : Hid (digitV 16 x.toNat = -1) := by
          show _ = _; unfold digitV; repeat (first | rw [if_pos (by omega)] | rw [if_neg (by omega)])
        have hv : Hid (V = -1) := by
          show _ = _
          rw [hV.out]
          unfold numR
          rw [if_neg]
          rintro ⟨hall, _⟩
          unfold digs at hall
          rw [List.all_eq_true] at hall
          have := of_decide_eq_true (hall x hmem.out)
          rw [hd.out] at this
          omega
        go_wp2_with fail
        go_ret
        exact ⟨by rw [hv.out]; rfl, rfl⟩
    · have hk' : k = s.size := by omega
      have hfull : s.data.toList.take k = s.data.toList := List.take_of_length_le (by have := HL.out; omega)
      have hdg' : digs 16 s.data.toList = true := by have := hdg.out; rwa [hfull] at this
      have hnf' : cv = numF 16 0 s.data.toList := by have := hnf.out; rwa [hfull] at this
      have HD := Lib.hid hdg'; have HN := Lib.hid hnf'
      clear hfull hdg' hnf'
      by_cases hr : 1 ≤ s.size ∧ s.size ≤ 7
      · obtain ⟨hr1, hr7⟩ := hr
        have hv : Hid (V = cv) := by
          have := HL.out
          show _ = _
          rw [hV.out, HN.out]; unfold numR; rw [if_pos ⟨HD.out, by omega, by omega⟩]
        clear hk'
        go_wp2_with fail
        go_ret
        exact ⟨by rw [hv.out]; rfl, rfl⟩
      · have hv : Hid (V = -1) := by
          have := HL.out
          show _ = _
          rw [hV.out]; unfold numR; rw [if_neg (fun h => hr ⟨by omega, by omega⟩)]
        clear hk'
        rcases (by omega : s.size < 1 ∨ (1 ≤ s.size ∧ 7 < s.size)) with h1 | ⟨h1, h7⟩
        · clear hr
          go_wp2_with fail
          go_ret
          exact ⟨by rw [hv.out]; rfl, rfl⟩
        · clear hr
          go_wp2_with fail
          go_ret
          exact ⟨by rw [hv.out]; rfl, rfl⟩
end Go.Proofs.Ythifddkmbjnncaa

/-
  The walk of the document's reference.
-/
namespace Go.Proofs.Ythifddkmbjnncaa
open Go.RowKit

set_option maxRecDepth 100000 in
set_option maxHeartbeats 1000000 in
theorem rrefer_0 (s : ByteArray) (w : World) (hs : s.size ≤ maxLen) (h0 : pre [38, 97, 109, 112, 59] s.data.toList = true) :
    Calls Try.prog 113 #[.string s] w (Ret w (.tuple #[.int .i64 38, .int .i64 5])) := by
  go_enter Try.func113, Try.ntmps113
  go_wp2_with fail
  refine wp_loop_rounds 6 ?_
  rw [rounds_succ]
  go_wp2_with (go_at_call 134; refine (begins_any s _ _ hs (by decide)).mono ?_; rintro e w' ⟨rfl, rfl⟩)
  go_region
  all_goals (try go_wp2_with fail)
  all_goals go_ret2
  all_goals exact ⟨rfl, (((Below.refl _ _).alloc (Nat.le_refl _) _).alloc (by simp) _).drew⟩

set_option maxRecDepth 100000 in
set_option maxHeartbeats 1000000 in
theorem rrefer_1 (s : ByteArray) (w : World) (hs : s.size ≤ maxLen) (h0 : pre [38, 97, 109, 112, 59] s.data.toList = false) (h1 : pre [38, 108, 116, 59] s.data.toList = true) :
    Calls Try.prog 113 #[.string s] w (Ret w (.tuple #[.int .i64 60, .int .i64 4])) := by
  go_enter Try.func113, Try.ntmps113
  go_wp2_with fail
  refine wp_loop_rounds 6 ?_
  rw [rounds_succ]
  go_wp2_with (go_at_call 134; refine (begins_any s _ _ hs (by decide)).mono ?_; rintro e w' ⟨rfl, rfl⟩)
  rw [rounds_succ]
  go_wp2_with (go_at_call 134; refine (begins_any s _ _ hs (by decide)).mono ?_; rintro e w' ⟨rfl, rfl⟩)
  go_region
  all_goals (try go_wp2_with fail)
  all_goals go_ret2
  all_goals exact ⟨rfl, (((Below.refl _ _).alloc (Nat.le_refl _) _).alloc (by simp) _).drew⟩

set_option maxRecDepth 100000 in
set_option maxHeartbeats 1000000 in
theorem rrefer_2 (s : ByteArray) (w : World) (hs : s.size ≤ maxLen) (h0 : pre [38, 97, 109, 112, 59] s.data.toList = false) (h1 : pre [38, 108, 116, 59] s.data.toList = false) (h2 : pre [38, 103, 116, 59] s.data.toList = true) :
    Calls Try.prog 113 #[.string s] w (Ret w (.tuple #[.int .i64 62, .int .i64 4])) := by
  go_enter Try.func113, Try.ntmps113
  go_wp2_with fail
  refine wp_loop_rounds 6 ?_
  rw [rounds_succ]
  go_wp2_with (go_at_call 134; refine (begins_any s _ _ hs (by decide)).mono ?_; rintro e w' ⟨rfl, rfl⟩)
  rw [rounds_succ]
  go_wp2_with (go_at_call 134; refine (begins_any s _ _ hs (by decide)).mono ?_; rintro e w' ⟨rfl, rfl⟩)
  rw [rounds_succ]
  go_wp2_with (go_at_call 134; refine (begins_any s _ _ hs (by decide)).mono ?_; rintro e w' ⟨rfl, rfl⟩)
  go_region
  all_goals (try go_wp2_with fail)
  all_goals go_ret2
  all_goals exact ⟨rfl, (((Below.refl _ _).alloc (Nat.le_refl _) _).alloc (by simp) _).drew⟩

set_option maxRecDepth 100000 in
set_option maxHeartbeats 1000000 in
theorem rrefer_3 (s : ByteArray) (w : World) (hs : s.size ≤ maxLen) (h0 : pre [38, 97, 109, 112, 59] s.data.toList = false) (h1 : pre [38, 108, 116, 59] s.data.toList = false) (h2 : pre [38, 103, 116, 59] s.data.toList = false) (h3 : pre [38, 113, 117, 111, 116, 59] s.data.toList = true) :
    Calls Try.prog 113 #[.string s] w (Ret w (.tuple #[.int .i64 34, .int .i64 6])) := by
  go_enter Try.func113, Try.ntmps113
  go_wp2_with fail
  refine wp_loop_rounds 6 ?_
  rw [rounds_succ]
  go_wp2_with (go_at_call 134; refine (begins_any s _ _ hs (by decide)).mono ?_; rintro e w' ⟨rfl, rfl⟩)
  rw [rounds_succ]
  go_wp2_with (go_at_call 134; refine (begins_any s _ _ hs (by decide)).mono ?_; rintro e w' ⟨rfl, rfl⟩)
  rw [rounds_succ]
  go_wp2_with (go_at_call 134; refine (begins_any s _ _ hs (by decide)).mono ?_; rintro e w' ⟨rfl, rfl⟩)
  rw [rounds_succ]
  go_wp2_with (go_at_call 134; refine (begins_any s _ _ hs (by decide)).mono ?_; rintro e w' ⟨rfl, rfl⟩)
  go_region
  all_goals (try go_wp2_with fail)
  all_goals go_ret2
  all_goals exact ⟨rfl, (((Below.refl _ _).alloc (Nat.le_refl _) _).alloc (by simp) _).drew⟩

set_option maxRecDepth 100000 in
set_option maxHeartbeats 1000000 in
theorem rrefer_4 (s : ByteArray) (w : World) (hs : s.size ≤ maxLen) (h0 : pre [38, 97, 109, 112, 59] s.data.toList = false) (h1 : pre [38, 108, 116, 59] s.data.toList = false) (h2 : pre [38, 103, 116, 59] s.data.toList = false) (h3 : pre [38, 113, 117, 111, 116, 59] s.data.toList = false) (h4 : pre [38, 97, 112, 111, 115, 59] s.data.toList = true) :
    Calls Try.prog 113 #[.string s] w (Ret w (.tuple #[.int .i64 39, .int .i64 6])) := by
  go_enter Try.func113, Try.ntmps113
  go_wp2_with fail
  refine wp_loop_rounds 6 ?_
  rw [rounds_succ]
  go_wp2_with (go_at_call 134; refine (begins_any s _ _ hs (by decide)).mono ?_; rintro e w' ⟨rfl, rfl⟩)
  rw [rounds_succ]
  go_wp2_with (go_at_call 134; refine (begins_any s _ _ hs (by decide)).mono ?_; rintro e w' ⟨rfl, rfl⟩)
  rw [rounds_succ]
  go_wp2_with (go_at_call 134; refine (begins_any s _ _ hs (by decide)).mono ?_; rintro e w' ⟨rfl, rfl⟩)
  rw [rounds_succ]
  go_wp2_with (go_at_call 134; refine (begins_any s _ _ hs (by decide)).mono ?_; rintro e w' ⟨rfl, rfl⟩)
  rw [rounds_succ]
  go_wp2_with (go_at_call 134; refine (begins_any s _ _ hs (by decide)).mono ?_; rintro e w' ⟨rfl, rfl⟩)
  go_region
  all_goals (try go_wp2_with fail)
  all_goals go_ret2
  all_goals exact ⟨rfl, (((Below.refl _ _).alloc (Nat.le_refl _) _).alloc (by simp) _).drew⟩

set_option maxRecDepth 100000 in
set_option maxHeartbeats 4000000 in
theorem rrefer_num (s : ByteArray) (w : World) (hs : s.size ≤ maxLen) (h0 : pre [38, 97, 109, 112, 59] s.data.toList = false) (h1 : pre [38, 108, 116, 59] s.data.toList = false) (h2 : pre [38, 103, 116, 59] s.data.toList = false) (h3 : pre [38, 113, 117, 111, 116, 59] s.data.toList = false) (h4 : pre [38, 97, 112, 111, 115, 59] s.data.toList = false) (V : Int × Nat) (b5 b6 : Bool) (h5 : pre [38, 35] s.data.toList = b5) (h6 : pre [38, 35, 120] s.data.toList = b6)
    (hV : Hid (V = if endRf s.data.toList = s.data.toList.length ∨ endRf s.data.toList = 12 ∨ b5 = false then (0, 0) else
      if (if b6 = true then numR 16 ((s.data.toList.take (endRf s.data.toList)).drop 3) else numR 10 ((s.data.toList.take (endRf s.data.toList)).drop 2)) < 0 then (0, 0)
      else ((if b6 = true then numR 16 ((s.data.toList.take (endRf s.data.toList)).drop 3) else numR 10 ((s.data.toList.take (endRf s.data.toList)).drop 2)), endRf s.data.toList + 1))) :
    Calls Try.prog 113 #[.string s] w (Ret w (.tuple #[.int .i64 V.1, .int .i64 (V.2 : Nat)])) := by
  have hs' := hs
  unfold maxLen at hs'
  have HL := Lib.hid (size_toList s)
  have hp2 : Hid (b5 = true → s.data.toList.take 2 = [38, 35]) := fun h => by rw [h] at h5; exact eq_of_beq h5
  have hp3 : Hid (b6 = true → s.data.toList.take 3 = [38, 35, 120]) := fun h => by rw [h] at h6; exact eq_of_beq h6
  go_enter Try.func113, Try.ntmps113
  go_wp2_with fail
  refine wp_loop_rounds 6 ?_
  rw [rounds_succ]
  go_wp2_with (go_at_call 134; refine (begins_any s _ _ hs (by decide)).mono ?_; rintro e w' ⟨rfl, rfl⟩)
  rw [rounds_succ]
  go_wp2_with (go_at_call 134; refine (begins_any s _ _ hs (by decide)).mono ?_; rintro e w' ⟨rfl, rfl⟩)
  rw [rounds_succ]
  go_wp2_with (go_at_call 134; refine (begins_any s _ _ hs (by decide)).mono ?_; rintro e w' ⟨rfl, rfl⟩)
  rw [rounds_succ]
  go_wp2_with (go_at_call 134; refine (begins_any s _ _ hs (by decide)).mono ?_; rintro e w' ⟨rfl, rfl⟩)
  rw [rounds_succ]
  go_wp2_with (go_at_call 134; refine (begins_any s _ _ hs (by decide)).mono ?_; rintro e w' ⟨rfl, rfl⟩)
  rw [rounds_succ]
  go_wp2_with (go_at_call 134; refine (begins_any s _ _ hs (by decide)).mono ?_; rintro e w' ⟨rfl, rfl⟩)
  go_loop [7] (fun i => ∃ k : Nat, k ≤ s.size ∧ k ≤ 12 ∧ i = .int .i64 k ∧ Hid ((s.data.toList.take k).takeWhile no59 = s.data.toList.take k)) (fun i => s.size - (intOf i).toNat)
  case atStart => exact ⟨0, Nat.zero_le _, Nat.zero_le _, rfl, rfl⟩
  case round =>
    obtain ⟨k, hk, hk12, rfl, htw⟩ := hrel
    have hend0 : Hid (∀ rest : List UInt8, (rest.takeWhile no59 = []) → s.data.toList.take 12 = s.data.toList.take k ++ rest → endRf s.data.toList = k) := by
      intro rest hr he
      unfold endRf
      rw [he, List.takeWhile_append, if_pos (by rw [htw.out]), hr, List.append_nil, List.length_take]
      have := HL.out; omega
    by_cases hA : s.size ≤ k
    · have he : Hid (endRf s.data.toList = k) := by
        refine hend0.out [] rfl ?_
        have := HL.out
        rw [List.append_nil, List.take_of_length_le (by omega), List.take_of_length_le (by omega)]
      have hv : Hid (V = (0, 0)) := by
        show _ = _
        rw [hV.out, if_pos (.inl (by rw [he.out, HL.out]; omega))]
      have hke : k = s.size := by omega
      have h1 : ((k : Int) == (s.size : Int)) = true := by rw [hke]; simp
      have h1' : (k == s.size) = true := by rw [hke]; simp
      clear hke
      go_wp2_with fail
      go_ret2
      exact ⟨by rw [hv.out]; rfl, ((Below.refl _ _).alloc (Nat.le_refl _) _).alloc (by simp) _⟩
    by_cases hB : 12 ≤ k
    · have he : Hid (endRf s.data.toList = k) := by
        refine hend0.out [] rfl ?_
        rw [List.append_nil]; congr 1; omega
      have hv : Hid (V = (0, 0)) := by
        show _ = _
        rw [hV.out, if_pos (.inr (.inl (by rw [he.out]; omega)))]
      have h0 : ((k : Int) == (s.size : Int)) = false := by simp; omega
      have h0' : (k == s.size) = false := by simp; omega
      have hk12' : ((k : Int) == 12) = true := by simp; omega
      have hks : k < s.size := by omega
      clear hA
      go_wp2_with fail
      go_ret2
      exact ⟨by rw [hv.out]; rfl, ((Below.refl _ _).alloc (Nat.le_refl _) _).alloc (by simp) _⟩
    have hks : k < s.size := by omega
    have hkl : k < 12 := by omega
    have h0 : ((k : Int) == (s.size : Int)) = false := by simp; omega
    have h0' : (k == s.size) = false := by simp; omega
    have hk12' : ((k : Int) == 12) = false := by simp; omega
    obtain ⟨x, HX⟩ : ∃ x, Hid (s.data.toList[k]? = some x) := ⟨s.data.toList[k]'(by have := HL.out; omega), List.getElem?_eq_getElem _⟩
    have hsx : s[k] = x := getk_of s k x HX.out hks
    have hdr : Hid (s.data.toList.drop k = x :: s.data.toList.drop (k + 1)) := by
      have hj' : k < s.data.toList.length := by have := HL.out; omega
      have hg := HX.out
      rw [List.getElem?_eq_getElem hj'] at hg
      show _ = _
      rw [List.drop_eq_getElem_cons hj', Option.some.inj hg]
    clear hA hB
    by_cases h59 : x = 59
    · have he : Hid (endRf s.data.toList = k) := by
        refine hend0.out ((s.data.toList.drop k).take (12 - k)) ?_ ?_
        · rw [hdr.out, h59]
          obtain ⟨m, hm⟩ : ∃ m, 12 - k = m + 1 := ⟨11 - k, by omega⟩
          rw [hm, List.take_succ_cons]
          simp [List.takeWhile, no59]
        · have : (12 : Nat) = k + (12 - k) := by omega
          conv => lhs; rw [this]
          rw [List.take_add]
      have hx59 : ((x.toNat : Int) != 59) = false := by rw [h59]; rfl
      have hx59' : ((x.toNat : Int) == 59) = true := by rw [h59]; rfl
      have h59' : Hid (s.data.toList[k]? = some 59) := by have := HX.out; rw [h59] at this; exact this
      clear h59
      cases hb5 : b5
      · subst hb5
        have hv : Hid (V = (0, 0)) := by
          show _ = _
          rw [hV.out, if_pos (.inr (.inr rfl))]
        go_wp2_with (go_at_call 134; refine (begins_any s _ _ hs (by decide)).mono ?_; rintro e w' ⟨rfl, rfl⟩)
        go_ret2
        exact ⟨by rw [hv.out]; rfl, ((Below.refl _ _).alloc (Nat.le_refl _) _).alloc (by simp) _⟩
      · subst hb5
        have hk2 : 2 ≤ k := by
          have h2 := hp2.out rfl
          have h59 := h59'.out
          rcases (by omega : k = 0 ∨ k = 1 ∨ 2 ≤ k) with rfl | rfl | h
          · have : (s.data.toList.take 2)[0]? = some 59 := by rw [List.getElem?_take]; simpa using h59
            rw [h2] at this; simp at this
          · have : (s.data.toList.take 2)[1]? = some 59 := by rw [List.getElem?_take]; simpa using h59
            rw [h2] at this; simp at this
          · exact h
        have hx2 : Hid ((s.extract 2 k).data.toList = (s.data.toList.take k).drop 2) := by
          show _ = _; rw [Lib.extract_data, List.drop_take]
        have hxz2 : (s.extract 2 k).size ≤ 12 := by simp; omega
        obtain ⟨n1, hn1⟩ : ∃ n, Hid (n = numR 10 (s.extract 2 k).data.toList) := ⟨_, rfl⟩
        cases hb6 : b6
        · subst hb6
          have hv0 : Hid (V = if n1 < 0 then (0, 0) else (n1, k + 1)) := by
            show _ = _
            rw [hV.out, if_neg (by rw [he.out, HL.out]; simp; omega), he.out, hn1.out, hx2.out]; rfl
          by_cases hneg : n1 < 0
          · have hv : Hid (V = (0, 0)) := by show _ = _; rw [hv0.out, if_pos hneg]
            go_wp2_with (first | (go_at_call 134; refine (begins_any s _ _ hs (by decide)).mono ?_; rintro e w' ⟨rfl, rfl⟩) | (go_at_call 135; refine (number_10 _ _ hxz2 n1 hn1).mono ?_; rintro e w' ⟨rfl, rfl⟩))
            go_ret2
            exact ⟨by rw [hv.out]; rfl, ((Below.refl _ _).alloc (Nat.le_refl _) _).alloc (by simp) _⟩
          · have hv : Hid (V = (n1, k + 1)) := by show _ = _; rw [hv0.out, if_neg hneg]
            go_wp2_with (first | (go_at_call 134; refine (begins_any s _ _ hs (by decide)).mono ?_; rintro e w' ⟨rfl, rfl⟩) | (go_at_call 135; refine (number_10 _ _ hxz2 n1 hn1).mono ?_; rintro e w' ⟨rfl, rfl⟩))
            go_ret2
            exact ⟨by rw [hv.out]; rfl, ((Below.refl _ _).alloc (Nat.le_refl _) _).alloc (by simp) _⟩
        · subst hb6
          have hk3 : 3 ≤ k := by
            have h3 := hp3.out rfl
            have h59 := h59'.out
            rcases (by omega : k = 2 ∨ 3 ≤ k) with rfl | h
            · have : (s.data.toList.take 3)[2]? = some 59 := by rw [List.getElem?_take]; simpa using h59
              rw [h3] at this; simp at this
            · exact h
          have hx3 : Hid ((s.extract 3 k).data.toList = (s.data.toList.take k).drop 3) := by
            show _ = _; rw [Lib.extract_data, List.drop_take]
          have hxz3 : (s.extract 3 k).size ≤ 12 := by simp; omega
          obtain ⟨n2, hn2⟩ : ∃ n, Hid (n = numR 16 (s.extract 3 k).data.toList) := ⟨_, rfl⟩
          have hv0 : Hid (V = if n2 < 0 then (0, 0) else (n2, k + 1)) := by
            show _ = _
            rw [hV.out, if_neg (by rw [he.out, HL.out]; simp; omega), he.out, hn2.out, hx3.out]; rfl
          by_cases hneg : n2 < 0
          · have hv : Hid (V = (0, 0)) := by show _ = _; rw [hv0.out, if_pos hneg]
            go_wp2_with (first | (go_at_call 134; refine (begins_any s _ _ hs (by decide)).mono ?_; rintro e w' ⟨rfl, rfl⟩) | (go_at_call 135; first | ((with_reducible refine (number_10 _ _ hxz2 n1 hn1).mono ?_); rintro e w' ⟨rfl, rfl⟩) | ((with_reducible refine (number_16 _ _ hxz3 n2 hn2).mono ?_); rintro e w' ⟨rfl, rfl⟩)))
            go_ret2
            exact ⟨by rw [hv.out]; rfl, ((Below.refl _ _).alloc (Nat.le_refl _) _).alloc (by simp) _⟩
          · have hv : Hid (V = (n2, k + 1)) := by show _ = _; rw [hv0.out, if_neg hneg]
            go_wp2_with (first | (go_at_call 134; refine (begins_any s _ _ hs (by decide)).mono ?_; rintro e w' ⟨rfl, rfl⟩) | (go_at_call 135; first | ((with_reducible refine (number_10 _ _ hxz2 n1 hn1).mono ?_); rintro e w' ⟨rfl, rfl⟩) | ((with_reducible refine (number_16 _ _ hxz3 n2 hn2).mono ?_); rintro e w' ⟨rfl, rfl⟩)))
            go_ret2
            exact ⟨by rw [hv.out]; rfl, ((Below.refl _ _).alloc (Nat.le_refl _) _).alloc (by simp) _⟩
    · have hxi : ¬ (x.toNat : Int) = 59 := fun h => h59 (UInt8.toNat_inj.1 (by have : (59 : UInt8).toNat = 59 := rfl; omega))
      have hx59 : ((x.toNat : Int) != 59) = true := by simp [hxi]
      have hx59' : ((x.toNat : Int) == 59) = false := by simp [hxi]
      have H59 := Lib.hid h59
      clear h59 hxi
      go_wp2_with fail
      go_round
      case rel =>
        refine ⟨k + 1, by omega, by omega, by go_num, ?_⟩
        show _ = _
        have hn : no59 x = true := by unfold no59; simpa using H59.out
        rw [List.take_add_one, HX.out, List.takeWhile_append, if_pos (by rw [htw.out])]
        show _ ++ [x].takeWhile no59 = _
        rw [List.takeWhile_cons, if_pos hn]; rfl
      case measure => simp [intOf]; omega

/-- The document's reference: any text. -/
theorem rrefer_any (s : ByteArray) (w : World) (hs : s.size ≤ maxLen) :
    Calls Try.prog 113 #[.string s] w (Ret w (.tuple #[.int .i64 (refL s.data.toList).1, .int .i64 ((refL s.data.toList).2 : Nat)])) := by
  rw [← refR_eq]
  unfold refR
  by_cases h0 : pre [38, 97, 109, 112, 59] s.data.toList = true
  · rw [if_pos h0]; exact rrefer_0 s w hs h0
  by_cases h1 : pre [38, 108, 116, 59] s.data.toList = true
  · rw [if_neg h0, if_pos h1]; exact rrefer_1 s w hs (by simpa using h0) h1
  by_cases h2 : pre [38, 103, 116, 59] s.data.toList = true
  · rw [if_neg h0, if_neg h1, if_pos h2]; exact rrefer_2 s w hs (by simpa using h0) (by simpa using h1) h2
  by_cases h3 : pre [38, 113, 117, 111, 116, 59] s.data.toList = true
  · rw [if_neg h0, if_neg h1, if_neg h2, if_pos h3]; exact rrefer_3 s w hs (by simpa using h0) (by simpa using h1) (by simpa using h2) h3
  by_cases h4 : pre [38, 97, 112, 111, 115, 59] s.data.toList = true
  · rw [if_neg h0, if_neg h1, if_neg h2, if_neg h3, if_pos h4]; exact rrefer_4 s w hs (by simpa using h0) (by simpa using h1) (by simpa using h2) (by simpa using h3) h4
  rw [if_neg h0, if_neg h1, if_neg h2, if_neg h3, if_neg h4]
  exact rrefer_num s w hs (by simpa using h0) (by simpa using h1) (by simpa using h2) (by simpa using h3) (by simpa using h4) _ _ _ rfl rfl rfl
end Go.Proofs.Ythifddkmbjnncaa

/-
  The walk of the document's Undo.
-/
namespace Go.Proofs.Ythifddkmbjnncaa
open Go.RowKit

theorem rrefer_as (s : ByteArray) (w : World) (hs : s.size ≤ maxLen) (c : Int) (n : Nat) (h : Hid (refL s.data.toList = (c, n))) :
    Calls Try.prog 113 #[.string s] w (Ret w (.tuple #[.int .i64 c, .int .i64 (n : Nat)])) := by
  have := rrefer_any s w hs
  rw [h.out] at this
  exact this


set_option maxRecDepth 100000 in
set_option maxHeartbeats 4000000 in
theorem RUndo_true (s : ByteArray) (w : World) (hs : s.size ≤ 1000000000) (V : List UInt8 × Nat × Int) (hV : Hid (V = undoL true s.data.toList)) :
    Calls Try.prog 94 #[.string s, .bool true] w (Ret w (.tuple #[.string ⟨V.1.toArray⟩, .int .i64 (V.2.1 : Nat), .int .i64 V.2.2])) := by
  go_enter Try.func94, Try.ntmps94
  go_wp2_with fail
  go_loopw [7, 8] (fun ov av wr => ∃ (k : Nat) (acc : List UInt8), ov = .string ⟨acc.toArray⟩ ∧ av = .int .i64 k ∧ k ≤ s.size ∧ Hid (V = joinU acc k (undoL true (s.data.toList.drop k))) ∧ acc.length ≤ 4 * k ∧ Below w.heap.size w wr) (fun _ av _ => s.size - (intOf av).toNat)
  case atStart =>
    refine ⟨0, [], rfl, rfl, Nat.zero_le _, ?_, by simp, Below.refl _ _⟩
    show _ = _
    rw [hV.out, List.drop_zero, joinU_nil _ (undoL_shape _ _)]
  case round =>
    obtain ⟨k, acc, rfl, rfl, hks, hjo, hal, hbel⟩ := hrel
    have hwr := hbel.size
    have HL := Lib.hid (size_toList s)
    by_cases hend : k < s.size
    · have hx : Hid ((s.extract k s.size).data.toList = s.data.toList.drop k) := Lib.extract_to_end s k
      have hxs : (s.extract k s.size).size = s.size - k := by simp
      have hnn : Hid (s.data.toList.drop k ≠ []) := by
        intro h
        have := congrArg List.length h
        rw [List.length_drop, HL.out] at this
        simp at this; omega
      have hszl : (s.extract k s.size).size ≤ 1000000000 := by omega
      have HXS := Lib.hid hxs
      clear hxs
      obtain ⟨c, n, hq⟩ : ∃ c n, Hid (nextL (s.extract k s.size).data.toList = (c, n)) := ⟨_, _, rfl⟩
      have hle := nextL_le (s.extract k s.size).data.toList
      rw [hq.out, hx.out, List.length_drop, HL.out] at hle
      obtain ⟨hn1, hn4⟩ := hle
      simp only at hn1 hn4
      by_cases hn : n = 0
      · have hv : Hid (V = ([], k, 21)) := by
          have := stepL_no (v := true) hq.out hn
          rw [hx.out] at this
          show _ = _
          rw [hjo.out, undoL_bad _ _ hnn.out _ this, joinU_bad _ _ _ (by decide)]
        have hn0 : ((n : Int) == 0) = true := by simp [hn]
        have hnz : n ≤ 0 := by omega
        clear hn
        go_wp2_with (go_at_call 112; refine (RNext_as (s.extract k s.size) wr (by unfold maxLen; omega) c n hq).mono ?_; rintro e w2 ⟨rfl, hb2⟩)
        go_ret3
        exact ⟨by rw [hv.out]; rfl, hbel.trans (hb2.mono (by omega))⟩
      have hnp : 0 < n := by omega
      have hn0 : ((n : Int) == 0) = false := by simp [hn]
      clear hn
      by_cases hc60 : c = 60
      · subst hc60
        have hv : Hid (V = ([], k, 20)) := by
          have := stepL_lt (v := true) hq.out hnp (.inl rfl)
          rw [hx.out] at this
          show _ = _
          rw [hjo.out, undoL_bad _ _ hnn.out _ this, joinU_bad _ _ _ (by decide)]
        go_wp2_with (go_at_call 112; refine (RNext_as (s.extract k s.size) wr (by unfold maxLen; omega) 60 n hq).mono ?_; rintro e w2 ⟨rfl, hb2⟩)
        go_ret3
        exact ⟨by rw [hv.out]; rfl, hbel.trans (hb2.mono (by omega))⟩
      by_cases hc62 : c = 62
      · subst hc62
        have hv : Hid (V = ([], k, 20)) := by
          have := stepL_lt (v := true) hq.out hnp (.inr rfl)
          rw [hx.out] at this
          show _ = _
          rw [hjo.out, undoL_bad _ _ hnn.out _ this, joinU_bad _ _ _ (by decide)]
        go_wp2_with (go_at_call 112; refine (RNext_as (s.extract k s.size) wr (by unfold maxLen; omega) 62 n hq).mono ?_; rintro e w2 ⟨rfl, hb2⟩)
        go_ret3
        exact ⟨by rw [hv.out]; rfl, hbel.trans (hb2.mono (by omega))⟩
      by_cases hc13 : c = 13
      · subst hc13
        have hv : Hid (V = ([], k, 21)) := by
          have := stepL_13 (v := true) hq.out (.inl rfl)
          rw [hx.out] at this
          show _ = _
          rw [hjo.out, undoL_bad _ _ hnn.out _ this, joinU_bad _ _ _ (by decide)]
        go_wp2_with (go_at_call 112; refine (RNext_as (s.extract k s.size) wr (by unfold maxLen; omega) 13 n hq).mono ?_; rintro e w2 ⟨rfl, hb2⟩)
        go_ret3
        exact ⟨by rw [hv.out]; rfl, hbel.trans (hb2.mono (by omega))⟩
      by_cases hc34 : c = 34
      · subst hc34
        have hv : Hid (V = ([], k, 21)) := by
          have := stepL_13 (v := true) hq.out (.inr ⟨rfl, .inl rfl⟩)
          rw [hx.out] at this
          show _ = _
          rw [hjo.out, undoL_bad _ _ hnn.out _ this, joinU_bad _ _ _ (by decide)]
        go_wp2_with (go_at_call 112; refine (RNext_as (s.extract k s.size) wr (by unfold maxLen; omega) 34 n hq).mono ?_; rintro e w2 ⟨rfl, hb2⟩)
        go_ret3
        exact ⟨by rw [hv.out]; rfl, hbel.trans (hb2.mono (by omega))⟩
      by_cases hc9 : c = 9
      · subst hc9
        have hv : Hid (V = ([], k, 21)) := by
          have := stepL_13 (v := true) hq.out (.inr ⟨rfl, .inr (.inl rfl)⟩)
          rw [hx.out] at this
          show _ = _
          rw [hjo.out, undoL_bad _ _ hnn.out _ this, joinU_bad _ _ _ (by decide)]
        go_wp2_with (go_at_call 112; refine (RNext_as (s.extract k s.size) wr (by unfold maxLen; omega) 9 n hq).mono ?_; rintro e w2 ⟨rfl, hb2⟩)
        go_ret3
        exact ⟨by rw [hv.out]; rfl, hbel.trans (hb2.mono (by omega))⟩
      by_cases hc10 : c = 10
      · subst hc10
        have hv : Hid (V = ([], k, 21)) := by
          have := stepL_13 (v := true) hq.out (.inr ⟨rfl, .inr (.inr rfl)⟩)
          rw [hx.out] at this
          show _ = _
          rw [hjo.out, undoL_bad _ _ hnn.out _ this, joinU_bad _ _ _ (by decide)]
        go_wp2_with (go_at_call 112; refine (RNext_as (s.extract k s.size) wr (by unfold maxLen; omega) 10 n hq).mono ?_; rintro e w2 ⟨rfl, hb2⟩)
        go_ret3
        exact ⟨by rw [hv.out]; rfl, hbel.trans (hb2.mono (by omega))⟩
      by_cases hc38 : c = 38
      · subst hc38
        obtain ⟨c', n', hr⟩ : ∃ c' n', Hid (refL (s.extract k s.size).data.toList = (c', n')) := ⟨_, _, rfl⟩
        have hrl := refL_le (s.extract k s.size).data.toList
        rw [hr.out, hx.out, List.length_drop, HL.out] at hrl
        simp only at hrl
        have hrb := refL_bd (s.extract k s.size).data.toList
        rw [hr.out] at hrb
        obtain ⟨hrb0, hrb1⟩ := hrb
        simp only at hrb0 hrb1
        have hstep := stepL_ref (v := true) hq.out hnp hr.out
        rw [hx.out] at hstep
        by_cases hn' : n' = 0
        · rw [if_pos hn'] at hstep
          have hv : Hid (V = ([], k, 20)) := by
            show _ = _
            rw [hjo.out, undoL_bad _ _ hnn.out _ hstep, joinU_bad _ _ _ (by decide)]
          have hn0' : ((n' : Int) == 0) = true := by simp [hn']
          clear hn' hstep
          go_wp2_with (first | (go_at_call 112; refine (RNext_as (s.extract k s.size) wr (by unfold maxLen; omega) 38 n hq).mono ?_; rintro e w2 ⟨rfl, hb2⟩) | (go_at_call 113; refine (rrefer_as (s.extract k s.size) _ (by unfold maxLen; omega) c' n' hr).mono ?_; rintro e w3 ⟨rfl, hb3⟩) | (go_at_call 114; refine (RPut_any _ _).mono ?_; rintro e w4 ⟨rfl, hb4⟩))
          go_ret3
          have hz2 := hb2.size
          exact ⟨by rw [hv.out]; rfl, (hbel.trans (hb2.mono (by omega))).trans (hb3.mono (by omega))⟩
        rw [if_neg hn'] at hstep
        have hn0' : ((n' : Int) == 0) = false := by simp [hn']
        have hnp' : 0 < n' := by omega
        clear hn'
        by_cases hch : charB c' = false
        · rw [if_pos hch] at hstep
          have hv : Hid (V = ([], k, 21)) := by
            show _ = _
            rw [hjo.out, undoL_bad _ _ hnn.out _ hstep, joinU_bad _ _ _ (by decide)]
          clear hstep
          go_wp2_with (first | (go_at_call 112; refine (RNext_as (s.extract k s.size) wr (by unfold maxLen; omega) 38 n hq).mono ?_; rintro e w2 ⟨rfl, hb2⟩) | (go_at_call 113; refine (rrefer_as (s.extract k s.size) _ (by unfold maxLen; omega) c' n' hr).mono ?_; rintro e w3 ⟨rfl, hb3⟩) | (go_at_call 114; refine (RPut_any _ _).mono ?_; rintro e w4 ⟨rfl, hb4⟩))
          go_ret3
          have hz2 := hb2.size; have hz3 := hb3.size
          exact ⟨by rw [hv.out]; rfl, ((hbel.trans (hb2.mono (by omega))).trans (hb3.mono (by omega))).trans (hb4.mono (by omega))⟩
        · rw [if_neg hch] at hstep
          have hch' : charB c' = true := by simpa using hch
          have HS := Lib.hid hstep
          have hpl := putF_len c'
          clear hstep hch
          go_wp2_with (first | (go_at_call 112; refine (RNext_as (s.extract k s.size) wr (by unfold maxLen; omega) 38 n hq).mono ?_; rintro e w2 ⟨rfl, hb2⟩) | (go_at_call 113; refine (rrefer_as (s.extract k s.size) _ (by unfold maxLen; omega) c' n' hr).mono ?_; rintro e w3 ⟨rfl, hb3⟩) | (go_at_call 114; refine (RPut_any _ _).mono ?_; rintro e w4 ⟨rfl, hb4⟩))
          have hz2 := hb2.size; have hz4 := hb4.size; have hz3 := hb3.size
          go_roundw
          case rel =>
            refine ⟨k + n', acc ++ putF c', congrArg Value.string (str_app _ _), by go_num, by omega, ?_, ?_, ((hbel.trans (hb2.mono (by omega))).trans (hb3.mono (by omega))).trans (hb4.mono (by omega))⟩
            · show _ = _
              rw [hjo.out, undoL_step _ _ hnn.out _ _ HS.out, joinU_join, List.drop_drop]
            · rw [List.length_append]; omega
          case measure => simp [intOf]; omega
      have hstep := stepL_put (v := true) hq.out hnp (by omega) (by simp; omega) hc38
      rw [hx.out] at hstep
      have hb60 : (c == 60) = false := by simp; omega
      have hb62 : (c == 62) = false := by simp; omega
      have hb13 : (c == 13) = false := by simp; omega
      have hb34 : (c == 34) = false := by simp; omega
      have hb9 : (c == 9) = false := by simp; omega
      have hb10 : (c == 10) = false := by simp; omega
      have hb38 : (c == 38) = false := by simp; omega
      clear hc60 hc62 hc13 hc34 hc9 hc10 hc38
      by_cases hch : charB c = false
      · rw [if_pos hch] at hstep
        have hv : Hid (V = ([], k, 21)) := by
          show _ = _
          rw [hjo.out, undoL_bad _ _ hnn.out _ hstep, joinU_bad _ _ _ (by decide)]
        clear hstep
        go_wp2_with (first | (go_at_call 112; refine (RNext_as (s.extract k s.size) wr (by unfold maxLen; omega) c n hq).mono ?_; rintro e w2 ⟨rfl, hb2⟩) | (go_at_call 114; refine (RPut_any _ _).mono ?_; rintro e w4 ⟨rfl, hb4⟩))
        go_ret3
        have hz2 := hb2.size
        exact ⟨by rw [hv.out]; rfl, (hbel.trans (hb2.mono (by omega))).trans (hb4.mono (by omega))⟩
      · rw [if_neg hch] at hstep
        have hch' : charB c = true := by simpa using hch
        have HS := Lib.hid hstep
        have hpl := putF_len c
        clear hstep hch
        go_wp2_with (first | (go_at_call 112; refine (RNext_as (s.extract k s.size) wr (by unfold maxLen; omega) c n hq).mono ?_; rintro e w2 ⟨rfl, hb2⟩) | (go_at_call 114; refine (RPut_any _ _).mono ?_; rintro e w4 ⟨rfl, hb4⟩))
        have hz2 := hb2.size; have hz4 := hb4.size; skip
        go_roundw
        case rel =>
          refine ⟨k + n, acc ++ putF c, congrArg Value.string (str_app _ _), by go_num, by omega, ?_, ?_, (hbel.trans (hb2.mono (by omega))).trans (hb4.mono (by omega))⟩
          · show _ = _
            rw [hjo.out, undoL_step _ _ hnn.out _ _ HS.out, joinU_join, List.drop_drop]
          · rw [List.length_append]; omega
        case measure => simp [intOf]; omega
    · have hk : k = s.size := by omega
      have hv : Hid (V = (acc, s.size, 0)) := by
        have : s.data.toList.drop k = [] := List.drop_eq_nil_of_le (by rw [HL.out]; omega)
        show _ = _
        rw [hjo.out, this, undoL_nil, hk]; simp [joinU]
      subst hk
      go_wp2_with fail
      go_ret3
      exact ⟨by rw [hv.out]; rfl, hbel⟩

set_option maxRecDepth 100000 in
set_option maxHeartbeats 4000000 in
theorem RUndo_false (s : ByteArray) (w : World) (hs : s.size ≤ 1000000000) (V : List UInt8 × Nat × Int) (hV : Hid (V = undoL false s.data.toList)) :
    Calls Try.prog 94 #[.string s, .bool false] w (Ret w (.tuple #[.string ⟨V.1.toArray⟩, .int .i64 (V.2.1 : Nat), .int .i64 V.2.2])) := by
  go_enter Try.func94, Try.ntmps94
  go_wp2_with fail
  go_loopw [7, 8] (fun ov av wr => ∃ (k : Nat) (acc : List UInt8), ov = .string ⟨acc.toArray⟩ ∧ av = .int .i64 k ∧ k ≤ s.size ∧ Hid (V = joinU acc k (undoL false (s.data.toList.drop k))) ∧ acc.length ≤ 4 * k ∧ Below w.heap.size w wr) (fun _ av _ => s.size - (intOf av).toNat)
  case atStart =>
    refine ⟨0, [], rfl, rfl, Nat.zero_le _, ?_, by simp, Below.refl _ _⟩
    show _ = _
    rw [hV.out, List.drop_zero, joinU_nil _ (undoL_shape _ _)]
  case round =>
    obtain ⟨k, acc, rfl, rfl, hks, hjo, hal, hbel⟩ := hrel
    have hwr := hbel.size
    have HL := Lib.hid (size_toList s)
    by_cases hend : k < s.size
    · have hx : Hid ((s.extract k s.size).data.toList = s.data.toList.drop k) := Lib.extract_to_end s k
      have hxs : (s.extract k s.size).size = s.size - k := by simp
      have hnn : Hid (s.data.toList.drop k ≠ []) := by
        intro h
        have := congrArg List.length h
        rw [List.length_drop, HL.out] at this
        simp at this; omega
      have hszl : (s.extract k s.size).size ≤ 1000000000 := by omega
      have HXS := Lib.hid hxs
      clear hxs
      obtain ⟨c, n, hq⟩ : ∃ c n, Hid (nextL (s.extract k s.size).data.toList = (c, n)) := ⟨_, _, rfl⟩
      have hle := nextL_le (s.extract k s.size).data.toList
      rw [hq.out, hx.out, List.length_drop, HL.out] at hle
      obtain ⟨hn1, hn4⟩ := hle
      simp only at hn1 hn4
      by_cases hn : n = 0
      · have hv : Hid (V = ([], k, 21)) := by
          have := stepL_no (v := false) hq.out hn
          rw [hx.out] at this
          show _ = _
          rw [hjo.out, undoL_bad _ _ hnn.out _ this, joinU_bad _ _ _ (by decide)]
        have hn0 : ((n : Int) == 0) = true := by simp [hn]
        have hnz : n ≤ 0 := by omega
        clear hn
        go_wp2_with (go_at_call 112; refine (RNext_as (s.extract k s.size) wr (by unfold maxLen; omega) c n hq).mono ?_; rintro e w2 ⟨rfl, hb2⟩)
        go_ret3
        exact ⟨by rw [hv.out]; rfl, hbel.trans (hb2.mono (by omega))⟩
      have hnp : 0 < n := by omega
      have hn0 : ((n : Int) == 0) = false := by simp [hn]
      clear hn
      by_cases hc60 : c = 60
      · subst hc60
        have hv : Hid (V = ([], k, 20)) := by
          have := stepL_lt (v := false) hq.out hnp (.inl rfl)
          rw [hx.out] at this
          show _ = _
          rw [hjo.out, undoL_bad _ _ hnn.out _ this, joinU_bad _ _ _ (by decide)]
        go_wp2_with (go_at_call 112; refine (RNext_as (s.extract k s.size) wr (by unfold maxLen; omega) 60 n hq).mono ?_; rintro e w2 ⟨rfl, hb2⟩)
        go_ret3
        exact ⟨by rw [hv.out]; rfl, hbel.trans (hb2.mono (by omega))⟩
      by_cases hc62 : c = 62
      · subst hc62
        have hv : Hid (V = ([], k, 20)) := by
          have := stepL_lt (v := false) hq.out hnp (.inr rfl)
          rw [hx.out] at this
          show _ = _
          rw [hjo.out, undoL_bad _ _ hnn.out _ this, joinU_bad _ _ _ (by decide)]
        go_wp2_with (go_at_call 112; refine (RNext_as (s.extract k s.size) wr (by unfold maxLen; omega) 62 n hq).mono ?_; rintro e w2 ⟨rfl, hb2⟩)
        go_ret3
        exact ⟨by rw [hv.out]; rfl, hbel.trans (hb2.mono (by omega))⟩
      by_cases hc13 : c = 13
      · subst hc13
        have hv : Hid (V = ([], k, 21)) := by
          have := stepL_13 (v := false) hq.out (.inl rfl)
          rw [hx.out] at this
          show _ = _
          rw [hjo.out, undoL_bad _ _ hnn.out _ this, joinU_bad _ _ _ (by decide)]
        go_wp2_with (go_at_call 112; refine (RNext_as (s.extract k s.size) wr (by unfold maxLen; omega) 13 n hq).mono ?_; rintro e w2 ⟨rfl, hb2⟩)
        go_ret3
        exact ⟨by rw [hv.out]; rfl, hbel.trans (hb2.mono (by omega))⟩
      by_cases hc38 : c = 38
      · subst hc38
        obtain ⟨c', n', hr⟩ : ∃ c' n', Hid (refL (s.extract k s.size).data.toList = (c', n')) := ⟨_, _, rfl⟩
        have hrl := refL_le (s.extract k s.size).data.toList
        rw [hr.out, hx.out, List.length_drop, HL.out] at hrl
        simp only at hrl
        have hrb := refL_bd (s.extract k s.size).data.toList
        rw [hr.out] at hrb
        obtain ⟨hrb0, hrb1⟩ := hrb
        simp only at hrb0 hrb1
        have hstep := stepL_ref (v := false) hq.out hnp hr.out
        rw [hx.out] at hstep
        by_cases hn' : n' = 0
        · rw [if_pos hn'] at hstep
          have hv : Hid (V = ([], k, 20)) := by
            show _ = _
            rw [hjo.out, undoL_bad _ _ hnn.out _ hstep, joinU_bad _ _ _ (by decide)]
          have hn0' : ((n' : Int) == 0) = true := by simp [hn']
          clear hn' hstep
          go_wp2_with (first | (go_at_call 112; refine (RNext_as (s.extract k s.size) wr (by unfold maxLen; omega) 38 n hq).mono ?_; rintro e w2 ⟨rfl, hb2⟩) | (go_at_call 113; refine (rrefer_as (s.extract k s.size) _ (by unfold maxLen; omega) c' n' hr).mono ?_; rintro e w3 ⟨rfl, hb3⟩) | (go_at_call 114; refine (RPut_any _ _).mono ?_; rintro e w4 ⟨rfl, hb4⟩))
          go_ret3
          have hz2 := hb2.size
          exact ⟨by rw [hv.out]; rfl, (hbel.trans (hb2.mono (by omega))).trans (hb3.mono (by omega))⟩
        rw [if_neg hn'] at hstep
        have hn0' : ((n' : Int) == 0) = false := by simp [hn']
        have hnp' : 0 < n' := by omega
        clear hn'
        by_cases hch : charB c' = false
        · rw [if_pos hch] at hstep
          have hv : Hid (V = ([], k, 21)) := by
            show _ = _
            rw [hjo.out, undoL_bad _ _ hnn.out _ hstep, joinU_bad _ _ _ (by decide)]
          clear hstep
          go_wp2_with (first | (go_at_call 112; refine (RNext_as (s.extract k s.size) wr (by unfold maxLen; omega) 38 n hq).mono ?_; rintro e w2 ⟨rfl, hb2⟩) | (go_at_call 113; refine (rrefer_as (s.extract k s.size) _ (by unfold maxLen; omega) c' n' hr).mono ?_; rintro e w3 ⟨rfl, hb3⟩) | (go_at_call 114; refine (RPut_any _ _).mono ?_; rintro e w4 ⟨rfl, hb4⟩))
          go_ret3
          have hz2 := hb2.size; have hz3 := hb3.size
          exact ⟨by rw [hv.out]; rfl, ((hbel.trans (hb2.mono (by omega))).trans (hb3.mono (by omega))).trans (hb4.mono (by omega))⟩
        · rw [if_neg hch] at hstep
          have hch' : charB c' = true := by simpa using hch
          have HS := Lib.hid hstep
          have hpl := putF_len c'
          clear hstep hch
          go_wp2_with (first | (go_at_call 112; refine (RNext_as (s.extract k s.size) wr (by unfold maxLen; omega) 38 n hq).mono ?_; rintro e w2 ⟨rfl, hb2⟩) | (go_at_call 113; refine (rrefer_as (s.extract k s.size) _ (by unfold maxLen; omega) c' n' hr).mono ?_; rintro e w3 ⟨rfl, hb3⟩) | (go_at_call 114; refine (RPut_any _ _).mono ?_; rintro e w4 ⟨rfl, hb4⟩))
          have hz2 := hb2.size; have hz4 := hb4.size; have hz3 := hb3.size
          go_roundw
          case rel =>
            refine ⟨k + n', acc ++ putF c', congrArg Value.string (str_app _ _), by go_num, by omega, ?_, ?_, ((hbel.trans (hb2.mono (by omega))).trans (hb3.mono (by omega))).trans (hb4.mono (by omega))⟩
            · show _ = _
              rw [hjo.out, undoL_step _ _ hnn.out _ _ HS.out, joinU_join, List.drop_drop]
            · rw [List.length_append]; omega
          case measure => simp [intOf]; omega
      have hstep := stepL_put (v := false) hq.out hnp (by omega) (by simp; omega) hc38
      rw [hx.out] at hstep
      have hb60 : (c == 60) = false := by simp; omega
      have hb62 : (c == 62) = false := by simp; omega
      have hb13 : (c == 13) = false := by simp; omega
      have hb38 : (c == 38) = false := by simp; omega
      clear hc60 hc62 hc13 hc38
      by_cases hch : charB c = false
      · rw [if_pos hch] at hstep
        have hv : Hid (V = ([], k, 21)) := by
          show _ = _
          rw [hjo.out, undoL_bad _ _ hnn.out _ hstep, joinU_bad _ _ _ (by decide)]
        clear hstep
        go_wp2_with (first | (go_at_call 112; refine (RNext_as (s.extract k s.size) wr (by unfold maxLen; omega) c n hq).mono ?_; rintro e w2 ⟨rfl, hb2⟩) | (go_at_call 114; refine (RPut_any _ _).mono ?_; rintro e w4 ⟨rfl, hb4⟩))
        go_ret3
        have hz2 := hb2.size
        exact ⟨by rw [hv.out]; rfl, (hbel.trans (hb2.mono (by omega))).trans (hb4.mono (by omega))⟩
      · rw [if_neg hch] at hstep
        have hch' : charB c = true := by simpa using hch
        have HS := Lib.hid hstep
        have hpl := putF_len c
        clear hstep hch
        go_wp2_with (first | (go_at_call 112; refine (RNext_as (s.extract k s.size) wr (by unfold maxLen; omega) c n hq).mono ?_; rintro e w2 ⟨rfl, hb2⟩) | (go_at_call 114; refine (RPut_any _ _).mono ?_; rintro e w4 ⟨rfl, hb4⟩))
        have hz2 := hb2.size; have hz4 := hb4.size; skip
        go_roundw
        case rel =>
          refine ⟨k + n, acc ++ putF c, congrArg Value.string (str_app _ _), by go_num, by omega, ?_, ?_, (hbel.trans (hb2.mono (by omega))).trans (hb4.mono (by omega))⟩
          · show _ = _
            rw [hjo.out, undoL_step _ _ hnn.out _ _ HS.out, joinU_join, List.drop_drop]
          · rw [List.length_append]; omega
        case measure => simp [intOf]; omega
    · have hk : k = s.size := by omega
      have hv : Hid (V = (acc, s.size, 0)) := by
        have : s.data.toList.drop k = [] := List.drop_eq_nil_of_le (by rw [HL.out]; omega)
        show _ = _
        rw [hjo.out, this, undoL_nil, hk]; simp [joinU]
      subst hk
      go_wp2_with fail
      go_ret3
      exact ⟨by rw [hv.out]; rfl, hbel⟩

theorem RUndo_any (s : ByteArray) (v : Bool) (w : World) (hs : s.size ≤ 1000000000) :
    Calls Try.prog 94 #[.string s, .bool v] w (Ret w (.tuple #[.string ⟨(undoL v s.data.toList).1.toArray⟩, .int .i64 ((undoL v s.data.toList).2.1 : Nat), .int .i64 (undoL v s.data.toList).2.2])) := by
  cases v
  · exact RUndo_false s w hs _ rfl
  · exact RUndo_true s w hs _ rfl
end Go.Proofs.Ythifddkmbjnncaa

/-
  The document's reader of tokens: the walks of text and end.
-/
namespace Go.Proofs.Ythifddkmbjnncaa
open Go.RowKit

/-- a state's cells -/
def stC (at_ kind tat : Int) (name text : List UInt8) (A : Option Addr) (n c : Nat) (bad e : Int) : Array Value := #[.int .i64 at_, .int .i64 kind, .int .i64 tat, .string ⟨name.toArray⟩, .string ⟨text.toArray⟩, .slice A n c, .int .i64 bad, .int .i64 e]
def zeroSt : Array Value := #[.int .i64 0, .int .i64 0, .int .i64 0, .string ⟨#[]⟩, .string ⟨#[]⟩, .slice none 0 0, .int .i64 0, .int .i64 0]
theorem stC_one (at_ kind tat : Int) (name text : List UInt8) (A : Option Addr) (n c : Nat) (bad e : Int) : (stC at_ kind tat name text A n c bad e).all (·.oneCell') = true := by simp [stC, Value.oneCell']

/-- what a reading leaves: q, where the told places are counted from; p, where the token begins -/
def StPost (w : World) (q p : Nat) (V : Told TokD) (e : Ending) (w' : World) : Prop :=
  Below w.heap.size w w' ∧ match V with
  | .ok t n => ∃ A c, e = .returned (.agg (stC (q + n : Nat) t.kind p t.name t.text A t.attrs.length c 0 0)) ∧ AttrsOwn w' w.heap.size A c t.attrs
  | .bad k c => e = .returned (.agg (stC 0 0 0 [] [] none 0 0 (q + k : Nat) c))

theorem RUndo_at (s : ByteArray) (v : Bool) (w : World) (hs : s.size ≤ 1000000000) (o : List UInt8) (k : Nat) (e : Int) (h : Hid (undoL v s.data.toList = (o, k, e))) :
    Calls Try.prog 94 #[.string s, .bool v] w (Ret w (.tuple #[.string ⟨o.toArray⟩, .int .i64 (k : Nat), .int .i64 e])) := by
  have := RUndo_any s v w hs
  rw [h.out] at this
  exact this
theorem blk_below {w w' : World} {g : Nat} {o : Obj} (h : Below w.heap.size w w') (ho : w.heap[g]? = some o) : w'.heap[g]? = some o := by rw [h.block g (Array.getElem?_eq_some_iff.1 ho).1]; exact ho
theorem below_stored {B g : Nat} {w0 w : World} (hb : Below B w0 w) (hBg : B ≤ g) (cs : Array Value) : Below B w0 (w.setRow g cs) :=
  ⟨hb.os, hb.tape, hb.output, by rw [setRow_size]; exact hb.size, fun k hk => (setRow_other _ _ _ _ (by omega)).trans (hb.block k hk)⟩



set_option maxRecDepth 100000 in
set_option maxHeartbeats 2000000 in
theorem rtext_any (s : ByteArray) (p : Nat) (w : World) (hp : p ≤ s.size) (hs : s.size ≤ 1000000000) (V : Told TokD) (hV : Hid (textT (s.data.toList.drop p) = V)) :
    Calls Try.prog 65 #[.string s, .int .i64 p] w (StPost w p p V) := by
  have HL := Lib.hid (size_toList s)
  obtain ⟨t, ht⟩ : ∃ t, Hid ((s.data.toList.drop p).takeWhile (· != 60) = t) := ⟨_, rfl⟩
  obtain ⟨k, hk⟩ : ∃ k, Hid (p + t.length = k) := ⟨_, rfl⟩
  have hkl : k ≤ s.size := by
    have := takeWhile_len (· != 60) (s.data.toList.drop p)
    rw [ht.out, List.length_drop, HL.out] at this
    have := hk.out
    omega
  have hx : (s.extract p k).data.toList = t := by
    rw [Lib.extract_data]
    have h2 := span_word (s.data.toList.drop p) (· != 60)
    rw [ht.out] at h2
    rw [show k - p = t.length by have := hk.out; omega]
    conv => lhs; rw [h2]
    rw [List.take_append_of_le_length (Nat.le_refl _), List.take_length]
  obtain ⟨u, m, e, hu⟩ : ∃ u m e, Hid (undoL false t = (u, m, e)) := ⟨_, _, _, rfl⟩
  have hU : Hid (undoL false (s.extract p k).data.toList = (u, m, e)) := by show _ = _; rw [hx]; exact hu.out
  have hxs : (s.extract p k).size ≤ 1000000000 := by rw [ByteArray.size_extract]; omega
  have HXS := Lib.hid hxs
  have hm1 : m ≤ t.length := by have := undoL_le false t; rw [hu.out] at this; exact this
  have i0 : (0 : Int) ≤ (p : Int) := by omega
  have i1 : (p : Int) ≤ k := by have := hk.out; omega
  have i2 : (k : Int) ≤ s.size := by omega
  have hmb : (p : Int) + m ≤ s.size := by have := hk.out; omega
  have hfind : Hid (p + ((s.data.toList.drop p).takeWhile (· != 60)).length = k) := by show _ = _; rw [ht.out]; exact hk.out
  have hVT := Lib.hid (textT_of ht.out hu.out)
  clear hx hxs hm1
  by_cases he : e = 0
  · subst he
    by_cases hl : 1500 < u.length
    · have hl' : (1500 : Int) < u.length := by omega
      have HV : Hid (V = .bad 0 34) := by show _ = _; rw [← hV.out, hVT.out, if_neg (by simp), if_pos hl]
      clear hl
      go_enter Try.func65, Try.ntmps65
      go_wp2_with fail
      obtain ⟨W1, hW1⟩ : ∃ W1, Hid (W1 = w.alloc (.cells zeroSt 94)) := ⟨_, rfl⟩
      change Calls _ _ _ (w.alloc (.cells zeroSt 94)) _
      rw [← hW1.out]
      have hb1 : Below w.heap.size w W1 := by rw [hW1.out]; exact (Below.refl _ w).alloc (Nat.le_refl _) _
      have HT1 : Hid (W1.heap[w.heap.size]? = some (.cells zeroSt 94 (0, 0))) := by show _ = _; rw [hW1.out]; exact heap_alloc_new w _
      refine (rfind_any s p 60 W1 hp hs k hfind).mono ?_
      rintro e w2 ⟨rfl, hb2⟩
      go_wp2_with fail
      refine (RUndo_at _ false w2 HXS.out u m 0 hU).mono ?_
      rintro e w3 ⟨rfl, hb3⟩
      go_wp2_with fail
      refine (rfails_any p 34 w3).mono ?_
      rintro e w4 ⟨rfl, hb4⟩
      have HT4 := Lib.hid (blk_below hb4 (blk_below hb3 (blk_below hb2 HT1.out)))
      go_wp2_with (refine wpList_store_row rfl 94 (.tmp 4) (.tmp 32) rfl w.heap.size (stC 0 0 0 [] [] none 0 0 p 34) rfl rfl 94 zeroSt HT4.out (by kernel_rfl) rfl (stC_one _ _ _ _ _ _ _ _ _ _) ?_)
      try simp only [Exit.inBlock, Exit.then]
      refine bodyPost_ret (results_cell_row Try.results65 _ _ w.heap.size 94 (stC 0 0 0 [] [] none 0 0 p 34) (0, 0) _ rfl (setRow_heap _ _ _ _ _ _ HT4.out) Try.underlying94 rfl (by kernel_rfl)) rfl ?_
      rw [HV.out]
      exact ⟨below_stored (hb1.trans ((hb2.trans ((hb3.trans (hb4.mono hb3.size)).mono hb2.size)).mono hb1.size)) (Nat.le_refl _) _, rfl⟩
    · have hl' : (u.length : Int) ≤ 1500 := by omega
      have HV : Hid (V = .ok ⟨4, [], u, []⟩ t.length) := by show _ = _; rw [← hV.out, hVT.out, if_neg (by simp), if_neg hl]
      clear hl
      go_enter Try.func65, Try.ntmps65
      go_wp2_with fail
      obtain ⟨W1, hW1⟩ : ∃ W1, Hid (W1 = w.alloc (.cells zeroSt 94)) := ⟨_, rfl⟩
      change Calls _ _ _ (w.alloc (.cells zeroSt 94)) _
      rw [← hW1.out]
      have hb1 : Below w.heap.size w W1 := by rw [hW1.out]; exact (Below.refl _ w).alloc (Nat.le_refl _) _
      have HT1 : Hid (W1.heap[w.heap.size]? = some (.cells zeroSt 94 (0, 0))) := by show _ = _; rw [hW1.out]; exact heap_alloc_new w _
      refine (rfind_any s p 60 W1 hp hs k hfind).mono ?_
      rintro e w2 ⟨rfl, hb2⟩
      go_wp2_with fail
      refine (RUndo_at _ false w2 HXS.out u m 0 hU).mono ?_
      rintro e w3 ⟨rfl, hb3⟩
      have HT4 := Lib.hid (blk_below hb3 (blk_below hb2 HT1.out))
      go_wp2_with (refine wpList_store_row rfl 94 (.tmp 4) (.tmp 37) rfl w.heap.size (stC k 4 p [] u none 0 0 0 0) rfl rfl 94 zeroSt HT4.out (by kernel_rfl) rfl (stC_one _ _ _ _ _ _ _ _ _ _) ?_)
      try simp only [Exit.inBlock, Exit.then]
      refine bodyPost_ret (results_cell_row Try.results65 _ _ w.heap.size 94 (stC k 4 p [] u none 0 0 0 0) (0, 0) _ rfl (setRow_heap _ _ _ _ _ _ HT4.out) Try.underlying94 rfl (by kernel_rfl)) rfl ?_
      rw [HV.out]
      refine ⟨below_stored (hb1.trans ((hb2.trans (hb3.mono hb2.size)).mono hb1.size)) (Nat.le_refl _) _, none, 0, ?_, World.ownsRow_nil _ _ _ _⟩
      rw [hk.out]; rfl
  · have he1 : (e != 0) = true := by simpa using he
    have HV : Hid (V = .bad m e) := by show _ = _; rw [← hV.out, hVT.out, if_pos he]
    clear he
    go_enter Try.func65, Try.ntmps65
    go_wp2_with fail
    obtain ⟨W1, hW1⟩ : ∃ W1, Hid (W1 = w.alloc (.cells zeroSt 94)) := ⟨_, rfl⟩
    change Calls _ _ _ (w.alloc (.cells zeroSt 94)) _
    rw [← hW1.out]
    have hb1 : Below w.heap.size w W1 := by rw [hW1.out]; exact (Below.refl _ w).alloc (Nat.le_refl _) _
    have HT1 : Hid (W1.heap[w.heap.size]? = some (.cells zeroSt 94 (0, 0))) := by show _ = _; rw [hW1.out]; exact heap_alloc_new w _
    refine (rfind_any s p 60 W1 hp hs k hfind).mono ?_
    rintro e w2 ⟨rfl, hb2⟩
    go_wp2_with fail
    refine (RUndo_at _ false w2 HXS.out u m _ hU).mono ?_
    rintro e3 w3 ⟨rfl, hb3⟩
    go_wp2_with fail
    refine (rfails_any _ _ w3).mono ?_
    rintro e4 w4 ⟨rfl, hb4⟩
    have HT4 := Lib.hid (blk_below hb4 (blk_below hb3 (blk_below hb2 HT1.out)))
    rename Int => er
    go_wp2_with (refine wpList_store_row rfl 94 (.tmp 4) (.tmp 27) rfl w.heap.size (stC 0 0 0 [] [] none 0 0 ((p : Int) + m) er) rfl rfl 94 zeroSt HT4.out (by kernel_rfl) rfl (stC_one _ _ _ _ _ _ _ _ _ _) ?_)
    try simp only [Exit.inBlock, Exit.then]
    refine bodyPost_ret (results_cell_row Try.results65 _ _ w.heap.size 94 (stC 0 0 0 [] [] none 0 0 ((p : Int) + m) er) (0, 0) _ rfl (setRow_heap _ _ _ _ _ _ HT4.out) Try.underlying94 rfl (by kernel_rfl)) rfl ?_
    rw [HV.out]
    exact ⟨below_stored (hb1.trans ((hb2.trans ((hb3.trans (hb4.mono hb3.size)).mono hb2.size)).mono hb1.size)) (Nat.le_refl _) _, rfl⟩

set_option maxRecDepth 100000 in
set_option maxHeartbeats 2000000 in
theorem rend_any (s : ByteArray) (p : Nat) (w : World) (hp : p + 2 ≤ s.size) (hs : s.size ≤ 1000000000) (V : Told TokD) (hV : Hid (endT (s.data.toList.drop (p + 2)) = V)) :
    Calls Try.prog 63 #[.string s, .int .i64 p] w (StPost w (p + 2) p V) := by
  have HL := Lib.hid (size_toList s)
  obtain ⟨n, hn⟩ : ∃ n, Hid (wordL (s.data.toList.drop (p + 2)) = n) := ⟨_, rfl⟩
  obtain ⟨v, hv⟩ : ∃ v, Hid (nameL n = v) := ⟨_, rfl⟩
  obtain ⟨k, hk⟩ : ∃ k, Hid (p + 2 + n.length = k) := ⟨_, rfl⟩
  have hkl : k ≤ s.size := by
    have := wordL_len (s.data.toList.drop (p + 2))
    rw [hn.out, List.length_drop, HL.out] at this
    have := hk.out
    omega
  have hword : Hid (p + 2 + (wordL (s.data.toList.drop (p + 2))).length = k) := by show _ = _; rw [hn.out]; exact hk.out
  have hx : (s.extract (p + 2) k).data.toList = n := by
    rw [Lib.extract_data]
    have h2 := span_word (s.data.toList.drop (p + 2)) nb
    have e : (s.data.toList.drop (p + 2)).takeWhile nb = n := hn.out
    rw [e] at h2
    rw [show k - (p + 2) = n.length by have := hk.out; omega]
    conv => lhs; rw [h2]
    rw [List.take_append_of_le_length (Nat.le_refl _), List.take_length]
  have hname : Hid (nameL (s.extract (p + 2) k).data.toList = v) := by show _ = _; rw [hx]; exact hv.out
  have hxe : Hid (s.extract (p + 2) k = ⟨n.toArray⟩) := by
    show _ = _
    rw [← hx]
  have hxs : (s.extract (p + 2) k).size ≤ 1000000000 := by rw [ByteArray.size_extract]; omega
  have HXS := Lib.hid hxs
  have i0 : (0 : Int) ≤ (p : Int) := by omega
  have i1 : (p : Int) + 2 ≤ k := by have := hk.out; omega
  have i2 : (k : Int) ≤ s.size := by omega
  have i3 : (p : Int) + 2 ≤ s.size := by omega
  clear hx hxs
  cases v with
  | false =>
    have HV : Hid (V = .bad 0 31) := by
      show _ = _
      rw [← hV.out]
      unfold endT
      simp only [hn.out, hv.out]
      rw [if_pos trivial]
    go_enter Try.func63, Try.ntmps63
    go_wp2_with fail
    obtain ⟨W1, hW1⟩ : ∃ W1, Hid (W1 = w.alloc (.cells zeroSt 94)) := ⟨_, rfl⟩
    change Calls _ _ _ (w.alloc (.cells zeroSt 94)) _
    rw [← hW1.out]
    have hb1 : Below w.heap.size w W1 := by rw [hW1.out]; exact (Below.refl _ w).alloc (Nat.le_refl _) _
    have HT1 : Hid (W1.heap[w.heap.size]? = some (.cells zeroSt 94 (0, 0))) := by show _ = _; rw [hW1.out]; exact heap_alloc_new w _
    refine (rword_any s (p + 2) W1 hp hs k hword).mono ?_
    rintro e w2 ⟨rfl, hb2⟩
    go_wp2_with fail
    refine (RName_any _ w2 HXS.out false hname).mono ?_
    rintro e w3 ⟨rfl, hb3⟩
    go_wp2_with fail
    refine (rfails_any _ 31 w3).mono ?_
    rintro e w4 ⟨rfl, hb4⟩
    have HT4 := Lib.hid (blk_below hb4 (blk_below hb3 (blk_below hb2 HT1.out)))
    go_wp2_with (refine wpList_store_row rfl 94 (.tmp 4) (.tmp 20) rfl w.heap.size (stC 0 0 0 [] [] none 0 0 ((p : Int) + 2) 31) rfl rfl 94 zeroSt HT4.out (by kernel_rfl) rfl (stC_one _ _ _ _ _ _ _ _ _ _) ?_)
    try simp only [Exit.inBlock, Exit.then]
    refine bodyPost_ret (results_cell_row Try.results63 _ _ w.heap.size 94 (stC 0 0 0 [] [] none 0 0 ((p : Int) + 2) 31) (0, 0) _ rfl (setRow_heap _ _ _ _ _ _ HT4.out) Try.underlying94 rfl (by kernel_rfl)) rfl ?_
    rw [HV.out]
    exact ⟨below_stored (hb1.trans ((hb2.trans ((hb3.trans (hb4.mono hb3.size)).mono hb2.size)).mono hb1.size)) (Nat.le_refl _) _, rfl⟩
  | true =>
    obtain ⟨j, hj⟩ : ∃ j, Hid (k + skipL (s.data.toList.drop k) = j) := ⟨_, rfl⟩
    have hjl : j ≤ s.size := by
      have := skipL_len (s.data.toList.drop k)
      rw [List.length_drop, HL.out] at this
      have := hj.out
      omega
    obtain ⟨m, hm⟩ : ∃ m, Hid (pre [62] (s.data.toList.drop j) = m) := ⟨_, rfl⟩
    have hjk : k ≤ j := by have := hj.out; omega
    have hVE : Hid (V = if m then .ok ⟨2, n, [], []⟩ (j - (p + 2) + 1) else .bad (j - (p + 2)) 30) := by
      show _ = _
      rw [← hV.out]
      unfold endT
      simp only [hn.out, hv.out, List.drop_drop]
      rw [if_neg (by simp), hk.out, show p + 2 + (n.length + skipL (s.data.toList.drop k)) = j by have := hj.out; have := hk.out; omega, hm.out, show n.length + skipL (s.data.toList.drop k) = j - (p + 2) by have := hj.out; have := hk.out; omega]
    have j0 : (j : Int) ≤ s.size := by omega
    cases m with
    | false =>
      have HV : Hid (V = .bad (j - (p + 2)) 30) := hVE.out.trans (if_neg (by decide))
      go_enter Try.func63, Try.ntmps63
      go_wp2_with fail
      obtain ⟨W1, hW1⟩ : ∃ W1, Hid (W1 = w.alloc (.cells zeroSt 94)) := ⟨_, rfl⟩
      change Calls _ _ _ (w.alloc (.cells zeroSt 94)) _
      rw [← hW1.out]
      have hb1 : Below w.heap.size w W1 := by rw [hW1.out]; exact (Below.refl _ w).alloc (Nat.le_refl _) _
      have HT1 : Hid (W1.heap[w.heap.size]? = some (.cells zeroSt 94 (0, 0))) := by show _ = _; rw [hW1.out]; exact heap_alloc_new w _
      refine (rword_any s (p + 2) W1 hp hs k hword).mono ?_
      rintro e w2 ⟨rfl, hb2⟩
      go_wp2_with fail
      refine (RName_any _ w2 HXS.out true hname).mono ?_
      rintro e w3 ⟨rfl, hb3⟩
      go_wp2_with fail
      refine (rskip_any s k w3 hkl hs j hj).mono ?_
      rintro e w4 ⟨rfl, hb4⟩
      go_wp2_with fail
      refine (there_any s j [62] w4 hjl hs (by decide) false hm).mono ?_
      rintro e w5 ⟨rfl, hb5⟩
      go_wp2_with fail
      refine (rfails_any _ 30 w5).mono ?_
      rintro e w6 ⟨rfl, hb6⟩
      have HT6 := Lib.hid (blk_below hb6 (blk_below hb5 (blk_below hb4 (blk_below hb3 (blk_below hb2 HT1.out)))))
      go_wp2_with (refine wpList_store_row rfl 94 (.tmp 4) (.tmp 29) rfl w.heap.size (stC 0 0 0 [] [] none 0 0 (j : Int) 30) rfl rfl 94 zeroSt HT6.out (by kernel_rfl) rfl (stC_one _ _ _ _ _ _ _ _ _ _) ?_)
      try simp only [Exit.inBlock, Exit.then]
      refine bodyPost_ret (results_cell_row Try.results63 _ _ w.heap.size 94 (stC 0 0 0 [] [] none 0 0 (j : Int) 30) (0, 0) _ rfl (setRow_heap _ _ _ _ _ _ HT6.out) Try.underlying94 rfl (by kernel_rfl)) rfl ?_
      rw [HV.out]
      refine ⟨below_stored (hb1.trans ((hb2.trans ((hb3.trans ((hb4.trans ((hb5.trans (hb6.mono hb5.size)).mono hb4.size)).mono hb3.size)).mono hb2.size)).mono hb1.size)) (Nat.le_refl _) _, ?_⟩
      show _ = Ending.returned (.agg (stC 0 0 0 [] [] none 0 0 ((p + 2 + (j - (p + 2)) : Nat) : Int) 30))
      rw [show p + 2 + (j - (p + 2)) = j by have := hk.out; omega]
    | true =>
      have HV : Hid (V = .ok ⟨2, n, [], []⟩ (j - (p + 2) + 1)) := hVE.out.trans (if_pos rfl)
      have hsl : (j : Int) + 1 ≤ 1000000001 := by omega
      go_enter Try.func63, Try.ntmps63
      go_wp2_with fail
      obtain ⟨W1, hW1⟩ : ∃ W1, Hid (W1 = w.alloc (.cells zeroSt 94)) := ⟨_, rfl⟩
      change Calls _ _ _ (w.alloc (.cells zeroSt 94)) _
      rw [← hW1.out]
      have hb1 : Below w.heap.size w W1 := by rw [hW1.out]; exact (Below.refl _ w).alloc (Nat.le_refl _) _
      have HT1 : Hid (W1.heap[w.heap.size]? = some (.cells zeroSt 94 (0, 0))) := by show _ = _; rw [hW1.out]; exact heap_alloc_new w _
      refine (rword_any s (p + 2) W1 hp hs k hword).mono ?_
      rintro e w2 ⟨rfl, hb2⟩
      go_wp2_with fail
      refine (RName_any _ w2 HXS.out true hname).mono ?_
      rintro e w3 ⟨rfl, hb3⟩
      go_wp2_with fail
      refine (rskip_any s k w3 hkl hs j hj).mono ?_
      rintro e w4 ⟨rfl, hb4⟩
      go_wp2_with fail
      refine (there_any s j [62] w4 hjl hs (by decide) true hm).mono ?_
      rintro e w5 ⟨rfl, hb5⟩
      have HT6 := Lib.hid (blk_below hb5 (blk_below hb4 (blk_below hb3 (blk_below hb2 HT1.out))))
      have hxe' := hxe.out
      go_wp2_with (refine wpList_store_row rfl 94 (.tmp 4) (.tmp 39) rfl w.heap.size (stC ((j : Int) + 1) 2 p n [] none 0 0 0 0) rfl rfl 94 zeroSt HT6.out (by kernel_rfl) rfl (stC_one _ _ _ _ _ _ _ _ _ _) ?_)
      try simp only [Exit.inBlock, Exit.then]
      refine bodyPost_ret (results_cell_row Try.results63 _ _ w.heap.size 94 (stC ((j : Int) + 1) 2 p n [] none 0 0 0 0) (0, 0) _ rfl (setRow_heap _ _ _ _ _ _ HT6.out) Try.underlying94 rfl (by kernel_rfl)) rfl ?_
      rw [HV.out]
      refine ⟨below_stored (hb1.trans ((hb2.trans ((hb3.trans ((hb4.trans (hb5.mono hb4.size)).mono hb3.size)).mono hb2.size)).mono hb1.size)) (Nat.le_refl _) _, none, 0, ?_, World.ownsRow_nil _ _ _ _⟩
      rw [show p + 2 + (j - (p + 2) + 1) = j + 1 by have := hk.out; omega]
      rfl
end Go.Proofs.Ythifddkmbjnncaa

/-
  The document's reader of tokens: the walk of with.
-/
namespace Go.Proofs.Ythifddkmbjnncaa
open Go.RowKit

def restA (a : AttrD) (done : Bool) (l : List AttrD) : List AttrD := if done then l else insA a l
def WithPost (w : World) (m : List AttrD) (e : Ending) (w' : World) : Prop := Below w.heap.size w w' ∧ ∃ A c, e = .returned (.slice A m.length c) ∧ AttrsOwn w' w.heap.size A c m



set_option maxRecDepth 100000 in
set_option maxHeartbeats 4000000 in
theorem rwith_any (l : List AttrD) (A : Option Addr) (c : Nat) (a : AttrD) (w : World) (hA : AttrsAt w w.heap.size A l) (hl : l.length ≤ 1000) (M : List AttrD) (hM : Hid (insA a l = M)) :
    Calls Try.prog 111 #[.slice A l.length c, .agg #[.string ⟨a.name.toArray⟩, .string ⟨a.value.toArray⟩]] w (WithPost w M) := by
  have HA := Lib.hid hA
  clear hA
  have hM0 : Hid ([] ++ restA a false (l.drop 0) = M) := hM
  go_enter Try.func111, Try.ntmps111
  go_wp2_with fail
  obtain ⟨W1, hW1⟩ : ∃ W1, Hid (W1 = w.alloc (.cells #[.string ⟨a.name.toArray⟩, .string ⟨a.value.toArray⟩] 44)) := ⟨_, rfl⟩
  rw [← hW1.out]
  obtain ⟨N1, hN1⟩ : ∃ N1, Hid (N1 = W1.heap.size) := ⟨_, rfl⟩
  have hz1 : w.heap.size < N1 := by rw [hN1.out, hW1.out]; simp
  have hb1 : Below w.heap.size w W1 := by rw [hW1.out]; exact (Below.refl _ w).alloc (Nat.le_refl _) _
  have HBX : Hid (∀ w', Below N1 W1 w' → w'.cell? ⟨w.heap.size, 0, none⟩ = some (.string ⟨a.name.toArray⟩) ∧ w'.cell? ⟨w.heap.size, 1, none⟩ = some (.string ⟨a.value.toArray⟩)) := fun w' hb => by
    have h0 : W1.cell? ⟨w.heap.size, 0, none⟩ = some (.string ⟨a.name.toArray⟩) := by rw [hW1.out, World.cell?_alloc_at _ _ _ _ rfl]; rfl
    have h1 : W1.cell? ⟨w.heap.size, 1, none⟩ = some (.string ⟨a.value.toArray⟩) := by rw [hW1.out, World.cell?_alloc_at _ _ _ _ rfl]; rfl
    exact ⟨(hb.cell (p := ⟨w.heap.size, 0, none⟩) hz1).trans h0, (hb.cell (p := ⟨w.heap.size, 1, none⟩) hz1).trans h1⟩
  have HB1 := Lib.hid hb1
  clear hb1
  go_loopw [5, 6, 7] (fun ov dv i wr => ∃ (k : Nat) (out : List AttrD) (done : Bool) (O : Option Addr) (oc m : Nat), k ≤ l.length ∧ ov = .slice O m oc ∧ dv = .bool done ∧ i = .int .i64 (k : Int) ∧ Hid (out.length = m) ∧ m ≤ 2 * k ∧ Hid (AttrsOwn wr N1 O oc out) ∧ Hid (out ++ restA a done (l.drop k) = M) ∧ Hid (Below N1 W1 wr)) (fun _ _ i _ => l.length - (intOf i).toNat)
  case atStart => exact ⟨0, [], false, none, 0, 0, Nat.zero_le _, rfl, rfl, rfl, rfl, by omega, World.ownsRow_nil _ _ _ _, hM0.out, (Below.refl _ _ : Below N1 W1 W1)⟩
  case round =>
    obtain ⟨k, out, done, O, oc, m, hk, rfl, rfl, rfl, hm, hmk, hown, hin, hbel⟩ := hrel
    have hzr : N1 ≤ wr.heap.size := by rw [hN1.out]; exact hbel.out.size
    by_cases hlt : k < l.length
    · obtain ⟨b, hb⟩ : ∃ b, Hid (l[k]? = some b) := ⟨l[k], List.getElem?_eq_getElem _⟩
      have hAr : AttrsAt wr w.heap.size A l := (HA.out.below HB1.out).below (hbel.out.mono (Nat.le_of_lt hz1))
      obtain ⟨ad, hAd, had, hcc⟩ := hAr (by omega)
      subst hAd
      have hwz : w.heap.size < wr.heap.size := Nat.lt_of_lt_of_le hz1 hzr
      have k0 : (0 : Int) ≤ (k : Int) := by omega
      have k1 : (k : Int) < l.length := by omega
      have HCELL : Hid (∀ w', Below N1 wr w' → w'.cell? (ad.add (k * 2)) = some (.string ⟨b.name.toArray⟩) ∧ w'.cell? ⟨(ad.add (k * 2)).block, (ad.add (k * 2)).off + 1, none⟩ = some (.string ⟨b.value.toArray⟩) ∧ w'.cell? ⟨w.heap.size, 0, none⟩ = some (.string ⟨a.name.toArray⟩) ∧ w'.cell? ⟨w.heap.size, 1, none⟩ = some (.string ⟨a.value.toArray⟩)) := fun w' hbw => by
        obtain ⟨h0, h1⟩ := hcc k b hb.out
        have hx := HBX.out w' (hbel.out.trans hbw)
        have e : ∀ p : Addr, p.block = ad.block → w'.cell? p = wr.cell? p := fun p hp => hbw.cell (by rw [hp]; exact Nat.lt_trans had hz1)
        exact ⟨(e _ (block_of_add _ _)).trans h0, (e _ (by show (ad.add _).block = _; exact block_of_add _ _)).trans h1, hx.1, hx.2⟩
      clear hcc hAr
      have hdrop := Lib.hid (drop_cons hb.out)
      cases done with
      | true =>
        have HIN : Hid ((out ++ [b]) ++ restA a true (l.drop (k + 1)) = M) := by
          show _ = _
          rw [← hin.out, hdrop.out]
          unfold restA
          simp
        clear hin
        go_wp2_with fail
        refine wp_region_held_drew (S := fun _ => True) (by kernel_rfl) trivial (fun hHeld => ?_)
        refine tks (oi := ⟨_, _, _, _, _, _⟩) (v := ?_) 0 rfl (.inl ⟨by rfl, ?_⟩) ?_; rotate_left
        · (intro wS hSw; (try dsimp only at hSw); go_simp); all_goals with_reducible rfl
        try go_frame
        refine tks (oi := ⟨_, _, _, _, _, _⟩) (v := ?_) 1 rfl (.inl ⟨by rfl, ?_⟩) ?_; rotate_left
        · (intro wS hSw; (try dsimp only at hSw); go_simp); all_goals with_reducible rfl
        try go_frame
        refine tks (oi := ⟨_, _, _, _, _, _⟩) (v := ?_) 2 rfl (.inl ⟨by rfl, ?_⟩) ?_; rotate_left
        · (intro wS hSw; (try dsimp only at hSw); go_simp); all_goals with_reducible rfl
        try go_frame
        refine tks (oi := ⟨_, _, _, _, _, _⟩) (v := undef) 3 rfl (.inr ⟨by rfl, rfl⟩) ?_
        try go_frame
        refine tks (oi := ⟨_, _, _, _, _, _⟩) (v := undef) 4 rfl (.inr ⟨by rfl, rfl⟩) ?_
        try go_frame
        refine tks (oi := ⟨_, _, _, _, _, _⟩) (v := undef) 5 rfl (.inr ⟨by rfl, rfl⟩) ?_
        try go_frame
        refine tks (oi := ⟨_, _, _, _, _, _⟩) (v := undef) 6 rfl (.inr ⟨by rfl, rfl⟩) ?_
        try go_frame
        refine tks (oi := ⟨_, _, _, _, _, _⟩) (v := undef) 7 rfl (.inr ⟨by rfl, rfl⟩) ?_
        try go_frame
        refine tks (oi := ⟨_, _, _, _, _, _⟩) (v := undef) 8 rfl (.inr ⟨by rfl, rfl⟩) ?_
        try go_frame
        refine tks (oi := ⟨_, _, _, _, _, _⟩) (v := undef) 9 rfl (.inr ⟨by rfl, rfl⟩) ?_
        try go_frame
        refine tks (oi := ⟨_, _, _, _, _, _⟩) (v := undef) 10 rfl (.inr ⟨by rfl, rfl⟩) ?_
        try go_frame
        refine tks (oi := ⟨_, _, _, _, _, _⟩) (v := ?_) 11 rfl (.inl ⟨by rfl, ?_⟩) ?_; rotate_left
        · (intro wS hSw; (try dsimp only at hSw); go_simp); all_goals with_reducible rfl
        try go_frame
        refine wpAnyH_done (by kernel_rfl) ?_ _
        clear hHeld
        obtain ⟨W3, hW3⟩ : ∃ W3, Hid (W3 = wr.drew) := ⟨_, rfl⟩
        rw [← hW3.out]
        have hb3 : Below N1 wr W3 := by rw [hW3.out]; exact (Below.refl _ _).drew
        have hown3' : W3.ownsRow N1 44 2 (.slice O m oc) m (out.flatMap cellsA) := by rw [hW3.out, ← hm.out]; exact hown.out
        have hz3 : N1 ≤ W3.heap.size := Nat.le_trans hzr hb3.size
        have hcell3 := HCELL.out _ hb3
        obtain ⟨c0, c1, _, _⟩ := hcell3
        have hown3 : W3.ownsRow N1 44 2 (.slice O m oc) m (List.flatMap cellsA out) := hown3'
        go_wp2_with (at_builtin; go_loud (refine appendS rfl (.tmp 30) (.tmp 35) 31 rfl N1 44 (.agg #[.string ByteArray.empty, .string ByteArray.empty]) 2 32 Try.underlying31 infoAttr rfl (by decide) _ m _ (cellsA b) rfl hown3 hz3 _ rfl rfl (cellsA_length _) (by intro v hv; exact cellsA_one [b] v (by simpa using hv)) (by omega) (by decide) ?_))
        intro a5 c5 w5 hown5 hb5 hz5 hg5
        have hown5' : AttrsOwn w5 N1 a5 c5 (out ++ [b]) := by
          unfold AttrsOwn
          rw [List.length_append, List.flatMap_append, hm.out]
          simpa using hown5
        clear hown5 hg5 hown3
        go_wp2_with fail
        go_roundw
        case rel => exact ⟨k + 1, out ++ [b], true, a5, c5, m + 1, by omega, by go_num, rfl, by go_num, by show _ = _; rw [List.length_append, hm.out]; rfl, by omega, hown5', HIN.out, hbel.out.trans (hb3.trans hb5)⟩
        case measure => simp [intOf]; omega
      | false =>
        obtain ⟨bv, hbv⟩ : ∃ bv, Hid (Op.bytesLess a.name b.name = bv) := ⟨_, rfl⟩
        obtain ⟨x1, hx1⟩ : ∃ x1, Op.bytesLess b.name a.name = x1 := ⟨_, rfl⟩
        obtain ⟨x2, hx2⟩ : ∃ x2, (b.name == a.name) = x2 := ⟨_, rfl⟩
        have hxx : Hid ((!x1 && !x2) = bv) := by
          show _ = _
          rw [← hx1, ← hx2, ← hbv.out]
          cases h1 : Op.bytesLess a.name b.name with
          | true =>
            have h2 : (b.name == a.name) = false := beq_eq_false_iff_ne.2 (fun e => less_ne h1 e.symm)
            rw [less_asymm h1, h2]; rfl
          | false =>
            cases h3 : Op.bytesLess b.name a.name with
            | true => rfl
            | false => rw [less_tri h3 h1]; simp
        have HS : Hid (wr.drew.cell? (ad.add (k * 2)) = some (.string ⟨b.name.toArray⟩) ∧ wr.drew.cell? ⟨w.heap.size, 0, none⟩ = some (.string ⟨a.name.toArray⟩)) := by
          have := HCELL.out _ (Below.refl N1 wr).drew
          exact ⟨this.1, this.2.2.1⟩
        go_wp2_with fail
        refine wp_region_held_drew (S := fun w' => w'.cell? (ad.add (k * 2)) = some (.string ⟨b.name.toArray⟩) ∧ w'.cell? ⟨w.heap.size, 0, none⟩ = some (.string ⟨a.name.toArray⟩)) (by kernel_rfl) HS.out (fun hHeld => ?_)
        refine tks (oi := ⟨_, _, _, _, _, _⟩) (v := ?_) 0 rfl (.inl ⟨by rfl, ?_⟩) ?_; rotate_left
        · (intro wS hSw; (try dsimp only at hSw); go_simp); all_goals with_reducible rfl
        try go_frame
        refine tks (oi := ⟨_, _, _, _, _, _⟩) (v := ?_) 1 rfl (.inl ⟨by rfl, ?_⟩) ?_; rotate_left
        · (intro wS hSw; (try dsimp only at hSw); go_simp); all_goals with_reducible rfl
        try go_frame
        refine tks (oi := ⟨_, _, _, _, _, _⟩) (v := ?_) 2 rfl (.inl ⟨by rfl, ?_⟩) ?_; rotate_left
        · (intro wS hSw; (try dsimp only at hSw); go_simp); all_goals with_reducible rfl
        try go_frame
        refine tks (oi := ⟨_, _, _, _, _, _⟩) (v := ?_) 3 rfl (.inl ⟨by rfl, ?_⟩) ?_; rotate_left
        · (intro wS hSw; (try dsimp only at hSw); go_simp); all_goals with_reducible rfl
        try go_frame
        refine tks (oi := ⟨_, _, _, _, _, _⟩) (v := ?_) 4 rfl (.inl ⟨by rfl, ?_⟩) ?_; rotate_left
        · (intro wS hSw; (try dsimp only at hSw); go_simp); all_goals with_reducible rfl
        try go_frame
        refine tks (oi := ⟨_, _, _, _, _, _⟩) (v := ?_) 5 rfl (.inl ⟨by rfl, ?_⟩) ?_; rotate_left
        · (intro wS hSw; (try dsimp only at hSw); go_simp); all_goals with_reducible rfl
        try go_frame
        refine tks (oi := ⟨_, _, _, _, _, _⟩) (v := ?_) 6 rfl (.inl ⟨by rfl, ?_⟩) ?_; rotate_left
        · (intro wS hSw; (try dsimp only at hSw); go_simp); all_goals with_reducible rfl
        try go_frame
        refine tks (oi := ⟨_, _, _, _, _, _⟩) (v := ?_) 7 rfl (.inl ⟨by rfl, ?_⟩) ?_; rotate_left
        · (intro wS hSw; (try dsimp only at hSw); go_simp); all_goals with_reducible rfl
        try go_frame
        refine tks (oi := ⟨_, _, _, _, _, _⟩) (v := ?_) 8 rfl (.inl ⟨by rfl, ?_⟩) ?_; rotate_left
        · (intro wS hSw; (try dsimp only at hSw); go_simp); all_goals with_reducible rfl
        try go_frame
        refine tks (oi := ⟨_, _, _, _, _, _⟩) (v := ?_) 9 rfl (.inl ⟨by rfl, ?_⟩) ?_; rotate_left
        · (intro wS hSw; (try dsimp only at hSw); go_simp); all_goals with_reducible rfl
        try go_frame
        refine tks (oi := ⟨_, _, _, _, _, _⟩) (v := ?_) 10 rfl (.inl ⟨by rfl, ?_⟩) ?_; rotate_left
        · (intro wS hSw; (try dsimp only at hSw); go_simp); all_goals with_reducible rfl
        try go_frame
        refine tks (oi := ⟨_, _, _, _, _, _⟩) (v := ?_) 11 rfl (.inl ⟨by rfl, ?_⟩) ?_; rotate_left
        · (intro wS hSw; (try dsimp only at hSw); go_simp); all_goals with_reducible rfl
        try go_frame
        refine wpAnyH_done (by kernel_rfl) ?_ _
        clear hHeld hx1 hx2
        rw [hxx.out]
        obtain ⟨W3, hW3⟩ : ∃ W3, Hid (W3 = wr.drew) := ⟨_, rfl⟩
        rw [← hW3.out]
        have hb3 : Below N1 wr W3 := by rw [hW3.out]; exact (Below.refl _ _).drew
        have hown3' : W3.ownsRow N1 44 2 (.slice O m oc) m (out.flatMap cellsA) := by rw [hW3.out, ← hm.out]; exact hown.out
        have hz3 : N1 ≤ W3.heap.size := Nat.le_trans hzr hb3.size
        cases bv with
        | false =>
          have HIN : Hid ((out ++ [b]) ++ restA a false (l.drop (k + 1)) = M) := by
            show _ = _
            rw [← hin.out, hdrop.out]
            unfold restA
            simp [insA, hbv.out]
          clear hin hbv
          have hcell3 := HCELL.out _ hb3
          obtain ⟨c0, c1, _, _⟩ := hcell3
          have hown3 : W3.ownsRow N1 44 2 (.slice O m oc) m (List.flatMap cellsA out) := hown3'
          go_wp2_with (at_builtin; go_loud (refine appendS rfl (.tmp 30) (.tmp 35) 31 rfl N1 44 (.agg #[.string ByteArray.empty, .string ByteArray.empty]) 2 32 Try.underlying31 infoAttr rfl (by decide) _ m _ (cellsA b) rfl hown3 hz3 _ rfl rfl (cellsA_length _) (by intro v hv; exact cellsA_one [b] v (by simpa using hv)) (by omega) (by decide) ?_))
          intro a5 c5 w5 hown5 hb5 hz5 hg5
          have hown5' : AttrsOwn w5 N1 a5 c5 (out ++ [b]) := by
            unfold AttrsOwn
            rw [List.length_append, List.flatMap_append, hm.out]
            simpa using hown5
          clear hown5 hg5 hown3
          go_wp2_with fail
          go_roundw
          case rel => exact ⟨k + 1, out ++ [b], false, a5, c5, m + 1, by omega, by go_num, rfl, by go_num, by show _ = _; rw [List.length_append, hm.out]; rfl, by omega, hown5', HIN.out, hbel.out.trans (hb3.trans hb5)⟩
          case measure => simp [intOf]; omega
        | true =>
          have HIN : Hid ((out ++ [a] ++ [b]) ++ restA a true (l.drop (k + 1)) = M) := by
            show _ = _
            rw [← hin.out, hdrop.out]
            unfold restA
            simp [insA, hbv.out]
          clear hin hbv
          have hcellA := HCELL.out _ hb3
          obtain ⟨_, _, d0, d1⟩ := hcellA
          go_wp2_with (at_builtin; go_loud (refine appendS rfl (.tmp 26) (.tmp 28) 31 rfl N1 44 (.agg #[.string ByteArray.empty, .string ByteArray.empty]) 2 32 Try.underlying31 infoAttr rfl (by decide) _ m _ (cellsA a) rfl hown3' hz3 _ rfl rfl (cellsA_length _) (by intro v hv; exact cellsA_one [a] v (by simpa using hv)) (by omega) (by decide) ?_))
          intro a4 c4 w4 hown4 hb4 hz4 hg4
          have hown4' : w4.ownsRow N1 44 2 (.slice a4 (m + 1) c4) (m + 1) ((out ++ [a]).flatMap cellsA) := by
            rw [List.flatMap_append]
            simpa using hown4
          have hb34 : Below N1 wr w4 := hb3.trans hb4
          have hz4' : N1 ≤ w4.heap.size := Nat.le_trans hzr hb34.size
          have hlen4 : Hid ((out ++ [a]).length = m + 1) := by show _ = _; rw [List.length_append, hm.out]; rfl
          clear hown4 hg4 d0 d1
          have hcell3 := HCELL.out _ hb34
          obtain ⟨c0, c1, _, _⟩ := hcell3
          have hown3 : w4.ownsRow N1 44 2 (.slice a4 (m + 1) c4) (m + 1) (List.flatMap cellsA (out ++ [a])) := hown4'
          go_wp2_with (at_builtin; go_loud (refine appendS rfl (.tmp 30) (.tmp 35) 31 rfl N1 44 (.agg #[.string ByteArray.empty, .string ByteArray.empty]) 2 32 Try.underlying31 infoAttr rfl (by decide) _ (m + 1) _ (cellsA b) rfl hown3 hz4' _ rfl rfl (cellsA_length _) (by intro v hv; exact cellsA_one [b] v (by simpa using hv)) (by omega) (by decide) ?_))
          intro a5 c5 w5 hown5 hb5 hz5 hg5
          have hown5' : AttrsOwn w5 N1 a5 c5 ((out ++ [a]) ++ [b]) := by
            unfold AttrsOwn
            rw [List.length_append, List.flatMap_append, hlen4.out]
            simpa using hown5
          clear hown5 hg5 hown3
          go_wp2_with fail
          go_roundw
          case rel => exact ⟨k + 1, (out ++ [a]) ++ [b], true, a5, c5, (m + 1) + 1, by omega, by go_num, rfl, by go_num, by show _ = _; rw [List.length_append, hlen4.out]; rfl, by omega, hown5', HIN.out, hbel.out.trans (hb34.trans hb5)⟩
          case measure => simp [intOf]; omega
    · have hd : Hid (l.drop k = []) := List.drop_eq_nil_of_le (by omega)
      have k1 : (l.length : Int) ≤ (k : Int) := by omega
      have hbw : Below w.heap.size w wr := HB1.out.trans (hbel.out.mono (Nat.le_of_lt hz1))
      cases done with
      | true =>
        have HO : Hid (out = M) := by
          show _ = _
          have := hin.out
          rw [hd.out] at this
          unfold restA at this
          simpa using this
        go_wp2_with fail
        go_ret
        exact ⟨hbw, O, oc, by rw [← HO.out, hm.out]; rfl, by rw [← HO.out]; exact row_base hown.out (Nat.le_of_lt hz1)⟩
      | false =>
        have HO : Hid (out ++ [a] = M) := by
          show _ = _
          have := hin.out
          rw [hd.out] at this
          unfold restA at this
          simpa [insA] using this
        obtain ⟨d0, d1⟩ := HBX.out wr hbel.out
        have hown3' : wr.ownsRow N1 44 2 (.slice O m oc) m (out.flatMap cellsA) := by rw [← hm.out]; exact hown.out
        go_wp2_with (at_builtin; go_loud (refine appendS rfl (.tmp 39) (.tmp 41) 31 rfl N1 44 (.agg #[.string ByteArray.empty, .string ByteArray.empty]) 2 32 Try.underlying31 infoAttr rfl (by decide) _ m _ (cellsA a) rfl hown3' hzr _ rfl rfl (cellsA_length _) (by intro v hv; exact cellsA_one [a] v (by simpa using hv)) (by omega) (by decide) ?_))
        intro a4 c4 w4 hown4 hb4 hz4 hg4
        have hown4' : w4.ownsRow N1 44 2 (.slice a4 (m + 1) c4) (m + 1) ((out ++ [a]).flatMap cellsA) := by
          rw [List.flatMap_append]
          simpa using hown4
        have hml : Hid (m + 1 = M.length) := by show _ = _; rw [← HO.out, List.length_append, hm.out]; rfl
        have HOW4 := Lib.hid hown4'
        clear hown4 hg4 hown4'
        go_wp2_with fail
        go_ret
        refine ⟨hbw.trans (hb4.mono (Nat.le_of_lt hz1)), a4, c4, by rw [← hml.out]; rfl, ?_⟩
        have := HOW4.out
        rw [HO.out, hml.out] at this
        exact row_base this (Nat.le_of_lt hz1)
end Go.Proofs.Ythifddkmbjnncaa
