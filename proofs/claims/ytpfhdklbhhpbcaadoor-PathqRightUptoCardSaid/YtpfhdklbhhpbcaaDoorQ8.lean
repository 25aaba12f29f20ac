/-
  Texts of this claim, joined (by a program of the claim's author): PqD, PqE, PqF.
-/
import Derived.Test.YtpfhdklbhhpbcaaDoorQ1
import Derived.Test.YtpfhdklbhhpbcaaDoorQ7
import Derived.Lib.SmallJoins
import Derived.Lib.AppendIntMem
/-
  The walk of pathq.written.
-/
namespace Go.Proofs.YtpfhdklbhhpbcaaDoor
open Go.RowKit

/-- the library's table of powers of ten is as its text lays it -/
def Tab (w : World) : Prop := Lib.TabIs Tryd.prog w "internal/strconv.uint64pow10" .u64 Lib.pow10Tab
theorem Tab.keep {w w' : World} (h : Tab w) (hb : Below w.heap.size w w') : Tab w' := Joins.tab_stays (g := 0) (by kernel_rfl) h hb (Nat.le_refl _)
theorem Value_q (s : List UInt8) (w : World) (hs : s.length ≤ 1000000000) (o : List UInt8) (ho : Hid (escV s = o)) :
    Calls Tryd.prog 28 #[.string ⟨s.toArray⟩] w (Ret w (.tuple #[.string ⟨o.toArray⟩, .bool (escL true s).isSome])) := by
  have := Value_any ⟨s.toArray⟩ w (by show s.toArray.size ≤ _; simp; omega)
  rw [← ho.out]
  exact this
theorem str_data {a : ByteArray} {l : List UInt8} (h : a.data.toList = l) : a = ⟨l.toArray⟩ := by
  obtain ⟨⟨x⟩⟩ := a
  simp at h
  subst h; rfl


theorem ndig_le (n : Nat) (h : n ≤ 9999) : Lib.nDigits n ≤ 20 := by
  rw [Lib.nDigits]
  split
  · omega
  rw [Lib.nDigits]
  split
  · omega
  rw [Lib.nDigits]
  split
  · omega
  rw [Lib.nDigits]
  split
  · omega
  · omega
set_option maxRecDepth 100000 in
set_option maxHeartbeats 4000000 in
theorem pwritten_any (p : PredD) (w : World) (hp : SmallPred p) (htab : Tab w) (hok : predB p = true) (T : List UInt8) (hT : Hid (predT p = T)) :
    Calls Tryd.prog 19 #[.agg (predC p)] w (Ret w (.string ⟨T.toArray⟩)) := by
  obtain ⟨hpn, hpv⟩ := hp
  obtain ⟨o, ho⟩ : ∃ o, Hid (escV p.value = o) := ⟨_, rfl⟩
  have HTAB := Lib.hid htab
  have hT' := hT.out
  unfold predT at hT'
  rw [ho.out] at hT'
  unfold predB at hok
  by_cases h1 : p.kind = 1
  · rw [if_pos h1] at hT' hok
    simp only [Bool.and_eq_true, decide_eq_true_eq] at hok
    have n1 := hok.1.1
    have n2 := hok.1.2
    clear hok
    have HT' := Lib.hid hT'
    have t1 : (p.kind == 1) = true := by simpa using h1
    clear h1 hT' htab
    have hol : o.length ≤ 6000000000 := by
      have := esc_fit true p.value
      have h2 : ((escL true p.value).getD []) = o := ho.out
      rw [h2] at this; omega
    obtain ⟨W1, hW1⟩ : ∃ W1, Hid (W1 = w.alloc (.cells #[.int .i64 p.kind, .int .i64 p.num, .string ⟨p.name.toArray⟩, .string ⟨p.value.toArray⟩] 39)) := ⟨_, rfl⟩
    have hb1 : Below w.heap.size w W1 := by rw [hW1.out]; exact (Below.refl _ w).alloc (Nat.le_refl _) _
    have hz1 : w.heap.size < W1.heap.size := by rw [hW1.out]; simp
    have y : ∀ (j : Nat) (u : Value), (#[.int .i64 p.kind, .int .i64 p.num, .string ⟨p.name.toArray⟩, .string ⟨p.value.toArray⟩] : Array Value)[j]? = some u → W1.cell? ⟨w.heap.size, j, none⟩ = some u := fun j u hu => by rw [hW1.out, World.cell?_alloc_at _ _ _ _ rfl]; exact hu
    have HY := Lib.hid y
    clear y
    show Calls Tryd.prog 19 #[.agg #[.int .i64 p.kind, .int .i64 p.num, .string ⟨p.name.toArray⟩, .string ⟨p.value.toArray⟩]] w _
    go_enter Tryd.func19, Tryd.ntmps19
    go_wp2_with fail
    rw [← hW1.out]
    refine (Value_q p.value W1 hpv o ho).mono ?_
    rintro e w2 ⟨rfl, hb2⟩
    have c0 : w2.cell? ⟨w.heap.size, 0, none⟩ = some (.int .i64 p.kind) := (hb2.cell hz1).trans (HY.out 0 _ rfl)
    have c1 : w2.cell? ⟨w.heap.size, 1, none⟩ = some (.int .i64 p.num) := (hb2.cell hz1).trans (HY.out 1 _ rfl)
    have c2 : w2.cell? ⟨w.heap.size, 2, none⟩ = some (.string ⟨p.name.toArray⟩) := (hb2.cell hz1).trans (HY.out 2 _ rfl)
    have HB := Lib.hid (hb1.trans (hb2.mono (Nat.le_of_lt hz1)))
    clear hb1 hb2
    have hit : Lib.itoa p.num = Lib.decDigits p.num.toNat := by unfold Lib.itoa; rw [if_neg (by omega)]
    go_wp2_with fail
    refine (Tryd.strconv_Itoa p.num (by omega) (by omega) w2 (HTAB.out.keep HB.out)).mono ?_
    rintro e w3 ⟨rfl, kk, os, hw3⟩
    have hb3 : Below w2.heap.size w2 w3 := by rw [hw3]; exact Lib.below_grow _ _ (Nat.le_refl _) _ _
    rw [hit]
    have hdl : (Lib.decDigits p.num.toNat).length ≤ 20 := by
      rw [Lib.decDigits_length]
      have : p.num.toNat ≤ 9999 := by omega
      exact ndig_le _ this
    have HB3 := Lib.hid (HB.out.trans (hb3.mono HB.out.size))
    clear hw3 hb3 c0 c1 c2
    go_wp2_with fail
    go_ret
    refine ⟨congrArg (fun a => Ending.returned (Value.string a)) (str_data ?_), HB3.out⟩
    rw [← HT'.out]; simp
  · rw [if_neg h1] at hT' hok
    have t1 : (p.kind == 1) = false := by simpa using h1
    by_cases h2 : p.kind = 2
    · rw [if_pos h2] at hT'
      have HT' := Lib.hid hT'
      have t2 : (p.kind == 2) = true := by simpa using h2
      clear h1 h2 hT' htab hok
      have hol : o.length ≤ 6000000000 := by
        have := esc_fit true p.value
        have h2 : ((escL true p.value).getD []) = o := ho.out
        rw [h2] at this; omega
      obtain ⟨W1, hW1⟩ : ∃ W1, Hid (W1 = w.alloc (.cells #[.int .i64 p.kind, .int .i64 p.num, .string ⟨p.name.toArray⟩, .string ⟨p.value.toArray⟩] 39)) := ⟨_, rfl⟩
      have hb1 : Below w.heap.size w W1 := by rw [hW1.out]; exact (Below.refl _ w).alloc (Nat.le_refl _) _
      have hz1 : w.heap.size < W1.heap.size := by rw [hW1.out]; simp
      have y : ∀ (j : Nat) (u : Value), (#[.int .i64 p.kind, .int .i64 p.num, .string ⟨p.name.toArray⟩, .string ⟨p.value.toArray⟩] : Array Value)[j]? = some u → W1.cell? ⟨w.heap.size, j, none⟩ = some u := fun j u hu => by rw [hW1.out, World.cell?_alloc_at _ _ _ _ rfl]; exact hu
      have HY := Lib.hid y
      clear y
      show Calls Tryd.prog 19 #[.agg #[.int .i64 p.kind, .int .i64 p.num, .string ⟨p.name.toArray⟩, .string ⟨p.value.toArray⟩]] w _
      go_enter Tryd.func19, Tryd.ntmps19
      go_wp2_with fail
      rw [← hW1.out]
      refine (Value_q p.value W1 hpv o ho).mono ?_
      rintro e w2 ⟨rfl, hb2⟩
      have c0 : w2.cell? ⟨w.heap.size, 0, none⟩ = some (.int .i64 p.kind) := (hb2.cell hz1).trans (HY.out 0 _ rfl)
      have c1 : w2.cell? ⟨w.heap.size, 1, none⟩ = some (.int .i64 p.num) := (hb2.cell hz1).trans (HY.out 1 _ rfl)
      have c2 : w2.cell? ⟨w.heap.size, 2, none⟩ = some (.string ⟨p.name.toArray⟩) := (hb2.cell hz1).trans (HY.out 2 _ rfl)
      have HB := Lib.hid (hb1.trans (hb2.mono (Nat.le_of_lt hz1)))
      clear hb1 hb2
      go_wp2_with fail
      go_ret
      refine ⟨congrArg (fun a => Ending.returned (Value.string a)) (str_data ?_), HB.out⟩
      rw [← HT'.out]; rfl
    · rw [if_neg h2] at hT' hok
      have t2 : (p.kind == 2) = false := by simpa using h2
      by_cases h3 : p.kind = 3
      · rw [if_pos h3] at hT'
        have HT' := Lib.hid hT'
        have t3 : (p.kind == 3) = true := by simpa using h3
        clear h1 h2 h3 hT' htab hok
        have hol : o.length ≤ 6000000000 := by
          have := esc_fit true p.value
          have h2 : ((escL true p.value).getD []) = o := ho.out
          rw [h2] at this; omega
        obtain ⟨W1, hW1⟩ : ∃ W1, Hid (W1 = w.alloc (.cells #[.int .i64 p.kind, .int .i64 p.num, .string ⟨p.name.toArray⟩, .string ⟨p.value.toArray⟩] 39)) := ⟨_, rfl⟩
        have hb1 : Below w.heap.size w W1 := by rw [hW1.out]; exact (Below.refl _ w).alloc (Nat.le_refl _) _
        have hz1 : w.heap.size < W1.heap.size := by rw [hW1.out]; simp
        have y : ∀ (j : Nat) (u : Value), (#[.int .i64 p.kind, .int .i64 p.num, .string ⟨p.name.toArray⟩, .string ⟨p.value.toArray⟩] : Array Value)[j]? = some u → W1.cell? ⟨w.heap.size, j, none⟩ = some u := fun j u hu => by rw [hW1.out, World.cell?_alloc_at _ _ _ _ rfl]; exact hu
        have HY := Lib.hid y
        clear y
        show Calls Tryd.prog 19 #[.agg #[.int .i64 p.kind, .int .i64 p.num, .string ⟨p.name.toArray⟩, .string ⟨p.value.toArray⟩]] w _
        go_enter Tryd.func19, Tryd.ntmps19
        go_wp2_with fail
        rw [← hW1.out]
        refine (Value_q p.value W1 hpv o ho).mono ?_
        rintro e w2 ⟨rfl, hb2⟩
        have c0 : w2.cell? ⟨w.heap.size, 0, none⟩ = some (.int .i64 p.kind) := (hb2.cell hz1).trans (HY.out 0 _ rfl)
        have c1 : w2.cell? ⟨w.heap.size, 1, none⟩ = some (.int .i64 p.num) := (hb2.cell hz1).trans (HY.out 1 _ rfl)
        have c2 : w2.cell? ⟨w.heap.size, 2, none⟩ = some (.string ⟨p.name.toArray⟩) := (hb2.cell hz1).trans (HY.out 2 _ rfl)
        have HB := Lib.hid (hb1.trans (hb2.mono (Nat.le_of_lt hz1)))
        clear hb1 hb2
        go_wp2_with fail
        go_ret
        refine ⟨congrArg (fun a => Ending.returned (Value.string a)) (str_data ?_), HB.out⟩
        rw [← HT'.out]; simp
      · rw [if_neg h3] at hT' hok
        have t3 : (p.kind == 3) = false := by simpa using h3
        by_cases h4 : p.kind = 4
        · rw [if_pos h4] at hT'
          have HT' := Lib.hid hT'
          have t4 : (p.kind == 4) = true := by simpa using h4
          clear h1 h2 h3 h4 hT' htab hok
          have hol : o.length ≤ 6000000000 := by
            have := esc_fit true p.value
            have h2 : ((escL true p.value).getD []) = o := ho.out
            rw [h2] at this; omega
          obtain ⟨W1, hW1⟩ : ∃ W1, Hid (W1 = w.alloc (.cells #[.int .i64 p.kind, .int .i64 p.num, .string ⟨p.name.toArray⟩, .string ⟨p.value.toArray⟩] 39)) := ⟨_, rfl⟩
          have hb1 : Below w.heap.size w W1 := by rw [hW1.out]; exact (Below.refl _ w).alloc (Nat.le_refl _) _
          have hz1 : w.heap.size < W1.heap.size := by rw [hW1.out]; simp
          have y : ∀ (j : Nat) (u : Value), (#[.int .i64 p.kind, .int .i64 p.num, .string ⟨p.name.toArray⟩, .string ⟨p.value.toArray⟩] : Array Value)[j]? = some u → W1.cell? ⟨w.heap.size, j, none⟩ = some u := fun j u hu => by rw [hW1.out, World.cell?_alloc_at _ _ _ _ rfl]; exact hu
          have HY := Lib.hid y
          clear y
          show Calls Tryd.prog 19 #[.agg #[.int .i64 p.kind, .int .i64 p.num, .string ⟨p.name.toArray⟩, .string ⟨p.value.toArray⟩]] w _
          go_enter Tryd.func19, Tryd.ntmps19
          go_wp2_with fail
          rw [← hW1.out]
          refine (Value_q p.value W1 hpv o ho).mono ?_
          rintro e w2 ⟨rfl, hb2⟩
          have c0 : w2.cell? ⟨w.heap.size, 0, none⟩ = some (.int .i64 p.kind) := (hb2.cell hz1).trans (HY.out 0 _ rfl)
          have c1 : w2.cell? ⟨w.heap.size, 1, none⟩ = some (.int .i64 p.num) := (hb2.cell hz1).trans (HY.out 1 _ rfl)
          have c2 : w2.cell? ⟨w.heap.size, 2, none⟩ = some (.string ⟨p.name.toArray⟩) := (hb2.cell hz1).trans (HY.out 2 _ rfl)
          have HB := Lib.hid (hb1.trans (hb2.mono (Nat.le_of_lt hz1)))
          clear hb1 hb2
          go_wp2_with fail
          go_ret
          refine ⟨congrArg (fun a => Ending.returned (Value.string a)) (str_data ?_), HB.out⟩
          rw [← HT'.out]; simp
        · rw [if_neg h4] at hT' hok
          have t4 : (p.kind == 4) = false := by simpa using h4
          have HT' := Lib.hid hT'
          clear h1 h2 h3 h4 hT' htab hok
          have hol : o.length ≤ 6000000000 := by
            have := esc_fit true p.value
            have h2 : ((escL true p.value).getD []) = o := ho.out
            rw [h2] at this; omega
          obtain ⟨W1, hW1⟩ : ∃ W1, Hid (W1 = w.alloc (.cells #[.int .i64 p.kind, .int .i64 p.num, .string ⟨p.name.toArray⟩, .string ⟨p.value.toArray⟩] 39)) := ⟨_, rfl⟩
          have hb1 : Below w.heap.size w W1 := by rw [hW1.out]; exact (Below.refl _ w).alloc (Nat.le_refl _) _
          have hz1 : w.heap.size < W1.heap.size := by rw [hW1.out]; simp
          have y : ∀ (j : Nat) (u : Value), (#[.int .i64 p.kind, .int .i64 p.num, .string ⟨p.name.toArray⟩, .string ⟨p.value.toArray⟩] : Array Value)[j]? = some u → W1.cell? ⟨w.heap.size, j, none⟩ = some u := fun j u hu => by rw [hW1.out, World.cell?_alloc_at _ _ _ _ rfl]; exact hu
          have HY := Lib.hid y
          clear y
          show Calls Tryd.prog 19 #[.agg #[.int .i64 p.kind, .int .i64 p.num, .string ⟨p.name.toArray⟩, .string ⟨p.value.toArray⟩]] w _
          go_enter Tryd.func19, Tryd.ntmps19
          go_wp2_with fail
          rw [← hW1.out]
          refine (Value_q p.value W1 hpv o ho).mono ?_
          rintro e w2 ⟨rfl, hb2⟩
          have c0 : w2.cell? ⟨w.heap.size, 0, none⟩ = some (.int .i64 p.kind) := (hb2.cell hz1).trans (HY.out 0 _ rfl)
          have c1 : w2.cell? ⟨w.heap.size, 1, none⟩ = some (.int .i64 p.num) := (hb2.cell hz1).trans (HY.out 1 _ rfl)
          have c2 : w2.cell? ⟨w.heap.size, 2, none⟩ = some (.string ⟨p.name.toArray⟩) := (hb2.cell hz1).trans (HY.out 2 _ rfl)
          have HB := Lib.hid (hb1.trans (hb2.mono (Nat.le_of_lt hz1)))
          clear hb1 hb2
          go_wp2_with fail
          go_ret
          refine ⟨congrArg (fun a => Ending.returned (Value.string a)) (str_data ?_), HB.out⟩
          rw [← HT'.out]; simp [tText]
end Go.Proofs.YtpfhdklbhhpbcaaDoor

/-
  The walk of pathq.Print.
-/
namespace Go.Proofs.YtpfhdklbhhpbcaaDoor
open Go.RowKit

theorem strCells_bytes (s : ByteArray) : Lib.strCells s = Lib.byteCells s.data.toList := rfl

/-- (*strings.Builder).WriteString, with what it leaves alone. -/
theorem WriteK (B b : Nat) (bs : List Value) (s : ByteArray) (w : World) (h : Lib.IsBuilderF 43 5 B b bs w) (hlen : bs.length + s.size ≤ 140737488355328) (hBw : B ≤ w.heap.size) :
    Calls Tryd.prog 17 #[.pointer (some ⟨b, 0, none⟩), .string s] w fun e w' => e = .returned (.tuple #[.int .i64 s.size, .nilIface]) ∧ (Lib.BuilderAtF 43 5 B b (.pointer (some ⟨b, 0, none⟩)) (bs ++ Lib.strCells s) w' ∧ Below B w w' ∧ Lib.OthersKept 5 (some b) w w') := Any.Builder_WriteString_k Tryd.lays166 Tryd.Builder_Extra_166 B b bs s w h hlen hBw
theorem StringK (B b : Nat) (l : List UInt8) (w : World) (h : Lib.IsBuilderF 43 5 B b (Lib.byteCells l) w) (hBw : B ≤ w.heap.size) :
    Calls Tryd.prog 20 #[.pointer (some ⟨b, 0, none⟩)] w fun e w' => e = .returned (.string ⟨l.toArray⟩) ∧ (Lib.IsBuilderF 43 5 B b (Lib.byteCells l) w' ∧ Below B w w' ∧ Lib.OthersKept 5 (some b) w w') := Any.Builder_String_any_k Tryd.lays169 Tryd.Builder_Extra_169 B b l w h hBw

theorem builderF_below {T e : TypeId} {B b : Nat} {bs : List Value} {w w' : World} (h : Lib.IsBuilderF T e B b bs w) (hb : Below w.heap.size w w') : Lib.IsBuilderF T e B b bs w' := by
  have key : ∀ p, Lib.BuilderAtF T e B b p bs w → Lib.BuilderAtF T e B b p bs w' := fun p h => by
    obtain ⟨h1, v, h2, h3, h4⟩ := h
    refine ⟨h1, v, by rw [hb.block b (Array.getElem?_eq_some_iff.1 h2).1]; exact h2, ?_, h4⟩
    refine ⟨h3.1, ?_⟩
    rcases h3.2 with h | ⟨g, cap, cur, fz, k1, k2, k3, k4⟩
    · exact .inl h
    · exact .inr ⟨g, cap, cur, fz, k1, k2, by rw [hb.block g (Array.getElem?_eq_some_iff.1 k3).1]; exact k3, k4⟩
  rcases h with h | h
  · exact .inl (key _ h)
  · exact .inr (key _ h)


def testsC : Array Value := #[.string ⟨#[]⟩, .string ⟨#[]⟩, .string ⟨#[42]⟩, .string ⟨#[116, 101, 120, 116, 40, 41]⟩, .string ⟨#[110, 111, 100, 101, 40, 41]⟩]
theorem tests_get (m : Nat) (h1 : 1 ≤ m) (h : m < 5) : testsC[m]? = some (.string ⟨(testT (m : Int)).toArray⟩) := by
  have : m = 1 ∨ m = 2 ∨ m = 3 ∨ m = 4 := by omega
  rcases this with rfl | rfl | rfl | rfl <;> rfl

/-- a query's length, as far as it matters -/
def fitQ (l : List StepD) : Prop := (queryT l).length ≤ 100000000000000

set_option maxRecDepth 100000 in
set_option maxHeartbeats 8000000 in
theorem Print_any (l : List StepD) (A : Option Addr) (c : Nat) (w : World) (hA : StepsAt w w.heap.size A l) (hs : SmallSteps l) (hfit : fitQ l) (htab : Tab w) (R : Bool) (hR : Hid (rightL l = R)) (o : List UInt8) (ho : Hid ((if R then queryT l else []) = o)) :
    Calls Tryd.prog 10 #[.slice A l.length c] w (Ret w (.tuple #[.string ⟨o.toArray⟩, .bool R])) := by
  have HA := Lib.hid hA
  have HS := Lib.hid hs
  have HTAB := Lib.hid htab
  have HFIT := Lib.hid hfit
  have hl := hs.1
  clear hA hs htab hfit
  go_enter Tryd.func10, Tryd.ntmps10
  go_wp2_with fail
  refine (Right_any l A c w HA.out HS.out R hR).mono ?_
  rintro e w2 ⟨rfl, hb2⟩
  cases R with
  | false =>
    have HO : Hid (o = []) := by show _ = _; rw [← ho.out]; rfl
    go_wp2_with fail
    go_ret2
    rw [HO.out]
    exact ⟨rfl, hb2⟩
  | true =>
    have HO : Hid (o = queryT l) := by show _ = _; rw [← ho.out]; rfl
    have hok := hR.out
    unfold rightL at hok
    simp only [Bool.and_eq_true, decide_eq_true_eq, List.all_eq_true] at hok
    have HOK := Lib.hid hok.1
    clear hok ho
    obtain ⟨b, hbq⟩ : ∃ b, Hid (w2.heap.size = b) := ⟨_, rfl⟩
    obtain ⟨W3, hW3⟩ : ∃ W3, Hid (W3 = (w2.alloc (.cells #[.pointer none, .slice none 0 0] 43)).alloc (.cells #[.string ⟨#[]⟩, .string ⟨#[]⟩, .string ⟨#[42]⟩, .string ⟨#[116, 101, 120, 116, 40, 41]⟩, .string ⟨#[110, 111, 100, 101, 40, 41]⟩] 44)) := ⟨_, rfl⟩
    have hB0 : Lib.IsBuilderF 43 5 b b (Lib.byteCells []) W3 := by
      have h0 := Lib.IsBuilderF.of (builder_new 43 5 w2)
      rw [hbq.out] at h0
      rw [hW3.out]; exact h0.alloc _
    have hT3 : W3.heap[b + 1]? = some (.cells testsC 44 (0, 0)) := by rw [hW3.out, ← hbq.out]; exact heap_alloc2_new _ _ _
    have hb3 : Below w2.heap.size w2 W3 := by rw [hW3.out]; exact ((Below.refl _ w2).alloc (Nat.le_refl _) _).alloc (by simp) _
    have hz3 : b + 1 < W3.heap.size := by rw [hW3.out, ← hbq.out]; simp
    have hwb : w.heap.size ≤ b := by rw [← hbq.out]; exact hb2.size
    have HB3 : Hid (Below w.heap.size w W3) := hb2.trans (hb3.mono hb2.size)
    go_wp2_with fail
    rw [← hW3.out, hbq.out]
    go_loopw [16] (fun i wr => ∃ (n : Nat), n ≤ l.length ∧ i = .int .i64 (n : Int) ∧ Hid (Lib.IsBuilderF 43 5 b b (Lib.byteCells (queryT (l.take n))) wr) ∧ Hid (wr.heap[b + 1]? = some (.cells testsC 44 (0, 0))) ∧ Hid (Below w.heap.size w wr)) (fun i _ => l.length - (intOf i).toNat)
    case atStart => exact ⟨0, Nat.zero_le _, by go_num, hB0, hT3, HB3.out⟩
    case round =>
      obtain ⟨n, hnl, rfl, hacc, hTt, hbel⟩ := hrel
      have j0 : (0 : Int) ≤ (n : Int) := by omega
      have hzr : b + 1 < wr.heap.size := (Array.getElem?_eq_some_iff.1 hTt.out).1
      by_cases hlt : n < l.length
      · obtain ⟨ad, rfl, _⟩ := HA.out (by omega)
        obtain ⟨s, hy⟩ : ∃ s, Hid (l[n]? = some s) := ⟨l[n], List.getElem?_eq_getElem _⟩
        obtain ⟨hb, A', c', hpa, hpc, hs0, hs1, hs2, hs3⟩ := HA.out.item hy.out
        obtain ⟨hsn, hsp, hsm⟩ := HS.out.2 s (List.mem_of_getElem? hy.out)
        have HSM := Lib.hid hsm
        have HPA := Lib.hid hpa
        have c0 : wr.cell? (ad.add (n * 4)) = some (.int .i64 s.axis) := (hbel.out.cell (by rw [block_of_add]; exact hb)).trans hs0
        have c1 : wr.cell? ⟨(ad.add (n * 4)).block, (ad.add (n * 4)).off + 1, none⟩ = some (.int .i64 s.test) := (hbel.out.cell (by show (ad.add _).block < _; rw [block_of_add]; exact hb)).trans hs1
        have c2 : wr.cell? ⟨(ad.add (n * 4)).block, (ad.add (n * 4)).off + 2, none⟩ = some (.string ⟨s.name.toArray⟩) := (hbel.out.cell (by show (ad.add _).block < _; rw [block_of_add]; exact hb)).trans hs2
        have c3 : wr.cell? ⟨(ad.add (n * 4)).block, (ad.add (n * 4)).off + 3, none⟩ = some (.slice A' s.preds.length c') := (hbel.out.cell (by show (ad.add _).block < _; rw [block_of_add]; exact hb)).trans hs3
        have j1 : (n : Int) < l.length := by omega
        have hstb := HOK.out s (List.mem_of_getElem? hy.out)
        unfold stepB at hstb
        simp only [Bool.and_eq_true, decide_eq_true_eq, List.all_eq_true] at hstb
        obtain ⟨⟨⟨⟨⟨a1, a2⟩, a3, a4⟩, _⟩, _⟩, hpb⟩ := hstb
        have HPB := Lib.hid hpb
        obtain ⟨x, hx⟩ : ∃ x : Nat, s.axis = x := ⟨s.axis.toNat, by omega⟩
        obtain ⟨m, hm⟩ : ∃ m : Nat, s.test = m := ⟨s.test.toNat, by omega⟩
        rw [hx] at c0
        rw [hm] at c1
        have hx9 : x < 9 := by omega
        have hm5 : m < 5 := by omega
        have hm1 : 1 ≤ m := by omega
        have hax : (axisT x).length ≤ 100 := by
          match x, hx9 with
          | 0, _ => decide
          | 1, _ => decide
          | 2, _ => decide
          | 3, _ => decide
          | 4, _ => decide
          | 5, _ => decide
          | 6, _ => decide
          | 7, _ => decide
          | 8, _ => decide
          | q + 9, h => omega
        have hte : (testT (m : Int)).length ≤ 100 := by
          have : m = 1 ∨ m = 2 ∨ m = 3 ∨ m = 4 := by omega
          rcases this with rfl | rfl | rfl | rfl <;> decide
        obtain ⟨hd, hhd⟩ : ∃ hd : List UInt8, Hid (([47] : List UInt8) ++ axisT x ++ testT (m : Int) ++ s.name = hd) := ⟨([47] : List UInt8) ++ axisT x ++ testT (m : Int) ++ s.name, rfl⟩
        have g1 : ¬ (9223372036854775807 < 1 + (axisT x).length) := by omega
        have g2 : ¬ (9223372036854775807 < 1 + (axisT x).length + (testT (m : Int)).length) := by omega
        have g3 : ¬ (9223372036854775807 < 1 + (axisT x).length + (testT (m : Int)).length + s.name.length) := by omega
        have hstp : stepT s = hd ++ s.preds.flatMap predT := by
          unfold stepT
          rw [← hhd.out, hx, hm]; simp
        have hsplit : queryT l = queryT (l.take n) ++ stepT s ++ queryT (l.drop (n + 1)) := by
          have : l = l.take n ++ (s :: l.drop (n + 1)) := by rw [← drop_cons hy.out, List.take_append_drop]
          conv => lhs; rw [this]
          simp [queryT]
        have hnext : Hid (queryT (l.take (n + 1)) = queryT (l.take n) ++ hd ++ s.preds.flatMap predT) := by
          show _ = _
          rw [List.take_add_one, hy.out]
          simp [queryT, hstp]
        have hlen : Hid (∀ k, (queryT (l.take n) ++ hd ++ (s.preds.take k).flatMap predT).length ≤ 100000000000000) := by
          intro k
          have h1 := HFIT.out
          unfold fitQ at h1
          rw [hsplit, hstp] at h1
          have h2 := congrArg List.length (show (s.preds.take k).flatMap predT ++ (s.preds.drop k).flatMap predT = s.preds.flatMap predT by rw [← List.flatMap_append, List.take_append_drop])
          simp only [List.length_append] at h1 h2 ⊢
          omega
        clear hstp hsplit
        have HX := Lib.hid hx
        have HM := Lib.hid hm
        have m0 : (0 : Int) ≤ (m : Int) := by omega
        have m1 : (m : Int) < 5 := by omega
        obtain ⟨W4, hW4⟩ : ∃ W4, Hid (W4 = wr.alloc (.cells #[.int .i64 x, .int .i64 m, .string ⟨s.name.toArray⟩, .slice A' s.preds.length c'] 37)) := ⟨_, rfl⟩
        have hb4 : Below wr.heap.size wr W4 := by rw [hW4.out]; exact (Below.refl _ wr).alloc (Nat.le_refl _) _
        have hz4 : wr.heap.size < W4.heap.size := by rw [hW4.out]; simp
        have y : ∀ (j : Nat) (u : Value), (#[.int .i64 x, .int .i64 m, .string ⟨s.name.toArray⟩, .slice A' s.preds.length c'] : Array Value)[j]? = some u → W4.cell? ⟨wr.heap.size, j, none⟩ = some u := fun j u hu => by rw [hW4.out, World.cell?_alloc_at _ _ _ _ rfl]; exact hu
        have HY := Lib.hid y
        have hT4 : Hid (W4.heap[b + 1]? = some (.cells testsC 44 (0, 0))) := by show _ = _; rw [hb4.block _ hzr]; exact hTt.out
        have hA4 : Hid (Lib.IsBuilderF 43 5 b b (Lib.byteCells (queryT (l.take n))) W4) := builderF_below hacc.out hb4
        have HB4 : Hid (Below w.heap.size w W4) := hbel.out.trans (hb4.mono hbel.out.size)
        have HS4 : Hid (W4.drew.cell? ⟨wr.heap.size, 0, none⟩ = some (.int .i64 x) ∧ W4.drew.cell? ⟨wr.heap.size, 1, none⟩ = some (.int .i64 m) ∧ W4.drew.cell? ⟨wr.heap.size, 2, none⟩ = some (.string ⟨s.name.toArray⟩) ∧ W4.drew.cell? ⟨b + 1, m, none⟩ = some (.string ⟨(testT (m : Int)).toArray⟩)) :=
          ⟨y 0 _ rfl, y 1 _ rfl, y 2 _ rfl, (cell_of_row hT4.out m).trans (tests_get m hm1 hm5)⟩
        clear hs0 hs1 hs2 hs3 hpa hsm hpb a1 a2 a3 a4 hx hm y
        go_wp2_with fail
        rw [← hW4.out]
        refine wp_region_held_drew (S := fun w' => w'.cell? ⟨wr.heap.size, 0, none⟩ = some (.int .i64 x) ∧ w'.cell? ⟨wr.heap.size, 1, none⟩ = some (.int .i64 m) ∧ w'.cell? ⟨wr.heap.size, 2, none⟩ = some (.string ⟨s.name.toArray⟩) ∧ w'.cell? ⟨b + 1, m, none⟩ = some (.string ⟨(testT (m : Int)).toArray⟩)) (by kernel_rfl) HS4.out (fun hHeld => ?_)
        refine tks (oi := ⟨_, _, _, _, _, _⟩) (v := ?_) 1 rfl (.inl ⟨by rfl, ?_⟩) ?_; rotate_left
        · (intro wS hSw; (try dsimp only at hSw); go_simp); all_goals with_reducible rfl
        try go_frame
        refine tks (oi := ⟨_, _, _, _, _, _⟩) (v := ?_) 2 rfl (.inl ⟨by rfl, ?_⟩) ?_; rotate_left
        · (intro wS hSw; (try dsimp only at hSw); go_simp); all_goals with_reducible rfl
        try go_frame
        refine tks (oi := ⟨_, _, _, _, _, _⟩) (v := ?_) 5 rfl (.inl ⟨by rfl, ?_⟩) ?_; rotate_left
        · (intro wS hSw; (try dsimp only at hSw); go_simp); all_goals with_reducible rfl
        try go_frame
        refine tks (oi := ⟨_, _, _, _, _, _⟩) (v := ?_) 6 rfl (.inl ⟨by rfl, ?_⟩) ?_; rotate_left
        · (intro wS hSw; (try dsimp only at hSw); go_simp); all_goals with_reducible rfl
        try go_frame
        refine tks (oi := ⟨_, _, _, _, _, _⟩) (v := ?_) 7 rfl (.inl ⟨by rfl, ?_⟩) ?_; rotate_left
        · (intro wS hSw; (try dsimp only at hSw); go_simp); all_goals with_reducible rfl
        try go_frame
        refine tks (oi := ⟨_, _, _, _, _, _⟩) (v := ?_) 8 rfl (.inl ⟨by rfl, ?_⟩) ?_; rotate_left
        · (intro wS hSw; (try dsimp only at hSw); go_simp); all_goals with_reducible rfl
        try go_frame
        refine tks (oi := ⟨_, _, _, _, _, _⟩) (v := ?_) 10 rfl (.inl ⟨by rfl, ?_⟩) ?_; rotate_left
        · (intro wS hSw; (try dsimp only at hSw); go_simp); all_goals with_reducible rfl
        try go_frame
        refine tks (oi := ⟨_, _, _, _, _, _⟩) (v := ?_) 11 rfl (.inl ⟨by rfl, ?_⟩) ?_; rotate_left
        · (intro wS hSw; (try dsimp only at hSw); go_simp); all_goals with_reducible rfl
        try go_frame
        refine wpAnyH_ready (rs := [0]) (by kernel_rfl) (by simp) ?_
        refine AllReadyH.cons (o := ⟨_, _, _, _, _, _⟩) rfl (fun K hK => ?_) AllReadyH.nil
        go_simp
        refine (axes_any _).mono ?_
        rintro e5 w5 ⟨rfl, hb5⟩
        have hb5' : Below W4.heap.size W4 w5 := ((Below.refl _ W4).drew).trans hb5
        have HB5 := Lib.hid hb5'
        have HS5 : Hid (w5.cell? ⟨wr.heap.size, 0, none⟩ = some (.int .i64 x) ∧ w5.cell? ⟨wr.heap.size, 1, none⟩ = some (.int .i64 m) ∧ w5.cell? ⟨wr.heap.size, 2, none⟩ = some (.string ⟨s.name.toArray⟩) ∧ w5.cell? ⟨b + 1, m, none⟩ = some (.string ⟨(testT (m : Int)).toArray⟩)) :=
          ⟨(hb5'.cell (p := ⟨wr.heap.size, 0, none⟩) hz4).trans HS4.out.1, (hb5'.cell (p := ⟨wr.heap.size, 1, none⟩) hz4).trans HS4.out.2.1, (hb5'.cell (p := ⟨wr.heap.size, 2, none⟩) hz4).trans HS4.out.2.2.1, (hb5'.cell (p := ⟨b + 1, m, none⟩) (by show b + 1 < _; omega)).trans HS4.out.2.2.2⟩
        clear hb5 hb5'
        go_wp2_with fail
        refine hK.out _ _ (HS5.out) (fun hHeld => ?_)
        clear hK K
        try go_frame
        refine wpAnyH_ready (rs := [3]) (by kernel_rfl) (by simp) ?_
        refine AllReadyH.cons (o := ⟨_, _, _, _, _, _⟩) rfl (fun K hK => ?_) AllReadyH.nil
        go_simp
        rw [axes_run x hx9]
        go_simp
        refine hK.out _ _ (HS5.out) (fun hHeld => ?_)
        clear hK K
        try go_frame
        refine tks (oi := ⟨_, _, _, _, _, _⟩) (v := ?_) 4 rfl (.inl ⟨by rfl, ?_⟩) ?_; rotate_left
        · (intro wS hSw; (try dsimp only at hSw); go_simp); all_goals with_reducible rfl
        try go_frame
        refine tks (oi := ⟨_, _, _, _, _, _⟩) (v := ?_) 9 rfl (.inl ⟨by rfl, ?_⟩) ?_; rotate_left
        · (intro wS hSw; (try dsimp only at hSw); go_simp); all_goals with_reducible rfl
        try go_frame
        refine tks (oi := ⟨_, _, _, _, _, _⟩) (v := ?_) 12 rfl (.inl ⟨by rfl, ?_⟩) ?_; rotate_left
        · (intro wS hSw; (try dsimp only at hSw); go_simp); all_goals with_reducible rfl
        try go_frame
        refine wpAnyH_ready (rs := [13]) (by kernel_rfl) (by simp) ?_
        refine AllReadyH.cons (o := ⟨_, _, _, _, _, _⟩) rfl (fun K hK => ?_) AllReadyH.nil
        go_simp
        have hBox : Hid (w5.heap[wr.heap.size]? = some (.cells #[.int .i64 x, .int .i64 m, .string ⟨s.name.toArray⟩, .slice A' s.preds.length c'] 37 (0, 0))) := by
          show _ = _
          rw [HB5.out.block _ hz4, hW4.out]; exact heap_alloc_new wr _
        have hT5 : Hid (w5.heap[b + 1]? = some (.cells testsC 44 (0, 0))) := by show _ = _; rw [HB5.out.block _ (by omega)]; exact hT4.out
        have hA5 : Hid (Lib.IsBuilderF 43 5 b b (Lib.byteCells (queryT (l.take n))) w5) := builderF_below hA4.out HB5.out
        have hbw5 : Hid (Below w.heap.size w w5) := HB4.out.trans (HB5.out.mono HB4.out.size)
        have hpiece : (((⟨#[47]⟩ : ByteArray) ++ ⟨(axisT x).toArray⟩ ++ ⟨(testT (m : Int)).toArray⟩ ++ ⟨s.name.toArray⟩).data.toList) = hd := by rw [← hhd.out]; simp
        have hpsz : ((⟨#[47]⟩ : ByteArray) ++ ⟨(axisT x).toArray⟩ ++ ⟨(testT (m : Int)).toArray⟩ ++ ⟨s.name.toArray⟩).size = hd.length := by rw [← hpiece, size_toList]
        have hl5 : (Lib.byteCells (queryT (l.take n))).length + ((⟨#[47]⟩ : ByteArray) ++ ⟨(axisT x).toArray⟩ ++ ⟨(testT (m : Int)).toArray⟩ ++ ⟨s.name.toArray⟩).size ≤ 140737488355328 := by
          rw [Lib.byteCells_length, hpsz]
          have := hlen.out 0
          simp only [List.length_append, List.take_zero, List.flatMap_nil, List.length_nil] at this
          omega
        have hbz5 : b ≤ w5.heap.size := by have := (Array.getElem?_eq_some_iff.1 hT5.out).1; omega
        refine (WriteK b b _ _ w5 hA5.out hl5 hbz5).mono ?_
        rintro e6 w6 ⟨rfl, hB6, hb6, hk6⟩
        have hbne : some wr.heap.size ≠ some b := by intro e; injection e with e; omega
        have hBox6 : Hid (w6.heap[wr.heap.size]? = some (.cells #[.int .i64 x, .int .i64 m, .string ⟨s.name.toArray⟩, .slice A' s.preds.length c'] 37 (0, 0))) := hk6 _ _ hBox.out hbne (fun c fz e => by injection e with _ e; exact absurd e (by decide))
        have hT6 : Hid (w6.heap[b + 1]? = some (.cells testsC 44 (0, 0))) := hk6 _ _ hT5.out (by intro e; injection e with e; omega) (fun c fz e => by injection e with _ e; exact absurd e (by decide))
        have hA6 : Hid (Lib.IsBuilderF 43 5 b b (Lib.byteCells (queryT (l.take n) ++ hd ++ (s.preds.take 0).flatMap predT)) w6) := by
          refine .inr ?_
          rw [List.take_zero, List.flatMap_nil, List.append_nil, Lib.byteCells_append, ← hpiece, ← strCells_bytes]
          exact hB6
        have hbw6 : Hid (Below w.heap.size w w6) := hbw5.out.trans (hb6.mono hwb)
        have HS6 : Hid (w6.cell? ⟨wr.heap.size, 0, none⟩ = some (.int .i64 x) ∧ w6.cell? ⟨wr.heap.size, 1, none⟩ = some (.int .i64 m) ∧ w6.cell? ⟨wr.heap.size, 2, none⟩ = some (.string ⟨s.name.toArray⟩) ∧ w6.cell? ⟨b + 1, m, none⟩ = some (.string ⟨(testT (m : Int)).toArray⟩)) :=
          ⟨cell_of_row hBox6.out 0, cell_of_row hBox6.out 1, cell_of_row hBox6.out 2, (cell_of_row hT6.out m).trans (tests_get m hm1 hm5)⟩
        clear hB6 hb6 hk6 hl5 hpsz hpiece c0 c1 c2 c3
        go_wp2_with fail
        refine hK.out _ _ (HS6.out) (fun hHeld => ?_)
        clear hK K
        try go_frame
        refine wpAnyH_done (by kernel_rfl) ?_ _
        clear hHeld
        have b3 : w6.cell? ⟨wr.heap.size, 3, none⟩ = some (.slice A' s.preds.length c') := cell_of_row hBox6.out 3
        go_wp2_with fail
        clear b3
        go_loopw [37] (fun i wq => ∃ (k : Nat), k ≤ s.preds.length ∧ i = .int .i64 (k : Int) ∧ Hid (Lib.IsBuilderF 43 5 b b (Lib.byteCells (queryT (l.take n) ++ hd ++ (s.preds.take k).flatMap predT)) wq) ∧ Hid (wq.heap[b + 1]? = some (.cells testsC 44 (0, 0))) ∧ Hid (Below w.heap.size w wq)) (fun i _ => s.preds.length - (intOf i).toNat)
        case atStart => exact ⟨0, Nat.zero_le _, by go_num, hA6.out, hT6.out, hbw6.out⟩
        case round =>
          rename_i wq0 _
          obtain ⟨k, hkl, rfl, haccq, hTq, hbq2⟩ := hrel
          have q0' : (0 : Int) ≤ (k : Int) := by omega
          have hzq : b + 1 < wr.heap.size := (Array.getElem?_eq_some_iff.1 hTq.out).1
          by_cases hkt : k < s.preds.length
          · obtain ⟨pd, rfl, hpb2, hpc2⟩ := HPA.out (by omega)
            obtain ⟨z, hz⟩ : ∃ z, Hid (s.preds[k]? = some z) := ⟨s.preds[k], List.getElem?_eq_getElem _⟩
            obtain ⟨p0, p1, p2, p3⟩ := hpc2 k z hz.out
            have q0 := (hbq2.out.cell (p := pd.add (k * 4)) (by rw [block_of_add]; exact hpb2)).trans p0
            have q1 := (hbq2.out.cell (p := ⟨(pd.add (k * 4)).block, (pd.add (k * 4)).off + 1, none⟩) (by show (pd.add _).block < _; rw [block_of_add]; exact hpb2)).trans p1
            have q2 := (hbq2.out.cell (p := ⟨(pd.add (k * 4)).block, (pd.add (k * 4)).off + 2, none⟩) (by show (pd.add _).block < _; rw [block_of_add]; exact hpb2)).trans p2
            have q3 := (hbq2.out.cell (p := ⟨(pd.add (k * 4)).block, (pd.add (k * 4)).off + 3, none⟩) (by show (pd.add _).block < _; rw [block_of_add]; exact hpb2)).trans p3
            have k1 : (k : Int) < s.preds.length := by omega
            obtain ⟨T, hT⟩ : ∃ T, Hid (predT z = T) := ⟨_, rfl⟩
            have hzm := List.mem_of_getElem? hz.out
            have hnx : (s.preds.take (k + 1)).flatMap predT = (s.preds.take k).flatMap predT ++ T := by
              rw [List.take_add_one, hz.out, List.flatMap_append, ← hT.out]; simp
            have HNX := Lib.hid hnx
            have hlk := hlen.out (k + 1)
            rw [hnx] at hlk
            clear p0 p1 p2 p3 hpc2 hnx
            go_wp2_with fail
            refine (pwritten_any z _ (HSM.out z hzm) ((HTAB.out.keep hbq2.out).keep ((Below.refl _ _).alloc (Nat.le_refl _) _)) (HPB.out z hzm) T hT).mono ?_
            rintro e8 w8 ⟨rfl, hb8⟩
            clear q0 q1 q2 q3
            have hb8' : Below wr.heap.size wr w8 := ((Below.refl _ wr).alloc (Nat.le_refl _) _).trans (hb8.mono (by simp))
            have hA8 : Hid (Lib.IsBuilderF 43 5 b b (Lib.byteCells (queryT (l.take n) ++ hd ++ (s.preds.take k).flatMap predT)) w8) := builderF_below haccq.out hb8'
            have hT8 : Hid (w8.heap[b + 1]? = some (.cells testsC 44 (0, 0))) := by show _ = _; rw [hb8'.block _ hzq]; exact hTq.out
            have hbw8 : Hid (Below w.heap.size w w8) := hbq2.out.trans (hb8'.mono hbq2.out.size)
            have hbz8 : b ≤ w8.heap.size := by have := (Array.getElem?_eq_some_iff.1 hT8.out).1; omega
            have hl8 : (Lib.byteCells (queryT (l.take n) ++ hd ++ (s.preds.take k).flatMap predT)).length + (⟨T.toArray⟩ : ByteArray).size ≤ 140737488355328 := by
              rw [Lib.byteCells_length, ← size_toList]
              simp only [List.length_append] at hlk ⊢
              show _ + T.length ≤ _
              omega
            clear hb8 hb8'
            go_wp2_with fail
            refine (WriteK b b _ ⟨T.toArray⟩ w8 hA8.out hl8 hbz8).mono ?_
            rintro e9 w9 ⟨rfl, hB9, hb9, hk9⟩
            go_wp2_with fail
            go_roundw
            case rel =>
              refine ⟨k + 1, by omega, by go_num, ?_, hk9 _ _ hT8.out (by intro e; injection e with e; omega) (fun c fz e => by injection e with _ e; exact absurd e (by decide)), hbw8.out.trans (hb9.mono hwb)⟩
              refine .inr ?_
              rw [HNX.out, ← List.append_assoc, Lib.byteCells_append]
              exact hB9
            case measure => simp [intOf]; omega
          · have hk' : k = s.preds.length := by omega
            have k1 : (s.preds.length : Int) ≤ k := by omega
            have hA9 : Hid (Lib.IsBuilderF 43 5 b b (Lib.byteCells (queryT (l.take (n + 1)))) wr) := by
              show Lib.IsBuilderF _ _ _ _ _ _
              have := haccq.out
              rw [hk', List.take_length, ← hnext.out] at this
              exact this
            clear hk' haccq
            go_wp2_with fail
            go_roundw
            case rel => exact ⟨n + 1, by omega, by go_num, hA9.out, hTq.out, hbq2.out⟩
            case measure => simp [intOf]; omega
      · have hn' : n = l.length := by omega
        have j1 : (l.length : Int) ≤ n := by omega
        have hA9 : Hid (Lib.IsBuilderF 43 5 b b (Lib.byteCells o) wr) := by
          show Lib.IsBuilderF _ _ _ _ _ _
          have := hacc.out
          rw [hn', List.take_length, ← HO.out] at this
          exact this
        clear hn' hacc
        go_wp2_with fail
        refine (StringK b b o wr hA9.out (by omega)).mono ?_
        rintro e9 w9 ⟨rfl, _, hb9, _⟩
        go_wp2_with fail
        go_ret2
        exact ⟨rfl, hbel.out.trans (hb9.mono hwb)⟩
end Go.Proofs.YtpfhdklbhhpbcaaDoor

/-
  The walk of law07.alive; the law PathqPlaces.
-/
namespace Go.Proofs.YtpfhdklbhhpbcaaDoor
open Go.RowKit

/-! The number of what is amiss. -/
theorem stepL_code {v : Bool} {l : List UInt8} {e : Int} (h : stepL v l = .inl e) : e ≤ 30 := by
  unfold stepL at h
  simp only at h
  split at h
  · injection h with h; omega
  split at h
  · injection h with h; omega
  generalize (if (nextL l).1 = 38 then refL l else nextL l) = q at h
  split at h
  · injection h with h; omega
  split at h
  · injection h with h; omega
  · cases h
theorem undoF_code (v : Bool) : ∀ (f : Nat) (l : List UInt8), (undoF v f l).2.2 ≤ 30
  | 0, _ => by simp [undoF]
  | f + 1, l => by
    rw [undoF]
    split
    · simp
    · cases hs : stepL v l with
      | inl e => exact stepL_code hs
      | inr q =>
        obtain ⟨t, n⟩ := q
        simp only
        have := undoF_code v f (l.drop n)
        split
        · simp
        · exact this
def codeOk {α : Type} : Told α → Prop
  | .ok _ _ => True
  | .bad _ e => e ≤ 70
theorem qname_code (l : List UInt8) : codeOk (qname l) := by
  unfold qname; split
  · exact Int.le_refl 70
  · trivial
theorem qvalue_code (l : List UInt8) : codeOk (qvalue l) := by
  unfold qvalue
  split
  · exact Int.le_refl 70
  simp only
  split
  · exact Int.le_refl 70
  split
  · have := undoF_code true ((l.drop 1).takeWhile (· != 34)).length ((l.drop 1).takeWhile (· != 34))
    show (undoF true _ _).2.2 ≤ 70
    omega
  · trivial
theorem qnumber_code (l : List UInt8) : codeOk (qnumber l) := by
  unfold qnumber; simp only; split
  · exact Int.le_refl 70
  · trivial
theorem qattr_code (l : List UInt8) : codeOk (qattr l) := by
  have h := qname_code l
  unfold qattr
  cases hn : qname l with
  | bad k e => rw [hn] at h; exact h
  | ok s n =>
    simp only
    split
    · trivial
    · have h2 := qvalue_code (l.drop (n + 1))
      cases hv : qvalue (l.drop (n + 1)) with
      | bad k e => rw [hv] at h2; exact h2
      | ok v m => trivial
theorem past_code {α : Type} {x : Told α} (h : codeOk x) (k : Nat) : codeOk (x.past k) := by
  cases x with
  | ok y n => trivial
  | bad j e => exact h
theorem qpred_code (l : List UInt8) : codeOk (qpred l) := by
  unfold qpred
  split
  · exact past_code (qattr_code _) _
  split
  · trivial
  split
  · split
    · exact Int.le_refl 70
    · have h2 := qvalue_code (l.drop 7)
      cases hv : qvalue (l.drop 7) with
      | bad k e => rw [hv] at h2; exact h2
      | ok v m => trivial
  · have h2 := qnumber_code l
    cases hv : qnumber l with
    | bad k e => rw [hv] at h2; exact h2
    | ok v m => trivial
theorem qpredsF_code : ∀ (f : Nat) (l : List UInt8) (ps : List PredD), codeOk (qpredsF f l ps)
  | 0, _, _ => Int.le_refl 70
  | f + 1, l, ps => by
    rw [qpredsF]
    split
    · trivial
    split
    · exact Int.le_refl 70
    have h := qpred_code (l.drop 1)
    cases hq : qpred (l.drop 1) with
    | bad k e => rw [hq] at h; exact h
    | ok p n =>
      simp only
      split
      · exact Int.le_refl 70
      · exact past_code (qpredsF_code f _ _) _
theorem qtest_code (l : List UInt8) : codeOk (qtest l) := by
  unfold qtest
  split
  · trivial
  split
  · trivial
  split
  · trivial
  have h := qname_code l
  cases hn : qname l with
  | bad k e => rw [hn] at h; exact h
  | ok s n => trivial
theorem qstep_code (l : List UInt8) : codeOk (qstep l) := by
  unfold qstep
  split
  · trivial
  split
  · trivial
  simp only
  have h := qtest_code (l.drop (axisT (axisN l)).length)
  cases hq : qtest (l.drop (axisT (axisN l)).length) with
  | bad k e => rw [hq] at h; exact h
  | ok t n =>
    simp only
    have h2 := qpredsF_code ((l.drop ((axisT (axisN l)).length + n)).length + 1) (l.drop ((axisT (axisN l)).length + n)) []
    unfold qpreds
    cases hr : qpredsF ((l.drop ((axisT (axisN l)).length + n)).length + 1) (l.drop ((axisT (axisN l)).length + n)) [] with
    | bad k e => rw [hr] at h2; exact h2
    | ok v m => trivial
theorem qone_code (l : List UInt8) (ls : List StepD) : codeOk (qone l ls) := by
  by_cases h1 : pre [47] l = true
  · by_cases h2 : pre [47] (l.drop 1) = true
    · rw [qone_two' h1 h2]
      split
      · exact Int.le_refl 70
      split
      · exact Int.le_refl 70
      have h := qstep_code (l.drop 2)
      cases hq : qstep (l.drop 2) with
      | bad k e => rw [hq] at h; exact h
      | ok s n => trivial
    · rw [qone_one' h1 (by simpa using h2)]
      split
      · exact Int.le_refl 70
      have h := qstep_code (l.drop 1)
      cases hq : qstep (l.drop 1) with
      | bad k e => rw [hq] at h; exact h
      | ok s n => trivial
  · rw [qone_no (by simpa using h1)]; exact Int.le_refl 70
theorem qallF_code : ∀ (f : Nat) (l : List UInt8) (ls : List StepD), codeOk (qallF f l ls)
  | 0, _, _ => Int.le_refl 70
  | f + 1, l, ls => by
    rw [qallF]
    have h := qone_code l ls
    cases hq : qone l ls with
    | bad k e => rw [hq] at h; exact h
    | ok ls' n =>
      simp only
      split
      · trivial
      · exact past_code (qallF_code f _ _) _
/-- a query that is too long is told so at its beginning -/
theorem query_71 {l : List UInt8} (h : (queryL l).2.2 = 71) : (queryL l).2.1 = 0 := by
  unfold queryL at h ⊢
  split
  · rfl
  · rename_i hl
    rw [if_neg hl] at h
    have hc := qallF_code (l.length + 1) l []
    cases hq : qall l [] with
    | bad k e =>
      rw [hq] at h
      have : qallF (l.length + 1) l [] = .bad k e := hq
      rw [this] at hc
      have hc' : e ≤ 70 := hc
      have h' : e = 71 := h
      omega
    | ok ls n => rfl

def aliveQ : List UInt8 := [47, 97, 47, 47, 98, 91, 50, 93]
theorem alive_q1 : queryL aliveQ = ([⟨1, 1, [97], []⟩, ⟨3, 4, [], []⟩, ⟨1, 1, [98], [⟨1, 2, [], []⟩]⟩], 0, 0) := by decide +kernel
theorem alive_q2 : queryL [47, 97, 91] = ([], 3, 70) := by decide +kernel
def aliveS : List StepD := [⟨1, 2, [], []⟩]
theorem alive_q3 : rightL aliveS = true ∧ queryT aliveS = [47, 99, 104, 105, 108, 100, 58, 58, 42] := ⟨by decide +kernel, rfl⟩
theorem aliveS_small : SmallSteps aliveS := ⟨by decide, fun s hs => by
  simp [aliveS] at hs; subst hs
  exact ⟨by decide, by decide, fun p hp => by cases hp⟩⟩

set_option maxRecDepth 100000 in
set_option maxHeartbeats 4000000 in
theorem alive7_any (w : World) (htab : Tab w) : Calls Tryd.prog 9 #[] w (Ret w (.bool true)) := by
  have HTAB := Lib.hid htab
  have HQ1 : Hid (queryL (⟨#[47, 97, 47, 47, 98, 91, 50, 93]⟩ : ByteArray).data.toList = ([⟨1, 1, [97], []⟩, ⟨3, 4, [], []⟩, ⟨1, 1, [98], [⟨1, 2, [], []⟩]⟩], 0, 0)) := alive_q1
  have HQ2 : Hid (queryL (⟨#[47, 97, 91]⟩ : ByteArray).data.toList = ([], 3, 70)) := alive_q2
  clear htab
  go_enter Tryd.func9, Tryd.ntmps9
  go_wp2_with fail
  refine (Parse_any ⟨#[47, 97, 47, 47, 98, 91, 50, 93]⟩ w (by decide) _ HQ1).mono ?_
  rintro e w1 ⟨hb1, hp1⟩
  rcases hp1 with ⟨_, A, c, S, rfl, hs1, hsp1, hm1⟩ | ⟨h, _⟩
  case inr => exact absurd rfl h
  have hm1' : S.map (·.1) = [⟨1, 1, [97], []⟩, ⟨3, 4, [], []⟩, ⟨1, 1, [98], [⟨1, 2, [], []⟩]⟩] := hm1
  obtain ⟨x0, x1, x2, rfl, e1, e2⟩ : ∃ x0 x1 x2 : QSlot, S = [x0, x1, x2] ∧ x1.1 = ⟨3, 4, [], []⟩ ∧ x2.1 = ⟨1, 1, [98], [⟨1, 2, [], []⟩]⟩ := by
    match S, hm1' with
    | [x0, x1, x2], h =>
      simp only [List.map_cons, List.map_nil, List.cons.injEq, and_true] at h
      exact ⟨x0, x1, x2, rfl, h.2.1, h.2.2⟩
    | [], h => have := congrArg List.length h; simp at this
    | [_], h => have := congrArg List.length h; simp at this
    | [_, _], h => have := congrArg List.length h; simp at this
    | _ :: _ :: _ :: _ :: _, h => have := congrArg List.length h; simp at this
  obtain ⟨g, rfl, hBg, hg, _, hc⟩ := own_flat cellsS cellsS_length hs1 (by simp)
  have d1 := hc 1 x1 0 _ rfl rfl
  have d2 := hc 2 x2 2 _ rfl rfl
  have d3 := hc 2 x2 3 _ rfl rfl
  rw [add_zero_block] at d1 d2 d3
  rw [e1] at d1
  rw [e2] at d2 d3
  have hp2 := hsp1 x2 (by simp)
  rw [e2] at hp2
  obtain ⟨g2, hA2, hBg2, hg2, _, hcp⟩ := own_flat cellsP cellsP_length hp2 (by simp)
  have d4 := hcp 0 ⟨1, 2, [], []⟩ 1 _ rfl rfl
  rw [add_zero_block] at d4
  rw [hA2] at d3
  obtain ⟨c2, hc2⟩ : ∃ c2, x2.2.2 = c2 := ⟨_, rfl⟩
  rw [hc2] at d3
  have D : Hid (w1.cell? ⟨g, 4, none⟩ = some (.int .i64 3) ∧ w1.cell? ⟨g, 10, none⟩ = some (.string ⟨#[98]⟩) ∧ w1.cell? ⟨g, 11, none⟩ = some (.slice (some ⟨g2, 0, none⟩) 1 c2) ∧ w1.cell? ⟨g2, 1, none⟩ = some (.int .i64 2)) := ⟨d1, d2, d3, d4⟩
  clear d1 d2 d3 d4 hc hcp hs1 hsp1 hm1 hm1' e1 e2 hp2 hc2 hA2
  go_wp2_with fail
  refine (Parse_any ⟨#[47, 97, 91]⟩ w1 (by decide) _ HQ2).mono ?_
  rintro e w2 ⟨hb2, hp2⟩
  rcases hp2 with ⟨h, _⟩ | ⟨_, rfl⟩
  · have h' : (70 : Int) = 0 := h
    exact absurd h' (by decide)
  obtain ⟨W3, hW3⟩ : ∃ W3, Hid (W3 = w2.alloc (.cells #[.int .i64 1, .int .i64 2, .string ⟨#[]⟩, .slice none 0 0] 37)) := ⟨_, rfl⟩
  have hb3 : Below w2.heap.size w2 W3 := by rw [hW3.out]; exact (Below.refl _ w2).alloc (Nat.le_refl _) _
  have y : ∀ (j : Nat) (u : Value), (#[.int .i64 1, .int .i64 2, .string ⟨#[]⟩, .slice none 0 0] : Array Value)[j]? = some u → W3.cell? ⟨w2.heap.size, j, none⟩ = some u := fun j u hu => by rw [hW3.out, World.cell?_alloc_at _ _ _ _ rfl]; exact hu
  have hz3 : w2.heap.size < W3.heap.size := by rw [hW3.out]; simp
  have hAt : StepsAt W3 W3.heap.size (some ⟨w2.heap.size, 0, none⟩) aliveS := fun _ => by
    refine ⟨_, rfl, hz3, fun k s hs => ?_⟩
    have hk : k = 0 := by have := (List.getElem?_eq_some_iff.1 hs).1; simp [aliveS] at this; omega
    subst hk
    have hs' : s = ⟨1, 2, [], []⟩ := by simp [aliveS] at hs; exact hs.symm
    subst hs'
    refine ⟨none, 0, fun h => absurd h (by simp), Nat.le_refl _, ?_⟩
    rw [add_zero_block]
    exact ⟨y 0 _ rfl, y 1 _ rfl, y 2 _ rfl, y 3 _ rfl⟩
  have hbw2 : Below w.heap.size w w2 := hb1.trans (hb2.mono hb1.size)
  have hbw3 : Below w.heap.size w W3 := hbw2.trans (hb3.mono hbw2.size)
  go_wp2_with fail
  rw [← hW3.out]
  refine (Print_any aliveS (some ⟨w2.heap.size, 0, none⟩) 1 W3 hAt aliveS_small (by unfold fitQ; rw [alive_q3.2]; decide) (HTAB.out.keep hbw3) true alive_q3.1 _ (show Hid ((if true then queryT aliveS else []) = [47, 99, 104, 105, 108, 100, 58, 58, 42]) from alive_q3.2)).mono ?_
  rintro e w4 ⟨rfl, hb4⟩
  have h14 : Below w1.heap.size w1 w4 := (hb2.trans (hb3.mono hb2.size)).trans (hb4.mono (Nat.le_trans hb2.size hb3.size))
  have d1 : w4.cell? ⟨g, 4, none⟩ = some (.int .i64 3) := (h14.cell (p := ⟨g, 4, none⟩) hg).trans D.out.1
  have d2 : w4.cell? ⟨g, 10, none⟩ = some (.string ⟨#[98]⟩) := (h14.cell (p := ⟨g, 10, none⟩) hg).trans D.out.2.1
  have d3 : w4.cell? ⟨g, 11, none⟩ = some (.slice (some ⟨g2, 0, none⟩) 1 c2) := (h14.cell (p := ⟨g, 11, none⟩) hg).trans D.out.2.2.1
  have d4 : w4.cell? ⟨g2, 1, none⟩ = some (.int .i64 2) := (h14.cell (p := ⟨g2, 1, none⟩) hg2).trans D.out.2.2.2
  have hbw4 := Lib.hid (hb1.trans (h14.mono hb1.size))
  clear y hAt hb1 hb2 hb3 hb4 h14 hbw2 hbw3
  go_wp2_with fail
  go_ret
  exact ⟨rfl, hbw4.out⟩

set_option maxRecDepth 100000 in
set_option maxHeartbeats 4000000 in
theorem walk_PathqPlaces (s : ByteArray) (w : World) (hm : s.size ≤ maxLen) (htab : Tab w) : Calls Tryd.prog 7 #[.string s] w (Ret w (.bool true)) := by
  have HTAB := Lib.hid htab
  have HL := Lib.hid (size_toList s)
  obtain ⟨R, hR⟩ : ∃ R, Hid (queryL s.data.toList = R) := ⟨_, rfl⟩
  have hpl := query_place s.data.toList
  rw [hR.out, HL.out] at hpl
  have h71 := @query_71 s.data.toList
  rw [hR.out] at h71
  have H71 := Lib.hid h71
  clear htab h71
  go_enter Tryd.func7, Tryd.ntmps7
  go_wp2_with fail
  refine (Parse_any s w hm R hR).mono ?_
  rintro e w1 ⟨hb1, hp1⟩
  have hT1 := HTAB.out.keep hb1
  rcases hp1 with ⟨_, A, c, S, rfl, _, _, _⟩ | ⟨h, rfl⟩
  · go_wp2_with fail
    refine (alive7_any w1 hT1).mono ?_
    rintro e w2 ⟨rfl, hb2⟩
    go_wp2_with fail
    go_ret
    exact ⟨rfl, hb1.trans (hb2.mono hb1.size)⟩
  · obtain ⟨l, k, c⟩ := R
    have h0 : (c == 0) = false := by simpa using h
    by_cases hc : c = 71
    · have hk : k = 0 := H71.out hc
      subst hk; subst hc
      clear h h0 hpl
      go_wp2_with fail
      refine (alive7_any w1 hT1).mono ?_
      rintro e w2 ⟨rfl, hb2⟩
      go_wp2_with fail
      go_ret
      exact ⟨rfl, hb1.trans (hb2.mono hb1.size)⟩
    · have h1 : (c == 71) = false := by simpa using hc
      have k0 : (0 : Int) ≤ (k : Int) := by omega
      have k1 : (k : Int) ≤ s.size := by simp only at hpl; omega
      clear h hpl hc
      go_wp2_with fail
      refine (alive7_any w1 hT1).mono ?_
      rintro e w2 ⟨rfl, hb2⟩
      go_wp2_with fail
      go_ret
      exact ⟨rfl, hb1.trans (hb2.mono hb1.size)⟩
end Go.Proofs.YtpfhdklbhhpbcaaDoor
