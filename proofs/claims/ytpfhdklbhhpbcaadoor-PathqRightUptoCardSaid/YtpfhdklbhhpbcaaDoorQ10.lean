/-
  Texts of this claim, joined (by a program of the claim's author): PqS.
-/
import Derived.Test.YtpfhdklbhhpbcaaDoorQ1
import Derived.Test.YtpfhdklbhhpbcaaDoorQ9
import Derived.Test.YtpfhdklbhhpbcaaDoorQ7
/-
  The law PathqShort walked.
-/
namespace Go.Proofs.YtpfhdklbhhpbcaaDoor
open Go.RowKit

theorem colB_two {l : List UInt8} {k : Nat} {a b : UInt8} (ha : l[k]? = some a) (hb : l[k + 1]? = some b) : colB (l.drop k) = ((a == 58 && b == 58) || colB (l.drop (k + 1))) := by
  rw [drop_cons ha, drop_cons hb, colB]
theorem colB_end {l : List UInt8} {k : Nat} (h : l.length ≤ k + 1) : colB (l.drop k) = false := by
  have : (l.drop k).length ≤ 1 := by rw [List.length_drop]; omega
  match l.drop k, this with
  | [], _ => rfl
  | [_], _ => rfl
  | _ :: _ :: _, h => simp at h
theorem u8_int (a : UInt8) : ((a.toNat : Int) = 58) ↔ a = 58 := by
  constructor
  · intro h
    have : a.toNat = (58 : UInt8).toNat := by show a.toNat = 58; omega
    exact UInt8.toNat.inj this
  · rintro rfl; rfl

set_option maxRecDepth 100000 in
set_option maxHeartbeats 2000000 in
theorem axis_any (s : ByteArray) (w : World) (hs : s.size ≤ 1000000000) (R : Bool) (hR : Hid (colB s.data.toList = R)) :
    Calls Tryd.prog 16 #[.string s] w fun e w' => e = .returned (.bool R) ∧ w = w' := by
  have HL := Lib.hid (size_toList s)
  go_enter Tryd.func16, Tryd.ntmps16
  go_wp2_with fail
  go_loop [3] (fun i => ∃ (k : Nat), k ≤ s.size ∧ i = .int .i64 k ∧ Hid (colB (s.data.toList.drop k) = R)) (fun i => s.size - (intOf i).toNat)
  case atStart => exact ⟨0, Nat.zero_le _, rfl, hR⟩
  case round =>
    obtain ⟨k, hk, rfl, hin⟩ := hrel
    have hk0 : (0 : Int) ≤ (k : Int) := by omega
    by_cases hlt : k + 1 < s.size
    · obtain ⟨x, HX⟩ : ∃ x, Hid (s.data.toList[k]? = some x) := ⟨s.data.toList[k]'(by have := HL.out; omega), List.getElem?_eq_getElem _⟩
      obtain ⟨y, HY⟩ : ∃ y, Hid (s.data.toList[k + 1]? = some y) := ⟨s.data.toList[k + 1]'(by have := HL.out; omega), List.getElem?_eq_getElem _⟩
      have hsx : s[k] = x := getk_of s k x HX.out (by omega)
      have hsy : s[k + 1] = y := getk_of s (k + 1) y HY.out hlt
      have hst := colB_two HX.out HY.out
      rw [hin.out] at hst
      have HST := Lib.hid hst
      have hlt' : (k : Int) + 1 < s.size := by omega
      have hlt0 : (k : Int) < s.size := by omega
      clear hst
      by_cases hx : (x.toNat : Int) = 58
      · by_cases hy : (y.toNat : Int) = 58
        · have HRT : Hid (R = true) := by
            show _ = _
            rw [HST.out, (u8_int x).1 hx, (u8_int y).1 hy]; rfl
          go_wp2_with fail
          go_ret
          exact ⟨by rw [HRT.out]; rfl, rfl⟩
        · have HRT : Hid (colB (s.data.toList.drop (k + 1)) = R) := by
            show _ = _
            rw [HST.out, show (y == 58) = false by simpa using fun e => hy ((u8_int y).2 e)]; simp
          go_wp2_with fail
          go_round
          case rel => exact ⟨k + 1, by omega, by go_num, HRT⟩
          case measure => simp [intOf]; omega
      · have HRT : Hid (colB (s.data.toList.drop (k + 1)) = R) := by
          show _ = _
          rw [HST.out, show (x == 58) = false by simpa using fun e => hx ((u8_int x).2 e)]; simp
        go_wp2_with fail
        go_round
        case rel => exact ⟨k + 1, by omega, by go_num, HRT⟩
        case measure => simp [intOf]; omega
    · have HRF : Hid (R = false) := by
        show _ = _
        rw [← hin.out]; exact colB_end (by have := HL.out; omega)
      have hlt' : (s.size : Int) ≤ (k : Int) + 1 := by omega
      go_wp2_with fail
      go_ret
      exact ⟨by rw [HRF.out]; rfl, rfl⟩

def Pair (n : List UInt8) (g k : Nat) (w : World) : Prop := ∃ a b : ByteArray, w.cell? ⟨g, k * 2, none⟩ = some (.string a) ∧ w.cell? ⟨g, k * 2 + 1, none⟩ = some (.string b) ∧ shortP n a.data.toList b.data.toList ∧ a.size ≤ 2000000 ∧ b.size ≤ 2000000
theorem Pair.below {n : List UInt8} {g k : Nat} {w w' : World} (h : Pair n g k w) {N : Nat} (hg : g < N) (hb : Below N w w') : Pair n g k w' := by
  obtain ⟨a, b, h1, h2, h3⟩ := h
  exact ⟨a, b, (hb.cell (p := ⟨g, k * 2, none⟩) hg).trans h1, (hb.cell (p := ⟨g, k * 2 + 1, none⟩) hg).trans h2, h3⟩
theorem cat_list (l : List UInt8) (s : ByteArray) : ((⟨l.toArray⟩ : ByteArray) ++ s).data.toList = l ++ s.data.toList := by simp
theorem sz_cat (p s : ByteArray) (hp : p.size ≤ 1000) (hs : s.size ≤ 1048576) : (p ++ s).size ≤ 2000000 := by rw [ByteArray.size_append]; omega
theorem pairs_at (s : ByteArray) (w : World) (hs : s.size ≤ 1048576) (t : TypeId) (k : Nat) (hk : k < 4) : Pair s.data.toList w.heap.size k (w.alloc (.cells #[.string (⟨#[47]⟩ ++ s), .string (⟨#[47, 99, 104, 105, 108, 100, 58, 58]⟩ ++ s), .string ⟨#[47, 46]⟩, .string ⟨#[47, 115, 101, 108, 102, 58, 58, 110, 111, 100, 101, 40, 41]⟩, .string ⟨#[47, 46, 46]⟩, .string ⟨#[47, 112, 97, 114, 101, 110, 116, 58, 58, 110, 111, 100, 101, 40, 41]⟩, .string (⟨#[47, 47]⟩ ++ s), .string (⟨#[47, 100, 101, 115, 99, 101, 110, 100, 97, 110, 116, 45, 111, 114, 45, 115, 101, 108, 102, 58, 58, 110, 111, 100, 101, 40, 41, 47, 99, 104, 105, 108, 100, 58, 58]⟩ ++ s)] t)) := by
  rcases (by omega : k = 0 ∨ k = 1 ∨ k = 2 ∨ k = 3) with rfl | rfl | rfl | rfl
  all_goals (refine ⟨_, _, World.cell?_alloc_at _ _ _ _ (by simp), World.cell?_alloc_at _ _ _ _ (by simp), ?_, ?_, ?_⟩)
  all_goals first
    | exact sz_cat _ _ (by decide) hs
    | decide
    | skip
  · show shortP _ ((⟨[47].toArray⟩ : ByteArray) ++ s).data.toList ((⟨[47, 99, 104, 105, 108, 100, 58, 58].toArray⟩ : ByteArray) ++ s).data.toList
    rw [cat_list, cat_list]; exact short_one _
  · exact short_self _
  · exact short_up _
  · show shortP _ ((⟨[47, 47].toArray⟩ : ByteArray) ++ s).data.toList ((⟨[47, 100, 101, 115, 99, 101, 110, 100, 97, 110, 116, 45, 111, 114, 45, 115, 101, 108, 102, 58, 58, 110, 111, 100, 101, 40, 41, 47, 99, 104, 105, 108, 100, 58, 58].toArray⟩ : ByteArray) ++ s).data.toList
    rw [cat_list, cat_list]; exact short_two _

theorem queryL_three (l : List UInt8) : ((queryL l).2.2 = 0 → (queryL l).2.1 = 0) ∧ ((queryL l).2.2 ≠ 0 → (queryL l).1 = []) := by
  constructor
  · intro h
    obtain ⟨h1, n, hq⟩ := query_ok h
    rw [query_of h1 hq]
  · intro h
    unfold queryL at h ⊢
    split
    · rfl
    · rename_i hl
      rw [if_neg hl] at h
      cases hq : qall l [] with
      | bad k e => rfl
      | ok ls n => rw [hq] at h; exact absurd rfl h
/-- the reader of queries, its two endings in one -/
def ParseU (w : World) (R : List StepD × Nat × Int) (e : Ending) (w' : World) : Prop :=
  Below w.heap.size w w' ∧ ∃ A c, e = .returned (.tuple #[.slice A R.1.length c, .int .i64 R.2.1, .int .i64 R.2.2]) ∧ StepsAt w' w'.heap.size A R.1 ∧ SmallSteps R.1 ∧ (R.2.2 = 0 → fitQ R.1 ∧ rightL R.1 = true)
theorem Parse_uni (s : ByteArray) (w : World) (hm : s.size ≤ maxLen) (R : List StepD × Nat × Int) (hR : Hid (queryL s.data.toList = R)) :
    Calls Tryd.prog 14 #[.string s] w (ParseU w R) := by
  refine (Parse_any s w hm R hR).mono ?_
  rintro e w1 ⟨hb1, hp1⟩
  obtain ⟨t1, t2⟩ := queryL_three s.data.toList
  rcases hp1 with ⟨h0, A, c, S, rfl, hs1, hsp1, hm1⟩ | ⟨h, rfl⟩
  · have h0' : (queryL s.data.toList).2.2 = 0 := by rw [hR.out]; exact h0
    obtain ⟨hsm, hfit⟩ := query_small h0'
    have hrt := (query_right h0').1
    rw [hR.out] at t1 hsm hfit hrt
    refine ⟨hb1, A, c, ?_, by rw [← hm1]; exact hs1.at hsp1, hsm, fun _ => ⟨hfit, hrt⟩⟩
    rw [t1 h0, h0, ← hm1, List.length_map]; rfl
  · rw [hR.out] at t2
    refine ⟨hb1, none, 0, by rw [t2 h]; rfl, ?_, ?_, fun h' => absurd h' h⟩
    · rw [t2 h]; exact fun h' => absurd h' (by simp)
    · rw [t2 h]; exact ⟨by simp, fun s hs => by cases hs⟩




set_option maxRecDepth 100000 in
set_option maxHeartbeats 4000000 in
theorem walk_PathqShort (s : ByteArray) (w : World) (hs : s.size ≤ 1048576) (htab : Tab w) : Calls Tryd.prog 8 #[.string s] w (Ret w (.bool true)) := by
  have HTAB := Lib.hid htab
  have HP := Lib.hid (fun t k hk => pairs_at s w hs t k hk)
  clear htab
  go_enter Tryd.func8, Tryd.ntmps8
  go_wp2_with fail
  obtain ⟨W1, hW1⟩ : ∃ W1, Hid (W1 = w.alloc (.cells #[.string (⟨#[47]⟩ ++ s), .string (⟨#[47, 99, 104, 105, 108, 100, 58, 58]⟩ ++ s), .string ⟨#[47, 46]⟩, .string ⟨#[47, 115, 101, 108, 102, 58, 58, 110, 111, 100, 101, 40, 41]⟩, .string ⟨#[47, 46, 46]⟩, .string ⟨#[47, 112, 97, 114, 101, 110, 116, 58, 58, 110, 111, 100, 101, 40, 41]⟩, .string (⟨#[47, 47]⟩ ++ s), .string (⟨#[47, 100, 101, 115, 99, 101, 110, 100, 97, 110, 116, 45, 111, 114, 45, 115, 101, 108, 102, 58, 58, 110, 111, 100, 101, 40, 41, 47, 99, 104, 105, 108, 100, 58, 58]⟩ ++ s)] 33)) := ⟨_, rfl⟩
  rw [← hW1.out]
  have HP1 : Hid (∀ k, k < 4 → Pair s.data.toList w.heap.size k W1) := fun k hk => by rw [hW1.out]; exact HP.out _ k hk
  have hbW : Hid (Below w.heap.size w W1) := by show Below _ _ _; rw [hW1.out]; exact (Below.refl _ w).alloc (Nat.le_refl _) _
  have hzW : w.heap.size < W1.heap.size := by rw [hW1.out]; simp
  obtain ⟨g, hg⟩ : ∃ g, Hid (w.heap.size = g) := ⟨_, rfl⟩
  rw [hg.out] at hzW HP1
  rw [hg.out]
  go_loopw [25] (fun i wr => ∃ (k : Nat), k ≤ 4 ∧ i = .int .i64 (k : Int) ∧ Hid (Below W1.heap.size W1 wr)) (fun i _ => 4 - (intOf i).toNat)
  case atStart => exact ⟨0, Nat.zero_le _, by go_num, Below.refl _ _⟩
  case round =>
    obtain ⟨k, hk, rfl, hbel⟩ := hrel
    have hzr := hbel.out.size
    by_cases hlt : k < 4
    · have hlt' : (k : Int) < 4 := by omega
      obtain ⟨a, b, h1, h2, h3, h4, h5⟩ := (HP1.out k hlt).below hzW hbel.out
      have HSH := Lib.hid h3
      have hgz : g < wr.heap.size := by omega
      clear h3
      obtain ⟨la, ka, ca, hRa⟩ : ∃ la ka ca, Hid (queryL a.data.toList = (la, ka, ca)) := ⟨_, _, _, rfl⟩
      obtain ⟨lb, kb, cb, hRb⟩ : ∃ lb kb cb, Hid (queryL b.data.toList = (lb, kb, cb)) := ⟨_, _, _, rfl⟩
      obtain ⟨W4, hW4⟩ : ∃ W4, Hid (W4 = wr.alloc (.cells #[.string a, .string b] 33)) := ⟨_, rfl⟩
      have hB4 : Hid (Below wr.heap.size wr W4) := by show Below _ _ _; rw [hW4.out]; exact (Below.refl _ wr).alloc (Nat.le_refl _) _
      have hz4 : wr.heap.size < W4.heap.size := by rw [hW4.out]; simp
      have y : ∀ (j : Nat) (u : Value), (#[.string a, .string b] : Array Value)[j]? = some u → W4.cell? ⟨wr.heap.size, j, none⟩ = some u := fun j u hu => by rw [hW4.out, World.cell?_alloc_at _ _ _ _ rfl]; exact hu
      have hy : Hid (W4.cell? ⟨wr.heap.size, 1, none⟩ = some (.string b)) := y 1 _ rfl
      clear y
      have hbW4 : Hid (Below W1.heap.size W1 W4) := hbel.out.trans (hB4.out.mono hzr)
      go_wp2_with fail
      rw [← hW4.out]
      obtain ⟨q, hq⟩ : ∃ q, Hid (wr.heap.size = q) := ⟨_, rfl⟩
      rw [hq.out] at hz4 hy
      rw [hq.out]
      refine (Parse_uni a W4 (by unfold maxLen; omega) (la, ka, ca) hRa).mono ?_
      rintro e w5 ⟨hb5, A, cA, rfl, hatA, hsmA, _⟩
      have y5 : w5.cell? ⟨q, 1, none⟩ = some (.string b) := (hb5.cell (p := ⟨q, 1, none⟩) hz4).trans hy.out
      have hz5 := hb5.size
      have hbW5 : Hid (Below W1.heap.size W1 w5) := hbW4.out.trans (hb5.mono hbW4.out.size)
      go_wp2_with fail
      refine (Parse_uni b w5 (by unfold maxLen; omega) (lb, kb, cb) hRb).mono ?_
      rintro e w6 ⟨hb6, B, cB, rfl, hatB, hsmB, _⟩
      have y6 : w6.cell? ⟨q, 1, none⟩ = some (.string b) := (hb6.cell (p := ⟨q, 1, none⟩) (by show q < _; omega)).trans y5
      have hz6 := hb6.size
      have hbW6 : Hid (Below W1.heap.size W1 w6) := hbW5.out.trans (hb6.mono hbW5.out.size)
      have HATA : Hid (StepsAt w6 w6.heap.size A la) := hatA.later hb6
      have HATB : Hid (StepsAt w6 w6.heap.size B lb) := hatB
      have HSA : Hid (SmallSteps la) := hsmA
      have HSB : Hid (SmallSteps lb) := hsmB
      have hsh := HSH.out
      unfold shortP at hsh
      rw [hRa.out, hRb.out, size_toList b] at hsh
      obtain ⟨hsh1, hsh2⟩ := hsh
      have HSH2 := Lib.hid hsh2
      simp only at hsh1
      clear hsh2 hatA hatB hsmA hsmB y5
      by_cases ha0 : ca = 0
      · have fa : (ca == 0) = true := by simpa using ha0
        by_cases hb0 : cb = 0
        · have fb : (cb == 0) = true := by simpa using hb0
          have hlab : Hid (la = lb) := hsh1 ha0 hb0
          clear hsh1 ha0 hb0
          go_wp2_with fail
          refine (Same7_any la lb A B cA cB w6 HATA.out HATB.out HSA.out HSB.out true (by show _ = _; simpa using hlab.out)).mono ?_
          rintro e w7 ⟨rfl, hb7⟩
          go_wp2_with fail
          go_roundw
          case rel => exact ⟨k + 1, by omega, by go_num, hbW6.out.trans (hb7.mono hbW6.out.size)⟩
          case measure => simp [intOf]; omega
        · have fb : (cb == 0) = false := by simpa using hb0
          have HNO : Hid (b.size ≤ 200 → pre [46] s.data.toList = false → pre [47] s.data.toList = false → colB s.data.toList = false → False) := fun q1 q2 q3 q4 => hb0 ((HSH2.out q1 q2 q3 q4).1 ha0)
          clear hsh1 ha0 hb0
          by_cases h200 : b.size ≤ 200
          · have hb200 : (b.size : Int) ≤ 200 := by omega
            by_cases hs0 : s.toList = []
            · have hs1 := Lib.hid hs0
              go_wp2_with fail
              go_roundw
              case rel => exact ⟨k + 1, by omega, by go_num, hbW6.out⟩
              case measure => simp [intOf]; omega
            · have hz : 0 < s.size := by
                have h1 := size_toList s
                rw [← ByteArray.toList_eq] at h1
                rw [← h1]
                exact List.length_pos_iff.2 hs0
              obtain ⟨x, HX⟩ : ∃ x, Hid (s.data.toList[0]? = some x) := ⟨s.data.toList[0]'(by have := size_toList s; omega), List.getElem?_eq_getElem _⟩
              have hsx : s[0] = x := getk_of s 0 x HX.out hz
              have hz' : (0 : Int) < s.size := by omega
              by_cases h46 : (x.toNat : Int) = 46
              · have f46 : ((x.toNat : Int) != 46) = false := by simp [h46]
                go_wp2_with fail
                go_roundw
                case rel => exact ⟨k + 1, by omega, by go_num, hbW6.out⟩
                case measure => simp [intOf]; omega
              · have f46 : ((x.toNat : Int) != 46) = true := by simpa using h46
                by_cases h47 : (x.toNat : Int) = 47
                · have f47 : ((x.toNat : Int) != 47) = false := by simp [h47]
                  go_wp2_with fail
                  go_roundw
                  case rel => exact ⟨k + 1, by omega, by go_num, hbW6.out⟩
                  case measure => simp [intOf]; omega
                · have f47 : ((x.toNat : Int) != 47) = true := by simpa using h47
                  have HC : Hid (colB s.data.toList = true) := by
                    show _ = _
                    cases hcb : colB s.data.toList with
                    | true => rfl
                    | false =>
                      have hd : s.data.toList = x :: s.data.toList.drop 1 := drop_cons (l := s.data.toList) (k := 0) HX.out
                      refine absurd hcb fun q4 => HNO.out h200 ?_ ?_ q4
                      · rw [hd]; simp only [pre, List.length_singleton, List.take_succ_cons, List.take_zero, beq_eq_false_iff_ne, ne_eq, List.cons.injEq, and_true]; rintro rfl; exact h46 rfl
                      · rw [hd]; simp only [pre, List.length_singleton, List.take_succ_cons, List.take_zero, beq_eq_false_iff_ne, ne_eq, List.cons.injEq, and_true]; rintro rfl; exact h47 rfl
                  go_wp2_with fail
                  refine (axis_any s w6 (by omega) true HC).mono ?_
                  rintro e w7 ⟨rfl, rfl⟩
                  go_wp2_with fail
                  go_roundw
                  case rel => exact ⟨k + 1, by omega, by go_num, hbW6.out⟩
                  case measure => simp [intOf]; omega
          · have hb200 : (200 : Int) < b.size := by omega
            go_wp2_with fail
            go_roundw
            case rel => exact ⟨k + 1, by omega, by go_num, hbW6.out⟩
            case measure => simp [intOf]; omega
      · have fa : (ca == 0) = false := by simpa using ha0
        by_cases hb0 : cb = 0
        · have fb : (cb == 0) = true := by simpa using hb0
          have HNO : Hid (b.size ≤ 200 → pre [46] s.data.toList = false → pre [47] s.data.toList = false → colB s.data.toList = false → False) := fun q1 q2 q3 q4 => ha0 ((HSH2.out q1 q2 q3 q4).2 hb0)
          clear hsh1 ha0 hb0
          by_cases h200 : b.size ≤ 200
          · have hb200 : (b.size : Int) ≤ 200 := by omega
            by_cases hs0 : s.toList = []
            · have hs1 := Lib.hid hs0
              go_wp2_with fail
              go_roundw
              case rel => exact ⟨k + 1, by omega, by go_num, hbW6.out⟩
              case measure => simp [intOf]; omega
            · have hz : 0 < s.size := by
                have h1 := size_toList s
                rw [← ByteArray.toList_eq] at h1
                rw [← h1]
                exact List.length_pos_iff.2 hs0
              obtain ⟨x, HX⟩ : ∃ x, Hid (s.data.toList[0]? = some x) := ⟨s.data.toList[0]'(by have := size_toList s; omega), List.getElem?_eq_getElem _⟩
              have hsx : s[0] = x := getk_of s 0 x HX.out hz
              have hz' : (0 : Int) < s.size := by omega
              by_cases h46 : (x.toNat : Int) = 46
              · have f46 : ((x.toNat : Int) != 46) = false := by simp [h46]
                go_wp2_with fail
                go_roundw
                case rel => exact ⟨k + 1, by omega, by go_num, hbW6.out⟩
                case measure => simp [intOf]; omega
              · have f46 : ((x.toNat : Int) != 46) = true := by simpa using h46
                by_cases h47 : (x.toNat : Int) = 47
                · have f47 : ((x.toNat : Int) != 47) = false := by simp [h47]
                  go_wp2_with fail
                  go_roundw
                  case rel => exact ⟨k + 1, by omega, by go_num, hbW6.out⟩
                  case measure => simp [intOf]; omega
                · have f47 : ((x.toNat : Int) != 47) = true := by simpa using h47
                  have HC : Hid (colB s.data.toList = true) := by
                    show _ = _
                    cases hcb : colB s.data.toList with
                    | true => rfl
                    | false =>
                      have hd : s.data.toList = x :: s.data.toList.drop 1 := drop_cons (l := s.data.toList) (k := 0) HX.out
                      refine absurd hcb fun q4 => HNO.out h200 ?_ ?_ q4
                      · rw [hd]; simp only [pre, List.length_singleton, List.take_succ_cons, List.take_zero, beq_eq_false_iff_ne, ne_eq, List.cons.injEq, and_true]; rintro rfl; exact h46 rfl
                      · rw [hd]; simp only [pre, List.length_singleton, List.take_succ_cons, List.take_zero, beq_eq_false_iff_ne, ne_eq, List.cons.injEq, and_true]; rintro rfl; exact h47 rfl
                  go_wp2_with fail
                  refine (axis_any s w6 (by omega) true HC).mono ?_
                  rintro e w7 ⟨rfl, rfl⟩
                  go_wp2_with fail
                  go_roundw
                  case rel => exact ⟨k + 1, by omega, by go_num, hbW6.out⟩
                  case measure => simp [intOf]; omega
          · have hb200 : (200 : Int) < b.size := by omega
            go_wp2_with fail
            go_roundw
            case rel => exact ⟨k + 1, by omega, by go_num, hbW6.out⟩
            case measure => simp [intOf]; omega
        · have fb : (cb == 0) = false := by simpa using hb0
          clear hsh1 ha0 hb0
          go_wp2_with fail
          go_roundw
          case rel => exact ⟨k + 1, by omega, by go_num, hbW6.out⟩
          case measure => simp [intOf]; omega
    · have hk4 : k = 4 := by omega
      subst hk4
      clear hlt hk
      go_wp2_with fail
      have hbr : Below w.heap.size w wr := hbW.out.trans (hbel.out.mono hbW.out.size)
      refine (alive7_any wr (HTAB.out.keep hbr)).mono ?_
      rintro e w2 ⟨rfl, hb2⟩
      go_wp2_with fail
      go_ret
      exact ⟨rfl, hbr.trans (hb2.mono hbr.size)⟩
end Go.Proofs.YtpfhdklbhhpbcaaDoor
