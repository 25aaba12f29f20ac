/-
  Texts of this claim, joined (by a program of the claim's author): PqO, PqR.
-/
import Derived.Test.YtpfhdklbhhpbcaaDoorQ1
import Derived.Test.YtpfhdklbhhpbcaaDoorQ13
import Derived.Test.YtpfhdklbhhpbcaaDoorQ9
/-
  The walk of the document's Print (queries).
-/
namespace Go.Proofs.YtpfhdklbhhpbcaaDoor
open Go.RowKit

def raxesC : Array Value := #[.string ⟨#[]⟩, .string ⟨#[99, 104, 105, 108, 100, 58, 58]⟩, .string ⟨#[100, 101, 115, 99, 101, 110, 100, 97, 110, 116, 58, 58]⟩, .string ⟨#[100, 101, 115, 99, 101, 110, 100, 97, 110, 116, 45, 111, 114, 45, 115, 101, 108, 102, 58, 58]⟩, .string ⟨#[112, 97, 114, 101, 110, 116, 58, 58]⟩, .string ⟨#[97, 110, 99, 101, 115, 116, 111, 114, 58, 58]⟩, .string ⟨#[102, 111, 108, 108, 111, 119, 105, 110, 103, 45, 115, 105, 98, 108, 105, 110, 103, 58, 58]⟩, .string ⟨#[112, 114, 101, 99, 101, 100, 105, 110, 103, 45, 115, 105, 98, 108, 105, 110, 103, 58, 58]⟩, .string ⟨#[115, 101, 108, 102, 58, 58]⟩]
theorem raxes_get (x : Nat) (h : x < 9) : raxesC[x]? = some (.string ⟨(axisT x).toArray⟩) := by
  match x, h with
  | 0, _ => rfl
  | 1, _ => rfl
  | 2, _ => rfl
  | 3, _ => rfl
  | 4, _ => rfl
  | 5, _ => rfl
  | 6, _ => rfl
  | 7, _ => rfl
  | 8, _ => rfl
  | n + 9, h => omega

theorem axisT_len9 (k : Nat) : (axisT k).length ≤ 100 := by
  match k with
  | 0 => decide
  | 1 => decide
  | 2 => decide
  | 3 => decide
  | 4 => decide
  | 5 => decide
  | 6 => decide
  | 7 => decide
  | 8 => decide
  | n + 9 => exact Nat.zero_le _

set_option maxRecDepth 100000 in
set_option maxHeartbeats 8000000 in
theorem RPrint_any (l : List StepD) (A : Option Addr) (c : Nat) (w : World) (hA : StepsAt w w.heap.size A l) (hs : SmallSteps l) (hfit : fitQ l) (R : Bool) (hR : Hid (rightL l = R)) (o : List UInt8) (ho : Hid ((if R then queryT l else []) = o)) :
    Calls Tryd.prog 11 #[.slice A l.length c] w (Ret w (.tuple #[.string ⟨o.toArray⟩, .bool R])) := by
  have HA := Lib.hid hA
  have HS := Lib.hid hs
  have HFIT := Lib.hid hfit
  have hl := hs.1
  clear hA hs hfit
  go_enter Tryd.func11, Tryd.ntmps11
  go_wp2_with fail
  refine (RRight_any l A c w HA.out HS.out R hR).mono ?_
  rintro e w2 ⟨rfl, hb2⟩
  cases R with
  | false =>
    have HO : Hid (o = []) := by show _ = _; rw [← ho.out]; rfl
    go_wp2_with fail
    go_ret2
    rw [HO.out]
    exact ⟨rfl, hb2⟩
  | true =>
    have HO : Hid (o = queryT l) := by show _ = _; rw [← ho.out]; rfl
    have hok := hR.out
    unfold rightL at hok
    simp only [Bool.and_eq_true, decide_eq_true_eq, List.all_eq_true] at hok
    have HOK := Lib.hid hok.1
    clear hok ho
    obtain ⟨b, hbq⟩ : ∃ b, Hid (w2.heap.size = b) := ⟨_, rfl⟩
    obtain ⟨W3, hW3⟩ : ∃ W3, Hid (W3 = (w2.alloc (.cells raxesC 9)).alloc (.cells testsC 9)) := ⟨_, rfl⟩
    have hA3 : W3.heap[b]? = some (.cells raxesC 9 (0, 0)) := by
      rw [hW3.out, ← hbq.out, (Below.refl _ (w2.alloc (.cells raxesC 9))).alloc (Nat.le_refl _) _ |>.block _ (by simp)]
      exact heap_alloc_new w2 _
    have hT3 : W3.heap[b + 1]? = some (.cells testsC 9 (0, 0)) := by rw [hW3.out, ← hbq.out]; exact heap_alloc2_new _ _ _
    have hb3 : Below w2.heap.size w2 W3 := by rw [hW3.out]; exact ((Below.refl _ w2).alloc (Nat.le_refl _) _).alloc (by simp) _
    have hz3 : b + 1 < W3.heap.size := by rw [hW3.out, ← hbq.out]; simp
    have hwb : w.heap.size ≤ b := by rw [← hbq.out]; exact hb2.size
    have HB3 : Hid (Below w.heap.size w W3) := hb2.trans (hb3.mono hb2.size)
    have HW3 : Hid ((w2.alloc (.cells #[.string ⟨#[]⟩, .string ⟨#[99, 104, 105, 108, 100, 58, 58]⟩, .string ⟨#[100, 101, 115, 99, 101, 110, 100, 97, 110, 116, 58, 58]⟩, .string ⟨#[100, 101, 115, 99, 101, 110, 100, 97, 110, 116, 45, 111, 114, 45, 115, 101, 108, 102, 58, 58]⟩, .string ⟨#[112, 97, 114, 101, 110, 116, 58, 58]⟩, .string ⟨#[97, 110, 99, 101, 115, 116, 111, 114, 58, 58]⟩, .string ⟨#[102, 111, 108, 108, 111, 119, 105, 110, 103, 45, 115, 105, 98, 108, 105, 110, 103, 58, 58]⟩, .string ⟨#[112, 114, 101, 99, 101, 100, 105, 110, 103, 45, 115, 105, 98, 108, 105, 110, 103, 58, 58]⟩, .string ⟨#[115, 101, 108, 102, 58, 58]⟩] 9)).alloc (.cells #[.string ⟨#[]⟩, .string ⟨#[]⟩, .string ⟨#[42]⟩, .string ⟨#[116, 101, 120, 116, 40, 41]⟩, .string ⟨#[110, 111, 100, 101, 40, 41]⟩] 9) = W3) := by show _ = _; rw [hW3.out]; rfl
    have hA3' := Lib.hid hA3
    have hT3' := Lib.hid hT3
    clear hA3 hT3 hW3
    go_wp2_with fail
    rw [HW3.out, hbq.out]
    go_loopw [6, 7] (fun ov i wr => ∃ (n : Nat), n ≤ l.length ∧ i = .int .i64 (n : Int) ∧ ov = .string ⟨(queryT (l.take n)).toArray⟩ ∧ Hid (wr.heap[b]? = some (.cells raxesC 9 (0, 0))) ∧ Hid (wr.heap[b + 1]? = some (.cells testsC 9 (0, 0))) ∧ Hid (Below w.heap.size w wr)) (fun _ i _ => l.length - (intOf i).toNat)
    case atStart => exact ⟨0, Nat.zero_le _, by go_num, rfl, hA3'.out, hT3'.out, HB3.out⟩
    case round =>
      obtain ⟨n, hnl, rfl, rfl, hAx, hTt, hbel⟩ := hrel
      have hzr : b + 1 < wr.heap.size := (Array.getElem?_eq_some_iff.1 hTt.out).1
      have j0 : (0 : Int) ≤ (n : Int) := by omega
      by_cases hlt : n < l.length
      · obtain ⟨ad, rfl, _⟩ := HA.out (by omega)
        obtain ⟨s, hy⟩ : ∃ s, Hid (l[n]? = some s) := ⟨l[n], List.getElem?_eq_getElem _⟩
        obtain ⟨hb, A', c', hpa, hpc, hs0, hs1, hs2, hs3⟩ := HA.out.item hy.out
        obtain ⟨hsn, hsp, hsm⟩ := HS.out.2 s (List.mem_of_getElem? hy.out)
        have HSM := Lib.hid hsm
        have HPA := Lib.hid hpa
        have HS3 := Lib.hid hs3
        have c0 : wr.cell? (ad.add (n * 4)) = some (.int .i64 s.axis) := (hbel.out.cell (by rw [block_of_add]; exact hb)).trans hs0
        have c1 : wr.cell? ⟨(ad.add (n * 4)).block, (ad.add (n * 4)).off + 1, none⟩ = some (.int .i64 s.test) := (hbel.out.cell (by show (ad.add _).block < _; rw [block_of_add]; exact hb)).trans hs1
        have c2 : wr.cell? ⟨(ad.add (n * 4)).block, (ad.add (n * 4)).off + 2, none⟩ = some (.string ⟨s.name.toArray⟩) := (hbel.out.cell (by show (ad.add _).block < _; rw [block_of_add]; exact hb)).trans hs2
        have j1 : (n : Int) < l.length := by omega
        have hstb := HOK.out s (List.mem_of_getElem? hy.out)
        unfold stepB at hstb
        simp only [Bool.and_eq_true, decide_eq_true_eq, List.all_eq_true] at hstb
        obtain ⟨⟨⟨⟨⟨a1, a2⟩, a3, a4⟩, _⟩, _⟩, hpb⟩ := hstb
        have HPB := Lib.hid hpb
        obtain ⟨x, hx⟩ : ∃ x : Nat, s.axis = x := ⟨s.axis.toNat, by omega⟩
        obtain ⟨m, hm⟩ : ∃ m : Nat, s.test = m := ⟨s.test.toNat, by omega⟩
        rw [hx] at c0
        rw [hm] at c1
        have hx9 : x < 9 := by omega
        have hm5 : m < 5 := by omega
        have hm1 : 1 ≤ m := by omega
        have hax := axisT_len9 x
        have hte : (testT (m : Int)).length ≤ 100 := by
          have : m = 1 ∨ m = 2 ∨ m = 3 ∨ m = 4 := by omega
          rcases this with rfl | rfl | rfl | rfl <;> decide
        obtain ⟨hd, hhd⟩ : ∃ hd : List UInt8, Hid (([47] : List UInt8) ++ axisT x ++ testT (m : Int) ++ s.name = hd) := ⟨([47] : List UInt8) ++ axisT x ++ testT (m : Int) ++ s.name, rfl⟩
        obtain ⟨acc, hacc⟩ : ∃ acc, Hid (queryT (l.take n) = acc) := ⟨_, rfl⟩
        rw [hacc.out]
        have hstp : stepT s = hd ++ s.preds.flatMap predT := by
          unfold stepT
          rw [← hhd.out, hx, hm]; simp
        have hsplit : queryT l = acc ++ stepT s ++ queryT (l.drop (n + 1)) := by
          have : l = l.take n ++ (s :: l.drop (n + 1)) := by rw [← drop_cons hy.out, List.take_append_drop]
          conv => lhs; rw [this]
          rw [← hacc.out]
          simp [queryT]
        have hnext : Hid (queryT (l.take (n + 1)) = acc ++ hd ++ s.preds.flatMap predT) := by
          show _ = _
          rw [List.take_add_one, hy.out, ← hacc.out]
          simp [queryT, hstp]
        have hlen : Hid (∀ k, (acc ++ hd ++ (s.preds.take k).flatMap predT).length ≤ 100000000000000) := by
          intro k
          have h1 := HFIT.out
          unfold fitQ at h1
          rw [hsplit, hstp] at h1
          have h2 := congrArg List.length (show (s.preds.take k).flatMap predT ++ (s.preds.drop k).flatMap predT = s.preds.flatMap predT by rw [← List.flatMap_append, List.take_append_drop])
          simp only [List.length_append] at h1 h2 ⊢
          omega
        have hal := hlen.out 0
        simp only [List.length_append, List.take_zero, List.flatMap_nil, List.length_nil] at hal
        have hhl : hd.length = 1 + (axisT x).length + (testT (m : Int)).length + s.name.length := by rw [← hhd.out]; simp; omega
        have g0 : ¬ (9223372036854775807 < acc.length + 1) := by omega
        have g1 : ¬ (9223372036854775807 < acc.length + 1 + (axisT x).length) := by omega
        have g2 : ¬ (9223372036854775807 < acc.length + 1 + (axisT x).length + (testT (m : Int)).length) := by omega
        have g3 : ¬ (9223372036854775807 < acc.length + 1 + (axisT x).length + (testT (m : Int)).length + s.name.length) := by omega
        clear hstp hsplit
        have HX := Lib.hid hx
        have HM := Lib.hid hm
        have x0 : (0 : Int) ≤ (x : Int) := by omega
        have x1 : (x : Int) < 9 := by omega
        have m0 : (0 : Int) ≤ (m : Int) := by omega
        have m1 : (m : Int) < 5 := by omega
        have HHL := Lib.hid hhl
        have HS4 : Hid (wr.drew.cell? (ad.add (n * 4)) = some (.int .i64 x) ∧ wr.drew.cell? ⟨(ad.add (n * 4)).block, (ad.add (n * 4)).off + 1, none⟩ = some (.int .i64 m) ∧ wr.drew.cell? ⟨(ad.add (n * 4)).block, (ad.add (n * 4)).off + 2, none⟩ = some (.string ⟨s.name.toArray⟩) ∧ wr.drew.cell? ⟨b, x, none⟩ = some (.string ⟨(axisT x).toArray⟩) ∧ wr.drew.cell? ⟨b + 1, m, none⟩ = some (.string ⟨(testT (m : Int)).toArray⟩)) :=
          ⟨c0, c1, c2, (cell_of_row hAx.out x).trans (raxes_get x hx9), (cell_of_row hTt.out m).trans (tests_get m hm1 hm5)⟩
        clear hs0 hs1 hs2 hs3 hpa hsm hpb a1 a2 a3 a4 hx hm hhl c0 c1 c2
        go_wp2_with fail
        refine wp_region_held_drew (S := fun w' => w'.cell? (ad.add (n * 4)) = some (.int .i64 x) ∧ w'.cell? ⟨(ad.add (n * 4)).block, (ad.add (n * 4)).off + 1, none⟩ = some (.int .i64 m) ∧ w'.cell? ⟨(ad.add (n * 4)).block, (ad.add (n * 4)).off + 2, none⟩ = some (.string ⟨s.name.toArray⟩) ∧ w'.cell? ⟨b, x, none⟩ = some (.string ⟨(axisT x).toArray⟩) ∧ w'.cell? ⟨b + 1, m, none⟩ = some (.string ⟨(testT (m : Int)).toArray⟩)) (by kernel_rfl) HS4.out (fun hHeld => ?_)
        refine tks (oi := ⟨_, _, _, _, _, _⟩) (v := ?_) 0 rfl (.inl ⟨by rfl, ?_⟩) ?_; rotate_left
        · (intro wS hSw; (try dsimp only at hSw); go_simp); all_goals with_reducible rfl
        try go_frame
        refine tks (oi := ⟨_, _, _, _, _, _⟩) (v := ?_) 1 rfl (.inl ⟨by rfl, ?_⟩) ?_; rotate_left
        · (intro wS hSw; (try dsimp only at hSw); go_simp); all_goals with_reducible rfl
        try go_frame
        refine tks (oi := ⟨_, _, _, _, _, _⟩) (v := ?_) 2 rfl (.inl ⟨by rfl, ?_⟩) ?_; rotate_left
        · (intro wS hSw; (try dsimp only at hSw); go_simp); all_goals with_reducible rfl
        try go_frame
        refine tks (oi := ⟨_, _, _, _, _, _⟩) (v := ?_) 3 rfl (.inl ⟨by rfl, ?_⟩) ?_; rotate_left
        · (intro wS hSw; (try dsimp only at hSw); go_simp); all_goals with_reducible rfl
        try go_frame
        refine tks (oi := ⟨_, _, _, _, _, _⟩) (v := ?_) 4 rfl (.inl ⟨by rfl, ?_⟩) ?_; rotate_left
        · (intro wS hSw; (try dsimp only at hSw); go_simp); all_goals with_reducible rfl
        try go_frame
        refine tks (oi := ⟨_, _, _, _, _, _⟩) (v := ?_) 5 rfl (.inl ⟨by rfl, ?_⟩) ?_; rotate_left
        · (intro wS hSw; (try dsimp only at hSw); go_simp); all_goals with_reducible rfl
        try go_frame
        refine tks (oi := ⟨_, _, _, _, _, _⟩) (v := ?_) 6 rfl (.inl ⟨by rfl, ?_⟩) ?_; rotate_left
        · (intro wS hSw; (try dsimp only at hSw); go_simp); all_goals with_reducible rfl
        try go_frame
        refine tks (oi := ⟨_, _, _, _, _, _⟩) (v := ?_) 7 rfl (.inl ⟨by rfl, ?_⟩) ?_; rotate_left
        · (intro wS hSw; (try dsimp only at hSw); go_simp); all_goals with_reducible rfl
        try go_frame
        refine tks (oi := ⟨_, _, _, _, _, _⟩) (v := ?_) 8 rfl (.inl ⟨by rfl, ?_⟩) ?_; rotate_left
        · (intro wS hSw; (try dsimp only at hSw); go_simp); all_goals with_reducible rfl
        try go_frame
        refine tks (oi := ⟨_, _, _, _, _, _⟩) (v := ?_) 9 rfl (.inl ⟨by rfl, ?_⟩) ?_; rotate_left
        · (intro wS hSw; (try dsimp only at hSw); go_simp); all_goals with_reducible rfl
        try go_frame
        refine tks (oi := ⟨_, _, _, _, _, _⟩) (v := ?_) 10 rfl (.inl ⟨by rfl, ?_⟩) ?_; rotate_left
        · (intro wS hSw; (try dsimp only at hSw); go_simp); all_goals with_reducible rfl
        try go_frame
        refine tks (oi := ⟨_, _, _, _, _, _⟩) (v := ?_) 11 rfl (.inl ⟨by rfl, ?_⟩) ?_; rotate_left
        · (intro wS hSw; (try dsimp only at hSw); go_simp); all_goals with_reducible rfl
        try go_frame
        refine tks (oi := ⟨_, _, _, _, _, _⟩) (v := ?_) 12 rfl (.inl ⟨by rfl, ?_⟩) ?_; rotate_left
        · (intro wS hSw; (try dsimp only at hSw); go_simp); all_goals with_reducible rfl
        try go_frame
        refine tks (oi := ⟨_, _, _, _, _, _⟩) (v := ?_) 13 rfl (.inl ⟨by rfl, ?_⟩) ?_; rotate_left
        · (intro wS hSw; (try dsimp only at hSw); go_simp); all_goals with_reducible rfl
        try go_frame
        refine tks (oi := ⟨_, _, _, _, _, _⟩) (v := ?_) 14 rfl (.inl ⟨by rfl, ?_⟩) ?_; rotate_left
        · (intro wS hSw; (try dsimp only at hSw); go_simp); all_goals with_reducible rfl
        try go_frame
        refine tks (oi := ⟨_, _, _, _, _, _⟩) (v := ?_) 15 rfl (.inl ⟨by rfl, ?_⟩) ?_; rotate_left
        · (intro wS hSw; (try dsimp only at hSw); go_simp); all_goals with_reducible rfl
        try go_frame
        refine tks (oi := ⟨_, _, _, _, _, _⟩) (v := ?_) 16 rfl (.inl ⟨by rfl, ?_⟩) ?_; rotate_left
        · (intro wS hSw; (try dsimp only at hSw); go_simp); all_goals with_reducible rfl
        try go_frame
        refine tks (oi := ⟨_, _, _, _, _, _⟩) (v := ?_) 17 rfl (.inl ⟨by rfl, ?_⟩) ?_; rotate_left
        · (intro wS hSw; (try dsimp only at hSw); go_simp); all_goals with_reducible rfl
        try go_frame
        refine tks (oi := ⟨_, _, _, _, _, _⟩) (v := ?_) 18 rfl (.inl ⟨by rfl, ?_⟩) ?_; rotate_left
        · (intro wS hSw; (try dsimp only at hSw); go_simp); all_goals with_reducible rfl
        try go_frame
        refine tks (oi := ⟨_, _, _, _, _, _⟩) (v := ?_) 19 rfl (.inl ⟨by rfl, ?_⟩) ?_; rotate_left
        · (intro wS hSw; (try dsimp only at hSw); go_simp); all_goals with_reducible rfl
        try go_frame
        refine tks (oi := ⟨_, _, _, _, _, _⟩) (v := ?_) 20 rfl (.inl ⟨by rfl, ?_⟩) ?_; rotate_left
        · (intro wS hSw; (try dsimp only at hSw); go_simp); all_goals with_reducible rfl
        try go_frame
        refine tks (oi := ⟨_, _, _, _, _, _⟩) (v := ?_) 21 rfl (.inl ⟨by rfl, ?_⟩) ?_; rotate_left
        · (intro wS hSw; (try dsimp only at hSw); go_simp); all_goals with_reducible rfl
        try go_frame
        refine tks (oi := ⟨_, _, _, _, _, _⟩) (v := ?_) 22 rfl (.inl ⟨by rfl, ?_⟩) ?_; rotate_left
        · (intro wS hSw; (try dsimp only at hSw); go_simp); all_goals with_reducible rfl
        try go_frame
        refine tks (oi := ⟨_, _, _, _, _, _⟩) (v := ?_) 23 rfl (.inl ⟨by rfl, ?_⟩) ?_; rotate_left
        · (intro wS hSw; (try dsimp only at hSw); go_simp); all_goals with_reducible rfl
        try go_frame
        refine tks (oi := ⟨_, _, _, _, _, _⟩) (v := ?_) 24 rfl (.inl ⟨by rfl, ?_⟩) ?_; rotate_left
        · (intro wS hSw; (try dsimp only at hSw); go_simp); all_goals with_reducible rfl
        try go_frame
        refine tks (oi := ⟨_, _, _, _, _, _⟩) (v := ?_) 25 rfl (.inl ⟨by rfl, ?_⟩) ?_; rotate_left
        · (intro wS hSw; (try dsimp only at hSw); go_simp); all_goals with_reducible rfl
        try go_frame
        refine tks (oi := ⟨_, _, _, _, _, _⟩) (v := ?_) 26 rfl (.inl ⟨by rfl, ?_⟩) ?_; rotate_left
        · (intro wS hSw; (try dsimp only at hSw); go_simp); all_goals with_reducible rfl
        try go_frame
        refine wpAnyH_done (by kernel_rfl) ?_ _
        clear hHeld
        have hpiece : (⟨acc.toArray⟩ : ByteArray) ++ ⟨#[47]⟩ ++ ⟨(axisT x).toArray⟩ ++ ⟨(testT (m : Int)).toArray⟩ ++ ⟨s.name.toArray⟩ = ⟨(acc ++ hd ++ (s.preds.take 0).flatMap predT).toArray⟩ := by
          rw [← hhd.out]
          apply ByteArray.ext
          simp
        obtain ⟨Z, hZ⟩ : ∃ Z, Hid (acc ++ hd ++ (s.preds.take 0).flatMap predT = Z) := ⟨_, rfl⟩
        rw [hpiece, hZ.out]
        clear hpiece g0 g1 g2 g3
        go_wp2_with fail
        go_loopw [6, 8] (fun ov i wq => ∃ (k : Nat), k ≤ s.preds.length ∧ i = .int .i64 (k : Int) ∧ ov = .string ⟨(acc ++ hd ++ (s.preds.take k).flatMap predT).toArray⟩ ∧ Hid (wq.heap[b]? = some (.cells raxesC 9 (0, 0))) ∧ Hid (wq.heap[b + 1]? = some (.cells testsC 9 (0, 0))) ∧ Hid (Below w.heap.size w wq)) (fun _ i _ => s.preds.length - (intOf i).toNat)
        case atStart => exact ⟨0, Nat.zero_le _, by go_num, by rw [hZ.out], hAx.out, hTt.out, hbel.out.drew⟩
        case round =>
          rename_i wq0 _
          obtain ⟨k, hkl, rfl, rfl, hAq, hTq, hbq2⟩ := hrel
          have q0' : (0 : Int) ≤ (k : Int) := by omega
          have hzq : b + 1 < wr.heap.size := (Array.getElem?_eq_some_iff.1 hTq.out).1
          have c3 : wr.cell? ⟨(ad.add (n * 4)).block, (ad.add (n * 4)).off + 3, none⟩ = some (.slice A' s.preds.length c') := (hbq2.out.cell (by show (ad.add _).block < _; rw [block_of_add]; exact hb)).trans HS3.out
          by_cases hkt : k < s.preds.length
          · obtain ⟨pd, rfl, hpb2, hpc2⟩ := HPA.out (by omega)
            obtain ⟨z, hz⟩ : ∃ z, Hid (s.preds[k]? = some z) := ⟨s.preds[k], List.getElem?_eq_getElem _⟩
            obtain ⟨p0, p1, p2, p3⟩ := hpc2 k z hz.out
            have q0 := (hbq2.out.cell (p := pd.add (k * 4)) (by rw [block_of_add]; exact hpb2)).trans p0
            have q1 := (hbq2.out.cell (p := ⟨(pd.add (k * 4)).block, (pd.add (k * 4)).off + 1, none⟩) (by show (pd.add _).block < _; rw [block_of_add]; exact hpb2)).trans p1
            have q2 := (hbq2.out.cell (p := ⟨(pd.add (k * 4)).block, (pd.add (k * 4)).off + 2, none⟩) (by show (pd.add _).block < _; rw [block_of_add]; exact hpb2)).trans p2
            have q3 := (hbq2.out.cell (p := ⟨(pd.add (k * 4)).block, (pd.add (k * 4)).off + 3, none⟩) (by show (pd.add _).block < _; rw [block_of_add]; exact hpb2)).trans p3
            have k1 : (k : Int) < s.preds.length := by omega
            obtain ⟨T, hT⟩ : ∃ T, Hid (predT z = T) := ⟨_, rfl⟩
            have hzm := List.mem_of_getElem? hz.out
            obtain ⟨D, hD⟩ : ∃ D, Hid (acc ++ hd ++ (s.preds.take k).flatMap predT = D) := ⟨_, rfl⟩
            have hnx : acc ++ hd ++ (s.preds.take (k + 1)).flatMap predT = D ++ T := by
              rw [List.take_add_one, hz.out, List.flatMap_append, ← hT.out, ← hD.out]; simp
            have HNX := Lib.hid hnx
            have hlk := hlen.out (k + 1)
            rw [hnx, List.length_append] at hlk
            have gk : ¬ (9223372036854775807 < D.length + T.length) := by omega
            rw [hD.out]
            clear p0 p1 p2 p3 hpc2 hnx hlk
            go_wp2_with fail
            refine (rwritten_any z _ (HSM.out z hzm) (HPB.out z hzm) T hT).mono ?_
            rintro e8 w8 ⟨rfl, hb8⟩
            clear q0 q1 q2 q3 c3
            have hA8 : Hid (w8.heap[b]? = some (.cells raxesC 9 (0, 0))) := by show _ = _; rw [hb8.block _ (by omega)]; exact hAq.out
            have hT8 : Hid (w8.heap[b + 1]? = some (.cells testsC 9 (0, 0))) := by show _ = _; rw [hb8.block _ hzq]; exact hTq.out
            have hbw8 : Hid (Below w.heap.size w w8) := hbq2.out.trans (hb8.mono hbq2.out.size)
            clear hb8
            go_wp2_with fail
            go_roundw
            case rel => exact ⟨k + 1, by omega, by go_num, by rw [HNX.out]; exact congrArg Value.string (str_app _ _), hA8.out, hT8.out, hbw8.out⟩
            case measure => simp [intOf]; omega
          · have hk' : k = s.preds.length := by omega
            have k1 : (s.preds.length : Int) ≤ k := by omega
            have hfin : Hid (acc ++ hd ++ (s.preds.take k).flatMap predT = queryT (l.take (n + 1))) := by
              show _ = _
              rw [hk', List.take_length, hnext.out]
            rw [hfin.out]
            clear hk'
            go_wp2_with fail
            go_roundw
            case rel => exact ⟨n + 1, by omega, by go_num, rfl, hAq.out, hTq.out, hbq2.out⟩
            case measure => simp [intOf]; omega
      · have hn' : n = l.length := by omega
        have j1 : (l.length : Int) ≤ n := by omega
        have hfin : Hid (queryT (l.take n) = o) := by show _ = _; rw [hn', List.take_length, HO.out]
        rw [hfin.out]
        clear hn'
        go_wp2_with fail
        go_ret2
        exact ⟨rfl, hbel.out⟩
end Go.Proofs.YtpfhdklbhhpbcaaDoor

/-
  The law PathqRight walked.
-/
namespace Go.Proofs.YtpfhdklbhhpbcaaDoor
open Go.RowKit

set_option maxRecDepth 100000 in
set_option maxHeartbeats 4000000 in
theorem walk_PathqRight (l : List StepD) (A : Option Addr) (c : Nat) (w : World) (hat : StepsAt w w.heap.size A l) (hsm : SmallSteps l) (hfit : fitQ l) (htab : Tab w) : Calls Tryd.prog 3 #[.slice A l.length c] w (Ret w (.bool true)) := by
  have HTAB := Lib.hid htab
  have HAT := Lib.hid hat
  have HSM := Lib.hid hsm
  have HFIT := Lib.hid hfit
  have hl := hsm.1
  obtain ⟨R, HR⟩ : ∃ R, Hid (rightL l = R) := ⟨_, rfl⟩
  obtain ⟨T, hT⟩ : ∃ T, Hid ((if R then queryT l else []) = T) := ⟨_, rfl⟩
  clear htab hat hsm hfit
  by_cases h100 : l.length ≤ 100
  · have h100' : (l.length : Int) ≤ 100 := by omega
    go_enter Tryd.func3, Tryd.ntmps3
    go_wp2_with fail
    refine (Print_any l A c w HAT.out HSM.out HFIT.out HTAB.out R HR T hT).mono ?_
    rintro e w1 ⟨rfl, hb1⟩
    have hw1 := Lib.hid hb1
    have HAT1 : Hid (StepsAt w1 w1.heap.size A l) := HAT.out.later hb1
    clear hb1
    go_wp2_with fail
    refine (RPrint_any l A c w1 HAT1.out HSM.out HFIT.out R HR T hT).mono ?_
    rintro e w2 ⟨rfl, hb2⟩
    have hw2 := Lib.hid (hw1.out.trans (hb2.mono hw1.out.size))
    have HAT2 : Hid (StepsAt w2 w2.heap.size A l) := HAT1.out.later hb2
    clear hb2
    go_wp2_with fail
    refine (alive7_any w2 (HTAB.out.keep hw2.out)).mono ?_
    rintro e w3 ⟨rfl, hb3⟩
    have hw3 := Lib.hid (hw2.out.trans (hb3.mono hw2.out.size))
    have HAT3 : Hid (StepsAt w3 w3.heap.size A l) := HAT2.out.later hb3
    clear hb3
    go_wp2_with fail
    refine (Right_any l A c w3 HAT3.out HSM.out R HR).mono ?_
    rintro e w4 ⟨rfl, hb4⟩
    have hw4 := Lib.hid (hw3.out.trans (hb4.mono hw3.out.size))
    have HAT4 : Hid (StepsAt w4 w4.heap.size A l) := HAT3.out.later hb4
    clear hb4
    go_wp2_with fail
    refine (RRight_any l A c w4 HAT4.out HSM.out R HR).mono ?_
    rintro e w5 ⟨rfl, hb5⟩
    have hw5 := Lib.hid (hw4.out.trans (hb5.mono hw4.out.size))
    clear hb5
    cases R with
    | true =>
      go_wp2_with fail
      go_ret
      exact ⟨by simp, hw5.out⟩
    | false =>
      go_wp2_with fail
      go_ret
      exact ⟨by simp, hw5.out⟩
  · have h100' : (100 : Int) < l.length := by omega
    clear h100
    go_enter Tryd.func3, Tryd.ntmps3
    go_wp2_with fail
    refine (alive7_any w HTAB.out).mono ?_
    rintro e w1 ⟨rfl, hb1⟩
    go_wp2_with fail
    go_ret
    exact ⟨rfl, hb1⟩
end Go.Proofs.YtpfhdklbhhpbcaaDoor
