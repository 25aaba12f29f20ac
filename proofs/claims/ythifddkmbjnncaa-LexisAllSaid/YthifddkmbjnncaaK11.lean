/-
  Texts of this claim, joined (by a program of the claim's author): One, All, RLOne, RLAll, Alive3, LexLaw2, LexLaw3.
-/
import Derived.Test.YthifddkmbjnncaaK1
import Derived.Test.YthifddkmbjnncaaK10
import Derived.Test.YthifddkmbjnncaaK2
import Derived.Test.YthifddkmbjnncaaK9
import Derived.Test.YthifddkmbjnncaaK3
/-
  lexis.One walked.
-/
namespace Go.Proofs.Ythifddkmbjnncaa
open Go.RowKit

/-- a token, as the program bears it -/
def tokC (pos : Nat) (t : TokD) (A : Option Addr) (c : Nat) : Array Value := #[.int .i64 t.kind, .int .i64 pos, .string ⟨t.name.toArray⟩, .string ⟨t.text.toArray⟩, .slice A t.attrs.length c]
def zeroTok : Array Value := #[.int .i64 0, .int .i64 0, .string ByteArray.empty, .string ByteArray.empty, .slice none 0 0]
theorem tokC_one (pos : Nat) (t : TokD) (A : Option Addr) (c : Nat) : (tokC pos t A c).all (·.oneCell') = true := by simp [tokC, Value.oneCell']

theorem zeroTok_one : zeroTok.all (·.oneCell') = true := by simp [zeroTok, Value.oneCell']
theorem below_row {B g : Nat} {w0 w : World} (hb : Below B w0 w) (hBg : B ≤ g) (cs : Array Value) : Below B w0 (w.setRow g cs) :=
  ⟨hb.os, hb.tape, hb.output, by rw [setRow_size]; exact hb.size, fun k hk => (setRow_other _ _ _ _ (by omega)).trans (hb.block k hk)⟩

theorem RdAt.setRow {w : World} {b g : Nat} {r : Rdr} (h : RdAt w b r) (hg : b ≠ g) (cs : Array Value) : RdAt (w.setRow g cs) b r := by
  unfold RdAt
  rw [setRow_other _ _ _ _ hg]; exact h

/-- what One leaves -/
def OnePost (w : World) (pos : Nat) (V : Told TokD) (e : Ending) (w' : World) : Prop :=
  Below w.heap.size w w' ∧ match V with
  | .ok t n => ∃ A c, e = .returned (.tuple #[.agg (tokC pos t A c), .int .i64 (pos + n : Nat), .int .i64 0, .int .i64 0]) ∧ AttrsOwn w' w.heap.size A c t.attrs
  | .bad k c => e = .returned (.tuple #[.agg zeroTok, .int .i64 0, .int .i64 (pos + k : Nat), .int .i64 c])

theorem block_below {w w' : World} {B g : Nat} {o : Obj} (h : Below B w w') (hg : g < B) (ho : w.heap[g]? = some o) : w'.heap[g]? = some o := by rw [h.block g hg]; exact ho



set_option maxRecDepth 100000 in
set_option maxHeartbeats 2000000 in
theorem One_any (s : ByteArray) (pos : Nat) (w : World) (hp : pos < s.size) (hs : s.size ≤ 1000000000) (V : Told TokD) (hV : Hid (oneT (s.data.toList.drop pos) = V)) :
    Calls Try.prog 20 #[.string s, .int .i64 pos] w (OnePost w pos V) := by
  have HL := Lib.hid (size_toList s)
  have i0 : (0 : Int) ≤ (pos : Int) := by omega
  have i1 : (pos : Int) < s.size := by omega
  obtain ⟨m1, hm1⟩ : ∃ m1, Hid (pre [60, 47] (s.data.toList.drop pos) = m1) := ⟨_, rfl⟩
  obtain ⟨m2, hm2⟩ : ∃ m2, Hid (pre [60] (s.data.toList.drop pos) = m2) := ⟨_, rfl⟩
  cases m1 with
  | true =>
    obtain ⟨V', hV'⟩ : ∃ V', Hid (endT (s.data.toList.drop (pos + 2)) = V') := ⟨_, rfl⟩
    have hVE : Hid (V = V'.past 2) := by
      show _ = _
      rw [← hV.out]
      unfold oneT
      rw [hm1.out, if_pos rfl, List.drop_drop, hV'.out]
    have hp2 : pos + 2 ≤ s.size := by have := pre_len hm1.out; rw [List.length_drop, HL.out] at this; simp at this; omega
    go_enter Try.func20, Try.ntmps20
    go_wp2_with fail
    obtain ⟨W1, hW1⟩ : ∃ W1, Hid (W1 = (w.alloc (.cells #[.int .i64 0, .int .i64 0, .string ⟨#[]⟩, .string ⟨#[]⟩, .slice none 0 0] 34)).alloc (.cells #[.string s, .int .i64 pos, .int .i64 0, .int .i64 pos, .string ⟨#[]⟩, .string ⟨#[]⟩, .slice none 0 0, .int .i64 0, .int .i64 0] 64)) := ⟨_, rfl⟩
    rw [← hW1.out]
    have hR1 : Hid (RdAt W1 (w.heap.size + 1) (Rdr.new s pos pos)) := by show RdAt _ _ _; rw [hW1.out]; exact heap_alloc2_new _ _ _
    have hT1 : Hid (W1.heap[w.heap.size]? = some (.cells zeroTok 34 (0, 0))) := by show _ = _; rw [hW1.out]; exact heap_alloc2_old _ _ _
    have hb1 : Below w.heap.size w W1 := by rw [hW1.out]; exact ((Below.refl _ w).alloc (Nat.le_refl _) _).alloc (by simp) _
    have hz1 : w.heap.size + 1 ≤ W1.heap.size := by rw [hW1.out]; simp
    refine (is_any (w.heap.size + 1) _ W1 hR1.out [60, 47] (Nat.le_of_lt hp) hs true hm1 (by decide)).mono ?_
    rintro e W2 ⟨rfl, hW2, hg2⟩
    have HR2 : Hid (RdAt W2 (w.heap.size + 1) (Rdr.new s (pos + 2) pos)) := hW2
    have hbw : Below (w.heap.size + 1) W1 W2 := below_of_grown hg2 (Nat.le_refl _) hz1
    clear hW2
    go_wp2_with fail
    refine (end_any (w.heap.size + 1) (w.heap.size + 1) s (pos + 2) pos W2 HR2.out (Nat.le_refl _) (Nat.le_trans hz1 hbw.size) hp2 hs V' hV').mono ?_
    rintro e W4 ⟨hb4, hpost⟩
    cases V' with
    | bad k c =>
      obtain ⟨rfl, R, hR4, hR41, hR42⟩ := hpost
      obtain ⟨x, hx⟩ : ∃ x, Hid (pos + 2 + k = x) := ⟨_, rfl⟩
      have HV : Hid (V = .bad (2 + k) c) := hVE.out
      rw [hx.out] at hR41
      obtain ⟨_, _, _, _, _, _, _, z7, z8⟩ := hR4.all
      rw [hR41] at z7
      rw [hR42] at z8
      have HT4 : Hid (W4.drew.heap[w.heap.size]? = some (.cells zeroTok 34 (0, 0))) := block_below ((hbw.trans hb4).drew) (Nat.lt_succ_self _) hT1.out
      clear hR41 hR42
      go_wp2_with fail
      refine wp_region_held_drew (S := fun w' => w'.cell? ⟨w.heap.size + 1, 7, none⟩ = some (.int .i64 x) ∧ w'.cell? ⟨w.heap.size + 1, 8, none⟩ = some (.int .i64 c)) (by kernel_rfl) ⟨z7, z8⟩ (fun hHeld => ?_)
      refine tk (oi := ⟨_, _, _, _, _, _⟩) (v := ?_) 0 rfl (by kernel_rfl) (fun _ _ _ h => h) (.inl ⟨by rfl, ?_⟩) (by assumption) ?_; rotate_left
      · (intro wS hSw; (try dsimp only at hSw); go_simp); all_goals with_reducible rfl
      try go_frame
      refine tk (oi := ⟨_, _, _, _, _, _⟩) (v := ?_) 1 rfl (by kernel_rfl) (fun _ _ _ h => h) (.inl ⟨by rfl, ?_⟩) (by assumption) ?_; rotate_left
      · (intro wS hSw; (try dsimp only at hSw); go_simp); all_goals with_reducible rfl
      try go_frame
      refine tk (oi := ⟨_, _, _, _, _, _⟩) (v := ?_) 2 rfl (by kernel_rfl) (fun _ _ _ h => h) (.inl ⟨by rfl, ?_⟩) (by assumption) ?_; rotate_left
      · (intro wS hSw; (try dsimp only at hSw); go_simp); all_goals with_reducible rfl
      try go_frame
      refine tk (oi := ⟨_, _, _, _, _, _⟩) (v := ?_) 3 rfl (by kernel_rfl) (fun _ _ _ h => h) (.inl ⟨by rfl, ?_⟩) (by assumption) ?_; rotate_left
      · (intro wS hSw; (try dsimp only at hSw); go_simp); all_goals with_reducible rfl
      try go_frame
      refine tk (oi := ⟨_, _, _, _, _, _⟩) (v := ?_) 4 rfl (by kernel_rfl) (fun _ _ _ h => h) (.inl ⟨by rfl, ?_⟩) (by assumption) ?_; rotate_left
      · (intro wS hSw; (try dsimp only at hSw); go_simp); all_goals with_reducible rfl
      try go_frame
      refine tk (oi := ⟨_, _, _, _, _, _⟩) (v := ?_) 5 rfl (by kernel_rfl) (fun _ _ _ h => h) (.inl ⟨by rfl, ?_⟩) (by assumption) ?_; rotate_left
      · (intro wS hSw; (try dsimp only at hSw); go_simp); all_goals with_reducible rfl
      try go_frame
      refine tk (oi := ⟨_, _, _, _, _, _⟩) (v := ?_) 6 rfl (by kernel_rfl) (fun _ _ _ h => h) (.inl ⟨by rfl, ?_⟩) (by assumption) ?_; rotate_left
      · (intro wS hSw; (try dsimp only at hSw); go_simp); all_goals with_reducible rfl
      try go_frame
      refine tk (oi := ⟨_, _, _, _, _, _⟩) (v := ?_) 7 rfl (by kernel_rfl) (fun _ _ _ h => h) (.inl ⟨by rfl, ?_⟩) (by assumption) ?_; rotate_left
      · (intro wS hSw; (try dsimp only at hSw); go_simp); all_goals with_reducible rfl
      try go_frame
      refine tk (oi := ⟨_, _, _, _, _, _⟩) (v := ?_) 8 rfl (by kernel_rfl) (fun _ _ _ h => h) (.inl ⟨by rfl, ?_⟩) (by assumption) ?_; rotate_left
      · (intro wS hSw; (try dsimp only at hSw); go_simp); all_goals with_reducible rfl
      try go_frame
      refine wpAnyH_ready (rs := [9]) (by kernel_rfl) (by simp) ?_
      refine AllReadyH.cons (o := ⟨_, _, _, _, _, _⟩) rfl (fun K hK => ?_) AllReadyH.nil
      refine wp_store_row 34 (.tmp 4) (.tmp 41) rfl w.heap.size zeroTok rfl rfl 34 zeroTok HT4.out (by kernel_rfl) rfl zeroTok_one ?_
      refine hK.out _ _ (⟨(cell_setRow_other _ _ _ _ (Nat.succ_ne_self _)).trans z7, (cell_setRow_other _ _ _ _ (Nat.succ_ne_self _)).trans z8⟩) (fun hHeld => ?_)
      clear hK K
      try go_frame
      refine tk (oi := ⟨_, _, _, _, _, _⟩) (v := ?_) 10 rfl (by kernel_rfl) (fun _ _ _ h => h) (.inl ⟨by rfl, ?_⟩) (by assumption) ?_; rotate_left
      · (intro wS hSw; (try dsimp only at hSw); go_simp); all_goals with_reducible rfl
      try go_frame
      refine tk (oi := ⟨_, _, _, _, _, _⟩) (v := ?_) 11 rfl (by kernel_rfl) (fun _ _ _ h => h) (.inl ⟨by rfl, ?_⟩) (by assumption) ?_; rotate_left
      · (intro wS hSw; (try dsimp only at hSw); go_simp); all_goals with_reducible rfl
      try go_frame
      refine tk (oi := ⟨_, _, _, _, _, _⟩) (v := ?_) 12 rfl (by kernel_rfl) (fun _ _ _ h => h) (.inl ⟨by rfl, ?_⟩) (by assumption) ?_; rotate_left
      · (intro wS hSw; (try dsimp only at hSw); go_simp); all_goals with_reducible rfl
      try go_frame
      refine wpAnyH_done (by kernel_rfl) ?_ _
      clear hHeld
      go_wp2_with fail
      try simp only [Exit.inBlock, Exit.then]
      refine bodyPost_ret (results_cell3 Try.results20 _ _ w.heap.size 34 zeroTok (0, 0) _ rfl (setRow_heap _ _ _ _ _ _ HT4.out) Try.underlying34 rfl (by kernel_rfl)) rfl ?_
      rw [HV.out]
      refine ⟨hb1.trans (below_row (((hbw.trans hb4).mono (Nat.le_succ _)).drew) (Nat.le_refl _) _), ?_⟩
      show _ = Ending.returned (.tuple #[.agg zeroTok, .int .i64 0, .int .i64 (pos + (2 + k) : Nat), .int .i64 c])
      rw [show pos + (2 + k) = x by have := hx.out; omega]
      rfl
    | ok t n =>
      obtain ⟨rfl, A, c, hR4, hA4⟩ := hpost
      obtain ⟨x, hx⟩ : ∃ x, Hid (pos + 2 + n = x) := ⟨_, rfl⟩
      have HV : Hid (V = .ok t (2 + n)) := hVE.out
      rw [hx.out] at hR4
      obtain ⟨_, z1, z2, z3, z4, z5, z6, _⟩ := hR4.all
      have HT4 : Hid (W4.drew.heap[w.heap.size]? = some (.cells zeroTok 34 (0, 0))) := block_below ((hbw.trans hb4).drew) (Nat.lt_succ_self _) hT1.out
      have HA4 : Hid (AttrsOwn W4.drew (w.heap.size + 1) A c t.attrs) := hA4
      clear hA4
      go_wp2_with fail
      have HS : Hid (RdAt W4.drew (w.heap.size + 1) ⟨s, x, t.kind, pos, t.name, t.text, A, t.attrs.length, c, 0, 0⟩) := hR4
      refine wp_region_held_drew (S := fun w' => w'.cell? ⟨w.heap.size + 1, 1, none⟩ = some (.int .i64 x) ∧ w'.cell? ⟨w.heap.size + 1, 2, none⟩ = some (.int .i64 t.kind) ∧ w'.cell? ⟨w.heap.size + 1, 3, none⟩ = some (.int .i64 pos) ∧ w'.cell? ⟨w.heap.size + 1, 4, none⟩ = some (.string ⟨t.name.toArray⟩) ∧ w'.cell? ⟨w.heap.size + 1, 5, none⟩ = some (.string ⟨t.text.toArray⟩) ∧ w'.cell? ⟨w.heap.size + 1, 6, none⟩ = some (.slice A t.attrs.length c)) (by kernel_rfl) ⟨z1, z2, z3, z4, z5, z6⟩ (fun hHeld => ?_)
      refine tk (oi := ⟨_, _, _, _, _, _⟩) (v := ?_) 0 rfl (by kernel_rfl) (fun _ _ _ h => h) (.inl ⟨by rfl, ?_⟩) (by assumption) ?_; rotate_left
      · (intro wS hSw; (try dsimp only at hSw); go_simp); all_goals with_reducible rfl
      try go_frame
      refine tk (oi := ⟨_, _, _, _, _, _⟩) (v := ?_) 1 rfl (by kernel_rfl) (fun _ _ _ h => h) (.inl ⟨by rfl, ?_⟩) (by assumption) ?_; rotate_left
      · (intro wS hSw; (try dsimp only at hSw); go_simp); all_goals with_reducible rfl
      try go_frame
      refine tk (oi := ⟨_, _, _, _, _, _⟩) (v := ?_) 2 rfl (by kernel_rfl) (fun _ _ _ h => h) (.inl ⟨by rfl, ?_⟩) (by assumption) ?_; rotate_left
      · (intro wS hSw; (try dsimp only at hSw); go_simp); all_goals with_reducible rfl
      try go_frame
      refine tk (oi := ⟨_, _, _, _, _, _⟩) (v := ?_) 3 rfl (by kernel_rfl) (fun _ _ _ h => h) (.inl ⟨by rfl, ?_⟩) (by assumption) ?_; rotate_left
      · (intro wS hSw; (try dsimp only at hSw); go_simp); all_goals with_reducible rfl
      try go_frame
      refine tk (oi := ⟨_, _, _, _, _, _⟩) (v := ?_) 4 rfl (by kernel_rfl) (fun _ _ _ h => h) (.inl ⟨by rfl, ?_⟩) (by assumption) ?_; rotate_left
      · (intro wS hSw; (try dsimp only at hSw); go_simp); all_goals with_reducible rfl
      try go_frame
      refine tk (oi := ⟨_, _, _, _, _, _⟩) (v := ?_) 5 rfl (by kernel_rfl) (fun _ _ _ h => h) (.inl ⟨by rfl, ?_⟩) (by assumption) ?_; rotate_left
      · (intro wS hSw; (try dsimp only at hSw); go_simp); all_goals with_reducible rfl
      try go_frame
      refine tk (oi := ⟨_, _, _, _, _, _⟩) (v := ?_) 6 rfl (by kernel_rfl) (fun _ _ _ h => h) (.inl ⟨by rfl, ?_⟩) (by assumption) ?_; rotate_left
      · (intro wS hSw; (try dsimp only at hSw); go_simp); all_goals with_reducible rfl
      try go_frame
      refine tk (oi := ⟨_, _, _, _, _, _⟩) (v := ?_) 7 rfl (by kernel_rfl) (fun _ _ _ h => h) (.inl ⟨by rfl, ?_⟩) (by assumption) ?_; rotate_left
      · (intro wS hSw; (try dsimp only at hSw); go_simp); all_goals with_reducible rfl
      try go_frame
      refine wpAnyH_ready (rs := [8]) (by kernel_rfl) (by simp) ?_
      refine AllReadyH.cons (o := ⟨_, _, _, _, _, _⟩) rfl (fun K hK => ?_) AllReadyH.nil
      refine wp_store_row 34 (.tmp 4) (.tmp 53) rfl w.heap.size (tokC pos t A c) rfl rfl 34 zeroTok HT4.out (by kernel_rfl) rfl (tokC_one _ _ _ _) ?_
      have HSR := HS.out.setRow (g := w.heap.size) (Nat.succ_ne_self _) (tokC pos t A c)
      refine hK.out _ _ (⟨HSR.all.2.1, HSR.all.2.2.1, HSR.all.2.2.2.1, HSR.all.2.2.2.2.1, HSR.all.2.2.2.2.2.1, HSR.all.2.2.2.2.2.2.1⟩) (fun hHeld => ?_)
      clear hK K
      try go_frame
      refine tk (oi := ⟨_, _, _, _, _, _⟩) (v := ?_) 9 rfl (by kernel_rfl) (fun _ _ _ h => h) (.inl ⟨by rfl, ?_⟩) (by assumption) ?_; rotate_left
      · (intro wS hSw; (try dsimp only at hSw); go_simp); all_goals with_reducible rfl
      try go_frame
      refine tk (oi := ⟨_, _, _, _, _, _⟩) (v := ?_) 10 rfl (by kernel_rfl) (fun _ _ _ h => h) (.inl ⟨by rfl, ?_⟩) (by assumption) ?_; rotate_left
      · (intro wS hSw; (try dsimp only at hSw); go_simp); all_goals with_reducible rfl
      try go_frame
      refine tk (oi := ⟨_, _, _, _, _, _⟩) (v := ?_) 11 rfl (by kernel_rfl) (fun _ _ _ h => h) (.inl ⟨by rfl, ?_⟩) (by assumption) ?_; rotate_left
      · (intro wS hSw; (try dsimp only at hSw); go_simp); all_goals with_reducible rfl
      try go_frame
      refine wpAnyH_done (by kernel_rfl) ?_ _
      clear hHeld
      go_wp2_with fail
      try simp only [Exit.inBlock, Exit.then]
      refine bodyPost_ret (results_cell3 Try.results20 _ _ w.heap.size 34 (tokC pos t A c) (0, 0) _ rfl (setRow_heap _ _ _ _ _ _ HT4.out) Try.underlying34 rfl (by kernel_rfl)) rfl ?_
      rw [HV.out]
      refine ⟨hb1.trans (below_row (((hbw.trans hb4).mono (Nat.le_succ _)).drew) (Nat.le_refl _) _), A, c, ?_, row_base (row_setRow HA4.out (Nat.lt_succ_self _) _) (Nat.le_succ _)⟩
      rw [show pos + (2 + n) = x by have := hx.out; omega]
      rfl
  | false =>
    cases m2 with
    | true =>
      obtain ⟨V', hV'⟩ : ∃ V', Hid (beginT (s.data.toList.drop (pos + 1)) = V') := ⟨_, rfl⟩
      have hVE : Hid (V = V'.past 1) := by
        show _ = _
        rw [← hV.out]
        unfold oneT
        rw [hm1.out, if_neg (by decide), hm2.out, if_pos rfl, List.drop_drop, hV'.out]
      have hp2 : pos + 1 ≤ s.size := hp
      go_enter Try.func20, Try.ntmps20
      go_wp2_with fail
      obtain ⟨W1, hW1⟩ : ∃ W1, Hid (W1 = (w.alloc (.cells #[.int .i64 0, .int .i64 0, .string ⟨#[]⟩, .string ⟨#[]⟩, .slice none 0 0] 34)).alloc (.cells #[.string s, .int .i64 pos, .int .i64 0, .int .i64 pos, .string ⟨#[]⟩, .string ⟨#[]⟩, .slice none 0 0, .int .i64 0, .int .i64 0] 64)) := ⟨_, rfl⟩
      rw [← hW1.out]
      have hR1 : Hid (RdAt W1 (w.heap.size + 1) (Rdr.new s pos pos)) := by show RdAt _ _ _; rw [hW1.out]; exact heap_alloc2_new _ _ _
      have hT1 : Hid (W1.heap[w.heap.size]? = some (.cells zeroTok 34 (0, 0))) := by show _ = _; rw [hW1.out]; exact heap_alloc2_old _ _ _
      have hb1 : Below w.heap.size w W1 := by rw [hW1.out]; exact ((Below.refl _ w).alloc (Nat.le_refl _) _).alloc (by simp) _
      have hz1 : w.heap.size + 1 ≤ W1.heap.size := by rw [hW1.out]; simp
      refine (is_any (w.heap.size + 1) _ W1 hR1.out [60, 47] (Nat.le_of_lt hp) hs false hm1 (by decide)).mono ?_
      rintro e W2 ⟨rfl, hW2, hg2⟩
      have HR2 : Hid (RdAt W2 (w.heap.size + 1) (Rdr.new s pos pos)) := hW2
      clear hW2
      go_wp2_with fail
      refine (is_any (w.heap.size + 1) _ W2 HR2.out [60] (Nat.le_of_lt hp) hs true hm2 (by decide)).mono ?_
      rintro e W3 ⟨rfl, hW3, hg3⟩
      have HR3 : Hid (RdAt W3 (w.heap.size + 1) (Rdr.new s (pos + 1) pos)) := hW3
      have hbw : Below (w.heap.size + 1) W1 W3 := below_of_grown (grown_twice hg2 hg3) (Nat.le_refl _) hz1
      clear hW3
      go_wp2_with fail
      refine (begin_any (w.heap.size + 1) (w.heap.size + 1) s (pos + 1) pos W3 HR3.out (Nat.le_refl _) (Nat.le_trans hz1 hbw.size) hp2 hs V' hV').mono ?_
      rintro e W4 ⟨hb4, hpost⟩
      cases V' with
      | bad k c =>
        obtain ⟨rfl, R, hR4, hR41, hR42⟩ := hpost
        obtain ⟨x, hx⟩ : ∃ x, Hid (pos + 1 + k = x) := ⟨_, rfl⟩
        have HV : Hid (V = .bad (1 + k) c) := hVE.out
        rw [hx.out] at hR41
        obtain ⟨_, _, _, _, _, _, _, z7, z8⟩ := hR4.all
        rw [hR41] at z7
        rw [hR42] at z8
        have HT4 : Hid (W4.drew.heap[w.heap.size]? = some (.cells zeroTok 34 (0, 0))) := block_below ((hbw.trans hb4).drew) (Nat.lt_succ_self _) hT1.out
        clear hR41 hR42
        go_wp2_with fail
        refine wp_region_held_drew (S := fun w' => w'.cell? ⟨w.heap.size + 1, 7, none⟩ = some (.int .i64 x) ∧ w'.cell? ⟨w.heap.size + 1, 8, none⟩ = some (.int .i64 c)) (by kernel_rfl) ⟨z7, z8⟩ (fun hHeld => ?_)
        refine tk (oi := ⟨_, _, _, _, _, _⟩) (v := ?_) 0 rfl (by kernel_rfl) (fun _ _ _ h => h) (.inl ⟨by rfl, ?_⟩) (by assumption) ?_; rotate_left
        · (intro wS hSw; (try dsimp only at hSw); go_simp); all_goals with_reducible rfl
        try go_frame
        refine tk (oi := ⟨_, _, _, _, _, _⟩) (v := ?_) 1 rfl (by kernel_rfl) (fun _ _ _ h => h) (.inl ⟨by rfl, ?_⟩) (by assumption) ?_; rotate_left
        · (intro wS hSw; (try dsimp only at hSw); go_simp); all_goals with_reducible rfl
        try go_frame
        refine tk (oi := ⟨_, _, _, _, _, _⟩) (v := ?_) 2 rfl (by kernel_rfl) (fun _ _ _ h => h) (.inl ⟨by rfl, ?_⟩) (by assumption) ?_; rotate_left
        · (intro wS hSw; (try dsimp only at hSw); go_simp); all_goals with_reducible rfl
        try go_frame
        refine tk (oi := ⟨_, _, _, _, _, _⟩) (v := ?_) 3 rfl (by kernel_rfl) (fun _ _ _ h => h) (.inl ⟨by rfl, ?_⟩) (by assumption) ?_; rotate_left
        · (intro wS hSw; (try dsimp only at hSw); go_simp); all_goals with_reducible rfl
        try go_frame
        refine tk (oi := ⟨_, _, _, _, _, _⟩) (v := ?_) 4 rfl (by kernel_rfl) (fun _ _ _ h => h) (.inl ⟨by rfl, ?_⟩) (by assumption) ?_; rotate_left
        · (intro wS hSw; (try dsimp only at hSw); go_simp); all_goals with_reducible rfl
        try go_frame
        refine tk (oi := ⟨_, _, _, _, _, _⟩) (v := ?_) 5 rfl (by kernel_rfl) (fun _ _ _ h => h) (.inl ⟨by rfl, ?_⟩) (by assumption) ?_; rotate_left
        · (intro wS hSw; (try dsimp only at hSw); go_simp); all_goals with_reducible rfl
        try go_frame
        refine tk (oi := ⟨_, _, _, _, _, _⟩) (v := ?_) 6 rfl (by kernel_rfl) (fun _ _ _ h => h) (.inl ⟨by rfl, ?_⟩) (by assumption) ?_; rotate_left
        · (intro wS hSw; (try dsimp only at hSw); go_simp); all_goals with_reducible rfl
        try go_frame
        refine tk (oi := ⟨_, _, _, _, _, _⟩) (v := ?_) 7 rfl (by kernel_rfl) (fun _ _ _ h => h) (.inl ⟨by rfl, ?_⟩) (by assumption) ?_; rotate_left
        · (intro wS hSw; (try dsimp only at hSw); go_simp); all_goals with_reducible rfl
        try go_frame
        refine tk (oi := ⟨_, _, _, _, _, _⟩) (v := ?_) 8 rfl (by kernel_rfl) (fun _ _ _ h => h) (.inl ⟨by rfl, ?_⟩) (by assumption) ?_; rotate_left
        · (intro wS hSw; (try dsimp only at hSw); go_simp); all_goals with_reducible rfl
        try go_frame
        refine wpAnyH_ready (rs := [9]) (by kernel_rfl) (by simp) ?_
        refine AllReadyH.cons (o := ⟨_, _, _, _, _, _⟩) rfl (fun K hK => ?_) AllReadyH.nil
        refine wp_store_row 34 (.tmp 4) (.tmp 41) rfl w.heap.size zeroTok rfl rfl 34 zeroTok HT4.out (by kernel_rfl) rfl zeroTok_one ?_
        refine hK.out _ _ (⟨(cell_setRow_other _ _ _ _ (Nat.succ_ne_self _)).trans z7, (cell_setRow_other _ _ _ _ (Nat.succ_ne_self _)).trans z8⟩) (fun hHeld => ?_)
        clear hK K
        try go_frame
        refine tk (oi := ⟨_, _, _, _, _, _⟩) (v := ?_) 10 rfl (by kernel_rfl) (fun _ _ _ h => h) (.inl ⟨by rfl, ?_⟩) (by assumption) ?_; rotate_left
        · (intro wS hSw; (try dsimp only at hSw); go_simp); all_goals with_reducible rfl
        try go_frame
        refine tk (oi := ⟨_, _, _, _, _, _⟩) (v := ?_) 11 rfl (by kernel_rfl) (fun _ _ _ h => h) (.inl ⟨by rfl, ?_⟩) (by assumption) ?_; rotate_left
        · (intro wS hSw; (try dsimp only at hSw); go_simp); all_goals with_reducible rfl
        try go_frame
        refine tk (oi := ⟨_, _, _, _, _, _⟩) (v := ?_) 12 rfl (by kernel_rfl) (fun _ _ _ h => h) (.inl ⟨by rfl, ?_⟩) (by assumption) ?_; rotate_left
        · (intro wS hSw; (try dsimp only at hSw); go_simp); all_goals with_reducible rfl
        try go_frame
        refine wpAnyH_done (by kernel_rfl) ?_ _
        clear hHeld
        go_wp2_with fail
        try simp only [Exit.inBlock, Exit.then]
        refine bodyPost_ret (results_cell3 Try.results20 _ _ w.heap.size 34 zeroTok (0, 0) _ rfl (setRow_heap _ _ _ _ _ _ HT4.out) Try.underlying34 rfl (by kernel_rfl)) rfl ?_
        rw [HV.out]
        refine ⟨hb1.trans (below_row (((hbw.trans hb4).mono (Nat.le_succ _)).drew) (Nat.le_refl _) _), ?_⟩
        show _ = Ending.returned (.tuple #[.agg zeroTok, .int .i64 0, .int .i64 (pos + (1 + k) : Nat), .int .i64 c])
        rw [show pos + (1 + k) = x by have := hx.out; omega]
        rfl
      | ok t n =>
        obtain ⟨rfl, A, c, hR4, hA4⟩ := hpost
        obtain ⟨x, hx⟩ : ∃ x, Hid (pos + 1 + n = x) := ⟨_, rfl⟩
        have HV : Hid (V = .ok t (1 + n)) := hVE.out
        rw [hx.out] at hR4
        obtain ⟨_, z1, z2, z3, z4, z5, z6, _⟩ := hR4.all
        have HT4 : Hid (W4.drew.heap[w.heap.size]? = some (.cells zeroTok 34 (0, 0))) := block_below ((hbw.trans hb4).drew) (Nat.lt_succ_self _) hT1.out
        have HA4 : Hid (AttrsOwn W4.drew (w.heap.size + 1) A c t.attrs) := hA4
        clear hA4
        go_wp2_with fail
        have HS : Hid (RdAt W4.drew (w.heap.size + 1) ⟨s, x, t.kind, pos, t.name, t.text, A, t.attrs.length, c, 0, 0⟩) := hR4
        refine wp_region_held_drew (S := fun w' => w'.cell? ⟨w.heap.size + 1, 1, none⟩ = some (.int .i64 x) ∧ w'.cell? ⟨w.heap.size + 1, 2, none⟩ = some (.int .i64 t.kind) ∧ w'.cell? ⟨w.heap.size + 1, 3, none⟩ = some (.int .i64 pos) ∧ w'.cell? ⟨w.heap.size + 1, 4, none⟩ = some (.string ⟨t.name.toArray⟩) ∧ w'.cell? ⟨w.heap.size + 1, 5, none⟩ = some (.string ⟨t.text.toArray⟩) ∧ w'.cell? ⟨w.heap.size + 1, 6, none⟩ = some (.slice A t.attrs.length c)) (by kernel_rfl) ⟨z1, z2, z3, z4, z5, z6⟩ (fun hHeld => ?_)
        refine tk (oi := ⟨_, _, _, _, _, _⟩) (v := ?_) 0 rfl (by kernel_rfl) (fun _ _ _ h => h) (.inl ⟨by rfl, ?_⟩) (by assumption) ?_; rotate_left
        · (intro wS hSw; (try dsimp only at hSw); go_simp); all_goals with_reducible rfl
        try go_frame
        refine tk (oi := ⟨_, _, _, _, _, _⟩) (v := ?_) 1 rfl (by kernel_rfl) (fun _ _ _ h => h) (.inl ⟨by rfl, ?_⟩) (by assumption) ?_; rotate_left
        · (intro wS hSw; (try dsimp only at hSw); go_simp); all_goals with_reducible rfl
        try go_frame
        refine tk (oi := ⟨_, _, _, _, _, _⟩) (v := ?_) 2 rfl (by kernel_rfl) (fun _ _ _ h => h) (.inl ⟨by rfl, ?_⟩) (by assumption) ?_; rotate_left
        · (intro wS hSw; (try dsimp only at hSw); go_simp); all_goals with_reducible rfl
        try go_frame
        refine tk (oi := ⟨_, _, _, _, _, _⟩) (v := ?_) 3 rfl (by kernel_rfl) (fun _ _ _ h => h) (.inl ⟨by rfl, ?_⟩) (by assumption) ?_; rotate_left
        · (intro wS hSw; (try dsimp only at hSw); go_simp); all_goals with_reducible rfl
        try go_frame
        refine tk (oi := ⟨_, _, _, _, _, _⟩) (v := ?_) 4 rfl (by kernel_rfl) (fun _ _ _ h => h) (.inl ⟨by rfl, ?_⟩) (by assumption) ?_; rotate_left
        · (intro wS hSw; (try dsimp only at hSw); go_simp); all_goals with_reducible rfl
        try go_frame
        refine tk (oi := ⟨_, _, _, _, _, _⟩) (v := ?_) 5 rfl (by kernel_rfl) (fun _ _ _ h => h) (.inl ⟨by rfl, ?_⟩) (by assumption) ?_; rotate_left
        · (intro wS hSw; (try dsimp only at hSw); go_simp); all_goals with_reducible rfl
        try go_frame
        refine tk (oi := ⟨_, _, _, _, _, _⟩) (v := ?_) 6 rfl (by kernel_rfl) (fun _ _ _ h => h) (.inl ⟨by rfl, ?_⟩) (by assumption) ?_; rotate_left
        · (intro wS hSw; (try dsimp only at hSw); go_simp); all_goals with_reducible rfl
        try go_frame
        refine tk (oi := ⟨_, _, _, _, _, _⟩) (v := ?_) 7 rfl (by kernel_rfl) (fun _ _ _ h => h) (.inl ⟨by rfl, ?_⟩) (by assumption) ?_; rotate_left
        · (intro wS hSw; (try dsimp only at hSw); go_simp); all_goals with_reducible rfl
        try go_frame
        refine wpAnyH_ready (rs := [8]) (by kernel_rfl) (by simp) ?_
        refine AllReadyH.cons (o := ⟨_, _, _, _, _, _⟩) rfl (fun K hK => ?_) AllReadyH.nil
        refine wp_store_row 34 (.tmp 4) (.tmp 53) rfl w.heap.size (tokC pos t A c) rfl rfl 34 zeroTok HT4.out (by kernel_rfl) rfl (tokC_one _ _ _ _) ?_
        have HSR := HS.out.setRow (g := w.heap.size) (Nat.succ_ne_self _) (tokC pos t A c)
        refine hK.out _ _ (⟨HSR.all.2.1, HSR.all.2.2.1, HSR.all.2.2.2.1, HSR.all.2.2.2.2.1, HSR.all.2.2.2.2.2.1, HSR.all.2.2.2.2.2.2.1⟩) (fun hHeld => ?_)
        clear hK K
        try go_frame
        refine tk (oi := ⟨_, _, _, _, _, _⟩) (v := ?_) 9 rfl (by kernel_rfl) (fun _ _ _ h => h) (.inl ⟨by rfl, ?_⟩) (by assumption) ?_; rotate_left
        · (intro wS hSw; (try dsimp only at hSw); go_simp); all_goals with_reducible rfl
        try go_frame
        refine tk (oi := ⟨_, _, _, _, _, _⟩) (v := ?_) 10 rfl (by kernel_rfl) (fun _ _ _ h => h) (.inl ⟨by rfl, ?_⟩) (by assumption) ?_; rotate_left
        · (intro wS hSw; (try dsimp only at hSw); go_simp); all_goals with_reducible rfl
        try go_frame
        refine tk (oi := ⟨_, _, _, _, _, _⟩) (v := ?_) 11 rfl (by kernel_rfl) (fun _ _ _ h => h) (.inl ⟨by rfl, ?_⟩) (by assumption) ?_; rotate_left
        · (intro wS hSw; (try dsimp only at hSw); go_simp); all_goals with_reducible rfl
        try go_frame
        refine wpAnyH_done (by kernel_rfl) ?_ _
        clear hHeld
        go_wp2_with fail
        try simp only [Exit.inBlock, Exit.then]
        refine bodyPost_ret (results_cell3 Try.results20 _ _ w.heap.size 34 (tokC pos t A c) (0, 0) _ rfl (setRow_heap _ _ _ _ _ _ HT4.out) Try.underlying34 rfl (by kernel_rfl)) rfl ?_
        rw [HV.out]
        refine ⟨hb1.trans (below_row (((hbw.trans hb4).mono (Nat.le_succ _)).drew) (Nat.le_refl _) _), A, c, ?_, row_base (row_setRow HA4.out (Nat.lt_succ_self _) _) (Nat.le_succ _)⟩
        rw [show pos + (1 + n) = x by have := hx.out; omega]
        rfl
    | false =>
      obtain ⟨V', hV'⟩ : ∃ V', Hid (textT (s.data.toList.drop pos) = V') := ⟨_, rfl⟩
      have hVE : Hid (V = V'.past 0) := by
        show _ = _
        rw [← hV.out, Told.past_zero, ← hV'.out]
        unfold oneT
        rw [hm1.out, if_neg (by decide), hm2.out, if_neg (by decide)]
      go_enter Try.func20, Try.ntmps20
      go_wp2_with fail
      obtain ⟨W1, hW1⟩ : ∃ W1, Hid (W1 = (w.alloc (.cells #[.int .i64 0, .int .i64 0, .string ⟨#[]⟩, .string ⟨#[]⟩, .slice none 0 0] 34)).alloc (.cells #[.string s, .int .i64 pos, .int .i64 0, .int .i64 pos, .string ⟨#[]⟩, .string ⟨#[]⟩, .slice none 0 0, .int .i64 0, .int .i64 0] 64)) := ⟨_, rfl⟩
      rw [← hW1.out]
      have hR1 : Hid (RdAt W1 (w.heap.size + 1) (Rdr.new s pos pos)) := by show RdAt _ _ _; rw [hW1.out]; exact heap_alloc2_new _ _ _
      have hT1 : Hid (W1.heap[w.heap.size]? = some (.cells zeroTok 34 (0, 0))) := by show _ = _; rw [hW1.out]; exact heap_alloc2_old _ _ _
      have hb1 : Below w.heap.size w W1 := by rw [hW1.out]; exact ((Below.refl _ w).alloc (Nat.le_refl _) _).alloc (by simp) _
      have hz1 : w.heap.size + 1 ≤ W1.heap.size := by rw [hW1.out]; simp
      refine (is_any (w.heap.size + 1) _ W1 hR1.out [60, 47] (Nat.le_of_lt hp) hs false hm1 (by decide)).mono ?_
      rintro e W2 ⟨rfl, hW2, hg2⟩
      have HR2 : Hid (RdAt W2 (w.heap.size + 1) (Rdr.new s pos pos)) := hW2
      clear hW2
      go_wp2_with fail
      refine (is_any (w.heap.size + 1) _ W2 HR2.out [60] (Nat.le_of_lt hp) hs false hm2 (by decide)).mono ?_
      rintro e W3 ⟨rfl, hW3, hg3⟩
      have HR3 : Hid (RdAt W3 (w.heap.size + 1) (Rdr.new s pos pos)) := hW3
      have hbw : Below (w.heap.size + 1) W1 W3 := below_of_grown (grown_twice hg2 hg3) (Nat.le_refl _) hz1
      clear hW3
      go_wp2_with fail
      refine (text_any (w.heap.size + 1) (w.heap.size + 1) s pos pos W3 HR3.out (Nat.le_refl _) (Nat.le_trans hz1 hbw.size) (Nat.le_of_lt hp) hs V' hV').mono ?_
      rintro e W4 ⟨hb4, hpost⟩
      cases V' with
      | bad k c =>
        obtain ⟨rfl, R, hR4, hR41, hR42⟩ := hpost
        obtain ⟨x, hx⟩ : ∃ x, Hid (pos + k = x) := ⟨_, rfl⟩
        have HV : Hid (V = .bad (0 + k) c) := hVE.out
        rw [hx.out] at hR41
        obtain ⟨_, _, _, _, _, _, _, z7, z8⟩ := hR4.all
        rw [hR41] at z7
        rw [hR42] at z8
        have HT4 : Hid (W4.drew.heap[w.heap.size]? = some (.cells zeroTok 34 (0, 0))) := block_below ((hbw.trans hb4).drew) (Nat.lt_succ_self _) hT1.out
        clear hR41 hR42
        go_wp2_with fail
        refine wp_region_held_drew (S := fun w' => w'.cell? ⟨w.heap.size + 1, 7, none⟩ = some (.int .i64 x) ∧ w'.cell? ⟨w.heap.size + 1, 8, none⟩ = some (.int .i64 c)) (by kernel_rfl) ⟨z7, z8⟩ (fun hHeld => ?_)
        refine tk (oi := ⟨_, _, _, _, _, _⟩) (v := ?_) 0 rfl (by kernel_rfl) (fun _ _ _ h => h) (.inl ⟨by rfl, ?_⟩) (by assumption) ?_; rotate_left
        · (intro wS hSw; (try dsimp only at hSw); go_simp); all_goals with_reducible rfl
        try go_frame
        refine tk (oi := ⟨_, _, _, _, _, _⟩) (v := ?_) 1 rfl (by kernel_rfl) (fun _ _ _ h => h) (.inl ⟨by rfl, ?_⟩) (by assumption) ?_; rotate_left
        · (intro wS hSw; (try dsimp only at hSw); go_simp); all_goals with_reducible rfl
        try go_frame
        refine tk (oi := ⟨_, _, _, _, _, _⟩) (v := ?_) 2 rfl (by kernel_rfl) (fun _ _ _ h => h) (.inl ⟨by rfl, ?_⟩) (by assumption) ?_; rotate_left
        · (intro wS hSw; (try dsimp only at hSw); go_simp); all_goals with_reducible rfl
        try go_frame
        refine tk (oi := ⟨_, _, _, _, _, _⟩) (v := ?_) 3 rfl (by kernel_rfl) (fun _ _ _ h => h) (.inl ⟨by rfl, ?_⟩) (by assumption) ?_; rotate_left
        · (intro wS hSw; (try dsimp only at hSw); go_simp); all_goals with_reducible rfl
        try go_frame
        refine tk (oi := ⟨_, _, _, _, _, _⟩) (v := ?_) 4 rfl (by kernel_rfl) (fun _ _ _ h => h) (.inl ⟨by rfl, ?_⟩) (by assumption) ?_; rotate_left
        · (intro wS hSw; (try dsimp only at hSw); go_simp); all_goals with_reducible rfl
        try go_frame
        refine tk (oi := ⟨_, _, _, _, _, _⟩) (v := ?_) 5 rfl (by kernel_rfl) (fun _ _ _ h => h) (.inl ⟨by rfl, ?_⟩) (by assumption) ?_; rotate_left
        · (intro wS hSw; (try dsimp only at hSw); go_simp); all_goals with_reducible rfl
        try go_frame
        refine tk (oi := ⟨_, _, _, _, _, _⟩) (v := ?_) 6 rfl (by kernel_rfl) (fun _ _ _ h => h) (.inl ⟨by rfl, ?_⟩) (by assumption) ?_; rotate_left
        · (intro wS hSw; (try dsimp only at hSw); go_simp); all_goals with_reducible rfl
        try go_frame
        refine tk (oi := ⟨_, _, _, _, _, _⟩) (v := ?_) 7 rfl (by kernel_rfl) (fun _ _ _ h => h) (.inl ⟨by rfl, ?_⟩) (by assumption) ?_; rotate_left
        · (intro wS hSw; (try dsimp only at hSw); go_simp); all_goals with_reducible rfl
        try go_frame
        refine tk (oi := ⟨_, _, _, _, _, _⟩) (v := ?_) 8 rfl (by kernel_rfl) (fun _ _ _ h => h) (.inl ⟨by rfl, ?_⟩) (by assumption) ?_; rotate_left
        · (intro wS hSw; (try dsimp only at hSw); go_simp); all_goals with_reducible rfl
        try go_frame
        refine wpAnyH_ready (rs := [9]) (by kernel_rfl) (by simp) ?_
        refine AllReadyH.cons (o := ⟨_, _, _, _, _, _⟩) rfl (fun K hK => ?_) AllReadyH.nil
        refine wp_store_row 34 (.tmp 4) (.tmp 41) rfl w.heap.size zeroTok rfl rfl 34 zeroTok HT4.out (by kernel_rfl) rfl zeroTok_one ?_
        refine hK.out _ _ (⟨(cell_setRow_other _ _ _ _ (Nat.succ_ne_self _)).trans z7, (cell_setRow_other _ _ _ _ (Nat.succ_ne_self _)).trans z8⟩) (fun hHeld => ?_)
        clear hK K
        try go_frame
        refine tk (oi := ⟨_, _, _, _, _, _⟩) (v := ?_) 10 rfl (by kernel_rfl) (fun _ _ _ h => h) (.inl ⟨by rfl, ?_⟩) (by assumption) ?_; rotate_left
        · (intro wS hSw; (try dsimp only at hSw); go_simp); all_goals with_reducible rfl
        try go_frame
        refine tk (oi := ⟨_, _, _, _, _, _⟩) (v := ?_) 11 rfl (by kernel_rfl) (fun _ _ _ h => h) (.inl ⟨by rfl, ?_⟩) (by assumption) ?_; rotate_left
        · (intro wS hSw; (try dsimp only at hSw); go_simp); all_goals with_reducible rfl
        try go_frame
        refine tk (oi := ⟨_, _, _, _, _, _⟩) (v := ?_) 12 rfl (by kernel_rfl) (fun _ _ _ h => h) (.inl ⟨by rfl, ?_⟩) (by assumption) ?_; rotate_left
        · (intro wS hSw; (try dsimp only at hSw); go_simp); all_goals with_reducible rfl
        try go_frame
        refine wpAnyH_done (by kernel_rfl) ?_ _
        clear hHeld
        go_wp2_with fail
        try simp only [Exit.inBlock, Exit.then]
        refine bodyPost_ret (results_cell3 Try.results20 _ _ w.heap.size 34 zeroTok (0, 0) _ rfl (setRow_heap _ _ _ _ _ _ HT4.out) Try.underlying34 rfl (by kernel_rfl)) rfl ?_
        rw [HV.out]
        refine ⟨hb1.trans (below_row (((hbw.trans hb4).mono (Nat.le_succ _)).drew) (Nat.le_refl _) _), ?_⟩
        show _ = Ending.returned (.tuple #[.agg zeroTok, .int .i64 0, .int .i64 (pos + (0 + k) : Nat), .int .i64 c])
        rw [show pos + (0 + k) = x by have := hx.out; omega]
        rfl
      | ok t n =>
        obtain ⟨rfl, A, c, hR4, hA4⟩ := hpost
        obtain ⟨x, hx⟩ : ∃ x, Hid (pos + n = x) := ⟨_, rfl⟩
        have HV : Hid (V = .ok t (0 + n)) := hVE.out
        rw [hx.out] at hR4
        obtain ⟨_, z1, z2, z3, z4, z5, z6, _⟩ := hR4.all
        have HT4 : Hid (W4.drew.heap[w.heap.size]? = some (.cells zeroTok 34 (0, 0))) := block_below ((hbw.trans hb4).drew) (Nat.lt_succ_self _) hT1.out
        have HA4 : Hid (AttrsOwn W4.drew (w.heap.size + 1) A c t.attrs) := hA4
        clear hA4
        go_wp2_with fail
        have HS : Hid (RdAt W4.drew (w.heap.size + 1) ⟨s, x, t.kind, pos, t.name, t.text, A, t.attrs.length, c, 0, 0⟩) := hR4
        refine wp_region_held_drew (S := fun w' => w'.cell? ⟨w.heap.size + 1, 1, none⟩ = some (.int .i64 x) ∧ w'.cell? ⟨w.heap.size + 1, 2, none⟩ = some (.int .i64 t.kind) ∧ w'.cell? ⟨w.heap.size + 1, 3, none⟩ = some (.int .i64 pos) ∧ w'.cell? ⟨w.heap.size + 1, 4, none⟩ = some (.string ⟨t.name.toArray⟩) ∧ w'.cell? ⟨w.heap.size + 1, 5, none⟩ = some (.string ⟨t.text.toArray⟩) ∧ w'.cell? ⟨w.heap.size + 1, 6, none⟩ = some (.slice A t.attrs.length c)) (by kernel_rfl) ⟨z1, z2, z3, z4, z5, z6⟩ (fun hHeld => ?_)
        refine tk (oi := ⟨_, _, _, _, _, _⟩) (v := ?_) 0 rfl (by kernel_rfl) (fun _ _ _ h => h) (.inl ⟨by rfl, ?_⟩) (by assumption) ?_; rotate_left
        · (intro wS hSw; (try dsimp only at hSw); go_simp); all_goals with_reducible rfl
        try go_frame
        refine tk (oi := ⟨_, _, _, _, _, _⟩) (v := ?_) 1 rfl (by kernel_rfl) (fun _ _ _ h => h) (.inl ⟨by rfl, ?_⟩) (by assumption) ?_; rotate_left
        · (intro wS hSw; (try dsimp only at hSw); go_simp); all_goals with_reducible rfl
        try go_frame
        refine tk (oi := ⟨_, _, _, _, _, _⟩) (v := ?_) 2 rfl (by kernel_rfl) (fun _ _ _ h => h) (.inl ⟨by rfl, ?_⟩) (by assumption) ?_; rotate_left
        · (intro wS hSw; (try dsimp only at hSw); go_simp); all_goals with_reducible rfl
        try go_frame
        refine tk (oi := ⟨_, _, _, _, _, _⟩) (v := ?_) 3 rfl (by kernel_rfl) (fun _ _ _ h => h) (.inl ⟨by rfl, ?_⟩) (by assumption) ?_; rotate_left
        · (intro wS hSw; (try dsimp only at hSw); go_simp); all_goals with_reducible rfl
        try go_frame
        refine tk (oi := ⟨_, _, _, _, _, _⟩) (v := ?_) 4 rfl (by kernel_rfl) (fun _ _ _ h => h) (.inl ⟨by rfl, ?_⟩) (by assumption) ?_; rotate_left
        · (intro wS hSw; (try dsimp only at hSw); go_simp); all_goals with_reducible rfl
        try go_frame
        refine tk (oi := ⟨_, _, _, _, _, _⟩) (v := ?_) 5 rfl (by kernel_rfl) (fun _ _ _ h => h) (.inl ⟨by rfl, ?_⟩) (by assumption) ?_; rotate_left
        · (intro wS hSw; (try dsimp only at hSw); go_simp); all_goals with_reducible rfl
        try go_frame
        refine tk (oi := ⟨_, _, _, _, _, _⟩) (v := ?_) 6 rfl (by kernel_rfl) (fun _ _ _ h => h) (.inl ⟨by rfl, ?_⟩) (by assumption) ?_; rotate_left
        · (intro wS hSw; (try dsimp only at hSw); go_simp); all_goals with_reducible rfl
        try go_frame
        refine tk (oi := ⟨_, _, _, _, _, _⟩) (v := ?_) 7 rfl (by kernel_rfl) (fun _ _ _ h => h) (.inl ⟨by rfl, ?_⟩) (by assumption) ?_; rotate_left
        · (intro wS hSw; (try dsimp only at hSw); go_simp); all_goals with_reducible rfl
        try go_frame
        refine wpAnyH_ready (rs := [8]) (by kernel_rfl) (by simp) ?_
        refine AllReadyH.cons (o := ⟨_, _, _, _, _, _⟩) rfl (fun K hK => ?_) AllReadyH.nil
        refine wp_store_row 34 (.tmp 4) (.tmp 53) rfl w.heap.size (tokC pos t A c) rfl rfl 34 zeroTok HT4.out (by kernel_rfl) rfl (tokC_one _ _ _ _) ?_
        have HSR := HS.out.setRow (g := w.heap.size) (Nat.succ_ne_self _) (tokC pos t A c)
        refine hK.out _ _ (⟨HSR.all.2.1, HSR.all.2.2.1, HSR.all.2.2.2.1, HSR.all.2.2.2.2.1, HSR.all.2.2.2.2.2.1, HSR.all.2.2.2.2.2.2.1⟩) (fun hHeld => ?_)
        clear hK K
        try go_frame
        refine tk (oi := ⟨_, _, _, _, _, _⟩) (v := ?_) 9 rfl (by kernel_rfl) (fun _ _ _ h => h) (.inl ⟨by rfl, ?_⟩) (by assumption) ?_; rotate_left
        · (intro wS hSw; (try dsimp only at hSw); go_simp); all_goals with_reducible rfl
        try go_frame
        refine tk (oi := ⟨_, _, _, _, _, _⟩) (v := ?_) 10 rfl (by kernel_rfl) (fun _ _ _ h => h) (.inl ⟨by rfl, ?_⟩) (by assumption) ?_; rotate_left
        · (intro wS hSw; (try dsimp only at hSw); go_simp); all_goals with_reducible rfl
        try go_frame
        refine tk (oi := ⟨_, _, _, _, _, _⟩) (v := ?_) 11 rfl (by kernel_rfl) (fun _ _ _ h => h) (.inl ⟨by rfl, ?_⟩) (by assumption) ?_; rotate_left
        · (intro wS hSw; (try dsimp only at hSw); go_simp); all_goals with_reducible rfl
        try go_frame
        refine wpAnyH_done (by kernel_rfl) ?_ _
        clear hHeld
        go_wp2_with fail
        try simp only [Exit.inBlock, Exit.then]
        refine bodyPost_ret (results_cell3 Try.results20 _ _ w.heap.size 34 (tokC pos t A c) (0, 0) _ rfl (setRow_heap _ _ _ _ _ _ HT4.out) Try.underlying34 rfl (by kernel_rfl)) rfl ?_
        rw [HV.out]
        refine ⟨hb1.trans (below_row (((hbw.trans hb4).mono (Nat.le_succ _)).drew) (Nat.le_refl _) _), A, c, ?_, row_base (row_setRow HA4.out (Nat.lt_succ_self _) _) (Nat.le_succ _)⟩
        rw [show pos + (0 + n) = x by have := hx.out; omega]
        rfl

set_option maxRecDepth 100000 in
set_option maxHeartbeats 2000000 in
/-- at no place of the text -/
theorem One_out (s : ByteArray) (i : Int) (w : World) (hi : (i < 0 || (s.size : Int) ≤ i) = true) :
    Calls Try.prog 20 #[.string s, .int .i64 i] w (Ret w (.tuple #[.agg zeroTok, .int .i64 0, .int .i64 i, .int .i64 30])) := by
  by_cases h0 : i < 0
  · go_enter Try.func20, Try.ntmps20
    go_wp2_with fail
    try simp only [Exit.inBlock, Exit.then]
    refine bodyPost_ret (results_cell3 Try.results20 _ _ w.heap.size 34 zeroTok (0, 0) _ rfl (heap_alloc_new w _) Try.underlying34 rfl (by kernel_rfl)) rfl ?_
    exact ⟨rfl, (Below.refl _ w).alloc (Nat.le_refl _) _⟩
  · have h1 : (s.size : Int) ≤ i := by simpa [h0] using hi
    clear hi
    go_enter Try.func20, Try.ntmps20
    go_wp2_with fail
    try simp only [Exit.inBlock, Exit.then]
    refine bodyPost_ret (results_cell3 Try.results20 _ _ w.heap.size 34 zeroTok (0, 0) _ rfl (heap_alloc_new w _) Try.underlying34 rfl (by kernel_rfl)) rfl ?_
    exact ⟨rfl, (Below.refl _ w).alloc (Nat.le_refl _) _⟩
end Go.Proofs.Ythifddkmbjnncaa

/-
  lexis.All walked.
-/
namespace Go.Proofs.Ythifddkmbjnncaa
open Go.RowKit

theorem own_keep {w w' : World} {B : Nat} {e : TypeId} {size : Nat} {v : Value} {n : Nat} {xs : List Value} (h : w.ownsRow B e size v n xs) (hb : Below w.heap.size w w') : w'.ownsRow B e size v n xs := by
  refine ⟨h.1, ?_⟩
  rcases h.2 with h | ⟨g, cap, cur, h1, h2, h3, h4⟩
  · exact .inl h
  · exact .inr ⟨g, cap, cur, h1, h2, by rw [hb.block g (Array.getElem?_eq_some_iff.1 h3).1]; exact h3, h4⟩

/-- A token with where it stands, and where its attributes stand. -/
abbrev TSlot := (Nat × TokD) × Option Addr × Nat
def cellsT (x : TSlot) : List Value := [.int .i64 x.1.2.kind, .int .i64 x.1.1, strV x.1.2.name, strV x.1.2.text, .slice x.2.1 x.1.2.attrs.length x.2.2]
theorem cellsT_length (x : TSlot) : (cellsT x).length = 5 := rfl
theorem cellsT_one (x : TSlot) : ∀ u ∈ cellsT x, u.oneCell' = true := by
  intro u hu
  simp [cellsT, strV] at hu
  rcases hu with rfl | rfl | rfl | rfl | rfl <;> rfl
theorem infoToken : (Try.prog.info? 34).map (fun i => (i.zero, i.size, i.bytes)) = some (some (.agg #[.int .i64 0, .int .i64 0, .string ByteArray.empty, .string ByteArray.empty, .slice none 0 0]), 5, 72) := by kernel_rfl
def TokensOwn (w : World) (B : Nat) (A : Option Addr) (c : Nat) (S : List TSlot) : Prop := w.ownsRow B 34 5 (.slice A S.length c) S.length (S.flatMap cellsT)
def TAttrs (w : World) (B : Nat) (S : List TSlot) : Prop := ∀ x ∈ S, AttrsOwn w B x.2.1 x.2.2 x.1.2.attrs

def AllPost3 (w : World) (R : List (Nat × TokD) × Nat × Int) (e : Ending) (w' : World) : Prop :=
  Below w.heap.size w w' ∧ ((R.2.2 = 0 ∧ ∃ A c S, e = .returned (.tuple #[.slice A S.length c, .int .i64 0, .int .i64 0]) ∧ TokensOwn w' w.heap.size A c S ∧ TAttrs w' w.heap.size S ∧ S.map (·.1) = R.1)
    ∨ (R.2.2 ≠ 0 ∧ e = .returned (.tuple #[.slice none 0 0, .int .i64 R.2.1, .int .i64 R.2.2])))

theorem TAttrs.keep {w w' : World} {B : Nat} {S : List TSlot} (h : TAttrs w B S) {B' : Nat} (hb : Below B' w w') (hz : w.heap.size ≤ B') : TAttrs w' B S := fun x hx => own_keep (h x hx) (hb.mono hz)

theorem allF_form : ∀ (f : Nat) (p : Nat) (l : List UInt8), l.length < f → (allF f p l).2.2 = 0 → (allF f p l).2.1 = 0
  | 0, _, _, h, _ => by omega
  | f + 1, p, l, hf, h => by
    rw [allF] at h ⊢
    split
    · rfl
    · rename_i hl
      rw [if_neg hl] at h
      have hw := oneT_within l hl
      cases ho : oneT l with
      | bad k e => rw [ho] at h hw; exact absurd h hw.2
      | ok t n =>
        simp only
        split
        · rfl
        · rename_i hq
          rw [ho] at h
          simp only at h
          rw [if_neg hq] at h
          exact absurd h hq
theorem allF_empty : ∀ (f : Nat) (p : Nat) (l : List UInt8), (allF f p l).2.2 ≠ 0 → (allF f p l).1 = []
  | 0, _, _, h => absurd rfl h
  | f + 1, p, l, h => by
    rw [allF] at h ⊢
    split
    · rfl
    · rename_i hl
      rw [if_neg hl] at h
      cases ho : oneT l with
      | bad k e => rfl
      | ok t n =>
        rw [ho] at h
        simp only at h ⊢
        split
        · rename_i hq; rw [if_pos hq] at h; exact absurd rfl h
        · rfl
theorem joinT_start (p : Nat) (l : List UInt8) : joinT [] (allL p l) = allL p l := by
  unfold joinT
  by_cases h : (allL p l).2.2 = 0
  · have h1 := allF_form (l.length + 1) p l (Nat.lt_succ_self _) h
    rw [if_pos h]
    show ([] ++ (allL p l).1, 0, 0) = allL p l
    have e1 : (allL p l).2.1 = 0 := h1
    rw [List.nil_append]
    exact Prod.ext rfl (Prod.ext e1.symm h.symm)
  · rw [if_neg h]
    have h1 := allF_empty (l.length + 1) p l h
    exact Prod.ext h1.symm rfl


set_option maxRecDepth 100000 in
set_option maxHeartbeats 2000000 in
theorem All_any (s : ByteArray) (w : World) (hs : s.size ≤ 1000000000) (R : List (Nat × TokD) × Nat × Int) (hR : Hid (allL 0 s.data.toList = R)) :
    Calls Try.prog 17 #[.string s] w (AllPost3 w R) := by
  have HL := Lib.hid (size_toList s)
  have hJ0 : Hid (joinT [] (allL 0 (s.data.toList.drop 0)) = R) := by
    show _ = _
    rw [List.drop_zero, hR.out]
    rw [← hR.out]
    exact joinT_start _ _
  go_enter Try.func17, Try.ntmps17
  go_wp2_with fail
  go_loopw [5, 6] (fun l i wr => ∃ (pos : Nat) (S : List TSlot) (A : Option Addr) (c m : Nat), pos ≤ s.size ∧ m ≤ pos ∧ i = .int .i64 pos ∧ l = .slice A m c ∧ Hid (S.length = m) ∧ Hid (TokensOwn wr w.heap.size A c S) ∧ Hid (TAttrs wr w.heap.size S) ∧ Hid (Below w.heap.size w wr) ∧ Hid (joinT (S.map (·.1)) (allL pos (s.data.toList.drop pos)) = R)) (fun _ i _ => s.size - (intOf i).toNat)
  case atStart => exact ⟨0, [], none, 0, 0, Nat.zero_le _, Nat.le_refl _, rfl, rfl, rfl, World.ownsRow_nil _ _ _ _, (fun _ h => absurd h List.not_mem_nil : TAttrs w w.heap.size []), Below.refl _ _, hJ0.out⟩
  case round =>
    obtain ⟨pos, S, A, c, m, hps, hmp, rfl, rfl, hm, hown, hat, hbel, hin⟩ := hrel
    by_cases hlt : pos < s.size
    · have hlt' : (pos : Int) < s.size := by omega
      have hne : Hid (s.data.toList.drop pos ≠ []) := by
        show _ ≠ _
        intro e
        have := congrArg List.length e
        rw [List.length_drop, HL.out] at this
        simp at this; omega
      obtain ⟨V, hV⟩ : ∃ V, Hid (oneT (s.data.toList.drop pos) = V) := ⟨_, rfl⟩
      have hwit := oneT_within _ hne.out
      rw [hV.out, List.length_drop, HL.out] at hwit
      go_wp2_with fail
      refine (One_any s pos wr hlt hs V hV).mono ?_
      rintro e1 w2 ⟨hb2, hpost⟩
      cases V with
      | bad k e =>
        have he : e ≠ 0 := hwit.2
        have he1 : (e != 0) = true := by simpa using he
        have HE := Lib.hid he
        have HR : Hid (R = ([], pos + k, e)) := by
          show _ = _
          rw [← hin.out, joinT_one_bad _ _ _ hne.out k e hV.out]
        have hee : e1 = .returned (.tuple #[.agg #[.int .i64 0, .int .i64 0, .string ⟨#[]⟩, .string ⟨#[]⟩, .slice none 0 0], .int .i64 0, .int .i64 (pos + k : Nat), .int .i64 e]) := hpost
        clear he hwit hpost
        subst hee
        go_wp2_with fail
        go_ret3
        rw [HR.out]
        exact ⟨hbel.out.trans ((hb2.mono hbel.out.size).alloc (Nat.le_trans hbel.out.size hb2.size) _), .inr ⟨HE.out, rfl⟩⟩
      | ok t n =>
        obtain ⟨A2, c2, hee0, hA2'⟩ := hpost
        have hee : e1 = .returned (.tuple #[.agg #[.int .i64 t.kind, .int .i64 pos, .string ⟨t.name.toArray⟩, .string ⟨t.text.toArray⟩, .slice A2 t.attrs.length c2], .int .i64 (pos + n : Nat), .int .i64 0, .int .i64 0]) := hee0
        clear hee0
        subst hee
        have hA2 := Lib.hid hA2'
        clear hA2'
        obtain ⟨W2, hW2⟩ : ∃ W2, Hid (W2 = w2.alloc (.cells #[.int .i64 t.kind, .int .i64 pos, .string ⟨t.name.toArray⟩, .string ⟨t.text.toArray⟩, .slice A2 t.attrs.length c2] 34)) := ⟨_, rfl⟩
        have hb2' : Below wr.heap.size wr W2 := by rw [hW2.out]; exact hb2.alloc hb2.size _
        have hown2 : W2.ownsRow w.heap.size 34 5 (.slice A m c) m (S.flatMap cellsT) := by rw [← hm.out]; exact own_keep hown.out hb2'
        have hat2 : Hid (TAttrs W2 w.heap.size (S ++ [((pos, t), A2, c2)])) := fun x hx => by
          rcases List.mem_append.1 hx with h | h
          · exact own_keep (hat.out x h) hb2'
          · simp at h; subst h
            rw [hW2.out]
            exact row_base (World.ownsRow.alloc hA2.out _) hbel.out.size
        have hz2 : w.heap.size ≤ W2.heap.size := Nat.le_trans hbel.out.size hb2'.size
        have HIN : Hid (joinT ((S ++ [((pos, t), A2, c2)]).map (·.1)) (allL (pos + n) (s.data.toList.drop (pos + n))) = R) := by
          show _ = _
          rw [List.map_append, ← hin.out, joinT_step _ pos _ hne.out t n hV.out, List.drop_drop]
          rfl
        go_wp2_with (at_builtin; rw [← hW2.out]; go_loud (refine appendS rfl (.tmp 27) (.tmp 29) 23 rfl w.heap.size 34 (.agg #[.int .i64 0, .int .i64 0, .string ByteArray.empty, .string ByteArray.empty, .slice none 0 0]) 5 72 Try.underlying23 infoToken rfl (by decide) _ m _ (cellsT ((pos, t), A2, c2)) rfl hown2 hz2 _ rfl (by rw [hW2.out]; simp) (cellsT_length _) (cellsT_one _) (by omega) (by decide) ?_))
        intro a4 c4 w4 hown4 hb4 hz4 hg4
        have hown4' : TokensOwn w4 w.heap.size a4 c4 (S ++ [((pos, t), A2, c2)]) := by
          unfold TokensOwn
          rw [List.length_append, List.flatMap_append, hm.out]
          simpa using hown4
        have hat4 : Hid (TAttrs w4 w.heap.size (S ++ [((pos, t), A2, c2)])) := fun x hx => own_grown (World.ownsRow.alloc (hat2.out x hx) _) (World.ownsRow.alloc hown2 _) (by decide) hg4
        have hb4' : Below w.heap.size w w4 := hbel.out.trans ((hb2'.mono hbel.out.size).trans hb4)
        obtain ⟨hn1, hn2⟩ := hwit
        clear hown4 hg4
        go_wp2_with fail
        go_roundw
        case rel => exact ⟨pos + n, S ++ [((pos, t), A2, c2)], a4, c4, m + 1, by omega, by omega, by go_num, rfl, by show _ = _; rw [List.length_append, hm.out]; rfl, hown4', hat4.out, hb4', HIN.out⟩
        case measure => simp [intOf]; omega
    · have hlt' : (s.size : Int) ≤ (pos : Int) := by omega
      have HR : Hid (R = (S.map (·.1), 0, 0)) := by
        show _ = _
        rw [← hin.out, List.drop_eq_nil_of_le (by rw [HL.out]; omega), allL_nil, joinT_nil]
      go_wp2_with fail
      go_ret3
      rw [HR.out]
      exact ⟨hbel.out, .inl ⟨rfl, A, c, S, by rw [hm.out]; rfl, hown.out, hat.out, rfl⟩⟩
end Go.Proofs.Ythifddkmbjnncaa

/-
  The document's One walked.
-/
namespace Go.Proofs.Ythifddkmbjnncaa
open Go.RowKit


set_option maxRecDepth 100000 in
set_option maxHeartbeats 8000000 in
theorem ROne_any (s : ByteArray) (p : Nat) (w : World) (hp : p < s.size) (hs : s.size ≤ 1000000000) (V : Told TokD) (hV : Hid (oneT (s.data.toList.drop p) = V)) :
    Calls Try.prog 38 #[.string s, .int .i64 p] w (OnePost w p V) := by
  have HL := Lib.hid (size_toList s)
  have i0 : (0 : Int) ≤ (p : Int) := by omega
  have i1 : (p : Int) < s.size := by omega
  obtain ⟨m1, hm1⟩ : ∃ m1, Hid (pre [60, 47] (s.data.toList.drop p) = m1) := ⟨_, rfl⟩
  obtain ⟨m2, hm2⟩ : ∃ m2, Hid (pre [60] (s.data.toList.drop p) = m2) := ⟨_, rfl⟩
  obtain ⟨y, HY⟩ : ∃ y, Hid (s.data.toList[p]? = some y) := ⟨s.data.toList[p]'(by have := HL.out; omega), List.getElem?_eq_getElem _⟩
  have hsy : s[p] = y := getk_of s p y HY.out hp
  have hy60 : Hid ((y == 60) = m2) := by
    show _ = _
    rw [← hm2.out, drop_cons HY.out]
    simp [pre]
  go_enter Try.func38, Try.ntmps38
  go_wp2_with fail
  obtain ⟨W1, hW1⟩ : ∃ W1, Hid (W1 = (w.alloc (.cells zeroTok 33)).alloc (.cells zeroSt 94)) := ⟨_, rfl⟩
  change Calls _ _ _ ((w.alloc (.cells zeroTok 33)).alloc (.cells zeroSt 94)) _
  rw [← hW1.out]
  have hb1 : Below w.heap.size w W1 := by rw [hW1.out]; exact ((Below.refl _ w).alloc (Nat.le_refl _) _).alloc (by simp) _
  have HT1 : Hid (W1.heap[w.heap.size]? = some (.cells zeroTok 33 (0, 0))) := by show _ = _; rw [hW1.out]; exact heap_alloc2_old _ _ _
  have HX1 : Hid (StAt W1 (w.heap.size + 1) zeroSt) := by show StAt _ _ _; rw [hW1.out]; exact heap_alloc2_new _ _ _
  refine (there_any s p [60, 47] W1 (Nat.le_of_lt hp) hs (by decide) m1 hm1).mono ?_
  rintro e w2 ⟨rfl, hb2⟩
  have HT2 := Lib.hid (blk_below hb2 HT1.out)
  have HX2 : Hid (StAt w2 (w.heap.size + 1) zeroSt) := blk_below hb2 HX1.out
  have hz2 : w.heap.size + 2 ≤ w2.heap.size := (Array.getElem?_eq_some_iff.1 HX2.out).1
  cases m1 with
  | true =>
    obtain ⟨V', hV'⟩ : ∃ V', Hid (endT (s.data.toList.drop (p + 2)) = V') := ⟨_, rfl⟩
    have hVE : Hid (V = V'.past 2) := by
      show _ = _
      rw [← hV.out]
      unfold oneT
      rw [hm1.out, if_pos rfl, List.drop_drop, hV'.out]
    have hp2 : p + 2 ≤ s.size := by have := pre_len hm1.out; rw [List.length_drop, HL.out] at this; simp at this; omega
    have hwit := endT_within (s.data.toList.drop (p + 2))
    go_wp2_with fail
    refine (rend_any s p w2 hp2 hs V' hV').mono ?_
    rintro e w4 ⟨hb4, hpost⟩
    have hbw : Below w.heap.size W1 w4 := (hb2.trans (hb4.mono hb2.size)).mono hb1.size
    have HT4 := Lib.hid (blk_below hb4 HT2.out)
    have HX4 : Hid (StAt w4 (w.heap.size + 1) zeroSt) := blk_below hb4 HX2.out
    have hz4 := hz2
    cases V' with
    | bad k c =>
      obtain rfl := hpost
      have HV : Hid (V = .bad (2 + k) c) := hVE.out
      have hcn : (c != 0) = true := by have := hwit; rw [hV'.out] at this; simpa using this.2
      have HXN : Hid (StAt (w4.setRow (w.heap.size + 1) (stC 0 0 0 [] [] none 0 0 (p + 2 + k : Nat) c)) (w.heap.size + 1) (stC 0 0 0 [] [] none 0 0 (p + 2 + k : Nat) c)) := StAt.set HX4.out
      obtain ⟨x, hx⟩ : ∃ x : Nat, Hid (p + 2 + k = x) := ⟨_, rfl⟩
      have HXN2 := HXN.out
      rw [hx.out] at HXN2
      have HTN : Hid ((w4.setRow (w.heap.size + 1) (stC 0 0 0 [] [] none 0 0 x c)).drew.heap[w.heap.size]? = some (.cells zeroTok 33 (0, 0))) := (setRow_other _ _ _ _ (by omega)).trans HT4.out
      rw [hx.out]
      obtain ⟨q0, q1, q2, q3, q4, q5, q6, q7, _⟩ := HXN2.cells
      clear HXN HXN2 hwit
      go_wp2_with (refine wpList_store_row rfl 94 (.tmp 8) (.tmp 24) rfl (w.heap.size + 1) (stC 0 0 0 [] [] none 0 0 x c) rfl rfl 94 zeroSt HX4.out (by kernel_rfl) rfl (stC_one _ _ _ _ _ _ _ _ _ _) ?_)
      refine wp_region_held_drew (S := fun w' => w'.cell? ⟨w.heap.size + 1, 6, none⟩ = some (.int .i64 x) ∧ w'.cell? ⟨w.heap.size + 1, 7, none⟩ = some (.int .i64 c)) (by kernel_rfl) ⟨q6, q7⟩ (fun hHeld => ?_)
      refine tk (oi := ⟨_, _, _, _, _, _⟩) (v := ?_) 0 rfl (by kernel_rfl) (fun _ _ _ h => h) (.inl ⟨by rfl, ?_⟩) (by assumption) ?_; rotate_left
      · (intro wS hSw; (try dsimp only at hSw); go_simp); all_goals with_reducible rfl
      try go_frame
      refine tk (oi := ⟨_, _, _, _, _, _⟩) (v := ?_) 1 rfl (by kernel_rfl) (fun _ _ _ h => h) (.inl ⟨by rfl, ?_⟩) (by assumption) ?_; rotate_left
      · (intro wS hSw; (try dsimp only at hSw); go_simp); all_goals with_reducible rfl
      try go_frame
      refine tk (oi := ⟨_, _, _, _, _, _⟩) (v := ?_) 2 rfl (by kernel_rfl) (fun _ _ _ h => h) (.inl ⟨by rfl, ?_⟩) (by assumption) ?_; rotate_left
      · (intro wS hSw; (try dsimp only at hSw); go_simp); all_goals with_reducible rfl
      try go_frame
      refine tk (oi := ⟨_, _, _, _, _, _⟩) (v := ?_) 3 rfl (by kernel_rfl) (fun _ _ _ h => h) (.inl ⟨by rfl, ?_⟩) (by assumption) ?_; rotate_left
      · (intro wS hSw; (try dsimp only at hSw); go_simp); all_goals with_reducible rfl
      try go_frame
      refine tk (oi := ⟨_, _, _, _, _, _⟩) (v := ?_) 4 rfl (by kernel_rfl) (fun _ _ _ h => h) (.inl ⟨by rfl, ?_⟩) (by assumption) ?_; rotate_left
      · (intro wS hSw; (try dsimp only at hSw); go_simp); all_goals with_reducible rfl
      try go_frame
      refine wpAnyH_ready (rs := [5]) (by kernel_rfl) (by simp) ?_
      refine AllReadyH.cons (o := ⟨_, _, _, _, _, _⟩) rfl (fun K hK => ?_) AllReadyH.nil
      refine wp_store_row 33 (.tmp 4) (.tmp 38) rfl w.heap.size zeroTok rfl rfl 33 zeroTok HTN.out (by kernel_rfl) rfl zeroTok_one ?_
      refine hK.out _ _ (⟨(cell_setRow_other _ _ _ _ (Nat.succ_ne_self _)).trans q6, (cell_setRow_other _ _ _ _ (Nat.succ_ne_self _)).trans q7⟩) (fun hHeld => ?_)
      clear hK K
      try go_frame
      refine tk (oi := ⟨_, _, _, _, _, _⟩) (v := ?_) 6 rfl (by kernel_rfl) (fun _ _ _ h => h) (.inl ⟨by rfl, ?_⟩) (by assumption) ?_; rotate_left
      · (intro wS hSw; (try dsimp only at hSw); go_simp); all_goals with_reducible rfl
      try go_frame
      refine tk (oi := ⟨_, _, _, _, _, _⟩) (v := ?_) 7 rfl (by kernel_rfl) (fun _ _ _ h => h) (.inl ⟨by rfl, ?_⟩) (by assumption) ?_; rotate_left
      · (intro wS hSw; (try dsimp only at hSw); go_simp); all_goals with_reducible rfl
      try go_frame
      refine tk (oi := ⟨_, _, _, _, _, _⟩) (v := ?_) 8 rfl (by kernel_rfl) (fun _ _ _ h => h) (.inl ⟨by rfl, ?_⟩) (by assumption) ?_; rotate_left
      · (intro wS hSw; (try dsimp only at hSw); go_simp); all_goals with_reducible rfl
      try go_frame
      refine wpAnyH_done (by kernel_rfl) ?_ _
      clear hHeld
      go_wp2_with fail
      try simp only [Exit.inBlock, Exit.then]
      refine bodyPost_ret (results_cell3 Try.results38 _ _ w.heap.size 33 zeroTok (0, 0) _ rfl (setRow_heap _ _ _ _ _ _ HTN.out) Try.underlying33 rfl (by kernel_rfl)) rfl ?_
      rw [HV.out]
      refine ⟨below_row ((below_row (hb1.trans hbw) (Nat.le_succ _) _).drew) (Nat.le_refl _) _, ?_⟩
      show _ = Ending.returned (.tuple #[.agg zeroTok, .int .i64 0, .int .i64 (p + (2 + k) : Nat), .int .i64 c])
      rw [show p + (2 + k) = x by have := hx.out; omega]
      rfl
    | ok t n =>
      obtain ⟨A, c, rfl, hA4⟩ := hpost
      have HV : Hid (V = .ok t (2 + n)) := hVE.out
      obtain ⟨x, hx⟩ : ∃ x : Nat, Hid (p + 2 + n = x) := ⟨_, rfl⟩
      have HXN : Hid (StAt (w4.setRow (w.heap.size + 1) (stC x t.kind p t.name t.text A t.attrs.length c 0 0)) (w.heap.size + 1) (stC x t.kind p t.name t.text A t.attrs.length c 0 0)) := StAt.set HX4.out
      have HTN : Hid ((w4.setRow (w.heap.size + 1) (stC x t.kind p t.name t.text A t.attrs.length c 0 0)).drew.heap[w.heap.size]? = some (.cells zeroTok 33 (0, 0))) := (setRow_other _ _ _ _ (by omega)).trans HT4.out
      rw [hx.out]
      obtain ⟨q0, q1, q2, q3, q4, q5, q6, q7, _⟩ := HXN.out.cells
      have HA4 : Hid (AttrsOwn (w4.setRow (w.heap.size + 1) (stC x t.kind p t.name t.text A t.attrs.length c 0 0)).drew (w.heap.size + 2) A c t.attrs) := row_setRow (row_base hA4 hz4) (by omega) _
      clear hA4 hwit
      go_wp2_with (refine wpList_store_row rfl 94 (.tmp 8) (.tmp 24) rfl (w.heap.size + 1) (stC x t.kind p t.name t.text A t.attrs.length c 0 0) rfl rfl 94 zeroSt HX4.out (by kernel_rfl) rfl (stC_one _ _ _ _ _ _ _ _ _ _) ?_)
      refine wp_region_held_drew (S := fun w' => w'.cell? ⟨w.heap.size + 1, 0, none⟩ = some (.int .i64 x) ∧ w'.cell? ⟨w.heap.size + 1, 1, none⟩ = some (.int .i64 t.kind) ∧ w'.cell? ⟨w.heap.size + 1, 2, none⟩ = some (.int .i64 p) ∧ w'.cell? ⟨w.heap.size + 1, 3, none⟩ = some (.string ⟨t.name.toArray⟩) ∧ w'.cell? ⟨w.heap.size + 1, 4, none⟩ = some (.string ⟨t.text.toArray⟩) ∧ w'.cell? ⟨w.heap.size + 1, 5, none⟩ = some (.slice A t.attrs.length c)) (by kernel_rfl) ⟨q0, q1, q2, q3, q4, q5⟩ (fun hHeld => ?_)
      refine tk (oi := ⟨_, _, _, _, _, _⟩) (v := ?_) 0 rfl (by kernel_rfl) (fun _ _ _ h => h) (.inl ⟨by rfl, ?_⟩) (by assumption) ?_; rotate_left
      · (intro wS hSw; (try dsimp only at hSw); go_simp); all_goals with_reducible rfl
      try go_frame
      refine tk (oi := ⟨_, _, _, _, _, _⟩) (v := ?_) 1 rfl (by kernel_rfl) (fun _ _ _ h => h) (.inl ⟨by rfl, ?_⟩) (by assumption) ?_; rotate_left
      · (intro wS hSw; (try dsimp only at hSw); go_simp); all_goals with_reducible rfl
      try go_frame
      refine tk (oi := ⟨_, _, _, _, _, _⟩) (v := ?_) 2 rfl (by kernel_rfl) (fun _ _ _ h => h) (.inl ⟨by rfl, ?_⟩) (by assumption) ?_; rotate_left
      · (intro wS hSw; (try dsimp only at hSw); go_simp); all_goals with_reducible rfl
      try go_frame
      refine tk (oi := ⟨_, _, _, _, _, _⟩) (v := ?_) 3 rfl (by kernel_rfl) (fun _ _ _ h => h) (.inl ⟨by rfl, ?_⟩) (by assumption) ?_; rotate_left
      · (intro wS hSw; (try dsimp only at hSw); go_simp); all_goals with_reducible rfl
      try go_frame
      refine wpAnyH_ready (rs := [4]) (by kernel_rfl) (by simp) ?_
      refine AllReadyH.cons (o := ⟨_, _, _, _, _, _⟩) rfl (fun K hK => ?_) AllReadyH.nil
      refine wp_store_row 33 (.tmp 4) (.tmp 44) rfl w.heap.size (tokC p t A c) rfl rfl 33 zeroTok HTN.out (by kernel_rfl) rfl (tokC_one _ _ _ _) ?_
      have hoth : ∀ j, ((w4.setRow (w.heap.size + 1) (stC x t.kind p t.name t.text A t.attrs.length c 0 0)).drew.setRow w.heap.size (tokC p t A c)).cell? ⟨w.heap.size + 1, j, none⟩ = (w4.setRow (w.heap.size + 1) (stC x t.kind p t.name t.text A t.attrs.length c 0 0)).drew.cell? ⟨w.heap.size + 1, j, none⟩ := fun j => cell_setRow_other _ _ _ _ (Nat.succ_ne_self _)
      refine hK.out _ _ (⟨(hoth 0).trans q0, (hoth 1).trans q1, (hoth 2).trans q2, (hoth 3).trans q3, (hoth 4).trans q4, (hoth 5).trans q5⟩) (fun hHeld => ?_)
      clear hK K
      try go_frame
      refine tk (oi := ⟨_, _, _, _, _, _⟩) (v := ?_) 5 rfl (by kernel_rfl) (fun _ _ _ h => h) (.inl ⟨by rfl, ?_⟩) (by assumption) ?_; rotate_left
      · (intro wS hSw; (try dsimp only at hSw); go_simp); all_goals with_reducible rfl
      try go_frame
      refine tk (oi := ⟨_, _, _, _, _, _⟩) (v := ?_) 6 rfl (by kernel_rfl) (fun _ _ _ h => h) (.inl ⟨by rfl, ?_⟩) (by assumption) ?_; rotate_left
      · (intro wS hSw; (try dsimp only at hSw); go_simp); all_goals with_reducible rfl
      try go_frame
      refine tk (oi := ⟨_, _, _, _, _, _⟩) (v := ?_) 7 rfl (by kernel_rfl) (fun _ _ _ h => h) (.inl ⟨by rfl, ?_⟩) (by assumption) ?_; rotate_left
      · (intro wS hSw; (try dsimp only at hSw); go_simp); all_goals with_reducible rfl
      try go_frame
      refine wpAnyH_done (by kernel_rfl) ?_ _
      clear hHeld hoth
      go_wp2_with fail
      try simp only [Exit.inBlock, Exit.then]
      refine bodyPost_ret (results_cell3 Try.results38 _ _ w.heap.size 33 (tokC p t A c) (0, 0) _ rfl (setRow_heap _ _ _ _ _ _ HTN.out) Try.underlying33 rfl (by kernel_rfl)) rfl ?_
      rw [HV.out]
      refine ⟨below_row ((below_row (hb1.trans hbw) (Nat.le_succ _) _).drew) (Nat.le_refl _) _, A, c, ?_, row_base (row_setRow HA4.out (by omega) _) (by omega)⟩
      rw [show p + (2 + n) = x by have := hx.out; omega]
      rfl
  | false =>
    cases m2 with
    | true =>
      have hyy : y = 60 := eq_of_beq hy60.out
      subst hyy
      obtain ⟨V', hV'⟩ : ∃ V', Hid (beginT (s.data.toList.drop (p + 1)) = V') := ⟨_, rfl⟩
      have hVE : Hid (V = V'.past 1) := by
        show _ = _
        rw [← hV.out]
        unfold oneT
        rw [hm1.out, if_neg (by decide), hm2.out, if_pos rfl, List.drop_drop, hV'.out]
      have hwit := beginT_within (s.data.toList.drop (p + 1))
      go_wp2_with fail
      refine (rbegin_any s p w2 hp hs V' hV').mono ?_
      rintro e w4 ⟨hb4, hpost⟩
      have hbw : Below w.heap.size W1 w4 := (hb2.trans (hb4.mono hb2.size)).mono hb1.size
      have HT4 := Lib.hid (blk_below hb4 HT2.out)
      have HX4 : Hid (StAt w4 (w.heap.size + 1) zeroSt) := blk_below hb4 HX2.out
      have hz4 := hz2
      cases V' with
      | bad k c =>
        obtain rfl := hpost
        have HV : Hid (V = .bad (1 + k) c) := hVE.out
        have hcn : (c != 0) = true := by have := hwit; rw [hV'.out] at this; simpa using this.2
        have HXN : Hid (StAt (w4.setRow (w.heap.size + 1) (stC 0 0 0 [] [] none 0 0 (p + 1 + k : Nat) c)) (w.heap.size + 1) (stC 0 0 0 [] [] none 0 0 (p + 1 + k : Nat) c)) := StAt.set HX4.out
        obtain ⟨x, hx⟩ : ∃ x : Nat, Hid (p + 1 + k = x) := ⟨_, rfl⟩
        have HXN2 := HXN.out
        rw [hx.out] at HXN2
        have HTN : Hid ((w4.setRow (w.heap.size + 1) (stC 0 0 0 [] [] none 0 0 x c)).drew.heap[w.heap.size]? = some (.cells zeroTok 33 (0, 0))) := (setRow_other _ _ _ _ (by omega)).trans HT4.out
        rw [hx.out]
        obtain ⟨q0, q1, q2, q3, q4, q5, q6, q7, _⟩ := HXN2.cells
        clear HXN HXN2 hwit
        go_wp2_with (refine wpList_store_row rfl 94 (.tmp 8) (.tmp 31) rfl (w.heap.size + 1) (stC 0 0 0 [] [] none 0 0 x c) rfl rfl 94 zeroSt HX4.out (by kernel_rfl) rfl (stC_one _ _ _ _ _ _ _ _ _ _) ?_)
        refine wp_region_held_drew (S := fun w' => w'.cell? ⟨w.heap.size + 1, 6, none⟩ = some (.int .i64 x) ∧ w'.cell? ⟨w.heap.size + 1, 7, none⟩ = some (.int .i64 c)) (by kernel_rfl) ⟨q6, q7⟩ (fun hHeld => ?_)
        refine tk (oi := ⟨_, _, _, _, _, _⟩) (v := ?_) 0 rfl (by kernel_rfl) (fun _ _ _ h => h) (.inl ⟨by rfl, ?_⟩) (by assumption) ?_; rotate_left
        · (intro wS hSw; (try dsimp only at hSw); go_simp); all_goals with_reducible rfl
        try go_frame
        refine tk (oi := ⟨_, _, _, _, _, _⟩) (v := ?_) 1 rfl (by kernel_rfl) (fun _ _ _ h => h) (.inl ⟨by rfl, ?_⟩) (by assumption) ?_; rotate_left
        · (intro wS hSw; (try dsimp only at hSw); go_simp); all_goals with_reducible rfl
        try go_frame
        refine tk (oi := ⟨_, _, _, _, _, _⟩) (v := ?_) 2 rfl (by kernel_rfl) (fun _ _ _ h => h) (.inl ⟨by rfl, ?_⟩) (by assumption) ?_; rotate_left
        · (intro wS hSw; (try dsimp only at hSw); go_simp); all_goals with_reducible rfl
        try go_frame
        refine tk (oi := ⟨_, _, _, _, _, _⟩) (v := ?_) 3 rfl (by kernel_rfl) (fun _ _ _ h => h) (.inl ⟨by rfl, ?_⟩) (by assumption) ?_; rotate_left
        · (intro wS hSw; (try dsimp only at hSw); go_simp); all_goals with_reducible rfl
        try go_frame
        refine tk (oi := ⟨_, _, _, _, _, _⟩) (v := ?_) 4 rfl (by kernel_rfl) (fun _ _ _ h => h) (.inl ⟨by rfl, ?_⟩) (by assumption) ?_; rotate_left
        · (intro wS hSw; (try dsimp only at hSw); go_simp); all_goals with_reducible rfl
        try go_frame
        refine wpAnyH_ready (rs := [5]) (by kernel_rfl) (by simp) ?_
        refine AllReadyH.cons (o := ⟨_, _, _, _, _, _⟩) rfl (fun K hK => ?_) AllReadyH.nil
        refine wp_store_row 33 (.tmp 4) (.tmp 38) rfl w.heap.size zeroTok rfl rfl 33 zeroTok HTN.out (by kernel_rfl) rfl zeroTok_one ?_
        refine hK.out _ _ (⟨(cell_setRow_other _ _ _ _ (Nat.succ_ne_self _)).trans q6, (cell_setRow_other _ _ _ _ (Nat.succ_ne_self _)).trans q7⟩) (fun hHeld => ?_)
        clear hK K
        try go_frame
        refine tk (oi := ⟨_, _, _, _, _, _⟩) (v := ?_) 6 rfl (by kernel_rfl) (fun _ _ _ h => h) (.inl ⟨by rfl, ?_⟩) (by assumption) ?_; rotate_left
        · (intro wS hSw; (try dsimp only at hSw); go_simp); all_goals with_reducible rfl
        try go_frame
        refine tk (oi := ⟨_, _, _, _, _, _⟩) (v := ?_) 7 rfl (by kernel_rfl) (fun _ _ _ h => h) (.inl ⟨by rfl, ?_⟩) (by assumption) ?_; rotate_left
        · (intro wS hSw; (try dsimp only at hSw); go_simp); all_goals with_reducible rfl
        try go_frame
        refine tk (oi := ⟨_, _, _, _, _, _⟩) (v := ?_) 8 rfl (by kernel_rfl) (fun _ _ _ h => h) (.inl ⟨by rfl, ?_⟩) (by assumption) ?_; rotate_left
        · (intro wS hSw; (try dsimp only at hSw); go_simp); all_goals with_reducible rfl
        try go_frame
        refine wpAnyH_done (by kernel_rfl) ?_ _
        clear hHeld
        go_wp2_with fail
        try simp only [Exit.inBlock, Exit.then]
        refine bodyPost_ret (results_cell3 Try.results38 _ _ w.heap.size 33 zeroTok (0, 0) _ rfl (setRow_heap _ _ _ _ _ _ HTN.out) Try.underlying33 rfl (by kernel_rfl)) rfl ?_
        rw [HV.out]
        refine ⟨below_row ((below_row (hb1.trans hbw) (Nat.le_succ _) _).drew) (Nat.le_refl _) _, ?_⟩
        show _ = Ending.returned (.tuple #[.agg zeroTok, .int .i64 0, .int .i64 (p + (1 + k) : Nat), .int .i64 c])
        rw [show p + (1 + k) = x by have := hx.out; omega]
        rfl
      | ok t n =>
        obtain ⟨A, c, rfl, hA4⟩ := hpost
        have HV : Hid (V = .ok t (1 + n)) := hVE.out
        obtain ⟨x, hx⟩ : ∃ x : Nat, Hid (p + 1 + n = x) := ⟨_, rfl⟩
        have HXN : Hid (StAt (w4.setRow (w.heap.size + 1) (stC x t.kind p t.name t.text A t.attrs.length c 0 0)) (w.heap.size + 1) (stC x t.kind p t.name t.text A t.attrs.length c 0 0)) := StAt.set HX4.out
        have HTN : Hid ((w4.setRow (w.heap.size + 1) (stC x t.kind p t.name t.text A t.attrs.length c 0 0)).drew.heap[w.heap.size]? = some (.cells zeroTok 33 (0, 0))) := (setRow_other _ _ _ _ (by omega)).trans HT4.out
        rw [hx.out]
        obtain ⟨q0, q1, q2, q3, q4, q5, q6, q7, _⟩ := HXN.out.cells
        have HA4 : Hid (AttrsOwn (w4.setRow (w.heap.size + 1) (stC x t.kind p t.name t.text A t.attrs.length c 0 0)).drew (w.heap.size + 2) A c t.attrs) := row_setRow (row_base hA4 hz4) (by omega) _
        clear hA4 hwit
        go_wp2_with (refine wpList_store_row rfl 94 (.tmp 8) (.tmp 31) rfl (w.heap.size + 1) (stC x t.kind p t.name t.text A t.attrs.length c 0 0) rfl rfl 94 zeroSt HX4.out (by kernel_rfl) rfl (stC_one _ _ _ _ _ _ _ _ _ _) ?_)
        refine wp_region_held_drew (S := fun w' => w'.cell? ⟨w.heap.size + 1, 0, none⟩ = some (.int .i64 x) ∧ w'.cell? ⟨w.heap.size + 1, 1, none⟩ = some (.int .i64 t.kind) ∧ w'.cell? ⟨w.heap.size + 1, 2, none⟩ = some (.int .i64 p) ∧ w'.cell? ⟨w.heap.size + 1, 3, none⟩ = some (.string ⟨t.name.toArray⟩) ∧ w'.cell? ⟨w.heap.size + 1, 4, none⟩ = some (.string ⟨t.text.toArray⟩) ∧ w'.cell? ⟨w.heap.size + 1, 5, none⟩ = some (.slice A t.attrs.length c)) (by kernel_rfl) ⟨q0, q1, q2, q3, q4, q5⟩ (fun hHeld => ?_)
        refine tk (oi := ⟨_, _, _, _, _, _⟩) (v := ?_) 0 rfl (by kernel_rfl) (fun _ _ _ h => h) (.inl ⟨by rfl, ?_⟩) (by assumption) ?_; rotate_left
        · (intro wS hSw; (try dsimp only at hSw); go_simp); all_goals with_reducible rfl
        try go_frame
        refine tk (oi := ⟨_, _, _, _, _, _⟩) (v := ?_) 1 rfl (by kernel_rfl) (fun _ _ _ h => h) (.inl ⟨by rfl, ?_⟩) (by assumption) ?_; rotate_left
        · (intro wS hSw; (try dsimp only at hSw); go_simp); all_goals with_reducible rfl
        try go_frame
        refine tk (oi := ⟨_, _, _, _, _, _⟩) (v := ?_) 2 rfl (by kernel_rfl) (fun _ _ _ h => h) (.inl ⟨by rfl, ?_⟩) (by assumption) ?_; rotate_left
        · (intro wS hSw; (try dsimp only at hSw); go_simp); all_goals with_reducible rfl
        try go_frame
        refine tk (oi := ⟨_, _, _, _, _, _⟩) (v := ?_) 3 rfl (by kernel_rfl) (fun _ _ _ h => h) (.inl ⟨by rfl, ?_⟩) (by assumption) ?_; rotate_left
        · (intro wS hSw; (try dsimp only at hSw); go_simp); all_goals with_reducible rfl
        try go_frame
        refine wpAnyH_ready (rs := [4]) (by kernel_rfl) (by simp) ?_
        refine AllReadyH.cons (o := ⟨_, _, _, _, _, _⟩) rfl (fun K hK => ?_) AllReadyH.nil
        refine wp_store_row 33 (.tmp 4) (.tmp 44) rfl w.heap.size (tokC p t A c) rfl rfl 33 zeroTok HTN.out (by kernel_rfl) rfl (tokC_one _ _ _ _) ?_
        have hoth : ∀ j, ((w4.setRow (w.heap.size + 1) (stC x t.kind p t.name t.text A t.attrs.length c 0 0)).drew.setRow w.heap.size (tokC p t A c)).cell? ⟨w.heap.size + 1, j, none⟩ = (w4.setRow (w.heap.size + 1) (stC x t.kind p t.name t.text A t.attrs.length c 0 0)).drew.cell? ⟨w.heap.size + 1, j, none⟩ := fun j => cell_setRow_other _ _ _ _ (Nat.succ_ne_self _)
        refine hK.out _ _ (⟨(hoth 0).trans q0, (hoth 1).trans q1, (hoth 2).trans q2, (hoth 3).trans q3, (hoth 4).trans q4, (hoth 5).trans q5⟩) (fun hHeld => ?_)
        clear hK K
        try go_frame
        refine tk (oi := ⟨_, _, _, _, _, _⟩) (v := ?_) 5 rfl (by kernel_rfl) (fun _ _ _ h => h) (.inl ⟨by rfl, ?_⟩) (by assumption) ?_; rotate_left
        · (intro wS hSw; (try dsimp only at hSw); go_simp); all_goals with_reducible rfl
        try go_frame
        refine tk (oi := ⟨_, _, _, _, _, _⟩) (v := ?_) 6 rfl (by kernel_rfl) (fun _ _ _ h => h) (.inl ⟨by rfl, ?_⟩) (by assumption) ?_; rotate_left
        · (intro wS hSw; (try dsimp only at hSw); go_simp); all_goals with_reducible rfl
        try go_frame
        refine tk (oi := ⟨_, _, _, _, _, _⟩) (v := ?_) 7 rfl (by kernel_rfl) (fun _ _ _ h => h) (.inl ⟨by rfl, ?_⟩) (by assumption) ?_; rotate_left
        · (intro wS hSw; (try dsimp only at hSw); go_simp); all_goals with_reducible rfl
        try go_frame
        refine wpAnyH_done (by kernel_rfl) ?_ _
        clear hHeld hoth
        go_wp2_with fail
        try simp only [Exit.inBlock, Exit.then]
        refine bodyPost_ret (results_cell3 Try.results38 _ _ w.heap.size 33 (tokC p t A c) (0, 0) _ rfl (setRow_heap _ _ _ _ _ _ HTN.out) Try.underlying33 rfl (by kernel_rfl)) rfl ?_
        rw [HV.out]
        refine ⟨below_row ((below_row (hb1.trans hbw) (Nat.le_succ _) _).drew) (Nat.le_refl _) _, A, c, ?_, row_base (row_setRow HA4.out (by omega) _) (by omega)⟩
        rw [show p + (1 + n) = x by have := hx.out; omega]
        rfl
    | false =>
      have hne60 : y ≠ 60 := fun e => by
        have h := hy60.out
        rw [e] at h
        exact absurd h (by decide)
      have e60 : ((y.toNat : Int) == 60) = false := u8_ne hne60
      clear hne60
      obtain ⟨V', hV'⟩ : ∃ V', Hid (textT (s.data.toList.drop p) = V') := ⟨_, rfl⟩
      have hVE : Hid (V = V'.past 0) := by
        show _ = _
        rw [← hV.out, Told.past_zero, ← hV'.out]
        unfold oneT
        rw [hm1.out, if_neg (by decide), hm2.out, if_neg (by decide)]
      have hne : s.data.toList.drop p ≠ [] := by
        intro e
        have := congrArg List.length e
        rw [List.length_drop, HL.out] at this
        simp at this; omega
      have hwit := textT_within (s.data.toList.drop p) hne hm2.out
      clear hne
      go_wp2_with fail
      refine (rtext_any s p w2 (Nat.le_of_lt hp) hs V' hV').mono ?_
      rintro e w4 ⟨hb4, hpost⟩
      have hbw : Below w.heap.size W1 w4 := (hb2.trans (hb4.mono hb2.size)).mono hb1.size
      have HT4 := Lib.hid (blk_below hb4 HT2.out)
      have HX4 : Hid (StAt w4 (w.heap.size + 1) zeroSt) := blk_below hb4 HX2.out
      have hz4 := hz2
      cases V' with
      | bad k c =>
        obtain rfl := hpost
        have HV : Hid (V = .bad (0 + k) c) := hVE.out
        have hcn : (c != 0) = true := by have := hwit; rw [hV'.out] at this; simpa using this.2
        have HXN : Hid (StAt (w4.setRow (w.heap.size + 1) (stC 0 0 0 [] [] none 0 0 (p + k : Nat) c)) (w.heap.size + 1) (stC 0 0 0 [] [] none 0 0 (p + k : Nat) c)) := StAt.set HX4.out
        obtain ⟨x, hx⟩ : ∃ x : Nat, Hid (p + k = x) := ⟨_, rfl⟩
        have HXN2 := HXN.out
        rw [hx.out] at HXN2
        have HTN : Hid ((w4.setRow (w.heap.size + 1) (stC 0 0 0 [] [] none 0 0 x c)).drew.heap[w.heap.size]? = some (.cells zeroTok 33 (0, 0))) := (setRow_other _ _ _ _ (by omega)).trans HT4.out
        rw [hx.out]
        obtain ⟨q0, q1, q2, q3, q4, q5, q6, q7, _⟩ := HXN2.cells
        clear HXN HXN2 hwit
        go_wp2_with (refine wpList_store_row rfl 94 (.tmp 8) (.tmp 34) rfl (w.heap.size + 1) (stC 0 0 0 [] [] none 0 0 x c) rfl rfl 94 zeroSt HX4.out (by kernel_rfl) rfl (stC_one _ _ _ _ _ _ _ _ _ _) ?_)
        refine wp_region_held_drew (S := fun w' => w'.cell? ⟨w.heap.size + 1, 6, none⟩ = some (.int .i64 x) ∧ w'.cell? ⟨w.heap.size + 1, 7, none⟩ = some (.int .i64 c)) (by kernel_rfl) ⟨q6, q7⟩ (fun hHeld => ?_)
        refine tk (oi := ⟨_, _, _, _, _, _⟩) (v := ?_) 0 rfl (by kernel_rfl) (fun _ _ _ h => h) (.inl ⟨by rfl, ?_⟩) (by assumption) ?_; rotate_left
        · (intro wS hSw; (try dsimp only at hSw); go_simp); all_goals with_reducible rfl
        try go_frame
        refine tk (oi := ⟨_, _, _, _, _, _⟩) (v := ?_) 1 rfl (by kernel_rfl) (fun _ _ _ h => h) (.inl ⟨by rfl, ?_⟩) (by assumption) ?_; rotate_left
        · (intro wS hSw; (try dsimp only at hSw); go_simp); all_goals with_reducible rfl
        try go_frame
        refine tk (oi := ⟨_, _, _, _, _, _⟩) (v := ?_) 2 rfl (by kernel_rfl) (fun _ _ _ h => h) (.inl ⟨by rfl, ?_⟩) (by assumption) ?_; rotate_left
        · (intro wS hSw; (try dsimp only at hSw); go_simp); all_goals with_reducible rfl
        try go_frame
        refine tk (oi := ⟨_, _, _, _, _, _⟩) (v := ?_) 3 rfl (by kernel_rfl) (fun _ _ _ h => h) (.inl ⟨by rfl, ?_⟩) (by assumption) ?_; rotate_left
        · (intro wS hSw; (try dsimp only at hSw); go_simp); all_goals with_reducible rfl
        try go_frame
        refine tk (oi := ⟨_, _, _, _, _, _⟩) (v := ?_) 4 rfl (by kernel_rfl) (fun _ _ _ h => h) (.inl ⟨by rfl, ?_⟩) (by assumption) ?_; rotate_left
        · (intro wS hSw; (try dsimp only at hSw); go_simp); all_goals with_reducible rfl
        try go_frame
        refine wpAnyH_ready (rs := [5]) (by kernel_rfl) (by simp) ?_
        refine AllReadyH.cons (o := ⟨_, _, _, _, _, _⟩) rfl (fun K hK => ?_) AllReadyH.nil
        refine wp_store_row 33 (.tmp 4) (.tmp 38) rfl w.heap.size zeroTok rfl rfl 33 zeroTok HTN.out (by kernel_rfl) rfl zeroTok_one ?_
        refine hK.out _ _ (⟨(cell_setRow_other _ _ _ _ (Nat.succ_ne_self _)).trans q6, (cell_setRow_other _ _ _ _ (Nat.succ_ne_self _)).trans q7⟩) (fun hHeld => ?_)
        clear hK K
        try go_frame
        refine tk (oi := ⟨_, _, _, _, _, _⟩) (v := ?_) 6 rfl (by kernel_rfl) (fun _ _ _ h => h) (.inl ⟨by rfl, ?_⟩) (by assumption) ?_; rotate_left
        · (intro wS hSw; (try dsimp only at hSw); go_simp); all_goals with_reducible rfl
        try go_frame
        refine tk (oi := ⟨_, _, _, _, _, _⟩) (v := ?_) 7 rfl (by kernel_rfl) (fun _ _ _ h => h) (.inl ⟨by rfl, ?_⟩) (by assumption) ?_; rotate_left
        · (intro wS hSw; (try dsimp only at hSw); go_simp); all_goals with_reducible rfl
        try go_frame
        refine tk (oi := ⟨_, _, _, _, _, _⟩) (v := ?_) 8 rfl (by kernel_rfl) (fun _ _ _ h => h) (.inl ⟨by rfl, ?_⟩) (by assumption) ?_; rotate_left
        · (intro wS hSw; (try dsimp only at hSw); go_simp); all_goals with_reducible rfl
        try go_frame
        refine wpAnyH_done (by kernel_rfl) ?_ _
        clear hHeld
        go_wp2_with fail
        try simp only [Exit.inBlock, Exit.then]
        refine bodyPost_ret (results_cell3 Try.results38 _ _ w.heap.size 33 zeroTok (0, 0) _ rfl (setRow_heap _ _ _ _ _ _ HTN.out) Try.underlying33 rfl (by kernel_rfl)) rfl ?_
        rw [HV.out]
        refine ⟨below_row ((below_row (hb1.trans hbw) (Nat.le_succ _) _).drew) (Nat.le_refl _) _, ?_⟩
        show _ = Ending.returned (.tuple #[.agg zeroTok, .int .i64 0, .int .i64 (p + (0 + k) : Nat), .int .i64 c])
        rw [show p + (0 + k) = x by have := hx.out; omega]
        rfl
      | ok t n =>
        obtain ⟨A, c, rfl, hA4⟩ := hpost
        have HV : Hid (V = .ok t (0 + n)) := hVE.out
        obtain ⟨x, hx⟩ : ∃ x : Nat, Hid (p + n = x) := ⟨_, rfl⟩
        have HXN : Hid (StAt (w4.setRow (w.heap.size + 1) (stC x t.kind p t.name t.text A t.attrs.length c 0 0)) (w.heap.size + 1) (stC x t.kind p t.name t.text A t.attrs.length c 0 0)) := StAt.set HX4.out
        have HTN : Hid ((w4.setRow (w.heap.size + 1) (stC x t.kind p t.name t.text A t.attrs.length c 0 0)).drew.heap[w.heap.size]? = some (.cells zeroTok 33 (0, 0))) := (setRow_other _ _ _ _ (by omega)).trans HT4.out
        rw [hx.out]
        obtain ⟨q0, q1, q2, q3, q4, q5, q6, q7, _⟩ := HXN.out.cells
        have HA4 : Hid (AttrsOwn (w4.setRow (w.heap.size + 1) (stC x t.kind p t.name t.text A t.attrs.length c 0 0)).drew (w.heap.size + 2) A c t.attrs) := row_setRow (row_base hA4 hz4) (by omega) _
        clear hA4 hwit
        go_wp2_with (refine wpList_store_row rfl 94 (.tmp 8) (.tmp 34) rfl (w.heap.size + 1) (stC x t.kind p t.name t.text A t.attrs.length c 0 0) rfl rfl 94 zeroSt HX4.out (by kernel_rfl) rfl (stC_one _ _ _ _ _ _ _ _ _ _) ?_)
        refine wp_region_held_drew (S := fun w' => w'.cell? ⟨w.heap.size + 1, 0, none⟩ = some (.int .i64 x) ∧ w'.cell? ⟨w.heap.size + 1, 1, none⟩ = some (.int .i64 t.kind) ∧ w'.cell? ⟨w.heap.size + 1, 2, none⟩ = some (.int .i64 p) ∧ w'.cell? ⟨w.heap.size + 1, 3, none⟩ = some (.string ⟨t.name.toArray⟩) ∧ w'.cell? ⟨w.heap.size + 1, 4, none⟩ = some (.string ⟨t.text.toArray⟩) ∧ w'.cell? ⟨w.heap.size + 1, 5, none⟩ = some (.slice A t.attrs.length c)) (by kernel_rfl) ⟨q0, q1, q2, q3, q4, q5⟩ (fun hHeld => ?_)
        refine tk (oi := ⟨_, _, _, _, _, _⟩) (v := ?_) 0 rfl (by kernel_rfl) (fun _ _ _ h => h) (.inl ⟨by rfl, ?_⟩) (by assumption) ?_; rotate_left
        · (intro wS hSw; (try dsimp only at hSw); go_simp); all_goals with_reducible rfl
        try go_frame
        refine tk (oi := ⟨_, _, _, _, _, _⟩) (v := ?_) 1 rfl (by kernel_rfl) (fun _ _ _ h => h) (.inl ⟨by rfl, ?_⟩) (by assumption) ?_; rotate_left
        · (intro wS hSw; (try dsimp only at hSw); go_simp); all_goals with_reducible rfl
        try go_frame
        refine tk (oi := ⟨_, _, _, _, _, _⟩) (v := ?_) 2 rfl (by kernel_rfl) (fun _ _ _ h => h) (.inl ⟨by rfl, ?_⟩) (by assumption) ?_; rotate_left
        · (intro wS hSw; (try dsimp only at hSw); go_simp); all_goals with_reducible rfl
        try go_frame
        refine tk (oi := ⟨_, _, _, _, _, _⟩) (v := ?_) 3 rfl (by kernel_rfl) (fun _ _ _ h => h) (.inl ⟨by rfl, ?_⟩) (by assumption) ?_; rotate_left
        · (intro wS hSw; (try dsimp only at hSw); go_simp); all_goals with_reducible rfl
        try go_frame
        refine wpAnyH_ready (rs := [4]) (by kernel_rfl) (by simp) ?_
        refine AllReadyH.cons (o := ⟨_, _, _, _, _, _⟩) rfl (fun K hK => ?_) AllReadyH.nil
        refine wp_store_row 33 (.tmp 4) (.tmp 44) rfl w.heap.size (tokC p t A c) rfl rfl 33 zeroTok HTN.out (by kernel_rfl) rfl (tokC_one _ _ _ _) ?_
        have hoth : ∀ j, ((w4.setRow (w.heap.size + 1) (stC x t.kind p t.name t.text A t.attrs.length c 0 0)).drew.setRow w.heap.size (tokC p t A c)).cell? ⟨w.heap.size + 1, j, none⟩ = (w4.setRow (w.heap.size + 1) (stC x t.kind p t.name t.text A t.attrs.length c 0 0)).drew.cell? ⟨w.heap.size + 1, j, none⟩ := fun j => cell_setRow_other _ _ _ _ (Nat.succ_ne_self _)
        refine hK.out _ _ (⟨(hoth 0).trans q0, (hoth 1).trans q1, (hoth 2).trans q2, (hoth 3).trans q3, (hoth 4).trans q4, (hoth 5).trans q5⟩) (fun hHeld => ?_)
        clear hK K
        try go_frame
        refine tk (oi := ⟨_, _, _, _, _, _⟩) (v := ?_) 5 rfl (by kernel_rfl) (fun _ _ _ h => h) (.inl ⟨by rfl, ?_⟩) (by assumption) ?_; rotate_left
        · (intro wS hSw; (try dsimp only at hSw); go_simp); all_goals with_reducible rfl
        try go_frame
        refine tk (oi := ⟨_, _, _, _, _, _⟩) (v := ?_) 6 rfl (by kernel_rfl) (fun _ _ _ h => h) (.inl ⟨by rfl, ?_⟩) (by assumption) ?_; rotate_left
        · (intro wS hSw; (try dsimp only at hSw); go_simp); all_goals with_reducible rfl
        try go_frame
        refine tk (oi := ⟨_, _, _, _, _, _⟩) (v := ?_) 7 rfl (by kernel_rfl) (fun _ _ _ h => h) (.inl ⟨by rfl, ?_⟩) (by assumption) ?_; rotate_left
        · (intro wS hSw; (try dsimp only at hSw); go_simp); all_goals with_reducible rfl
        try go_frame
        refine wpAnyH_done (by kernel_rfl) ?_ _
        clear hHeld hoth
        go_wp2_with fail
        try simp only [Exit.inBlock, Exit.then]
        refine bodyPost_ret (results_cell3 Try.results38 _ _ w.heap.size 33 (tokC p t A c) (0, 0) _ rfl (setRow_heap _ _ _ _ _ _ HTN.out) Try.underlying33 rfl (by kernel_rfl)) rfl ?_
        rw [HV.out]
        refine ⟨below_row ((below_row (hb1.trans hbw) (Nat.le_succ _) _).drew) (Nat.le_refl _) _, A, c, ?_, row_base (row_setRow HA4.out (by omega) _) (by omega)⟩
        rw [show p + (0 + n) = x by have := hx.out; omega]
        rfl
end Go.Proofs.Ythifddkmbjnncaa

/-
  The document's All walked.
-/
namespace Go.Proofs.Ythifddkmbjnncaa
open Go.RowKit

theorem infoRToken : (Try.prog.info? 33).map (fun i => (i.zero, i.size, i.bytes)) = some (some (.agg #[.int .i64 0, .int .i64 0, .string ByteArray.empty, .string ByteArray.empty, .slice none 0 0]), 5, 72) := by kernel_rfl
def RTokensOwn (w : World) (B : Nat) (A : Option Addr) (c : Nat) (S : List TSlot) : Prop := w.ownsRow B 33 5 (.slice A S.length c) S.length (S.flatMap cellsT)

def RAllPost3 (w : World) (R : List (Nat × TokD) × Nat × Int) (e : Ending) (w' : World) : Prop :=
  Below w.heap.size w w' ∧ ((R.2.2 = 0 ∧ ∃ A c S, e = .returned (.tuple #[.slice A S.length c, .int .i64 0, .int .i64 0]) ∧ RTokensOwn w' w.heap.size A c S ∧ TAttrs w' w.heap.size S ∧ S.map (·.1) = R.1)
    ∨ (R.2.2 ≠ 0 ∧ e = .returned (.tuple #[.slice none 0 0, .int .i64 R.2.1, .int .i64 R.2.2])))


set_option maxRecDepth 100000 in
set_option maxHeartbeats 2000000 in
theorem RLAll_any (s : ByteArray) (w : World) (hs : s.size ≤ 1000000000) (R : List (Nat × TokD) × Nat × Int) (hR : Hid (allL 0 s.data.toList = R)) :
    Calls Try.prog 18 #[.string s] w (RAllPost3 w R) := by
  have HL := Lib.hid (size_toList s)
  have hJ0 : Hid (joinT [] (allL 0 (s.data.toList.drop 0)) = R) := by
    show _ = _
    rw [List.drop_zero, hR.out]
    rw [← hR.out]
    exact joinT_start _ _
  go_enter Try.func18, Try.ntmps18
  go_wp2_with fail
  go_loopw [5, 6] (fun l i wr => ∃ (pos : Nat) (S : List TSlot) (A : Option Addr) (c m : Nat), pos ≤ s.size ∧ m ≤ pos ∧ i = .int .i64 pos ∧ l = .slice A m c ∧ Hid (S.length = m) ∧ Hid (RTokensOwn wr w.heap.size A c S) ∧ Hid (TAttrs wr w.heap.size S) ∧ Hid (Below w.heap.size w wr) ∧ Hid (joinT (S.map (·.1)) (allL pos (s.data.toList.drop pos)) = R)) (fun _ i _ => s.size - (intOf i).toNat)
  case atStart => exact ⟨0, [], none, 0, 0, Nat.zero_le _, Nat.le_refl _, rfl, rfl, rfl, World.ownsRow_nil _ _ _ _, (fun _ h => absurd h List.not_mem_nil : TAttrs w w.heap.size []), Below.refl _ _, hJ0.out⟩
  case round =>
    obtain ⟨pos, S, A, c, m, hps, hmp, rfl, rfl, hm, hown, hat, hbel, hin⟩ := hrel
    by_cases hlt : pos < s.size
    · have hlt' : (pos : Int) < s.size := by omega
      have hne : Hid (s.data.toList.drop pos ≠ []) := by
        show _ ≠ _
        intro e
        have := congrArg List.length e
        rw [List.length_drop, HL.out] at this
        simp at this; omega
      obtain ⟨V, hV⟩ : ∃ V, Hid (oneT (s.data.toList.drop pos) = V) := ⟨_, rfl⟩
      have hwit := oneT_within _ hne.out
      rw [hV.out, List.length_drop, HL.out] at hwit
      go_wp2_with fail
      refine (ROne_any s pos wr hlt hs V hV).mono ?_
      rintro e1 w2 ⟨hb2, hpost⟩
      cases V with
      | bad k e =>
        have he : e ≠ 0 := hwit.2
        have he1 : (e != 0) = true := by simpa using he
        have HE := Lib.hid he
        have HR : Hid (R = ([], pos + k, e)) := by
          show _ = _
          rw [← hin.out, joinT_one_bad _ _ _ hne.out k e hV.out]
        have hee : e1 = .returned (.tuple #[.agg #[.int .i64 0, .int .i64 0, .string ⟨#[]⟩, .string ⟨#[]⟩, .slice none 0 0], .int .i64 0, .int .i64 (pos + k : Nat), .int .i64 e]) := hpost
        clear he hwit hpost
        subst hee
        go_wp2_with fail
        go_ret3
        rw [HR.out]
        exact ⟨hbel.out.trans ((hb2.mono hbel.out.size).alloc (Nat.le_trans hbel.out.size hb2.size) _), .inr ⟨HE.out, rfl⟩⟩
      | ok t n =>
        obtain ⟨A2, c2, hee0, hA2'⟩ := hpost
        have hee : e1 = .returned (.tuple #[.agg #[.int .i64 t.kind, .int .i64 pos, .string ⟨t.name.toArray⟩, .string ⟨t.text.toArray⟩, .slice A2 t.attrs.length c2], .int .i64 (pos + n : Nat), .int .i64 0, .int .i64 0]) := hee0
        clear hee0
        subst hee
        have hA2 := Lib.hid hA2'
        clear hA2'
        obtain ⟨W2, hW2⟩ : ∃ W2, Hid (W2 = w2.alloc (.cells #[.int .i64 t.kind, .int .i64 pos, .string ⟨t.name.toArray⟩, .string ⟨t.text.toArray⟩, .slice A2 t.attrs.length c2] 33)) := ⟨_, rfl⟩
        have hb2' : Below wr.heap.size wr W2 := by rw [hW2.out]; exact hb2.alloc hb2.size _
        have hown2 : W2.ownsRow w.heap.size 33 5 (.slice A m c) m (S.flatMap cellsT) := by rw [← hm.out]; exact own_keep hown.out hb2'
        have hat2 : Hid (TAttrs W2 w.heap.size (S ++ [((pos, t), A2, c2)])) := fun x hx => by
          rcases List.mem_append.1 hx with h | h
          · exact own_keep (hat.out x h) hb2'
          · simp at h; subst h
            rw [hW2.out]
            exact row_base (World.ownsRow.alloc hA2.out _) hbel.out.size
        have hz2 : w.heap.size ≤ W2.heap.size := Nat.le_trans hbel.out.size hb2'.size
        have HIN : Hid (joinT ((S ++ [((pos, t), A2, c2)]).map (·.1)) (allL (pos + n) (s.data.toList.drop (pos + n))) = R) := by
          show _ = _
          rw [List.map_append, ← hin.out, joinT_step _ pos _ hne.out t n hV.out, List.drop_drop]
          rfl
        go_wp2_with (at_builtin; rw [← hW2.out]; go_loud (refine appendS rfl (.tmp 27) (.tmp 29) 27 rfl w.heap.size 33 (.agg #[.int .i64 0, .int .i64 0, .string ByteArray.empty, .string ByteArray.empty, .slice none 0 0]) 5 72 Try.underlying27 infoRToken rfl (by decide) _ m _ (cellsT ((pos, t), A2, c2)) rfl hown2 hz2 _ rfl (by rw [hW2.out]; simp) (cellsT_length _) (cellsT_one _) (by omega) (by decide) ?_))
        intro a4 c4 w4 hown4 hb4 hz4 hg4
        have hown4' : RTokensOwn w4 w.heap.size a4 c4 (S ++ [((pos, t), A2, c2)]) := by
          unfold RTokensOwn
          rw [List.length_append, List.flatMap_append, hm.out]
          simpa using hown4
        have hat4 : Hid (TAttrs w4 w.heap.size (S ++ [((pos, t), A2, c2)])) := fun x hx => own_grown (World.ownsRow.alloc (hat2.out x hx) _) (World.ownsRow.alloc hown2 _) (by decide) hg4
        have hb4' : Below w.heap.size w w4 := hbel.out.trans ((hb2'.mono hbel.out.size).trans hb4)
        obtain ⟨hn1, hn2⟩ := hwit
        clear hown4 hg4
        go_wp2_with fail
        go_roundw
        case rel => exact ⟨pos + n, S ++ [((pos, t), A2, c2)], a4, c4, m + 1, by omega, by omega, by go_num, rfl, by show _ = _; rw [List.length_append, hm.out]; rfl, hown4', hat4.out, hb4', HIN.out⟩
        case measure => simp [intOf]; omega
    · have hlt' : (s.size : Int) ≤ (pos : Int) := by omega
      have HR : Hid (R = (S.map (·.1), 0, 0)) := by
        show _ = _
        rw [← hin.out, List.drop_eq_nil_of_le (by rw [HL.out]; omega), allL_nil, joinT_nil]
      go_wp2_with fail
      go_ret3
      rw [HR.out]
      exact ⟨hbel.out, .inl ⟨rfl, A, c, S, by rw [hm.out]; rfl, hown.out, hat.out, rfl⟩⟩
end Go.Proofs.Ythifddkmbjnncaa

/-
  The walk of law03.alive.
-/
namespace Go.Proofs.Ythifddkmbjnncaa
open Go.RowKit

def aliveT : List (Nat × TokD) := [(0, ⟨3, [97], [], [⟨[98], [49]⟩]⟩), (10, ⟨4, [], [120], []⟩)]
theorem alive_all : allL 0 [60, 97, 32, 98, 61, 34, 49, 34, 47, 62, 120] = (aliveT, 0, 0) := by decide +kernel
theorem alive_all2 : allL 0 [60, 97, 32, 98, 61, 49, 62] = ([], 5, 30) := by decide +kernel

theorem two_of {α : Type} : ∀ {l : List α}, l.length = 2 → ∃ a b, l = [a, b]
  | [a, b], _ => ⟨a, b, rfl⟩

/-- where the tokens lie, and their attributes -/
theorem TokensOwn.cells {w : World} {B : Nat} {A : Option Addr} {c : Nat} {S : List TSlot} (h : TokensOwn w B A c S) (hl : 0 < S.length) :
    ∃ g, A = some ⟨g, 0, none⟩ ∧ B ≤ g ∧ g < w.heap.size ∧ ∀ k x j u, S[k]? = some x → (cellsT x)[j]? = some u → w.cell? ⟨g, k * 5 + j, none⟩ = some u := by
  obtain ⟨g, rfl, hB, hg, _, hc⟩ := own_flat cellsT cellsT_length h hl
  refine ⟨g, rfl, hB, hg, fun k x j u hx hu => ?_⟩
  have := hc k x j u hx hu
  rwa [add_zero_block] at this
theorem AttrsOwn.cells {w : World} {B : Nat} {A : Option Addr} {c : Nat} {l : List AttrD} (h : AttrsOwn w B A c l) (hl : 0 < l.length) :
    ∃ g, A = some ⟨g, 0, none⟩ ∧ B ≤ g ∧ g < w.heap.size ∧ ∀ k x j u, l[k]? = some x → (cellsA x)[j]? = some u → w.cell? ⟨g, k * 2 + j, none⟩ = some u := by
  obtain ⟨g, rfl, hB, hg, _, hc⟩ := own_flat cellsA cellsA_length h hl
  refine ⟨g, rfl, hB, hg, fun k x j u hx hu => ?_⟩
  have := hc k x j u hx hu
  rwa [add_zero_block] at this

set_option maxRecDepth 100000 in
set_option maxHeartbeats 2000000 in
theorem alive3_any (w : World) : Calls Try.prog 16 #[] w (Ret w (.bool true)) := by
  have HP : Hid (allL 0 (⟨#[60, 97, 32, 98, 61, 34, 49, 34, 47, 62, 120]⟩ : ByteArray).data.toList = (aliveT, 0, 0)) := alive_all
  have HP2 : Hid (allL 0 (⟨#[60, 97, 32, 98, 61, 49, 62]⟩ : ByteArray).data.toList = ([], 5, 30)) := alive_all2
  go_enter Try.func16, Try.ntmps16
  go_wp2_with fail
  refine (All_any _ w (by decide) _ HP).mono ?_
  rintro e w1 ⟨hb1, hpost⟩
  rcases hpost with ⟨_, A, c, S, hee, hown, hat, hS⟩ | ⟨h, _⟩
  · have hlen : S.length = 2 := by have := congrArg List.length hS; simpa [aliveT] using this
    obtain ⟨x0, x1, rfl⟩ := two_of hlen
    obtain ⟨⟨p0, t0⟩, A0, c0⟩ := x0
    obtain ⟨⟨p1, t1⟩, A1, c1⟩ := x1
    simp only [List.map_cons, List.map_nil, aliveT, List.cons.injEq, Prod.mk.injEq, and_true] at hS
    obtain ⟨⟨rfl, rfl⟩, rfl, rfl⟩ := hS
    obtain ⟨g, rfl, hBg, hg, hc⟩ := hown.cells (by simp)
    have ha0 : AttrsOwn w1 w.heap.size A0 c0 [⟨[98], [49]⟩] := hat _ List.mem_cons_self
    obtain ⟨g0, rfl, _, hg0, hc0⟩ := ha0.cells (by simp)
    have y0 : w1.cell? ⟨g, 0, none⟩ = some (.int .i64 3) := hc 0 _ 0 _ rfl rfl
    have y2 : w1.cell? ⟨g, 2, none⟩ = some (.string ⟨#[97]⟩) := hc 0 _ 2 _ rfl rfl
    have y4 : w1.cell? ⟨g, 4, none⟩ = some (.slice (some ⟨g0, 0, none⟩) 1 c0) := hc 0 _ 4 _ rfl rfl
    have y8 : w1.cell? ⟨g, 8, none⟩ = some (.string ⟨#[120]⟩) := hc 1 _ 3 _ rfl rfl
    have y9 : w1.cell? ⟨g0, 1, none⟩ = some (.string ⟨#[49]⟩) := hc0 0 _ 1 _ rfl rfl
    have hee' : e = .returned (.tuple #[.slice (some ⟨g, 0, none⟩) 2 c, .int .i64 0, .int .i64 0]) := hee
    clear hee hown hat ha0 hc hc0
    subst hee'
    go_wp2_with fail
    refine (All_any _ w1 (by decide) _ HP2).mono ?_
    rintro e w2 ⟨hb2, hpost⟩
    rcases hpost with ⟨h, _⟩ | ⟨_, hee⟩
    · exact absurd h (by decide)
    · have hee' : e = .returned (.tuple #[.slice none 0 0, .int .i64 5, .int .i64 30]) := hee
      clear hee
      subst hee'
      rw [← hb2.cell (p := ⟨g, 0, none⟩) hg] at y0
      rw [← hb2.cell (p := ⟨g, 2, none⟩) hg] at y2
      rw [← hb2.cell (p := ⟨g, 4, none⟩) hg] at y4
      rw [← hb2.cell (p := ⟨g, 8, none⟩) hg] at y8
      rw [← hb2.cell (p := ⟨g0, 1, none⟩) hg0] at y9
      go_wp2_with fail
      go_ret
      exact ⟨rfl, hb1.trans (hb2.mono hb1.size)⟩
  · exact absurd rfl h
end Go.Proofs.Ythifddkmbjnncaa

/-
  The plain laws of tokens: blanks, rows, parts: no program in sight.
-/
namespace Go.Proofs.Ythifddkmbjnncaa

/-! ## Blanks ahead of the end -/
/-- what a tag may end with -/
def endB (e : List UInt8) : Prop := e = [62] ∨ e = [47, 62]
theorem endB.stops {e : List UInt8} (h : endB e) : ∀ x t, e = x :: t → nb x = false ∧ blankB x = false := by
  rcases h with rfl | rfl <;> intro x t e <;> injection e with e _ <;> subst e <;> decide
theorem endB.quote {e : List UInt8} (h : endB e) : 34 ∉ e := by
  rcases h with rfl | rfl <;> decide

theorem skip_all : ∀ (bl l : List UInt8), bl.all blankB = true → skipL (bl ++ l) = bl.length + skipL l
  | [], l, _ => by simp
  | b :: bl, l, h => by
    simp only [List.all_cons, Bool.and_eq_true] at h
    unfold skipL
    rw [List.cons_append, List.takeWhile_cons, if_pos h.1]
    have := skip_all bl l h.2
    unfold skipL at this
    simp only [List.length_cons, this]; omega
theorem takeWhile_whole {α : Type} (p : α → Bool) : ∀ l : List α, (l.takeWhile p).length = l.length → l.all p = true
  | [], _ => rfl
  | a :: l, h => by
    rw [List.takeWhile_cons] at h
    split at h
    · rename_i hp
      simp only [List.length_cons] at h
      rw [List.all_cons, hp, takeWhile_whole p l (by omega)]; rfl
    · simp at h
theorem skip_stop {e : List UInt8} (he : endB e) (l : List UInt8) : skipL (l ++ e) = skipL l := by
  unfold skipL; rw [takeWhile_stop _ _ _ (fun x t h => (he.stops x t h).2)]
theorem skip_end {e : List UInt8} (he : endB e) : skipL e = 0 := by
  have := skip_stop he []
  simpa [skipL] using this
theorem word_stop {e : List UInt8} (he : endB e) (l : List UInt8) : wordL (l ++ e) = wordL l := takeWhile_stop _ _ _ (fun x t h => (he.stops x t h).1)
theorem word_blanks {e bl : List UInt8} (he : endB e) (hb : bl.all blankB = true) (l : List UInt8) : wordL (l ++ bl ++ e) = wordL l := by
  rw [List.append_assoc]
  refine takeWhile_stop _ _ _ (fun x t h => ?_)
  cases bl with
  | nil => exact (he.stops x t h).1
  | cons b bl =>
    injection h with h _
    subst h
    simp only [List.all_cons, Bool.and_eq_true] at hb
    have := hb.1
    unfold blankB at this
    unfold nb
    simp only [Bool.or_eq_true, beq_iff_eq] at this
    rcases this with (h | h) | h <;> subst h <;> decide

theorem endT_blanks {x bl : List UInt8} {t : TokD} {e : List UInt8} (he : endB e) (hb : bl.all blankB = true) (h : endT (x ++ e) = .ok t (x.length + e.length)) : endT (x ++ bl ++ e) = .ok t (x.length + bl.length + e.length) := by
  unfold endT at h
  simp only [word_stop he] at h
  split at h
  · cases h
  rename_i h1
  split at h
  · rename_i h2
    injection h with ht hn
    have hw := wordL_len x
    rw [drop_more e hw, skip_stop he] at hn
    have hs := skipL_len (x.drop (wordL x).length)
    rw [List.length_drop] at hs
    have hel : e.length = 1 := by rcases he with rfl | rfl <;> simp at * ; omega
    have he1 : e = [62] := by
      rcases he with h | h
      · exact h
      · rw [h] at hel; simp at hel
    subst he1
    have hk : (wordL x).length + skipL (x.drop (wordL x).length) = x.length := by simp at hn; omega
    have hall : (x.drop (wordL x).length).all blankB = true := by
      apply takeWhile_whole
      rw [List.length_drop]; unfold skipL at hk; omega
    unfold endT
    simp only [word_blanks he hb]
    rw [if_neg h1]
    have hd : (x ++ bl ++ [62]).drop (wordL x).length = x.drop (wordL x).length ++ (bl ++ [62]) := by
      rw [List.append_assoc, drop_more _ hw]
    have hsk : skipL ((x ++ bl ++ [62]).drop (wordL x).length) = x.length - (wordL x).length + bl.length := by
      rw [hd, skip_all _ _ hall, skip_all _ _ hb, skip_end he, List.length_drop]; omega
    rw [hsk]
    have hlen : (wordL x).length + (x.length - (wordL x).length + bl.length) = (x ++ bl).length := by simp; omega
    rw [hlen, List.drop_append_of_le_length (Nat.le_refl _), List.drop_length, List.nil_append, if_pos (by decide)]
    rw [ht]; simp
  · cases h

theorem last_drop {x : List UInt8} (h : x.getLast? ≠ some 47) (k : Nat) : (x.drop k).getLast? ≠ some 47 := by
  intro e
  apply h
  rw [List.getLast?_drop] at e
  split at e
  · cases e
  · exact e

theorem attrsF_blanks {e bl : List UInt8} (he : endB e) (hb : bl.all blankB = true) : ∀ (f g : Nat) (x : List UInt8) (bs : List AttrD) (q : Int × List AttrD), f ≤ g → x.getLast? ≠ some 47 → attrsF f (x ++ e) bs = .ok q (x.length + e.length) → attrsF g (x ++ bl ++ e) bs = .ok q (x.length + bl.length + e.length)
  | 0, _, _, _, _, _, _, h => by cases h
  | f + 1, 0, _, _, _, hg, _, _ => by omega
  | f + 1, g + 1, x, bs, q, hg, hx, h => by
    have hsk := skipL_len x
    have he0 : 1 ≤ e.length := by rcases he with rfl | rfl <;> simp
    rw [attrsF] at h
    simp only [skip_stop he] at h
    rw [attrsF]
    by_cases hall : skipL x = x.length
    · have ha : x.all blankB = true := takeWhile_whole _ _ hall
      rw [hall, List.drop_append_of_le_length (Nat.le_refl _), List.drop_length, List.nil_append] at h
      have hs2 : skipL (x ++ bl ++ e) = (x ++ bl).length := by
        rw [List.append_assoc, skip_all _ _ ha, skip_all _ _ hb, skip_end he]; simp
      simp only [hs2]
      rw [List.drop_append_of_le_length (Nat.le_refl _), List.drop_length, List.nil_append]
      rcases he with rfl | rfl
      · rw [if_pos (by decide)] at h ⊢
        injection h with h _
        rw [h]; simp
      · rw [if_neg (by decide), if_pos (by decide)] at h ⊢
        injection h with h _
        rw [h]; simp
    · have hlt : skipL x < x.length := by omega
      have hs2 : skipL (x ++ bl ++ e) = skipL x := by rw [List.append_assoc]; exact skipL_more _ hlt
      simp only [hs2]
      rw [List.append_assoc, drop_more _ hsk]
      rw [drop_more _ hsk] at h
      have hrl : (x.drop (skipL x)).length = x.length - skipL x := List.length_drop
      have hlast := last_drop hx (skipL x)
      have hp1 : pre [62] (x.drop (skipL x) ++ (bl ++ e)) = pre [62] (x.drop (skipL x) ++ e) := by
        rw [pre_more (by rw [hrl]; simp; omega), pre_more (by rw [hrl]; simp; omega)]
      rw [hp1]
      split at h
      · exfalso
        injection h with _ h
        omega
      rename_i h1
      rw [if_neg h1]
      split at h
      · exfalso
        rename_i h2
        injection h with _ h
        have : (x.drop (skipL x)).length = 1 := by omega
        match hd : x.drop (skipL x), this with
        | [c], _ =>
          rw [hd] at h2 hlast
          obtain ⟨t, ht⟩ := pre_cons2 h2
          injection ht with ht _
          subst ht
          exact hlast rfl
      rename_i h2
      split at h
      · cases h
      rename_i h3
      cases ha : attrL (x.drop (skipL x) ++ e) bs with
      | bad k c => rw [ha] at h; cases h
      | ok a n =>
        rw [ha] at h
        simp only at h
        obtain ⟨u, r, hu, hn, hmore⟩ := attrL_parts ha
        have hw3 := attrL_within (x.drop (skipL x) ++ e) bs
        rw [ha] at hw3
        obtain ⟨h3n, _⟩ := hw3
        have hnr : n ≤ (x.drop (skipL x)).length ∧ ∃ r0, x.drop (skipL x) = u ++ [34] ++ r0 := by
          rcases List.append_eq_append_iff.1 hu with ⟨a', h4, h5⟩ | ⟨a', h4, h5⟩
          · -- the attribute reaches into the end
            cases a' with
            | nil =>
              rw [List.append_nil] at h4
              refine ⟨by rw [← h4]; simp; omega, [], by rw [← h4]; simp⟩
            | cons c a' =>
              exfalso
              have hm : (34 : UInt8) ∈ e := by
                have : (u ++ [34]).getLast? = some 34 := by simp
                rw [h4, List.getLast?_append] at this
                simp only [List.getLast?_cons] at this
                have hmem : (34 : UInt8) ∈ c :: a' := by
                  have hg : (c :: a').getLast? = some 34 := by rw [List.getLast?_cons]; simpa using this
                  exact List.mem_of_getLast? hg
                rw [h5]; exact List.mem_append_left _ hmem
              exact he.quote hm
          · exact ⟨by rw [h4]; simp; omega, a', h4⟩
        obtain ⟨hn1, r0, hr0⟩ := hnr
        have ha2 : attrL (x.drop (skipL x) ++ (bl ++ e)) bs = .ok a n := by
          rw [hr0, List.append_assoc]; exact hmore _
        have hp2 : pre [47, 62] (x.drop (skipL x) ++ (bl ++ e)) = false := by
          rw [pre_more (by simp; omega)]
          rw [pre_more (by simp; omega)] at h2
          simpa using h2
        rw [hp2, if_neg (by decide), if_neg (by
          intro hh
          rcases hh with hh | hh
          · exact h3 (.inl hh)
          · have := congrArg List.length (List.append_eq_nil_iff.1 hh).1
            rw [hrl] at this; simp at this; omega), ha2]
        simp only
        rw [drop_more _ hn1] at h ⊢
        cases hq : attrsF f ((x.drop (skipL x)).drop n ++ e) (bs ++ [a]) with
        | bad k c => rw [hq] at h; cases h
        | ok y m =>
          rw [hq] at h
          injection h with hy hm
          subst hy
          have hm' : m = ((x.drop (skipL x)).drop n).length + e.length := by rw [List.length_drop, hrl]; omega
          rw [hm'] at hq
          have ih := attrsF_blanks he hb f g ((x.drop (skipL x)).drop n) (bs ++ [a]) y (by omega) (last_drop hlast n) hq
          rw [List.append_assoc] at ih
          rw [ih]
          simp only [Told.past, List.length_drop, Told.ok.injEq, true_and]
          omega
theorem beginT_blanks {x bl e : List UInt8} {t : TokD} (he : endB e) (hb : bl.all blankB = true) (hx : x.getLast? ≠ some 47) (h : beginT (x ++ e) = .ok t (x.length + e.length)) : beginT (x ++ bl ++ e) = .ok t (x.length + bl.length + e.length) := by
  have hw := wordL_len x
  unfold beginT at h
  simp only [word_stop he] at h
  split at h
  · cases h
  rename_i h1
  rw [drop_more _ hw] at h
  cases hq : attrsF ((x ++ e).length + 1) (x.drop (wordL x).length ++ e) [] with
  | bad k c => rw [hq] at h; cases h
  | ok q m =>
    rw [hq] at h
    injection h with ht hm
    have hm' : m = (x.drop (wordL x).length).length + e.length := by rw [List.length_drop]; omega
    rw [hm'] at hq
    have := attrsF_blanks he hb _ ((x ++ bl ++ e).length + 1) _ _ _ (by simp) (last_drop hx _) hq
    unfold beginT
    simp only [word_blanks he hb]
    rw [if_neg h1, show (x ++ bl ++ e).drop (wordL x).length = x.drop (wordL x).length ++ bl ++ e by rw [List.append_assoc, drop_more _ hw, List.append_assoc], this]
    simp only [ht, List.length_drop, Told.ok.injEq, true_and]
    omega

/-- a beginning, or an end, whose name is not empty and does not end with a slash -/
theorem oneT_blanks {n bl e : List UInt8} {t : TokD} (he : endB e) (hb : bl.all blankB = true) (hn : n ≠ []) (hx : n.getLast? ≠ some 47) (h : oneT (60 :: n ++ e) = .ok t (60 :: n ++ e).length) : oneT (60 :: n ++ bl ++ e) = .ok t (60 :: n ++ bl ++ e).length := by
  cases n with
  | nil => exact absurd rfl hn
  | cons c n =>
    by_cases hc : c = 47
    · subst hc
      have p1 : pre [60, 47] (60 :: 47 :: n ++ e) = true := by simp [pre]
      have p2 : pre [60, 47] (60 :: 47 :: n ++ bl ++ e) = true := by simp [pre]
      unfold oneT at h ⊢
      rw [if_pos p1] at h
      rw [if_pos p2]
      have d1 : (60 :: 47 :: n ++ e).drop 2 = n ++ e := rfl
      have d2 : (60 :: 47 :: n ++ bl ++ e).drop 2 = n ++ bl ++ e := rfl
      rw [d1] at h
      rw [d2]
      cases hq : endT (n ++ e) with
      | bad k c => rw [hq] at h; cases h
      | ok u m =>
        rw [hq] at h
        injection h with ht hm
        have hm' : m = n.length + e.length := by simp at hm; omega
        rw [hm'] at hq
        rw [endT_blanks he hb hq, ← ht]
        simp only [Told.past, List.length_append, List.length_cons, Told.ok.injEq, true_and]
        omega
    · have p1 : ∀ r, pre [60, 47] (60 :: c :: r) = false := fun r => by simp [pre, hc]
      have p2 : ∀ r, pre [60] (60 :: c :: r) = true := fun r => by simp [pre]
      unfold oneT at h ⊢
      simp only [List.cons_append, p1, p2, Bool.false_eq_true, if_false, if_true] at h ⊢
      have d1 : ∀ r, (60 :: c :: r).drop 1 = c :: r := fun _ => rfl
      rw [d1] at h ⊢
      cases hq : beginT (c :: (n ++ e)) with
      | bad k c => rw [hq] at h; cases h
      | ok u m =>
        rw [hq] at h
        injection h with ht hm
        have hm' : m = (c :: n).length + e.length := by simp at hm ⊢; omega
        rw [hm'] at hq
        have := beginT_blanks (x := c :: n) he hb hx hq
        rw [List.cons_append, List.cons_append] at this
        rw [this, ← ht]
        simp only [Told.past, List.length_append, List.length_cons, Told.ok.injEq, true_and]
        omega
theorem oneT_blanks_end {n bl : List UInt8} {t : TokD} (hb : bl.all blankB = true) (h : oneT (60 :: 47 :: n ++ [62]) = .ok t (60 :: 47 :: n ++ [62]).length) : oneT (60 :: 47 :: n ++ bl ++ [62]) = .ok t (60 :: 47 :: n ++ bl ++ [62]).length := by
  have he : endB [62] := .inl rfl
  have p1 : pre [60, 47] (60 :: 47 :: n ++ [62]) = true := by simp [pre]
  have p2 : pre [60, 47] (60 :: 47 :: n ++ bl ++ [62]) = true := by simp [pre]
  unfold oneT at h ⊢
  rw [if_pos p1] at h
  rw [if_pos p2]
  have d1 : (60 :: 47 :: n ++ [62]).drop 2 = n ++ [62] := rfl
  have d2 : (60 :: 47 :: n ++ bl ++ [62]).drop 2 = n ++ bl ++ [62] := rfl
  rw [d1] at h
  rw [d2]
  cases hq : endT (n ++ [62]) with
  | bad k c => rw [hq] at h; cases h
  | ok u m =>
    rw [hq] at h
    injection h with ht hm
    have hm' : m = n.length + [62].length := by simp at hm ⊢; omega
    rw [hm'] at hq
    rw [endT_blanks he hb hq, ← ht]
    simp only [Told.past, List.length_append, List.length_cons, Told.ok.injEq, true_and]
    omega
end Go.Proofs.Ythifddkmbjnncaa

/-
  The plain laws of tokens: rows, parts: no program in sight.
-/
namespace Go.Proofs.Ythifddkmbjnncaa

theorem charB_of_step {v : Bool} {l t : List UInt8} {n : Nat} (h : stepL v l = .inr (t, n)) : ∃ c, charB c = true ∧ t = enc c := by
  simp only [stepL] at h
  split at h
  · cases h
  split at h
  · cases h
  generalize (if (nextL l).fst = 38 then refL l else nextL l) = r at h
  split at h
  · cases h
  split at h
  · cases h
  rename_i hc
  injection h with h
  injection h with h _
  have hc' : charB r.1 = true := by simpa using hc
  refine ⟨_, hc', ?_⟩
  rw [← h]; unfold putF; rw [if_pos hc']
theorem undo_chars (v : Bool) : ∀ (k : Nat) (l : List UInt8), l.length ≤ k → (undoL v l).2.2 = 0 → ∃ cs, charsL (undoL v l).1 = some cs
  | 0, l, hk, _ => by
    obtain rfl : l = [] := List.eq_nil_of_length_eq_zero (by omega)
    rw [undoL_nil]; exact ⟨[], charsL_nil⟩
  | k + 1, l, hk, h => by
    by_cases hl : l = []
    · subst hl; rw [undoL_nil]; exact ⟨[], charsL_nil⟩
    · cases hs : stepL v l with
      | inl e =>
        rw [undoL_bad v l hl e hs] at h ⊢
        exact ⟨[], charsL_nil⟩
      | inr q =>
        obtain ⟨t, n⟩ := q
        have hp := stepL_pos hs
        rw [undoL_step v l hl t n hs] at h ⊢
        unfold joinU at h ⊢
        split at h
        · rename_i h0
          rw [if_pos h0]
          obtain ⟨cs, hcs⟩ := undo_chars v k (l.drop n) (by rw [List.length_drop]; omega) h0
          obtain ⟨c, hc, rfl⟩ := charB_of_step hs
          have he : charsL (enc c) = some [c] := by
            have := chars_enc [c] (by simp [hc])
            simpa using this
          exact ⟨[c] ++ cs, chars_append _ _ _ _ he hcs⟩
        · rename_i h0
          exact absurd h h0
theorem undo_ne {v : Bool} {l : List UInt8} (hl : l ≠ []) (h : (undoL v l).2.2 = 0) : (undoL v l).1 ≠ [] := by
  cases hs : stepL v l with
  | inl e =>
    exfalso
    rw [undoL_bad v l hl e hs] at h
    have he : e = 0 := h
    subst he
    simp only [stepL] at hs
    split at hs
    · injection hs with hs; omega
    split at hs
    · injection hs with hs; omega
    generalize (if (nextL l).fst = 38 then refL l else nextL l) = r at hs
    split at hs
    · injection hs with hs; omega
    split at hs
    · injection hs with hs; omega
    · cases hs
  | inr q =>
    obtain ⟨t, n⟩ := q
    obtain ⟨c, hc, rfl⟩ := charB_of_step hs
    rw [undoL_step v l hl _ n hs] at h ⊢
    unfold joinU at h ⊢
    split at h
    · rename_i h0
      rw [if_pos h0]
      intro e
      exact enc_ne c (List.append_eq_nil_iff.1 e).1
    · rename_i h0; exact absurd h h0

/-- how what is told of a token is made -/
inductive TokFine (l : List UInt8) (t : TokD) (n : Nat) : Prop
  | text (hk : t.kind = 4) (hn : t.name = []) (ha : t.attrs = []) (h60 : pre [60] l = false) (hb : n = (l.takeWhile (· != 60)).length) (hu : (undoL false (l.takeWhile (· != 60))).2.2 = 0) (ht : t.text = (undoL false (l.takeWhile (· != 60))).1) (hl : t.text.length ≤ 1500)
  | stop (hk : t.kind = 2) (hn : nameL t.name = true) (ha : t.attrs = []) (ht : t.text = []) (h60 : pre [60] l = true)
  | start (hk : t.kind = 1 ∨ t.kind = 3) (hn : nameL t.name = true) (ht : t.text = []) (h60 : pre [60] l = true) (bs : List AttrD) (ha : t.attrs = sortA bs) (hf : AttrsFine bs)

theorem pre_first {a b : UInt8} {l : List UInt8} (h : pre [a, b] l = true) : pre [a] l = true := by
  obtain ⟨t, rfl⟩ := pre_cons2 h
  simp [pre]
theorem oneT_fine {l : List UInt8} {t : TokD} {n : Nat} (h : oneT l = .ok t n) : TokFine l t n := by
  unfold oneT at h
  split at h
  · rename_i h1
    cases he : endT (l.drop 2) with
    | bad k e => rw [he] at h; cases h
    | ok u k =>
      rw [he] at h
      injection h with h _
      subst h
      unfold endT at he
      simp only at he
      split at he
      · cases he
      rename_i h2
      split at he
      · injection he with he _
        subst he
        exact .stop rfl (by simpa using h2) rfl rfl (pre_first h1)
      · cases he
  · split at h
    · rename_i h1
      cases he : beginT (l.drop 1) with
      | bad k e => rw [he] at h; cases h
      | ok u k =>
        rw [he] at h
        injection h with h _
        subst h
        unfold beginT at he
        simp only at he
        split at he
        · cases he
        rename_i h2
        cases hq : attrsF ((l.drop 1).length + 1) ((l.drop 1).drop (wordL (l.drop 1)).length) [] with
        | bad k e => rw [hq] at he; cases he
        | ok q m =>
          rw [hq] at he
          injection he with he _
          subst he
          obtain ⟨h3, h4⟩ := attrsF_fine _ _ _ _ _ attrsFine_nil hq
          exact .start h4 (by simpa using h2) rfl h1 q.2 rfl h3
    · rename_i h1
      unfold textT at h
      simp only at h
      split at h
      · cases h
      rename_i h2
      split at h
      · cases h
      rename_i h3
      injection h with h hn
      subst h
      exact .text rfl rfl rfl (by simpa using h1) hn.symm (by simpa using h2) rfl (by simpa using h3)

theorem text_ne {l : List UInt8} {t : TokD} {n : Nat} (hl : l ≠ []) (h : oneT l = .ok t n) (hk : t.kind = 4) : t.text ≠ [] := by
  rcases oneT_fine h with ⟨_, _, _, h60, _, hu, ht, _⟩ | ⟨hk', _⟩ | ⟨hk', _⟩
  · rw [ht]
    refine undo_ne ?_ hu
    cases l with
    | nil => exact absurd rfl hl
    | cons a r =>
      have : (a != 60) = true := by
        simp only [pre, List.length_cons, List.length_nil, List.take_succ_cons, List.take_zero] at h60
        cases h : a == 60 with
        | true => rw [eq_of_beq h] at h60; simp at h60
        | false => simp [bne, h]
      rw [List.takeWhile_cons, if_pos this]; simp
  · omega
  · omega
/-- behind a text stands a tag, or nothing -/
theorem behind_text {l : List UInt8} {t u : TokD} {n m : Nat} (h : oneT l = .ok t n) (hk : t.kind = 4) (hu : oneT (l.drop n) = .ok u m) (hne : l.drop n ≠ []) : u.kind ≠ 4 := by
  rcases oneT_fine h with ⟨_, _, _, h60, hn, _⟩ | ⟨hk', _⟩ | ⟨hk', _⟩
  · intro hk'
    rcases oneT_fine hu with ⟨_, _, _, h60', _⟩ | ⟨hk', _⟩ | ⟨hk', _⟩
    · subst hn
      have e : l.drop (l.takeWhile (· != 60)).length = l.dropWhile (· != 60) := by
        have h1 := span_word l (· != 60)
        have h2 := List.takeWhile_append_dropWhile (p := (· != 60)) (l := l)
        exact List.append_cancel_left (h1.symm.trans h2.symm)
      rw [e] at h60' hne
      have := List.head?_dropWhile_not (· != 60) l
      cases hd : l.dropWhile (· != 60) with
      | nil => exact hne hd
      | cons a r =>
        rw [hd] at this h60'
        simp at this
        subst this
        simp [pre] at h60'
    · omega
    · omega
  · omega
  · omega

/-- what is told of any token -/
theorem tok_parts {l : List UInt8} {t : TokD} {n : Nat} (h : oneT l = .ok t n) :
    (t.kind < 4 → nameL t.name = true) ∧ (t.kind = 4 → t.name = []) ∧ charsE t.text = 0 ∧ t.attrs.length ≤ 20 ∧ Rise t.attrs ∧ (∀ a ∈ t.attrs, nameL a.name = true ∧ charsE a.value = 0) := by
  have hcE : ∀ {v : Bool} {x : List UInt8}, (undoL v x).2.2 = 0 → (undoL v x).1.length ≤ 1500 → charsE (undoL v x).1 = 0 := fun {v x} h0 h1 => by
    obtain ⟨cs, hcs⟩ := undo_chars v _ x (Nat.le_refl _) h0
    unfold charsE countL
    rw [hcs]
    simp only
    rw [if_neg (by omega), if_neg (by omega)]
  have hnil : charsE [] = 0 := by
    unfold charsE countL
    rw [charsL_nil]; simp
  rcases oneT_fine h with ⟨hk, hn, ha, _, _, hu, ht, hl⟩ | ⟨hk, hn, ha, ht, _⟩ | ⟨hk, hn, ht, _, bs, ha, hf⟩
  · refine ⟨fun h => by omega, fun _ => hn, ?_, by rw [ha]; simp, by rw [ha]; exact List.Pairwise.nil, by rw [ha]; intro a h; cases h⟩
    rw [ht] at hl ⊢; exact hcE hu hl
  · exact ⟨fun _ => hn, fun h => by omega, by rw [ht]; exact hnil, by rw [ha]; simp, by rw [ha]; exact List.Pairwise.nil, by rw [ha]; intro a h; cases h⟩
  · refine ⟨fun _ => hn, fun h => by omega, by rw [ht]; exact hnil, by rw [ha, (sortA_perm bs).length_eq]; exact hf.many, by rw [ha]; exact sortA_rise hf.apart, fun a h => ?_⟩
    rw [ha] at h
    have := hf.all a ((sortA_perm bs).mem_iff.1 h)
    obtain ⟨x, h0, h1⟩ := this.value
    exact ⟨this.name, by have h2 := this.long; rw [← h1] at h2 ⊢; exact hcE h0 h2⟩
end Go.Proofs.Ythifddkmbjnncaa
