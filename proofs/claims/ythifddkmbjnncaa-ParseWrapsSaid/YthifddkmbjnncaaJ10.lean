/-
  Texts of this claim, joined (by a program of the claim's author): One, All, PRd, Close.
-/
import Derived.Test.YthifddkmbjnncaaJ1
import Derived.Test.YthifddkmbjnncaaJ9
import Derived.Test.YthifddkmbjnncaaJ5
import Derived.ArgAppend
/-
  lexis.One walked.
-/
namespace Go.Proofs.Ythifddkmbjnncaa
open Go.RowKit

/-- a token, as the program bears it -/
def tokC (pos : Nat) (t : TokD) (A : Option Addr) (c : Nat) : Array Value := #[.int .i64 t.kind, .int .i64 pos, .string ⟨t.name.toArray⟩, .string ⟨t.text.toArray⟩, .slice A t.attrs.length c]
def zeroTok : Array Value := #[.int .i64 0, .int .i64 0, .string ByteArray.empty, .string ByteArray.empty, .slice none 0 0]
theorem tokC_one (pos : Nat) (t : TokD) (A : Option Addr) (c : Nat) : (tokC pos t A c).all (·.oneCell') = true := by simp [tokC, Value.oneCell']

theorem zeroTok_one : zeroTok.all (·.oneCell') = true := by simp [zeroTok, Value.oneCell']
theorem below_row {B g : Nat} {w0 w : World} (hb : Below B w0 w) (hBg : B ≤ g) (cs : Array Value) : Below B w0 (w.setRow g cs) :=
  ⟨hb.os, hb.tape, hb.output, by rw [setRow_size]; exact hb.size, fun k hk => (setRow_other _ _ _ _ (by omega)).trans (hb.block k hk)⟩

theorem RdAt.setRow {w : World} {b g : Nat} {r : Rdr} (h : RdAt w b r) (hg : b ≠ g) (cs : Array Value) : RdAt (w.setRow g cs) b r := by
  unfold RdAt
  rw [setRow_other _ _ _ _ hg]; exact h

/-- what One leaves -/
def OnePost (w : World) (pos : Nat) (V : Told TokD) (e : Ending) (w' : World) : Prop :=
  Below w.heap.size w w' ∧ match V with
  | .ok t n => ∃ A c, e = .returned (.tuple #[.agg (tokC pos t A c), .int .i64 (pos + n : Nat), .int .i64 0, .int .i64 0]) ∧ AttrsOwn w' w.heap.size A c t.attrs
  | .bad k c => e = .returned (.tuple #[.agg zeroTok, .int .i64 0, .int .i64 (pos + k : Nat), .int .i64 c])

theorem block_below {w w' : World} {B g : Nat} {o : Obj} (h : Below B w w') (hg : g < B) (ho : w.heap[g]? = some o) : w'.heap[g]? = some o := by rw [h.block g hg]; exact ho



set_option maxRecDepth 100000 in
set_option maxHeartbeats 2000000 in
theorem One_any (s : ByteArray) (pos : Nat) (w : World) (hp : pos < s.size) (hs : s.size ≤ 1000000000) (V : Told TokD) (hV : Hid (oneT (s.data.toList.drop pos) = V)) :
    Calls Try.prog 20 #[.string s, .int .i64 pos] w (OnePost w pos V) := by
  have HL := Lib.hid (size_toList s)
  have i0 : (0 : Int) ≤ (pos : Int) := by omega
  have i1 : (pos : Int) < s.size := by omega
  obtain ⟨m1, hm1⟩ : ∃ m1, Hid (pre [60, 47] (s.data.toList.drop pos) = m1) := ⟨_, rfl⟩
  obtain ⟨m2, hm2⟩ : ∃ m2, Hid (pre [60] (s.data.toList.drop pos) = m2) := ⟨_, rfl⟩
  cases m1 with
  | true =>
    obtain ⟨V', hV'⟩ : ∃ V', Hid (endT (s.data.toList.drop (pos + 2)) = V') := ⟨_, rfl⟩
    have hVE : Hid (V = V'.past 2) := by
      show _ = _
      rw [← hV.out]
      unfold oneT
      rw [hm1.out, if_pos rfl, List.drop_drop, hV'.out]
    have hp2 : pos + 2 ≤ s.size := by have := pre_len hm1.out; rw [List.length_drop, HL.out] at this; simp at this; omega
    go_enter Try.func20, Try.ntmps20
    go_wp2_with fail
    obtain ⟨W1, hW1⟩ : ∃ W1, Hid (W1 = (w.alloc (.cells #[.int .i64 0, .int .i64 0, .string ⟨#[]⟩, .string ⟨#[]⟩, .slice none 0 0] 34)).alloc (.cells #[.string s, .int .i64 pos, .int .i64 0, .int .i64 pos, .string ⟨#[]⟩, .string ⟨#[]⟩, .slice none 0 0, .int .i64 0, .int .i64 0] 64)) := ⟨_, rfl⟩
    rw [← hW1.out]
    have hR1 : Hid (RdAt W1 (w.heap.size + 1) (Rdr.new s pos pos)) := by show RdAt _ _ _; rw [hW1.out]; exact heap_alloc2_new _ _ _
    have hT1 : Hid (W1.heap[w.heap.size]? = some (.cells zeroTok 34 (0, 0))) := by show _ = _; rw [hW1.out]; exact heap_alloc2_old _ _ _
    have hb1 : Below w.heap.size w W1 := by rw [hW1.out]; exact ((Below.refl _ w).alloc (Nat.le_refl _) _).alloc (by simp) _
    have hz1 : w.heap.size + 1 ≤ W1.heap.size := by rw [hW1.out]; simp
    refine (is_any (w.heap.size + 1) _ W1 hR1.out [60, 47] (Nat.le_of_lt hp) hs true hm1 (by decide)).mono ?_
    rintro e W2 ⟨rfl, hW2, hg2⟩
    have HR2 : Hid (RdAt W2 (w.heap.size + 1) (Rdr.new s (pos + 2) pos)) := hW2
    have hbw : Below (w.heap.size + 1) W1 W2 := below_of_grown hg2 (Nat.le_refl _) hz1
    clear hW2
    go_wp2_with fail
    refine (end_any (w.heap.size + 1) (w.heap.size + 1) s (pos + 2) pos W2 HR2.out (Nat.le_refl _) (Nat.le_trans hz1 hbw.size) hp2 hs V' hV').mono ?_
    rintro e W4 ⟨hb4, hpost⟩
    cases V' with
    | bad k c =>
      obtain ⟨rfl, R, hR4, hR41, hR42⟩ := hpost
      obtain ⟨x, hx⟩ : ∃ x, Hid (pos + 2 + k = x) := ⟨_, rfl⟩
      have HV : Hid (V = .bad (2 + k) c) := hVE.out
      rw [hx.out] at hR41
      obtain ⟨_, _, _, _, _, _, _, z7, z8⟩ := hR4.all
      rw [hR41] at z7
      rw [hR42] at z8
      have HT4 : Hid (W4.drew.heap[w.heap.size]? = some (.cells zeroTok 34 (0, 0))) := block_below ((hbw.trans hb4).drew) (Nat.lt_succ_self _) hT1.out
      clear hR41 hR42
      go_wp2_with fail
      refine wp_region_held_drew (S := fun w' => w'.cell? ⟨w.heap.size + 1, 7, none⟩ = some (.int .i64 x) ∧ w'.cell? ⟨w.heap.size + 1, 8, none⟩ = some (.int .i64 c)) (by kernel_rfl) ⟨z7, z8⟩ (fun hHeld => ?_)
      refine tk (oi := ⟨_, _, _, _, _, _⟩) (v := ?_) 0 rfl (by kernel_rfl) (fun _ _ _ h => h) (.inl ⟨by rfl, ?_⟩) (by assumption) ?_; rotate_left
      · (intro wS hSw; (try dsimp only at hSw); go_simp); all_goals with_reducible rfl
      try go_frame
      refine tk (oi := ⟨_, _, _, _, _, _⟩) (v := ?_) 1 rfl (by kernel_rfl) (fun _ _ _ h => h) (.inl ⟨by rfl, ?_⟩) (by assumption) ?_; rotate_left
      · (intro wS hSw; (try dsimp only at hSw); go_simp); all_goals with_reducible rfl
      try go_frame
      refine tk (oi := ⟨_, _, _, _, _, _⟩) (v := ?_) 2 rfl (by kernel_rfl) (fun _ _ _ h => h) (.inl ⟨by rfl, ?_⟩) (by assumption) ?_; rotate_left
      · (intro wS hSw; (try dsimp only at hSw); go_simp); all_goals with_reducible rfl
      try go_frame
      refine tk (oi := ⟨_, _, _, _, _, _⟩) (v := ?_) 3 rfl (by kernel_rfl) (fun _ _ _ h => h) (.inl ⟨by rfl, ?_⟩) (by assumption) ?_; rotate_left
      · (intro wS hSw; (try dsimp only at hSw); go_simp); all_goals with_reducible rfl
      try go_frame
      refine tk (oi := ⟨_, _, _, _, _, _⟩) (v := ?_) 4 rfl (by kernel_rfl) (fun _ _ _ h => h) (.inl ⟨by rfl, ?_⟩) (by assumption) ?_; rotate_left
      · (intro wS hSw; (try dsimp only at hSw); go_simp); all_goals with_reducible rfl
      try go_frame
      refine tk (oi := ⟨_, _, _, _, _, _⟩) (v := ?_) 5 rfl (by kernel_rfl) (fun _ _ _ h => h) (.inl ⟨by rfl, ?_⟩) (by assumption) ?_; rotate_left
      · (intro wS hSw; (try dsimp only at hSw); go_simp); all_goals with_reducible rfl
      try go_frame
      refine tk (oi := ⟨_, _, _, _, _, _⟩) (v := ?_) 6 rfl (by kernel_rfl) (fun _ _ _ h => h) (.inl ⟨by rfl, ?_⟩) (by assumption) ?_; rotate_left
      · (intro wS hSw; (try dsimp only at hSw); go_simp); all_goals with_reducible rfl
      try go_frame
      refine tk (oi := ⟨_, _, _, _, _, _⟩) (v := ?_) 7 rfl (by kernel_rfl) (fun _ _ _ h => h) (.inl ⟨by rfl, ?_⟩) (by assumption) ?_; rotate_left
      · (intro wS hSw; (try dsimp only at hSw); go_simp); all_goals with_reducible rfl
      try go_frame
      refine tk (oi := ⟨_, _, _, _, _, _⟩) (v := ?_) 8 rfl (by kernel_rfl) (fun _ _ _ h => h) (.inl ⟨by rfl, ?_⟩) (by assumption) ?_; rotate_left
      · (intro wS hSw; (try dsimp only at hSw); go_simp); all_goals with_reducible rfl
      try go_frame
      refine wpAnyH_ready (rs := [9]) (by kernel_rfl) (by simp) ?_
      refine AllReadyH.cons (o := ⟨_, _, _, _, _, _⟩) rfl (fun K hK => ?_) AllReadyH.nil
      refine wp_store_row 34 (.tmp 4) (.tmp 41) rfl w.heap.size zeroTok rfl rfl 34 zeroTok HT4.out (by kernel_rfl) rfl zeroTok_one ?_
      refine hK.out _ _ (⟨(cell_setRow_other _ _ _ _ (Nat.succ_ne_self _)).trans z7, (cell_setRow_other _ _ _ _ (Nat.succ_ne_self _)).trans z8⟩) (fun hHeld => ?_)
      clear hK K
      try go_frame
      refine tk (oi := ⟨_, _, _, _, _, _⟩) (v := ?_) 10 rfl (by kernel_rfl) (fun _ _ _ h => h) (.inl ⟨by rfl, ?_⟩) (by assumption) ?_; rotate_left
      · (intro wS hSw; (try dsimp only at hSw); go_simp); all_goals with_reducible rfl
      try go_frame
      refine tk (oi := ⟨_, _, _, _, _, _⟩) (v := ?_) 11 rfl (by kernel_rfl) (fun _ _ _ h => h) (.inl ⟨by rfl, ?_⟩) (by assumption) ?_; rotate_left
      · (intro wS hSw; (try dsimp only at hSw); go_simp); all_goals with_reducible rfl
      try go_frame
      refine tk (oi := ⟨_, _, _, _, _, _⟩) (v := ?_) 12 rfl (by kernel_rfl) (fun _ _ _ h => h) (.inl ⟨by rfl, ?_⟩) (by assumption) ?_; rotate_left
      · (intro wS hSw; (try dsimp only at hSw); go_simp); all_goals with_reducible rfl
      try go_frame
      refine wpAnyH_done (by kernel_rfl) ?_ _
      clear hHeld
      go_wp2_with fail
      try simp only [Exit.inBlock, Exit.then]
      refine bodyPost_ret (results_cell3 Try.results20 _ _ w.heap.size 34 zeroTok (0, 0) _ rfl (setRow_heap _ _ _ _ _ _ HT4.out) Try.underlying34 rfl (by kernel_rfl)) rfl ?_
      rw [HV.out]
      refine ⟨hb1.trans (below_row (((hbw.trans hb4).mono (Nat.le_succ _)).drew) (Nat.le_refl _) _), ?_⟩
      show _ = Ending.returned (.tuple #[.agg zeroTok, .int .i64 0, .int .i64 (pos + (2 + k) : Nat), .int .i64 c])
      rw [show pos + (2 + k) = x by have := hx.out; omega]
      rfl
    | ok t n =>
      obtain ⟨rfl, A, c, hR4, hA4⟩ := hpost
      obtain ⟨x, hx⟩ : ∃ x, Hid (pos + 2 + n = x) := ⟨_, rfl⟩
      have HV : Hid (V = .ok t (2 + n)) := hVE.out
      rw [hx.out] at hR4
      obtain ⟨_, z1, z2, z3, z4, z5, z6, _⟩ := hR4.all
      have HT4 : Hid (W4.drew.heap[w.heap.size]? = some (.cells zeroTok 34 (0, 0))) := block_below ((hbw.trans hb4).drew) (Nat.lt_succ_self _) hT1.out
      have HA4 : Hid (AttrsOwn W4.drew (w.heap.size + 1) A c t.attrs) := hA4
      clear hA4
      go_wp2_with fail
      have HS : Hid (RdAt W4.drew (w.heap.size + 1) ⟨s, x, t.kind, pos, t.name, t.text, A, t.attrs.length, c, 0, 0⟩) := hR4
      refine wp_region_held_drew (S := fun w' => w'.cell? ⟨w.heap.size + 1, 1, none⟩ = some (.int .i64 x) ∧ w'.cell? ⟨w.heap.size + 1, 2, none⟩ = some (.int .i64 t.kind) ∧ w'.cell? ⟨w.heap.size + 1, 3, none⟩ = some (.int .i64 pos) ∧ w'.cell? ⟨w.heap.size + 1, 4, none⟩ = some (.string ⟨t.name.toArray⟩) ∧ w'.cell? ⟨w.heap.size + 1, 5, none⟩ = some (.string ⟨t.text.toArray⟩) ∧ w'.cell? ⟨w.heap.size + 1, 6, none⟩ = some (.slice A t.attrs.length c)) (by kernel_rfl) ⟨z1, z2, z3, z4, z5, z6⟩ (fun hHeld => ?_)
      refine tk (oi := ⟨_, _, _, _, _, _⟩) (v := ?_) 0 rfl (by kernel_rfl) (fun _ _ _ h => h) (.inl ⟨by rfl, ?_⟩) (by assumption) ?_; rotate_left
      · (intro wS hSw; (try dsimp only at hSw); go_simp); all_goals with_reducible rfl
      try go_frame
      refine tk (oi := ⟨_, _, _, _, _, _⟩) (v := ?_) 1 rfl (by kernel_rfl) (fun _ _ _ h => h) (.inl ⟨by rfl, ?_⟩) (by assumption) ?_; rotate_left
      · (intro wS hSw; (try dsimp only at hSw); go_simp); all_goals with_reducible rfl
      try go_frame
      refine tk (oi := ⟨_, _, _, _, _, _⟩) (v := ?_) 2 rfl (by kernel_rfl) (fun _ _ _ h => h) (.inl ⟨by rfl, ?_⟩) (by assumption) ?_; rotate_left
      · (intro wS hSw; (try dsimp only at hSw); go_simp); all_goals with_reducible rfl
      try go_frame
      refine tk (oi := ⟨_, _, _, _, _, _⟩) (v := ?_) 3 rfl (by kernel_rfl) (fun _ _ _ h => h) (.inl ⟨by rfl, ?_⟩) (by assumption) ?_; rotate_left
      · (intro wS hSw; (try dsimp only at hSw); go_simp); all_goals with_reducible rfl
      try go_frame
      refine tk (oi := ⟨_, _, _, _, _, _⟩) (v := ?_) 4 rfl (by kernel_rfl) (fun _ _ _ h => h) (.inl ⟨by rfl, ?_⟩) (by assumption) ?_; rotate_left
      · (intro wS hSw; (try dsimp only at hSw); go_simp); all_goals with_reducible rfl
      try go_frame
      refine tk (oi := ⟨_, _, _, _, _, _⟩) (v := ?_) 5 rfl (by kernel_rfl) (fun _ _ _ h => h) (.inl ⟨by rfl, ?_⟩) (by assumption) ?_; rotate_left
      · (intro wS hSw; (try dsimp only at hSw); go_simp); all_goals with_reducible rfl
      try go_frame
      refine tk (oi := ⟨_, _, _, _, _, _⟩) (v := ?_) 6 rfl (by kernel_rfl) (fun _ _ _ h => h) (.inl ⟨by rfl, ?_⟩) (by assumption) ?_; rotate_left
      · (intro wS hSw; (try dsimp only at hSw); go_simp); all_goals with_reducible rfl
      try go_frame
      refine tk (oi := ⟨_, _, _, _, _, _⟩) (v := ?_) 7 rfl (by kernel_rfl) (fun _ _ _ h => h) (.inl ⟨by rfl, ?_⟩) (by assumption) ?_; rotate_left
      · (intro wS hSw; (try dsimp only at hSw); go_simp); all_goals with_reducible rfl
      try go_frame
      refine wpAnyH_ready (rs := [8]) (by kernel_rfl) (by simp) ?_
      refine AllReadyH.cons (o := ⟨_, _, _, _, _, _⟩) rfl (fun K hK => ?_) AllReadyH.nil
      refine wp_store_row 34 (.tmp 4) (.tmp 53) rfl w.heap.size (tokC pos t A c) rfl rfl 34 zeroTok HT4.out (by kernel_rfl) rfl (tokC_one _ _ _ _) ?_
      have HSR := HS.out.setRow (g := w.heap.size) (Nat.succ_ne_self _) (tokC pos t A c)
      refine hK.out _ _ (⟨HSR.all.2.1, HSR.all.2.2.1, HSR.all.2.2.2.1, HSR.all.2.2.2.2.1, HSR.all.2.2.2.2.2.1, HSR.all.2.2.2.2.2.2.1⟩) (fun hHeld => ?_)
      clear hK K
      try go_frame
      refine tk (oi := ⟨_, _, _, _, _, _⟩) (v := ?_) 9 rfl (by kernel_rfl) (fun _ _ _ h => h) (.inl ⟨by rfl, ?_⟩) (by assumption) ?_; rotate_left
      · (intro wS hSw; (try dsimp only at hSw); go_simp); all_goals with_reducible rfl
      try go_frame
      refine tk (oi := ⟨_, _, _, _, _, _⟩) (v := ?_) 10 rfl (by kernel_rfl) (fun _ _ _ h => h) (.inl ⟨by rfl, ?_⟩) (by assumption) ?_; rotate_left
      · (intro wS hSw; (try dsimp only at hSw); go_simp); all_goals with_reducible rfl
      try go_frame
      refine tk (oi := ⟨_, _, _, _, _, _⟩) (v := ?_) 11 rfl (by kernel_rfl) (fun _ _ _ h => h) (.inl ⟨by rfl, ?_⟩) (by assumption) ?_; rotate_left
      · (intro wS hSw; (try dsimp only at hSw); go_simp); all_goals with_reducible rfl
      try go_frame
      refine wpAnyH_done (by kernel_rfl) ?_ _
      clear hHeld
      go_wp2_with fail
      try simp only [Exit.inBlock, Exit.then]
      refine bodyPost_ret (results_cell3 Try.results20 _ _ w.heap.size 34 (tokC pos t A c) (0, 0) _ rfl (setRow_heap _ _ _ _ _ _ HT4.out) Try.underlying34 rfl (by kernel_rfl)) rfl ?_
      rw [HV.out]
      refine ⟨hb1.trans (below_row (((hbw.trans hb4).mono (Nat.le_succ _)).drew) (Nat.le_refl _) _), A, c, ?_, row_base (row_setRow HA4.out (Nat.lt_succ_self _) _) (Nat.le_succ _)⟩
      rw [show pos + (2 + n) = x by have := hx.out; omega]
      rfl
  | false =>
    cases m2 with
    | true =>
      obtain ⟨V', hV'⟩ : ∃ V', Hid (beginT (s.data.toList.drop (pos + 1)) = V') := ⟨_, rfl⟩
      have hVE : Hid (V = V'.past 1) := by
        show _ = _
        rw [← hV.out]
        unfold oneT
        rw [hm1.out, if_neg (by decide), hm2.out, if_pos rfl, List.drop_drop, hV'.out]
      have hp2 : pos + 1 ≤ s.size := hp
      go_enter Try.func20, Try.ntmps20
      go_wp2_with fail
      obtain ⟨W1, hW1⟩ : ∃ W1, Hid (W1 = (w.alloc (.cells #[.int .i64 0, .int .i64 0, .string ⟨#[]⟩, .string ⟨#[]⟩, .slice none 0 0] 34)).alloc (.cells #[.string s, .int .i64 pos, .int .i64 0, .int .i64 pos, .string ⟨#[]⟩, .string ⟨#[]⟩, .slice none 0 0, .int .i64 0, .int .i64 0] 64)) := ⟨_, rfl⟩
      rw [← hW1.out]
      have hR1 : Hid (RdAt W1 (w.heap.size + 1) (Rdr.new s pos pos)) := by show RdAt _ _ _; rw [hW1.out]; exact heap_alloc2_new _ _ _
      have hT1 : Hid (W1.heap[w.heap.size]? = some (.cells zeroTok 34 (0, 0))) := by show _ = _; rw [hW1.out]; exact heap_alloc2_old _ _ _
      have hb1 : Below w.heap.size w W1 := by rw [hW1.out]; exact ((Below.refl _ w).alloc (Nat.le_refl _) _).alloc (by simp) _
      have hz1 : w.heap.size + 1 ≤ W1.heap.size := by rw [hW1.out]; simp
      refine (is_any (w.heap.size + 1) _ W1 hR1.out [60, 47] (Nat.le_of_lt hp) hs false hm1 (by decide)).mono ?_
      rintro e W2 ⟨rfl, hW2, hg2⟩
      have HR2 : Hid (RdAt W2 (w.heap.size + 1) (Rdr.new s pos pos)) := hW2
      clear hW2
      go_wp2_with fail
      refine (is_any (w.heap.size + 1) _ W2 HR2.out [60] (Nat.le_of_lt hp) hs true hm2 (by decide)).mono ?_
      rintro e W3 ⟨rfl, hW3, hg3⟩
      have HR3 : Hid (RdAt W3 (w.heap.size + 1) (Rdr.new s (pos + 1) pos)) := hW3
      have hbw : Below (w.heap.size + 1) W1 W3 := below_of_grown (grown_twice hg2 hg3) (Nat.le_refl _) hz1
      clear hW3
      go_wp2_with fail
      refine (begin_any (w.heap.size + 1) (w.heap.size + 1) s (pos + 1) pos W3 HR3.out (Nat.le_refl _) (Nat.le_trans hz1 hbw.size) hp2 hs V' hV').mono ?_
      rintro e W4 ⟨hb4, hpost⟩
      cases V' with
      | bad k c =>
        obtain ⟨rfl, R, hR4, hR41, hR42⟩ := hpost
        obtain ⟨x, hx⟩ : ∃ x, Hid (pos + 1 + k = x) := ⟨_, rfl⟩
        have HV : Hid (V = .bad (1 + k) c) := hVE.out
        rw [hx.out] at hR41
        obtain ⟨_, _, _, _, _, _, _, z7, z8⟩ := hR4.all
        rw [hR41] at z7
        rw [hR42] at z8
        have HT4 : Hid (W4.drew.heap[w.heap.size]? = some (.cells zeroTok 34 (0, 0))) := block_below ((hbw.trans hb4).drew) (Nat.lt_succ_self _) hT1.out
        clear hR41 hR42
        go_wp2_with fail
        refine wp_region_held_drew (S := fun w' => w'.cell? ⟨w.heap.size + 1, 7, none⟩ = some (.int .i64 x) ∧ w'.cell? ⟨w.heap.size + 1, 8, none⟩ = some (.int .i64 c)) (by kernel_rfl) ⟨z7, z8⟩ (fun hHeld => ?_)
        refine tk (oi := ⟨_, _, _, _, _, _⟩) (v := ?_) 0 rfl (by kernel_rfl) (fun _ _ _ h => h) (.inl ⟨by rfl, ?_⟩) (by assumption) ?_; rotate_left
        · (intro wS hSw; (try dsimp only at hSw); go_simp); all_goals with_reducible rfl
        try go_frame
        refine tk (oi := ⟨_, _, _, _, _, _⟩) (v := ?_) 1 rfl (by kernel_rfl) (fun _ _ _ h => h) (.inl ⟨by rfl, ?_⟩) (by assumption) ?_; rotate_left
        · (intro wS hSw; (try dsimp only at hSw); go_simp); all_goals with_reducible rfl
        try go_frame
        refine tk (oi := ⟨_, _, _, _, _, _⟩) (v := ?_) 2 rfl (by kernel_rfl) (fun _ _ _ h => h) (.inl ⟨by rfl, ?_⟩) (by assumption) ?_; rotate_left
        · (intro wS hSw; (try dsimp only at hSw); go_simp); all_goals with_reducible rfl
        try go_frame
        refine tk (oi := ⟨_, _, _, _, _, _⟩) (v := ?_) 3 rfl (by kernel_rfl) (fun _ _ _ h => h) (.inl ⟨by rfl, ?_⟩) (by assumption) ?_; rotate_left
        · (intro wS hSw; (try dsimp only at hSw); go_simp); all_goals with_reducible rfl
        try go_frame
        refine tk (oi := ⟨_, _, _, _, _, _⟩) (v := ?_) 4 rfl (by kernel_rfl) (fun _ _ _ h => h) (.inl ⟨by rfl, ?_⟩) (by assumption) ?_; rotate_left
        · (intro wS hSw; (try dsimp only at hSw); go_simp); all_goals with_reducible rfl
        try go_frame
        refine tk (oi := ⟨_, _, _, _, _, _⟩) (v := ?_) 5 rfl (by kernel_rfl) (fun _ _ _ h => h) (.inl ⟨by rfl, ?_⟩) (by assumption) ?_; rotate_left
        · (intro wS hSw; (try dsimp only at hSw); go_simp); all_goals with_reducible rfl
        try go_frame
        refine tk (oi := ⟨_, _, _, _, _, _⟩) (v := ?_) 6 rfl (by kernel_rfl) (fun _ _ _ h => h) (.inl ⟨by rfl, ?_⟩) (by assumption) ?_; rotate_left
        · (intro wS hSw; (try dsimp only at hSw); go_simp); all_goals with_reducible rfl
        try go_frame
        refine tk (oi := ⟨_, _, _, _, _, _⟩) (v := ?_) 7 rfl (by kernel_rfl) (fun _ _ _ h => h) (.inl ⟨by rfl, ?_⟩) (by assumption) ?_; rotate_left
        · (intro wS hSw; (try dsimp only at hSw); go_simp); all_goals with_reducible rfl
        try go_frame
        refine tk (oi := ⟨_, _, _, _, _, _⟩) (v := ?_) 8 rfl (by kernel_rfl) (fun _ _ _ h => h) (.inl ⟨by rfl, ?_⟩) (by assumption) ?_; rotate_left
        · (intro wS hSw; (try dsimp only at hSw); go_simp); all_goals with_reducible rfl
        try go_frame
        refine wpAnyH_ready (rs := [9]) (by kernel_rfl) (by simp) ?_
        refine AllReadyH.cons (o := ⟨_, _, _, _, _, _⟩) rfl (fun K hK => ?_) AllReadyH.nil
        refine wp_store_row 34 (.tmp 4) (.tmp 41) rfl w.heap.size zeroTok rfl rfl 34 zeroTok HT4.out (by kernel_rfl) rfl zeroTok_one ?_
        refine hK.out _ _ (⟨(cell_setRow_other _ _ _ _ (Nat.succ_ne_self _)).trans z7, (cell_setRow_other _ _ _ _ (Nat.succ_ne_self _)).trans z8⟩) (fun hHeld => ?_)
        clear hK K
        try go_frame
        refine tk (oi := ⟨_, _, _, _, _, _⟩) (v := ?_) 10 rfl (by kernel_rfl) (fun _ _ _ h => h) (.inl ⟨by rfl, ?_⟩) (by assumption) ?_; rotate_left
        · (intro wS hSw; (try dsimp only at hSw); go_simp); all_goals with_reducible rfl
        try go_frame
        refine tk (oi := ⟨_, _, _, _, _, _⟩) (v := ?_) 11 rfl (by kernel_rfl) (fun _ _ _ h => h) (.inl ⟨by rfl, ?_⟩) (by assumption) ?_; rotate_left
        · (intro wS hSw; (try dsimp only at hSw); go_simp); all_goals with_reducible rfl
        try go_frame
        refine tk (oi := ⟨_, _, _, _, _, _⟩) (v := ?_) 12 rfl (by kernel_rfl) (fun _ _ _ h => h) (.inl ⟨by rfl, ?_⟩) (by assumption) ?_; rotate_left
        · (intro wS hSw; (try dsimp only at hSw); go_simp); all_goals with_reducible rfl
        try go_frame
        refine wpAnyH_done (by kernel_rfl) ?_ _
        clear hHeld
        go_wp2_with fail
        try simp only [Exit.inBlock, Exit.then]
        refine bodyPost_ret (results_cell3 Try.results20 _ _ w.heap.size 34 zeroTok (0, 0) _ rfl (setRow_heap _ _ _ _ _ _ HT4.out) Try.underlying34 rfl (by kernel_rfl)) rfl ?_
        rw [HV.out]
        refine ⟨hb1.trans (below_row (((hbw.trans hb4).mono (Nat.le_succ _)).drew) (Nat.le_refl _) _), ?_⟩
        show _ = Ending.returned (.tuple #[.agg zeroTok, .int .i64 0, .int .i64 (pos + (1 + k) : Nat), .int .i64 c])
        rw [show pos + (1 + k) = x by have := hx.out; omega]
        rfl
      | ok t n =>
        obtain ⟨rfl, A, c, hR4, hA4⟩ := hpost
        obtain ⟨x, hx⟩ : ∃ x, Hid (pos + 1 + n = x) := ⟨_, rfl⟩
        have HV : Hid (V = .ok t (1 + n)) := hVE.out
        rw [hx.out] at hR4
        obtain ⟨_, z1, z2, z3, z4, z5, z6, _⟩ := hR4.all
        have HT4 : Hid (W4.drew.heap[w.heap.size]? = some (.cells zeroTok 34 (0, 0))) := block_below ((hbw.trans hb4).drew) (Nat.lt_succ_self _) hT1.out
        have HA4 : Hid (AttrsOwn W4.drew (w.heap.size + 1) A c t.attrs) := hA4
        clear hA4
        go_wp2_with fail
        have HS : Hid (RdAt W4.drew (w.heap.size + 1) ⟨s, x, t.kind, pos, t.name, t.text, A, t.attrs.length, c, 0, 0⟩) := hR4
        refine wp_region_held_drew (S := fun w' => w'.cell? ⟨w.heap.size + 1, 1, none⟩ = some (.int .i64 x) ∧ w'.cell? ⟨w.heap.size + 1, 2, none⟩ = some (.int .i64 t.kind) ∧ w'.cell? ⟨w.heap.size + 1, 3, none⟩ = some (.int .i64 pos) ∧ w'.cell? ⟨w.heap.size + 1, 4, none⟩ = some (.string ⟨t.name.toArray⟩) ∧ w'.cell? ⟨w.heap.size + 1, 5, none⟩ = some (.string ⟨t.text.toArray⟩) ∧ w'.cell? ⟨w.heap.size + 1, 6, none⟩ = some (.slice A t.attrs.length c)) (by kernel_rfl) ⟨z1, z2, z3, z4, z5, z6⟩ (fun hHeld => ?_)
        refine tk (oi := ⟨_, _, _, _, _, _⟩) (v := ?_) 0 rfl (by kernel_rfl) (fun _ _ _ h => h) (.inl ⟨by rfl, ?_⟩) (by assumption) ?_; rotate_left
        · (intro wS hSw; (try dsimp only at hSw); go_simp); all_goals with_reducible rfl
        try go_frame
        refine tk (oi := ⟨_, _, _, _, _, _⟩) (v := ?_) 1 rfl (by kernel_rfl) (fun _ _ _ h => h) (.inl ⟨by rfl, ?_⟩) (by assumption) ?_; rotate_left
        · (intro wS hSw; (try dsimp only at hSw); go_simp); all_goals with_reducible rfl
        try go_frame
        refine tk (oi := ⟨_, _, _, _, _, _⟩) (v := ?_) 2 rfl (by kernel_rfl) (fun _ _ _ h => h) (.inl ⟨by rfl, ?_⟩) (by assumption) ?_; rotate_left
        · (intro wS hSw; (try dsimp only at hSw); go_simp); all_goals with_reducible rfl
        try go_frame
        refine tk (oi := ⟨_, _, _, _, _, _⟩) (v := ?_) 3 rfl (by kernel_rfl) (fun _ _ _ h => h) (.inl ⟨by rfl, ?_⟩) (by assumption) ?_; rotate_left
        · (intro wS hSw; (try dsimp only at hSw); go_simp); all_goals with_reducible rfl
        try go_frame
        refine tk (oi := ⟨_, _, _, _, _, _⟩) (v := ?_) 4 rfl (by kernel_rfl) (fun _ _ _ h => h) (.inl ⟨by rfl, ?_⟩) (by assumption) ?_; rotate_left
        · (intro wS hSw; (try dsimp only at hSw); go_simp); all_goals with_reducible rfl
        try go_frame
        refine tk (oi := ⟨_, _, _, _, _, _⟩) (v := ?_) 5 rfl (by kernel_rfl) (fun _ _ _ h => h) (.inl ⟨by rfl, ?_⟩) (by assumption) ?_; rotate_left
        · (intro wS hSw; (try dsimp only at hSw); go_simp); all_goals with_reducible rfl
        try go_frame
        refine tk (oi := ⟨_, _, _, _, _, _⟩) (v := ?_) 6 rfl (by kernel_rfl) (fun _ _ _ h => h) (.inl ⟨by rfl, ?_⟩) (by assumption) ?_; rotate_left
        · (intro wS hSw; (try dsimp only at hSw); go_simp); all_goals with_reducible rfl
        try go_frame
        refine tk (oi := ⟨_, _, _, _, _, _⟩) (v := ?_) 7 rfl (by kernel_rfl) (fun _ _ _ h => h) (.inl ⟨by rfl, ?_⟩) (by assumption) ?_; rotate_left
        · (intro wS hSw; (try dsimp only at hSw); go_simp); all_goals with_reducible rfl
        try go_frame
        refine wpAnyH_ready (rs := [8]) (by kernel_rfl) (by simp) ?_
        refine AllReadyH.cons (o := ⟨_, _, _, _, _, _⟩) rfl (fun K hK => ?_) AllReadyH.nil
        refine wp_store_row 34 (.tmp 4) (.tmp 53) rfl w.heap.size (tokC pos t A c) rfl rfl 34 zeroTok HT4.out (by kernel_rfl) rfl (tokC_one _ _ _ _) ?_
        have HSR := HS.out.setRow (g := w.heap.size) (Nat.succ_ne_self _) (tokC pos t A c)
        refine hK.out _ _ (⟨HSR.all.2.1, HSR.all.2.2.1, HSR.all.2.2.2.1, HSR.all.2.2.2.2.1, HSR.all.2.2.2.2.2.1, HSR.all.2.2.2.2.2.2.1⟩) (fun hHeld => ?_)
        clear hK K
        try go_frame
        refine tk (oi := ⟨_, _, _, _, _, _⟩) (v := ?_) 9 rfl (by kernel_rfl) (fun _ _ _ h => h) (.inl ⟨by rfl, ?_⟩) (by assumption) ?_; rotate_left
        · (intro wS hSw; (try dsimp only at hSw); go_simp); all_goals with_reducible rfl
        try go_frame
        refine tk (oi := ⟨_, _, _, _, _, _⟩) (v := ?_) 10 rfl (by kernel_rfl) (fun _ _ _ h => h) (.inl ⟨by rfl, ?_⟩) (by assumption) ?_; rotate_left
        · (intro wS hSw; (try dsimp only at hSw); go_simp); all_goals with_reducible rfl
        try go_frame
        refine tk (oi := ⟨_, _, _, _, _, _⟩) (v := ?_) 11 rfl (by kernel_rfl) (fun _ _ _ h => h) (.inl ⟨by rfl, ?_⟩) (by assumption) ?_; rotate_left
        · (intro wS hSw; (try dsimp only at hSw); go_simp); all_goals with_reducible rfl
        try go_frame
        refine wpAnyH_done (by kernel_rfl) ?_ _
        clear hHeld
        go_wp2_with fail
        try simp only [Exit.inBlock, Exit.then]
        refine bodyPost_ret (results_cell3 Try.results20 _ _ w.heap.size 34 (tokC pos t A c) (0, 0) _ rfl (setRow_heap _ _ _ _ _ _ HT4.out) Try.underlying34 rfl (by kernel_rfl)) rfl ?_
        rw [HV.out]
        refine ⟨hb1.trans (below_row (((hbw.trans hb4).mono (Nat.le_succ _)).drew) (Nat.le_refl _) _), A, c, ?_, row_base (row_setRow HA4.out (Nat.lt_succ_self _) _) (Nat.le_succ _)⟩
        rw [show pos + (1 + n) = x by have := hx.out; omega]
        rfl
    | false =>
      obtain ⟨V', hV'⟩ : ∃ V', Hid (textT (s.data.toList.drop pos) = V') := ⟨_, rfl⟩
      have hVE : Hid (V = V'.past 0) := by
        show _ = _
        rw [← hV.out, Told.past_zero, ← hV'.out]
        unfold oneT
        rw [hm1.out, if_neg (by decide), hm2.out, if_neg (by decide)]
      go_enter Try.func20, Try.ntmps20
      go_wp2_with fail
      obtain ⟨W1, hW1⟩ : ∃ W1, Hid (W1 = (w.alloc (.cells #[.int .i64 0, .int .i64 0, .string ⟨#[]⟩, .string ⟨#[]⟩, .slice none 0 0] 34)).alloc (.cells #[.string s, .int .i64 pos, .int .i64 0, .int .i64 pos, .string ⟨#[]⟩, .string ⟨#[]⟩, .slice none 0 0, .int .i64 0, .int .i64 0] 64)) := ⟨_, rfl⟩
      rw [← hW1.out]
      have hR1 : Hid (RdAt W1 (w.heap.size + 1) (Rdr.new s pos pos)) := by show RdAt _ _ _; rw [hW1.out]; exact heap_alloc2_new _ _ _
      have hT1 : Hid (W1.heap[w.heap.size]? = some (.cells zeroTok 34 (0, 0))) := by show _ = _; rw [hW1.out]; exact heap_alloc2_old _ _ _
      have hb1 : Below w.heap.size w W1 := by rw [hW1.out]; exact ((Below.refl _ w).alloc (Nat.le_refl _) _).alloc (by simp) _
      have hz1 : w.heap.size + 1 ≤ W1.heap.size := by rw [hW1.out]; simp
      refine (is_any (w.heap.size + 1) _ W1 hR1.out [60, 47] (Nat.le_of_lt hp) hs false hm1 (by decide)).mono ?_
      rintro e W2 ⟨rfl, hW2, hg2⟩
      have HR2 : Hid (RdAt W2 (w.heap.size + 1) (Rdr.new s pos pos)) := hW2
      clear hW2
      go_wp2_with fail
      refine (is_any (w.heap.size + 1) _ W2 HR2.out [60] (Nat.le_of_lt hp) hs false hm2 (by decide)).mono ?_
      rintro e W3 ⟨rfl, hW3, hg3⟩
      have HR3 : Hid (RdAt W3 (w.heap.size + 1) (Rdr.new s pos pos)) := hW3
      have hbw : Below (w.heap.size + 1) W1 W3 := below_of_grown (grown_twice hg2 hg3) (Nat.le_refl _) hz1
      clear hW3
      go_wp2_with fail
      refine (text_any (w.heap.size + 1) (w.heap.size + 1) s pos pos W3 HR3.out (Nat.le_refl _) (Nat.le_trans hz1 hbw.size) (Nat.le_of_lt hp) hs V' hV').mono ?_
      rintro e W4 ⟨hb4, hpost⟩
      cases V' with
      | bad k c =>
        obtain ⟨rfl, R, hR4, hR41, hR42⟩ := hpost
        obtain ⟨x, hx⟩ : ∃ x, Hid (pos + k = x) := ⟨_, rfl⟩
        have HV : Hid (V = .bad (0 + k) c) := hVE.out
        rw [hx.out] at hR41
        obtain ⟨_, _, _, _, _, _, _, z7, z8⟩ := hR4.all
        rw [hR41] at z7
        rw [hR42] at z8
        have HT4 : Hid (W4.drew.heap[w.heap.size]? = some (.cells zeroTok 34 (0, 0))) := block_below ((hbw.trans hb4).drew) (Nat.lt_succ_self _) hT1.out
        clear hR41 hR42
        go_wp2_with fail
        refine wp_region_held_drew (S := fun w' => w'.cell? ⟨w.heap.size + 1, 7, none⟩ = some (.int .i64 x) ∧ w'.cell? ⟨w.heap.size + 1, 8, none⟩ = some (.int .i64 c)) (by kernel_rfl) ⟨z7, z8⟩ (fun hHeld => ?_)
        refine tk (oi := ⟨_, _, _, _, _, _⟩) (v := ?_) 0 rfl (by kernel_rfl) (fun _ _ _ h => h) (.inl ⟨by rfl, ?_⟩) (by assumption) ?_; rotate_left
        · (intro wS hSw; (try dsimp only at hSw); go_simp); all_goals with_reducible rfl
        try go_frame
        refine tk (oi := ⟨_, _, _, _, _, _⟩) (v := ?_) 1 rfl (by kernel_rfl) (fun _ _ _ h => h) (.inl ⟨by rfl, ?_⟩) (by assumption) ?_; rotate_left
        · (intro wS hSw; (try dsimp only at hSw); go_simp); all_goals with_reducible rfl
        try go_frame
        refine tk (oi := ⟨_, _, _, _, _, _⟩) (v := ?_) 2 rfl (by kernel_rfl) (fun _ _ _ h => h) (.inl ⟨by rfl, ?_⟩) (by assumption) ?_; rotate_left
        · (intro wS hSw; (try dsimp only at hSw); go_simp); all_goals with_reducible rfl
        try go_frame
        refine tk (oi := ⟨_, _, _, _, _, _⟩) (v := ?_) 3 rfl (by kernel_rfl) (fun _ _ _ h => h) (.inl ⟨by rfl, ?_⟩) (by assumption) ?_; rotate_left
        · (intro wS hSw; (try dsimp only at hSw); go_simp); all_goals with_reducible rfl
        try go_frame
        refine tk (oi := ⟨_, _, _, _, _, _⟩) (v := ?_) 4 rfl (by kernel_rfl) (fun _ _ _ h => h) (.inl ⟨by rfl, ?_⟩) (by assumption) ?_; rotate_left
        · (intro wS hSw; (try dsimp only at hSw); go_simp); all_goals with_reducible rfl
        try go_frame
        refine tk (oi := ⟨_, _, _, _, _, _⟩) (v := ?_) 5 rfl (by kernel_rfl) (fun _ _ _ h => h) (.inl ⟨by rfl, ?_⟩) (by assumption) ?_; rotate_left
        · (intro wS hSw; (try dsimp only at hSw); go_simp); all_goals with_reducible rfl
        try go_frame
        refine tk (oi := ⟨_, _, _, _, _, _⟩) (v := ?_) 6 rfl (by kernel_rfl) (fun _ _ _ h => h) (.inl ⟨by rfl, ?_⟩) (by assumption) ?_; rotate_left
        · (intro wS hSw; (try dsimp only at hSw); go_simp); all_goals with_reducible rfl
        try go_frame
        refine tk (oi := ⟨_, _, _, _, _, _⟩) (v := ?_) 7 rfl (by kernel_rfl) (fun _ _ _ h => h) (.inl ⟨by rfl, ?_⟩) (by assumption) ?_; rotate_left
        · (intro wS hSw; (try dsimp only at hSw); go_simp); all_goals with_reducible rfl
        try go_frame
        refine tk (oi := ⟨_, _, _, _, _, _⟩) (v := ?_) 8 rfl (by kernel_rfl) (fun _ _ _ h => h) (.inl ⟨by rfl, ?_⟩) (by assumption) ?_; rotate_left
        · (intro wS hSw; (try dsimp only at hSw); go_simp); all_goals with_reducible rfl
        try go_frame
        refine wpAnyH_ready (rs := [9]) (by kernel_rfl) (by simp) ?_
        refine AllReadyH.cons (o := ⟨_, _, _, _, _, _⟩) rfl (fun K hK => ?_) AllReadyH.nil
        refine wp_store_row 34 (.tmp 4) (.tmp 41) rfl w.heap.size zeroTok rfl rfl 34 zeroTok HT4.out (by kernel_rfl) rfl zeroTok_one ?_
        refine hK.out _ _ (⟨(cell_setRow_other _ _ _ _ (Nat.succ_ne_self _)).trans z7, (cell_setRow_other _ _ _ _ (Nat.succ_ne_self _)).trans z8⟩) (fun hHeld => ?_)
        clear hK K
        try go_frame
        refine tk (oi := ⟨_, _, _, _, _, _⟩) (v := ?_) 10 rfl (by kernel_rfl) (fun _ _ _ h => h) (.inl ⟨by rfl, ?_⟩) (by assumption) ?_; rotate_left
        · (intro wS hSw; (try dsimp only at hSw); go_simp); all_goals with_reducible rfl
        try go_frame
        refine tk (oi := ⟨_, _, _, _, _, _⟩) (v := ?_) 11 rfl (by kernel_rfl) (fun _ _ _ h => h) (.inl ⟨by rfl, ?_⟩) (by assumption) ?_; rotate_left
        · (intro wS hSw; (try dsimp only at hSw); go_simp); all_goals with_reducible rfl
        try go_frame
        refine tk (oi := ⟨_, _, _, _, _, _⟩) (v := ?_) 12 rfl (by kernel_rfl) (fun _ _ _ h => h) (.inl ⟨by rfl, ?_⟩) (by assumption) ?_; rotate_left
        · (intro wS hSw; (try dsimp only at hSw); go_simp); all_goals with_reducible rfl
        try go_frame
        refine wpAnyH_done (by kernel_rfl) ?_ _
        clear hHeld
        go_wp2_with fail
        try simp only [Exit.inBlock, Exit.then]
        refine bodyPost_ret (results_cell3 Try.results20 _ _ w.heap.size 34 zeroTok (0, 0) _ rfl (setRow_heap _ _ _ _ _ _ HT4.out) Try.underlying34 rfl (by kernel_rfl)) rfl ?_
        rw [HV.out]
        refine ⟨hb1.trans (below_row (((hbw.trans hb4).mono (Nat.le_succ _)).drew) (Nat.le_refl _) _), ?_⟩
        show _ = Ending.returned (.tuple #[.agg zeroTok, .int .i64 0, .int .i64 (pos + (0 + k) : Nat), .int .i64 c])
        rw [show pos + (0 + k) = x by have := hx.out; omega]
        rfl
      | ok t n =>
        obtain ⟨rfl, A, c, hR4, hA4⟩ := hpost
        obtain ⟨x, hx⟩ : ∃ x, Hid (pos + n = x) := ⟨_, rfl⟩
        have HV : Hid (V = .ok t (0 + n)) := hVE.out
        rw [hx.out] at hR4
        obtain ⟨_, z1, z2, z3, z4, z5, z6, _⟩ := hR4.all
        have HT4 : Hid (W4.drew.heap[w.heap.size]? = some (.cells zeroTok 34 (0, 0))) := block_below ((hbw.trans hb4).drew) (Nat.lt_succ_self _) hT1.out
        have HA4 : Hid (AttrsOwn W4.drew (w.heap.size + 1) A c t.attrs) := hA4
        clear hA4
        go_wp2_with fail
        have HS : Hid (RdAt W4.drew (w.heap.size + 1) ⟨s, x, t.kind, pos, t.name, t.text, A, t.attrs.length, c, 0, 0⟩) := hR4
        refine wp_region_held_drew (S := fun w' => w'.cell? ⟨w.heap.size + 1, 1, none⟩ = some (.int .i64 x) ∧ w'.cell? ⟨w.heap.size + 1, 2, none⟩ = some (.int .i64 t.kind) ∧ w'.cell? ⟨w.heap.size + 1, 3, none⟩ = some (.int .i64 pos) ∧ w'.cell? ⟨w.heap.size + 1, 4, none⟩ = some (.string ⟨t.name.toArray⟩) ∧ w'.cell? ⟨w.heap.size + 1, 5, none⟩ = some (.string ⟨t.text.toArray⟩) ∧ w'.cell? ⟨w.heap.size + 1, 6, none⟩ = some (.slice A t.attrs.length c)) (by kernel_rfl) ⟨z1, z2, z3, z4, z5, z6⟩ (fun hHeld => ?_)
        refine tk (oi := ⟨_, _, _, _, _, _⟩) (v := ?_) 0 rfl (by kernel_rfl) (fun _ _ _ h => h) (.inl ⟨by rfl, ?_⟩) (by assumption) ?_; rotate_left
        · (intro wS hSw; (try dsimp only at hSw); go_simp); all_goals with_reducible rfl
        try go_frame
        refine tk (oi := ⟨_, _, _, _, _, _⟩) (v := ?_) 1 rfl (by kernel_rfl) (fun _ _ _ h => h) (.inl ⟨by rfl, ?_⟩) (by assumption) ?_; rotate_left
        · (intro wS hSw; (try dsimp only at hSw); go_simp); all_goals with_reducible rfl
        try go_frame
        refine tk (oi := ⟨_, _, _, _, _, _⟩) (v := ?_) 2 rfl (by kernel_rfl) (fun _ _ _ h => h) (.inl ⟨by rfl, ?_⟩) (by assumption) ?_; rotate_left
        · (intro wS hSw; (try dsimp only at hSw); go_simp); all_goals with_reducible rfl
        try go_frame
        refine tk (oi := ⟨_, _, _, _, _, _⟩) (v := ?_) 3 rfl (by kernel_rfl) (fun _ _ _ h => h) (.inl ⟨by rfl, ?_⟩) (by assumption) ?_; rotate_left
        · (intro wS hSw; (try dsimp only at hSw); go_simp); all_goals with_reducible rfl
        try go_frame
        refine tk (oi := ⟨_, _, _, _, _, _⟩) (v := ?_) 4 rfl (by kernel_rfl) (fun _ _ _ h => h) (.inl ⟨by rfl, ?_⟩) (by assumption) ?_; rotate_left
        · (intro wS hSw; (try dsimp only at hSw); go_simp); all_goals with_reducible rfl
        try go_frame
        refine tk (oi := ⟨_, _, _, _, _, _⟩) (v := ?_) 5 rfl (by kernel_rfl) (fun _ _ _ h => h) (.inl ⟨by rfl, ?_⟩) (by assumption) ?_; rotate_left
        · (intro wS hSw; (try dsimp only at hSw); go_simp); all_goals with_reducible rfl
        try go_frame
        refine tk (oi := ⟨_, _, _, _, _, _⟩) (v := ?_) 6 rfl (by kernel_rfl) (fun _ _ _ h => h) (.inl ⟨by rfl, ?_⟩) (by assumption) ?_; rotate_left
        · (intro wS hSw; (try dsimp only at hSw); go_simp); all_goals with_reducible rfl
        try go_frame
        refine tk (oi := ⟨_, _, _, _, _, _⟩) (v := ?_) 7 rfl (by kernel_rfl) (fun _ _ _ h => h) (.inl ⟨by rfl, ?_⟩) (by assumption) ?_; rotate_left
        · (intro wS hSw; (try dsimp only at hSw); go_simp); all_goals with_reducible rfl
        try go_frame
        refine wpAnyH_ready (rs := [8]) (by kernel_rfl) (by simp) ?_
        refine AllReadyH.cons (o := ⟨_, _, _, _, _, _⟩) rfl (fun K hK => ?_) AllReadyH.nil
        refine wp_store_row 34 (.tmp 4) (.tmp 53) rfl w.heap.size (tokC pos t A c) rfl rfl 34 zeroTok HT4.out (by kernel_rfl) rfl (tokC_one _ _ _ _) ?_
        have HSR := HS.out.setRow (g := w.heap.size) (Nat.succ_ne_self _) (tokC pos t A c)
        refine hK.out _ _ (⟨HSR.all.2.1, HSR.all.2.2.1, HSR.all.2.2.2.1, HSR.all.2.2.2.2.1, HSR.all.2.2.2.2.2.1, HSR.all.2.2.2.2.2.2.1⟩) (fun hHeld => ?_)
        clear hK K
        try go_frame
        refine tk (oi := ⟨_, _, _, _, _, _⟩) (v := ?_) 9 rfl (by kernel_rfl) (fun _ _ _ h => h) (.inl ⟨by rfl, ?_⟩) (by assumption) ?_; rotate_left
        · (intro wS hSw; (try dsimp only at hSw); go_simp); all_goals with_reducible rfl
        try go_frame
        refine tk (oi := ⟨_, _, _, _, _, _⟩) (v := ?_) 10 rfl (by kernel_rfl) (fun _ _ _ h => h) (.inl ⟨by rfl, ?_⟩) (by assumption) ?_; rotate_left
        · (intro wS hSw; (try dsimp only at hSw); go_simp); all_goals with_reducible rfl
        try go_frame
        refine tk (oi := ⟨_, _, _, _, _, _⟩) (v := ?_) 11 rfl (by kernel_rfl) (fun _ _ _ h => h) (.inl ⟨by rfl, ?_⟩) (by assumption) ?_; rotate_left
        · (intro wS hSw; (try dsimp only at hSw); go_simp); all_goals with_reducible rfl
        try go_frame
        refine wpAnyH_done (by kernel_rfl) ?_ _
        clear hHeld
        go_wp2_with fail
        try simp only [Exit.inBlock, Exit.then]
        refine bodyPost_ret (results_cell3 Try.results20 _ _ w.heap.size 34 (tokC pos t A c) (0, 0) _ rfl (setRow_heap _ _ _ _ _ _ HT4.out) Try.underlying34 rfl (by kernel_rfl)) rfl ?_
        rw [HV.out]
        refine ⟨hb1.trans (below_row (((hbw.trans hb4).mono (Nat.le_succ _)).drew) (Nat.le_refl _) _), A, c, ?_, row_base (row_setRow HA4.out (Nat.lt_succ_self _) _) (Nat.le_succ _)⟩
        rw [show pos + (0 + n) = x by have := hx.out; omega]
        rfl

set_option maxRecDepth 100000 in
set_option maxHeartbeats 2000000 in
/-- at no place of the text -/
theorem One_out (s : ByteArray) (i : Int) (w : World) (hi : (i < 0 || (s.size : Int) ≤ i) = true) :
    Calls Try.prog 20 #[.string s, .int .i64 i] w (Ret w (.tuple #[.agg zeroTok, .int .i64 0, .int .i64 i, .int .i64 30])) := by
  by_cases h0 : i < 0
  · go_enter Try.func20, Try.ntmps20
    go_wp2_with fail
    try simp only [Exit.inBlock, Exit.then]
    refine bodyPost_ret (results_cell3 Try.results20 _ _ w.heap.size 34 zeroTok (0, 0) _ rfl (heap_alloc_new w _) Try.underlying34 rfl (by kernel_rfl)) rfl ?_
    exact ⟨rfl, (Below.refl _ w).alloc (Nat.le_refl _) _⟩
  · have h1 : (s.size : Int) ≤ i := by simpa [h0] using hi
    clear hi
    go_enter Try.func20, Try.ntmps20
    go_wp2_with fail
    try simp only [Exit.inBlock, Exit.then]
    refine bodyPost_ret (results_cell3 Try.results20 _ _ w.heap.size 34 zeroTok (0, 0) _ rfl (heap_alloc_new w _) Try.underlying34 rfl (by kernel_rfl)) rfl ?_
    exact ⟨rfl, (Below.refl _ w).alloc (Nat.le_refl _) _⟩
end Go.Proofs.Ythifddkmbjnncaa

/-
  lexis.All walked.
-/
namespace Go.Proofs.Ythifddkmbjnncaa
open Go.RowKit

theorem own_keep {w w' : World} {B : Nat} {e : TypeId} {size : Nat} {v : Value} {n : Nat} {xs : List Value} (h : w.ownsRow B e size v n xs) (hb : Below w.heap.size w w') : w'.ownsRow B e size v n xs := by
  refine ⟨h.1, ?_⟩
  rcases h.2 with h | ⟨g, cap, cur, h1, h2, h3, h4⟩
  · exact .inl h
  · exact .inr ⟨g, cap, cur, h1, h2, by rw [hb.block g (Array.getElem?_eq_some_iff.1 h3).1]; exact h3, h4⟩

/-- A token with where it stands, and where its attributes stand. -/
abbrev TSlot := (Nat × TokD) × Option Addr × Nat
def cellsT (x : TSlot) : List Value := [.int .i64 x.1.2.kind, .int .i64 x.1.1, strV x.1.2.name, strV x.1.2.text, .slice x.2.1 x.1.2.attrs.length x.2.2]
theorem cellsT_length (x : TSlot) : (cellsT x).length = 5 := rfl
theorem cellsT_one (x : TSlot) : ∀ u ∈ cellsT x, u.oneCell' = true := by
  intro u hu
  simp [cellsT, strV] at hu
  rcases hu with rfl | rfl | rfl | rfl | rfl <;> rfl
theorem infoToken : (Try.prog.info? 34).map (fun i => (i.zero, i.size, i.bytes)) = some (some (.agg #[.int .i64 0, .int .i64 0, .string ByteArray.empty, .string ByteArray.empty, .slice none 0 0]), 5, 72) := by kernel_rfl
def TokensOwn (w : World) (B : Nat) (A : Option Addr) (c : Nat) (S : List TSlot) : Prop := w.ownsRow B 34 5 (.slice A S.length c) S.length (S.flatMap cellsT)
def TAttrs (w : World) (B : Nat) (S : List TSlot) : Prop := ∀ x ∈ S, AttrsOwn w B x.2.1 x.2.2 x.1.2.attrs

def AllPost3 (w : World) (R : List (Nat × TokD) × Nat × Int) (e : Ending) (w' : World) : Prop :=
  Below w.heap.size w w' ∧ ((R.2.2 = 0 ∧ ∃ A c S, e = .returned (.tuple #[.slice A S.length c, .int .i64 0, .int .i64 0]) ∧ TokensOwn w' w.heap.size A c S ∧ TAttrs w' w.heap.size S ∧ S.map (·.1) = R.1)
    ∨ (R.2.2 ≠ 0 ∧ e = .returned (.tuple #[.slice none 0 0, .int .i64 R.2.1, .int .i64 R.2.2])))

theorem TAttrs.keep {w w' : World} {B : Nat} {S : List TSlot} (h : TAttrs w B S) {B' : Nat} (hb : Below B' w w') (hz : w.heap.size ≤ B') : TAttrs w' B S := fun x hx => own_keep (h x hx) (hb.mono hz)

theorem allF_form : ∀ (f : Nat) (p : Nat) (l : List UInt8), l.length < f → (allF f p l).2.2 = 0 → (allF f p l).2.1 = 0
  | 0, _, _, h, _ => by omega
  | f + 1, p, l, hf, h => by
    rw [allF] at h ⊢
    split
    · rfl
    · rename_i hl
      rw [if_neg hl] at h
      have hw := oneT_within l hl
      cases ho : oneT l with
      | bad k e => rw [ho] at h hw; exact absurd h hw.2
      | ok t n =>
        simp only
        split
        · rfl
        · rename_i hq
          rw [ho] at h
          simp only at h
          rw [if_neg hq] at h
          exact absurd h hq
theorem allF_empty : ∀ (f : Nat) (p : Nat) (l : List UInt8), (allF f p l).2.2 ≠ 0 → (allF f p l).1 = []
  | 0, _, _, h => absurd rfl h
  | f + 1, p, l, h => by
    rw [allF] at h ⊢
    split
    · rfl
    · rename_i hl
      rw [if_neg hl] at h
      cases ho : oneT l with
      | bad k e => rfl
      | ok t n =>
        rw [ho] at h
        simp only at h ⊢
        split
        · rename_i hq; rw [if_pos hq] at h; exact absurd rfl h
        · rfl
theorem joinT_start (p : Nat) (l : List UInt8) : joinT [] (allL p l) = allL p l := by
  unfold joinT
  by_cases h : (allL p l).2.2 = 0
  · have h1 := allF_form (l.length + 1) p l (Nat.lt_succ_self _) h
    rw [if_pos h]
    show ([] ++ (allL p l).1, 0, 0) = allL p l
    have e1 : (allL p l).2.1 = 0 := h1
    rw [List.nil_append]
    exact Prod.ext rfl (Prod.ext e1.symm h.symm)
  · rw [if_neg h]
    have h1 := allF_empty (l.length + 1) p l h
    exact Prod.ext h1.symm rfl


set_option maxRecDepth 100000 in
set_option maxHeartbeats 2000000 in
theorem All_any (s : ByteArray) (w : World) (hs : s.size ≤ 1000000000) (R : List (Nat × TokD) × Nat × Int) (hR : Hid (allL 0 s.data.toList = R)) :
    Calls Try.prog 17 #[.string s] w (AllPost3 w R) := by
  have HL := Lib.hid (size_toList s)
  have hJ0 : Hid (joinT [] (allL 0 (s.data.toList.drop 0)) = R) := by
    show _ = _
    rw [List.drop_zero, hR.out]
    rw [← hR.out]
    exact joinT_start _ _
  go_enter Try.func17, Try.ntmps17
  go_wp2_with fail
  go_loopw [5, 6] (fun l i wr => ∃ (pos : Nat) (S : List TSlot) (A : Option Addr) (c m : Nat), pos ≤ s.size ∧ m ≤ pos ∧ i = .int .i64 pos ∧ l = .slice A m c ∧ Hid (S.length = m) ∧ Hid (TokensOwn wr w.heap.size A c S) ∧ Hid (TAttrs wr w.heap.size S) ∧ Hid (Below w.heap.size w wr) ∧ Hid (joinT (S.map (·.1)) (allL pos (s.data.toList.drop pos)) = R)) (fun _ i _ => s.size - (intOf i).toNat)
  case atStart => exact ⟨0, [], none, 0, 0, Nat.zero_le _, Nat.le_refl _, rfl, rfl, rfl, World.ownsRow_nil _ _ _ _, (fun _ h => absurd h List.not_mem_nil : TAttrs w w.heap.size []), Below.refl _ _, hJ0.out⟩
  case round =>
    obtain ⟨pos, S, A, c, m, hps, hmp, rfl, rfl, hm, hown, hat, hbel, hin⟩ := hrel
    by_cases hlt : pos < s.size
    · have hlt' : (pos : Int) < s.size := by omega
      have hne : Hid (s.data.toList.drop pos ≠ []) := by
        show _ ≠ _
        intro e
        have := congrArg List.length e
        rw [List.length_drop, HL.out] at this
        simp at this; omega
      obtain ⟨V, hV⟩ : ∃ V, Hid (oneT (s.data.toList.drop pos) = V) := ⟨_, rfl⟩
      have hwit := oneT_within _ hne.out
      rw [hV.out, List.length_drop, HL.out] at hwit
      go_wp2_with fail
      refine (One_any s pos wr hlt hs V hV).mono ?_
      rintro e1 w2 ⟨hb2, hpost⟩
      cases V with
      | bad k e =>
        have he : e ≠ 0 := hwit.2
        have he1 : (e != 0) = true := by simpa using he
        have HE := Lib.hid he
        have HR : Hid (R = ([], pos + k, e)) := by
          show _ = _
          rw [← hin.out, joinT_one_bad _ _ _ hne.out k e hV.out]
        have hee : e1 = .returned (.tuple #[.agg #[.int .i64 0, .int .i64 0, .string ⟨#[]⟩, .string ⟨#[]⟩, .slice none 0 0], .int .i64 0, .int .i64 (pos + k : Nat), .int .i64 e]) := hpost
        clear he hwit hpost
        subst hee
        go_wp2_with fail
        go_ret3
        rw [HR.out]
        exact ⟨hbel.out.trans ((hb2.mono hbel.out.size).alloc (Nat.le_trans hbel.out.size hb2.size) _), .inr ⟨HE.out, rfl⟩⟩
      | ok t n =>
        obtain ⟨A2, c2, hee0, hA2'⟩ := hpost
        have hee : e1 = .returned (.tuple #[.agg #[.int .i64 t.kind, .int .i64 pos, .string ⟨t.name.toArray⟩, .string ⟨t.text.toArray⟩, .slice A2 t.attrs.length c2], .int .i64 (pos + n : Nat), .int .i64 0, .int .i64 0]) := hee0
        clear hee0
        subst hee
        have hA2 := Lib.hid hA2'
        clear hA2'
        obtain ⟨W2, hW2⟩ : ∃ W2, Hid (W2 = w2.alloc (.cells #[.int .i64 t.kind, .int .i64 pos, .string ⟨t.name.toArray⟩, .string ⟨t.text.toArray⟩, .slice A2 t.attrs.length c2] 34)) := ⟨_, rfl⟩
        have hb2' : Below wr.heap.size wr W2 := by rw [hW2.out]; exact hb2.alloc hb2.size _
        have hown2 : W2.ownsRow w.heap.size 34 5 (.slice A m c) m (S.flatMap cellsT) := by rw [← hm.out]; exact own_keep hown.out hb2'
        have hat2 : Hid (TAttrs W2 w.heap.size (S ++ [((pos, t), A2, c2)])) := fun x hx => by
          rcases List.mem_append.1 hx with h | h
          · exact own_keep (hat.out x h) hb2'
          · simp at h; subst h
            rw [hW2.out]
            exact row_base (World.ownsRow.alloc hA2.out _) hbel.out.size
        have hz2 : w.heap.size ≤ W2.heap.size := Nat.le_trans hbel.out.size hb2'.size
        have HIN : Hid (joinT ((S ++ [((pos, t), A2, c2)]).map (·.1)) (allL (pos + n) (s.data.toList.drop (pos + n))) = R) := by
          show _ = _
          rw [List.map_append, ← hin.out, joinT_step _ pos _ hne.out t n hV.out, List.drop_drop]
          rfl
        go_wp2_with (at_builtin; rw [← hW2.out]; go_loud (refine appendS rfl (.tmp 27) (.tmp 29) 23 rfl w.heap.size 34 (.agg #[.int .i64 0, .int .i64 0, .string ByteArray.empty, .string ByteArray.empty, .slice none 0 0]) 5 72 Try.underlying23 infoToken rfl (by decide) _ m _ (cellsT ((pos, t), A2, c2)) rfl hown2 hz2 _ rfl (by rw [hW2.out]; simp) (cellsT_length _) (cellsT_one _) (by omega) (by decide) ?_))
        intro a4 c4 w4 hown4 hb4 hz4 hg4
        have hown4' : TokensOwn w4 w.heap.size a4 c4 (S ++ [((pos, t), A2, c2)]) := by
          unfold TokensOwn
          rw [List.length_append, List.flatMap_append, hm.out]
          simpa using hown4
        have hat4 : Hid (TAttrs w4 w.heap.size (S ++ [((pos, t), A2, c2)])) := fun x hx => own_grown (World.ownsRow.alloc (hat2.out x hx) _) (World.ownsRow.alloc hown2 _) (by decide) hg4
        have hb4' : Below w.heap.size w w4 := hbel.out.trans ((hb2'.mono hbel.out.size).trans hb4)
        obtain ⟨hn1, hn2⟩ := hwit
        clear hown4 hg4
        go_wp2_with fail
        go_roundw
        case rel => exact ⟨pos + n, S ++ [((pos, t), A2, c2)], a4, c4, m + 1, by omega, by omega, by go_num, rfl, by show _ = _; rw [List.length_append, hm.out]; rfl, hown4', hat4.out, hb4', HIN.out⟩
        case measure => simp [intOf]; omega
    · have hlt' : (s.size : Int) ≤ (pos : Int) := by omega
      have HR : Hid (R = (S.map (·.1), 0, 0)) := by
        show _ = _
        rw [← hin.out, List.drop_eq_nil_of_le (by rw [HL.out]; omega), allL_nil, joinT_nil]
      go_wp2_with fail
      go_ret3
      rw [HR.out]
      exact ⟨hbel.out, .inl ⟨rfl, A, c, S, by rw [hm.out]; rfl, hown.out, hat.out, rfl⟩⟩
end Go.Proofs.Ythifddkmbjnncaa

/-
  The reader of documents: its block; what is open; the walks of close, add, take.
-/
namespace Go.Proofs.Ythifddkmbjnncaa
open Go.RowKit

theorem infoStr : (Try.prog.info? 9).map (fun i => (i.zero, i.size, i.bytes)) = some (some (.string ByteArray.empty), 1, 16) := by kernel_rfl

/-- Names in a row that is the call's own, or that is full (what was cut off behind it is nobody's). -/
def OpenOwn (w : World) (B : Nat) (A : Option Addr) (c : Nat) (o : List (List UInt8)) : Prop :=
  (A = none ∧ c = 0 ∧ o = []) ∨ ∃ g cur, A = some ⟨g, 0, none⟩ ∧ B ≤ g ∧ w.heap[g]? = some (.cells cur 9 (0, 0)) ∧ o.length ≤ c ∧ c ≤ cur.size ∧ cur.size ≤ maxLen ∧ cur.toList.take o.length = o.map strV ∧ (c = o.length ∨ c = cur.size)

theorem flat1 (o : List (List UInt8)) : o.map strV = o.flatMap fun n => [strV n] := by
  induction o with
  | nil => rfl
  | cons a o ih => simp [ih]

section
variable {w w' : World} {B : Nat} {A : Option Addr} {c : Nat} {o : List (List UInt8)}
theorem OpenOwn.keep (h : OpenOwn w B A c o) (hk : ∀ g cur, A = some ⟨g, 0, none⟩ → w.heap[g]? = some (.cells cur 9 (0, 0)) → w'.heap[g]? = w.heap[g]?) : OpenOwn w' B A c o := by
  rcases h with h | ⟨g, cur, h1, h2, h3, h4⟩
  · exact .inl h
  · exact .inr ⟨g, cur, h1, h2, (hk g cur h1 h3).trans h3, h4⟩
theorem OpenOwn.below (h : OpenOwn w B A c o) (hb : Below w.heap.size w w') : OpenOwn w' B A c o := h.keep fun g _ _ h3 => hb.block g (Array.getElem?_eq_some_iff.1 h3).1
/-- it stands where a block of another type grows or is written -/
theorem OpenOwn.grown (h : OpenOwn w B A c o) {k : Option Nat} (hg : w.grownBy w' k) (hk : ∀ g, k = some g → g < w.heap.size → ∃ cs e, w.heap[g]? = some (.cells cs e (0, 0)) ∧ e ≠ 9) : OpenOwn w' B A c o := h.keep fun g cur _ h3 => by
  have hlt : g < w.heap.size := (Array.getElem?_eq_some_iff.1 h3).1
  refine hg.block g hlt fun e => ?_
  obtain ⟨cs, e', h5, h6⟩ := hk g e.symm hlt
  rw [h3] at h5
  injection h5 with h5
  injection h5 with _ h5
  exact h6 h5.symm
theorem OpenOwn.own (h : w.ownsRow B 9 1 (.slice A o.length c) o.length (o.map strV)) : OpenOwn w B A c o := by
  rcases h.2 with ⟨h1, h2⟩ | ⟨g, cap, cur, h1, h2, h3, h4, h5, h6, h7⟩
  · injection h1 with h1 _ h3
    exact .inl ⟨h1, h3, List.eq_nil_of_length_eq_zero h2⟩
  · injection h1 with h1 _ h8
    subst h8
    rw [Nat.mul_one] at h6 h7
    exact .inr ⟨g, cur, h1, h2, h3, h4, by omega, by omega, h7, .inr h6.symm⟩
theorem OpenOwn.last (h : OpenOwn w B A c o) {k : Nat} {n : List UInt8} (hn : o[k]? = some n) : ∃ g, A = some ⟨g, 0, none⟩ ∧ g < w.heap.size ∧ w.cell? ⟨g, k, none⟩ = some (.string ⟨n.toArray⟩) := by
  rcases h with ⟨_, _, rfl⟩ | ⟨g, cur, h1, h2, h3, h4, h5, h6, h7, _⟩
  · simp at hn
  · refine ⟨g, h1, (Array.getElem?_eq_some_iff.1 h3).1, ?_⟩
    have hk : k < o.length := (List.getElem?_eq_some_iff.1 hn).1
    have h8 : (cur.toList.take o.length)[k]? = (o.map strV)[k]? := by rw [h7]
    rw [List.getElem?_take_of_lt hk, List.getElem?_map, hn, Array.getElem?_toList] at h8
    rw [cell_of_row h3, h8]; rfl
theorem OpenOwn.cut (h : OpenOwn w B A c o) (ho : o ≠ []) : OpenOwn w B A (o.length - 1) o.dropLast := by
  rcases h with ⟨_, _, h⟩ | ⟨g, cur, h1, h2, h3, h4, h5, h6, h7, _⟩
  · exact absurd h ho
  · refine .inr ⟨g, cur, h1, h2, h3, by simp, by omega, h6, ?_, .inl (by simp)⟩
    have := congrArg (List.take (o.length - 1)) h7
    rw [List.take_take, Nat.min_eq_left (Nat.sub_le _ _)] at this
    rw [List.length_dropLast, this, List.dropLast_eq_take, List.map_take]
theorem OpenOwn.cap (h : OpenOwn w B A c o) : o.length ≤ c := by
  rcases h with ⟨_, _, rfl⟩ | ⟨g, cur, h1, h2, h3, h4, _⟩
  · exact Nat.zero_le _
  · exact h4
theorem OpenOwn.capMax (h : OpenOwn w B A c o) : c ≤ maxLen := by
  rcases h with ⟨_, h, _⟩ | ⟨g, cur, h1, h2, h3, h4, h5, h6, _⟩
  · omega
  · omega
end

set_option maxRecDepth 100000 in
theorem appendO {w : World} {ops : Array Oper} {rest : List Oper} {op : Oper} {a : Act} {Q : Exit → Act → World → Prop} (hgd : op.guard = none) (s x : Operand)
    (hop : op.op = .call { callee := .builtin .append, args := #[s, x], argTypes := #[69, 69] })
    (B : Nat) (A : Option Addr) (c : Nat) (o : List (List UInt8)) (n : List UInt8) (hs : a.eval s = .slice A o.length c) (hown : OpenOwn w B A c o) (hB : B ≤ w.heap.size)
    (X : Nat) (hx : a.eval x = .slice (some ⟨X, 0, none⟩) 1 1) (hX : X = w.heap.size) (hn : o.length < 4294967296)
    (h : ∀ A' c' w', OpenOwn w' B A' c' (o ++ [n]) → Below B w w' → (w.alloc (.cells #[strV n] 9)).grownBy w' (Value.slice A o.length c).ownBlock → wpList Try.prog ops Q rest (a.put op.dst (.slice A' (o.length + 1) c')) w') :
    wpList Try.prog ops Q (op :: rest) a (w.alloc (.cells #[strV n] 9)) := by
  have hlen : (o ++ [n]).length = o.length + 1 := by simp
  rcases hown with ⟨rfl, rfl, rfl⟩ | ⟨g, cur, rfl, h2, h3, h4, h5, h6, h7, h8⟩
  · refine appendS hgd s x 69 hop B 9 (.string ByteArray.empty) 1 16 Try.underlying69 infoStr rfl (by decide) _ 0 [] hs (World.ownsRow_nil _ _ _ _) hB X hx hX (news := [strV n]) rfl (by intro u hu; simp at hu; subst hu; rfl) (by omega) (by decide) ?_
    intro ad cc w' hown' hb _ hg
    exact h ad cc w' (OpenOwn.own (o := [n]) hown') hb hg
  · by_cases hc : c = cur.size
    · have hrow : w.ownsRow B 9 1 (.slice (some ⟨g, 0, none⟩) o.length c) o.length (o.map strV) :=
        ⟨by simp, .inr ⟨g, c, cur, rfl, h2, h3, h4, by omega, by omega, by rw [Nat.mul_one]; exact h7⟩⟩
      refine appendS hgd s x 69 hop B 9 (.string ByteArray.empty) 1 16 Try.underlying69 infoStr rfl (by decide) _ o.length (o.map strV) hs hrow hB X hx hX (news := [strV n]) rfl (by intro u hu; simp at hu; subst hu; rfl) hn (by decide) ?_
      intro ad cc w' hown' hb _ hg
      refine h ad cc w' (OpenOwn.own ?_) hb hg
      rw [hlen, List.map_append]
      exact hown'
    · have hcn : c = o.length := by
        rcases h8 with h8 | h8
        · exact h8
        · exact absurd h8 hc
      subst hX
      obtain ⟨i0, hi0, hz0, hz1, hz2⟩ := info_parts infoStr
      have hg : g < w.heap.size := (Array.getElem?_eq_some_iff.1 h3).1
      refine wpList_append_grows _ hgd s x 69 hop 9 i0 (.string ByteArray.empty) 1 16 Try.underlying69 hi0 hz0 hz1 hz2 rfl (by decide) (some ⟨g, 0, none⟩) o.length c (o.map strV) hs (fun e => by cases e) (by simp) ?_ ⟨w.heap.size, 0, none⟩ 1 1 [strV n] hx rfl ?_ (by intro u hu; simp at hu; subst hu; rfl) (by omega) (by unfold maxLen; omega) (by omega) ?_
      · rintro b hb j u hu
        injection hb with hb
        subst hb
        rw [add_zero_block, World.cell?_alloc_lt _ _ _ hg, cell_of_row h3]
        have hj : j < o.length := by have := (List.getElem?_eq_some_iff.1 hu).1; simpa using this
        rw [← h7, List.getElem?_take_of_lt hj, Array.getElem?_toList] at hu
        exact hu
      · intro j u hu
        rw [add_zero_block, World.cell?_alloc_at _ _ _ _ (by simp)]
        have hj : j < 1 := (List.getElem?_eq_some_iff.1 hu).1
        have hj0 : j = 0 := by omega
        subst hj0
        simpa using hu
      · intro v' w' hown' hgr
        obtain ⟨ad, cc, rfl⟩ : ∃ ad cc, v' = .slice ad (o.length + 1) cc := by
          rcases hown'.2 with ⟨_, h0⟩ | ⟨g, c, cur, hv, _⟩
          · omega
          · exact ⟨_, c, hv⟩
        refine h ad cc w' ?_ (((Below.refl B w).alloc hB _).grown hgr (by simp; omega) (fun k hk => by cases hk)) ⟨hgr.os, hgr.tape, hgr.output, hgr.size, fun k hk _ => hgr.block k hk (by simp)⟩
        refine OpenOwn.own ?_
        rw [hlen, List.map_append]
        exact row_base hown' (by simp; omega)
end Go.Proofs.Ythifddkmbjnncaa

/-
  The reader of documents: the walk of close.
-/
namespace Go.Proofs.Ythifddkmbjnncaa
open Go.RowKit

/-- the reader's block -/
def PBlk (w : World) (b : Nat) (IA : Option Addr) (In Ic : Nat) (OA : Option Addr) (On Oc : Nat) : Prop := w.heap[b]? = some (.cells #[.slice IA In Ic, .slice OA On Oc] 71 (0, 0))
/-- what it holds -/
structure PInv (w : World) (B b : Nat) (items : List ItemD) (o : List (List UInt8)) : Prop where
  out : ∃ (S : List Slot) (IA : Option Addr) (Ic : Nat) (OA : Option Addr) (Oc : Nat), PBlk w b IA S.length Ic OA o.length Oc ∧ ItemsOwn w B IA Ic S ∧ (∀ s ∈ S, AttrsOwn w B s.2.1 s.2.2 s.1.attrs) ∧ OpenOwn w B OA Oc o ∧ S.map (·.1) = items
theorem PBlk.lt {w : World} {b : Nat} {IA OA : Option Addr} {In Ic On Oc : Nat} (h : PBlk w b IA In Ic OA On Oc) : b < w.heap.size := (Array.getElem?_eq_some_iff.1 h).1
theorem PBlk.cells {w : World} {b : Nat} {IA OA : Option Addr} {In Ic On Oc : Nat} (h : PBlk w b IA In Ic OA On Oc) : w.cell? ⟨b, 0, none⟩ = some (.slice IA In Ic) ∧ w.cell? ⟨b, 1, none⟩ = some (.slice OA On Oc) ∧ w.frozen? ⟨b, 0, none⟩ = false ∧ w.frozen? ⟨b, 1, none⟩ = false :=
  ⟨by rw [cell_of_row h]; rfl, by rw [cell_of_row h]; rfl, frozen_of_row w b 0 _ _ h, frozen_of_row w b 1 _ _ h⟩
theorem PBlk.below {w w' : World} {b : Nat} {IA OA : Option Addr} {In Ic On Oc : Nat} (h : PBlk w b IA In Ic OA On Oc) (hb : Below w.heap.size w w') : PBlk w' b IA In Ic OA On Oc := (hb.block b h.lt).trans h
theorem PBlk.setOpen {w : World} {b : Nat} {IA OA : Option Addr} {In Ic On Oc : Nat} (h : PBlk w b IA In Ic OA On Oc) (A : Option Addr) (n c : Nat) : PBlk (w.setCell ⟨b, 1, none⟩ (.slice A n c)) b IA In Ic A n c := Lib.heap_setCell_same (i := 1) h _
theorem PBlk.setItems {w : World} {b : Nat} {IA OA : Option Addr} {In Ic On Oc : Nat} (h : PBlk w b IA In Ic OA On Oc) (A : Option Addr) (n c : Nat) : PBlk (w.setCell ⟨b, 0, none⟩ (.slice A n c)) b A n c OA On Oc := Lib.heap_setCell_same (i := 0) h _
theorem PInv.below {w w' : World} {B b : Nat} {items : List ItemD} {o : List (List UInt8)} (h : PInv w B b items o) (hb : Below w.heap.size w w') : PInv w' B b items o := by
  obtain ⟨S, IA, Ic, OA, Oc, h1, h2, h3, h4, h5⟩ := h.out
  exact ⟨S, IA, Ic, OA, Oc, h1.below hb, own_keep h2 hb, fun s hs => own_keep (h3 s hs) hb, h4.below hb, h5⟩
/-- a row of another type stands where the reader's block is written -/
theorem own_set {w : World} {b j : Nat} {IA OA : Option Addr} {In Ic On Oc : Nat} (hp : PBlk w b IA In Ic OA On Oc) (u : Value) {B : Nat} {e : TypeId} {size : Nat} {v : Value} {n : Nat} {xs : List Value} (h : w.ownsRow B e size v n xs) (he : e ≠ 71) : (w.setCell ⟨b, j, none⟩ u).ownsRow B e size v n xs := by
  refine World.ownsRow.kept h (Lib.grownBy_setCell w b j u) ?_
  cases hv : v.ownBlock with
  | none => exact .inl rfl
  | some g =>
    refine .inr fun hg => ?_
    injection hg with hg
    subst hg
    obtain ⟨_, _, cur, hc⟩ := own_type h g hv
    unfold PBlk at hp
    rw [hc] at hp
    injection hp with hp
    injection hp with _ hp
    exact he hp
theorem open_set {w : World} {b j : Nat} {IA OA : Option Addr} {In Ic On Oc : Nat} (hp : PBlk w b IA In Ic OA On Oc) (u : Value) {B : Nat} {A : Option Addr} {c : Nat} {o : List (List UInt8)} (h : OpenOwn w B A c o) : OpenOwn (w.setCell ⟨b, j, none⟩ u) B A c o :=
  h.grown (Lib.grownBy_setCell w b j u) (fun g hg _ => by injection hg with hg; subst hg; exact ⟨_, _, hp, by decide⟩)

theorem get_last {α : Type} {l : List α} (h : l ≠ []) : ∃ x, l[l.length - 1]? = some x ∧ l.getLast? = some x := by
  have hl : 0 < l.length := List.length_pos_iff.2 h
  refine ⟨l[l.length - 1], List.getElem?_eq_getElem (by omega), ?_⟩
  rw [List.getLast?_eq_getElem?]; exact List.getElem?_eq_getElem (by omega)

def tokV (t : TokD) (at_ : Int) (A : Option Addr) (c : Nat) : Value := .agg #[.int .i64 t.kind, .int .i64 at_, .string ⟨t.name.toArray⟩, .string ⟨t.text.toArray⟩, .slice A t.attrs.length c]



set_option maxRecDepth 100000 in
set_option maxHeartbeats 1000000 in
theorem close_any (b B : Nat) (items : List ItemD) (o : List (List UInt8)) (w : World) (h : PInv w B b items o) (hB : B ≤ b) (hBw : B ≤ w.heap.size) (ho : o.length ≤ 1000000000) (t : TokD) (at_ : Int) (A : Option Addr) (c : Nat) (v : Bool) (hv : Hid (decide (o.getLast? = some t.name) = v)) :
    Calls Try.prog 80 #[.pointer (some ⟨b, 0, none⟩), tokV t at_ A c] w fun e w' => e = .returned (.int .i64 (if v then 0 else 41)) ∧ PInv w' B b items (if v then o.dropLast else o) ∧ Below B w w' := by
  obtain ⟨S, IA, Ic, OA, Oc, h1, h2, h3, h4, h5⟩ := h.out
  have HP := Lib.hid h
  obtain ⟨W1, hW1⟩ : ∃ W1, Hid (W1 = w.alloc (.cells #[.int .i64 t.kind, .int .i64 at_, .string ⟨t.name.toArray⟩, .string ⟨t.text.toArray⟩, .slice A t.attrs.length c] 34)) := ⟨_, rfl⟩
  have hbW : Below w.heap.size w W1 := by rw [hW1.out]; exact (Below.refl _ w).alloc (Nat.le_refl _) _
  have y2 : W1.cell? ⟨w.heap.size, 2, none⟩ = some (.string ⟨t.name.toArray⟩) := by rw [hW1.out, World.cell?_alloc_at _ _ _ _ (by simp)]; rfl
  have HB1 := Lib.hid (h1.below hbW)
  have H2 := Lib.hid (own_keep h2 hbW)
  have H3 : Hid (∀ s ∈ S, AttrsOwn W1 B s.2.1 s.2.2 s.1.attrs) := fun s hs => own_keep (h3 s hs) hbW
  have H4 := Lib.hid (h4.below hbW)
  have H5 := Lib.hid h5
  have hz1 : w.heap.size < W1.heap.size := by rw [hW1.out]; simp
  obtain ⟨_, z1, _, zf1⟩ := h1.cells
  have hbl := h1.lt
  have hbne : b ≠ w.heap.size := by omega
  have H4w := Lib.hid h4
  clear h h1 h2 h3 h4 h5
  show Calls Try.prog 80 #[.pointer (some ⟨b, 0, none⟩), .agg #[.int .i64 t.kind, .int .i64 at_, .string ⟨t.name.toArray⟩, .string ⟨t.text.toArray⟩, .slice A t.attrs.length c]] w _
  by_cases h0 : o = []
  · subst h0
    have hv' : v = false := by rw [← hv.out]; simp
    subst hv'
    simp only [List.length_nil] at z1
    go_enter Try.func80, Try.ntmps80
    go_wp2_with fail
    rw [← hW1.out]
    refine wp_region_held_drew (S := fun _ => True) (by kernel_rfl) trivial (fun hHeld => ?_)
    refine tk (oi := ⟨_, _, _, _, _, _⟩) (v := ?_) 0 rfl (by kernel_rfl) (fun _ _ _ h => h) (.inl ⟨by rfl, ?_⟩) (by assumption) ?_; rotate_left
    · (intro wS hSw; (try dsimp only at hSw); go_simp); all_goals with_reducible rfl
    try go_frame
    refine tk (oi := ⟨_, _, _, _, _, _⟩) (v := ?_) 1 rfl (by kernel_rfl) (fun _ _ _ h => h) (.inl ⟨by rfl, ?_⟩) (by assumption) ?_; rotate_left
    · (intro wS hSw; (try dsimp only at hSw); go_simp); all_goals with_reducible rfl
    try go_frame
    refine tk (oi := ⟨_, _, _, _, _, _⟩) (v := ?_) 2 rfl (by kernel_rfl) (fun _ _ _ h => h) (.inl ⟨by rfl, ?_⟩) (by assumption) ?_; rotate_left
    · (intro wS hSw; (try dsimp only at hSw); go_simp); all_goals with_reducible rfl
    try go_frame
    refine tk (oi := ⟨_, _, _, _, _, _⟩) (v := undef) 3 rfl (by kernel_rfl) (fun _ _ _ h => h) (.inr ⟨by rfl, rfl⟩) (by assumption) ?_
    try go_frame
    refine tk (oi := ⟨_, _, _, _, _, _⟩) (v := undef) 4 rfl (by kernel_rfl) (fun _ _ _ h => h) (.inr ⟨by rfl, rfl⟩) (by assumption) ?_
    try go_frame
    refine tk (oi := ⟨_, _, _, _, _, _⟩) (v := undef) 5 rfl (by kernel_rfl) (fun _ _ _ h => h) (.inr ⟨by rfl, rfl⟩) (by assumption) ?_
    try go_frame
    refine tk (oi := ⟨_, _, _, _, _, _⟩) (v := undef) 6 rfl (by kernel_rfl) (fun _ _ _ h => h) (.inr ⟨by rfl, rfl⟩) (by assumption) ?_
    try go_frame
    refine tk (oi := ⟨_, _, _, _, _, _⟩) (v := undef) 7 rfl (by kernel_rfl) (fun _ _ _ h => h) (.inr ⟨by rfl, rfl⟩) (by assumption) ?_
    try go_frame
    refine tk (oi := ⟨_, _, _, _, _, _⟩) (v := undef) 8 rfl (by kernel_rfl) (fun _ _ _ h => h) (.inr ⟨by rfl, rfl⟩) (by assumption) ?_
    try go_frame
    refine tk (oi := ⟨_, _, _, _, _, _⟩) (v := undef) 9 rfl (by kernel_rfl) (fun _ _ _ h => h) (.inr ⟨by rfl, rfl⟩) (by assumption) ?_
    try go_frame
    refine tk (oi := ⟨_, _, _, _, _, _⟩) (v := undef) 10 rfl (by kernel_rfl) (fun _ _ _ h => h) (.inr ⟨by rfl, rfl⟩) (by assumption) ?_
    try go_frame
    refine tk (oi := ⟨_, _, _, _, _, _⟩) (v := undef) 11 rfl (by kernel_rfl) (fun _ _ _ h => h) (.inr ⟨by rfl, rfl⟩) (by assumption) ?_
    try go_frame
    refine tk (oi := ⟨_, _, _, _, _, _⟩) (v := undef) 12 rfl (by kernel_rfl) (fun _ _ _ h => h) (.inr ⟨by rfl, rfl⟩) (by assumption) ?_
    try go_frame
    refine tk (oi := ⟨_, _, _, _, _, _⟩) (v := undef) 13 rfl (by kernel_rfl) (fun _ _ _ h => h) (.inr ⟨by rfl, rfl⟩) (by assumption) ?_
    try go_frame
    refine tk (oi := ⟨_, _, _, _, _, _⟩) (v := ?_) 14 rfl (by kernel_rfl) (fun _ _ _ h => h) (.inl ⟨by rfl, ?_⟩) (by assumption) ?_; rotate_left
    · (intro wS hSw; (try dsimp only at hSw); go_simp); all_goals with_reducible rfl
    try go_frame
    refine wpAnyH_done (by kernel_rfl) ?_ _
    clear hHeld
    go_wp2_with fail
    go_ret
    exact ⟨rfl, ⟨S, IA, Ic, _, Oc, HB1.out, H2.out, H3.out, H4.out, H5.out⟩, (hbW.mono hBw).drew⟩
  · obtain ⟨x, hx, hxl⟩ := get_last h0
    obtain ⟨g, rfl, hg, hcell⟩ := H4w.out.last hx
    have hpos : 0 < o.length := List.length_pos_iff.2 h0
    have t0 : ((o.length : Int) == 0) = false := by simp; omega
    have hkw : IntKind.i64.wrap ((o.length : Int) - 1) = (o.length : Int) - 1 := IntWalk.i64_in _ (by omega)
    have hkn : ((o.length : Int) - 1).toNat = o.length - 1 := by omega
    have hk0 : (0 : Int) ≤ (o.length : Int) - 1 := by omega
    have hk1 : (o.length : Int) - 1 < o.length := by omega
    have hk2 : (1 : Int) ≤ o.length := by omega
    have hg1 : W1.cell? ⟨g, o.length - 1, none⟩ = some (.string ⟨x.toArray⟩) := (hbW.cell (p := ⟨g, o.length - 1, none⟩) hg).trans hcell
    have HS : Hid (W1.drew.cell? ⟨b, 1, none⟩ = some (.slice (some ⟨g, 0, none⟩) o.length Oc) ∧ W1.drew.cell? ((⟨g, 0, none⟩ : Addr).add (o.length - 1)) = some (.string ⟨x.toArray⟩) ∧ W1.drew.cell? ⟨g, o.length - 1, none⟩ = some (.string ⟨x.toArray⟩) ∧ W1.drew.cell? ⟨w.heap.size, 2, none⟩ = some (.string ⟨t.name.toArray⟩)) :=
      ⟨HB1.out.cells.2.1, by rw [add_zero_block]; exact hg1, hg1, y2⟩
    have hne := Lib.hid h0
    clear h0 hg1 y2
    cases v with
    | true =>
      have hxx : x = t.name := by
        have := of_decide_eq_true hv.out
        rw [hxl] at this
        injection this
      subst hxx
      clear hx hcell
      go_enter Try.func80, Try.ntmps80
      go_wp2_with fail
      rw [← hW1.out]
      refine wp_region_held_drew (S := fun w' => w'.cell? ⟨b, 1, none⟩ = some (.slice (some ⟨g, 0, none⟩) o.length Oc) ∧ w'.cell? ((⟨g, 0, none⟩ : Addr).add (o.length - 1)) = some (.string ⟨t.name.toArray⟩) ∧ w'.cell? ⟨g, o.length - 1, none⟩ = some (.string ⟨t.name.toArray⟩) ∧ w'.cell? ⟨w.heap.size, 2, none⟩ = some (.string ⟨t.name.toArray⟩)) (by kernel_rfl) HS.out (fun hHeld => ?_)
      refine tk (oi := ⟨_, _, _, _, _, _⟩) (v := ?_) 0 rfl (by kernel_rfl) (fun _ _ _ h => h) (.inl ⟨by rfl, ?_⟩) (by assumption) ?_; rotate_left
      · (intro wS hSw; (try dsimp only at hSw); go_simp); all_goals with_reducible rfl
      try go_frame
      refine tk (oi := ⟨_, _, _, _, _, _⟩) (v := ?_) 1 rfl (by kernel_rfl) (fun _ _ _ h => h) (.inl ⟨by rfl, ?_⟩) (by assumption) ?_; rotate_left
      · (intro wS hSw; (try dsimp only at hSw); go_simp); all_goals with_reducible rfl
      try go_frame
      refine tk (oi := ⟨_, _, _, _, _, _⟩) (v := ?_) 2 rfl (by kernel_rfl) (fun _ _ _ h => h) (.inl ⟨by rfl, ?_⟩) (by assumption) ?_; rotate_left
      · (intro wS hSw; (try dsimp only at hSw); go_simp); all_goals with_reducible rfl
      try go_frame
      refine tk (oi := ⟨_, _, _, _, _, _⟩) (v := ?_) 3 rfl (by kernel_rfl) (fun _ _ _ h => h) (.inl ⟨by rfl, ?_⟩) (by assumption) ?_; rotate_left
      · (intro wS hSw; (try dsimp only at hSw); go_simp); all_goals with_reducible rfl
      try go_frame
      refine tk (oi := ⟨_, _, _, _, _, _⟩) (v := ?_) 4 rfl (by kernel_rfl) (fun _ _ _ h => h) (.inl ⟨by rfl, ?_⟩) (by assumption) ?_; rotate_left
      · (intro wS hSw; (try dsimp only at hSw); go_simp); all_goals with_reducible rfl
      try go_frame
      refine tk (oi := ⟨_, _, _, _, _, _⟩) (v := ?_) 5 rfl (by kernel_rfl) (fun _ _ _ h => h) (.inl ⟨by rfl, ?_⟩) (by assumption) ?_; rotate_left
      · (intro wS hSw; (try dsimp only at hSw); go_simp); all_goals with_reducible rfl
      try go_frame
      refine tk (oi := ⟨_, _, _, _, _, _⟩) (v := ?_) 6 rfl (by kernel_rfl) (fun _ _ _ h => h) (.inl ⟨by rfl, ?_⟩) (by assumption) ?_; rotate_left
      · (intro wS hSw; (try dsimp only at hSw); go_simp); all_goals with_reducible rfl
      try go_frame
      refine tk (oi := ⟨_, _, _, _, _, _⟩) (v := ?_) 7 rfl (by kernel_rfl) (fun _ _ _ h => h) (.inl ⟨by rfl, ?_⟩) (by assumption) ?_; rotate_left
      · (intro wS hSw; (try dsimp only at hSw); go_simp); all_goals with_reducible rfl
      try go_frame
      refine tk (oi := ⟨_, _, _, _, _, _⟩) (v := ?_) 8 rfl (by kernel_rfl) (fun _ _ _ h => h) (.inl ⟨by rfl, ?_⟩) (by assumption) ?_; rotate_left
      · (intro wS hSw; (try dsimp only at hSw); go_simp); all_goals with_reducible rfl
      try go_frame
      refine tk (oi := ⟨_, _, _, _, _, _⟩) (v := ?_) 9 rfl (by kernel_rfl) (fun _ _ _ h => h) (.inl ⟨by rfl, ?_⟩) (by assumption) ?_; rotate_left
      · (intro wS hSw; (try dsimp only at hSw); go_simp); all_goals with_reducible rfl
      try go_frame
      refine tk (oi := ⟨_, _, _, _, _, _⟩) (v := ?_) 10 rfl (by kernel_rfl) (fun _ _ _ h => h) (.inl ⟨by rfl, ?_⟩) (by assumption) ?_; rotate_left
      · (intro wS hSw; (try dsimp only at hSw); go_simp); all_goals with_reducible rfl
      try go_frame
      refine tk (oi := ⟨_, _, _, _, _, _⟩) (v := ?_) 11 rfl (by kernel_rfl) (fun _ _ _ h => h) (.inl ⟨by rfl, ?_⟩) (by assumption) ?_; rotate_left
      · (intro wS hSw; (try dsimp only at hSw); go_simp); all_goals with_reducible rfl
      try go_frame
      refine tk (oi := ⟨_, _, _, _, _, _⟩) (v := ?_) 12 rfl (by kernel_rfl) (fun _ _ _ h => h) (.inl ⟨by rfl, ?_⟩) (by assumption) ?_; rotate_left
      · (intro wS hSw; (try dsimp only at hSw); go_simp); all_goals with_reducible rfl
      try go_frame
      refine tk (oi := ⟨_, _, _, _, _, _⟩) (v := ?_) 13 rfl (by kernel_rfl) (fun _ _ _ h => h) (.inl ⟨by rfl, ?_⟩) (by assumption) ?_; rotate_left
      · (intro wS hSw; (try dsimp only at hSw); go_simp); all_goals with_reducible rfl
      try go_frame
      refine tk (oi := ⟨_, _, _, _, _, _⟩) (v := ?_) 14 rfl (by kernel_rfl) (fun _ _ _ h => h) (.inl ⟨by rfl, ?_⟩) (by assumption) ?_; rotate_left
      · (intro wS hSw; (try dsimp only at hSw); go_simp); all_goals with_reducible rfl
      try go_frame
      refine wpAnyH_done (by kernel_rfl) ?_ _
      clear hHeld
      obtain ⟨q1, _⟩ := HS.out
      have hf : W1.drew.frozen? ⟨b, 1, none⟩ = false := HB1.out.cells.2.2.2
      have hcap := H4.out.cap
      have hcmax := H4.out.capMax
      have hc1 : (o.length : Int) - 1 ≤ (Oc : Int) := by omega
      have hc2 : (Oc : Int) ≤ 9223372036854775807 := by unfold maxLen at hcmax; omega
      clear hcap hcmax
      go_wp2_with fail
      go_ret
      refine ⟨rfl, ⟨S, IA, Ic, some ⟨g, 0, none⟩, o.length - 1, ?_, own_set (w := W1.drew) HB1.out _ H2.out (by decide), fun s hs => own_set (w := W1.drew) HB1.out _ (H3.out s hs) (by decide), open_set (w := W1.drew) HB1.out _ (H4.out.cut hne.out), H5.out⟩, ((hbW.mono hBw).drew).setCell hB _⟩
      have := PBlk.setOpen (w := W1.drew) HB1.out (some ⟨g, 0, none⟩) (o.length - 1) (o.length - 1)
      rw [List.length_dropLast]
      exact this
    | false =>
      have hxx : (x == t.name) = false := by
        have := of_decide_eq_false hv.out
        rw [hxl] at this
        simp only [beq_eq_false_iff_ne, ne_eq]
        exact fun e => this (by rw [e])
      clear hx hcell
      go_enter Try.func80, Try.ntmps80
      go_wp2_with fail
      rw [← hW1.out]
      refine wp_region_held_drew (S := fun w' => w'.cell? ⟨b, 1, none⟩ = some (.slice (some ⟨g, 0, none⟩) o.length Oc) ∧ w'.cell? ((⟨g, 0, none⟩ : Addr).add (o.length - 1)) = some (.string ⟨x.toArray⟩) ∧ w'.cell? ⟨g, o.length - 1, none⟩ = some (.string ⟨x.toArray⟩) ∧ w'.cell? ⟨w.heap.size, 2, none⟩ = some (.string ⟨t.name.toArray⟩)) (by kernel_rfl) HS.out (fun hHeld => ?_)
      refine tk (oi := ⟨_, _, _, _, _, _⟩) (v := ?_) 0 rfl (by kernel_rfl) (fun _ _ _ h => h) (.inl ⟨by rfl, ?_⟩) (by assumption) ?_; rotate_left
      · (intro wS hSw; (try dsimp only at hSw); go_simp); all_goals with_reducible rfl
      try go_frame
      refine tk (oi := ⟨_, _, _, _, _, _⟩) (v := ?_) 1 rfl (by kernel_rfl) (fun _ _ _ h => h) (.inl ⟨by rfl, ?_⟩) (by assumption) ?_; rotate_left
      · (intro wS hSw; (try dsimp only at hSw); go_simp); all_goals with_reducible rfl
      try go_frame
      refine tk (oi := ⟨_, _, _, _, _, _⟩) (v := ?_) 2 rfl (by kernel_rfl) (fun _ _ _ h => h) (.inl ⟨by rfl, ?_⟩) (by assumption) ?_; rotate_left
      · (intro wS hSw; (try dsimp only at hSw); go_simp); all_goals with_reducible rfl
      try go_frame
      refine tk (oi := ⟨_, _, _, _, _, _⟩) (v := ?_) 3 rfl (by kernel_rfl) (fun _ _ _ h => h) (.inl ⟨by rfl, ?_⟩) (by assumption) ?_; rotate_left
      · (intro wS hSw; (try dsimp only at hSw); go_simp); all_goals with_reducible rfl
      try go_frame
      refine tk (oi := ⟨_, _, _, _, _, _⟩) (v := ?_) 4 rfl (by kernel_rfl) (fun _ _ _ h => h) (.inl ⟨by rfl, ?_⟩) (by assumption) ?_; rotate_left
      · (intro wS hSw; (try dsimp only at hSw); go_simp); all_goals with_reducible rfl
      try go_frame
      refine tk (oi := ⟨_, _, _, _, _, _⟩) (v := ?_) 5 rfl (by kernel_rfl) (fun _ _ _ h => h) (.inl ⟨by rfl, ?_⟩) (by assumption) ?_; rotate_left
      · (intro wS hSw; (try dsimp only at hSw); go_simp); all_goals with_reducible rfl
      try go_frame
      refine tk (oi := ⟨_, _, _, _, _, _⟩) (v := ?_) 6 rfl (by kernel_rfl) (fun _ _ _ h => h) (.inl ⟨by rfl, ?_⟩) (by assumption) ?_; rotate_left
      · (intro wS hSw; (try dsimp only at hSw); go_simp); all_goals with_reducible rfl
      try go_frame
      refine tk (oi := ⟨_, _, _, _, _, _⟩) (v := ?_) 7 rfl (by kernel_rfl) (fun _ _ _ h => h) (.inl ⟨by rfl, ?_⟩) (by assumption) ?_; rotate_left
      · (intro wS hSw; (try dsimp only at hSw); go_simp); all_goals with_reducible rfl
      try go_frame
      refine tk (oi := ⟨_, _, _, _, _, _⟩) (v := ?_) 8 rfl (by kernel_rfl) (fun _ _ _ h => h) (.inl ⟨by rfl, ?_⟩) (by assumption) ?_; rotate_left
      · (intro wS hSw; (try dsimp only at hSw); go_simp); all_goals with_reducible rfl
      try go_frame
      refine tk (oi := ⟨_, _, _, _, _, _⟩) (v := ?_) 9 rfl (by kernel_rfl) (fun _ _ _ h => h) (.inl ⟨by rfl, ?_⟩) (by assumption) ?_; rotate_left
      · (intro wS hSw; (try dsimp only at hSw); go_simp); all_goals with_reducible rfl
      try go_frame
      refine tk (oi := ⟨_, _, _, _, _, _⟩) (v := ?_) 10 rfl (by kernel_rfl) (fun _ _ _ h => h) (.inl ⟨by rfl, ?_⟩) (by assumption) ?_; rotate_left
      · (intro wS hSw; (try dsimp only at hSw); go_simp); all_goals with_reducible rfl
      try go_frame
      refine tk (oi := ⟨_, _, _, _, _, _⟩) (v := ?_) 11 rfl (by kernel_rfl) (fun _ _ _ h => h) (.inl ⟨by rfl, ?_⟩) (by assumption) ?_; rotate_left
      · (intro wS hSw; (try dsimp only at hSw); go_simp); all_goals with_reducible rfl
      try go_frame
      refine tk (oi := ⟨_, _, _, _, _, _⟩) (v := ?_) 12 rfl (by kernel_rfl) (fun _ _ _ h => h) (.inl ⟨by rfl, ?_⟩) (by assumption) ?_; rotate_left
      · (intro wS hSw; (try dsimp only at hSw); go_simp); all_goals with_reducible rfl
      try go_frame
      refine tk (oi := ⟨_, _, _, _, _, _⟩) (v := ?_) 13 rfl (by kernel_rfl) (fun _ _ _ h => h) (.inl ⟨by rfl, ?_⟩) (by assumption) ?_; rotate_left
      · (intro wS hSw; (try dsimp only at hSw); go_simp); all_goals with_reducible rfl
      try go_frame
      refine tk (oi := ⟨_, _, _, _, _, _⟩) (v := ?_) 14 rfl (by kernel_rfl) (fun _ _ _ h => h) (.inl ⟨by rfl, ?_⟩) (by assumption) ?_; rotate_left
      · (intro wS hSw; (try dsimp only at hSw); go_simp); all_goals with_reducible rfl
      try go_frame
      refine wpAnyH_done (by kernel_rfl) ?_ _
      clear hHeld
      go_wp2_with fail
      go_ret
      exact ⟨rfl, ⟨S, IA, Ic, _, Oc, HB1.out, H2.out, H3.out, H4.out, H5.out⟩, (hbW.mono hBw).drew⟩
end Go.Proofs.Ythifddkmbjnncaa
