/-
  lexis.One walked.
-/
import Derived.Test.YthifddkmbjnncaaBegin
import Derived.Test.YthifddkmbjnncaaRes
namespace Go.Proofs.Ythifddkmbjnncaa
open Go.RowKit

/-- a token, as the program bears it -/
def tokC (pos : Nat) (t : TokD) (A : Option Addr) (c : Nat) : Array Value := #[.int .i64 t.kind, .int .i64 pos, .string ⟨t.name.toArray⟩, .string ⟨t.text.toArray⟩, .slice A t.attrs.length c]
def zeroTok : Array Value := #[.int .i64 0, .int .i64 0, .string ByteArray.empty, .string ByteArray.empty, .slice none 0 0]
theorem tokC_one (pos : Nat) (t : TokD) (A : Option Addr) (c : Nat) : (tokC pos t A c).all (·.oneCell') = true := by simp [tokC, Value.oneCell']

theorem zeroTok_one : zeroTok.all (·.oneCell') = true := by simp [zeroTok, Value.oneCell']
theorem below_row {B g : Nat} {w0 w : World} (hb : Below B w0 w) (hBg : B ≤ g) (cs : Array Value) : Below B w0 (w.setRow g cs) :=
  ⟨hb.os, hb.tape, hb.output, by rw [setRow_size]; exact hb.size, fun k hk => (setRow_other _ _ _ _ (by omega)).trans (hb.block k hk)⟩

theorem RdAt.setRow {w : World} {b g : Nat} {r : Rdr} (h : RdAt w b r) (hg : b ≠ g) (cs : Array Value) : RdAt (w.setRow g cs) b r := by
  unfold RdAt
  rw [setRow_other _ _ _ _ hg]; exact h

/-- what One leaves -/
def OnePost (w : World) (pos : Nat) (V : Told TokD) (e : Ending) (w' : World) : Prop :=
  Below w.heap.size w w' ∧ match V with
  | .ok t n => ∃ A c, e = .returned (.tuple #[.agg (tokC pos t A c), .int .i64 (pos + n : Nat), .int .i64 0, .int .i64 0]) ∧ AttrsOwn w' w.heap.size A c t.attrs
  | .bad k c => e = .returned (.tuple #[.agg zeroTok, .int .i64 0, .int .i64 (pos + k : Nat), .int .i64 c])

theorem block_below {w w' : World} {B g : Nat} {o : Obj} (h : Below B w w') (hg : g < B) (ho : w.heap[g]? = some o) : w'.heap[g]? = some o := by rw [h.block g hg]; exact ho



set_option maxRecDepth 100000 in
set_option maxHeartbeats 2000000 in
theorem One_any (s : ByteArray) (pos : Nat) (w : World) (hp : pos < s.size) (hs : s.size ≤ 1000000000) (V : Told TokD) (hV : Hid (oneT (s.data.toList.drop pos) = V)) :
    Calls Try.prog 20 #[.string s, .int .i64 pos] w (OnePost w pos V) := by
  have HL := Lib.hid (size_toList s)
  have i0 : (0 : Int) ≤ (pos : Int) := by omega
  have i1 : (pos : Int) < s.size := by omega
  obtain ⟨m1, hm1⟩ : ∃ m1, Hid (pre [60, 47] (s.data.toList.drop pos) = m1) := ⟨_, rfl⟩
  obtain ⟨m2, hm2⟩ : ∃ m2, Hid (pre [60] (s.data.toList.drop pos) = m2) := ⟨_, rfl⟩
  cases m1 with
  | true =>
    obtain ⟨V', hV'⟩ : ∃ V', Hid (endT (s.data.toList.drop (pos + 2)) = V') := ⟨_, rfl⟩
    have hVE : Hid (V = V'.past 2) := by
      show _ = _
      rw [← hV.out]
      unfold oneT
      rw [hm1.out, if_pos rfl, List.drop_drop, hV'.out]
    have hp2 : pos + 2 ≤ s.size := by have := pre_len hm1.out; rw [List.length_drop, HL.out] at this; simp at this; omega
    go_enter Try.func20, Try.ntmps20
    go_wp2_with fail
    obtain ⟨W1, hW1⟩ : ∃ W1, Hid (W1 = (w.alloc (.cells #[.int .i64 0, .int .i64 0, .string ⟨#[]⟩, .string ⟨#[]⟩, .slice none 0 0] 34)).alloc (.cells #[.string s, .int .i64 pos, .int .i64 0, .int .i64 pos, .string ⟨#[]⟩, .string ⟨#[]⟩, .slice none 0 0, .int .i64 0, .int .i64 0] 64)) := ⟨_, rfl⟩
    rw [← hW1.out]
    have hR1 : Hid (RdAt W1 (w.heap.size + 1) (Rdr.new s pos pos)) := by show RdAt _ _ _; rw [hW1.out]; exact heap_alloc2_new _ _ _
    have hT1 : Hid (W1.heap[w.heap.size]? = some (.cells zeroTok 34 (0, 0))) := by show _ = _; rw [hW1.out]; exact heap_alloc2_old _ _ _
    have hb1 : Below w.heap.size w W1 := by rw [hW1.out]; exact ((Below.refl _ w).alloc (Nat.le_refl _) _).alloc (by simp) _
    have hz1 : w.heap.size + 1 ≤ W1.heap.size := by rw [hW1.out]; simp
    refine (is_any (w.heap.size + 1) _ W1 hR1.out [60, 47] (Nat.le_of_lt hp) hs true hm1 (by decide)).mono ?_
    rintro e W2 ⟨rfl, hW2, hg2⟩
    have HR2 : Hid (RdAt W2 (w.heap.size + 1) (Rdr.new s (pos + 2) pos)) := hW2
    have hbw : Below (w.heap.size + 1) W1 W2 := below_of_grown hg2 (Nat.le_refl _) hz1
    clear hW2
    go_wp2_with fail
    refine (end_any (w.heap.size + 1) (w.heap.size + 1) s (pos + 2) pos W2 HR2.out (Nat.le_refl _) (Nat.le_trans hz1 hbw.size) hp2 hs V' hV').mono ?_
    rintro e W4 ⟨hb4, hpost⟩
    cases V' with
    | bad k c =>
      obtain ⟨rfl, R, hR4, hR41, hR42⟩ := hpost
      obtain ⟨x, hx⟩ : ∃ x, Hid (pos + 2 + k = x) := ⟨_, rfl⟩
      have HV : Hid (V = .bad (2 + k) c) := hVE.out
      rw [hx.out] at hR41
      obtain ⟨_, _, _, _, _, _, _, z7, z8⟩ := hR4.all
      rw [hR41] at z7
      rw [hR42] at z8
      have HT4 : Hid (W4.drew.heap[w.heap.size]? = some (.cells zeroTok 34 (0, 0))) := block_below ((hbw.trans hb4).drew) (Nat.lt_succ_self _) hT1.out
      clear hR41 hR42
      go_wp2_with fail
      refine wp_region_held_drew (S := fun w' => w'.cell? ⟨w.heap.size + 1, 7, none⟩ = some (.int .i64 x) ∧ w'.cell? ⟨w.heap.size + 1, 8, none⟩ = some (.int .i64 c)) (by kernel_rfl) ⟨z7, z8⟩ (fun hHeld => ?_)
      refine wpAnyH_take (i := 0) (oi := ⟨_, _, _, _, _, _⟩) (v := ?_) rfl (by kernel_rfl) (by kernel_rfl) (by kernel_rfl) (fun _ _ _ h => h) (Or.inl ⟨by rfl, ?_⟩) (by assumption) ?_
      rotate_left
      · (intro wS hSw; (try dsimp only at hSw); go_simp); all_goals with_reducible rfl
      try simp only [Act.put, List.setIfInBounds_toArray, List.set_cons_zero, List.set_cons_succ]
      refine wpAnyH_take (i := 1) (oi := ⟨_, _, _, _, _, _⟩) (v := ?_) rfl (by kernel_rfl) (by kernel_rfl) (by kernel_rfl) (fun _ _ _ h => h) (Or.inl ⟨by rfl, ?_⟩) (by assumption) ?_
      rotate_left
      · (intro wS hSw; (try dsimp only at hSw); go_simp); all_goals with_reducible rfl
      try simp only [Act.put, List.setIfInBounds_toArray, List.set_cons_zero, List.set_cons_succ]
      refine wpAnyH_take (i := 2) (oi := ⟨_, _, _, _, _, _⟩) (v := ?_) rfl (by kernel_rfl) (by kernel_rfl) (by kernel_rfl) (fun _ _ _ h => h) (Or.inl ⟨by rfl, ?_⟩) (by assumption) ?_
      rotate_left
      · (intro wS hSw; (try dsimp only at hSw); go_simp); all_goals with_reducible rfl
      try simp only [Act.put, List.setIfInBounds_toArray, List.set_cons_zero, List.set_cons_succ]
      refine wpAnyH_take (i := 3) (oi := ⟨_, _, _, _, _, _⟩) (v := ?_) rfl (by kernel_rfl) (by kernel_rfl) (by kernel_rfl) (fun _ _ _ h => h) (Or.inl ⟨by rfl, ?_⟩) (by assumption) ?_
      rotate_left
      · (intro wS hSw; (try dsimp only at hSw); go_simp); all_goals with_reducible rfl
      try simp only [Act.put, List.setIfInBounds_toArray, List.set_cons_zero, List.set_cons_succ]
      refine wpAnyH_take (i := 4) (oi := ⟨_, _, _, _, _, _⟩) (v := ?_) rfl (by kernel_rfl) (by kernel_rfl) (by kernel_rfl) (fun _ _ _ h => h) (Or.inl ⟨by rfl, ?_⟩) (by assumption) ?_
      rotate_left
      · (intro wS hSw; (try dsimp only at hSw); go_simp); all_goals with_reducible rfl
      try simp only [Act.put, List.setIfInBounds_toArray, List.set_cons_zero, List.set_cons_succ]
      refine wpAnyH_take (i := 5) (oi := ⟨_, _, _, _, _, _⟩) (v := ?_) rfl (by kernel_rfl) (by kernel_rfl) (by kernel_rfl) (fun _ _ _ h => h) (Or.inl ⟨by rfl, ?_⟩) (by assumption) ?_
      rotate_left
      · (intro wS hSw; (try dsimp only at hSw); go_simp); all_goals with_reducible rfl
      try simp only [Act.put, List.setIfInBounds_toArray, List.set_cons_zero, List.set_cons_succ]
      refine wpAnyH_take (i := 6) (oi := ⟨_, _, _, _, _, _⟩) (v := ?_) rfl (by kernel_rfl) (by kernel_rfl) (by kernel_rfl) (fun _ _ _ h => h) (Or.inl ⟨by rfl, ?_⟩) (by assumption) ?_
      rotate_left
      · (intro wS hSw; (try dsimp only at hSw); go_simp); all_goals with_reducible rfl
      try simp only [Act.put, List.setIfInBounds_toArray, List.set_cons_zero, List.set_cons_succ]
      refine wpAnyH_take (i := 7) (oi := ⟨_, _, _, _, _, _⟩) (v := ?_) rfl (by kernel_rfl) (by kernel_rfl) (by kernel_rfl) (fun _ _ _ h => h) (Or.inl ⟨by rfl, ?_⟩) (by assumption) ?_
      rotate_left
      · (intro wS hSw; (try dsimp only at hSw); go_simp); all_goals with_reducible rfl
      try simp only [Act.put, List.setIfInBounds_toArray, List.set_cons_zero, List.set_cons_succ]
      refine wpAnyH_take (i := 8) (oi := ⟨_, _, _, _, _, _⟩) (v := ?_) rfl (by kernel_rfl) (by kernel_rfl) (by kernel_rfl) (fun _ _ _ h => h) (Or.inl ⟨by rfl, ?_⟩) (by assumption) ?_
      rotate_left
      · (intro wS hSw; (try dsimp only at hSw); go_simp); all_goals with_reducible rfl
      try simp only [Act.put, List.setIfInBounds_toArray, List.set_cons_zero, List.set_cons_succ]
      refine wpAnyH_ready (rs := [9]) (by kernel_rfl) (by simp) ?_
      refine AllReadyH.cons (o := ⟨_, _, _, _, _, _⟩) rfl (fun K hK => ?_) AllReadyH.nil
      refine wp_store_row 34 (.tmp 4) (.tmp 41) rfl w.heap.size zeroTok rfl rfl 34 zeroTok HT4.out (by kernel_rfl) rfl zeroTok_one ?_
      refine hK.out _ _ (⟨(cell_setRow_other _ _ _ _ (Nat.succ_ne_self _)).trans z7, (cell_setRow_other _ _ _ _ (Nat.succ_ne_self _)).trans z8⟩) (fun hHeld => ?_)
      clear hK K
      try simp only [Act.put, List.setIfInBounds_toArray, List.set_cons_zero, List.set_cons_succ]
      refine wpAnyH_take (i := 10) (oi := ⟨_, _, _, _, _, _⟩) (v := ?_) rfl (by kernel_rfl) (by kernel_rfl) (by kernel_rfl) (fun _ _ _ h => h) (Or.inl ⟨by rfl, ?_⟩) (by assumption) ?_
      rotate_left
      · (intro wS hSw; (try dsimp only at hSw); go_simp); all_goals with_reducible rfl
      try simp only [Act.put, List.setIfInBounds_toArray, List.set_cons_zero, List.set_cons_succ]
      refine wpAnyH_take (i := 11) (oi := ⟨_, _, _, _, _, _⟩) (v := ?_) rfl (by kernel_rfl) (by kernel_rfl) (by kernel_rfl) (fun _ _ _ h => h) (Or.inl ⟨by rfl, ?_⟩) (by assumption) ?_
      rotate_left
      · (intro wS hSw; (try dsimp only at hSw); go_simp); all_goals with_reducible rfl
      try simp only [Act.put, List.setIfInBounds_toArray, List.set_cons_zero, List.set_cons_succ]
      refine wpAnyH_take (i := 12) (oi := ⟨_, _, _, _, _, _⟩) (v := ?_) rfl (by kernel_rfl) (by kernel_rfl) (by kernel_rfl) (fun _ _ _ h => h) (Or.inl ⟨by rfl, ?_⟩) (by assumption) ?_
      rotate_left
      · (intro wS hSw; (try dsimp only at hSw); go_simp); all_goals with_reducible rfl
      try simp only [Act.put, List.setIfInBounds_toArray, List.set_cons_zero, List.set_cons_succ]
      refine wpAnyH_done (by kernel_rfl) ?_ _
      clear hHeld
      go_wp2_with fail
      try simp only [Exit.inBlock, Exit.then]
      refine bodyPost_ret (results_cell3 Try.results20 _ _ w.heap.size 34 zeroTok (0, 0) _ rfl (setRow_heap _ _ _ _ _ _ HT4.out) Try.underlying34 rfl (by kernel_rfl)) rfl ?_
      rw [HV.out]
      refine ⟨hb1.trans (below_row (((hbw.trans hb4).mono (Nat.le_succ _)).drew) (Nat.le_refl _) _), ?_⟩
      show _ = Ending.returned (.tuple #[.agg zeroTok, .int .i64 0, .int .i64 (pos + (2 + k) : Nat), .int .i64 c])
      rw [show pos + (2 + k) = x by have := hx.out; omega]
      rfl
    | ok t n =>
      obtain ⟨rfl, A, c, hR4, hA4⟩ := hpost
      obtain ⟨x, hx⟩ : ∃ x, Hid (pos + 2 + n = x) := ⟨_, rfl⟩
      have HV : Hid (V = .ok t (2 + n)) := hVE.out
      rw [hx.out] at hR4
      obtain ⟨_, z1, z2, z3, z4, z5, z6, _⟩ := hR4.all
      have HT4 : Hid (W4.drew.heap[w.heap.size]? = some (.cells zeroTok 34 (0, 0))) := block_below ((hbw.trans hb4).drew) (Nat.lt_succ_self _) hT1.out
      have HA4 : Hid (AttrsOwn W4.drew (w.heap.size + 1) A c t.attrs) := hA4
      clear hA4
      go_wp2_with fail
      have HS : Hid (RdAt W4.drew (w.heap.size + 1) ⟨s, x, t.kind, pos, t.name, t.text, A, t.attrs.length, c, 0, 0⟩) := hR4
      refine wp_region_held_drew (S := fun w' => w'.cell? ⟨w.heap.size + 1, 1, none⟩ = some (.int .i64 x) ∧ w'.cell? ⟨w.heap.size + 1, 2, none⟩ = some (.int .i64 t.kind) ∧ w'.cell? ⟨w.heap.size + 1, 3, none⟩ = some (.int .i64 pos) ∧ w'.cell? ⟨w.heap.size + 1, 4, none⟩ = some (.string ⟨t.name.toArray⟩) ∧ w'.cell? ⟨w.heap.size + 1, 5, none⟩ = some (.string ⟨t.text.toArray⟩) ∧ w'.cell? ⟨w.heap.size + 1, 6, none⟩ = some (.slice A t.attrs.length c)) (by kernel_rfl) ⟨z1, z2, z3, z4, z5, z6⟩ (fun hHeld => ?_)
      refine wpAnyH_take (i := 0) (oi := ⟨_, _, _, _, _, _⟩) (v := ?_) rfl (by kernel_rfl) (by kernel_rfl) (by kernel_rfl) (fun _ _ _ h => h) (Or.inl ⟨by rfl, ?_⟩) (by assumption) ?_
      rotate_left
      · (intro wS hSw; (try dsimp only at hSw); go_simp); all_goals with_reducible rfl
      try simp only [Act.put, List.setIfInBounds_toArray, List.set_cons_zero, List.set_cons_succ]
      refine wpAnyH_take (i := 1) (oi := ⟨_, _, _, _, _, _⟩) (v := ?_) rfl (by kernel_rfl) (by kernel_rfl) (by kernel_rfl) (fun _ _ _ h => h) (Or.inl ⟨by rfl, ?_⟩) (by assumption) ?_
      rotate_left
      · (intro wS hSw; (try dsimp only at hSw); go_simp); all_goals with_reducible rfl
      try simp only [Act.put, List.setIfInBounds_toArray, List.set_cons_zero, List.set_cons_succ]
      refine wpAnyH_take (i := 2) (oi := ⟨_, _, _, _, _, _⟩) (v := ?_) rfl (by kernel_rfl) (by kernel_rfl) (by kernel_rfl) (fun _ _ _ h => h) (Or.inl ⟨by rfl, ?_⟩) (by assumption) ?_
      rotate_left
      · (intro wS hSw; (try dsimp only at hSw); go_simp); all_goals with_reducible rfl
      try simp only [Act.put, List.setIfInBounds_toArray, List.set_cons_zero, List.set_cons_succ]
      refine wpAnyH_take (i := 3) (oi := ⟨_, _, _, _, _, _⟩) (v := ?_) rfl (by kernel_rfl) (by kernel_rfl) (by kernel_rfl) (fun _ _ _ h => h) (Or.inl ⟨by rfl, ?_⟩) (by assumption) ?_
      rotate_left
      · (intro wS hSw; (try dsimp only at hSw); go_simp); all_goals with_reducible rfl
      try simp only [Act.put, List.setIfInBounds_toArray, List.set_cons_zero, List.set_cons_succ]
      refine wpAnyH_take (i := 4) (oi := ⟨_, _, _, _, _, _⟩) (v := ?_) rfl (by kernel_rfl) (by kernel_rfl) (by kernel_rfl) (fun _ _ _ h => h) (Or.inl ⟨by rfl, ?_⟩) (by assumption) ?_
      rotate_left
      · (intro wS hSw; (try dsimp only at hSw); go_simp); all_goals with_reducible rfl
      try simp only [Act.put, List.setIfInBounds_toArray, List.set_cons_zero, List.set_cons_succ]
      refine wpAnyH_take (i := 5) (oi := ⟨_, _, _, _, _, _⟩) (v := ?_) rfl (by kernel_rfl) (by kernel_rfl) (by kernel_rfl) (fun _ _ _ h => h) (Or.inl ⟨by rfl, ?_⟩) (by assumption) ?_
      rotate_left
      · (intro wS hSw; (try dsimp only at hSw); go_simp); all_goals with_reducible rfl
      try simp only [Act.put, List.setIfInBounds_toArray, List.set_cons_zero, List.set_cons_succ]
      refine wpAnyH_take (i := 6) (oi := ⟨_, _, _, _, _, _⟩) (v := ?_) rfl (by kernel_rfl) (by kernel_rfl) (by kernel_rfl) (fun _ _ _ h => h) (Or.inl ⟨by rfl, ?_⟩) (by assumption) ?_
      rotate_left
      · (intro wS hSw; (try dsimp only at hSw); go_simp); all_goals with_reducible rfl
      try simp only [Act.put, List.setIfInBounds_toArray, List.set_cons_zero, List.set_cons_succ]
      refine wpAnyH_take (i := 7) (oi := ⟨_, _, _, _, _, _⟩) (v := ?_) rfl (by kernel_rfl) (by kernel_rfl) (by kernel_rfl) (fun _ _ _ h => h) (Or.inl ⟨by rfl, ?_⟩) (by assumption) ?_
      rotate_left
      · (intro wS hSw; (try dsimp only at hSw); go_simp); all_goals with_reducible rfl
      try simp only [Act.put, List.setIfInBounds_toArray, List.set_cons_zero, List.set_cons_succ]
      refine wpAnyH_ready (rs := [8]) (by kernel_rfl) (by simp) ?_
      refine AllReadyH.cons (o := ⟨_, _, _, _, _, _⟩) rfl (fun K hK => ?_) AllReadyH.nil
      refine wp_store_row 34 (.tmp 4) (.tmp 53) rfl w.heap.size (tokC pos t A c) rfl rfl 34 zeroTok HT4.out (by kernel_rfl) rfl (tokC_one _ _ _ _) ?_
      have HSR := HS.out.setRow (g := w.heap.size) (Nat.succ_ne_self _) (tokC pos t A c)
      refine hK.out _ _ (⟨HSR.all.2.1, HSR.all.2.2.1, HSR.all.2.2.2.1, HSR.all.2.2.2.2.1, HSR.all.2.2.2.2.2.1, HSR.all.2.2.2.2.2.2.1⟩) (fun hHeld => ?_)
      clear hK K
      try simp only [Act.put, List.setIfInBounds_toArray, List.set_cons_zero, List.set_cons_succ]
      refine wpAnyH_take (i := 9) (oi := ⟨_, _, _, _, _, _⟩) (v := ?_) rfl (by kernel_rfl) (by kernel_rfl) (by kernel_rfl) (fun _ _ _ h => h) (Or.inl ⟨by rfl, ?_⟩) (by assumption) ?_
      rotate_left
      · (intro wS hSw; (try dsimp only at hSw); go_simp); all_goals with_reducible rfl
      try simp only [Act.put, List.setIfInBounds_toArray, List.set_cons_zero, List.set_cons_succ]
      refine wpAnyH_take (i := 10) (oi := ⟨_, _, _, _, _, _⟩) (v := ?_) rfl (by kernel_rfl) (by kernel_rfl) (by kernel_rfl) (fun _ _ _ h => h) (Or.inl ⟨by rfl, ?_⟩) (by assumption) ?_
      rotate_left
      · (intro wS hSw; (try dsimp only at hSw); go_simp); all_goals with_reducible rfl
      try simp only [Act.put, List.setIfInBounds_toArray, List.set_cons_zero, List.set_cons_succ]
      refine wpAnyH_take (i := 11) (oi := ⟨_, _, _, _, _, _⟩) (v := ?_) rfl (by kernel_rfl) (by kernel_rfl) (by kernel_rfl) (fun _ _ _ h => h) (Or.inl ⟨by rfl, ?_⟩) (by assumption) ?_
      rotate_left
      · (intro wS hSw; (try dsimp only at hSw); go_simp); all_goals with_reducible rfl
      try simp only [Act.put, List.setIfInBounds_toArray, List.set_cons_zero, List.set_cons_succ]
      refine wpAnyH_done (by kernel_rfl) ?_ _
      clear hHeld
      go_wp2_with fail
      try simp only [Exit.inBlock, Exit.then]
      refine bodyPost_ret (results_cell3 Try.results20 _ _ w.heap.size 34 (tokC pos t A c) (0, 0) _ rfl (setRow_heap _ _ _ _ _ _ HT4.out) Try.underlying34 rfl (by kernel_rfl)) rfl ?_
      rw [HV.out]
      refine ⟨hb1.trans (below_row (((hbw.trans hb4).mono (Nat.le_succ _)).drew) (Nat.le_refl _) _), A, c, ?_, row_base (row_setRow HA4.out (Nat.lt_succ_self _) _) (Nat.le_succ _)⟩
      rw [show pos + (2 + n) = x by have := hx.out; omega]
      rfl
  | false =>
    cases m2 with
    | true =>
      obtain ⟨V', hV'⟩ : ∃ V', Hid (beginT (s.data.toList.drop (pos + 1)) = V') := ⟨_, rfl⟩
      have hVE : Hid (V = V'.past 1) := by
        show _ = _
        rw [← hV.out]
        unfold oneT
        rw [hm1.out, if_neg (by decide), hm2.out, if_pos rfl, List.drop_drop, hV'.out]
      have hp2 : pos + 1 ≤ s.size := hp
      go_enter Try.func20, Try.ntmps20
      go_wp2_with fail
      obtain ⟨W1, hW1⟩ : ∃ W1, Hid (W1 = (w.alloc (.cells #[.int .i64 0, .int .i64 0, .string ⟨#[]⟩, .string ⟨#[]⟩, .slice none 0 0] 34)).alloc (.cells #[.string s, .int .i64 pos, .int .i64 0, .int .i64 pos, .string ⟨#[]⟩, .string ⟨#[]⟩, .slice none 0 0, .int .i64 0, .int .i64 0] 64)) := ⟨_, rfl⟩
      rw [← hW1.out]
      have hR1 : Hid (RdAt W1 (w.heap.size + 1) (Rdr.new s pos pos)) := by show RdAt _ _ _; rw [hW1.out]; exact heap_alloc2_new _ _ _
      have hT1 : Hid (W1.heap[w.heap.size]? = some (.cells zeroTok 34 (0, 0))) := by show _ = _; rw [hW1.out]; exact heap_alloc2_old _ _ _
      have hb1 : Below w.heap.size w W1 := by rw [hW1.out]; exact ((Below.refl _ w).alloc (Nat.le_refl _) _).alloc (by simp) _
      have hz1 : w.heap.size + 1 ≤ W1.heap.size := by rw [hW1.out]; simp
      refine (is_any (w.heap.size + 1) _ W1 hR1.out [60, 47] (Nat.le_of_lt hp) hs false hm1 (by decide)).mono ?_
      rintro e W2 ⟨rfl, hW2, hg2⟩
      have HR2 : Hid (RdAt W2 (w.heap.size + 1) (Rdr.new s pos pos)) := hW2
      clear hW2
      go_wp2_with fail
      refine (is_any (w.heap.size + 1) _ W2 HR2.out [60] (Nat.le_of_lt hp) hs true hm2 (by decide)).mono ?_
      rintro e W3 ⟨rfl, hW3, hg3⟩
      have HR3 : Hid (RdAt W3 (w.heap.size + 1) (Rdr.new s (pos + 1) pos)) := hW3
      have hbw : Below (w.heap.size + 1) W1 W3 := below_of_grown (grown_twice hg2 hg3) (Nat.le_refl _) hz1
      clear hW3
      go_wp2_with fail
      refine (begin_any (w.heap.size + 1) (w.heap.size + 1) s (pos + 1) pos W3 HR3.out (Nat.le_refl _) (Nat.le_trans hz1 hbw.size) hp2 hs V' hV').mono ?_
      rintro e W4 ⟨hb4, hpost⟩
      cases V' with
      | bad k c =>
        obtain ⟨rfl, R, hR4, hR41, hR42⟩ := hpost
        obtain ⟨x, hx⟩ : ∃ x, Hid (pos + 1 + k = x) := ⟨_, rfl⟩
        have HV : Hid (V = .bad (1 + k) c) := hVE.out
        rw [hx.out] at hR41
        obtain ⟨_, _, _, _, _, _, _, z7, z8⟩ := hR4.all
        rw [hR41] at z7
        rw [hR42] at z8
        have HT4 : Hid (W4.drew.heap[w.heap.size]? = some (.cells zeroTok 34 (0, 0))) := block_below ((hbw.trans hb4).drew) (Nat.lt_succ_self _) hT1.out
        clear hR41 hR42
        go_wp2_with fail
        refine wp_region_held_drew (S := fun w' => w'.cell? ⟨w.heap.size + 1, 7, none⟩ = some (.int .i64 x) ∧ w'.cell? ⟨w.heap.size + 1, 8, none⟩ = some (.int .i64 c)) (by kernel_rfl) ⟨z7, z8⟩ (fun hHeld => ?_)
        refine wpAnyH_take (i := 0) (oi := ⟨_, _, _, _, _, _⟩) (v := ?_) rfl (by kernel_rfl) (by kernel_rfl) (by kernel_rfl) (fun _ _ _ h => h) (Or.inl ⟨by rfl, ?_⟩) (by assumption) ?_
        rotate_left
        · (intro wS hSw; (try dsimp only at hSw); go_simp); all_goals with_reducible rfl
        try simp only [Act.put, List.setIfInBounds_toArray, List.set_cons_zero, List.set_cons_succ]
        refine wpAnyH_take (i := 1) (oi := ⟨_, _, _, _, _, _⟩) (v := ?_) rfl (by kernel_rfl) (by kernel_rfl) (by kernel_rfl) (fun _ _ _ h => h) (Or.inl ⟨by rfl, ?_⟩) (by assumption) ?_
        rotate_left
        · (intro wS hSw; (try dsimp only at hSw); go_simp); all_goals with_reducible rfl
        try simp only [Act.put, List.setIfInBounds_toArray, List.set_cons_zero, List.set_cons_succ]
        refine wpAnyH_take (i := 2) (oi := ⟨_, _, _, _, _, _⟩) (v := ?_) rfl (by kernel_rfl) (by kernel_rfl) (by kernel_rfl) (fun _ _ _ h => h) (Or.inl ⟨by rfl, ?_⟩) (by assumption) ?_
        rotate_left
        · (intro wS hSw; (try dsimp only at hSw); go_simp); all_goals with_reducible rfl
        try simp only [Act.put, List.setIfInBounds_toArray, List.set_cons_zero, List.set_cons_succ]
        refine wpAnyH_take (i := 3) (oi := ⟨_, _, _, _, _, _⟩) (v := ?_) rfl (by kernel_rfl) (by kernel_rfl) (by kernel_rfl) (fun _ _ _ h => h) (Or.inl ⟨by rfl, ?_⟩) (by assumption) ?_
        rotate_left
        · (intro wS hSw; (try dsimp only at hSw); go_simp); all_goals with_reducible rfl
        try simp only [Act.put, List.setIfInBounds_toArray, List.set_cons_zero, List.set_cons_succ]
        refine wpAnyH_take (i := 4) (oi := ⟨_, _, _, _, _, _⟩) (v := ?_) rfl (by kernel_rfl) (by kernel_rfl) (by kernel_rfl) (fun _ _ _ h => h) (Or.inl ⟨by rfl, ?_⟩) (by assumption) ?_
        rotate_left
        · (intro wS hSw; (try dsimp only at hSw); go_simp); all_goals with_reducible rfl
        try simp only [Act.put, List.setIfInBounds_toArray, List.set_cons_zero, List.set_cons_succ]
        refine wpAnyH_take (i := 5) (oi := ⟨_, _, _, _, _, _⟩) (v := ?_) rfl (by kernel_rfl) (by kernel_rfl) (by kernel_rfl) (fun _ _ _ h => h) (Or.inl ⟨by rfl, ?_⟩) (by assumption) ?_
        rotate_left
        · (intro wS hSw; (try dsimp only at hSw); go_simp); all_goals with_reducible rfl
        try simp only [Act.put, List.setIfInBounds_toArray, List.set_cons_zero, List.set_cons_succ]
        refine wpAnyH_take (i := 6) (oi := ⟨_, _, _, _, _, _⟩) (v := ?_) rfl (by kernel_rfl) (by kernel_rfl) (by kernel_rfl) (fun _ _ _ h => h) (Or.inl ⟨by rfl, ?_⟩) (by assumption) ?_
        rotate_left
        · (intro wS hSw; (try dsimp only at hSw); go_simp); all_goals with_reducible rfl
        try simp only [Act.put, List.setIfInBounds_toArray, List.set_cons_zero, List.set_cons_succ]
        refine wpAnyH_take (i := 7) (oi := ⟨_, _, _, _, _, _⟩) (v := ?_) rfl (by kernel_rfl) (by kernel_rfl) (by kernel_rfl) (fun _ _ _ h => h) (Or.inl ⟨by rfl, ?_⟩) (by assumption) ?_
        rotate_left
        · (intro wS hSw; (try dsimp only at hSw); go_simp); all_goals with_reducible rfl
        try simp only [Act.put, List.setIfInBounds_toArray, List.set_cons_zero, List.set_cons_succ]
        refine wpAnyH_take (i := 8) (oi := ⟨_, _, _, _, _, _⟩) (v := ?_) rfl (by kernel_rfl) (by kernel_rfl) (by kernel_rfl) (fun _ _ _ h => h) (Or.inl ⟨by rfl, ?_⟩) (by assumption) ?_
        rotate_left
        · (intro wS hSw; (try dsimp only at hSw); go_simp); all_goals with_reducible rfl
        try simp only [Act.put, List.setIfInBounds_toArray, List.set_cons_zero, List.set_cons_succ]
        refine wpAnyH_ready (rs := [9]) (by kernel_rfl) (by simp) ?_
        refine AllReadyH.cons (o := ⟨_, _, _, _, _, _⟩) rfl (fun K hK => ?_) AllReadyH.nil
        refine wp_store_row 34 (.tmp 4) (.tmp 41) rfl w.heap.size zeroTok rfl rfl 34 zeroTok HT4.out (by kernel_rfl) rfl zeroTok_one ?_
        refine hK.out _ _ (⟨(cell_setRow_other _ _ _ _ (Nat.succ_ne_self _)).trans z7, (cell_setRow_other _ _ _ _ (Nat.succ_ne_self _)).trans z8⟩) (fun hHeld => ?_)
        clear hK K
        try simp only [Act.put, List.setIfInBounds_toArray, List.set_cons_zero, List.set_cons_succ]
        refine wpAnyH_take (i := 10) (oi := ⟨_, _, _, _, _, _⟩) (v := ?_) rfl (by kernel_rfl) (by kernel_rfl) (by kernel_rfl) (fun _ _ _ h => h) (Or.inl ⟨by rfl, ?_⟩) (by assumption) ?_
        rotate_left
        · (intro wS hSw; (try dsimp only at hSw); go_simp); all_goals with_reducible rfl
        try simp only [Act.put, List.setIfInBounds_toArray, List.set_cons_zero, List.set_cons_succ]
        refine wpAnyH_take (i := 11) (oi := ⟨_, _, _, _, _, _⟩) (v := ?_) rfl (by kernel_rfl) (by kernel_rfl) (by kernel_rfl) (fun _ _ _ h => h) (Or.inl ⟨by rfl, ?_⟩) (by assumption) ?_
        rotate_left
        · (intro wS hSw; (try dsimp only at hSw); go_simp); all_goals with_reducible rfl
        try simp only [Act.put, List.setIfInBounds_toArray, List.set_cons_zero, List.set_cons_succ]
        refine wpAnyH_take (i := 12) (oi := ⟨_, _, _, _, _, _⟩) (v := ?_) rfl (by kernel_rfl) (by kernel_rfl) (by kernel_rfl) (fun _ _ _ h => h) (Or.inl ⟨by rfl, ?_⟩) (by assumption) ?_
        rotate_left
        · (intro wS hSw; (try dsimp only at hSw); go_simp); all_goals with_reducible rfl
        try simp only [Act.put, List.setIfInBounds_toArray, List.set_cons_zero, List.set_cons_succ]
        refine wpAnyH_done (by kernel_rfl) ?_ _
        clear hHeld
        go_wp2_with fail
        try simp only [Exit.inBlock, Exit.then]
        refine bodyPost_ret (results_cell3 Try.results20 _ _ w.heap.size 34 zeroTok (0, 0) _ rfl (setRow_heap _ _ _ _ _ _ HT4.out) Try.underlying34 rfl (by kernel_rfl)) rfl ?_
        rw [HV.out]
        refine ⟨hb1.trans (below_row (((hbw.trans hb4).mono (Nat.le_succ _)).drew) (Nat.le_refl _) _), ?_⟩
        show _ = Ending.returned (.tuple #[.agg zeroTok, .int .i64 0, .int .i64 (pos + (1 + k) : Nat), .int .i64 c])
        rw [show pos + (1 + k) = x by have := hx.out; omega]
        rfl
      | ok t n =>
        obtain ⟨rfl, A, c, hR4, hA4⟩ := hpost
        obtain ⟨x, hx⟩ : ∃ x, Hid (pos + 1 + n = x) := ⟨_, rfl⟩
        have HV : Hid (V = .ok t (1 + n)) := hVE.out
        rw [hx.out] at hR4
        obtain ⟨_, z1, z2, z3, z4, z5, z6, _⟩ := hR4.all
        have HT4 : Hid (W4.drew.heap[w.heap.size]? = some (.cells zeroTok 34 (0, 0))) := block_below ((hbw.trans hb4).drew) (Nat.lt_succ_self _) hT1.out
        have HA4 : Hid (AttrsOwn W4.drew (w.heap.size + 1) A c t.attrs) := hA4
        clear hA4
        go_wp2_with fail
        have HS : Hid (RdAt W4.drew (w.heap.size + 1) ⟨s, x, t.kind, pos, t.name, t.text, A, t.attrs.length, c, 0, 0⟩) := hR4
        refine wp_region_held_drew (S := fun w' => w'.cell? ⟨w.heap.size + 1, 1, none⟩ = some (.int .i64 x) ∧ w'.cell? ⟨w.heap.size + 1, 2, none⟩ = some (.int .i64 t.kind) ∧ w'.cell? ⟨w.heap.size + 1, 3, none⟩ = some (.int .i64 pos) ∧ w'.cell? ⟨w.heap.size + 1, 4, none⟩ = some (.string ⟨t.name.toArray⟩) ∧ w'.cell? ⟨w.heap.size + 1, 5, none⟩ = some (.string ⟨t.text.toArray⟩) ∧ w'.cell? ⟨w.heap.size + 1, 6, none⟩ = some (.slice A t.attrs.length c)) (by kernel_rfl) ⟨z1, z2, z3, z4, z5, z6⟩ (fun hHeld => ?_)
        refine wpAnyH_take (i := 0) (oi := ⟨_, _, _, _, _, _⟩) (v := ?_) rfl (by kernel_rfl) (by kernel_rfl) (by kernel_rfl) (fun _ _ _ h => h) (Or.inl ⟨by rfl, ?_⟩) (by assumption) ?_
        rotate_left
        · (intro wS hSw; (try dsimp only at hSw); go_simp); all_goals with_reducible rfl
        try simp only [Act.put, List.setIfInBounds_toArray, List.set_cons_zero, List.set_cons_succ]
        refine wpAnyH_take (i := 1) (oi := ⟨_, _, _, _, _, _⟩) (v := ?_) rfl (by kernel_rfl) (by kernel_rfl) (by kernel_rfl) (fun _ _ _ h => h) (Or.inl ⟨by rfl, ?_⟩) (by assumption) ?_
        rotate_left
        · (intro wS hSw; (try dsimp only at hSw); go_simp); all_goals with_reducible rfl
        try simp only [Act.put, List.setIfInBounds_toArray, List.set_cons_zero, List.set_cons_succ]
        refine wpAnyH_take (i := 2) (oi := ⟨_, _, _, _, _, _⟩) (v := ?_) rfl (by kernel_rfl) (by kernel_rfl) (by kernel_rfl) (fun _ _ _ h => h) (Or.inl ⟨by rfl, ?_⟩) (by assumption) ?_
        rotate_left
        · (intro wS hSw; (try dsimp only at hSw); go_simp); all_goals with_reducible rfl
        try simp only [Act.put, List.setIfInBounds_toArray, List.set_cons_zero, List.set_cons_succ]
        refine wpAnyH_take (i := 3) (oi := ⟨_, _, _, _, _, _⟩) (v := ?_) rfl (by kernel_rfl) (by kernel_rfl) (by kernel_rfl) (fun _ _ _ h => h) (Or.inl ⟨by rfl, ?_⟩) (by assumption) ?_
        rotate_left
        · (intro wS hSw; (try dsimp only at hSw); go_simp); all_goals with_reducible rfl
        try simp only [Act.put, List.setIfInBounds_toArray, List.set_cons_zero, List.set_cons_succ]
        refine wpAnyH_take (i := 4) (oi := ⟨_, _, _, _, _, _⟩) (v := ?_) rfl (by kernel_rfl) (by kernel_rfl) (by kernel_rfl) (fun _ _ _ h => h) (Or.inl ⟨by rfl, ?_⟩) (by assumption) ?_
        rotate_left
        · (intro wS hSw; (try dsimp only at hSw); go_simp); all_goals with_reducible rfl
        try simp only [Act.put, List.setIfInBounds_toArray, List.set_cons_zero, List.set_cons_succ]
        refine wpAnyH_take (i := 5) (oi := ⟨_, _, _, _, _, _⟩) (v := ?_) rfl (by kernel_rfl) (by kernel_rfl) (by kernel_rfl) (fun _ _ _ h => h) (Or.inl ⟨by rfl, ?_⟩) (by assumption) ?_
        rotate_left
        · (intro wS hSw; (try dsimp only at hSw); go_simp); all_goals with_reducible rfl
        try simp only [Act.put, List.setIfInBounds_toArray, List.set_cons_zero, List.set_cons_succ]
        refine wpAnyH_take (i := 6) (oi := ⟨_, _, _, _, _, _⟩) (v := ?_) rfl (by kernel_rfl) (by kernel_rfl) (by kernel_rfl) (fun _ _ _ h => h) (Or.inl ⟨by rfl, ?_⟩) (by assumption) ?_
        rotate_left
        · (intro wS hSw; (try dsimp only at hSw); go_simp); all_goals with_reducible rfl
        try simp only [Act.put, List.setIfInBounds_toArray, List.set_cons_zero, List.set_cons_succ]
        refine wpAnyH_take (i := 7) (oi := ⟨_, _, _, _, _, _⟩) (v := ?_) rfl (by kernel_rfl) (by kernel_rfl) (by kernel_rfl) (fun _ _ _ h => h) (Or.inl ⟨by rfl, ?_⟩) (by assumption) ?_
        rotate_left
        · (intro wS hSw; (try dsimp only at hSw); go_simp); all_goals with_reducible rfl
        try simp only [Act.put, List.setIfInBounds_toArray, List.set_cons_zero, List.set_cons_succ]
        refine wpAnyH_ready (rs := [8]) (by kernel_rfl) (by simp) ?_
        refine AllReadyH.cons (o := ⟨_, _, _, _, _, _⟩) rfl (fun K hK => ?_) AllReadyH.nil
        refine wp_store_row 34 (.tmp 4) (.tmp 53) rfl w.heap.size (tokC pos t A c) rfl rfl 34 zeroTok HT4.out (by kernel_rfl) rfl (tokC_one _ _ _ _) ?_
        have HSR := HS.out.setRow (g := w.heap.size) (Nat.succ_ne_self _) (tokC pos t A c)
        refine hK.out _ _ (⟨HSR.all.2.1, HSR.all.2.2.1, HSR.all.2.2.2.1, HSR.all.2.2.2.2.1, HSR.all.2.2.2.2.2.1, HSR.all.2.2.2.2.2.2.1⟩) (fun hHeld => ?_)
        clear hK K
        try simp only [Act.put, List.setIfInBounds_toArray, List.set_cons_zero, List.set_cons_succ]
        refine wpAnyH_take (i := 9) (oi := ⟨_, _, _, _, _, _⟩) (v := ?_) rfl (by kernel_rfl) (by kernel_rfl) (by kernel_rfl) (fun _ _ _ h => h) (Or.inl ⟨by rfl, ?_⟩) (by assumption) ?_
        rotate_left
        · (intro wS hSw; (try dsimp only at hSw); go_simp); all_goals with_reducible rfl
        try simp only [Act.put, List.setIfInBounds_toArray, List.set_cons_zero, List.set_cons_succ]
        refine wpAnyH_take (i := 10) (oi := ⟨_, _, _, _, _, _⟩) (v := ?_) rfl (by kernel_rfl) (by kernel_rfl) (by kernel_rfl) (fun _ _ _ h => h) (Or.inl ⟨by rfl, ?_⟩) (by assumption) ?_
        rotate_left
        · (intro wS hSw; (try dsimp only at hSw); go_simp); all_goals with_reducible rfl
        try simp only [Act.put, List.setIfInBounds_toArray, List.set_cons_zero, List.set_cons_succ]
        refine wpAnyH_take (i := 11) (oi := ⟨_, _, _, _, _, _⟩) (v := ?_) rfl (by kernel_rfl) (by kernel_rfl) (by kernel_rfl) (fun _ _ _ h => h) (Or.inl ⟨by rfl, ?_⟩) (by assumption) ?_
        rotate_left
        · (intro wS hSw; (try dsimp only at hSw); go_simp); all_goals with_reducible rfl
        try simp only [Act.put, List.setIfInBounds_toArray, List.set_cons_zero, List.set_cons_succ]
        refine wpAnyH_done (by kernel_rfl) ?_ _
        clear hHeld
        go_wp2_with fail
        try simp only [Exit.inBlock, Exit.then]
        refine bodyPost_ret (results_cell3 Try.results20 _ _ w.heap.size 34 (tokC pos t A c) (0, 0) _ rfl (setRow_heap _ _ _ _ _ _ HT4.out) Try.underlying34 rfl (by kernel_rfl)) rfl ?_
        rw [HV.out]
        refine ⟨hb1.trans (below_row (((hbw.trans hb4).mono (Nat.le_succ _)).drew) (Nat.le_refl _) _), A, c, ?_, row_base (row_setRow HA4.out (Nat.lt_succ_self _) _) (Nat.le_succ _)⟩
        rw [show pos + (1 + n) = x by have := hx.out; omega]
        rfl
    | false =>
      obtain ⟨V', hV'⟩ : ∃ V', Hid (textT (s.data.toList.drop pos) = V') := ⟨_, rfl⟩
      have hVE : Hid (V = V'.past 0) := by
        show _ = _
        rw [← hV.out, Told.past_zero, ← hV'.out]
        unfold oneT
        rw [hm1.out, if_neg (by decide), hm2.out, if_neg (by decide)]
      go_enter Try.func20, Try.ntmps20
      go_wp2_with fail
      obtain ⟨W1, hW1⟩ : ∃ W1, Hid (W1 = (w.alloc (.cells #[.int .i64 0, .int .i64 0, .string ⟨#[]⟩, .string ⟨#[]⟩, .slice none 0 0] 34)).alloc (.cells #[.string s, .int .i64 pos, .int .i64 0, .int .i64 pos, .string ⟨#[]⟩, .string ⟨#[]⟩, .slice none 0 0, .int .i64 0, .int .i64 0] 64)) := ⟨_, rfl⟩
      rw [← hW1.out]
      have hR1 : Hid (RdAt W1 (w.heap.size + 1) (Rdr.new s pos pos)) := by show RdAt _ _ _; rw [hW1.out]; exact heap_alloc2_new _ _ _
      have hT1 : Hid (W1.heap[w.heap.size]? = some (.cells zeroTok 34 (0, 0))) := by show _ = _; rw [hW1.out]; exact heap_alloc2_old _ _ _
      have hb1 : Below w.heap.size w W1 := by rw [hW1.out]; exact ((Below.refl _ w).alloc (Nat.le_refl _) _).alloc (by simp) _
      have hz1 : w.heap.size + 1 ≤ W1.heap.size := by rw [hW1.out]; simp
      refine (is_any (w.heap.size + 1) _ W1 hR1.out [60, 47] (Nat.le_of_lt hp) hs false hm1 (by decide)).mono ?_
      rintro e W2 ⟨rfl, hW2, hg2⟩
      have HR2 : Hid (RdAt W2 (w.heap.size + 1) (Rdr.new s pos pos)) := hW2
      clear hW2
      go_wp2_with fail
      refine (is_any (w.heap.size + 1) _ W2 HR2.out [60] (Nat.le_of_lt hp) hs false hm2 (by decide)).mono ?_
      rintro e W3 ⟨rfl, hW3, hg3⟩
      have HR3 : Hid (RdAt W3 (w.heap.size + 1) (Rdr.new s pos pos)) := hW3
      have hbw : Below (w.heap.size + 1) W1 W3 := below_of_grown (grown_twice hg2 hg3) (Nat.le_refl _) hz1
      clear hW3
      go_wp2_with fail
      refine (text_any (w.heap.size + 1) (w.heap.size + 1) s pos pos W3 HR3.out (Nat.le_refl _) (Nat.le_trans hz1 hbw.size) (Nat.le_of_lt hp) hs V' hV').mono ?_
      rintro e W4 ⟨hb4, hpost⟩
      cases V' with
      | bad k c =>
        obtain ⟨rfl, R, hR4, hR41, hR42⟩ := hpost
        obtain ⟨x, hx⟩ : ∃ x, Hid (pos + k = x) := ⟨_, rfl⟩
        have HV : Hid (V = .bad (0 + k) c) := hVE.out
        rw [hx.out] at hR41
        obtain ⟨_, _, _, _, _, _, _, z7, z8⟩ := hR4.all
        rw [hR41] at z7
        rw [hR42] at z8
        have HT4 : Hid (W4.drew.heap[w.heap.size]? = some (.cells zeroTok 34 (0, 0))) := block_below ((hbw.trans hb4).drew) (Nat.lt_succ_self _) hT1.out
        clear hR41 hR42
        go_wp2_with fail
        refine wp_region_held_drew (S := fun w' => w'.cell? ⟨w.heap.size + 1, 7, none⟩ = some (.int .i64 x) ∧ w'.cell? ⟨w.heap.size + 1, 8, none⟩ = some (.int .i64 c)) (by kernel_rfl) ⟨z7, z8⟩ (fun hHeld => ?_)
        refine wpAnyH_take (i := 0) (oi := ⟨_, _, _, _, _, _⟩) (v := ?_) rfl (by kernel_rfl) (by kernel_rfl) (by kernel_rfl) (fun _ _ _ h => h) (Or.inl ⟨by rfl, ?_⟩) (by assumption) ?_
        rotate_left
        · (intro wS hSw; (try dsimp only at hSw); go_simp); all_goals with_reducible rfl
        try simp only [Act.put, List.setIfInBounds_toArray, List.set_cons_zero, List.set_cons_succ]
        refine wpAnyH_take (i := 1) (oi := ⟨_, _, _, _, _, _⟩) (v := ?_) rfl (by kernel_rfl) (by kernel_rfl) (by kernel_rfl) (fun _ _ _ h => h) (Or.inl ⟨by rfl, ?_⟩) (by assumption) ?_
        rotate_left
        · (intro wS hSw; (try dsimp only at hSw); go_simp); all_goals with_reducible rfl
        try simp only [Act.put, List.setIfInBounds_toArray, List.set_cons_zero, List.set_cons_succ]
        refine wpAnyH_take (i := 2) (oi := ⟨_, _, _, _, _, _⟩) (v := ?_) rfl (by kernel_rfl) (by kernel_rfl) (by kernel_rfl) (fun _ _ _ h => h) (Or.inl ⟨by rfl, ?_⟩) (by assumption) ?_
        rotate_left
        · (intro wS hSw; (try dsimp only at hSw); go_simp); all_goals with_reducible rfl
        try simp only [Act.put, List.setIfInBounds_toArray, List.set_cons_zero, List.set_cons_succ]
        refine wpAnyH_take (i := 3) (oi := ⟨_, _, _, _, _, _⟩) (v := ?_) rfl (by kernel_rfl) (by kernel_rfl) (by kernel_rfl) (fun _ _ _ h => h) (Or.inl ⟨by rfl, ?_⟩) (by assumption) ?_
        rotate_left
        · (intro wS hSw; (try dsimp only at hSw); go_simp); all_goals with_reducible rfl
        try simp only [Act.put, List.setIfInBounds_toArray, List.set_cons_zero, List.set_cons_succ]
        refine wpAnyH_take (i := 4) (oi := ⟨_, _, _, _, _, _⟩) (v := ?_) rfl (by kernel_rfl) (by kernel_rfl) (by kernel_rfl) (fun _ _ _ h => h) (Or.inl ⟨by rfl, ?_⟩) (by assumption) ?_
        rotate_left
        · (intro wS hSw; (try dsimp only at hSw); go_simp); all_goals with_reducible rfl
        try simp only [Act.put, List.setIfInBounds_toArray, List.set_cons_zero, List.set_cons_succ]
        refine wpAnyH_take (i := 5) (oi := ⟨_, _, _, _, _, _⟩) (v := ?_) rfl (by kernel_rfl) (by kernel_rfl) (by kernel_rfl) (fun _ _ _ h => h) (Or.inl ⟨by rfl, ?_⟩) (by assumption) ?_
        rotate_left
        · (intro wS hSw; (try dsimp only at hSw); go_simp); all_goals with_reducible rfl
        try simp only [Act.put, List.setIfInBounds_toArray, List.set_cons_zero, List.set_cons_succ]
        refine wpAnyH_take (i := 6) (oi := ⟨_, _, _, _, _, _⟩) (v := ?_) rfl (by kernel_rfl) (by kernel_rfl) (by kernel_rfl) (fun _ _ _ h => h) (Or.inl ⟨by rfl, ?_⟩) (by assumption) ?_
        rotate_left
        · (intro wS hSw; (try dsimp only at hSw); go_simp); all_goals with_reducible rfl
        try simp only [Act.put, List.setIfInBounds_toArray, List.set_cons_zero, List.set_cons_succ]
        refine wpAnyH_take (i := 7) (oi := ⟨_, _, _, _, _, _⟩) (v := ?_) rfl (by kernel_rfl) (by kernel_rfl) (by kernel_rfl) (fun _ _ _ h => h) (Or.inl ⟨by rfl, ?_⟩) (by assumption) ?_
        rotate_left
        · (intro wS hSw; (try dsimp only at hSw); go_simp); all_goals with_reducible rfl
        try simp only [Act.put, List.setIfInBounds_toArray, List.set_cons_zero, List.set_cons_succ]
        refine wpAnyH_take (i := 8) (oi := ⟨_, _, _, _, _, _⟩) (v := ?_) rfl (by kernel_rfl) (by kernel_rfl) (by kernel_rfl) (fun _ _ _ h => h) (Or.inl ⟨by rfl, ?_⟩) (by assumption) ?_
        rotate_left
        · (intro wS hSw; (try dsimp only at hSw); go_simp); all_goals with_reducible rfl
        try simp only [Act.put, List.setIfInBounds_toArray, List.set_cons_zero, List.set_cons_succ]
        refine wpAnyH_ready (rs := [9]) (by kernel_rfl) (by simp) ?_
        refine AllReadyH.cons (o := ⟨_, _, _, _, _, _⟩) rfl (fun K hK => ?_) AllReadyH.nil
        refine wp_store_row 34 (.tmp 4) (.tmp 41) rfl w.heap.size zeroTok rfl rfl 34 zeroTok HT4.out (by kernel_rfl) rfl zeroTok_one ?_
        refine hK.out _ _ (⟨(cell_setRow_other _ _ _ _ (Nat.succ_ne_self _)).trans z7, (cell_setRow_other _ _ _ _ (Nat.succ_ne_self _)).trans z8⟩) (fun hHeld => ?_)
        clear hK K
        try simp only [Act.put, List.setIfInBounds_toArray, List.set_cons_zero, List.set_cons_succ]
        refine wpAnyH_take (i := 10) (oi := ⟨_, _, _, _, _, _⟩) (v := ?_) rfl (by kernel_rfl) (by kernel_rfl) (by kernel_rfl) (fun _ _ _ h => h) (Or.inl ⟨by rfl, ?_⟩) (by assumption) ?_
        rotate_left
        · (intro wS hSw; (try dsimp only at hSw); go_simp); all_goals with_reducible rfl
        try simp only [Act.put, List.setIfInBounds_toArray, List.set_cons_zero, List.set_cons_succ]
        refine wpAnyH_take (i := 11) (oi := ⟨_, _, _, _, _, _⟩) (v := ?_) rfl (by kernel_rfl) (by kernel_rfl) (by kernel_rfl) (fun _ _ _ h => h) (Or.inl ⟨by rfl, ?_⟩) (by assumption) ?_
        rotate_left
        · (intro wS hSw; (try dsimp only at hSw); go_simp); all_goals with_reducible rfl
        try simp only [Act.put, List.setIfInBounds_toArray, List.set_cons_zero, List.set_cons_succ]
        refine wpAnyH_take (i := 12) (oi := ⟨_, _, _, _, _, _⟩) (v := ?_) rfl (by kernel_rfl) (by kernel_rfl) (by kernel_rfl) (fun _ _ _ h => h) (Or.inl ⟨by rfl, ?_⟩) (by assumption) ?_
        rotate_left
        · (intro wS hSw; (try dsimp only at hSw); go_simp); all_goals with_reducible rfl
        try simp only [Act.put, List.setIfInBounds_toArray, List.set_cons_zero, List.set_cons_succ]
        refine wpAnyH_done (by kernel_rfl) ?_ _
        clear hHeld
        go_wp2_with fail
        try simp only [Exit.inBlock, Exit.then]
        refine bodyPost_ret (results_cell3 Try.results20 _ _ w.heap.size 34 zeroTok (0, 0) _ rfl (setRow_heap _ _ _ _ _ _ HT4.out) Try.underlying34 rfl (by kernel_rfl)) rfl ?_
        rw [HV.out]
        refine ⟨hb1.trans (below_row (((hbw.trans hb4).mono (Nat.le_succ _)).drew) (Nat.le_refl _) _), ?_⟩
        show _ = Ending.returned (.tuple #[.agg zeroTok, .int .i64 0, .int .i64 (pos + (0 + k) : Nat), .int .i64 c])
        rw [show pos + (0 + k) = x by have := hx.out; omega]
        rfl
      | ok t n =>
        obtain ⟨rfl, A, c, hR4, hA4⟩ := hpost
        obtain ⟨x, hx⟩ : ∃ x, Hid (pos + n = x) := ⟨_, rfl⟩
        have HV : Hid (V = .ok t (0 + n)) := hVE.out
        rw [hx.out] at hR4
        obtain ⟨_, z1, z2, z3, z4, z5, z6, _⟩ := hR4.all
        have HT4 : Hid (W4.drew.heap[w.heap.size]? = some (.cells zeroTok 34 (0, 0))) := block_below ((hbw.trans hb4).drew) (Nat.lt_succ_self _) hT1.out
        have HA4 : Hid (AttrsOwn W4.drew (w.heap.size + 1) A c t.attrs) := hA4
        clear hA4
        go_wp2_with fail
        have HS : Hid (RdAt W4.drew (w.heap.size + 1) ⟨s, x, t.kind, pos, t.name, t.text, A, t.attrs.length, c, 0, 0⟩) := hR4
        refine wp_region_held_drew (S := fun w' => w'.cell? ⟨w.heap.size + 1, 1, none⟩ = some (.int .i64 x) ∧ w'.cell? ⟨w.heap.size + 1, 2, none⟩ = some (.int .i64 t.kind) ∧ w'.cell? ⟨w.heap.size + 1, 3, none⟩ = some (.int .i64 pos) ∧ w'.cell? ⟨w.heap.size + 1, 4, none⟩ = some (.string ⟨t.name.toArray⟩) ∧ w'.cell? ⟨w.heap.size + 1, 5, none⟩ = some (.string ⟨t.text.toArray⟩) ∧ w'.cell? ⟨w.heap.size + 1, 6, none⟩ = some (.slice A t.attrs.length c)) (by kernel_rfl) ⟨z1, z2, z3, z4, z5, z6⟩ (fun hHeld => ?_)
        refine wpAnyH_take (i := 0) (oi := ⟨_, _, _, _, _, _⟩) (v := ?_) rfl (by kernel_rfl) (by kernel_rfl) (by kernel_rfl) (fun _ _ _ h => h) (Or.inl ⟨by rfl, ?_⟩) (by assumption) ?_
        rotate_left
        · (intro wS hSw; (try dsimp only at hSw); go_simp); all_goals with_reducible rfl
        try simp only [Act.put, List.setIfInBounds_toArray, List.set_cons_zero, List.set_cons_succ]
        refine wpAnyH_take (i := 1) (oi := ⟨_, _, _, _, _, _⟩) (v := ?_) rfl (by kernel_rfl) (by kernel_rfl) (by kernel_rfl) (fun _ _ _ h => h) (Or.inl ⟨by rfl, ?_⟩) (by assumption) ?_
        rotate_left
        · (intro wS hSw; (try dsimp only at hSw); go_simp); all_goals with_reducible rfl
        try simp only [Act.put, List.setIfInBounds_toArray, List.set_cons_zero, List.set_cons_succ]
        refine wpAnyH_take (i := 2) (oi := ⟨_, _, _, _, _, _⟩) (v := ?_) rfl (by kernel_rfl) (by kernel_rfl) (by kernel_rfl) (fun _ _ _ h => h) (Or.inl ⟨by rfl, ?_⟩) (by assumption) ?_
        rotate_left
        · (intro wS hSw; (try dsimp only at hSw); go_simp); all_goals with_reducible rfl
        try simp only [Act.put, List.setIfInBounds_toArray, List.set_cons_zero, List.set_cons_succ]
        refine wpAnyH_take (i := 3) (oi := ⟨_, _, _, _, _, _⟩) (v := ?_) rfl (by kernel_rfl) (by kernel_rfl) (by kernel_rfl) (fun _ _ _ h => h) (Or.inl ⟨by rfl, ?_⟩) (by assumption) ?_
        rotate_left
        · (intro wS hSw; (try dsimp only at hSw); go_simp); all_goals with_reducible rfl
        try simp only [Act.put, List.setIfInBounds_toArray, List.set_cons_zero, List.set_cons_succ]
        refine wpAnyH_take (i := 4) (oi := ⟨_, _, _, _, _, _⟩) (v := ?_) rfl (by kernel_rfl) (by kernel_rfl) (by kernel_rfl) (fun _ _ _ h => h) (Or.inl ⟨by rfl, ?_⟩) (by assumption) ?_
        rotate_left
        · (intro wS hSw; (try dsimp only at hSw); go_simp); all_goals with_reducible rfl
        try simp only [Act.put, List.setIfInBounds_toArray, List.set_cons_zero, List.set_cons_succ]
        refine wpAnyH_take (i := 5) (oi := ⟨_, _, _, _, _, _⟩) (v := ?_) rfl (by kernel_rfl) (by kernel_rfl) (by kernel_rfl) (fun _ _ _ h => h) (Or.inl ⟨by rfl, ?_⟩) (by assumption) ?_
        rotate_left
        · (intro wS hSw; (try dsimp only at hSw); go_simp); all_goals with_reducible rfl
        try simp only [Act.put, List.setIfInBounds_toArray, List.set_cons_zero, List.set_cons_succ]
        refine wpAnyH_take (i := 6) (oi := ⟨_, _, _, _, _, _⟩) (v := ?_) rfl (by kernel_rfl) (by kernel_rfl) (by kernel_rfl) (fun _ _ _ h => h) (Or.inl ⟨by rfl, ?_⟩) (by assumption) ?_
        rotate_left
        · (intro wS hSw; (try dsimp only at hSw); go_simp); all_goals with_reducible rfl
        try simp only [Act.put, List.setIfInBounds_toArray, List.set_cons_zero, List.set_cons_succ]
        refine wpAnyH_take (i := 7) (oi := ⟨_, _, _, _, _, _⟩) (v := ?_) rfl (by kernel_rfl) (by kernel_rfl) (by kernel_rfl) (fun _ _ _ h => h) (Or.inl ⟨by rfl, ?_⟩) (by assumption) ?_
        rotate_left
        · (intro wS hSw; (try dsimp only at hSw); go_simp); all_goals with_reducible rfl
        try simp only [Act.put, List.setIfInBounds_toArray, List.set_cons_zero, List.set_cons_succ]
        refine wpAnyH_ready (rs := [8]) (by kernel_rfl) (by simp) ?_
        refine AllReadyH.cons (o := ⟨_, _, _, _, _, _⟩) rfl (fun K hK => ?_) AllReadyH.nil
        refine wp_store_row 34 (.tmp 4) (.tmp 53) rfl w.heap.size (tokC pos t A c) rfl rfl 34 zeroTok HT4.out (by kernel_rfl) rfl (tokC_one _ _ _ _) ?_
        have HSR := HS.out.setRow (g := w.heap.size) (Nat.succ_ne_self _) (tokC pos t A c)
        refine hK.out _ _ (⟨HSR.all.2.1, HSR.all.2.2.1, HSR.all.2.2.2.1, HSR.all.2.2.2.2.1, HSR.all.2.2.2.2.2.1, HSR.all.2.2.2.2.2.2.1⟩) (fun hHeld => ?_)
        clear hK K
        try simp only [Act.put, List.setIfInBounds_toArray, List.set_cons_zero, List.set_cons_succ]
        refine wpAnyH_take (i := 9) (oi := ⟨_, _, _, _, _, _⟩) (v := ?_) rfl (by kernel_rfl) (by kernel_rfl) (by kernel_rfl) (fun _ _ _ h => h) (Or.inl ⟨by rfl, ?_⟩) (by assumption) ?_
        rotate_left
        · (intro wS hSw; (try dsimp only at hSw); go_simp); all_goals with_reducible rfl
        try simp only [Act.put, List.setIfInBounds_toArray, List.set_cons_zero, List.set_cons_succ]
        refine wpAnyH_take (i := 10) (oi := ⟨_, _, _, _, _, _⟩) (v := ?_) rfl (by kernel_rfl) (by kernel_rfl) (by kernel_rfl) (fun _ _ _ h => h) (Or.inl ⟨by rfl, ?_⟩) (by assumption) ?_
        rotate_left
        · (intro wS hSw; (try dsimp only at hSw); go_simp); all_goals with_reducible rfl
        try simp only [Act.put, List.setIfInBounds_toArray, List.set_cons_zero, List.set_cons_succ]
        refine wpAnyH_take (i := 11) (oi := ⟨_, _, _, _, _, _⟩) (v := ?_) rfl (by kernel_rfl) (by kernel_rfl) (by kernel_rfl) (fun _ _ _ h => h) (Or.inl ⟨by rfl, ?_⟩) (by assumption) ?_
        rotate_left
        · (intro wS hSw; (try dsimp only at hSw); go_simp); all_goals with_reducible rfl
        try simp only [Act.put, List.setIfInBounds_toArray, List.set_cons_zero, List.set_cons_succ]
        refine wpAnyH_done (by kernel_rfl) ?_ _
        clear hHeld
        go_wp2_with fail
        try simp only [Exit.inBlock, Exit.then]
        refine bodyPost_ret (results_cell3 Try.results20 _ _ w.heap.size 34 (tokC pos t A c) (0, 0) _ rfl (setRow_heap _ _ _ _ _ _ HT4.out) Try.underlying34 rfl (by kernel_rfl)) rfl ?_
        rw [HV.out]
        refine ⟨hb1.trans (below_row (((hbw.trans hb4).mono (Nat.le_succ _)).drew) (Nat.le_refl _) _), A, c, ?_, row_base (row_setRow HA4.out (Nat.lt_succ_self _) _) (Nat.le_succ _)⟩
        rw [show pos + (0 + n) = x by have := hx.out; omega]
        rfl

set_option maxRecDepth 100000 in
set_option maxHeartbeats 2000000 in
/-- at no place of the text -/
theorem One_out (s : ByteArray) (i : Int) (w : World) (hi : (i < 0 || (s.size : Int) ≤ i) = true) :
    Calls Try.prog 20 #[.string s, .int .i64 i] w (Ret w (.tuple #[.agg zeroTok, .int .i64 0, .int .i64 i, .int .i64 30])) := by
  by_cases h0 : i < 0
  · go_enter Try.func20, Try.ntmps20
    go_wp2_with fail
    try simp only [Exit.inBlock, Exit.then]
    refine bodyPost_ret (results_cell3 Try.results20 _ _ w.heap.size 34 zeroTok (0, 0) _ rfl (heap_alloc_new w _) Try.underlying34 rfl (by kernel_rfl)) rfl ?_
    exact ⟨rfl, (Below.refl _ w).alloc (Nat.le_refl _) _⟩
  · have h1 : (s.size : Int) ≤ i := by simpa [h0] using hi
    clear hi
    go_enter Try.func20, Try.ntmps20
    go_wp2_with fail
    try simp only [Exit.inBlock, Exit.then]
    refine bodyPost_ret (results_cell3 Try.results20 _ _ w.heap.size 34 zeroTok (0, 0) _ rfl (heap_alloc_new w _) Try.underlying34 rfl (by kernel_rfl)) rfl ?_
    exact ⟨rfl, (Below.refl _ w).alloc (Nat.le_refl _) _⟩
end Go.Proofs.Ythifddkmbjnncaa
