/-
  The reader of tokens: the walks of text and end.
-/
import Derived.Test.YthifddkmbjnncaaRd2
import Derived.Test.YthifddkmbjnncaaOwnA
namespace Go.Proofs.Ythifddkmbjnncaa
open Go.RowKit

/-- a reader that has read nothing of a token -/
def Rdr.new (s : ByteArray) (pos place : Nat) : Rdr := ⟨s, pos, 0, place, [], [], none, 0, 0, 0, 0⟩
/-- what a method that reads a token leaves, the places counted from where the reader stood -/
def TokPost (w : World) (B b : Nat) (s : ByteArray) (pos place : Nat) (V : Told TokD) (e : Ending) (w' : World) : Prop :=
  Below B w w' ∧ match V with
  | .ok t n => e = .returned (.bool true) ∧ ∃ A c, RdAt w' b ⟨s, pos + n, t.kind, place, t.name, t.text, A, t.attrs.length, c, 0, 0⟩ ∧ AttrsOwn w' B A c t.attrs
  | .bad k c => e = .returned (.bool false) ∧ ∃ R : Rdr, RdAt w' b R ∧ R.bad = ((pos + k : Nat) : Int) ∧ R.code = c

theorem below_of_grown {w w' : World} {B b : Nat} (hg : w.grownBy w' (some b)) (hb : B ≤ b) (hw : B ≤ w.heap.size) : Below B w w' :=
  (Below.refl B w).grown hg hw (fun k hk => by injection hk with hk; omega)

theorem idx_not (c : UInt8) : ∀ l : List UInt8, (l.takeWhile (· != c)).length = l.length → Lib.indexByte l c = -1
  | [], _ => rfl
  | a :: l, h => by
    rw [List.takeWhile_cons] at h
    by_cases ha : a = c
    · subst ha; simp at h
    · have hb : (a != c) = true := by simpa using ha
      rw [if_pos hb] at h
      simp only [List.length_cons] at h
      rw [Lib.indexByte, idx_not c l (by omega)]
      simp [ha]
theorem idx_yes (c : UInt8) : ∀ l : List UInt8, (l.takeWhile (· != c)).length ≠ l.length → Lib.indexByte l c = ((l.takeWhile (· != c)).length : Nat)
  | [], h => absurd rfl h
  | a :: l, h => by
    rw [List.takeWhile_cons] at h ⊢
    by_cases ha : a = c
    · subst ha; simp [Lib.indexByte]
    · have hb : (a != c) = true := by simpa using ha
      rw [if_pos hb] at h ⊢
      simp only [List.length_cons] at h ⊢
      rw [Lib.indexByte, idx_yes c l (by omega)]
      have : ((((l.takeWhile (· != c)).length : Nat) : Int) == -1) = false := by simp
      simp [ha, this]

theorem textT_of {l t u : List UInt8} {n : Nat} {e : Int} (ht : l.takeWhile (· != 60) = t) (hu : undoL false t = (u, n, e)) :
    textT l = if e ≠ 0 then .bad n e else if 1500 < u.length then .bad 0 34 else .ok ⟨4, [], u, []⟩ t.length := by
  unfold textT
  simp only [ht, hu]

theorem undone_at (b : Nat) (r : Rdr) (w : World) (h : RdAt w b r) (i j : Nat) (hij : i ≤ j) (hj : j ≤ r.s.size) (hs : r.s.size ≤ 1000000000) (v : Bool) (V : List UInt8 × Nat × Int) (hV : Hid (undoL v ((r.s.data.toList.drop i).take (j - i)) = V)) (jI : Int) (hjI : Hid (jI = j)) :
    Calls Try.prog 67 #[.pointer (some ⟨b, 0, none⟩), .int .i64 i, .int .i64 jI, .bool v] w (RdPost w b (if V.2.2 = 0 then r else { r with bad := (i : Int) + V.2.1, code := V.2.2 }) (.tuple #[.string ⟨(if V.2.2 = 0 then V.1 else []).toArray⟩, .bool (decide (V.2.2 = 0))])) := by
  have e := hjI.out
  subst e
  exact undone_any b r w h i j hij hj hs v V hV




set_option maxRecDepth 100000 in
set_option maxHeartbeats 1000000 in
theorem text_any (b B : Nat) (s : ByteArray) (pos place : Nat) (w : World) (h : RdAt w b (Rdr.new s pos place)) (hB : B ≤ b) (hBw : B ≤ w.heap.size) (hp : pos ≤ s.size) (hs : s.size ≤ 1000000000) (V : Told TokD) (hV : Hid (textT (s.data.toList.drop pos) = V)) :
    Calls Try.prog 40 #[.pointer (some ⟨b, 0, none⟩)] w (TokPost w B b s pos place V) := by
  have HR : Hid (RdAt w.drew b (Rdr.new s pos place)) := h.drew
  have HL := Lib.hid (size_toList s)
  have hx : Hid ((s.extract pos s.size).data.toList = s.data.toList.drop pos) := Lib.extract_to_end _ _
  have HS : Hid (w.drew.cell? ⟨b, 0, none⟩ = some (.string s) ∧ w.drew.cell? ⟨b, 1, none⟩ = some (.int .i64 pos)) := ⟨h.all.1, h.all.2.1⟩
  have HR1 : Hid (RdAt (w.setCell ⟨b, 1, none⟩ (.int .i64 s.size)) b { Rdr.new s pos place with pos := s.size }) := h.pos s.size
  have i0 : (0 : Int) ≤ (pos : Int) := by omega
  have i1 : (pos : Int) ≤ s.size := by omega
  obtain ⟨t, ht⟩ : ∃ t, Hid ((s.data.toList.drop pos).takeWhile (· != 60) = t) := ⟨_, rfl⟩
  obtain ⟨k, hk⟩ : ∃ k, Hid (t.length = k) := ⟨_, rfl⟩
  have hkl : pos + k ≤ s.size := by
    have := takeWhile_len (· != 60) (s.data.toList.drop pos)
    rw [ht.out, hk.out, List.length_drop, HL.out] at this; omega
  have htk : Hid ((s.data.toList.drop pos).take (pos + k - pos) = t) := by
    show _ = _
    have h2 := span_word (s.data.toList.drop pos) (· != 60)
    rw [ht.out] at h2
    rw [show pos + k - pos = t.length by have := hk.out; omega]
    conv => lhs; rw [h2]
    rw [List.take_append_of_le_length (Nat.le_refl _), List.take_length]
  obtain ⟨u, n, e, hu⟩ : ∃ u n e, Hid (undoL false t = (u, n, e)) := ⟨_, _, _, rfl⟩
  have hU : Hid (undoL false ((s.data.toList.drop pos).take (pos + k - pos)) = (u, n, e)) := by show _ = _; rw [htk.out]; exact hu.out
  have HY : Hid ((w.setCell ⟨b, 1, none⟩ (.int .i64 s.size)).cell? ⟨b, 0, none⟩ = some (.string s) ∧ (w.setCell ⟨b, 1, none⟩ (.int .i64 s.size)).cell? ⟨b, 1, none⟩ = some (.int .i64 s.size)) := ⟨HR1.out.all.1, HR1.out.all.2.1⟩
  by_cases hlast : k = s.size - pos
  · have hq : Hid (Lib.indexByte (s.data.toList.drop pos) 60 = -1) := idx_not 60 _ (by rw [ht.out, hk.out, List.length_drop, HL.out]; exact hlast)
    have HG : Hid (True ∧ True) := ⟨trivial, trivial⟩
    have HR2 : Hid (RdAt (w.setCell ⟨b, 1, none⟩ (.int .i64 s.size)) b { Rdr.new s pos place with pos := pos + k }) := by
      rw [show pos + k = s.size by omega]; exact HR1.out
    have hJ : Hid ((s.size : Int) = ((pos + k : Nat) : Int)) := by show _ = _; omega
    clear h hlast
    go_enter Try.func40, Try.ntmps40
    go_wp2_with fail
    refine wp_region_held_drew (S := fun w' => w'.cell? ⟨b, 0, none⟩ = some (.string s) ∧ w'.cell? ⟨b, 1, none⟩ = some (.int .i64 pos)) (by kernel_rfl) HS.out (fun hHeld => ?_)
    refine wpAnyH_take (i := 0) (oi := ⟨_, _, _, _, _, _⟩) (v := ?_) rfl (by kernel_rfl) (by kernel_rfl) (by kernel_rfl) (fun _ _ _ h => h) (Or.inl ⟨by rfl, ?_⟩) (by assumption) ?_
    rotate_left
    · (intro wS hSw; (try dsimp only at hSw); go_simp); all_goals with_reducible rfl
    try simp only [Act.put, List.setIfInBounds_toArray, List.set_cons_zero, List.set_cons_succ]
    refine wpAnyH_take (i := 1) (oi := ⟨_, _, _, _, _, _⟩) (v := ?_) rfl (by kernel_rfl) (by kernel_rfl) (by kernel_rfl) (fun _ _ _ h => h) (Or.inl ⟨by rfl, ?_⟩) (by assumption) ?_
    rotate_left
    · (intro wS hSw; (try dsimp only at hSw); go_simp); all_goals with_reducible rfl
    try simp only [Act.put, List.setIfInBounds_toArray, List.set_cons_zero, List.set_cons_succ]
    refine wpAnyH_take (i := 2) (oi := ⟨_, _, _, _, _, _⟩) (v := ?_) rfl (by kernel_rfl) (by kernel_rfl) (by kernel_rfl) (fun _ _ _ h => h) (Or.inl ⟨by rfl, ?_⟩) (by assumption) ?_
    rotate_left
    · (intro wS hSw; (try dsimp only at hSw); go_simp); all_goals with_reducible rfl
    try simp only [Act.put, List.setIfInBounds_toArray, List.set_cons_zero, List.set_cons_succ]
    refine wpAnyH_take (i := 3) (oi := ⟨_, _, _, _, _, _⟩) (v := ?_) rfl (by kernel_rfl) (by kernel_rfl) (by kernel_rfl) (fun _ _ _ h => h) (Or.inl ⟨by rfl, ?_⟩) (by assumption) ?_
    rotate_left
    · (intro wS hSw; (try dsimp only at hSw); go_simp); all_goals with_reducible rfl
    try simp only [Act.put, List.setIfInBounds_toArray, List.set_cons_zero, List.set_cons_succ]
    refine wpAnyH_take (i := 4) (oi := ⟨_, _, _, _, _, _⟩) (v := ?_) rfl (by kernel_rfl) (by kernel_rfl) (by kernel_rfl) (fun _ _ _ h => h) (Or.inl ⟨by rfl, ?_⟩) (by assumption) ?_
    rotate_left
    · (intro wS hSw; (try dsimp only at hSw); go_simp); all_goals with_reducible rfl
    try simp only [Act.put, List.setIfInBounds_toArray, List.set_cons_zero, List.set_cons_succ]
    refine wpAnyH_take (i := 5) (oi := ⟨_, _, _, _, _, _⟩) (v := ?_) rfl (by kernel_rfl) (by kernel_rfl) (by kernel_rfl) (fun _ _ _ h => h) (Or.inl ⟨by rfl, ?_⟩) (by assumption) ?_
    rotate_left
    · (intro wS hSw; (try dsimp only at hSw); go_simp); all_goals with_reducible rfl
    try simp only [Act.put, List.setIfInBounds_toArray, List.set_cons_zero, List.set_cons_succ]
    refine wpAnyH_take (i := 6) (oi := ⟨_, _, _, _, _, _⟩) (v := ?_) rfl (by kernel_rfl) (by kernel_rfl) (by kernel_rfl) (fun _ _ _ h => h) (Or.inl ⟨by rfl, ?_⟩) (by assumption) ?_
    rotate_left
    · (intro wS hSw; (try dsimp only at hSw); go_simp); all_goals with_reducible rfl
    try simp only [Act.put, List.setIfInBounds_toArray, List.set_cons_zero, List.set_cons_succ]
    refine wpAnyH_take (i := 7) (oi := ⟨_, _, _, _, _, _⟩) (v := ?_) rfl (by kernel_rfl) (by kernel_rfl) (by kernel_rfl) (fun _ _ _ h => h) (Or.inl ⟨by rfl, ?_⟩) (by assumption) ?_
    rotate_left
    · (intro wS hSw; (try dsimp only at hSw); go_simp); all_goals with_reducible rfl
    try simp only [Act.put, List.setIfInBounds_toArray, List.set_cons_zero, List.set_cons_succ]
    refine wpAnyH_take (i := 8) (oi := ⟨_, _, _, _, _, _⟩) (v := ?_) rfl (by kernel_rfl) (by kernel_rfl) (by kernel_rfl) (fun _ _ _ h => h) (Or.inl ⟨by rfl, ?_⟩) (by assumption) ?_
    rotate_left
    · (intro wS hSw; (try dsimp only at hSw); go_simp); all_goals with_reducible rfl
    try simp only [Act.put, List.setIfInBounds_toArray, List.set_cons_zero, List.set_cons_succ]
    refine wpAnyH_take (i := 9) (oi := ⟨_, _, _, _, _, _⟩) (v := ?_) rfl (by kernel_rfl) (by kernel_rfl) (by kernel_rfl) (fun _ _ _ h => h) (Or.inl ⟨by rfl, ?_⟩) (by assumption) ?_
    rotate_left
    · (intro wS hSw; (try dsimp only at hSw); go_simp); all_goals with_reducible rfl
    try simp only [Act.put, List.setIfInBounds_toArray, List.set_cons_zero, List.set_cons_succ]
    refine wpAnyH_take (i := 10) (oi := ⟨_, _, _, _, _, _⟩) (v := ?_) rfl (by kernel_rfl) (by kernel_rfl) (by kernel_rfl) (fun _ _ _ h => h) (Or.inl ⟨by rfl, ?_⟩) (by assumption) ?_
    rotate_left
    · (intro wS hSw; (try dsimp only at hSw); go_simp); all_goals with_reducible rfl
    try simp only [Act.put, List.setIfInBounds_toArray, List.set_cons_zero, List.set_cons_succ]
    refine wpAnyH_take (i := 11) (oi := ⟨_, _, _, _, _, _⟩) (v := ?_) rfl (by kernel_rfl) (by kernel_rfl) (by kernel_rfl) (fun _ _ _ h => h) (Or.inl ⟨by rfl, ?_⟩) (by assumption) ?_
    rotate_left
    · (intro wS hSw; (try dsimp only at hSw); go_simp); all_goals with_reducible rfl
    try simp only [Act.put, List.setIfInBounds_toArray, List.set_cons_zero, List.set_cons_succ]
    refine wpAnyH_take (i := 12) (oi := ⟨_, _, _, _, _, _⟩) (v := ?_) rfl (by kernel_rfl) (by kernel_rfl) (by kernel_rfl) (fun _ _ _ h => h) (Or.inl ⟨by rfl, ?_⟩) (by assumption) ?_
    rotate_left
    · (intro wS hSw; (try dsimp only at hSw); go_simp); all_goals with_reducible rfl
    try simp only [Act.put, List.setIfInBounds_toArray, List.set_cons_zero, List.set_cons_succ]
    refine wpAnyH_ready (rs := [13]) (by kernel_rfl) (by simp) ?_
    refine AllReadyH.cons (o := ⟨_, _, _, _, _, _⟩) rfl (fun K hK => ?_) AllReadyH.nil
    go_simp
    refine (Try.strings_IndexByte _ _ _).mono ?_
    rw [hx.out]
    rintro e w2 ⟨rfl, rfl⟩
    rw [show ((60 : Int)).toNat.toUInt8 = 60 from rfl, hq.out]
    go_wp2_with fail
    refine hK.out _ _ (HS.out) (fun hHeld => ?_)
    clear hK K
    try simp only [Act.put, List.setIfInBounds_toArray, List.set_cons_zero, List.set_cons_succ]
    refine wpAnyH_take (i := 14) (oi := ⟨_, _, _, _, _, _⟩) (v := ?_) rfl (by kernel_rfl) (by kernel_rfl) (by kernel_rfl) (fun _ _ _ h => h) (Or.inl ⟨by rfl, ?_⟩) (by assumption) ?_
    rotate_left
    · (intro wS hSw; (try dsimp only at hSw); go_simp); all_goals with_reducible rfl
    try simp only [Act.put, List.setIfInBounds_toArray, List.set_cons_zero, List.set_cons_succ]
    refine wpAnyH_take (i := 15) (oi := ⟨_, _, _, _, _, _⟩) (v := ?_) rfl (by kernel_rfl) (by kernel_rfl) (by kernel_rfl) (fun _ _ _ h => h) (Or.inl ⟨by rfl, ?_⟩) (by assumption) ?_
    rotate_left
    · (intro wS hSw; (try dsimp only at hSw); go_simp); all_goals with_reducible rfl
    try simp only [Act.put, List.setIfInBounds_toArray, List.set_cons_zero, List.set_cons_succ]
    refine wpAnyH_done (by kernel_rfl) ?_ _
    clear hHeld
    obtain ⟨g0, g1⟩ := HG.out
    obtain ⟨y0, y1⟩ := HY.out
    have f1 : w.drew.frozen? ⟨b, 1, none⟩ = false := HR.out.froz 1
    have f2 : (w.setCell ⟨b, 1, none⟩ (.int .i64 s.size)).frozen? ⟨b, 1, none⟩ = false := HR1.out.froz 1
    obtain ⟨h0, h1⟩ := HS.out
    go_wp2_with fail
    refine (undone_at b { Rdr.new s pos place with pos := pos + k } (w.setCell ⟨b, 1, none⟩ (.int .i64 s.size)).drew HR2.out.drew pos (pos + k) (Nat.le_add_right _ _) hkl hs false (u, n, e) hU (s.size : Int) hJ).mono ?_
    rintro e2 W2 ⟨rfl, hW2, hg2⟩
    clear h0 h1 y0 y1 f1 f2 g0 g1
    have hgW : w.grownBy W2 (some b) := grown_twice (grown_drew (Lib.grownBy_setCell w b 1 _)) hg2
    by_cases he : e = 0
    · subst he
      have hW2' : RdAt W2 b { Rdr.new s pos place with pos := pos + k } := hW2
      clear hW2
      by_cases hlong : 1500 < u.length
      · have hlong' : (1500 : Int) < u.length := by omega
        have HV : Hid (V = .bad 0 34) := by show _ = _; rw [← hV.out, textT_of ht.out hu.out, if_neg (by simp), if_pos hlong]
        clear hlong
        go_wp2_with fail
        refine (fail_any b _ W2 hW2' pos 34).mono ?_
        rintro e3 W3 ⟨rfl, hW3, hg3⟩
        go_wp2_with fail
        go_ret
        rw [HV.out]
        exact ⟨below_of_grown (grown_twice hgW hg3) hB hBw, rfl, _, hW3, rfl, rfl⟩
      · have hlong' : (u.length : Int) ≤ 1500 := by omega
        have HV : Hid (V = .ok ⟨4, [], u, []⟩ k) := by show _ = _; rw [← hV.out, textT_of ht.out hu.out, if_neg (by simp), if_neg hlong, hk.out]
        clear hlong
        have HW2 := Lib.hid hW2'
        obtain ⟨_, _, z2, _, _, z5, _⟩ := hW2'.all
        have zf2 := hW2'.froz 2
        have zf5 := hW2'.froz 5
        clear hW2'
        go_wp2_with fail
        go_ret
        rw [HV.out]
        exact ⟨below_of_grown (Lib.grownBy_setB (Lib.grownBy_setB hgW 2 _) 5 _) hB hBw, rfl, none, 0, (HW2.out.kind 4).text u, World.ownsRow_nil _ _ _ _⟩
    · have HV : Hid (V = .bad n e) := by show _ = _; rw [← hV.out, textT_of ht.out hu.out, if_pos he]
      have hd : decide (e = 0) = false := decide_eq_false he
      have HE := Lib.hid he
      clear he
      go_wp2_with fail
      go_ret
      rw [HV.out]
      refine ⟨below_of_grown hgW hB hBw, rfl, ?_⟩
      have hW2' : RdAt W2 b (if e = 0 then { Rdr.new s pos place with pos := pos + k } else { { Rdr.new s pos place with pos := pos + k } with bad := (pos : Int) + n, code := e }) := hW2
      rw [if_neg HE.out] at hW2'
      exact ⟨_, hW2', rfl, rfl⟩
  · have hq : Hid (Lib.indexByte (s.data.toList.drop pos) 60 = (k : Nat)) := by
      show _ = _
      rw [← hk.out, ← ht.out]
      exact idx_yes 60 _ (by rw [ht.out, hk.out, List.length_drop, HL.out]; exact hlast)
    have HR2 : Hid (RdAt ((w.setCell ⟨b, 1, none⟩ (.int .i64 s.size)).setCell ⟨b, 1, none⟩ (.int .i64 ((pos : Int) + k))) b { Rdr.new s pos place with pos := pos + k }) := HR1.out.pos (pos + k)
    have HG : Hid (((w.setCell ⟨b, 1, none⟩ (.int .i64 s.size)).setCell ⟨b, 1, none⟩ (.int .i64 ((pos : Int) + k))).cell? ⟨b, 0, none⟩ = some (.string s) ∧ ((w.setCell ⟨b, 1, none⟩ (.int .i64 s.size)).setCell ⟨b, 1, none⟩ (.int .i64 ((pos : Int) + k))).cell? ⟨b, 1, none⟩ = some (.int .i64 ((pos : Int) + k))) := ⟨HR2.out.all.1, HR2.out.all.2.1⟩
    have hJ : Hid (((pos : Int) + k) = ((pos + k : Nat) : Int)) := by show _ = _; omega
    clear h hlast
    go_enter Try.func40, Try.ntmps40
    go_wp2_with fail
    refine wp_region_held_drew (S := fun w' => w'.cell? ⟨b, 0, none⟩ = some (.string s) ∧ w'.cell? ⟨b, 1, none⟩ = some (.int .i64 pos)) (by kernel_rfl) HS.out (fun hHeld => ?_)
    refine wpAnyH_take (i := 0) (oi := ⟨_, _, _, _, _, _⟩) (v := ?_) rfl (by kernel_rfl) (by kernel_rfl) (by kernel_rfl) (fun _ _ _ h => h) (Or.inl ⟨by rfl, ?_⟩) (by assumption) ?_
    rotate_left
    · (intro wS hSw; (try dsimp only at hSw); go_simp); all_goals with_reducible rfl
    try simp only [Act.put, List.setIfInBounds_toArray, List.set_cons_zero, List.set_cons_succ]
    refine wpAnyH_take (i := 1) (oi := ⟨_, _, _, _, _, _⟩) (v := ?_) rfl (by kernel_rfl) (by kernel_rfl) (by kernel_rfl) (fun _ _ _ h => h) (Or.inl ⟨by rfl, ?_⟩) (by assumption) ?_
    rotate_left
    · (intro wS hSw; (try dsimp only at hSw); go_simp); all_goals with_reducible rfl
    try simp only [Act.put, List.setIfInBounds_toArray, List.set_cons_zero, List.set_cons_succ]
    refine wpAnyH_take (i := 2) (oi := ⟨_, _, _, _, _, _⟩) (v := ?_) rfl (by kernel_rfl) (by kernel_rfl) (by kernel_rfl) (fun _ _ _ h => h) (Or.inl ⟨by rfl, ?_⟩) (by assumption) ?_
    rotate_left
    · (intro wS hSw; (try dsimp only at hSw); go_simp); all_goals with_reducible rfl
    try simp only [Act.put, List.setIfInBounds_toArray, List.set_cons_zero, List.set_cons_succ]
    refine wpAnyH_take (i := 3) (oi := ⟨_, _, _, _, _, _⟩) (v := ?_) rfl (by kernel_rfl) (by kernel_rfl) (by kernel_rfl) (fun _ _ _ h => h) (Or.inl ⟨by rfl, ?_⟩) (by assumption) ?_
    rotate_left
    · (intro wS hSw; (try dsimp only at hSw); go_simp); all_goals with_reducible rfl
    try simp only [Act.put, List.setIfInBounds_toArray, List.set_cons_zero, List.set_cons_succ]
    refine wpAnyH_take (i := 4) (oi := ⟨_, _, _, _, _, _⟩) (v := ?_) rfl (by kernel_rfl) (by kernel_rfl) (by kernel_rfl) (fun _ _ _ h => h) (Or.inl ⟨by rfl, ?_⟩) (by assumption) ?_
    rotate_left
    · (intro wS hSw; (try dsimp only at hSw); go_simp); all_goals with_reducible rfl
    try simp only [Act.put, List.setIfInBounds_toArray, List.set_cons_zero, List.set_cons_succ]
    refine wpAnyH_take (i := 5) (oi := ⟨_, _, _, _, _, _⟩) (v := ?_) rfl (by kernel_rfl) (by kernel_rfl) (by kernel_rfl) (fun _ _ _ h => h) (Or.inl ⟨by rfl, ?_⟩) (by assumption) ?_
    rotate_left
    · (intro wS hSw; (try dsimp only at hSw); go_simp); all_goals with_reducible rfl
    try simp only [Act.put, List.setIfInBounds_toArray, List.set_cons_zero, List.set_cons_succ]
    refine wpAnyH_take (i := 6) (oi := ⟨_, _, _, _, _, _⟩) (v := ?_) rfl (by kernel_rfl) (by kernel_rfl) (by kernel_rfl) (fun _ _ _ h => h) (Or.inl ⟨by rfl, ?_⟩) (by assumption) ?_
    rotate_left
    · (intro wS hSw; (try dsimp only at hSw); go_simp); all_goals with_reducible rfl
    try simp only [Act.put, List.setIfInBounds_toArray, List.set_cons_zero, List.set_cons_succ]
    refine wpAnyH_take (i := 7) (oi := ⟨_, _, _, _, _, _⟩) (v := ?_) rfl (by kernel_rfl) (by kernel_rfl) (by kernel_rfl) (fun _ _ _ h => h) (Or.inl ⟨by rfl, ?_⟩) (by assumption) ?_
    rotate_left
    · (intro wS hSw; (try dsimp only at hSw); go_simp); all_goals with_reducible rfl
    try simp only [Act.put, List.setIfInBounds_toArray, List.set_cons_zero, List.set_cons_succ]
    refine wpAnyH_take (i := 8) (oi := ⟨_, _, _, _, _, _⟩) (v := ?_) rfl (by kernel_rfl) (by kernel_rfl) (by kernel_rfl) (fun _ _ _ h => h) (Or.inl ⟨by rfl, ?_⟩) (by assumption) ?_
    rotate_left
    · (intro wS hSw; (try dsimp only at hSw); go_simp); all_goals with_reducible rfl
    try simp only [Act.put, List.setIfInBounds_toArray, List.set_cons_zero, List.set_cons_succ]
    refine wpAnyH_take (i := 9) (oi := ⟨_, _, _, _, _, _⟩) (v := ?_) rfl (by kernel_rfl) (by kernel_rfl) (by kernel_rfl) (fun _ _ _ h => h) (Or.inl ⟨by rfl, ?_⟩) (by assumption) ?_
    rotate_left
    · (intro wS hSw; (try dsimp only at hSw); go_simp); all_goals with_reducible rfl
    try simp only [Act.put, List.setIfInBounds_toArray, List.set_cons_zero, List.set_cons_succ]
    refine wpAnyH_take (i := 10) (oi := ⟨_, _, _, _, _, _⟩) (v := ?_) rfl (by kernel_rfl) (by kernel_rfl) (by kernel_rfl) (fun _ _ _ h => h) (Or.inl ⟨by rfl, ?_⟩) (by assumption) ?_
    rotate_left
    · (intro wS hSw; (try dsimp only at hSw); go_simp); all_goals with_reducible rfl
    try simp only [Act.put, List.setIfInBounds_toArray, List.set_cons_zero, List.set_cons_succ]
    refine wpAnyH_take (i := 11) (oi := ⟨_, _, _, _, _, _⟩) (v := ?_) rfl (by kernel_rfl) (by kernel_rfl) (by kernel_rfl) (fun _ _ _ h => h) (Or.inl ⟨by rfl, ?_⟩) (by assumption) ?_
    rotate_left
    · (intro wS hSw; (try dsimp only at hSw); go_simp); all_goals with_reducible rfl
    try simp only [Act.put, List.setIfInBounds_toArray, List.set_cons_zero, List.set_cons_succ]
    refine wpAnyH_take (i := 12) (oi := ⟨_, _, _, _, _, _⟩) (v := ?_) rfl (by kernel_rfl) (by kernel_rfl) (by kernel_rfl) (fun _ _ _ h => h) (Or.inl ⟨by rfl, ?_⟩) (by assumption) ?_
    rotate_left
    · (intro wS hSw; (try dsimp only at hSw); go_simp); all_goals with_reducible rfl
    try simp only [Act.put, List.setIfInBounds_toArray, List.set_cons_zero, List.set_cons_succ]
    refine wpAnyH_ready (rs := [13]) (by kernel_rfl) (by simp) ?_
    refine AllReadyH.cons (o := ⟨_, _, _, _, _, _⟩) rfl (fun K hK => ?_) AllReadyH.nil
    go_simp
    refine (Try.strings_IndexByte _ _ _).mono ?_
    rw [hx.out]
    rintro e w2 ⟨rfl, rfl⟩
    rw [show ((60 : Int)).toNat.toUInt8 = 60 from rfl, hq.out]
    go_wp2_with fail
    refine hK.out _ _ (HS.out) (fun hHeld => ?_)
    clear hK K
    try simp only [Act.put, List.setIfInBounds_toArray, List.set_cons_zero, List.set_cons_succ]
    refine wpAnyH_take (i := 14) (oi := ⟨_, _, _, _, _, _⟩) (v := ?_) rfl (by kernel_rfl) (by kernel_rfl) (by kernel_rfl) (fun _ _ _ h => h) (Or.inl ⟨by rfl, ?_⟩) (by assumption) ?_
    rotate_left
    · (intro wS hSw; (try dsimp only at hSw); go_simp); all_goals with_reducible rfl
    try simp only [Act.put, List.setIfInBounds_toArray, List.set_cons_zero, List.set_cons_succ]
    refine wpAnyH_take (i := 15) (oi := ⟨_, _, _, _, _, _⟩) (v := ?_) rfl (by kernel_rfl) (by kernel_rfl) (by kernel_rfl) (fun _ _ _ h => h) (Or.inl ⟨by rfl, ?_⟩) (by assumption) ?_
    rotate_left
    · (intro wS hSw; (try dsimp only at hSw); go_simp); all_goals with_reducible rfl
    try simp only [Act.put, List.setIfInBounds_toArray, List.set_cons_zero, List.set_cons_succ]
    refine wpAnyH_done (by kernel_rfl) ?_ _
    clear hHeld
    obtain ⟨g0, g1⟩ := HG.out
    obtain ⟨y0, y1⟩ := HY.out
    have f1 : w.drew.frozen? ⟨b, 1, none⟩ = false := HR.out.froz 1
    have f2 : (w.setCell ⟨b, 1, none⟩ (.int .i64 s.size)).frozen? ⟨b, 1, none⟩ = false := HR1.out.froz 1
    obtain ⟨h0, h1⟩ := HS.out
    go_wp2_with fail
    refine (undone_at b { Rdr.new s pos place with pos := pos + k } ((w.setCell ⟨b, 1, none⟩ (.int .i64 s.size)).setCell ⟨b, 1, none⟩ (.int .i64 ((pos : Int) + k))).drew HR2.out.drew pos (pos + k) (Nat.le_add_right _ _) hkl hs false (u, n, e) hU ((pos : Int) + k) hJ).mono ?_
    rintro e2 W2 ⟨rfl, hW2, hg2⟩
    clear h0 h1 y0 y1 f1 f2 g0 g1
    have hgW : w.grownBy W2 (some b) := grown_twice (grown_drew (Lib.grownBy_setB (Lib.grownBy_setCell w b 1 _) 1 _)) hg2
    by_cases he : e = 0
    · subst he
      have hW2' : RdAt W2 b { Rdr.new s pos place with pos := pos + k } := hW2
      clear hW2
      by_cases hlong : 1500 < u.length
      · have hlong' : (1500 : Int) < u.length := by omega
        have HV : Hid (V = .bad 0 34) := by show _ = _; rw [← hV.out, textT_of ht.out hu.out, if_neg (by simp), if_pos hlong]
        clear hlong
        go_wp2_with fail
        refine (fail_any b _ W2 hW2' pos 34).mono ?_
        rintro e3 W3 ⟨rfl, hW3, hg3⟩
        go_wp2_with fail
        go_ret
        rw [HV.out]
        exact ⟨below_of_grown (grown_twice hgW hg3) hB hBw, rfl, _, hW3, rfl, rfl⟩
      · have hlong' : (u.length : Int) ≤ 1500 := by omega
        have HV : Hid (V = .ok ⟨4, [], u, []⟩ k) := by show _ = _; rw [← hV.out, textT_of ht.out hu.out, if_neg (by simp), if_neg hlong, hk.out]
        clear hlong
        have HW2 := Lib.hid hW2'
        obtain ⟨_, _, z2, _, _, z5, _⟩ := hW2'.all
        have zf2 := hW2'.froz 2
        have zf5 := hW2'.froz 5
        clear hW2'
        go_wp2_with fail
        go_ret
        rw [HV.out]
        exact ⟨below_of_grown (Lib.grownBy_setB (Lib.grownBy_setB hgW 2 _) 5 _) hB hBw, rfl, none, 0, (HW2.out.kind 4).text u, World.ownsRow_nil _ _ _ _⟩
    · have HV : Hid (V = .bad n e) := by show _ = _; rw [← hV.out, textT_of ht.out hu.out, if_pos he]
      have hd : decide (e = 0) = false := decide_eq_false he
      have HE := Lib.hid he
      clear he
      go_wp2_with fail
      go_ret
      rw [HV.out]
      refine ⟨below_of_grown hgW hB hBw, rfl, ?_⟩
      have hW2' : RdAt W2 b (if e = 0 then { Rdr.new s pos place with pos := pos + k } else { { Rdr.new s pos place with pos := pos + k } with bad := (pos : Int) + n, code := e }) := hW2
      rw [if_neg HE.out] at hW2'
      exact ⟨_, hW2', rfl, rfl⟩

set_option maxRecDepth 100000 in
set_option maxHeartbeats 1000000 in
theorem end_any (b B : Nat) (s : ByteArray) (pos place : Nat) (w : World) (h : RdAt w b (Rdr.new s pos place)) (hB : B ≤ b) (hBw : B ≤ w.heap.size) (hp : pos ≤ s.size) (hs : s.size ≤ 1000000000) (V : Told TokD) (hV : Hid (endT (s.data.toList.drop pos) = V)) :
    Calls Try.prog 42 #[.pointer (some ⟨b, 0, none⟩)] w (TokPost w B b s pos place V) := by
  have HL := Lib.hid (size_toList s)
  obtain ⟨n, hn⟩ : ∃ n, Hid (wordL (s.data.toList.drop pos) = n) := ⟨_, rfl⟩
  obtain ⟨v, hv⟩ : ∃ v, Hid (nameL n = v) := ⟨_, rfl⟩
  have hn1 : pos + n.length ≤ s.size := by
    have := wordL_len (s.data.toList.drop pos)
    rw [hn.out, List.length_drop, HL.out] at this; omega
  cases v with
  | false =>
    have HV : Hid (V = .bad 0 31) := by
      show _ = _
      rw [← hV.out]
      unfold endT
      simp only [hn.out, hv.out]
      rw [if_pos trivial]
    go_enter Try.func42, Try.ntmps42
    go_wp2_with fail
    refine (word_any b (Rdr.new s pos place) w h hp hs n hn false hv _ rfl [] rfl).mono ?_
    rintro e W1 ⟨rfl, hW1, hg1⟩
    go_wp2_with fail
    go_ret
    rw [HV.out]
    exact ⟨below_of_grown hg1 hB hBw, rfl, _, hW1, rfl, rfl⟩
  | true =>
    obtain ⟨k, hk⟩ : ∃ k, Hid (skipL (s.data.toList.drop (pos + n.length)) = k) := ⟨_, rfl⟩
    have hk1 : pos + n.length + k ≤ s.size := by
      have := skipL_len (s.data.toList.drop (pos + n.length))
      rw [hk.out, List.length_drop, HL.out] at this; omega
    obtain ⟨m, hm⟩ : ∃ m, Hid (pre [62] (s.data.toList.drop (pos + n.length + k)) = m) := ⟨_, rfl⟩
    have hVE : Hid (V = if m then .ok ⟨2, n, [], []⟩ (n.length + k + 1) else .bad (n.length + k) 30) := by
      show _ = _
      rw [← hV.out]
      unfold endT
      simp only [hn.out, hv.out, List.drop_drop, hk.out]
      rw [if_neg (by simp), show pos + (n.length + k) = pos + n.length + k by omega, hm.out]
    go_enter Try.func42, Try.ntmps42
    go_wp2_with fail
    refine (word_any b (Rdr.new s pos place) w h hp hs n hn true hv _ rfl n rfl).mono ?_
    rintro e W1 ⟨rfl, hW1, hg1⟩
    have hW1' : RdAt W1 b { Rdr.new s pos place with pos := pos + n.length } := hW1
    go_wp2_with fail
    refine (blanks_any b _ W1 hW1' hn1 hs k hk).mono ?_
    rintro e W2 ⟨rfl, hW2, hg2⟩
    have hW2' : RdAt W2 b { Rdr.new s pos place with pos := pos + n.length + k } := hW2
    obtain ⟨_, _, z2, _, z4, _⟩ := hW2'.all
    have zf2 := hW2'.froz 2
    have zf4 := hW2'.froz 4
    have hW3 : Hid (RdAt ((W2.setCell ⟨b, 2, none⟩ (.int .i64 2)).setCell ⟨b, 4, none⟩ (.string ⟨n.toArray⟩)) b { Rdr.new s pos place with pos := pos + n.length + k, kind := 2, name := n }) := (hW2'.kind 2).name n
    have hg3 : w.grownBy ((W2.setCell ⟨b, 2, none⟩ (.int .i64 2)).setCell ⟨b, 4, none⟩ (.string ⟨n.toArray⟩)) (some b) := Lib.grownBy_setB (Lib.grownBy_setB (grown_twice hg1 hg2) 2 _) 4 _
    clear hW2 hW2' hW1 hW1' h
    go_wp2_with fail
    refine (must_any b _ _ hW3.out [62] hk1 hs m hm (by decide)).mono ?_
    rintro e W4 ⟨rfl, hW4, hg4⟩
    go_wp2_with fail
    go_ret
    cases m with
    | true =>
      rw [hVE.out, if_pos rfl]
      refine ⟨below_of_grown (grown_twice hg3 hg4) hB hBw, rfl, none, 0, ?_, World.ownsRow_nil _ _ _ _⟩
      have hW4' : RdAt W4 b { Rdr.new s pos place with pos := pos + n.length + k + 1, kind := 2, name := n } := hW4
      rw [show pos + (n.length + k + 1) = pos + n.length + k + 1 by omega]
      exact hW4'
    | false =>
      rw [hVE.out, if_neg (by decide)]
      refine ⟨below_of_grown (grown_twice hg3 hg4) hB hBw, rfl, _, hW4, ?_, rfl⟩
      show ((pos + n.length + k : Nat) : Int) = _
      rw [show pos + (n.length + k) = pos + n.length + k by omega]
end Go.Proofs.Ythifddkmbjnncaa
