/-
  Texts of this claim, joined (by a program of the claim's author): Rd3, SameA, Has, Attr.
-/
import Derived.Test.YthifddkmbjnncaaJ1
import Derived.Test.YthifddkmbjnncaaJ7
import Derived.Test.YthifddkmbjnncaaJ2
import Derived.Deep.RegionHeld3
import Derived.Laws.StructEq
import Derived.Shelf.SlicesQ.IndexFunc
import Derived.Test.YthifddkmbjnncaaJ4
/-
  The reader of tokens: the walks of text and end.
-/
namespace Go.Proofs.Ythifddkmbjnncaa
open Go.RowKit

/-- a reader that has read nothing of a token -/
def Rdr.new (s : ByteArray) (pos place : Nat) : Rdr := ⟨s, pos, 0, place, [], [], none, 0, 0, 0, 0⟩
/-- what a method that reads a token leaves, the places counted from where the reader stood -/
def TokPost (w : World) (B b : Nat) (s : ByteArray) (pos place : Nat) (V : Told TokD) (e : Ending) (w' : World) : Prop :=
  Below B w w' ∧ match V with
  | .ok t n => e = .returned (.bool true) ∧ ∃ A c, RdAt w' b ⟨s, pos + n, t.kind, place, t.name, t.text, A, t.attrs.length, c, 0, 0⟩ ∧ AttrsOwn w' B A c t.attrs
  | .bad k c => e = .returned (.bool false) ∧ ∃ R : Rdr, RdAt w' b R ∧ R.bad = ((pos + k : Nat) : Int) ∧ R.code = c

theorem below_of_grown {w w' : World} {B b : Nat} (hg : w.grownBy w' (some b)) (hb : B ≤ b) (hw : B ≤ w.heap.size) : Below B w w' :=
  (Below.refl B w).grown hg hw (fun k hk => by injection hk with hk; omega)

theorem idx_not (c : UInt8) : ∀ l : List UInt8, (l.takeWhile (· != c)).length = l.length → Lib.indexByte l c = -1
  | [], _ => rfl
  | a :: l, h => by
    rw [List.takeWhile_cons] at h
    by_cases ha : a = c
    · subst ha; simp at h
    · have hb : (a != c) = true := by simpa using ha
      rw [if_pos hb] at h
      simp only [List.length_cons] at h
      rw [Lib.indexByte, idx_not c l (by omega)]
      simp [ha]
theorem idx_yes (c : UInt8) : ∀ l : List UInt8, (l.takeWhile (· != c)).length ≠ l.length → Lib.indexByte l c = ((l.takeWhile (· != c)).length : Nat)
  | [], h => absurd rfl h
  | a :: l, h => by
    rw [List.takeWhile_cons] at h ⊢
    by_cases ha : a = c
    · subst ha; simp [Lib.indexByte]
    · have hb : (a != c) = true := by simpa using ha
      rw [if_pos hb] at h ⊢
      simp only [List.length_cons] at h ⊢
      rw [Lib.indexByte, idx_yes c l (by omega)]
      have : ((((l.takeWhile (· != c)).length : Nat) : Int) == -1) = false := by simp
      simp [ha, this]

theorem textT_of {l t u : List UInt8} {n : Nat} {e : Int} (ht : l.takeWhile (· != 60) = t) (hu : undoL false t = (u, n, e)) :
    textT l = if e ≠ 0 then .bad n e else if 1500 < u.length then .bad 0 34 else .ok ⟨4, [], u, []⟩ t.length := by
  unfold textT
  simp only [ht, hu]

theorem undone_at (b : Nat) (r : Rdr) (w : World) (h : RdAt w b r) (i j : Nat) (hij : i ≤ j) (hj : j ≤ r.s.size) (hs : r.s.size ≤ 1000000000) (v : Bool) (V : List UInt8 × Nat × Int) (hV : Hid (undoL v ((r.s.data.toList.drop i).take (j - i)) = V)) (jI : Int) (hjI : Hid (jI = j)) :
    Calls Try.prog 67 #[.pointer (some ⟨b, 0, none⟩), .int .i64 i, .int .i64 jI, .bool v] w (RdPost w b (if V.2.2 = 0 then r else { r with bad := (i : Int) + V.2.1, code := V.2.2 }) (.tuple #[.string ⟨(if V.2.2 = 0 then V.1 else []).toArray⟩, .bool (decide (V.2.2 = 0))])) := by
  have e := hjI.out
  subst e
  exact undone_any b r w h i j hij hj hs v V hV




set_option maxRecDepth 100000 in
set_option maxHeartbeats 1000000 in
theorem text_any (b B : Nat) (s : ByteArray) (pos place : Nat) (w : World) (h : RdAt w b (Rdr.new s pos place)) (hB : B ≤ b) (hBw : B ≤ w.heap.size) (hp : pos ≤ s.size) (hs : s.size ≤ 1000000000) (V : Told TokD) (hV : Hid (textT (s.data.toList.drop pos) = V)) :
    Calls Try.prog 40 #[.pointer (some ⟨b, 0, none⟩)] w (TokPost w B b s pos place V) := by
  have HR : Hid (RdAt w.drew b (Rdr.new s pos place)) := h.drew
  have HL := Lib.hid (size_toList s)
  have hx : Hid ((s.extract pos s.size).data.toList = s.data.toList.drop pos) := Lib.extract_to_end _ _
  have HS : Hid (w.drew.cell? ⟨b, 0, none⟩ = some (.string s) ∧ w.drew.cell? ⟨b, 1, none⟩ = some (.int .i64 pos)) := ⟨h.all.1, h.all.2.1⟩
  have HR1 : Hid (RdAt (w.setCell ⟨b, 1, none⟩ (.int .i64 s.size)) b { Rdr.new s pos place with pos := s.size }) := h.pos s.size
  have i0 : (0 : Int) ≤ (pos : Int) := by omega
  have i1 : (pos : Int) ≤ s.size := by omega
  obtain ⟨t, ht⟩ : ∃ t, Hid ((s.data.toList.drop pos).takeWhile (· != 60) = t) := ⟨_, rfl⟩
  obtain ⟨k, hk⟩ : ∃ k, Hid (t.length = k) := ⟨_, rfl⟩
  have hkl : pos + k ≤ s.size := by
    have := takeWhile_len (· != 60) (s.data.toList.drop pos)
    rw [ht.out, hk.out, List.length_drop, HL.out] at this; omega
  have htk : Hid ((s.data.toList.drop pos).take (pos + k - pos) = t) := by
    show _ = _
    have h2 := span_word (s.data.toList.drop pos) (· != 60)
    rw [ht.out] at h2
    rw [show pos + k - pos = t.length by have := hk.out; omega]
    conv => lhs; rw [h2]
    rw [List.take_append_of_le_length (Nat.le_refl _), List.take_length]
  obtain ⟨u, n, e, hu⟩ : ∃ u n e, Hid (undoL false t = (u, n, e)) := ⟨_, _, _, rfl⟩
  have hU : Hid (undoL false ((s.data.toList.drop pos).take (pos + k - pos)) = (u, n, e)) := by show _ = _; rw [htk.out]; exact hu.out
  have HY : Hid ((w.setCell ⟨b, 1, none⟩ (.int .i64 s.size)).cell? ⟨b, 0, none⟩ = some (.string s) ∧ (w.setCell ⟨b, 1, none⟩ (.int .i64 s.size)).cell? ⟨b, 1, none⟩ = some (.int .i64 s.size)) := ⟨HR1.out.all.1, HR1.out.all.2.1⟩
  by_cases hlast : k = s.size - pos
  · have hq : Hid (Lib.indexByte (s.data.toList.drop pos) 60 = -1) := idx_not 60 _ (by rw [ht.out, hk.out, List.length_drop, HL.out]; exact hlast)
    have HG : Hid (True ∧ True) := ⟨trivial, trivial⟩
    have HR2 : Hid (RdAt (w.setCell ⟨b, 1, none⟩ (.int .i64 s.size)) b { Rdr.new s pos place with pos := pos + k }) := by
      rw [show pos + k = s.size by omega]; exact HR1.out
    have hJ : Hid ((s.size : Int) = ((pos + k : Nat) : Int)) := by show _ = _; omega
    clear h hlast
    go_enter Try.func40, Try.ntmps40
    go_wp2_with fail
    refine wp_region_held_drew (S := fun w' => w'.cell? ⟨b, 0, none⟩ = some (.string s) ∧ w'.cell? ⟨b, 1, none⟩ = some (.int .i64 pos)) (by kernel_rfl) HS.out (fun hHeld => ?_)
    refine tk (oi := ⟨_, _, _, _, _, _⟩) (v := ?_) 0 rfl (by kernel_rfl) (fun _ _ _ h => h) (.inl ⟨by rfl, ?_⟩) (by assumption) ?_; rotate_left
    · (intro wS hSw; (try dsimp only at hSw); go_simp); all_goals with_reducible rfl
    try go_frame
    refine tk (oi := ⟨_, _, _, _, _, _⟩) (v := ?_) 1 rfl (by kernel_rfl) (fun _ _ _ h => h) (.inl ⟨by rfl, ?_⟩) (by assumption) ?_; rotate_left
    · (intro wS hSw; (try dsimp only at hSw); go_simp); all_goals with_reducible rfl
    try go_frame
    refine tk (oi := ⟨_, _, _, _, _, _⟩) (v := ?_) 2 rfl (by kernel_rfl) (fun _ _ _ h => h) (.inl ⟨by rfl, ?_⟩) (by assumption) ?_; rotate_left
    · (intro wS hSw; (try dsimp only at hSw); go_simp); all_goals with_reducible rfl
    try go_frame
    refine tk (oi := ⟨_, _, _, _, _, _⟩) (v := ?_) 3 rfl (by kernel_rfl) (fun _ _ _ h => h) (.inl ⟨by rfl, ?_⟩) (by assumption) ?_; rotate_left
    · (intro wS hSw; (try dsimp only at hSw); go_simp); all_goals with_reducible rfl
    try go_frame
    refine tk (oi := ⟨_, _, _, _, _, _⟩) (v := ?_) 4 rfl (by kernel_rfl) (fun _ _ _ h => h) (.inl ⟨by rfl, ?_⟩) (by assumption) ?_; rotate_left
    · (intro wS hSw; (try dsimp only at hSw); go_simp); all_goals with_reducible rfl
    try go_frame
    refine tk (oi := ⟨_, _, _, _, _, _⟩) (v := ?_) 5 rfl (by kernel_rfl) (fun _ _ _ h => h) (.inl ⟨by rfl, ?_⟩) (by assumption) ?_; rotate_left
    · (intro wS hSw; (try dsimp only at hSw); go_simp); all_goals with_reducible rfl
    try go_frame
    refine tk (oi := ⟨_, _, _, _, _, _⟩) (v := ?_) 6 rfl (by kernel_rfl) (fun _ _ _ h => h) (.inl ⟨by rfl, ?_⟩) (by assumption) ?_; rotate_left
    · (intro wS hSw; (try dsimp only at hSw); go_simp); all_goals with_reducible rfl
    try go_frame
    refine tk (oi := ⟨_, _, _, _, _, _⟩) (v := ?_) 7 rfl (by kernel_rfl) (fun _ _ _ h => h) (.inl ⟨by rfl, ?_⟩) (by assumption) ?_; rotate_left
    · (intro wS hSw; (try dsimp only at hSw); go_simp); all_goals with_reducible rfl
    try go_frame
    refine tk (oi := ⟨_, _, _, _, _, _⟩) (v := ?_) 8 rfl (by kernel_rfl) (fun _ _ _ h => h) (.inl ⟨by rfl, ?_⟩) (by assumption) ?_; rotate_left
    · (intro wS hSw; (try dsimp only at hSw); go_simp); all_goals with_reducible rfl
    try go_frame
    refine tk (oi := ⟨_, _, _, _, _, _⟩) (v := ?_) 9 rfl (by kernel_rfl) (fun _ _ _ h => h) (.inl ⟨by rfl, ?_⟩) (by assumption) ?_; rotate_left
    · (intro wS hSw; (try dsimp only at hSw); go_simp); all_goals with_reducible rfl
    try go_frame
    refine tk (oi := ⟨_, _, _, _, _, _⟩) (v := ?_) 10 rfl (by kernel_rfl) (fun _ _ _ h => h) (.inl ⟨by rfl, ?_⟩) (by assumption) ?_; rotate_left
    · (intro wS hSw; (try dsimp only at hSw); go_simp); all_goals with_reducible rfl
    try go_frame
    refine tk (oi := ⟨_, _, _, _, _, _⟩) (v := ?_) 11 rfl (by kernel_rfl) (fun _ _ _ h => h) (.inl ⟨by rfl, ?_⟩) (by assumption) ?_; rotate_left
    · (intro wS hSw; (try dsimp only at hSw); go_simp); all_goals with_reducible rfl
    try go_frame
    refine tk (oi := ⟨_, _, _, _, _, _⟩) (v := ?_) 12 rfl (by kernel_rfl) (fun _ _ _ h => h) (.inl ⟨by rfl, ?_⟩) (by assumption) ?_; rotate_left
    · (intro wS hSw; (try dsimp only at hSw); go_simp); all_goals with_reducible rfl
    try go_frame
    refine wpAnyH_ready (rs := [13]) (by kernel_rfl) (by simp) ?_
    refine AllReadyH.cons (o := ⟨_, _, _, _, _, _⟩) rfl (fun K hK => ?_) AllReadyH.nil
    go_simp
    refine (Try.strings_IndexByte _ _ _).mono ?_
    rw [hx.out]
    rintro e w2 ⟨rfl, rfl⟩
    rw [show ((60 : Int)).toNat.toUInt8 = 60 from rfl, hq.out]
    go_wp2_with fail
    refine hK.out _ _ (HS.out) (fun hHeld => ?_)
    clear hK K
    try go_frame
    refine tk (oi := ⟨_, _, _, _, _, _⟩) (v := ?_) 14 rfl (by kernel_rfl) (fun _ _ _ h => h) (.inl ⟨by rfl, ?_⟩) (by assumption) ?_; rotate_left
    · (intro wS hSw; (try dsimp only at hSw); go_simp); all_goals with_reducible rfl
    try go_frame
    refine tk (oi := ⟨_, _, _, _, _, _⟩) (v := ?_) 15 rfl (by kernel_rfl) (fun _ _ _ h => h) (.inl ⟨by rfl, ?_⟩) (by assumption) ?_; rotate_left
    · (intro wS hSw; (try dsimp only at hSw); go_simp); all_goals with_reducible rfl
    try go_frame
    refine wpAnyH_done (by kernel_rfl) ?_ _
    clear hHeld
    obtain ⟨g0, g1⟩ := HG.out
    obtain ⟨y0, y1⟩ := HY.out
    have f1 : w.drew.frozen? ⟨b, 1, none⟩ = false := HR.out.froz 1
    have f2 : (w.setCell ⟨b, 1, none⟩ (.int .i64 s.size)).frozen? ⟨b, 1, none⟩ = false := HR1.out.froz 1
    obtain ⟨h0, h1⟩ := HS.out
    go_wp2_with fail
    refine (undone_at b { Rdr.new s pos place with pos := pos + k } (w.setCell ⟨b, 1, none⟩ (.int .i64 s.size)).drew HR2.out.drew pos (pos + k) (Nat.le_add_right _ _) hkl hs false (u, n, e) hU (s.size : Int) hJ).mono ?_
    rintro e2 W2 ⟨rfl, hW2, hg2⟩
    clear h0 h1 y0 y1 f1 f2 g0 g1
    have hgW : w.grownBy W2 (some b) := grown_twice (grown_drew (Lib.grownBy_setCell w b 1 _)) hg2
    by_cases he : e = 0
    · subst he
      have hW2' : RdAt W2 b { Rdr.new s pos place with pos := pos + k } := hW2
      clear hW2
      by_cases hlong : 1500 < u.length
      · have hlong' : (1500 : Int) < u.length := by omega
        have HV : Hid (V = .bad 0 34) := by show _ = _; rw [← hV.out, textT_of ht.out hu.out, if_neg (by simp), if_pos hlong]
        clear hlong
        go_wp2_with fail
        refine (fail_any b _ W2 hW2' pos 34).mono ?_
        rintro e3 W3 ⟨rfl, hW3, hg3⟩
        go_wp2_with fail
        go_ret
        rw [HV.out]
        exact ⟨below_of_grown (grown_twice hgW hg3) hB hBw, rfl, _, hW3, rfl, rfl⟩
      · have hlong' : (u.length : Int) ≤ 1500 := by omega
        have HV : Hid (V = .ok ⟨4, [], u, []⟩ k) := by show _ = _; rw [← hV.out, textT_of ht.out hu.out, if_neg (by simp), if_neg hlong, hk.out]
        clear hlong
        have HW2 := Lib.hid hW2'
        obtain ⟨_, _, z2, _, _, z5, _⟩ := hW2'.all
        have zf2 := hW2'.froz 2
        have zf5 := hW2'.froz 5
        clear hW2'
        go_wp2_with fail
        go_ret
        rw [HV.out]
        exact ⟨below_of_grown (Lib.grownBy_setB (Lib.grownBy_setB hgW 2 _) 5 _) hB hBw, rfl, none, 0, (HW2.out.kind 4).text u, World.ownsRow_nil _ _ _ _⟩
    · have HV : Hid (V = .bad n e) := by show _ = _; rw [← hV.out, textT_of ht.out hu.out, if_pos he]
      have hd : decide (e = 0) = false := decide_eq_false he
      have HE := Lib.hid he
      clear he
      go_wp2_with fail
      go_ret
      rw [HV.out]
      refine ⟨below_of_grown hgW hB hBw, rfl, ?_⟩
      have hW2' : RdAt W2 b (if e = 0 then { Rdr.new s pos place with pos := pos + k } else { { Rdr.new s pos place with pos := pos + k } with bad := (pos : Int) + n, code := e }) := hW2
      rw [if_neg HE.out] at hW2'
      exact ⟨_, hW2', rfl, rfl⟩
  · have hq : Hid (Lib.indexByte (s.data.toList.drop pos) 60 = (k : Nat)) := by
      show _ = _
      rw [← hk.out, ← ht.out]
      exact idx_yes 60 _ (by rw [ht.out, hk.out, List.length_drop, HL.out]; exact hlast)
    have HR2 : Hid (RdAt ((w.setCell ⟨b, 1, none⟩ (.int .i64 s.size)).setCell ⟨b, 1, none⟩ (.int .i64 ((pos : Int) + k))) b { Rdr.new s pos place with pos := pos + k }) := HR1.out.pos (pos + k)
    have HG : Hid (((w.setCell ⟨b, 1, none⟩ (.int .i64 s.size)).setCell ⟨b, 1, none⟩ (.int .i64 ((pos : Int) + k))).cell? ⟨b, 0, none⟩ = some (.string s) ∧ ((w.setCell ⟨b, 1, none⟩ (.int .i64 s.size)).setCell ⟨b, 1, none⟩ (.int .i64 ((pos : Int) + k))).cell? ⟨b, 1, none⟩ = some (.int .i64 ((pos : Int) + k))) := ⟨HR2.out.all.1, HR2.out.all.2.1⟩
    have hJ : Hid (((pos : Int) + k) = ((pos + k : Nat) : Int)) := by show _ = _; omega
    clear h hlast
    go_enter Try.func40, Try.ntmps40
    go_wp2_with fail
    refine wp_region_held_drew (S := fun w' => w'.cell? ⟨b, 0, none⟩ = some (.string s) ∧ w'.cell? ⟨b, 1, none⟩ = some (.int .i64 pos)) (by kernel_rfl) HS.out (fun hHeld => ?_)
    refine tk (oi := ⟨_, _, _, _, _, _⟩) (v := ?_) 0 rfl (by kernel_rfl) (fun _ _ _ h => h) (.inl ⟨by rfl, ?_⟩) (by assumption) ?_; rotate_left
    · (intro wS hSw; (try dsimp only at hSw); go_simp); all_goals with_reducible rfl
    try go_frame
    refine tk (oi := ⟨_, _, _, _, _, _⟩) (v := ?_) 1 rfl (by kernel_rfl) (fun _ _ _ h => h) (.inl ⟨by rfl, ?_⟩) (by assumption) ?_; rotate_left
    · (intro wS hSw; (try dsimp only at hSw); go_simp); all_goals with_reducible rfl
    try go_frame
    refine tk (oi := ⟨_, _, _, _, _, _⟩) (v := ?_) 2 rfl (by kernel_rfl) (fun _ _ _ h => h) (.inl ⟨by rfl, ?_⟩) (by assumption) ?_; rotate_left
    · (intro wS hSw; (try dsimp only at hSw); go_simp); all_goals with_reducible rfl
    try go_frame
    refine tk (oi := ⟨_, _, _, _, _, _⟩) (v := ?_) 3 rfl (by kernel_rfl) (fun _ _ _ h => h) (.inl ⟨by rfl, ?_⟩) (by assumption) ?_; rotate_left
    · (intro wS hSw; (try dsimp only at hSw); go_simp); all_goals with_reducible rfl
    try go_frame
    refine tk (oi := ⟨_, _, _, _, _, _⟩) (v := ?_) 4 rfl (by kernel_rfl) (fun _ _ _ h => h) (.inl ⟨by rfl, ?_⟩) (by assumption) ?_; rotate_left
    · (intro wS hSw; (try dsimp only at hSw); go_simp); all_goals with_reducible rfl
    try go_frame
    refine tk (oi := ⟨_, _, _, _, _, _⟩) (v := ?_) 5 rfl (by kernel_rfl) (fun _ _ _ h => h) (.inl ⟨by rfl, ?_⟩) (by assumption) ?_; rotate_left
    · (intro wS hSw; (try dsimp only at hSw); go_simp); all_goals with_reducible rfl
    try go_frame
    refine tk (oi := ⟨_, _, _, _, _, _⟩) (v := ?_) 6 rfl (by kernel_rfl) (fun _ _ _ h => h) (.inl ⟨by rfl, ?_⟩) (by assumption) ?_; rotate_left
    · (intro wS hSw; (try dsimp only at hSw); go_simp); all_goals with_reducible rfl
    try go_frame
    refine tk (oi := ⟨_, _, _, _, _, _⟩) (v := ?_) 7 rfl (by kernel_rfl) (fun _ _ _ h => h) (.inl ⟨by rfl, ?_⟩) (by assumption) ?_; rotate_left
    · (intro wS hSw; (try dsimp only at hSw); go_simp); all_goals with_reducible rfl
    try go_frame
    refine tk (oi := ⟨_, _, _, _, _, _⟩) (v := ?_) 8 rfl (by kernel_rfl) (fun _ _ _ h => h) (.inl ⟨by rfl, ?_⟩) (by assumption) ?_; rotate_left
    · (intro wS hSw; (try dsimp only at hSw); go_simp); all_goals with_reducible rfl
    try go_frame
    refine tk (oi := ⟨_, _, _, _, _, _⟩) (v := ?_) 9 rfl (by kernel_rfl) (fun _ _ _ h => h) (.inl ⟨by rfl, ?_⟩) (by assumption) ?_; rotate_left
    · (intro wS hSw; (try dsimp only at hSw); go_simp); all_goals with_reducible rfl
    try go_frame
    refine tk (oi := ⟨_, _, _, _, _, _⟩) (v := ?_) 10 rfl (by kernel_rfl) (fun _ _ _ h => h) (.inl ⟨by rfl, ?_⟩) (by assumption) ?_; rotate_left
    · (intro wS hSw; (try dsimp only at hSw); go_simp); all_goals with_reducible rfl
    try go_frame
    refine tk (oi := ⟨_, _, _, _, _, _⟩) (v := ?_) 11 rfl (by kernel_rfl) (fun _ _ _ h => h) (.inl ⟨by rfl, ?_⟩) (by assumption) ?_; rotate_left
    · (intro wS hSw; (try dsimp only at hSw); go_simp); all_goals with_reducible rfl
    try go_frame
    refine tk (oi := ⟨_, _, _, _, _, _⟩) (v := ?_) 12 rfl (by kernel_rfl) (fun _ _ _ h => h) (.inl ⟨by rfl, ?_⟩) (by assumption) ?_; rotate_left
    · (intro wS hSw; (try dsimp only at hSw); go_simp); all_goals with_reducible rfl
    try go_frame
    refine wpAnyH_ready (rs := [13]) (by kernel_rfl) (by simp) ?_
    refine AllReadyH.cons (o := ⟨_, _, _, _, _, _⟩) rfl (fun K hK => ?_) AllReadyH.nil
    go_simp
    refine (Try.strings_IndexByte _ _ _).mono ?_
    rw [hx.out]
    rintro e w2 ⟨rfl, rfl⟩
    rw [show ((60 : Int)).toNat.toUInt8 = 60 from rfl, hq.out]
    go_wp2_with fail
    refine hK.out _ _ (HS.out) (fun hHeld => ?_)
    clear hK K
    try go_frame
    refine tk (oi := ⟨_, _, _, _, _, _⟩) (v := ?_) 14 rfl (by kernel_rfl) (fun _ _ _ h => h) (.inl ⟨by rfl, ?_⟩) (by assumption) ?_; rotate_left
    · (intro wS hSw; (try dsimp only at hSw); go_simp); all_goals with_reducible rfl
    try go_frame
    refine tk (oi := ⟨_, _, _, _, _, _⟩) (v := ?_) 15 rfl (by kernel_rfl) (fun _ _ _ h => h) (.inl ⟨by rfl, ?_⟩) (by assumption) ?_; rotate_left
    · (intro wS hSw; (try dsimp only at hSw); go_simp); all_goals with_reducible rfl
    try go_frame
    refine wpAnyH_done (by kernel_rfl) ?_ _
    clear hHeld
    obtain ⟨g0, g1⟩ := HG.out
    obtain ⟨y0, y1⟩ := HY.out
    have f1 : w.drew.frozen? ⟨b, 1, none⟩ = false := HR.out.froz 1
    have f2 : (w.setCell ⟨b, 1, none⟩ (.int .i64 s.size)).frozen? ⟨b, 1, none⟩ = false := HR1.out.froz 1
    obtain ⟨h0, h1⟩ := HS.out
    go_wp2_with fail
    refine (undone_at b { Rdr.new s pos place with pos := pos + k } ((w.setCell ⟨b, 1, none⟩ (.int .i64 s.size)).setCell ⟨b, 1, none⟩ (.int .i64 ((pos : Int) + k))).drew HR2.out.drew pos (pos + k) (Nat.le_add_right _ _) hkl hs false (u, n, e) hU ((pos : Int) + k) hJ).mono ?_
    rintro e2 W2 ⟨rfl, hW2, hg2⟩
    clear h0 h1 y0 y1 f1 f2 g0 g1
    have hgW : w.grownBy W2 (some b) := grown_twice (grown_drew (Lib.grownBy_setB (Lib.grownBy_setCell w b 1 _) 1 _)) hg2
    by_cases he : e = 0
    · subst he
      have hW2' : RdAt W2 b { Rdr.new s pos place with pos := pos + k } := hW2
      clear hW2
      by_cases hlong : 1500 < u.length
      · have hlong' : (1500 : Int) < u.length := by omega
        have HV : Hid (V = .bad 0 34) := by show _ = _; rw [← hV.out, textT_of ht.out hu.out, if_neg (by simp), if_pos hlong]
        clear hlong
        go_wp2_with fail
        refine (fail_any b _ W2 hW2' pos 34).mono ?_
        rintro e3 W3 ⟨rfl, hW3, hg3⟩
        go_wp2_with fail
        go_ret
        rw [HV.out]
        exact ⟨below_of_grown (grown_twice hgW hg3) hB hBw, rfl, _, hW3, rfl, rfl⟩
      · have hlong' : (u.length : Int) ≤ 1500 := by omega
        have HV : Hid (V = .ok ⟨4, [], u, []⟩ k) := by show _ = _; rw [← hV.out, textT_of ht.out hu.out, if_neg (by simp), if_neg hlong, hk.out]
        clear hlong
        have HW2 := Lib.hid hW2'
        obtain ⟨_, _, z2, _, _, z5, _⟩ := hW2'.all
        have zf2 := hW2'.froz 2
        have zf5 := hW2'.froz 5
        clear hW2'
        go_wp2_with fail
        go_ret
        rw [HV.out]
        exact ⟨below_of_grown (Lib.grownBy_setB (Lib.grownBy_setB hgW 2 _) 5 _) hB hBw, rfl, none, 0, (HW2.out.kind 4).text u, World.ownsRow_nil _ _ _ _⟩
    · have HV : Hid (V = .bad n e) := by show _ = _; rw [← hV.out, textT_of ht.out hu.out, if_pos he]
      have hd : decide (e = 0) = false := decide_eq_false he
      have HE := Lib.hid he
      clear he
      go_wp2_with fail
      go_ret
      rw [HV.out]
      refine ⟨below_of_grown hgW hB hBw, rfl, ?_⟩
      have hW2' : RdAt W2 b (if e = 0 then { Rdr.new s pos place with pos := pos + k } else { { Rdr.new s pos place with pos := pos + k } with bad := (pos : Int) + n, code := e }) := hW2
      rw [if_neg HE.out] at hW2'
      exact ⟨_, hW2', rfl, rfl⟩

set_option maxRecDepth 100000 in
set_option maxHeartbeats 1000000 in
theorem end_any (b B : Nat) (s : ByteArray) (pos place : Nat) (w : World) (h : RdAt w b (Rdr.new s pos place)) (hB : B ≤ b) (hBw : B ≤ w.heap.size) (hp : pos ≤ s.size) (hs : s.size ≤ 1000000000) (V : Told TokD) (hV : Hid (endT (s.data.toList.drop pos) = V)) :
    Calls Try.prog 42 #[.pointer (some ⟨b, 0, none⟩)] w (TokPost w B b s pos place V) := by
  have HL := Lib.hid (size_toList s)
  obtain ⟨n, hn⟩ : ∃ n, Hid (wordL (s.data.toList.drop pos) = n) := ⟨_, rfl⟩
  obtain ⟨v, hv⟩ : ∃ v, Hid (nameL n = v) := ⟨_, rfl⟩
  have hn1 : pos + n.length ≤ s.size := by
    have := wordL_len (s.data.toList.drop pos)
    rw [hn.out, List.length_drop, HL.out] at this; omega
  cases v with
  | false =>
    have HV : Hid (V = .bad 0 31) := by
      show _ = _
      rw [← hV.out]
      unfold endT
      simp only [hn.out, hv.out]
      rw [if_pos trivial]
    go_enter Try.func42, Try.ntmps42
    go_wp2_with fail
    refine (word_any b (Rdr.new s pos place) w h hp hs n hn false hv _ rfl [] rfl).mono ?_
    rintro e W1 ⟨rfl, hW1, hg1⟩
    go_wp2_with fail
    go_ret
    rw [HV.out]
    exact ⟨below_of_grown hg1 hB hBw, rfl, _, hW1, rfl, rfl⟩
  | true =>
    obtain ⟨k, hk⟩ : ∃ k, Hid (skipL (s.data.toList.drop (pos + n.length)) = k) := ⟨_, rfl⟩
    have hk1 : pos + n.length + k ≤ s.size := by
      have := skipL_len (s.data.toList.drop (pos + n.length))
      rw [hk.out, List.length_drop, HL.out] at this; omega
    obtain ⟨m, hm⟩ : ∃ m, Hid (pre [62] (s.data.toList.drop (pos + n.length + k)) = m) := ⟨_, rfl⟩
    have hVE : Hid (V = if m then .ok ⟨2, n, [], []⟩ (n.length + k + 1) else .bad (n.length + k) 30) := by
      show _ = _
      rw [← hV.out]
      unfold endT
      simp only [hn.out, hv.out, List.drop_drop, hk.out]
      rw [if_neg (by simp), show pos + (n.length + k) = pos + n.length + k by omega, hm.out]
    go_enter Try.func42, Try.ntmps42
    go_wp2_with fail
    refine (word_any b (Rdr.new s pos place) w h hp hs n hn true hv _ rfl n rfl).mono ?_
    rintro e W1 ⟨rfl, hW1, hg1⟩
    have hW1' : RdAt W1 b { Rdr.new s pos place with pos := pos + n.length } := hW1
    go_wp2_with fail
    refine (blanks_any b _ W1 hW1' hn1 hs k hk).mono ?_
    rintro e W2 ⟨rfl, hW2, hg2⟩
    have hW2' : RdAt W2 b { Rdr.new s pos place with pos := pos + n.length + k } := hW2
    obtain ⟨_, _, z2, _, z4, _⟩ := hW2'.all
    have zf2 := hW2'.froz 2
    have zf4 := hW2'.froz 4
    have hW3 : Hid (RdAt ((W2.setCell ⟨b, 2, none⟩ (.int .i64 2)).setCell ⟨b, 4, none⟩ (.string ⟨n.toArray⟩)) b { Rdr.new s pos place with pos := pos + n.length + k, kind := 2, name := n }) := (hW2'.kind 2).name n
    have hg3 : w.grownBy ((W2.setCell ⟨b, 2, none⟩ (.int .i64 2)).setCell ⟨b, 4, none⟩ (.string ⟨n.toArray⟩)) (some b) := Lib.grownBy_setB (Lib.grownBy_setB (grown_twice hg1 hg2) 2 _) 4 _
    clear hW2 hW2' hW1 hW1' h
    go_wp2_with fail
    refine (must_any b _ _ hW3.out [62] hk1 hs m hm (by decide)).mono ?_
    rintro e W4 ⟨rfl, hW4, hg4⟩
    go_wp2_with fail
    go_ret
    cases m with
    | true =>
      rw [hVE.out, if_pos rfl]
      refine ⟨below_of_grown (grown_twice hg3 hg4) hB hBw, rfl, none, 0, ?_, World.ownsRow_nil _ _ _ _⟩
      have hW4' : RdAt W4 b { Rdr.new s pos place with pos := pos + n.length + k + 1, kind := 2, name := n } := hW4
      rw [show pos + (n.length + k + 1) = pos + n.length + k + 1 by omega]
      exact hW4'
    | false =>
      rw [hVE.out, if_neg (by decide)]
      refine ⟨below_of_grown (grown_twice hg3 hg4) hB hBw, rfl, _, hW4, ?_, rfl⟩
      show ((pos + n.length + k : Nat) : Int) = _
      rw [show pos + (n.length + k) = pos + n.length + k by omega]
end Go.Proofs.Ythifddkmbjnncaa

/-
  The walks of ref03.SameAttrs and of slices.Equal at attributes.
-/
namespace Go.Proofs.Ythifddkmbjnncaa
open Go.RowKit

theorem beq_str (a c : List UInt8) : (ByteArray.toList ⟨a.toArray⟩ == ByteArray.toList ⟨c.toArray⟩) = decide (a = c) := by
  rw [ByteArray.toList_eq, ByteArray.toList_eq]
  show (a.toArray.toList == c.toArray.toList) = _
  cases h : (a == c) <;> simp_all

theorem attr_neq (a b c d : List UInt8) (w : World) : (binOp .neq 44 (.agg #[.string ⟨a.toArray⟩, .string ⟨b.toArray⟩]) (.agg #[.string ⟨c.toArray⟩, .string ⟨d.toArray⟩])).run Try.prog w = .ok (.bool (!(decide (a = c) && decide (b = d)))) w := by
  rw [run_neq_struct, run_equalIn_struct w 9999 _ _ _ (by kernel_rfl) (by kernel_rfl)]
  rw [← beq_str a c, ← beq_str b d]
  generalize (⟨a.toArray⟩ : ByteArray) = x
  generalize (⟨b.toArray⟩ : ByteArray) = y
  generalize (⟨c.toArray⟩ : ByteArray) = z
  generalize (⟨d.toArray⟩ : ByteArray) = v
  simp [go_sem]
  by_cases h1 : x.toList = z.toList <;> by_cases h2 : y.toList = v.toList <;> simp [h1, h2]

set_option maxRecDepth 100000 in
set_option maxHeartbeats 2000000 in
theorem SameAttrs_any (l m : List AttrD) (A B : Option Addr) (c d : Nat) (w : World) (hA : AttrsAt w w.heap.size A l) (hB : AttrsAt w w.heap.size B m) (hl : l.length ≤ 1000000000) (hm : m.length ≤ 1000000000) (R : Bool) (hR : Hid (decide (l = m) = R)) :
    Calls Try.prog 39 #[.slice A l.length c, .slice B m.length d] w (Ret w (.bool R)) := by
  have HA := Lib.hid hA
  have HB := Lib.hid hB
  clear hA hB
  by_cases hne : l.length = m.length
  · have hR0 : Hid (decide (l.drop 0 = m.drop 0) = R) := hR
    have t0 : ((l.length : Int) != m.length) = false := by simp [hne]
    have HNE := Lib.hid hne
    clear hne hR
    go_enter Try.func39, Try.ntmps39
    go_wp2_with fail
    go_loopw [5] (fun i wr => ∃ (k : Nat), k ≤ l.length ∧ i = .int .i64 k ∧ Hid (decide (l.drop k = m.drop k) = R) ∧ Below w.heap.size w wr) (fun i _ => l.length - (intOf i).toNat)
    case atStart => exact ⟨0, Nat.zero_le _, rfl, hR0, Below.refl _ _⟩
    case round =>
      obtain ⟨k, hk, rfl, hin, hbel⟩ := hrel
      have hzr := hbel.size
      by_cases hlt : k < l.length
      · have hlm : k < m.length := by have := HNE.out; omega
        obtain ⟨a, ha⟩ : ∃ a, Hid (l[k]? = some a) := ⟨l[k], List.getElem?_eq_getElem _⟩
        obtain ⟨b, hb⟩ : ∃ b, Hid (m[k]? = some b) := ⟨m[k], List.getElem?_eq_getElem _⟩
        obtain ⟨ad, hAd, hab, hac⟩ := HA.out (by omega)
        obtain ⟨bd, hBd, hbb, hbc⟩ := HB.out (by omega)
        subst hAd; subst hBd
        have hlt' : (k : Int) < l.length := by omega
        have hlm' : (k : Int) < m.length := by omega
        have hk0 : (0 : Int) ≤ (k : Int) := by omega
        have HS : Hid (wr.drew.cell? (ad.add (k * 2)) = some (.string ⟨a.name.toArray⟩) ∧ wr.drew.cell? ⟨(ad.add (k * 2)).block, (ad.add (k * 2)).off + 1, none⟩ = some (.string ⟨a.value.toArray⟩) ∧ wr.drew.cell? (bd.add (k * 2)) = some (.string ⟨b.name.toArray⟩) ∧ wr.drew.cell? ⟨(bd.add (k * 2)).block, (bd.add (k * 2)).off + 1, none⟩ = some (.string ⟨b.value.toArray⟩)) := by
          have hb' := hbel.drew
          refine ⟨?_, ?_, ?_, ?_⟩
          · rw [hb'.cell (by rw [block_of_add]; exact hab)]; exact (hac k a ha.out).1
          · rw [hb'.cell (by show (ad.add _).block < _; rw [block_of_add]; exact hab)]; exact (hac k a ha.out).2
          · rw [hb'.cell (by rw [block_of_add]; exact hbb)]; exact (hbc k b hb.out).1
          · rw [hb'.cell (by show (bd.add _).block < _; rw [block_of_add]; exact hbb)]; exact (hbc k b hb.out).2
        clear hac hbc
        have hin' := hin.out
        rw [drop_cons ha.out, drop_cons hb.out] at hin'
        have hneq := fun w' => attr_neq a.name a.value b.name b.value w'
        by_cases he : a.name = b.name ∧ a.value = b.value
        · have HIN : Hid (decide (l.drop (k + 1) = m.drop (k + 1)) = R) := by
            show _ = _
            rw [← hin']
            have : a = b := by cases a; cases b; simp_all
            simp [this]
          have he' : (decide (a.name = b.name) && decide (a.value = b.value)) = true := by simpa using he
          simp only [he', Bool.not_true] at hneq
          clear he he' hin' hin
          go_wp2_with fail
          refine wp_region_held_drew (S := fun w' => w'.cell? (ad.add (k * 2)) = some (.string ⟨a.name.toArray⟩) ∧ w'.cell? ⟨(ad.add (k * 2)).block, (ad.add (k * 2)).off + 1, none⟩ = some (.string ⟨a.value.toArray⟩) ∧ w'.cell? (bd.add (k * 2)) = some (.string ⟨b.name.toArray⟩) ∧ w'.cell? ⟨(bd.add (k * 2)).block, (bd.add (k * 2)).off + 1, none⟩ = some (.string ⟨b.value.toArray⟩)) (by kernel_rfl) HS.out (fun hHeld => ?_)
          refine tk (oi := ⟨_, _, _, _, _, _⟩) (v := ?_) 0 rfl (by kernel_rfl) (fun _ _ _ h => h) (.inl ⟨by rfl, ?_⟩) (by assumption) ?_; rotate_left
          · (intro wS hSw; (try dsimp only at hSw); go_simp); all_goals with_reducible rfl
          try go_frame
          refine tk (oi := ⟨_, _, _, _, _, _⟩) (v := ?_) 1 rfl (by kernel_rfl) (fun _ _ _ h => h) (.inl ⟨by rfl, ?_⟩) (by assumption) ?_; rotate_left
          · (intro wS hSw; (try dsimp only at hSw); go_simp); all_goals with_reducible rfl
          try go_frame
          refine tk (oi := ⟨_, _, _, _, _, _⟩) (v := ?_) 2 rfl (by kernel_rfl) (fun _ _ _ h => h) (.inl ⟨by rfl, ?_⟩) (by assumption) ?_; rotate_left
          · (intro wS hSw; (try dsimp only at hSw); go_simp); all_goals with_reducible rfl
          try go_frame
          refine tk (oi := ⟨_, _, _, _, _, _⟩) (v := ?_) 3 rfl (by kernel_rfl) (fun _ _ _ h => h) (.inl ⟨by rfl, ?_⟩) (by assumption) ?_; rotate_left
          · (intro wS hSw; (try dsimp only at hSw); go_simp); all_goals with_reducible rfl
          try go_frame
          refine tk (oi := ⟨_, _, _, _, _, _⟩) (v := ?_) 4 rfl (by kernel_rfl) (fun _ _ _ h => h) (.inl ⟨by rfl, ?_⟩) (by assumption) ?_; rotate_left
          · (intro wS hSw; (try dsimp only at hSw); go_simp); all_goals with_reducible rfl
          try go_frame
          refine tk (oi := ⟨_, _, _, _, _, _⟩) (v := ?_) 5 rfl (by kernel_rfl) (fun _ _ _ h => h) (.inl ⟨by rfl, ?_⟩) (by assumption) ?_; rotate_left
          · (intro wS hSw; (try dsimp only at hSw); go_simp); all_goals with_reducible rfl
          try go_frame
          refine tk (oi := ⟨_, _, _, _, _, _⟩) (v := ?_) 6 rfl (by kernel_rfl) (fun _ _ _ h => h) (.inl ⟨by rfl, ?_⟩) (by assumption) ?_; rotate_left
          · (intro wS hSw; (try dsimp only at hSw); go_simp); all_goals with_reducible rfl
          try go_frame
          refine tk (oi := ⟨_, _, _, _, _, _⟩) (v := ?_) 7 rfl (by kernel_rfl) (fun _ _ _ h => h) (.inl ⟨by rfl, ?_⟩) (by assumption) ?_; rotate_left
          · (intro wS hSw; (try dsimp only at hSw); go_simp); all_goals with_reducible rfl
          try go_frame
          refine tk (oi := ⟨_, _, _, _, _, _⟩) (v := ?_) 8 rfl (by kernel_rfl) (fun _ _ _ h => h) (.inl ⟨by rfl, ?_⟩) (by assumption) ?_; rotate_left
          · (intro wS hSw; (try dsimp only at hSw); go_simp); all_goals with_reducible rfl
          try go_frame
          refine wpAnyH_done (by kernel_rfl) ?_ _
          clear hneq hHeld
          go_wp2_with fail
          go_roundw
          case rel => exact ⟨k + 1, by omega, by go_num, HIN, hbel.drew⟩
          case measure => simp [intOf]; omega
        · have HIN : Hid (R = false) := by
            show _ = _
            rw [← hin']
            have : a ≠ b := fun h => he (by rw [h]; exact ⟨rfl, rfl⟩)
            simp [this]
          have he' : (decide (a.name = b.name) && decide (a.value = b.value)) = false := by
            cases h : (decide (a.name = b.name) && decide (a.value = b.value)) with
            | false => rfl
            | true => exact absurd (by simpa using h) he
          simp only [he', Bool.not_false] at hneq
          clear he he' hin' hin
          go_wp2_with fail
          refine wp_region_held_drew (S := fun w' => w'.cell? (ad.add (k * 2)) = some (.string ⟨a.name.toArray⟩) ∧ w'.cell? ⟨(ad.add (k * 2)).block, (ad.add (k * 2)).off + 1, none⟩ = some (.string ⟨a.value.toArray⟩) ∧ w'.cell? (bd.add (k * 2)) = some (.string ⟨b.name.toArray⟩) ∧ w'.cell? ⟨(bd.add (k * 2)).block, (bd.add (k * 2)).off + 1, none⟩ = some (.string ⟨b.value.toArray⟩)) (by kernel_rfl) HS.out (fun hHeld => ?_)
          refine tk (oi := ⟨_, _, _, _, _, _⟩) (v := ?_) 0 rfl (by kernel_rfl) (fun _ _ _ h => h) (.inl ⟨by rfl, ?_⟩) (by assumption) ?_; rotate_left
          · (intro wS hSw; (try dsimp only at hSw); go_simp); all_goals with_reducible rfl
          try go_frame
          refine tk (oi := ⟨_, _, _, _, _, _⟩) (v := ?_) 1 rfl (by kernel_rfl) (fun _ _ _ h => h) (.inl ⟨by rfl, ?_⟩) (by assumption) ?_; rotate_left
          · (intro wS hSw; (try dsimp only at hSw); go_simp); all_goals with_reducible rfl
          try go_frame
          refine tk (oi := ⟨_, _, _, _, _, _⟩) (v := ?_) 2 rfl (by kernel_rfl) (fun _ _ _ h => h) (.inl ⟨by rfl, ?_⟩) (by assumption) ?_; rotate_left
          · (intro wS hSw; (try dsimp only at hSw); go_simp); all_goals with_reducible rfl
          try go_frame
          refine tk (oi := ⟨_, _, _, _, _, _⟩) (v := ?_) 3 rfl (by kernel_rfl) (fun _ _ _ h => h) (.inl ⟨by rfl, ?_⟩) (by assumption) ?_; rotate_left
          · (intro wS hSw; (try dsimp only at hSw); go_simp); all_goals with_reducible rfl
          try go_frame
          refine tk (oi := ⟨_, _, _, _, _, _⟩) (v := ?_) 4 rfl (by kernel_rfl) (fun _ _ _ h => h) (.inl ⟨by rfl, ?_⟩) (by assumption) ?_; rotate_left
          · (intro wS hSw; (try dsimp only at hSw); go_simp); all_goals with_reducible rfl
          try go_frame
          refine tk (oi := ⟨_, _, _, _, _, _⟩) (v := ?_) 5 rfl (by kernel_rfl) (fun _ _ _ h => h) (.inl ⟨by rfl, ?_⟩) (by assumption) ?_; rotate_left
          · (intro wS hSw; (try dsimp only at hSw); go_simp); all_goals with_reducible rfl
          try go_frame
          refine tk (oi := ⟨_, _, _, _, _, _⟩) (v := ?_) 6 rfl (by kernel_rfl) (fun _ _ _ h => h) (.inl ⟨by rfl, ?_⟩) (by assumption) ?_; rotate_left
          · (intro wS hSw; (try dsimp only at hSw); go_simp); all_goals with_reducible rfl
          try go_frame
          refine tk (oi := ⟨_, _, _, _, _, _⟩) (v := ?_) 7 rfl (by kernel_rfl) (fun _ _ _ h => h) (.inl ⟨by rfl, ?_⟩) (by assumption) ?_; rotate_left
          · (intro wS hSw; (try dsimp only at hSw); go_simp); all_goals with_reducible rfl
          try go_frame
          refine tk (oi := ⟨_, _, _, _, _, _⟩) (v := ?_) 8 rfl (by kernel_rfl) (fun _ _ _ h => h) (.inl ⟨by rfl, ?_⟩) (by assumption) ?_; rotate_left
          · (intro wS hSw; (try dsimp only at hSw); go_simp); all_goals with_reducible rfl
          try go_frame
          refine wpAnyH_done (by kernel_rfl) ?_ _
          clear hneq hHeld
          go_wp2_with fail
          go_ret
          exact ⟨by rw [HIN.out]; rfl, hbel.drew⟩
      · have HIN : Hid (R = true) := by
          show _ = _
          have := HNE.out
          rw [← hin.out, List.drop_eq_nil_of_le (by omega), List.drop_eq_nil_of_le (by omega)]; rfl
        have hk' : k = l.length := by omega
        subst hk'
        clear hin hlt hk
        go_wp2_with fail
        go_ret
        exact ⟨by rw [HIN.out]; rfl, hbel⟩
  · have hv : Hid (R = false) := by
      show _ = _
      rw [← hR.out]
      simp only [decide_eq_false_iff_not]
      intro h; rw [h] at hne; exact hne rfl
    have t0 : ((l.length : Int) != m.length) = true := by simp; omega
    clear hne hR
    go_enter Try.func39, Try.ntmps39
    go_wp2_with fail
    go_ret
    exact ⟨by rw [hv.out]; rfl, Below.refl _ _⟩

set_option maxRecDepth 100000 in
set_option maxHeartbeats 2000000 in
theorem EqualA_any (l m : List AttrD) (A B : Option Addr) (c d : Nat) (w : World) (hA : AttrsAt w w.heap.size A l) (hB : AttrsAt w w.heap.size B m) (hl : l.length ≤ 1000000000) (hm : m.length ≤ 1000000000) (R : Bool) (hR : Hid (decide (l = m) = R)) :
    Calls Try.prog 61 #[.slice A l.length c, .slice B m.length d] w (Ret w (.bool R)) := by
  have HA := Lib.hid hA
  have HB := Lib.hid hB
  clear hA hB
  by_cases hne : l.length = m.length
  · have hR0 : Hid (decide (l.drop 0 = m.drop 0) = R) := hR
    have t0 : ((l.length : Int) != m.length) = false := by simp [hne]
    have HNE := Lib.hid hne
    clear hne hR
    go_enter Try.func61, Try.ntmps61
    go_wp2_with fail
    go_loopw [13] (fun i wr => ∃ (k : Nat), k ≤ l.length ∧ i = .int .i64 k ∧ Hid (decide (l.drop k = m.drop k) = R) ∧ Below w.heap.size w wr) (fun i _ => l.length - (intOf i).toNat)
    case atStart => exact ⟨0, Nat.zero_le _, rfl, hR0, Below.refl _ _⟩
    case round =>
      obtain ⟨k, hk, rfl, hin, hbel⟩ := hrel
      have hzr := hbel.size
      by_cases hlt : k < l.length
      · have hlm : k < m.length := by have := HNE.out; omega
        obtain ⟨a, ha⟩ : ∃ a, Hid (l[k]? = some a) := ⟨l[k], List.getElem?_eq_getElem _⟩
        obtain ⟨b, hb⟩ : ∃ b, Hid (m[k]? = some b) := ⟨m[k], List.getElem?_eq_getElem _⟩
        obtain ⟨ad, hAd, hab, hac⟩ := HA.out (by omega)
        obtain ⟨bd, hBd, hbb, hbc⟩ := HB.out (by omega)
        subst hAd; subst hBd
        have hlt' : (k : Int) < l.length := by omega
        have hlm' : (k : Int) < m.length := by omega
        have hk0 : (0 : Int) ≤ (k : Int) := by omega
        have HS : Hid (wr.drew.cell? (ad.add (k * 2)) = some (.string ⟨a.name.toArray⟩) ∧ wr.drew.cell? ⟨(ad.add (k * 2)).block, (ad.add (k * 2)).off + 1, none⟩ = some (.string ⟨a.value.toArray⟩) ∧ wr.drew.cell? (bd.add (k * 2)) = some (.string ⟨b.name.toArray⟩) ∧ wr.drew.cell? ⟨(bd.add (k * 2)).block, (bd.add (k * 2)).off + 1, none⟩ = some (.string ⟨b.value.toArray⟩)) := by
          have hb' := hbel.drew
          refine ⟨?_, ?_, ?_, ?_⟩
          · rw [hb'.cell (by rw [block_of_add]; exact hab)]; exact (hac k a ha.out).1
          · rw [hb'.cell (by show (ad.add _).block < _; rw [block_of_add]; exact hab)]; exact (hac k a ha.out).2
          · rw [hb'.cell (by rw [block_of_add]; exact hbb)]; exact (hbc k b hb.out).1
          · rw [hb'.cell (by show (bd.add _).block < _; rw [block_of_add]; exact hbb)]; exact (hbc k b hb.out).2
        clear hac hbc
        have hin' := hin.out
        rw [drop_cons ha.out, drop_cons hb.out] at hin'
        have hneq := fun w' => attr_neq a.name a.value b.name b.value w'
        by_cases he : a.name = b.name ∧ a.value = b.value
        · have HIN : Hid (decide (l.drop (k + 1) = m.drop (k + 1)) = R) := by
            show _ = _
            rw [← hin']
            have : a = b := by cases a; cases b; simp_all
            simp [this]
          have he' : (decide (a.name = b.name) && decide (a.value = b.value)) = true := by simpa using he
          simp only [he', Bool.not_true] at hneq
          clear he he' hin' hin
          go_wp2_with fail
          refine wp_region_held_drew (S := fun w' => w'.cell? (ad.add (k * 2)) = some (.string ⟨a.name.toArray⟩) ∧ w'.cell? ⟨(ad.add (k * 2)).block, (ad.add (k * 2)).off + 1, none⟩ = some (.string ⟨a.value.toArray⟩) ∧ w'.cell? (bd.add (k * 2)) = some (.string ⟨b.name.toArray⟩) ∧ w'.cell? ⟨(bd.add (k * 2)).block, (bd.add (k * 2)).off + 1, none⟩ = some (.string ⟨b.value.toArray⟩)) (by kernel_rfl) HS.out (fun hHeld => ?_)
          refine tk (oi := ⟨_, _, _, _, _, _⟩) (v := ?_) 0 rfl (by kernel_rfl) (fun _ _ _ h => h) (.inl ⟨by rfl, ?_⟩) (by assumption) ?_; rotate_left
          · (intro wS hSw; (try dsimp only at hSw); go_simp); all_goals with_reducible rfl
          try go_frame
          refine tk (oi := ⟨_, _, _, _, _, _⟩) (v := ?_) 1 rfl (by kernel_rfl) (fun _ _ _ h => h) (.inl ⟨by rfl, ?_⟩) (by assumption) ?_; rotate_left
          · (intro wS hSw; (try dsimp only at hSw); go_simp); all_goals with_reducible rfl
          try go_frame
          refine tk (oi := ⟨_, _, _, _, _, _⟩) (v := ?_) 2 rfl (by kernel_rfl) (fun _ _ _ h => h) (.inl ⟨by rfl, ?_⟩) (by assumption) ?_; rotate_left
          · (intro wS hSw; (try dsimp only at hSw); go_simp); all_goals with_reducible rfl
          try go_frame
          refine tk (oi := ⟨_, _, _, _, _, _⟩) (v := ?_) 3 rfl (by kernel_rfl) (fun _ _ _ h => h) (.inl ⟨by rfl, ?_⟩) (by assumption) ?_; rotate_left
          · (intro wS hSw; (try dsimp only at hSw); go_simp); all_goals with_reducible rfl
          try go_frame
          refine tk (oi := ⟨_, _, _, _, _, _⟩) (v := ?_) 4 rfl (by kernel_rfl) (fun _ _ _ h => h) (.inl ⟨by rfl, ?_⟩) (by assumption) ?_; rotate_left
          · (intro wS hSw; (try dsimp only at hSw); go_simp); all_goals with_reducible rfl
          try go_frame
          refine tk (oi := ⟨_, _, _, _, _, _⟩) (v := ?_) 5 rfl (by kernel_rfl) (fun _ _ _ h => h) (.inl ⟨by rfl, ?_⟩) (by assumption) ?_; rotate_left
          · (intro wS hSw; (try dsimp only at hSw); go_simp); all_goals with_reducible rfl
          try go_frame
          refine tk (oi := ⟨_, _, _, _, _, _⟩) (v := ?_) 6 rfl (by kernel_rfl) (fun _ _ _ h => h) (.inl ⟨by rfl, ?_⟩) (by assumption) ?_; rotate_left
          · (intro wS hSw; (try dsimp only at hSw); go_simp); all_goals with_reducible rfl
          try go_frame
          refine tk (oi := ⟨_, _, _, _, _, _⟩) (v := ?_) 7 rfl (by kernel_rfl) (fun _ _ _ h => h) (.inl ⟨by rfl, ?_⟩) (by assumption) ?_; rotate_left
          · (intro wS hSw; (try dsimp only at hSw); go_simp); all_goals with_reducible rfl
          try go_frame
          refine tk (oi := ⟨_, _, _, _, _, _⟩) (v := ?_) 8 rfl (by kernel_rfl) (fun _ _ _ h => h) (.inl ⟨by rfl, ?_⟩) (by assumption) ?_; rotate_left
          · (intro wS hSw; (try dsimp only at hSw); go_simp); all_goals with_reducible rfl
          try go_frame
          refine wpAnyH_done (by kernel_rfl) ?_ _
          clear hneq hHeld
          go_wp2_with fail
          go_roundw
          case rel => exact ⟨k + 1, by omega, by go_num, HIN, hbel.drew⟩
          case measure => simp [intOf]; omega
        · have HIN : Hid (R = false) := by
            show _ = _
            rw [← hin']
            have : a ≠ b := fun h => he (by rw [h]; exact ⟨rfl, rfl⟩)
            simp [this]
          have he' : (decide (a.name = b.name) && decide (a.value = b.value)) = false := by
            cases h : (decide (a.name = b.name) && decide (a.value = b.value)) with
            | false => rfl
            | true => exact absurd (by simpa using h) he
          simp only [he', Bool.not_false] at hneq
          clear he he' hin' hin
          go_wp2_with fail
          refine wp_region_held_drew (S := fun w' => w'.cell? (ad.add (k * 2)) = some (.string ⟨a.name.toArray⟩) ∧ w'.cell? ⟨(ad.add (k * 2)).block, (ad.add (k * 2)).off + 1, none⟩ = some (.string ⟨a.value.toArray⟩) ∧ w'.cell? (bd.add (k * 2)) = some (.string ⟨b.name.toArray⟩) ∧ w'.cell? ⟨(bd.add (k * 2)).block, (bd.add (k * 2)).off + 1, none⟩ = some (.string ⟨b.value.toArray⟩)) (by kernel_rfl) HS.out (fun hHeld => ?_)
          refine tk (oi := ⟨_, _, _, _, _, _⟩) (v := ?_) 0 rfl (by kernel_rfl) (fun _ _ _ h => h) (.inl ⟨by rfl, ?_⟩) (by assumption) ?_; rotate_left
          · (intro wS hSw; (try dsimp only at hSw); go_simp); all_goals with_reducible rfl
          try go_frame
          refine tk (oi := ⟨_, _, _, _, _, _⟩) (v := ?_) 1 rfl (by kernel_rfl) (fun _ _ _ h => h) (.inl ⟨by rfl, ?_⟩) (by assumption) ?_; rotate_left
          · (intro wS hSw; (try dsimp only at hSw); go_simp); all_goals with_reducible rfl
          try go_frame
          refine tk (oi := ⟨_, _, _, _, _, _⟩) (v := ?_) 2 rfl (by kernel_rfl) (fun _ _ _ h => h) (.inl ⟨by rfl, ?_⟩) (by assumption) ?_; rotate_left
          · (intro wS hSw; (try dsimp only at hSw); go_simp); all_goals with_reducible rfl
          try go_frame
          refine tk (oi := ⟨_, _, _, _, _, _⟩) (v := ?_) 3 rfl (by kernel_rfl) (fun _ _ _ h => h) (.inl ⟨by rfl, ?_⟩) (by assumption) ?_; rotate_left
          · (intro wS hSw; (try dsimp only at hSw); go_simp); all_goals with_reducible rfl
          try go_frame
          refine tk (oi := ⟨_, _, _, _, _, _⟩) (v := ?_) 4 rfl (by kernel_rfl) (fun _ _ _ h => h) (.inl ⟨by rfl, ?_⟩) (by assumption) ?_; rotate_left
          · (intro wS hSw; (try dsimp only at hSw); go_simp); all_goals with_reducible rfl
          try go_frame
          refine tk (oi := ⟨_, _, _, _, _, _⟩) (v := ?_) 5 rfl (by kernel_rfl) (fun _ _ _ h => h) (.inl ⟨by rfl, ?_⟩) (by assumption) ?_; rotate_left
          · (intro wS hSw; (try dsimp only at hSw); go_simp); all_goals with_reducible rfl
          try go_frame
          refine tk (oi := ⟨_, _, _, _, _, _⟩) (v := ?_) 6 rfl (by kernel_rfl) (fun _ _ _ h => h) (.inl ⟨by rfl, ?_⟩) (by assumption) ?_; rotate_left
          · (intro wS hSw; (try dsimp only at hSw); go_simp); all_goals with_reducible rfl
          try go_frame
          refine tk (oi := ⟨_, _, _, _, _, _⟩) (v := ?_) 7 rfl (by kernel_rfl) (fun _ _ _ h => h) (.inl ⟨by rfl, ?_⟩) (by assumption) ?_; rotate_left
          · (intro wS hSw; (try dsimp only at hSw); go_simp); all_goals with_reducible rfl
          try go_frame
          refine tk (oi := ⟨_, _, _, _, _, _⟩) (v := ?_) 8 rfl (by kernel_rfl) (fun _ _ _ h => h) (.inl ⟨by rfl, ?_⟩) (by assumption) ?_; rotate_left
          · (intro wS hSw; (try dsimp only at hSw); go_simp); all_goals with_reducible rfl
          try go_frame
          refine wpAnyH_done (by kernel_rfl) ?_ _
          clear hneq hHeld
          go_wp2_with fail
          go_ret
          exact ⟨by rw [HIN.out]; rfl, hbel.drew⟩
      · have HIN : Hid (R = true) := by
          show _ = _
          have := HNE.out
          rw [← hin.out, List.drop_eq_nil_of_le (by omega), List.drop_eq_nil_of_le (by omega)]; rfl
        have hk' : k = l.length := by omega
        subst hk'
        clear hin hlt hk
        go_wp2_with fail
        go_ret
        exact ⟨by rw [HIN.out]; rfl, hbel⟩
  · have hv : Hid (R = false) := by
      show _ = _
      rw [← hR.out]
      simp only [decide_eq_false_iff_not]
      intro h; rw [h] at hne; exact hne rfl
    have t0 : ((l.length : Int) != m.length) = true := by simp; omega
    clear hne hR
    go_enter Try.func61, Try.ntmps61
    go_wp2_with fail
    go_ret
    exact ⟨by rw [hv.out]; rfl, Below.refl _ _⟩
end Go.Proofs.Ythifddkmbjnncaa

/-
  The reader of tokens: the walk of has. slices.ContainsFunc at attributes, laid by hand.
-/
namespace Go.Proofs
open Go.Shelf Go.RowKit
def Try.laysH8_ren : Go.Shelf.Ren := ⟨fun | 6 => 139 | 8 => 117 | n => n, fun | 0 => 0 | 3 => 3 | 4 => 4 | 22 => 31 | 23 => 44 | 25 => 137 | n => n, fun | n => n⟩
theorem Try.laysH8 : Go.Proofs.SlLaysH0.n8 Try.prog Try.laysH8_ren := {
  mixed := by kernel_rfl
  f6 := ⟨ "slices.IndexFunc[[]incunable/api.Attr,incunable/api.Attr]", by decide, Try.func139.trans (congrArg some (by kernel_rfl))⟩
  f8 := ⟨ "slices.ContainsFunc[[]incunable/api.Attr,incunable/api.Attr]", by decide, Try.func117.trans (congrArg some (by kernel_rfl))⟩
  t0 := Try.underlying0
  a0 := Try.isAgg0
  z0 := Try.sizeOf0
  v0 := Try.zeroValue0
  t3 := Try.underlying3
  a3 := Try.isAgg3
  z3 := Try.sizeOf3
  v3 := Try.zeroValue3
  t4 := Try.underlying4
  a4 := Try.isAgg4
  z4 := Try.sizeOf4
  v4 := Try.zeroValue4
  t22 := Try.underlying31
  a22 := Try.isAgg31
  z22 := Try.sizeOf31
  v22 := Try.zeroValue31
  t25 := Try.underlying137
  a25 := Try.isAgg137
  z25 := Try.sizeOf137
  v25 := Try.zeroValue137 }
end Go.Proofs
namespace Go.Proofs.Ythifddkmbjnncaa
open Go.RowKit Go.Shelf

/-- the closure of has -/
theorem has1_any (n : List UInt8) (g : Nat) (w : World) (hg : g < w.heap.size) (hcell : w.cell? ⟨g, 0, none⟩ = some (.string ⟨n.toArray⟩)) :
    PredBelow Try.prog 118 #[.pointer (some ⟨g, 0, none⟩)] (fun a : AttrD => .agg (cellsA a).toArray) (fun a => decide (a.name = n)) w := fun W a hb => by
  have hc : W.cell? ⟨g, 0, none⟩ = some (.string ⟨n.toArray⟩) := (hb.cell (p := ⟨g, 0, none⟩) hg).trans hcell
  have hBW : g < W.heap.size := Nat.lt_of_lt_of_le hg hb.size
  have hne : g ≠ W.heap.size := by omega
  have hbe := beq_str a.name n
  show Calls Try.prog 118 #[.agg #[.string ⟨a.name.toArray⟩, .string ⟨a.value.toArray⟩], .pointer (some ⟨g, 0, none⟩)] W _
  go_enter Try.func118, Try.ntmps118
  go_wp2_with fail
  go_ret
  exact ⟨ret_bool (by rw [Bool.eq_iff_iff, beq_iff_eq, decide_eq_true_iff]), hb.alloc hb.size _⟩

set_option maxHeartbeats 1000000 in
/-- at no attribute: whatever the predicate -/
theorem IndexA_none (p : Option Addr) (c : Nat) (fv : Value) (w : World) :
    Calls Try.prog 139 #[.slice p 0 c, fv] w fun e w' => e = .returned (.int .i64 (-1)) ∧ w = w' := by
  go_enter Try.func139, Try.ntmps139
  go_wp2_with fail
  refine wp_loop_rounds 1 ?_
  rw [rounds_succ]
  go_wp2_with fail
  go_ret
  exact ⟨rfl, rfl⟩
set_option maxHeartbeats 1000000 in
theorem ContainsA_none (p : Option Addr) (c : Nat) (fv : Value) (w : World) :
    Calls Try.prog 117 #[.slice p 0 c, fv] w fun e w' => e = .returned (.bool false) ∧ w = w' := by
  go_enter Try.func117, Try.ntmps117
  go_wp2_with fail
  refine (IndexA_none p c fv w).mono ?_
  rintro e w' ⟨rfl, rfl⟩
  go_wp2_with fail
  go_ret
  exact ⟨rfl, rfl⟩

theorem ContainsA_any (l : List AttrD) (A : Option Addr) (c B : Nat) (n : List UInt8) (g : Nat) (w : World) (hA : AttrsOwn w B A c l) (hl : l.length ≤ 1000) (hg : g < w.heap.size) (hcell : w.cell? ⟨g, 0, none⟩ = some (.string ⟨n.toArray⟩)) (v : Bool) (hv : Hid (l.any (fun a => decide (a.name = n)) = v)) :
    Calls Try.prog 117 #[.slice A l.length c, .func (.func 118) #[] #[.pointer (some ⟨g, 0, none⟩)]] w fun e w' => e = .returned (.bool v) ∧ Below w.heap.size w w' := by
  cases l with
  | nil =>
    have hv' : v = false := hv.out.symm
    subst hv'
    exact (ContainsA_none A c _ w).mono fun e w' ⟨h1, h2⟩ => ⟨h1, by subst h2; exact Below.refl _ _⟩
  | cons a r =>
    obtain ⟨gb, rfl, _, hgb, _, hc⟩ := own_flat cellsA cellsA_length hA (by simp)
    have eg : ∀ args w, (callFunc 118 args).run Try.prog w = .ok (.enter 118 args) w := enters_of Try.func118 (by kernel_rfl) rfl
    have hcon := AnyQ.slices_ContainsFunc Try.laysH8 2 Try.isAgg44 Try.sizeOf44 cellsA cellsA_length (fun a => decide (a.name = n)) 118 #[.pointer (some ⟨g, 0, none⟩)] eg gb 0 (a :: r).length c (a :: r) w (has1_any n g w hg hcell) (Nat.le_refl _) (by omega) hgb (fun j hj i u hi => by
      have hj' : (a :: r)[j]? = some (a :: r)[j]! := by rw [List.getElem?_eq_getElem hj, getElem!_pos (a :: r) j hj]
      have := hc j _ i u hj' hi
      rw [add_zero_block] at this
      rw [Nat.zero_add]
      exact this)
    rw [List.take_length, hv.out] at hcon
    exact hcon

set_option maxRecDepth 100000 in
set_option maxHeartbeats 1000000 in
theorem hasA_any (b B : Nat) (r : Rdr) (w : World) (h : RdAt w b r) (l : List AttrD) (hn : r.n = l.length) (hA : AttrsOwn w B r.A r.c l) (hl : l.length ≤ 1000) (n : List UInt8) (v : Bool) (hv : Hid (l.any (fun a => decide (a.name = n)) = v)) :
    Calls Try.prog 98 #[.pointer (some ⟨b, 0, none⟩), .string ⟨n.toArray⟩] w (Ret w (.bool v)) := by
  obtain ⟨_, _, _, _, _, _, h6, _⟩ := h.all
  rw [hn] at h6
  have hb := h.lt
  have hne : b ≠ w.heap.size := by omega
  have hA1 : AttrsOwn (w.alloc (.cells #[.string ⟨n.toArray⟩] 9)) B r.A r.c l := World.ownsRow.alloc hA _
  have HA := Lib.hid hA1
  clear hA1 hA
  go_enter Try.func98, Try.ntmps98
  go_wp2_with fail
  refine (ContainsA_any l r.A r.c B n w.heap.size _ HA.out hl (by simp) (by rw [World.cell?_alloc_at _ _ _ _ (by simp)]; rfl) v hv).mono ?_
  rintro e w2 ⟨rfl, hb2⟩
  go_wp2_with fail
  go_ret
  exact ⟨rfl, ((Below.refl _ w).alloc (Nat.le_refl _) _).trans (hb2.mono (by simp))⟩
end Go.Proofs.Ythifddkmbjnncaa

/-
  The reader of tokens: the walk of attr.
-/
namespace Go.Proofs.Ythifddkmbjnncaa
open Go.RowKit

/-- what attr leaves -/
def AttrPost (w : World) (B b : Nat) (r : Rdr) (l : List AttrD) (V : Told AttrD) (e : Ending) (w' : World) : Prop :=
  Below B w w' ∧ match V with
  | .ok a n => e = .returned (.bool true) ∧ ∃ A c, RdAt w' b { r with pos := r.pos + n, A := A, n := (l ++ [a]).length, c := c } ∧ AttrsOwn w' B A c (l ++ [a])
  | .bad k c => e = .returned (.bool false) ∧ ∃ R : Rdr, RdAt w' b R ∧ R.bad = ((r.pos + k : Nat) : Int) ∧ R.code = c

/-- the attributes stand where only the reader's block is written -/
theorem attrs_kept {w w' : World} {B b : Nat} {r : Rdr} (h : RdAt w b r) {A : Option Addr} {c : Nat} {l : List AttrD} (hA : AttrsOwn w B A c l) (hg : w.grownBy w' (some b)) : AttrsOwn w' B A c l := by
  refine World.ownsRow.kept hA hg ?_
  cases hv : (Value.slice A l.length c).ownBlock with
  | none => exact .inl rfl
  | some g =>
    refine .inr fun e => ?_
    injection e with e
    subst e
    obtain ⟨_, _, cur, hc⟩ := own_type hA g hv
    unfold RdAt at h
    rw [hc] at h
    injection h with h
    injection h with _ h
    exact absurd h (by decide)

set_option maxRecDepth 100000 in
set_option maxHeartbeats 1000000 in
theorem attr_early (b B : Nat) (r : Rdr) (w : World) (h : RdAt w b r) (hB : B ≤ b) (hBw : B ≤ w.heap.size) (hp : r.pos ≤ r.s.size) (hs : r.s.size ≤ 1000000000) (l : List AttrD) (hn : r.n = l.length) (hA : AttrsOwn w B r.A r.c l) (hl : l.length ≤ 1000)
    (n : List UInt8) (hw : Hid (wordL (r.s.data.toList.drop r.pos) = n)) (hb : nameL n = false ∨ 20 ≤ l.length ∨ l.any (fun a => decide (a.name = n)) = true) (V : Told AttrD) (hV : Hid (attrL (r.s.data.toList.drop r.pos) l = V)) :
    Calls Try.prog 73 #[.pointer (some ⟨b, 0, none⟩)] w (AttrPost w B b r l V) := by
  obtain ⟨_, h1, _⟩ := h.all
  cases hv : nameL n with
  | false =>
    have HV : Hid (V = .bad 0 31) := by
      show _ = _
      rw [← hV.out]; unfold attrL; simp only [hw.out, hv]; rw [if_pos trivial]
    go_enter Try.func73, Try.ntmps73
    go_wp2_with fail
    refine (word_any b r w h hp hs n hw false hv _ rfl [] rfl).mono ?_
    rintro e W1 ⟨rfl, hW1, hg1⟩
    go_wp2_with fail
    go_ret
    rw [HV.out]
    exact ⟨below_of_grown hg1 hB hBw, rfl, _, hW1, rfl, rfl⟩
  | true =>
    have HB := Lib.hid hb
    have hvv : Hid (nameL n = true) := hv
    have hn1 : r.pos + n.length ≤ r.s.size := by
      have := wordL_len (r.s.data.toList.drop r.pos)
      rw [hw.out, List.length_drop, size_toList] at this; omega
    clear hb hv
    by_cases h20 : 20 ≤ l.length
    · have HV : Hid (V = .bad 0 33) := by
        show _ = _
        rw [← hV.out]; unfold attrL; simp only [hw.out, hvv.out]; rw [if_neg (by decide), if_pos h20]
      have h20' : (20 : Int) ≤ l.length := by omega
      clear h20
      go_enter Try.func73, Try.ntmps73
      go_wp2_with fail
      refine (word_any b r w h hp hs n hw true hvv _ rfl n rfl).mono ?_
      rintro e W1 ⟨rfl, hW1, hg1⟩
      have hW1' : RdAt W1 b { r with pos := r.pos + n.length } := hW1
      have z6 : W1.cell? ⟨b, 6, none⟩ = some (.slice r.A l.length r.c) := by rw [← hn]; exact hW1'.all.2.2.2.2.2.2.1
      go_wp2_with fail
      refine (fail_any b _ W1 hW1' r.pos 33).mono ?_
      rintro e W2 ⟨rfl, hW2, hg2⟩
      go_wp2_with fail
      go_ret
      rw [HV.out]
      exact ⟨below_of_grown (grown_twice hg1 hg2) hB hBw, rfl, _, hW2, rfl, rfl⟩
    · have hany : Hid (l.any (fun a => decide (a.name = n)) = true) := by
        rcases HB.out with h | h | h
        · rw [hvv.out] at h; cases h
        · exact absurd h h20
        · exact h
      have HV : Hid (V = .bad 0 32) := by
        show _ = _
        rw [← hV.out]; unfold attrL; simp only [hw.out, hvv.out]; rw [if_neg (by decide), if_neg h20, if_pos hany.out]
      have h20' : (l.length : Int) < 20 := by omega
      clear h20
      go_enter Try.func73, Try.ntmps73
      go_wp2_with fail
      refine (word_any b r w h hp hs n hw true hvv _ rfl n rfl).mono ?_
      rintro e W1 ⟨rfl, hW1, hg1⟩
      have hW1' : RdAt W1 b { r with pos := r.pos + n.length } := hW1
      have z6 : W1.cell? ⟨b, 6, none⟩ = some (.slice r.A l.length r.c) := by rw [← hn]; exact hW1'.all.2.2.2.2.2.2.1
      have hA1 := Lib.hid (attrs_kept h hA hg1)
      go_wp2_with fail
      refine (hasA_any b B _ W1 hW1' l hn hA1.out hl n true hany).mono ?_
      rintro e W2 ⟨rfl, hb2⟩
      go_wp2_with fail
      refine (fail_any b _ W2 (hW1'.below hb2) r.pos 32).mono ?_
      rintro e W3 ⟨rfl, hW3, hg3⟩
      go_wp2_with fail
      go_ret
      rw [HV.out]
      exact ⟨below_of_grown (grown_twice (Lib.grownBy_below hg1 hb2) hg3) hB hBw, rfl, _, hW3, rfl, rfl⟩


set_option maxRecDepth 100000 in
set_option maxHeartbeats 1000000 in
theorem attr_form (b B : Nat) (r : Rdr) (w : World) (h : RdAt w b r) (hB : B ≤ b) (hBw : B ≤ w.heap.size) (hp : r.pos ≤ r.s.size) (hs : r.s.size ≤ 1000000000) (l : List AttrD) (hn : r.n = l.length) (hA : AttrsOwn w B r.A r.c l) (hl : l.length ≤ 1000)
    (n : List UInt8) (hw : Hid (wordL (r.s.data.toList.drop r.pos) = n)) (hvv : Hid (nameL n = true)) (h20 : l.length < 20) (hany : Hid (l.any (fun a => decide (a.name = n)) = false)) (m1 m2 : Bool) (hm1 : Hid (pre [61] (r.s.data.toList.drop (r.pos + n.length)) = m1)) (hm2 : Hid (pre [34] (r.s.data.toList.drop (r.pos + n.length + 1)) = m2)) (hb : (m1 && m2) = false) (V : Told AttrD) (hV : Hid (attrL (r.s.data.toList.drop r.pos) l = V)) :
    Calls Try.prog 73 #[.pointer (some ⟨b, 0, none⟩)] w (AttrPost w B b r l V) := by
  have hn1 : r.pos + n.length ≤ r.s.size := by
    have := wordL_len (r.s.data.toList.drop r.pos)
    rw [hw.out, List.length_drop, size_toList] at this; omega
  have hVE : Hid (V = if m1 = false then .bad n.length 30 else if m2 = false then .bad (n.length + 1) 30 else valueT n (r.s.data.toList.drop (r.pos + (n.length + 2)))) := by
    show _ = _
    rw [← hV.out]; unfold attrL; simp only [hw.out, hvv.out, hany.out, List.drop_drop]
    rw [if_neg (by decide), if_neg (by omega), if_neg (by decide), hm1.out, show r.pos + (n.length + 1) = r.pos + n.length + 1 by omega, hm2.out]
  cases m1 with
  | false =>
    have HV : Hid (V = .bad n.length 30) := by show _ = _; rw [hVE.out, if_pos rfl]
    clear hb hVE
    obtain ⟨_, h1, _⟩ := h.all
    have h20' : (l.length : Int) < 20 := by omega
    go_enter Try.func73, Try.ntmps73
    go_wp2_with fail
    refine (word_any b r w h hp hs n hw true hvv _ rfl n rfl).mono ?_
    rintro e W1 ⟨rfl, hW1, hg1⟩
    have hW1' : RdAt W1 b { r with pos := r.pos + n.length } := hW1
    have z6 : W1.cell? ⟨b, 6, none⟩ = some (.slice r.A l.length r.c) := by rw [← hn]; exact hW1'.all.2.2.2.2.2.2.1
    have hA1 := Lib.hid (attrs_kept h hA hg1)
    go_wp2_with fail
    refine (hasA_any b B _ W1 hW1' l hn hA1.out hl n false hany).mono ?_
    rintro e W2 ⟨rfl, hb2⟩
    have hW2 := hW1'.below hb2
    have hg2 : w.grownBy W2 (some b) := Lib.grownBy_below hg1 hb2
    clear z6 h1 hW1 hW1'
    go_wp2_with fail
    refine (must_any b _ W2 hW2 [61] hn1 hs false hm1 (by decide)).mono ?_
    rintro e W3 ⟨rfl, hW3, hg3⟩
    go_wp2_with fail
    go_ret
    rw [HV.out]
    exact ⟨below_of_grown (grown_twice hg2 hg3) hB hBw, rfl, _, hW3, rfl, rfl⟩
  | true =>
    have hm2' : m2 = false := by simpa using hb
    subst hm2'
    have HV : Hid (V = .bad (n.length + 1) 30) := by show _ = _; rw [hVE.out, if_neg (by decide), if_pos rfl]
    have hn2 := pre1_len hm1.out
    rw [size_toList] at hn2
    clear hb hVE
    obtain ⟨_, h1, _⟩ := h.all
    have h20' : (l.length : Int) < 20 := by omega
    go_enter Try.func73, Try.ntmps73
    go_wp2_with fail
    refine (word_any b r w h hp hs n hw true hvv _ rfl n rfl).mono ?_
    rintro e W1 ⟨rfl, hW1, hg1⟩
    have hW1' : RdAt W1 b { r with pos := r.pos + n.length } := hW1
    have z6 : W1.cell? ⟨b, 6, none⟩ = some (.slice r.A l.length r.c) := by rw [← hn]; exact hW1'.all.2.2.2.2.2.2.1
    have hA1 := Lib.hid (attrs_kept h hA hg1)
    go_wp2_with fail
    refine (hasA_any b B _ W1 hW1' l hn hA1.out hl n false hany).mono ?_
    rintro e W2 ⟨rfl, hb2⟩
    have hW2 := hW1'.below hb2
    have hg2 : w.grownBy W2 (some b) := Lib.grownBy_below hg1 hb2
    clear z6 h1 hW1 hW1'
    go_wp2_with fail
    refine (must_any b _ W2 hW2 [61] hn1 hs true hm1 (by decide)).mono ?_
    rintro e W3 ⟨rfl, hW3, hg3⟩
    have hW3' : RdAt W3 b { r with pos := r.pos + n.length + 1 } := hW3
    obtain ⟨_, y1, _⟩ := hW3'.all
    clear hW3
    go_wp2_with fail
    refine (must_any b _ W3 hW3' [34] hn2 hs false hm2 (by decide)).mono ?_
    rintro e W4 ⟨rfl, hW4, hg4⟩
    go_wp2_with fail
    go_ret
    rw [HV.out]
    exact ⟨below_of_grown (grown_twice (grown_twice hg2 hg3) hg4) hB hBw, rfl, _, hW4, rfl, rfl⟩
end Go.Proofs.Ythifddkmbjnncaa
