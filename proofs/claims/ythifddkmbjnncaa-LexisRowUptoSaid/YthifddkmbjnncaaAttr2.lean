/-
  The reader of tokens: the walk of attr, its value.
-/
import Derived.Test.YthifddkmbjnncaaAttr
namespace Go.Proofs.Ythifddkmbjnncaa
open Go.RowKit


set_option maxRecDepth 100000 in
set_option maxHeartbeats 1000000 in
theorem attr_open (b B : Nat) (r : Rdr) (w : World) (h : RdAt w b r) (hB : B ≤ b) (hBw : B ≤ w.heap.size) (hp : r.pos ≤ r.s.size) (hs : r.s.size ≤ 1000000000) (l : List AttrD) (hn : r.n = l.length) (hA : AttrsOwn w B r.A r.c l) (hl : l.length ≤ 1000)
    (n : List UInt8) (hw : Hid (wordL (r.s.data.toList.drop r.pos) = n)) (hvv : Hid (nameL n = true)) (h20 : l.length < 20) (hany : Hid (l.any (fun a => decide (a.name = n)) = false)) (hm1 : Hid (pre [61] (r.s.data.toList.drop (r.pos + n.length)) = true)) (hm2 : Hid (pre [34] (r.s.data.toList.drop (r.pos + n.length + 1)) = true)) (Q : Nat) (hQ : Hid (r.pos + n.length + 1 + 1 = Q))
    (hv : ((r.s.data.toList.drop Q).takeWhile (· != 34)).length = (r.s.data.toList.drop Q).length) (V : Told AttrD) (hV : Hid (attrL (r.s.data.toList.drop r.pos) l = V)) :
    Calls Try.prog 73 #[.pointer (some ⟨b, 0, none⟩)] w (AttrPost w B b r l V) := by
  have HL := Lib.hid (size_toList r.s)
  have hn1 : r.pos + n.length ≤ r.s.size := by
    have := wordL_len (r.s.data.toList.drop r.pos)
    rw [hw.out, List.length_drop, HL.out] at this; omega
  have hn2 : r.pos + n.length + 1 ≤ r.s.size := by have := pre1_len hm1.out; rw [HL.out] at this; exact this
  have hn3 : Q ≤ r.s.size := by have := pre1_len hm2.out; rw [HL.out] at this; have := hQ.out; omega
  have hx : Hid ((r.s.extract Q r.s.size).data.toList = r.s.data.toList.drop Q) := Lib.extract_to_end _ _
  have hq : Hid (Lib.indexByte (r.s.data.toList.drop Q) 34 = -1) := idx_not 34 _ hv
  have i0 : (0 : Int) ≤ (Q : Int) := by omega
  have i1 : (Q : Int) ≤ r.s.size := by omega
  have HV : Hid (V = .bad (n.length + 2 + (r.s.data.toList.drop Q).length) 30) := by
    show _ = _
    rw [← hV.out]; unfold attrL; simp only [hw.out, hvv.out, hany.out, List.drop_drop]
    rw [if_neg (by decide), if_neg (by omega), if_neg (by decide), hm1.out, if_neg (by decide), show r.pos + (n.length + 1) = r.pos + n.length + 1 by omega, hm2.out, if_neg (by decide), show r.pos + (n.length + 2) = Q by have := hQ.out; omega]
    unfold valueT
    simp only
    rw [if_pos hv, hv]
  clear hv
  obtain ⟨_, h1, _⟩ := h.all
  have h20' : (l.length : Int) < 20 := by omega
  go_enter Try.func73, Try.ntmps73
  go_wp2_with fail
  refine (word_any b r w h hp hs n hw true hvv _ rfl n rfl).mono ?_
  rintro e W1 ⟨rfl, hW1, hg1⟩
  have hW1' : RdAt W1 b { r with pos := r.pos + n.length } := hW1
  have z6 : W1.cell? ⟨b, 6, none⟩ = some (.slice r.A l.length r.c) := by rw [← hn]; exact hW1'.all.2.2.2.2.2.2.1
  have hA1 := Lib.hid (attrs_kept h hA hg1)
  go_wp2_with fail
  refine (hasA_any b B _ W1 hW1' l hn hA1.out hl n false hany).mono ?_
  rintro e W2 ⟨rfl, hb2⟩
  have hW2 := hW1'.below hb2
  have hg2 : w.grownBy W2 (some b) := Lib.grownBy_below hg1 hb2
  clear z6 h1 hW1 hW1'
  go_wp2_with fail
  refine (must_any b _ W2 hW2 [61] hn1 hs true hm1 (by decide)).mono ?_
  rintro e W3 ⟨rfl, hW3, hg3⟩
  have hW3' : RdAt W3 b { r with pos := r.pos + n.length + 1 } := hW3
  obtain ⟨_, y1, _⟩ := hW3'.all
  clear hW3
  go_wp2_with fail
  refine (must_any b _ W3 hW3' [34] hn2 hs true hm2 (by decide)).mono ?_
  rintro e W4 ⟨rfl, hW4, hg4⟩
  have hW4' : RdAt W4 b { r with pos := Q } := by rw [← hQ.out]; exact hW4
  have hg5 := grown_twice (grown_twice hg2 hg3) hg4
  have HS : Hid (W4.drew.cell? ⟨b, 0, none⟩ = some (.string r.s) ∧ W4.drew.cell? ⟨b, 1, none⟩ = some (.int .i64 Q)) := ⟨hW4'.all.1, hW4'.all.2.1⟩
  clear hW4 y1
  go_wp2_with fail
  refine wp_region_held_drew (S := fun w' => w'.cell? ⟨b, 0, none⟩ = some (.string r.s) ∧ w'.cell? ⟨b, 1, none⟩ = some (.int .i64 Q)) (by kernel_rfl) HS.out (fun hHeld => ?_)
  refine wpAnyH_take (i := 0) (oi := ⟨_, _, _, _, _, _⟩) (v := ?_) rfl (by kernel_rfl) (by kernel_rfl) (by kernel_rfl) (fun _ _ _ h => h) (Or.inl ⟨by rfl, ?_⟩) (by assumption) ?_
  rotate_left
  · (intro wS hSw; (try dsimp only at hSw); go_simp); all_goals with_reducible rfl
  try simp only [Act.put, List.setIfInBounds_toArray, List.set_cons_zero, List.set_cons_succ]
  refine wpAnyH_take (i := 1) (oi := ⟨_, _, _, _, _, _⟩) (v := ?_) rfl (by kernel_rfl) (by kernel_rfl) (by kernel_rfl) (fun _ _ _ h => h) (Or.inl ⟨by rfl, ?_⟩) (by assumption) ?_
  rotate_left
  · (intro wS hSw; (try dsimp only at hSw); go_simp); all_goals with_reducible rfl
  try simp only [Act.put, List.setIfInBounds_toArray, List.set_cons_zero, List.set_cons_succ]
  refine wpAnyH_take (i := 2) (oi := ⟨_, _, _, _, _, _⟩) (v := ?_) rfl (by kernel_rfl) (by kernel_rfl) (by kernel_rfl) (fun _ _ _ h => h) (Or.inl ⟨by rfl, ?_⟩) (by assumption) ?_
  rotate_left
  · (intro wS hSw; (try dsimp only at hSw); go_simp); all_goals with_reducible rfl
  try simp only [Act.put, List.setIfInBounds_toArray, List.set_cons_zero, List.set_cons_succ]
  refine wpAnyH_take (i := 3) (oi := ⟨_, _, _, _, _, _⟩) (v := ?_) rfl (by kernel_rfl) (by kernel_rfl) (by kernel_rfl) (fun _ _ _ h => h) (Or.inl ⟨by rfl, ?_⟩) (by assumption) ?_
  rotate_left
  · (intro wS hSw; (try dsimp only at hSw); go_simp); all_goals with_reducible rfl
  try simp only [Act.put, List.setIfInBounds_toArray, List.set_cons_zero, List.set_cons_succ]
  refine wpAnyH_take (i := 4) (oi := ⟨_, _, _, _, _, _⟩) (v := ?_) rfl (by kernel_rfl) (by kernel_rfl) (by kernel_rfl) (fun _ _ _ h => h) (Or.inl ⟨by rfl, ?_⟩) (by assumption) ?_
  rotate_left
  · (intro wS hSw; (try dsimp only at hSw); go_simp); all_goals with_reducible rfl
  try simp only [Act.put, List.setIfInBounds_toArray, List.set_cons_zero, List.set_cons_succ]
  refine wpAnyH_take (i := 5) (oi := ⟨_, _, _, _, _, _⟩) (v := ?_) rfl (by kernel_rfl) (by kernel_rfl) (by kernel_rfl) (fun _ _ _ h => h) (Or.inl ⟨by rfl, ?_⟩) (by assumption) ?_
  rotate_left
  · (intro wS hSw; (try dsimp only at hSw); go_simp); all_goals with_reducible rfl
  try simp only [Act.put, List.setIfInBounds_toArray, List.set_cons_zero, List.set_cons_succ]
  refine wpAnyH_take (i := 6) (oi := ⟨_, _, _, _, _, _⟩) (v := ?_) rfl (by kernel_rfl) (by kernel_rfl) (by kernel_rfl) (fun _ _ _ h => h) (Or.inl ⟨by rfl, ?_⟩) (by assumption) ?_
  rotate_left
  · (intro wS hSw; (try dsimp only at hSw); go_simp); all_goals with_reducible rfl
  try simp only [Act.put, List.setIfInBounds_toArray, List.set_cons_zero, List.set_cons_succ]
  refine wpAnyH_take (i := 7) (oi := ⟨_, _, _, _, _, _⟩) (v := ?_) rfl (by kernel_rfl) (by kernel_rfl) (by kernel_rfl) (fun _ _ _ h => h) (Or.inl ⟨by rfl, ?_⟩) (by assumption) ?_
  rotate_left
  · (intro wS hSw; (try dsimp only at hSw); go_simp); all_goals with_reducible rfl
  try simp only [Act.put, List.setIfInBounds_toArray, List.set_cons_zero, List.set_cons_succ]
  refine wpAnyH_take (i := 8) (oi := ⟨_, _, _, _, _, _⟩) (v := ?_) rfl (by kernel_rfl) (by kernel_rfl) (by kernel_rfl) (fun _ _ _ h => h) (Or.inl ⟨by rfl, ?_⟩) (by assumption) ?_
  rotate_left
  · (intro wS hSw; (try dsimp only at hSw); go_simp); all_goals with_reducible rfl
  try simp only [Act.put, List.setIfInBounds_toArray, List.set_cons_zero, List.set_cons_succ]
  refine wpAnyH_ready (rs := [9]) (by kernel_rfl) (by simp) ?_
  refine AllReadyH.cons (o := ⟨_, _, _, _, _, _⟩) rfl (fun K hK => ?_) AllReadyH.nil
  go_simp
  refine (Try.strings_IndexByte _ _ _).mono ?_
  rw [hx.out]
  rintro e w2 ⟨rfl, rfl⟩
  rw [show ((34 : Int)).toNat.toUInt8 = 34 from rfl, hq.out]
  go_wp2_with fail
  refine hK.out _ _ (HS.out) (fun hHeld => ?_)
  clear hK K
  try simp only [Act.put, List.setIfInBounds_toArray, List.set_cons_zero, List.set_cons_succ]
  refine wpAnyH_take (i := 10) (oi := ⟨_, _, _, _, _, _⟩) (v := ?_) rfl (by kernel_rfl) (by kernel_rfl) (by kernel_rfl) (fun _ _ _ h => h) (Or.inl ⟨by rfl, ?_⟩) (by assumption) ?_
  rotate_left
  · (intro wS hSw; (try dsimp only at hSw); go_simp); all_goals with_reducible rfl
  try simp only [Act.put, List.setIfInBounds_toArray, List.set_cons_zero, List.set_cons_succ]
  refine wpAnyH_done (by kernel_rfl) ?_ _
  clear hHeld
  have hW4d := hW4'.drew
  obtain ⟨u0, _⟩ := hW4d.all
  go_wp2_with fail
  refine (fail_any b _ W4.drew hW4d r.s.size 30).mono ?_
  rintro e W5 ⟨rfl, hW5, hg6⟩
  go_wp2_with fail
  go_ret
  rw [HV.out]
  refine ⟨below_of_grown (grown_twice (grown_drew hg5) hg6) hB hBw, rfl, _, hW5, ?_, rfl⟩
  show (r.s.size : Int) = _
  rw [List.length_drop, HL.out]
  have := hQ.out
  omega

theorem RdAt.kept {w w' : World} {b : Nat} {r : Rdr} (h : RdAt w b r) {k : Option Nat} (hg : w.grownBy w' k) (hk : k ≠ some b) : RdAt w' b r := by
  unfold RdAt; rw [hg.block b h.lt (fun e => hk e.symm)]; exact h
theorem rd_apart {w : World} {b B : Nat} {r : Rdr} (h : RdAt w b r) {A : Option Addr} {c : Nat} {l : List AttrD} (hA : AttrsOwn w B A c l) : (Value.slice A l.length c).ownBlock ≠ some b := by
  intro hv
  obtain ⟨_, _, cur, hc⟩ := own_type hA b hv
  unfold RdAt at h
  rw [hc] at h
  injection h with h
  injection h with _ h
  exact absurd h (by decide)


set_option maxRecDepth 100000 in
set_option maxHeartbeats 2000000 in
theorem attr_amiss (b B : Nat) (r : Rdr) (w : World) (h : RdAt w b r) (hB : B ≤ b) (hBw : B ≤ w.heap.size) (hp : r.pos ≤ r.s.size) (hs : r.s.size ≤ 1000000000) (l : List AttrD) (hn : r.n = l.length) (hA : AttrsOwn w B r.A r.c l) (hl : l.length ≤ 1000)
    (n : List UInt8) (hw : Hid (wordL (r.s.data.toList.drop r.pos) = n)) (hvv : Hid (nameL n = true)) (h20 : l.length < 20) (hany : Hid (l.any (fun a => decide (a.name = n)) = false)) (hm1 : Hid (pre [61] (r.s.data.toList.drop (r.pos + n.length)) = true)) (hm2 : Hid (pre [34] (r.s.data.toList.drop (r.pos + n.length + 1)) = true)) (Q : Nat) (hQ : Hid (r.pos + n.length + 1 + 1 = Q))
    (t : List UInt8) (ht : Hid ((r.s.data.toList.drop Q).takeWhile (· != 34) = t)) (k : Nat) (hk : Hid (t.length = k)) (hv : ((r.s.data.toList.drop Q).takeWhile (· != 34)).length ≠ (r.s.data.toList.drop Q).length) (u : List UInt8) (m : Nat) (e : Int) (hu : Hid (undoL true t = (u, m, e))) (he : e ≠ 0) (V : Told AttrD) (hV : Hid (attrL (r.s.data.toList.drop r.pos) l = V)) :
    Calls Try.prog 73 #[.pointer (some ⟨b, 0, none⟩)] w (AttrPost w B b r l V) := by
  have HE := Lib.hid he
  have hd : decide (e = 0) = false := decide_eq_false he
  clear he
  have HL := Lib.hid (size_toList r.s)
  have hn1 : r.pos + n.length ≤ r.s.size := by
    have := wordL_len (r.s.data.toList.drop r.pos)
    rw [hw.out, List.length_drop, HL.out] at this; omega
  have hn2 : r.pos + n.length + 1 ≤ r.s.size := by have := pre1_len hm1.out; rw [HL.out] at this; exact this
  have hn3 : Q ≤ r.s.size := by have := pre1_len hm2.out; rw [HL.out] at this; have := hQ.out; omega
  have hx : Hid ((r.s.extract Q r.s.size).data.toList = r.s.data.toList.drop Q) := Lib.extract_to_end _ _
  have hkl : Q + k < r.s.size := by
    have := takeWhile_len (· != 34) (r.s.data.toList.drop Q)
    rw [ht.out] at this hv
    rw [List.length_drop, HL.out] at this hv
    have := hk.out
    omega
  have hq : Hid (Lib.indexByte (r.s.data.toList.drop Q) 34 = (k : Nat)) := by
    show _ = _
    rw [← hk.out, ← ht.out]
    exact idx_yes 34 _ hv
  have htk : Hid ((r.s.data.toList.drop Q).take (Q + k - Q) = t) := by
    show _ = _
    have h2 := span_word (r.s.data.toList.drop Q) (· != 34)
    rw [ht.out] at h2
    rw [show Q + k - Q = t.length by have := hk.out; omega]
    conv => lhs; rw [h2]
    rw [List.take_append_of_le_length (Nat.le_refl _), List.take_length]
  have hU : Hid (undoL true ((r.s.data.toList.drop Q).take (Q + k - Q)) = (u, m, e)) := by show _ = _; rw [htk.out]; exact hu.out
  have i0 : (0 : Int) ≤ (Q : Int) := by omega
  have i1 : (Q : Int) ≤ r.s.size := by omega
  have i2 : (Q : Int) + k < r.s.size := by omega
  have HV : Hid (V = .bad (n.length + 2 + m) e) := by
    show _ = _
    rw [← hV.out]; unfold attrL; simp only [hw.out, hvv.out, hany.out, List.drop_drop]
    rw [if_neg (by decide), if_neg (by omega), if_neg (by decide), hm1.out, if_neg (by decide), show r.pos + (n.length + 1) = r.pos + n.length + 1 by omega, hm2.out, if_neg (by decide), show r.pos + (n.length + 2) = Q by have := hQ.out; omega]
    unfold valueT
    simp only
    rw [if_neg hv, ht.out, hu.out, hk.out]
    rw [if_pos HE.out]
  have hJ : Hid (((Q : Int) + k) = ((Q + k : Nat) : Int)) := by show _ = _; omega
  clear hv
  obtain ⟨_, h1, _⟩ := h.all
  have h20' : (l.length : Int) < 20 := by omega
  go_enter Try.func73, Try.ntmps73
  go_wp2_with fail
  refine (word_any b r w h hp hs n hw true hvv _ rfl n rfl).mono ?_
  rintro e W1 ⟨rfl, hW1, hg1⟩
  have hW1' : RdAt W1 b { r with pos := r.pos + n.length } := hW1
  have z6 : W1.cell? ⟨b, 6, none⟩ = some (.slice r.A l.length r.c) := by rw [← hn]; exact hW1'.all.2.2.2.2.2.2.1
  have hA1 := Lib.hid (attrs_kept h hA hg1)
  go_wp2_with fail
  refine (hasA_any b B _ W1 hW1' l hn hA1.out hl n false hany).mono ?_
  rintro e W2 ⟨rfl, hb2⟩
  have hW2 := hW1'.below hb2
  have hg2 : w.grownBy W2 (some b) := Lib.grownBy_below hg1 hb2
  clear z6 h1 hW1 hW1'
  go_wp2_with fail
  refine (must_any b _ W2 hW2 [61] hn1 hs true hm1 (by decide)).mono ?_
  rintro e W3 ⟨rfl, hW3, hg3⟩
  have hW3' : RdAt W3 b { r with pos := r.pos + n.length + 1 } := hW3
  obtain ⟨_, y1, _⟩ := hW3'.all
  clear hW3
  go_wp2_with fail
  refine (must_any b _ W3 hW3' [34] hn2 hs true hm2 (by decide)).mono ?_
  rintro e W4 ⟨rfl, hW4, hg4⟩
  have hW4' : RdAt W4 b { r with pos := Q } := by rw [← hQ.out]; exact hW4
  have hg5 := grown_twice (grown_twice hg2 hg3) hg4
  have HS : Hid (W4.drew.cell? ⟨b, 0, none⟩ = some (.string r.s) ∧ W4.drew.cell? ⟨b, 1, none⟩ = some (.int .i64 Q)) := ⟨hW4'.all.1, hW4'.all.2.1⟩
  clear hW4 y1
  go_wp2_with fail
  refine wp_region_held_drew (S := fun w' => w'.cell? ⟨b, 0, none⟩ = some (.string r.s) ∧ w'.cell? ⟨b, 1, none⟩ = some (.int .i64 Q)) (by kernel_rfl) HS.out (fun hHeld => ?_)
  refine wpAnyH_take (i := 0) (oi := ⟨_, _, _, _, _, _⟩) (v := ?_) rfl (by kernel_rfl) (by kernel_rfl) (by kernel_rfl) (fun _ _ _ h => h) (Or.inl ⟨by rfl, ?_⟩) (by assumption) ?_
  rotate_left
  · (intro wS hSw; (try dsimp only at hSw); go_simp); all_goals with_reducible rfl
  try simp only [Act.put, List.setIfInBounds_toArray, List.set_cons_zero, List.set_cons_succ]
  refine wpAnyH_take (i := 1) (oi := ⟨_, _, _, _, _, _⟩) (v := ?_) rfl (by kernel_rfl) (by kernel_rfl) (by kernel_rfl) (fun _ _ _ h => h) (Or.inl ⟨by rfl, ?_⟩) (by assumption) ?_
  rotate_left
  · (intro wS hSw; (try dsimp only at hSw); go_simp); all_goals with_reducible rfl
  try simp only [Act.put, List.setIfInBounds_toArray, List.set_cons_zero, List.set_cons_succ]
  refine wpAnyH_take (i := 2) (oi := ⟨_, _, _, _, _, _⟩) (v := ?_) rfl (by kernel_rfl) (by kernel_rfl) (by kernel_rfl) (fun _ _ _ h => h) (Or.inl ⟨by rfl, ?_⟩) (by assumption) ?_
  rotate_left
  · (intro wS hSw; (try dsimp only at hSw); go_simp); all_goals with_reducible rfl
  try simp only [Act.put, List.setIfInBounds_toArray, List.set_cons_zero, List.set_cons_succ]
  refine wpAnyH_take (i := 3) (oi := ⟨_, _, _, _, _, _⟩) (v := ?_) rfl (by kernel_rfl) (by kernel_rfl) (by kernel_rfl) (fun _ _ _ h => h) (Or.inl ⟨by rfl, ?_⟩) (by assumption) ?_
  rotate_left
  · (intro wS hSw; (try dsimp only at hSw); go_simp); all_goals with_reducible rfl
  try simp only [Act.put, List.setIfInBounds_toArray, List.set_cons_zero, List.set_cons_succ]
  refine wpAnyH_take (i := 4) (oi := ⟨_, _, _, _, _, _⟩) (v := ?_) rfl (by kernel_rfl) (by kernel_rfl) (by kernel_rfl) (fun _ _ _ h => h) (Or.inl ⟨by rfl, ?_⟩) (by assumption) ?_
  rotate_left
  · (intro wS hSw; (try dsimp only at hSw); go_simp); all_goals with_reducible rfl
  try simp only [Act.put, List.setIfInBounds_toArray, List.set_cons_zero, List.set_cons_succ]
  refine wpAnyH_take (i := 5) (oi := ⟨_, _, _, _, _, _⟩) (v := ?_) rfl (by kernel_rfl) (by kernel_rfl) (by kernel_rfl) (fun _ _ _ h => h) (Or.inl ⟨by rfl, ?_⟩) (by assumption) ?_
  rotate_left
  · (intro wS hSw; (try dsimp only at hSw); go_simp); all_goals with_reducible rfl
  try simp only [Act.put, List.setIfInBounds_toArray, List.set_cons_zero, List.set_cons_succ]
  refine wpAnyH_take (i := 6) (oi := ⟨_, _, _, _, _, _⟩) (v := ?_) rfl (by kernel_rfl) (by kernel_rfl) (by kernel_rfl) (fun _ _ _ h => h) (Or.inl ⟨by rfl, ?_⟩) (by assumption) ?_
  rotate_left
  · (intro wS hSw; (try dsimp only at hSw); go_simp); all_goals with_reducible rfl
  try simp only [Act.put, List.setIfInBounds_toArray, List.set_cons_zero, List.set_cons_succ]
  refine wpAnyH_take (i := 7) (oi := ⟨_, _, _, _, _, _⟩) (v := ?_) rfl (by kernel_rfl) (by kernel_rfl) (by kernel_rfl) (fun _ _ _ h => h) (Or.inl ⟨by rfl, ?_⟩) (by assumption) ?_
  rotate_left
  · (intro wS hSw; (try dsimp only at hSw); go_simp); all_goals with_reducible rfl
  try simp only [Act.put, List.setIfInBounds_toArray, List.set_cons_zero, List.set_cons_succ]
  refine wpAnyH_take (i := 8) (oi := ⟨_, _, _, _, _, _⟩) (v := ?_) rfl (by kernel_rfl) (by kernel_rfl) (by kernel_rfl) (fun _ _ _ h => h) (Or.inl ⟨by rfl, ?_⟩) (by assumption) ?_
  rotate_left
  · (intro wS hSw; (try dsimp only at hSw); go_simp); all_goals with_reducible rfl
  try simp only [Act.put, List.setIfInBounds_toArray, List.set_cons_zero, List.set_cons_succ]
  refine wpAnyH_ready (rs := [9]) (by kernel_rfl) (by simp) ?_
  refine AllReadyH.cons (o := ⟨_, _, _, _, _, _⟩) rfl (fun K hK => ?_) AllReadyH.nil
  go_simp
  refine (Try.strings_IndexByte _ _ _).mono ?_
  rw [hx.out]
  rintro e w2 ⟨rfl, rfl⟩
  rw [show ((34 : Int)).toNat.toUInt8 = 34 from rfl, hq.out]
  go_wp2_with fail
  refine hK.out _ _ (HS.out) (fun hHeld => ?_)
  clear hK K
  try simp only [Act.put, List.setIfInBounds_toArray, List.set_cons_zero, List.set_cons_succ]
  refine wpAnyH_take (i := 10) (oi := ⟨_, _, _, _, _, _⟩) (v := ?_) rfl (by kernel_rfl) (by kernel_rfl) (by kernel_rfl) (fun _ _ _ h => h) (Or.inl ⟨by rfl, ?_⟩) (by assumption) ?_
  rotate_left
  · (intro wS hSw; (try dsimp only at hSw); go_simp); all_goals with_reducible rfl
  try simp only [Act.put, List.setIfInBounds_toArray, List.set_cons_zero, List.set_cons_succ]
  refine wpAnyH_done (by kernel_rfl) ?_ _
  clear hHeld
  have HS2 : Hid (W4.drew.drew.cell? ⟨b, 0, none⟩ = some (.string r.s) ∧ W4.drew.drew.cell? ⟨b, 1, none⟩ = some (.int .i64 Q)) := ⟨hW4'.all.1, hW4'.all.2.1⟩
  have kn0 : (0 : Int) ≤ (k : Int) := by omega
  have hwr : IntKind.i64.wrap ((Q : Int) + k) = (Q : Int) + k :=
    IntWalk.i64_in _ (by omega)
  go_wp2_with fail
  refine wp_region_held_drew (S := fun w' => w'.cell? ⟨b, 0, none⟩ = some (.string r.s) ∧ w'.cell? ⟨b, 1, none⟩ = some (.int .i64 Q)) (by kernel_rfl) HS2.out (fun hHeld => ?_)
  refine wpAnyH_take (i := 0) (oi := ⟨_, _, _, _, _, _⟩) (v := ?_) rfl (by kernel_rfl) (by kernel_rfl) (by kernel_rfl) (fun _ _ _ h => h) (Or.inl ⟨by rfl, ?_⟩) (by assumption) ?_
  rotate_left
  · (intro wS hSw; (try dsimp only at hSw); go_simp); all_goals with_reducible rfl
  try simp only [Act.put, List.setIfInBounds_toArray, List.set_cons_zero, List.set_cons_succ]
  refine wpAnyH_take (i := 1) (oi := ⟨_, _, _, _, _, _⟩) (v := ?_) rfl (by kernel_rfl) (by kernel_rfl) (by kernel_rfl) (fun _ _ _ h => h) (Or.inl ⟨by rfl, ?_⟩) (by assumption) ?_
  rotate_left
  · (intro wS hSw; (try dsimp only at hSw); go_simp); all_goals with_reducible rfl
  try simp only [Act.put, List.setIfInBounds_toArray, List.set_cons_zero, List.set_cons_succ]
  refine wpAnyH_take (i := 2) (oi := ⟨_, _, _, _, _, _⟩) (v := ?_) rfl (by kernel_rfl) (by kernel_rfl) (by kernel_rfl) (fun _ _ _ h => h) (Or.inl ⟨by rfl, ?_⟩) (by assumption) ?_
  rotate_left
  · (intro wS hSw; (try dsimp only at hSw); go_simp); all_goals with_reducible rfl
  try simp only [Act.put, List.setIfInBounds_toArray, List.set_cons_zero, List.set_cons_succ]
  refine wpAnyH_take (i := 3) (oi := ⟨_, _, _, _, _, _⟩) (v := ?_) rfl (by kernel_rfl) (by kernel_rfl) (by kernel_rfl) (fun _ _ _ h => h) (Or.inl ⟨by rfl, ?_⟩) (by assumption) ?_
  rotate_left
  · (intro wS hSw; (try dsimp only at hSw); go_simp); all_goals with_reducible rfl
  try simp only [Act.put, List.setIfInBounds_toArray, List.set_cons_zero, List.set_cons_succ]
  refine wpAnyH_take (i := 4) (oi := ⟨_, _, _, _, _, _⟩) (v := ?_) rfl (by kernel_rfl) (by kernel_rfl) (by kernel_rfl) (fun _ _ _ h => h) (Or.inl ⟨by rfl, ?_⟩) (by assumption) ?_
  rotate_left
  · (intro wS hSw; (try dsimp only at hSw); go_simp); all_goals with_reducible rfl
  try simp only [Act.put, List.setIfInBounds_toArray, List.set_cons_zero, List.set_cons_succ]
  refine wpAnyH_take (i := 5) (oi := ⟨_, _, _, _, _, _⟩) (v := ?_) rfl (by kernel_rfl) (by kernel_rfl) (by kernel_rfl) (fun _ _ _ h => h) (Or.inl ⟨by rfl, ?_⟩) (by assumption) ?_
  rotate_left
  · (intro wS hSw; (try dsimp only at hSw); go_simp); all_goals with_reducible rfl
  try simp only [Act.put, List.setIfInBounds_toArray, List.set_cons_zero, List.set_cons_succ]
  refine wpAnyH_take (i := 6) (oi := ⟨_, _, _, _, _, _⟩) (v := ?_) rfl (by kernel_rfl) (by kernel_rfl) (by kernel_rfl) (fun _ _ _ h => h) (Or.inl ⟨by rfl, ?_⟩) (by assumption) ?_
  rotate_left
  · (intro wS hSw; (try dsimp only at hSw); go_simp); all_goals with_reducible rfl
  try simp only [Act.put, List.setIfInBounds_toArray, List.set_cons_zero, List.set_cons_succ]
  refine wpAnyH_take (i := 7) (oi := ⟨_, _, _, _, _, _⟩) (v := ?_) rfl (by kernel_rfl) (by kernel_rfl) (by kernel_rfl) (fun _ _ _ h => h) (Or.inl ⟨by rfl, ?_⟩) (by assumption) ?_
  rotate_left
  · (intro wS hSw; (try dsimp only at hSw); go_simp); all_goals with_reducible rfl
  try simp only [Act.put, List.setIfInBounds_toArray, List.set_cons_zero, List.set_cons_succ]
  refine wpAnyH_take (i := 8) (oi := ⟨_, _, _, _, _, _⟩) (v := ?_) rfl (by kernel_rfl) (by kernel_rfl) (by kernel_rfl) (fun _ _ _ h => h) (Or.inl ⟨by rfl, ?_⟩) (by assumption) ?_
  rotate_left
  · (intro wS hSw; (try dsimp only at hSw); go_simp); all_goals with_reducible rfl
  try simp only [Act.put, List.setIfInBounds_toArray, List.set_cons_zero, List.set_cons_succ]
  refine wpAnyH_take (i := 9) (oi := ⟨_, _, _, _, _, _⟩) (v := ?_) rfl (by kernel_rfl) (by kernel_rfl) (by kernel_rfl) (fun _ _ _ h => h) (Or.inl ⟨by rfl, ?_⟩) (by assumption) ?_
  rotate_left
  · (intro wS hSw; (try dsimp only at hSw); go_simp); all_goals with_reducible rfl
  try simp only [Act.put, List.setIfInBounds_toArray, List.set_cons_zero, List.set_cons_succ]
  refine wpAnyH_take (i := 10) (oi := ⟨_, _, _, _, _, _⟩) (v := ?_) rfl (by kernel_rfl) (by kernel_rfl) (by kernel_rfl) (fun _ _ _ h => h) (Or.inl ⟨by rfl, ?_⟩) (by assumption) ?_
  rotate_left
  · (intro wS hSw; (try dsimp only at hSw); go_simp); all_goals with_reducible rfl
  try simp only [Act.put, List.setIfInBounds_toArray, List.set_cons_zero, List.set_cons_succ]
  refine wpAnyH_ready (rs := [11]) (by kernel_rfl) (by simp) ?_
  refine AllReadyH.cons (o := ⟨_, _, _, _, _, _⟩) rfl (fun K hK => ?_) AllReadyH.nil
  go_simp
  refine (undone_at b { r with pos := Q } W4.drew.drew hW4'.drew.drew Q (Q + k) (Nat.le_add_right _ _) (Nat.le_of_lt hkl) hs true (u, m, e) hU _ hJ).mono ?_
  rintro e2 W5 ⟨rfl, hW5, hg6⟩
  have hgW : w.grownBy W5 (some b) := grown_twice (grown_drew (grown_drew hg5)) hg6
  have hW5' : RdAt W5 b (if e = 0 then { r with pos := Q } else { r with pos := Q, bad := (Q : Int) + m, code := e }) := hW5
  rw [if_neg HE.out] at hW5'
  have HS5 : Hid (W5.cell? ⟨b, 0, none⟩ = some (.string r.s) ∧ W5.cell? ⟨b, 1, none⟩ = some (.int .i64 Q)) := ⟨hW5'.all.1, hW5'.all.2.1⟩
  go_wp2_with fail
  refine hK.out _ _ (HS5.out) (fun hHeld => ?_)
  clear hK K
  try simp only [Act.put, List.setIfInBounds_toArray, List.set_cons_zero, List.set_cons_succ]
  refine wpAnyH_take (i := 12) (oi := ⟨_, _, _, _, _, _⟩) (v := ?_) rfl (by kernel_rfl) (by kernel_rfl) (by kernel_rfl) (fun _ _ _ h => h) (Or.inl ⟨by rfl, ?_⟩) (by assumption) ?_
  rotate_left
  · (intro wS hSw; (try dsimp only at hSw); go_simp); all_goals with_reducible rfl
  try simp only [Act.put, List.setIfInBounds_toArray, List.set_cons_zero, List.set_cons_succ]
  refine wpAnyH_take (i := 13) (oi := ⟨_, _, _, _, _, _⟩) (v := ?_) rfl (by kernel_rfl) (by kernel_rfl) (by kernel_rfl) (fun _ _ _ h => h) (Or.inl ⟨by rfl, ?_⟩) (by assumption) ?_
  rotate_left
  · (intro wS hSw; (try dsimp only at hSw); go_simp); all_goals with_reducible rfl
  try simp only [Act.put, List.setIfInBounds_toArray, List.set_cons_zero, List.set_cons_succ]
  refine wpAnyH_take (i := 14) (oi := ⟨_, _, _, _, _, _⟩) (v := ?_) rfl (by kernel_rfl) (by kernel_rfl) (by kernel_rfl) (fun _ _ _ h => h) (Or.inl ⟨by rfl, ?_⟩) (by assumption) ?_
  rotate_left
  · (intro wS hSw; (try dsimp only at hSw); go_simp); all_goals with_reducible rfl
  try simp only [Act.put, List.setIfInBounds_toArray, List.set_cons_zero, List.set_cons_succ]
  refine wpAnyH_take (i := 15) (oi := ⟨_, _, _, _, _, _⟩) (v := ?_) rfl (by kernel_rfl) (by kernel_rfl) (by kernel_rfl) (fun _ _ _ h => h) (Or.inl ⟨by rfl, ?_⟩) (by assumption) ?_
  rotate_left
  · (intro wS hSw; (try dsimp only at hSw); go_simp); all_goals with_reducible rfl
  try simp only [Act.put, List.setIfInBounds_toArray, List.set_cons_zero, List.set_cons_succ]
  refine wpAnyH_take (i := 16) (oi := ⟨_, _, _, _, _, _⟩) (v := ?_) rfl (by kernel_rfl) (by kernel_rfl) (by kernel_rfl) (fun _ _ _ h => h) (Or.inl ⟨by rfl, ?_⟩) (by assumption) ?_
  rotate_left
  · (intro wS hSw; (try dsimp only at hSw); go_simp); all_goals with_reducible rfl
  try simp only [Act.put, List.setIfInBounds_toArray, List.set_cons_zero, List.set_cons_succ]
  refine wpAnyH_done (by kernel_rfl) ?_ _
  clear hHeld
  go_wp2_with fail
  go_ret
  rw [HV.out]
  refine ⟨below_of_grown hgW hB hBw, rfl, _, hW5', ?_, rfl⟩
  show (Q : Int) + m = _
  have := hQ.out
  omega

set_option maxRecDepth 100000 in
set_option maxHeartbeats 2000000 in
theorem attr_long (b B : Nat) (r : Rdr) (w : World) (h : RdAt w b r) (hB : B ≤ b) (hBw : B ≤ w.heap.size) (hp : r.pos ≤ r.s.size) (hs : r.s.size ≤ 1000000000) (l : List AttrD) (hn : r.n = l.length) (hA : AttrsOwn w B r.A r.c l) (hl : l.length ≤ 1000)
    (n : List UInt8) (hw : Hid (wordL (r.s.data.toList.drop r.pos) = n)) (hvv : Hid (nameL n = true)) (h20 : l.length < 20) (hany : Hid (l.any (fun a => decide (a.name = n)) = false)) (hm1 : Hid (pre [61] (r.s.data.toList.drop (r.pos + n.length)) = true)) (hm2 : Hid (pre [34] (r.s.data.toList.drop (r.pos + n.length + 1)) = true)) (Q : Nat) (hQ : Hid (r.pos + n.length + 1 + 1 = Q))
    (t : List UInt8) (ht : Hid ((r.s.data.toList.drop Q).takeWhile (· != 34) = t)) (k : Nat) (hk : Hid (t.length = k)) (hv : ((r.s.data.toList.drop Q).takeWhile (· != 34)).length ≠ (r.s.data.toList.drop Q).length) (u : List UInt8) (m : Nat) (hu : Hid (undoL true t = (u, m, 0))) (hlong : 1500 < u.length) (V : Told AttrD) (hV : Hid (attrL (r.s.data.toList.drop r.pos) l = V)) :
    Calls Try.prog 73 #[.pointer (some ⟨b, 0, none⟩)] w (AttrPost w B b r l V) := by
  have hlong' : (1500 : Int) < u.length := by omega
  have HL := Lib.hid (size_toList r.s)
  have hn1 : r.pos + n.length ≤ r.s.size := by
    have := wordL_len (r.s.data.toList.drop r.pos)
    rw [hw.out, List.length_drop, HL.out] at this; omega
  have hn2 : r.pos + n.length + 1 ≤ r.s.size := by have := pre1_len hm1.out; rw [HL.out] at this; exact this
  have hn3 : Q ≤ r.s.size := by have := pre1_len hm2.out; rw [HL.out] at this; have := hQ.out; omega
  have hx : Hid ((r.s.extract Q r.s.size).data.toList = r.s.data.toList.drop Q) := Lib.extract_to_end _ _
  have hkl : Q + k < r.s.size := by
    have := takeWhile_len (· != 34) (r.s.data.toList.drop Q)
    rw [ht.out] at this hv
    rw [List.length_drop, HL.out] at this hv
    have := hk.out
    omega
  have hq : Hid (Lib.indexByte (r.s.data.toList.drop Q) 34 = (k : Nat)) := by
    show _ = _
    rw [← hk.out, ← ht.out]
    exact idx_yes 34 _ hv
  have htk : Hid ((r.s.data.toList.drop Q).take (Q + k - Q) = t) := by
    show _ = _
    have h2 := span_word (r.s.data.toList.drop Q) (· != 34)
    rw [ht.out] at h2
    rw [show Q + k - Q = t.length by have := hk.out; omega]
    conv => lhs; rw [h2]
    rw [List.take_append_of_le_length (Nat.le_refl _), List.take_length]
  have hU : Hid (undoL true ((r.s.data.toList.drop Q).take (Q + k - Q)) = (u, m, 0)) := by show _ = _; rw [htk.out]; exact hu.out
  have i0 : (0 : Int) ≤ (Q : Int) := by omega
  have i1 : (Q : Int) ≤ r.s.size := by omega
  have i2 : (Q : Int) + k < r.s.size := by omega
  have HV : Hid (V = .bad (n.length + 1) 34) := by
    show _ = _
    rw [← hV.out]; unfold attrL; simp only [hw.out, hvv.out, hany.out, List.drop_drop]
    rw [if_neg (by decide), if_neg (by omega), if_neg (by decide), hm1.out, if_neg (by decide), show r.pos + (n.length + 1) = r.pos + n.length + 1 by omega, hm2.out, if_neg (by decide), show r.pos + (n.length + 2) = Q by have := hQ.out; omega]
    unfold valueT
    simp only
    rw [if_neg hv, ht.out, hu.out, hk.out]
    rw [if_neg (by simp), if_pos hlong]
  have hJ : Hid (((Q : Int) + k) = ((Q + k : Nat) : Int)) := by show _ = _; omega
  clear hv
  obtain ⟨_, h1, _⟩ := h.all
  have h20' : (l.length : Int) < 20 := by omega
  go_enter Try.func73, Try.ntmps73
  go_wp2_with fail
  refine (word_any b r w h hp hs n hw true hvv _ rfl n rfl).mono ?_
  rintro e W1 ⟨rfl, hW1, hg1⟩
  have hW1' : RdAt W1 b { r with pos := r.pos + n.length } := hW1
  have z6 : W1.cell? ⟨b, 6, none⟩ = some (.slice r.A l.length r.c) := by rw [← hn]; exact hW1'.all.2.2.2.2.2.2.1
  have hA1 := Lib.hid (attrs_kept h hA hg1)
  go_wp2_with fail
  refine (hasA_any b B _ W1 hW1' l hn hA1.out hl n false hany).mono ?_
  rintro e W2 ⟨rfl, hb2⟩
  have hW2 := hW1'.below hb2
  have hg2 : w.grownBy W2 (some b) := Lib.grownBy_below hg1 hb2
  clear z6 h1 hW1 hW1'
  go_wp2_with fail
  refine (must_any b _ W2 hW2 [61] hn1 hs true hm1 (by decide)).mono ?_
  rintro e W3 ⟨rfl, hW3, hg3⟩
  have hW3' : RdAt W3 b { r with pos := r.pos + n.length + 1 } := hW3
  obtain ⟨_, y1, _⟩ := hW3'.all
  clear hW3
  go_wp2_with fail
  refine (must_any b _ W3 hW3' [34] hn2 hs true hm2 (by decide)).mono ?_
  rintro e W4 ⟨rfl, hW4, hg4⟩
  have hW4' : RdAt W4 b { r with pos := Q } := by rw [← hQ.out]; exact hW4
  have hg5 := grown_twice (grown_twice hg2 hg3) hg4
  have HS : Hid (W4.drew.cell? ⟨b, 0, none⟩ = some (.string r.s) ∧ W4.drew.cell? ⟨b, 1, none⟩ = some (.int .i64 Q)) := ⟨hW4'.all.1, hW4'.all.2.1⟩
  clear hW4 y1
  go_wp2_with fail
  refine wp_region_held_drew (S := fun w' => w'.cell? ⟨b, 0, none⟩ = some (.string r.s) ∧ w'.cell? ⟨b, 1, none⟩ = some (.int .i64 Q)) (by kernel_rfl) HS.out (fun hHeld => ?_)
  refine wpAnyH_take (i := 0) (oi := ⟨_, _, _, _, _, _⟩) (v := ?_) rfl (by kernel_rfl) (by kernel_rfl) (by kernel_rfl) (fun _ _ _ h => h) (Or.inl ⟨by rfl, ?_⟩) (by assumption) ?_
  rotate_left
  · (intro wS hSw; (try dsimp only at hSw); go_simp); all_goals with_reducible rfl
  try simp only [Act.put, List.setIfInBounds_toArray, List.set_cons_zero, List.set_cons_succ]
  refine wpAnyH_take (i := 1) (oi := ⟨_, _, _, _, _, _⟩) (v := ?_) rfl (by kernel_rfl) (by kernel_rfl) (by kernel_rfl) (fun _ _ _ h => h) (Or.inl ⟨by rfl, ?_⟩) (by assumption) ?_
  rotate_left
  · (intro wS hSw; (try dsimp only at hSw); go_simp); all_goals with_reducible rfl
  try simp only [Act.put, List.setIfInBounds_toArray, List.set_cons_zero, List.set_cons_succ]
  refine wpAnyH_take (i := 2) (oi := ⟨_, _, _, _, _, _⟩) (v := ?_) rfl (by kernel_rfl) (by kernel_rfl) (by kernel_rfl) (fun _ _ _ h => h) (Or.inl ⟨by rfl, ?_⟩) (by assumption) ?_
  rotate_left
  · (intro wS hSw; (try dsimp only at hSw); go_simp); all_goals with_reducible rfl
  try simp only [Act.put, List.setIfInBounds_toArray, List.set_cons_zero, List.set_cons_succ]
  refine wpAnyH_take (i := 3) (oi := ⟨_, _, _, _, _, _⟩) (v := ?_) rfl (by kernel_rfl) (by kernel_rfl) (by kernel_rfl) (fun _ _ _ h => h) (Or.inl ⟨by rfl, ?_⟩) (by assumption) ?_
  rotate_left
  · (intro wS hSw; (try dsimp only at hSw); go_simp); all_goals with_reducible rfl
  try simp only [Act.put, List.setIfInBounds_toArray, List.set_cons_zero, List.set_cons_succ]
  refine wpAnyH_take (i := 4) (oi := ⟨_, _, _, _, _, _⟩) (v := ?_) rfl (by kernel_rfl) (by kernel_rfl) (by kernel_rfl) (fun _ _ _ h => h) (Or.inl ⟨by rfl, ?_⟩) (by assumption) ?_
  rotate_left
  · (intro wS hSw; (try dsimp only at hSw); go_simp); all_goals with_reducible rfl
  try simp only [Act.put, List.setIfInBounds_toArray, List.set_cons_zero, List.set_cons_succ]
  refine wpAnyH_take (i := 5) (oi := ⟨_, _, _, _, _, _⟩) (v := ?_) rfl (by kernel_rfl) (by kernel_rfl) (by kernel_rfl) (fun _ _ _ h => h) (Or.inl ⟨by rfl, ?_⟩) (by assumption) ?_
  rotate_left
  · (intro wS hSw; (try dsimp only at hSw); go_simp); all_goals with_reducible rfl
  try simp only [Act.put, List.setIfInBounds_toArray, List.set_cons_zero, List.set_cons_succ]
  refine wpAnyH_take (i := 6) (oi := ⟨_, _, _, _, _, _⟩) (v := ?_) rfl (by kernel_rfl) (by kernel_rfl) (by kernel_rfl) (fun _ _ _ h => h) (Or.inl ⟨by rfl, ?_⟩) (by assumption) ?_
  rotate_left
  · (intro wS hSw; (try dsimp only at hSw); go_simp); all_goals with_reducible rfl
  try simp only [Act.put, List.setIfInBounds_toArray, List.set_cons_zero, List.set_cons_succ]
  refine wpAnyH_take (i := 7) (oi := ⟨_, _, _, _, _, _⟩) (v := ?_) rfl (by kernel_rfl) (by kernel_rfl) (by kernel_rfl) (fun _ _ _ h => h) (Or.inl ⟨by rfl, ?_⟩) (by assumption) ?_
  rotate_left
  · (intro wS hSw; (try dsimp only at hSw); go_simp); all_goals with_reducible rfl
  try simp only [Act.put, List.setIfInBounds_toArray, List.set_cons_zero, List.set_cons_succ]
  refine wpAnyH_take (i := 8) (oi := ⟨_, _, _, _, _, _⟩) (v := ?_) rfl (by kernel_rfl) (by kernel_rfl) (by kernel_rfl) (fun _ _ _ h => h) (Or.inl ⟨by rfl, ?_⟩) (by assumption) ?_
  rotate_left
  · (intro wS hSw; (try dsimp only at hSw); go_simp); all_goals with_reducible rfl
  try simp only [Act.put, List.setIfInBounds_toArray, List.set_cons_zero, List.set_cons_succ]
  refine wpAnyH_ready (rs := [9]) (by kernel_rfl) (by simp) ?_
  refine AllReadyH.cons (o := ⟨_, _, _, _, _, _⟩) rfl (fun K hK => ?_) AllReadyH.nil
  go_simp
  refine (Try.strings_IndexByte _ _ _).mono ?_
  rw [hx.out]
  rintro e w2 ⟨rfl, rfl⟩
  rw [show ((34 : Int)).toNat.toUInt8 = 34 from rfl, hq.out]
  go_wp2_with fail
  refine hK.out _ _ (HS.out) (fun hHeld => ?_)
  clear hK K
  try simp only [Act.put, List.setIfInBounds_toArray, List.set_cons_zero, List.set_cons_succ]
  refine wpAnyH_take (i := 10) (oi := ⟨_, _, _, _, _, _⟩) (v := ?_) rfl (by kernel_rfl) (by kernel_rfl) (by kernel_rfl) (fun _ _ _ h => h) (Or.inl ⟨by rfl, ?_⟩) (by assumption) ?_
  rotate_left
  · (intro wS hSw; (try dsimp only at hSw); go_simp); all_goals with_reducible rfl
  try simp only [Act.put, List.setIfInBounds_toArray, List.set_cons_zero, List.set_cons_succ]
  refine wpAnyH_done (by kernel_rfl) ?_ _
  clear hHeld
  have HS2 : Hid (W4.drew.drew.cell? ⟨b, 0, none⟩ = some (.string r.s) ∧ W4.drew.drew.cell? ⟨b, 1, none⟩ = some (.int .i64 Q)) := ⟨hW4'.all.1, hW4'.all.2.1⟩
  have kn0 : (0 : Int) ≤ (k : Int) := by omega
  have hwr : IntKind.i64.wrap ((Q : Int) + k) = (Q : Int) + k :=
    IntWalk.i64_in _ (by omega)
  go_wp2_with fail
  refine wp_region_held_drew (S := fun w' => w'.cell? ⟨b, 0, none⟩ = some (.string r.s) ∧ w'.cell? ⟨b, 1, none⟩ = some (.int .i64 Q)) (by kernel_rfl) HS2.out (fun hHeld => ?_)
  refine wpAnyH_take (i := 0) (oi := ⟨_, _, _, _, _, _⟩) (v := ?_) rfl (by kernel_rfl) (by kernel_rfl) (by kernel_rfl) (fun _ _ _ h => h) (Or.inl ⟨by rfl, ?_⟩) (by assumption) ?_
  rotate_left
  · (intro wS hSw; (try dsimp only at hSw); go_simp); all_goals with_reducible rfl
  try simp only [Act.put, List.setIfInBounds_toArray, List.set_cons_zero, List.set_cons_succ]
  refine wpAnyH_take (i := 1) (oi := ⟨_, _, _, _, _, _⟩) (v := ?_) rfl (by kernel_rfl) (by kernel_rfl) (by kernel_rfl) (fun _ _ _ h => h) (Or.inl ⟨by rfl, ?_⟩) (by assumption) ?_
  rotate_left
  · (intro wS hSw; (try dsimp only at hSw); go_simp); all_goals with_reducible rfl
  try simp only [Act.put, List.setIfInBounds_toArray, List.set_cons_zero, List.set_cons_succ]
  refine wpAnyH_take (i := 2) (oi := ⟨_, _, _, _, _, _⟩) (v := ?_) rfl (by kernel_rfl) (by kernel_rfl) (by kernel_rfl) (fun _ _ _ h => h) (Or.inl ⟨by rfl, ?_⟩) (by assumption) ?_
  rotate_left
  · (intro wS hSw; (try dsimp only at hSw); go_simp); all_goals with_reducible rfl
  try simp only [Act.put, List.setIfInBounds_toArray, List.set_cons_zero, List.set_cons_succ]
  refine wpAnyH_take (i := 3) (oi := ⟨_, _, _, _, _, _⟩) (v := ?_) rfl (by kernel_rfl) (by kernel_rfl) (by kernel_rfl) (fun _ _ _ h => h) (Or.inl ⟨by rfl, ?_⟩) (by assumption) ?_
  rotate_left
  · (intro wS hSw; (try dsimp only at hSw); go_simp); all_goals with_reducible rfl
  try simp only [Act.put, List.setIfInBounds_toArray, List.set_cons_zero, List.set_cons_succ]
  refine wpAnyH_take (i := 4) (oi := ⟨_, _, _, _, _, _⟩) (v := ?_) rfl (by kernel_rfl) (by kernel_rfl) (by kernel_rfl) (fun _ _ _ h => h) (Or.inl ⟨by rfl, ?_⟩) (by assumption) ?_
  rotate_left
  · (intro wS hSw; (try dsimp only at hSw); go_simp); all_goals with_reducible rfl
  try simp only [Act.put, List.setIfInBounds_toArray, List.set_cons_zero, List.set_cons_succ]
  refine wpAnyH_take (i := 5) (oi := ⟨_, _, _, _, _, _⟩) (v := ?_) rfl (by kernel_rfl) (by kernel_rfl) (by kernel_rfl) (fun _ _ _ h => h) (Or.inl ⟨by rfl, ?_⟩) (by assumption) ?_
  rotate_left
  · (intro wS hSw; (try dsimp only at hSw); go_simp); all_goals with_reducible rfl
  try simp only [Act.put, List.setIfInBounds_toArray, List.set_cons_zero, List.set_cons_succ]
  refine wpAnyH_take (i := 6) (oi := ⟨_, _, _, _, _, _⟩) (v := ?_) rfl (by kernel_rfl) (by kernel_rfl) (by kernel_rfl) (fun _ _ _ h => h) (Or.inl ⟨by rfl, ?_⟩) (by assumption) ?_
  rotate_left
  · (intro wS hSw; (try dsimp only at hSw); go_simp); all_goals with_reducible rfl
  try simp only [Act.put, List.setIfInBounds_toArray, List.set_cons_zero, List.set_cons_succ]
  refine wpAnyH_take (i := 7) (oi := ⟨_, _, _, _, _, _⟩) (v := ?_) rfl (by kernel_rfl) (by kernel_rfl) (by kernel_rfl) (fun _ _ _ h => h) (Or.inl ⟨by rfl, ?_⟩) (by assumption) ?_
  rotate_left
  · (intro wS hSw; (try dsimp only at hSw); go_simp); all_goals with_reducible rfl
  try simp only [Act.put, List.setIfInBounds_toArray, List.set_cons_zero, List.set_cons_succ]
  refine wpAnyH_take (i := 8) (oi := ⟨_, _, _, _, _, _⟩) (v := ?_) rfl (by kernel_rfl) (by kernel_rfl) (by kernel_rfl) (fun _ _ _ h => h) (Or.inl ⟨by rfl, ?_⟩) (by assumption) ?_
  rotate_left
  · (intro wS hSw; (try dsimp only at hSw); go_simp); all_goals with_reducible rfl
  try simp only [Act.put, List.setIfInBounds_toArray, List.set_cons_zero, List.set_cons_succ]
  refine wpAnyH_take (i := 9) (oi := ⟨_, _, _, _, _, _⟩) (v := ?_) rfl (by kernel_rfl) (by kernel_rfl) (by kernel_rfl) (fun _ _ _ h => h) (Or.inl ⟨by rfl, ?_⟩) (by assumption) ?_
  rotate_left
  · (intro wS hSw; (try dsimp only at hSw); go_simp); all_goals with_reducible rfl
  try simp only [Act.put, List.setIfInBounds_toArray, List.set_cons_zero, List.set_cons_succ]
  refine wpAnyH_take (i := 10) (oi := ⟨_, _, _, _, _, _⟩) (v := ?_) rfl (by kernel_rfl) (by kernel_rfl) (by kernel_rfl) (fun _ _ _ h => h) (Or.inl ⟨by rfl, ?_⟩) (by assumption) ?_
  rotate_left
  · (intro wS hSw; (try dsimp only at hSw); go_simp); all_goals with_reducible rfl
  try simp only [Act.put, List.setIfInBounds_toArray, List.set_cons_zero, List.set_cons_succ]
  refine wpAnyH_ready (rs := [11]) (by kernel_rfl) (by simp) ?_
  refine AllReadyH.cons (o := ⟨_, _, _, _, _, _⟩) rfl (fun K hK => ?_) AllReadyH.nil
  go_simp
  refine (undone_at b { r with pos := Q } W4.drew.drew hW4'.drew.drew Q (Q + k) (Nat.le_add_right _ _) (Nat.le_of_lt hkl) hs true (u, m, 0) hU _ hJ).mono ?_
  rintro e2 W5 ⟨rfl, hW5, hg6⟩
  have hgW : w.grownBy W5 (some b) := grown_twice (grown_drew (grown_drew hg5)) hg6
  have hW5' : RdAt W5 b { r with pos := Q } := hW5
  have HS5 : Hid (W5.cell? ⟨b, 0, none⟩ = some (.string r.s) ∧ W5.cell? ⟨b, 1, none⟩ = some (.int .i64 Q)) := ⟨hW5'.all.1, hW5'.all.2.1⟩
  go_wp2_with fail
  refine hK.out _ _ (HS5.out) (fun hHeld => ?_)
  clear hK K
  try simp only [Act.put, List.setIfInBounds_toArray, List.set_cons_zero, List.set_cons_succ]
  refine wpAnyH_take (i := 12) (oi := ⟨_, _, _, _, _, _⟩) (v := ?_) rfl (by kernel_rfl) (by kernel_rfl) (by kernel_rfl) (fun _ _ _ h => h) (Or.inl ⟨by rfl, ?_⟩) (by assumption) ?_
  rotate_left
  · (intro wS hSw; (try dsimp only at hSw); go_simp); all_goals with_reducible rfl
  try simp only [Act.put, List.setIfInBounds_toArray, List.set_cons_zero, List.set_cons_succ]
  refine wpAnyH_take (i := 13) (oi := ⟨_, _, _, _, _, _⟩) (v := ?_) rfl (by kernel_rfl) (by kernel_rfl) (by kernel_rfl) (fun _ _ _ h => h) (Or.inl ⟨by rfl, ?_⟩) (by assumption) ?_
  rotate_left
  · (intro wS hSw; (try dsimp only at hSw); go_simp); all_goals with_reducible rfl
  try simp only [Act.put, List.setIfInBounds_toArray, List.set_cons_zero, List.set_cons_succ]
  refine wpAnyH_take (i := 14) (oi := ⟨_, _, _, _, _, _⟩) (v := ?_) rfl (by kernel_rfl) (by kernel_rfl) (by kernel_rfl) (fun _ _ _ h => h) (Or.inl ⟨by rfl, ?_⟩) (by assumption) ?_
  rotate_left
  · (intro wS hSw; (try dsimp only at hSw); go_simp); all_goals with_reducible rfl
  try simp only [Act.put, List.setIfInBounds_toArray, List.set_cons_zero, List.set_cons_succ]
  refine wpAnyH_take (i := 15) (oi := ⟨_, _, _, _, _, _⟩) (v := ?_) rfl (by kernel_rfl) (by kernel_rfl) (by kernel_rfl) (fun _ _ _ h => h) (Or.inl ⟨by rfl, ?_⟩) (by assumption) ?_
  rotate_left
  · (intro wS hSw; (try dsimp only at hSw); go_simp); all_goals with_reducible rfl
  try simp only [Act.put, List.setIfInBounds_toArray, List.set_cons_zero, List.set_cons_succ]
  refine wpAnyH_take (i := 16) (oi := ⟨_, _, _, _, _, _⟩) (v := ?_) rfl (by kernel_rfl) (by kernel_rfl) (by kernel_rfl) (fun _ _ _ h => h) (Or.inl ⟨by rfl, ?_⟩) (by assumption) ?_
  rotate_left
  · (intro wS hSw; (try dsimp only at hSw); go_simp); all_goals with_reducible rfl
  try simp only [Act.put, List.setIfInBounds_toArray, List.set_cons_zero, List.set_cons_succ]
  refine wpAnyH_done (by kernel_rfl) ?_ _
  clear hHeld
  go_wp2_with fail
  refine (fail_any b _ W5 hW5' (r.pos + n.length + 1 : Nat) 34).mono ?_
  rintro e3 W6 ⟨rfl, hW6, hg7⟩
  go_wp2_with fail
  go_ret
  rw [HV.out]
  refine ⟨below_of_grown (grown_twice hgW hg7) hB hBw, rfl, _, hW6, ?_, rfl⟩
  show ((r.pos + n.length + 1 : Nat) : Int) = _
  rw [show r.pos + (n.length + 1) = r.pos + n.length + 1 by omega]

set_option maxRecDepth 100000 in
set_option maxHeartbeats 2000000 in
theorem attr_fine (b B : Nat) (r : Rdr) (w : World) (h : RdAt w b r) (hB : B ≤ b) (hBw : B ≤ w.heap.size) (hp : r.pos ≤ r.s.size) (hs : r.s.size ≤ 1000000000) (l : List AttrD) (hn : r.n = l.length) (hA : AttrsOwn w B r.A r.c l) (hl : l.length ≤ 1000)
    (n : List UInt8) (hw : Hid (wordL (r.s.data.toList.drop r.pos) = n)) (hvv : Hid (nameL n = true)) (h20 : l.length < 20) (hany : Hid (l.any (fun a => decide (a.name = n)) = false)) (hm1 : Hid (pre [61] (r.s.data.toList.drop (r.pos + n.length)) = true)) (hm2 : Hid (pre [34] (r.s.data.toList.drop (r.pos + n.length + 1)) = true)) (Q : Nat) (hQ : Hid (r.pos + n.length + 1 + 1 = Q))
    (t : List UInt8) (ht : Hid ((r.s.data.toList.drop Q).takeWhile (· != 34) = t)) (k : Nat) (hk : Hid (t.length = k)) (hv : ((r.s.data.toList.drop Q).takeWhile (· != 34)).length ≠ (r.s.data.toList.drop Q).length) (u : List UInt8) (m : Nat) (hu : Hid (undoL true t = (u, m, 0))) (hlong : ¬ 1500 < u.length) (V : Told AttrD) (hV : Hid (attrL (r.s.data.toList.drop r.pos) l = V)) :
    Calls Try.prog 73 #[.pointer (some ⟨b, 0, none⟩)] w (AttrPost w B b r l V) := by
  have hlong' : (u.length : Int) ≤ 1500 := by omega
  have HL := Lib.hid (size_toList r.s)
  have hn1 : r.pos + n.length ≤ r.s.size := by
    have := wordL_len (r.s.data.toList.drop r.pos)
    rw [hw.out, List.length_drop, HL.out] at this; omega
  have hn2 : r.pos + n.length + 1 ≤ r.s.size := by have := pre1_len hm1.out; rw [HL.out] at this; exact this
  have hn3 : Q ≤ r.s.size := by have := pre1_len hm2.out; rw [HL.out] at this; have := hQ.out; omega
  have hx : Hid ((r.s.extract Q r.s.size).data.toList = r.s.data.toList.drop Q) := Lib.extract_to_end _ _
  have hkl : Q + k < r.s.size := by
    have := takeWhile_len (· != 34) (r.s.data.toList.drop Q)
    rw [ht.out] at this hv
    rw [List.length_drop, HL.out] at this hv
    have := hk.out
    omega
  have hq : Hid (Lib.indexByte (r.s.data.toList.drop Q) 34 = (k : Nat)) := by
    show _ = _
    rw [← hk.out, ← ht.out]
    exact idx_yes 34 _ hv
  have htk : Hid ((r.s.data.toList.drop Q).take (Q + k - Q) = t) := by
    show _ = _
    have h2 := span_word (r.s.data.toList.drop Q) (· != 34)
    rw [ht.out] at h2
    rw [show Q + k - Q = t.length by have := hk.out; omega]
    conv => lhs; rw [h2]
    rw [List.take_append_of_le_length (Nat.le_refl _), List.take_length]
  have hU : Hid (undoL true ((r.s.data.toList.drop Q).take (Q + k - Q)) = (u, m, 0)) := by show _ = _; rw [htk.out]; exact hu.out
  have i0 : (0 : Int) ≤ (Q : Int) := by omega
  have i1 : (Q : Int) ≤ r.s.size := by omega
  have i2 : (Q : Int) + k < r.s.size := by omega
  have HV : Hid (V = .ok ⟨n, u⟩ (n.length + 2 + k + 1)) := by
    show _ = _
    rw [← hV.out]; unfold attrL; simp only [hw.out, hvv.out, hany.out, List.drop_drop]
    rw [if_neg (by decide), if_neg (by omega), if_neg (by decide), hm1.out, if_neg (by decide), show r.pos + (n.length + 1) = r.pos + n.length + 1 by omega, hm2.out, if_neg (by decide), show r.pos + (n.length + 2) = Q by have := hQ.out; omega]
    unfold valueT
    simp only
    rw [if_neg hv, ht.out, hu.out, hk.out]
    rw [if_neg (by simp), if_neg hlong]
  have hJ : Hid (((Q : Int) + k) = ((Q + k : Nat) : Int)) := by show _ = _; omega
  clear hv
  obtain ⟨_, h1, _⟩ := h.all
  have h20' : (l.length : Int) < 20 := by omega
  go_enter Try.func73, Try.ntmps73
  go_wp2_with fail
  refine (word_any b r w h hp hs n hw true hvv _ rfl n rfl).mono ?_
  rintro e W1 ⟨rfl, hW1, hg1⟩
  have hW1' : RdAt W1 b { r with pos := r.pos + n.length } := hW1
  have z6 : W1.cell? ⟨b, 6, none⟩ = some (.slice r.A l.length r.c) := by rw [← hn]; exact hW1'.all.2.2.2.2.2.2.1
  have hA1 := Lib.hid (attrs_kept h hA hg1)
  go_wp2_with fail
  refine (hasA_any b B _ W1 hW1' l hn hA1.out hl n false hany).mono ?_
  rintro e W2 ⟨rfl, hb2⟩
  have hW2 := hW1'.below hb2
  have hg2 : w.grownBy W2 (some b) := Lib.grownBy_below hg1 hb2
  clear z6 h1 hW1 hW1'
  go_wp2_with fail
  refine (must_any b _ W2 hW2 [61] hn1 hs true hm1 (by decide)).mono ?_
  rintro e W3 ⟨rfl, hW3, hg3⟩
  have hW3' : RdAt W3 b { r with pos := r.pos + n.length + 1 } := hW3
  obtain ⟨_, y1, _⟩ := hW3'.all
  clear hW3
  go_wp2_with fail
  refine (must_any b _ W3 hW3' [34] hn2 hs true hm2 (by decide)).mono ?_
  rintro e W4 ⟨rfl, hW4, hg4⟩
  have hW4' : RdAt W4 b { r with pos := Q } := by rw [← hQ.out]; exact hW4
  have hg5 := grown_twice (grown_twice hg2 hg3) hg4
  have HS : Hid (W4.drew.cell? ⟨b, 0, none⟩ = some (.string r.s) ∧ W4.drew.cell? ⟨b, 1, none⟩ = some (.int .i64 Q)) := ⟨hW4'.all.1, hW4'.all.2.1⟩
  clear hW4 y1
  go_wp2_with fail
  refine wp_region_held_drew (S := fun w' => w'.cell? ⟨b, 0, none⟩ = some (.string r.s) ∧ w'.cell? ⟨b, 1, none⟩ = some (.int .i64 Q)) (by kernel_rfl) HS.out (fun hHeld => ?_)
  refine wpAnyH_take (i := 0) (oi := ⟨_, _, _, _, _, _⟩) (v := ?_) rfl (by kernel_rfl) (by kernel_rfl) (by kernel_rfl) (fun _ _ _ h => h) (Or.inl ⟨by rfl, ?_⟩) (by assumption) ?_
  rotate_left
  · (intro wS hSw; (try dsimp only at hSw); go_simp); all_goals with_reducible rfl
  try simp only [Act.put, List.setIfInBounds_toArray, List.set_cons_zero, List.set_cons_succ]
  refine wpAnyH_take (i := 1) (oi := ⟨_, _, _, _, _, _⟩) (v := ?_) rfl (by kernel_rfl) (by kernel_rfl) (by kernel_rfl) (fun _ _ _ h => h) (Or.inl ⟨by rfl, ?_⟩) (by assumption) ?_
  rotate_left
  · (intro wS hSw; (try dsimp only at hSw); go_simp); all_goals with_reducible rfl
  try simp only [Act.put, List.setIfInBounds_toArray, List.set_cons_zero, List.set_cons_succ]
  refine wpAnyH_take (i := 2) (oi := ⟨_, _, _, _, _, _⟩) (v := ?_) rfl (by kernel_rfl) (by kernel_rfl) (by kernel_rfl) (fun _ _ _ h => h) (Or.inl ⟨by rfl, ?_⟩) (by assumption) ?_
  rotate_left
  · (intro wS hSw; (try dsimp only at hSw); go_simp); all_goals with_reducible rfl
  try simp only [Act.put, List.setIfInBounds_toArray, List.set_cons_zero, List.set_cons_succ]
  refine wpAnyH_take (i := 3) (oi := ⟨_, _, _, _, _, _⟩) (v := ?_) rfl (by kernel_rfl) (by kernel_rfl) (by kernel_rfl) (fun _ _ _ h => h) (Or.inl ⟨by rfl, ?_⟩) (by assumption) ?_
  rotate_left
  · (intro wS hSw; (try dsimp only at hSw); go_simp); all_goals with_reducible rfl
  try simp only [Act.put, List.setIfInBounds_toArray, List.set_cons_zero, List.set_cons_succ]
  refine wpAnyH_take (i := 4) (oi := ⟨_, _, _, _, _, _⟩) (v := ?_) rfl (by kernel_rfl) (by kernel_rfl) (by kernel_rfl) (fun _ _ _ h => h) (Or.inl ⟨by rfl, ?_⟩) (by assumption) ?_
  rotate_left
  · (intro wS hSw; (try dsimp only at hSw); go_simp); all_goals with_reducible rfl
  try simp only [Act.put, List.setIfInBounds_toArray, List.set_cons_zero, List.set_cons_succ]
  refine wpAnyH_take (i := 5) (oi := ⟨_, _, _, _, _, _⟩) (v := ?_) rfl (by kernel_rfl) (by kernel_rfl) (by kernel_rfl) (fun _ _ _ h => h) (Or.inl ⟨by rfl, ?_⟩) (by assumption) ?_
  rotate_left
  · (intro wS hSw; (try dsimp only at hSw); go_simp); all_goals with_reducible rfl
  try simp only [Act.put, List.setIfInBounds_toArray, List.set_cons_zero, List.set_cons_succ]
  refine wpAnyH_take (i := 6) (oi := ⟨_, _, _, _, _, _⟩) (v := ?_) rfl (by kernel_rfl) (by kernel_rfl) (by kernel_rfl) (fun _ _ _ h => h) (Or.inl ⟨by rfl, ?_⟩) (by assumption) ?_
  rotate_left
  · (intro wS hSw; (try dsimp only at hSw); go_simp); all_goals with_reducible rfl
  try simp only [Act.put, List.setIfInBounds_toArray, List.set_cons_zero, List.set_cons_succ]
  refine wpAnyH_take (i := 7) (oi := ⟨_, _, _, _, _, _⟩) (v := ?_) rfl (by kernel_rfl) (by kernel_rfl) (by kernel_rfl) (fun _ _ _ h => h) (Or.inl ⟨by rfl, ?_⟩) (by assumption) ?_
  rotate_left
  · (intro wS hSw; (try dsimp only at hSw); go_simp); all_goals with_reducible rfl
  try simp only [Act.put, List.setIfInBounds_toArray, List.set_cons_zero, List.set_cons_succ]
  refine wpAnyH_take (i := 8) (oi := ⟨_, _, _, _, _, _⟩) (v := ?_) rfl (by kernel_rfl) (by kernel_rfl) (by kernel_rfl) (fun _ _ _ h => h) (Or.inl ⟨by rfl, ?_⟩) (by assumption) ?_
  rotate_left
  · (intro wS hSw; (try dsimp only at hSw); go_simp); all_goals with_reducible rfl
  try simp only [Act.put, List.setIfInBounds_toArray, List.set_cons_zero, List.set_cons_succ]
  refine wpAnyH_ready (rs := [9]) (by kernel_rfl) (by simp) ?_
  refine AllReadyH.cons (o := ⟨_, _, _, _, _, _⟩) rfl (fun K hK => ?_) AllReadyH.nil
  go_simp
  refine (Try.strings_IndexByte _ _ _).mono ?_
  rw [hx.out]
  rintro e w2 ⟨rfl, rfl⟩
  rw [show ((34 : Int)).toNat.toUInt8 = 34 from rfl, hq.out]
  go_wp2_with fail
  refine hK.out _ _ (HS.out) (fun hHeld => ?_)
  clear hK K
  try simp only [Act.put, List.setIfInBounds_toArray, List.set_cons_zero, List.set_cons_succ]
  refine wpAnyH_take (i := 10) (oi := ⟨_, _, _, _, _, _⟩) (v := ?_) rfl (by kernel_rfl) (by kernel_rfl) (by kernel_rfl) (fun _ _ _ h => h) (Or.inl ⟨by rfl, ?_⟩) (by assumption) ?_
  rotate_left
  · (intro wS hSw; (try dsimp only at hSw); go_simp); all_goals with_reducible rfl
  try simp only [Act.put, List.setIfInBounds_toArray, List.set_cons_zero, List.set_cons_succ]
  refine wpAnyH_done (by kernel_rfl) ?_ _
  clear hHeld
  have HS2 : Hid (W4.drew.drew.cell? ⟨b, 0, none⟩ = some (.string r.s) ∧ W4.drew.drew.cell? ⟨b, 1, none⟩ = some (.int .i64 Q)) := ⟨hW4'.all.1, hW4'.all.2.1⟩
  have kn0 : (0 : Int) ≤ (k : Int) := by omega
  have hwr : IntKind.i64.wrap ((Q : Int) + k) = (Q : Int) + k :=
    IntWalk.i64_in _ (by omega)
  go_wp2_with fail
  refine wp_region_held_drew (S := fun w' => w'.cell? ⟨b, 0, none⟩ = some (.string r.s) ∧ w'.cell? ⟨b, 1, none⟩ = some (.int .i64 Q)) (by kernel_rfl) HS2.out (fun hHeld => ?_)
  refine wpAnyH_take (i := 0) (oi := ⟨_, _, _, _, _, _⟩) (v := ?_) rfl (by kernel_rfl) (by kernel_rfl) (by kernel_rfl) (fun _ _ _ h => h) (Or.inl ⟨by rfl, ?_⟩) (by assumption) ?_
  rotate_left
  · (intro wS hSw; (try dsimp only at hSw); go_simp); all_goals with_reducible rfl
  try simp only [Act.put, List.setIfInBounds_toArray, List.set_cons_zero, List.set_cons_succ]
  refine wpAnyH_take (i := 1) (oi := ⟨_, _, _, _, _, _⟩) (v := ?_) rfl (by kernel_rfl) (by kernel_rfl) (by kernel_rfl) (fun _ _ _ h => h) (Or.inl ⟨by rfl, ?_⟩) (by assumption) ?_
  rotate_left
  · (intro wS hSw; (try dsimp only at hSw); go_simp); all_goals with_reducible rfl
  try simp only [Act.put, List.setIfInBounds_toArray, List.set_cons_zero, List.set_cons_succ]
  refine wpAnyH_take (i := 2) (oi := ⟨_, _, _, _, _, _⟩) (v := ?_) rfl (by kernel_rfl) (by kernel_rfl) (by kernel_rfl) (fun _ _ _ h => h) (Or.inl ⟨by rfl, ?_⟩) (by assumption) ?_
  rotate_left
  · (intro wS hSw; (try dsimp only at hSw); go_simp); all_goals with_reducible rfl
  try simp only [Act.put, List.setIfInBounds_toArray, List.set_cons_zero, List.set_cons_succ]
  refine wpAnyH_take (i := 3) (oi := ⟨_, _, _, _, _, _⟩) (v := ?_) rfl (by kernel_rfl) (by kernel_rfl) (by kernel_rfl) (fun _ _ _ h => h) (Or.inl ⟨by rfl, ?_⟩) (by assumption) ?_
  rotate_left
  · (intro wS hSw; (try dsimp only at hSw); go_simp); all_goals with_reducible rfl
  try simp only [Act.put, List.setIfInBounds_toArray, List.set_cons_zero, List.set_cons_succ]
  refine wpAnyH_take (i := 4) (oi := ⟨_, _, _, _, _, _⟩) (v := ?_) rfl (by kernel_rfl) (by kernel_rfl) (by kernel_rfl) (fun _ _ _ h => h) (Or.inl ⟨by rfl, ?_⟩) (by assumption) ?_
  rotate_left
  · (intro wS hSw; (try dsimp only at hSw); go_simp); all_goals with_reducible rfl
  try simp only [Act.put, List.setIfInBounds_toArray, List.set_cons_zero, List.set_cons_succ]
  refine wpAnyH_take (i := 5) (oi := ⟨_, _, _, _, _, _⟩) (v := ?_) rfl (by kernel_rfl) (by kernel_rfl) (by kernel_rfl) (fun _ _ _ h => h) (Or.inl ⟨by rfl, ?_⟩) (by assumption) ?_
  rotate_left
  · (intro wS hSw; (try dsimp only at hSw); go_simp); all_goals with_reducible rfl
  try simp only [Act.put, List.setIfInBounds_toArray, List.set_cons_zero, List.set_cons_succ]
  refine wpAnyH_take (i := 6) (oi := ⟨_, _, _, _, _, _⟩) (v := ?_) rfl (by kernel_rfl) (by kernel_rfl) (by kernel_rfl) (fun _ _ _ h => h) (Or.inl ⟨by rfl, ?_⟩) (by assumption) ?_
  rotate_left
  · (intro wS hSw; (try dsimp only at hSw); go_simp); all_goals with_reducible rfl
  try simp only [Act.put, List.setIfInBounds_toArray, List.set_cons_zero, List.set_cons_succ]
  refine wpAnyH_take (i := 7) (oi := ⟨_, _, _, _, _, _⟩) (v := ?_) rfl (by kernel_rfl) (by kernel_rfl) (by kernel_rfl) (fun _ _ _ h => h) (Or.inl ⟨by rfl, ?_⟩) (by assumption) ?_
  rotate_left
  · (intro wS hSw; (try dsimp only at hSw); go_simp); all_goals with_reducible rfl
  try simp only [Act.put, List.setIfInBounds_toArray, List.set_cons_zero, List.set_cons_succ]
  refine wpAnyH_take (i := 8) (oi := ⟨_, _, _, _, _, _⟩) (v := ?_) rfl (by kernel_rfl) (by kernel_rfl) (by kernel_rfl) (fun _ _ _ h => h) (Or.inl ⟨by rfl, ?_⟩) (by assumption) ?_
  rotate_left
  · (intro wS hSw; (try dsimp only at hSw); go_simp); all_goals with_reducible rfl
  try simp only [Act.put, List.setIfInBounds_toArray, List.set_cons_zero, List.set_cons_succ]
  refine wpAnyH_take (i := 9) (oi := ⟨_, _, _, _, _, _⟩) (v := ?_) rfl (by kernel_rfl) (by kernel_rfl) (by kernel_rfl) (fun _ _ _ h => h) (Or.inl ⟨by rfl, ?_⟩) (by assumption) ?_
  rotate_left
  · (intro wS hSw; (try dsimp only at hSw); go_simp); all_goals with_reducible rfl
  try simp only [Act.put, List.setIfInBounds_toArray, List.set_cons_zero, List.set_cons_succ]
  refine wpAnyH_take (i := 10) (oi := ⟨_, _, _, _, _, _⟩) (v := ?_) rfl (by kernel_rfl) (by kernel_rfl) (by kernel_rfl) (fun _ _ _ h => h) (Or.inl ⟨by rfl, ?_⟩) (by assumption) ?_
  rotate_left
  · (intro wS hSw; (try dsimp only at hSw); go_simp); all_goals with_reducible rfl
  try simp only [Act.put, List.setIfInBounds_toArray, List.set_cons_zero, List.set_cons_succ]
  refine wpAnyH_ready (rs := [11]) (by kernel_rfl) (by simp) ?_
  refine AllReadyH.cons (o := ⟨_, _, _, _, _, _⟩) rfl (fun K hK => ?_) AllReadyH.nil
  go_simp
  refine (undone_at b { r with pos := Q } W4.drew.drew hW4'.drew.drew Q (Q + k) (Nat.le_add_right _ _) (Nat.le_of_lt hkl) hs true (u, m, 0) hU _ hJ).mono ?_
  rintro e2 W5 ⟨rfl, hW5, hg6⟩
  have hgW : w.grownBy W5 (some b) := grown_twice (grown_drew (grown_drew hg5)) hg6
  have hW5' : RdAt W5 b { r with pos := Q } := hW5
  have HS5 : Hid (W5.cell? ⟨b, 0, none⟩ = some (.string r.s) ∧ W5.cell? ⟨b, 1, none⟩ = some (.int .i64 Q)) := ⟨hW5'.all.1, hW5'.all.2.1⟩
  go_wp2_with fail
  refine hK.out _ _ (HS5.out) (fun hHeld => ?_)
  clear hK K
  try simp only [Act.put, List.setIfInBounds_toArray, List.set_cons_zero, List.set_cons_succ]
  refine wpAnyH_take (i := 12) (oi := ⟨_, _, _, _, _, _⟩) (v := ?_) rfl (by kernel_rfl) (by kernel_rfl) (by kernel_rfl) (fun _ _ _ h => h) (Or.inl ⟨by rfl, ?_⟩) (by assumption) ?_
  rotate_left
  · (intro wS hSw; (try dsimp only at hSw); go_simp); all_goals with_reducible rfl
  try simp only [Act.put, List.setIfInBounds_toArray, List.set_cons_zero, List.set_cons_succ]
  refine wpAnyH_take (i := 13) (oi := ⟨_, _, _, _, _, _⟩) (v := ?_) rfl (by kernel_rfl) (by kernel_rfl) (by kernel_rfl) (fun _ _ _ h => h) (Or.inl ⟨by rfl, ?_⟩) (by assumption) ?_
  rotate_left
  · (intro wS hSw; (try dsimp only at hSw); go_simp); all_goals with_reducible rfl
  try simp only [Act.put, List.setIfInBounds_toArray, List.set_cons_zero, List.set_cons_succ]
  refine wpAnyH_take (i := 14) (oi := ⟨_, _, _, _, _, _⟩) (v := ?_) rfl (by kernel_rfl) (by kernel_rfl) (by kernel_rfl) (fun _ _ _ h => h) (Or.inl ⟨by rfl, ?_⟩) (by assumption) ?_
  rotate_left
  · (intro wS hSw; (try dsimp only at hSw); go_simp); all_goals with_reducible rfl
  try simp only [Act.put, List.setIfInBounds_toArray, List.set_cons_zero, List.set_cons_succ]
  refine wpAnyH_take (i := 15) (oi := ⟨_, _, _, _, _, _⟩) (v := ?_) rfl (by kernel_rfl) (by kernel_rfl) (by kernel_rfl) (fun _ _ _ h => h) (Or.inl ⟨by rfl, ?_⟩) (by assumption) ?_
  rotate_left
  · (intro wS hSw; (try dsimp only at hSw); go_simp); all_goals with_reducible rfl
  try simp only [Act.put, List.setIfInBounds_toArray, List.set_cons_zero, List.set_cons_succ]
  refine wpAnyH_take (i := 16) (oi := ⟨_, _, _, _, _, _⟩) (v := ?_) rfl (by kernel_rfl) (by kernel_rfl) (by kernel_rfl) (fun _ _ _ h => h) (Or.inl ⟨by rfl, ?_⟩) (by assumption) ?_
  rotate_left
  · (intro wS hSw; (try dsimp only at hSw); go_simp); all_goals with_reducible rfl
  try simp only [Act.put, List.setIfInBounds_toArray, List.set_cons_zero, List.set_cons_succ]
  refine wpAnyH_done (by kernel_rfl) ?_ _
  clear hHeld hlong
  obtain ⟨_, z1, _, _, _, _, z6, _⟩ := hW5'.all
  replace z6 : W5.cell? ⟨b, 6, none⟩ = some (.slice r.A l.length r.c) := by rw [← hn]; exact z6
  have zf1 := hW5'.froz 1
  have HA5 := Lib.hid (attrs_kept h hA hgW)
  obtain ⟨W6, hW6⟩ : ∃ W6, Hid (W6 = W5.setCell ⟨b, 1, none⟩ (.int .i64 ((Q : Int) + ((k : Int) + 1)))) := ⟨_, rfl⟩
  have hR6 : Hid (RdAt W6 b { r with pos := Q + (k + 1) }) := by show RdAt _ _ _; rw [hW6.out]; exact hW5'.pos (Q + (k + 1))
  have hg7 : w.grownBy W6 (some b) := by rw [hW6.out]; exact Lib.grownBy_setB hgW 1 _
  have hA6 := Lib.hid (attrs_kept h hA hg7)
  have hz6 : B ≤ W6.heap.size := by have := hg7.size; omega
  clear hW5 hW5'
  go_wp2_with (at_builtin; rw [← hW6.out]; go_loud (refine appendS rfl (.tmp 108) (.tmp 112) 31 rfl B 44 (.agg #[.string ByteArray.empty, .string ByteArray.empty]) 2 32 Try.underlying31 infoAttr rfl (by decide) _ l.length _ (cellsA ⟨n, u⟩) rfl hA6.out hz6 _ rfl (by rw [hW6.out]; simp) (cellsA_length _) (by intro v hv; exact cellsA_one [⟨n, u⟩] v (by simpa using hv)) (by omega) (by decide) ?_))
  intro a7 c7 W7 hown7 hb7 hz7 hgr7
  have hA7 : AttrsOwn W7 B a7 c7 (l ++ [⟨n, u⟩]) := by
    unfold AttrsOwn
    rw [List.length_append, List.flatMap_append]
    simpa using hown7
  have hR7 : RdAt W7 b { r with pos := Q + (k + 1) } := RdAt.kept (w := W6.alloc _) (hR6.out.below ((Below.refl _ _).alloc (Nat.le_refl _) _)) hgr7 (rd_apart hR6.out hA6.out)
  have y6f := hR7.froz 6
  obtain ⟨_, _, _, _, _, _, y6, _⟩ := hR7.all
  clear hown7 hgr7
  go_wp2_with fail
  go_ret
  rw [HV.out]
  refine ⟨((below_of_grown hg7 hB hBw).trans hb7).setCell hB _, rfl, a7, c7, ?_, attrs_kept hR7 hA7 (Lib.grownBy_setCell _ b 6 _)⟩
  have := hR7.attrs a7 (l.length + 1) c7
  rw [show r.pos + (n.length + 2 + k + 1) = Q + (k + 1) by have := hQ.out; omega, List.length_append]
  exact this

theorem attr_any (b B : Nat) (r : Rdr) (w : World) (h : RdAt w b r) (hB : B ≤ b) (hBw : B ≤ w.heap.size) (hp : r.pos ≤ r.s.size) (hs : r.s.size ≤ 1000000000) (l : List AttrD) (hn : r.n = l.length) (hA : AttrsOwn w B r.A r.c l) (hl : l.length ≤ 1000) (V : Told AttrD) (hV : Hid (attrL (r.s.data.toList.drop r.pos) l = V)) :
    Calls Try.prog 73 #[.pointer (some ⟨b, 0, none⟩)] w (AttrPost w B b r l V) := by
  obtain ⟨n, hw⟩ : ∃ n, Hid (wordL (r.s.data.toList.drop r.pos) = n) := ⟨_, rfl⟩
  by_cases hb : nameL n = false ∨ 20 ≤ l.length ∨ l.any (fun a => decide (a.name = n)) = true
  · exact attr_early b B r w h hB hBw hp hs l hn hA hl n hw hb V hV
  · have hvv : Hid (nameL n = true) := by
      show _ = _
      cases hq : nameL n with
      | true => rfl
      | false => exact absurd (.inl hq) hb
    have h20 : l.length < 20 := Nat.lt_of_not_le fun hq => hb (.inr (.inl hq))
    have hany : Hid (l.any (fun a => decide (a.name = n)) = false) := by
      show _ = _
      cases hq : l.any (fun a => decide (a.name = n)) with
      | false => rfl
      | true => exact absurd (.inr (.inr hq)) hb
    obtain ⟨m1, hm1⟩ : ∃ m1, Hid (pre [61] (r.s.data.toList.drop (r.pos + n.length)) = m1) := ⟨_, rfl⟩
    obtain ⟨m2, hm2⟩ : ∃ m2, Hid (pre [34] (r.s.data.toList.drop (r.pos + n.length + 1)) = m2) := ⟨_, rfl⟩
    cases hm : m1 && m2 with
    | false => exact attr_form b B r w h hB hBw hp hs l hn hA hl n hw hvv h20 hany m1 m2 hm1 hm2 hm V hV
    | true =>
      obtain ⟨rfl, rfl⟩ := Bool.and_eq_true_iff.1 hm
      obtain ⟨Q, hQ⟩ : ∃ Q, Hid (r.pos + n.length + 1 + 1 = Q) := ⟨_, rfl⟩
      by_cases hv : ((r.s.data.toList.drop Q).takeWhile (· != 34)).length = (r.s.data.toList.drop Q).length
      · exact attr_open b B r w h hB hBw hp hs l hn hA hl n hw hvv h20 hany hm1 hm2 Q hQ hv V hV
      · obtain ⟨t, ht⟩ : ∃ t, Hid ((r.s.data.toList.drop Q).takeWhile (· != 34) = t) := ⟨_, rfl⟩
        obtain ⟨u, m, e, hu⟩ : ∃ u m e, Hid (undoL true t = (u, m, e)) := ⟨_, _, _, rfl⟩
        by_cases he : e = 0
        · subst he
          by_cases hlong : 1500 < u.length
          · exact attr_long b B r w h hB hBw hp hs l hn hA hl n hw hvv h20 hany hm1 hm2 Q hQ t ht _ rfl hv u m hu hlong V hV
          · exact attr_fine b B r w h hB hBw hp hs l hn hA hl n hw hvv h20 hany hm1 hm2 Q hQ t ht _ rfl hv u m hu hlong V hV
        · exact attr_amiss b B r w h hB hBw hp hs l hn hA hl n hw hvv h20 hany hm1 hm2 Q hQ t ht _ rfl hv u m e hu he V hV
end Go.Proofs.Ythifddkmbjnncaa
