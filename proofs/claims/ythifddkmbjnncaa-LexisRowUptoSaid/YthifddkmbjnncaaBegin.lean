/-
  The reader of tokens: the walk of begin.
-/
import Derived.Test.YthifddkmbjnncaaAttr2
import Derived.Test.YthifddkmbjnncaaSortA
namespace Go.Proofs.Ythifddkmbjnncaa
open Go.RowKit Go.Sort

/-- what stands behind the loop of begin: the sort, and the answer -/
theorem sortA_len (l : List AttrD) : (sortA l).length = l.length := (sortA_perm l).length_eq




set_option maxRecDepth 100000 in
set_option maxHeartbeats 4000000 in
theorem begin_any (b B : Nat) (s : ByteArray) (pos place : Nat) (w : World) (h : RdAt w b (Rdr.new s pos place)) (hB : B ≤ b) (hBw : B ≤ w.heap.size) (hp : pos ≤ s.size) (hs : s.size ≤ 1000000000) (V : Told TokD) (hV : Hid (beginT (s.data.toList.drop pos) = V)) :
    Calls Try.prog 43 #[.pointer (some ⟨b, 0, none⟩)] w (TokPost w B b s pos place V) := by
  have HL := Lib.hid (size_toList s)
  obtain ⟨n, hn⟩ : ∃ n, Hid (wordL (s.data.toList.drop pos) = n) := ⟨_, rfl⟩
  obtain ⟨v, hv⟩ : ∃ v, Hid (nameL n = v) := ⟨_, rfl⟩
  have hn1 : pos + n.length ≤ s.size := by
    have := wordL_len (s.data.toList.drop pos)
    rw [hn.out, List.length_drop, HL.out] at this; omega
  cases v with
  | false =>
    have HV : Hid (V = .bad 0 31) := by
      show _ = _
      rw [← hV.out]
      unfold beginT
      simp only [hn.out, hv.out]
      rw [if_pos trivial]
    go_enter Try.func43, Try.ntmps43
    go_wp2_with fail
    go_step3
    go_wp2_with fail
    refine (word_any b (Rdr.new s pos place) w h hp hs n hn false hv _ rfl [] rfl).mono ?_
    rintro e W1 ⟨rfl, hW1, hg1⟩
    go_wp2_with fail
    try rw [Exit.noGoto_ret]
    go_ret
    rw [HV.out]
    exact ⟨below_of_grown hg1 hB hBw, rfl, _, hW1, rfl, rfl⟩
  | true =>
    obtain ⟨q0, hq0⟩ : ∃ q0, Hid (pos + n.length = q0) := ⟨_, rfl⟩
    have hq1 : q0 ≤ s.size := by rw [← hq0.out]; exact hn1
    have hVE : Hid (V = match attrsL (s.data.toList.drop q0) [] with | .bad k e => .bad (n.length + k) e | .ok q k => .ok ⟨q.1, n, [], sortA q.2⟩ (n.length + k)) := by
      show _ = _
      rw [← hV.out]
      unfold beginT
      simp only [hn.out, hv.out]
      rw [if_neg (by decide), List.drop_drop, hq0.out]
      unfold attrsL
      rw [attrsF_more ((s.data.toList.drop pos).length + 1) (s.data.toList.drop q0) [] ((s.data.toList.drop q0).length + 1) (by simp only [List.length_drop]; have := hq0.out; omega) (by omega)]
      cases attrsF ((s.data.toList.drop q0).length + 1) (s.data.toList.drop q0) [] <;> rfl
    obtain ⟨R, hR0⟩ : ∃ R, Hid (attrsL (s.data.toList.drop q0) [] = R) := ⟨_, rfl⟩
    rw [hR0.out] at hVE
    go_enter Try.func43, Try.ntmps43
    go_wp2_with fail
    go_step3
    go_wp2_with fail
    refine (word_any b (Rdr.new s pos place) w h hp hs n hn true hv _ rfl n rfl).mono ?_
    rintro e W1 ⟨rfl, hW1, hg1⟩
    have hW1' : RdAt W1 b { Rdr.new s pos place with pos := q0 } := by rw [← hq0.out]; exact hW1
    have zf4 := hW1'.froz 4
    obtain ⟨_, _, _, _, z4, _⟩ := hW1'.all
    have HW2 : Hid (RdAt (W1.setCell ⟨b, 4, none⟩ (.string ⟨n.toArray⟩)) b { Rdr.new s pos place with pos := q0, name := n }) := hW1'.name n
    have hbw := hBw
    have hb2 : Below B w (W1.setCell ⟨b, 4, none⟩ (.string ⟨n.toArray⟩)) := (below_of_grown hg1 hB hBw).setCell hB _
    clear hW1 hW1' h hn hv hV
    go_wp2_with fail
    go_step3
    go_wp2_with fail
    clear z4 zf4
    go_loopg [] (s.size - q0) (fun g wr => ∃ (p : Nat) (bs : List AttrD) (A : Option Addr) (c : Nat), q0 ≤ p ∧ p ≤ s.size ∧ g = s.size - p ∧ Hid (RdAt wr b ⟨s, p, 0, place, n, [], A, bs.length, c, 0, 0⟩) ∧ Hid (AttrsOwn wr B A c bs) ∧ Hid (AttrsFine bs) ∧ Hid (Below B w wr) ∧ Hid ((attrsL (s.data.toList.drop p) bs).past (p - q0) = R))
    case atStart => exact ⟨q0, [], none, 0, Nat.le_refl _, hq1, rfl, HW2.out, World.ownsRow_nil _ _ _ _, attrsFine_nil, hb2, by show _ = _; rw [hR0.out, Nat.sub_self, Told.past_zero]⟩
    case round =>
      obtain ⟨p, bs, A, c, hqp, hps, rfl, HR, HA, hfine, hbel, hin⟩ := hrel
      obtain ⟨k, hk⟩ : ∃ k, Hid (skipL (s.data.toList.drop p) = k) := ⟨_, rfl⟩
      have hpk : p + k ≤ s.size := by
        have := skipL_len (s.data.toList.drop p)
        rw [hk.out, List.length_drop, HL.out] at this; omega
      obtain ⟨m1, hm1⟩ : ∃ m1, Hid (pre [62] (s.data.toList.drop (p + k)) = m1) := ⟨_, rfl⟩
      obtain ⟨m2, hm2⟩ : ∃ m2, Hid (pre [47, 62] (s.data.toList.drop (p + k)) = m2) := ⟨_, rfl⟩
      have hbs1 : bs.length ≤ 1000 := by have := hfine.out.many; omega
      go_wp2_with fail
      refine (blanks_any b _ wr HR.out hps hs k hk).mono ?_
      rintro e W2 ⟨rfl, hW2, hg2⟩
      have HW3 : Hid (RdAt W2 b ⟨s, p + k, 0, place, n, [], A, bs.length, c, 0, 0⟩) := hW2
      have HA2 := Lib.hid (attrs_kept HR.out HA.out hg2)
      have hb3 := hbel.out.grown hg2 (Nat.le_trans hbw hbel.out.size) (fun j hj => by injection hj with hj; omega)
      clear hW2
      cases m1 with
      | true =>
        have HV : Hid (V = .ok ⟨1, n, [], sortA bs⟩ (n.length + (p - q0 + (k + 1)))) := by
          show _ = _
          rw [hVE.out, ← hin.out, attrsL_one _ _ k hk.out.symm (by rw [List.drop_drop]; exact hm1.out)]
          rfl
        go_wp2_with fail
        refine (is_any b _ W2 HW3.out [62] hpk hs true hm1 (by decide)).mono ?_
        rintro e W4 ⟨rfl, hW4, hg4⟩
        have hW4' : RdAt W4 b ⟨s, p + k + 1, 0, place, n, [], A, bs.length, c, 0, 0⟩ := hW4
        have HA4 := Lib.hid (attrs_kept HW3.out HA2.out hg4)
        have hb4 := hb3.grown hg4 (Nat.le_trans hbw hb3.size) (fun j hj => by injection hj with hj; omega)
        have zf2 := hW4'.froz 2
        obtain ⟨_, _, z2, _⟩ := hW4'.all
        have hRK : RdAt (W4.setCell ⟨b, 2, none⟩ (.int .i64 1)) b ⟨s, pos + (n.length + (p - q0 + (k + 1))), 1, place, n, [], A, bs.length, c, 0, 0⟩ := by
          have := hW4'.kind 1
          rw [show pos + (n.length + (p - q0 + (k + 1))) = p + k + 1 by have := hq0.out; omega]; exact this
        have HAK : Hid (AttrsOwn (W4.setCell ⟨b, 2, none⟩ (.int .i64 1)) B A c bs) := attrs_kept hW4' HA4.out (Lib.grownBy_setCell _ b 2 _)
        have hbK : Below B w (W4.setCell ⟨b, 2, none⟩ (.int .i64 1)) := hb4.setCell hB _
        clear hW4 hW4'
        obtain ⟨_, _, _, _, _, _, z6, _⟩ := hRK.all
        have HRK := Lib.hid hRK
        clear hRK
        go_wp2_with fail
        refine (SortA_any bs A c B _ HAK.out hbs1 hfine.out.apart).mono ?_
        rintro e W6 ⟨rfl, hA6, hg6⟩
        have hR6 := HRK.out.kept hg6 (rd_apart HRK.out HAK.out)
        go_wp2_with fail
        try rw [Exit.noGoto_ret]
        go_ret
        rw [HV.out]
        refine ⟨hbK.grown hg6 (Nat.le_trans hbw hbK.size) (fun k hk => (HAK.out.lt k hk).1), rfl, A, c, ?_, ?_⟩
        · rw [sortA_len]
          exact hR6
        · exact hA6
      | false =>
        cases m2 with
        | true =>
          have HV : Hid (V = .ok ⟨3, n, [], sortA bs⟩ (n.length + (p - q0 + (k + 2)))) := by
            show _ = _
            rw [hVE.out, ← hin.out, attrsL_two _ _ k hk.out.symm (by rw [List.drop_drop]; exact hm1.out) (by rw [List.drop_drop]; exact hm2.out)]
            rfl
          go_wp2_with fail
          refine (is_any b _ W2 HW3.out [62] hpk hs false hm1 (by decide)).mono ?_
          rintro e W4 ⟨rfl, hW4, hg4⟩
          have hW4' : RdAt W4 b ⟨s, p + k, 0, place, n, [], A, bs.length, c, 0, 0⟩ := hW4
          have HA4 := Lib.hid (attrs_kept HW3.out HA2.out hg4)
          have hb4 := hb3.grown hg4 (Nat.le_trans hbw hb3.size) (fun j hj => by injection hj with hj; omega)
          clear hW4
          go_wp2_with fail
          refine (is_any b _ W4 hW4' [47, 62] hpk hs true hm2 (by decide)).mono ?_
          rintro e W5 ⟨rfl, hW5, hg5⟩
          have hW5' : RdAt W5 b ⟨s, p + k + 2, 0, place, n, [], A, bs.length, c, 0, 0⟩ := hW5
          have HA5 := Lib.hid (attrs_kept hW4' HA4.out hg5)
          have hb5 := hb4.grown hg5 (Nat.le_trans hbw hb4.size) (fun j hj => by injection hj with hj; omega)
          have zf2 := hW5'.froz 2
          obtain ⟨_, _, z2, _⟩ := hW5'.all
          have hRK : RdAt (W5.setCell ⟨b, 2, none⟩ (.int .i64 3)) b ⟨s, pos + (n.length + (p - q0 + (k + 2))), 3, place, n, [], A, bs.length, c, 0, 0⟩ := by
            have := hW5'.kind 3
            rw [show pos + (n.length + (p - q0 + (k + 2))) = p + k + 2 by have := hq0.out; omega]; exact this
          have HAK : Hid (AttrsOwn (W5.setCell ⟨b, 2, none⟩ (.int .i64 3)) B A c bs) := attrs_kept hW5' HA5.out (Lib.grownBy_setCell _ b 2 _)
          have hbK : Below B w (W5.setCell ⟨b, 2, none⟩ (.int .i64 3)) := hb5.setCell hB _
          clear hW5 hW5' hW4'
          obtain ⟨_, _, _, _, _, _, z6, _⟩ := hRK.all
          have HRK := Lib.hid hRK
          clear hRK
          go_wp2_with fail
          refine (SortA_any bs A c B _ HAK.out hbs1 hfine.out.apart).mono ?_
          rintro e W6 ⟨rfl, hA6, hg6⟩
          have hR6 := HRK.out.kept hg6 (rd_apart HRK.out HAK.out)
          go_wp2_with fail
          try rw [Exit.noGoto_ret]
          go_ret
          rw [HV.out]
          refine ⟨hbK.grown hg6 (Nat.le_trans hbw hbK.size) (fun k hk => (HAK.out.lt k hk).1), rfl, A, c, ?_, ?_⟩
          · rw [sortA_len]
            exact hR6
          · exact hA6
        | false =>
          go_wp2_with fail
          refine (is_any b _ W2 HW3.out [62] hpk hs false hm1 (by decide)).mono ?_
          rintro e W4 ⟨rfl, hW4, hg4⟩
          have hW4' : RdAt W4 b ⟨s, p + k, 0, place, n, [], A, bs.length, c, 0, 0⟩ := hW4
          have HA4 := Lib.hid (attrs_kept HW3.out HA2.out hg4)
          have hb4 := hb3.grown hg4 (Nat.le_trans hbw hb3.size) (fun j hj => by injection hj with hj; omega)
          clear hW4
          go_wp2_with fail
          refine (is_any b _ W4 hW4' [47, 62] hpk hs false hm2 (by decide)).mono ?_
          rintro e W5 ⟨rfl, hW5, hg5⟩
          obtain ⟨x, hx⟩ : ∃ x, Hid (p + k = x) := ⟨_, rfl⟩
          have HW5 : Hid (RdAt W5 b ⟨s, x, 0, place, n, [], A, bs.length, c, 0, 0⟩) := by show RdAt _ _ _; rw [← hx.out]; exact hW5
          have HA5 := Lib.hid (attrs_kept hW4' HA4.out hg5)
          have hb5 := hb4.grown hg5 (Nat.le_trans hbw hb4.size) (fun j hj => by injection hj with hj; omega)
          have HS : Hid (W5.drew.cell? ⟨b, 0, none⟩ = some (.string s) ∧ W5.drew.cell? ⟨b, 1, none⟩ = some (.int .i64 x)) := ⟨HW5.out.drew.all.1, HW5.out.drew.all.2.1⟩
          have hd1 : Hid (pre [62] ((s.data.toList.drop p).drop k) = false) := by show _ = _; rw [List.drop_drop]; exact hm1.out
          have hd2 : Hid (pre [47, 62] ((s.data.toList.drop p).drop k) = false) := by show _ = _; rw [List.drop_drop]; exact hm2.out
          have hdx : Hid ((s.data.toList.drop p).drop k = s.data.toList.drop x) := by show _ = _; rw [List.drop_drop, hx.out]
          have hxs : x ≤ s.size := by rw [← hx.out]; exact hpk
          have hbK := hb5.drew
          clear hW5 hW4' hpk
          by_cases hk0 : k = 0
          · have hkd : decide (0 < k) = false := by simp; omega
            have HV : Hid (V = .bad (n.length + (p - q0 + k)) 30) := by
              show _ = _
              rw [hVE.out, ← hin.out, attrsL_form _ _ k hk.out.symm hd1.out hd2.out (.inl hk0)]
              rfl
            clear hk0
            go_wp2_with fail
            refine wp_region_held_drew (S := fun w' => w'.cell? ⟨b, 0, none⟩ = some (.string s) ∧ w'.cell? ⟨b, 1, none⟩ = some (.int .i64 x)) (by kernel_rfl) HS.out (fun hHeld => ?_)
            refine wpAnyH_take (i := 0) (oi := ⟨_, _, _, _, _, _⟩) (v := ?_) rfl (by kernel_rfl) (by kernel_rfl) (by kernel_rfl) (fun _ _ _ h => h) (Or.inl ⟨by rfl, ?_⟩) (by assumption) ?_
            rotate_left
            · (intro wS hSw; (try dsimp only at hSw); go_simp); all_goals with_reducible rfl
            try simp only [Act.put, List.setIfInBounds_toArray, List.set_cons_zero, List.set_cons_succ]
            refine wpAnyH_take (i := 1) (oi := ⟨_, _, _, _, _, _⟩) (v := ?_) rfl (by kernel_rfl) (by kernel_rfl) (by kernel_rfl) (fun _ _ _ h => h) (Or.inl ⟨by rfl, ?_⟩) (by assumption) ?_
            rotate_left
            · (intro wS hSw; (try dsimp only at hSw); go_simp); all_goals with_reducible rfl
            try simp only [Act.put, List.setIfInBounds_toArray, List.set_cons_zero, List.set_cons_succ]
            refine wpAnyH_take (i := 2) (oi := ⟨_, _, _, _, _, _⟩) (v := ?_) rfl (by kernel_rfl) (by kernel_rfl) (by kernel_rfl) (fun _ _ _ h => h) (Or.inl ⟨by rfl, ?_⟩) (by assumption) ?_
            rotate_left
            · (intro wS hSw; (try dsimp only at hSw); go_simp); all_goals with_reducible rfl
            try simp only [Act.put, List.setIfInBounds_toArray, List.set_cons_zero, List.set_cons_succ]
            refine wpAnyH_take (i := 3) (oi := ⟨_, _, _, _, _, _⟩) (v := undef) rfl (by kernel_rfl) (by kernel_rfl) (by kernel_rfl) (fun _ _ _ h => h) (Or.inr ⟨by rfl, rfl⟩) (by assumption) ?_
            try simp only [Act.put, List.setIfInBounds_toArray, List.set_cons_zero, List.set_cons_succ]
            refine wpAnyH_take (i := 4) (oi := ⟨_, _, _, _, _, _⟩) (v := undef) rfl (by kernel_rfl) (by kernel_rfl) (by kernel_rfl) (fun _ _ _ h => h) (Or.inr ⟨by rfl, rfl⟩) (by assumption) ?_
            try simp only [Act.put, List.setIfInBounds_toArray, List.set_cons_zero, List.set_cons_succ]
            refine wpAnyH_take (i := 5) (oi := ⟨_, _, _, _, _, _⟩) (v := undef) rfl (by kernel_rfl) (by kernel_rfl) (by kernel_rfl) (fun _ _ _ h => h) (Or.inr ⟨by rfl, rfl⟩) (by assumption) ?_
            try simp only [Act.put, List.setIfInBounds_toArray, List.set_cons_zero, List.set_cons_succ]
            refine wpAnyH_take (i := 6) (oi := ⟨_, _, _, _, _, _⟩) (v := undef) rfl (by kernel_rfl) (by kernel_rfl) (by kernel_rfl) (fun _ _ _ h => h) (Or.inr ⟨by rfl, rfl⟩) (by assumption) ?_
            try simp only [Act.put, List.setIfInBounds_toArray, List.set_cons_zero, List.set_cons_succ]
            refine wpAnyH_take (i := 7) (oi := ⟨_, _, _, _, _, _⟩) (v := undef) rfl (by kernel_rfl) (by kernel_rfl) (by kernel_rfl) (fun _ _ _ h => h) (Or.inr ⟨by rfl, rfl⟩) (by assumption) ?_
            try simp only [Act.put, List.setIfInBounds_toArray, List.set_cons_zero, List.set_cons_succ]
            refine wpAnyH_take (i := 8) (oi := ⟨_, _, _, _, _, _⟩) (v := undef) rfl (by kernel_rfl) (by kernel_rfl) (by kernel_rfl) (fun _ _ _ h => h) (Or.inr ⟨by rfl, rfl⟩) (by assumption) ?_
            try simp only [Act.put, List.setIfInBounds_toArray, List.set_cons_zero, List.set_cons_succ]
            refine wpAnyH_take (i := 9) (oi := ⟨_, _, _, _, _, _⟩) (v := undef) rfl (by kernel_rfl) (by kernel_rfl) (by kernel_rfl) (fun _ _ _ h => h) (Or.inr ⟨by rfl, rfl⟩) (by assumption) ?_
            try simp only [Act.put, List.setIfInBounds_toArray, List.set_cons_zero, List.set_cons_succ]
            refine wpAnyH_take (i := 10) (oi := ⟨_, _, _, _, _, _⟩) (v := undef) rfl (by kernel_rfl) (by kernel_rfl) (by kernel_rfl) (fun _ _ _ h => h) (Or.inr ⟨by rfl, rfl⟩) (by assumption) ?_
            try simp only [Act.put, List.setIfInBounds_toArray, List.set_cons_zero, List.set_cons_succ]
            refine wpAnyH_take (i := 11) (oi := ⟨_, _, _, _, _, _⟩) (v := undef) rfl (by kernel_rfl) (by kernel_rfl) (by kernel_rfl) (fun _ _ _ h => h) (Or.inr ⟨by rfl, rfl⟩) (by assumption) ?_
            try simp only [Act.put, List.setIfInBounds_toArray, List.set_cons_zero, List.set_cons_succ]
            refine wpAnyH_take (i := 12) (oi := ⟨_, _, _, _, _, _⟩) (v := undef) rfl (by kernel_rfl) (by kernel_rfl) (by kernel_rfl) (fun _ _ _ h => h) (Or.inr ⟨by rfl, rfl⟩) (by assumption) ?_
            try simp only [Act.put, List.setIfInBounds_toArray, List.set_cons_zero, List.set_cons_succ]
            refine wpAnyH_take (i := 13) (oi := ⟨_, _, _, _, _, _⟩) (v := ?_) rfl (by kernel_rfl) (by kernel_rfl) (by kernel_rfl) (fun _ _ _ h => h) (Or.inl ⟨by rfl, ?_⟩) (by assumption) ?_
            rotate_left
            · (intro wS hSw; (try dsimp only at hSw); go_simp); all_goals with_reducible rfl
            try simp only [Act.put, List.setIfInBounds_toArray, List.set_cons_zero, List.set_cons_succ]
            refine wpAnyH_take (i := 14) (oi := ⟨_, _, _, _, _, _⟩) (v := ?_) rfl (by kernel_rfl) (by kernel_rfl) (by kernel_rfl) (fun _ _ _ h => h) (Or.inl ⟨by rfl, ?_⟩) (by assumption) ?_
            rotate_left
            · (intro wS hSw; (try dsimp only at hSw); go_simp); all_goals with_reducible rfl
            try simp only [Act.put, List.setIfInBounds_toArray, List.set_cons_zero, List.set_cons_succ]
            refine wpAnyH_done (by kernel_rfl) ?_ _
            clear hHeld
            obtain ⟨_, g1⟩ := HS.out
            go_wp2_with fail
            refine (fail_any b _ W5.drew HW5.out.drew x 30).mono ?_
            rintro e W6 ⟨rfl, hW6, hg6⟩
            go_wp2_with fail
            try rw [Exit.noGoto_ret]
            go_ret
            rw [HV.out]
            refine ⟨hbK.grown hg6 (Nat.le_trans hbw hbK.size) (fun j hj => by injection hj with hj; omega), rfl, _, hW6, ?_, rfl⟩
            show (x : Int) = _
            have := hx.out
            have := hq0.out
            omega
          · have hkd : decide (0 < k) = true := by simp; omega
            have HK := Lib.hid hk0
            clear hk0
            by_cases hend : x = s.size
            · have HV : Hid (V = .bad (n.length + (p - q0 + k)) 30) := by
                show _ = _
                rw [hVE.out, ← hin.out, attrsL_form _ _ k hk.out.symm hd1.out hd2.out (.inr (by rw [hdx.out]; exact List.drop_eq_nil_of_le (by rw [HL.out]; omega)))]
                rfl
              have hxe : (s.size : Int) ≤ (x : Int) := by omega
              clear hend
              go_wp2_with fail
              refine wp_region_held_drew (S := fun w' => w'.cell? ⟨b, 0, none⟩ = some (.string s) ∧ w'.cell? ⟨b, 1, none⟩ = some (.int .i64 x)) (by kernel_rfl) HS.out (fun hHeld => ?_)
              refine wpAnyH_take (i := 0) (oi := ⟨_, _, _, _, _, _⟩) (v := ?_) rfl (by kernel_rfl) (by kernel_rfl) (by kernel_rfl) (fun _ _ _ h => h) (Or.inl ⟨by rfl, ?_⟩) (by assumption) ?_
              rotate_left
              · (intro wS hSw; (try dsimp only at hSw); go_simp); all_goals with_reducible rfl
              try simp only [Act.put, List.setIfInBounds_toArray, List.set_cons_zero, List.set_cons_succ]
              refine wpAnyH_take (i := 1) (oi := ⟨_, _, _, _, _, _⟩) (v := ?_) rfl (by kernel_rfl) (by kernel_rfl) (by kernel_rfl) (fun _ _ _ h => h) (Or.inl ⟨by rfl, ?_⟩) (by assumption) ?_
              rotate_left
              · (intro wS hSw; (try dsimp only at hSw); go_simp); all_goals with_reducible rfl
              try simp only [Act.put, List.setIfInBounds_toArray, List.set_cons_zero, List.set_cons_succ]
              refine wpAnyH_take (i := 2) (oi := ⟨_, _, _, _, _, _⟩) (v := ?_) rfl (by kernel_rfl) (by kernel_rfl) (by kernel_rfl) (fun _ _ _ h => h) (Or.inl ⟨by rfl, ?_⟩) (by assumption) ?_
              rotate_left
              · (intro wS hSw; (try dsimp only at hSw); go_simp); all_goals with_reducible rfl
              try simp only [Act.put, List.setIfInBounds_toArray, List.set_cons_zero, List.set_cons_succ]
              refine wpAnyH_take (i := 3) (oi := ⟨_, _, _, _, _, _⟩) (v := ?_) rfl (by kernel_rfl) (by kernel_rfl) (by kernel_rfl) (fun _ _ _ h => h) (Or.inl ⟨by rfl, ?_⟩) (by assumption) ?_
              rotate_left
              · (intro wS hSw; (try dsimp only at hSw); go_simp); all_goals with_reducible rfl
              try simp only [Act.put, List.setIfInBounds_toArray, List.set_cons_zero, List.set_cons_succ]
              refine wpAnyH_take (i := 4) (oi := ⟨_, _, _, _, _, _⟩) (v := ?_) rfl (by kernel_rfl) (by kernel_rfl) (by kernel_rfl) (fun _ _ _ h => h) (Or.inl ⟨by rfl, ?_⟩) (by assumption) ?_
              rotate_left
              · (intro wS hSw; (try dsimp only at hSw); go_simp); all_goals with_reducible rfl
              try simp only [Act.put, List.setIfInBounds_toArray, List.set_cons_zero, List.set_cons_succ]
              refine wpAnyH_take (i := 5) (oi := ⟨_, _, _, _, _, _⟩) (v := ?_) rfl (by kernel_rfl) (by kernel_rfl) (by kernel_rfl) (fun _ _ _ h => h) (Or.inl ⟨by rfl, ?_⟩) (by assumption) ?_
              rotate_left
              · (intro wS hSw; (try dsimp only at hSw); go_simp); all_goals with_reducible rfl
              try simp only [Act.put, List.setIfInBounds_toArray, List.set_cons_zero, List.set_cons_succ]
              refine wpAnyH_take (i := 6) (oi := ⟨_, _, _, _, _, _⟩) (v := ?_) rfl (by kernel_rfl) (by kernel_rfl) (by kernel_rfl) (fun _ _ _ h => h) (Or.inl ⟨by rfl, ?_⟩) (by assumption) ?_
              rotate_left
              · (intro wS hSw; (try dsimp only at hSw); go_simp); all_goals with_reducible rfl
              try simp only [Act.put, List.setIfInBounds_toArray, List.set_cons_zero, List.set_cons_succ]
              refine wpAnyH_take (i := 7) (oi := ⟨_, _, _, _, _, _⟩) (v := ?_) rfl (by kernel_rfl) (by kernel_rfl) (by kernel_rfl) (fun _ _ _ h => h) (Or.inl ⟨by rfl, ?_⟩) (by assumption) ?_
              rotate_left
              · (intro wS hSw; (try dsimp only at hSw); go_simp); all_goals with_reducible rfl
              try simp only [Act.put, List.setIfInBounds_toArray, List.set_cons_zero, List.set_cons_succ]
              refine wpAnyH_take (i := 8) (oi := ⟨_, _, _, _, _, _⟩) (v := ?_) rfl (by kernel_rfl) (by kernel_rfl) (by kernel_rfl) (fun _ _ _ h => h) (Or.inl ⟨by rfl, ?_⟩) (by assumption) ?_
              rotate_left
              · (intro wS hSw; (try dsimp only at hSw); go_simp); all_goals with_reducible rfl
              try simp only [Act.put, List.setIfInBounds_toArray, List.set_cons_zero, List.set_cons_succ]
              refine wpAnyH_take (i := 9) (oi := ⟨_, _, _, _, _, _⟩) (v := ?_) rfl (by kernel_rfl) (by kernel_rfl) (by kernel_rfl) (fun _ _ _ h => h) (Or.inl ⟨by rfl, ?_⟩) (by assumption) ?_
              rotate_left
              · (intro wS hSw; (try dsimp only at hSw); go_simp); all_goals with_reducible rfl
              try simp only [Act.put, List.setIfInBounds_toArray, List.set_cons_zero, List.set_cons_succ]
              refine wpAnyH_take (i := 10) (oi := ⟨_, _, _, _, _, _⟩) (v := ?_) rfl (by kernel_rfl) (by kernel_rfl) (by kernel_rfl) (fun _ _ _ h => h) (Or.inl ⟨by rfl, ?_⟩) (by assumption) ?_
              rotate_left
              · (intro wS hSw; (try dsimp only at hSw); go_simp); all_goals with_reducible rfl
              try simp only [Act.put, List.setIfInBounds_toArray, List.set_cons_zero, List.set_cons_succ]
              refine wpAnyH_take (i := 11) (oi := ⟨_, _, _, _, _, _⟩) (v := ?_) rfl (by kernel_rfl) (by kernel_rfl) (by kernel_rfl) (fun _ _ _ h => h) (Or.inl ⟨by rfl, ?_⟩) (by assumption) ?_
              rotate_left
              · (intro wS hSw; (try dsimp only at hSw); go_simp); all_goals with_reducible rfl
              try simp only [Act.put, List.setIfInBounds_toArray, List.set_cons_zero, List.set_cons_succ]
              refine wpAnyH_take (i := 12) (oi := ⟨_, _, _, _, _, _⟩) (v := ?_) rfl (by kernel_rfl) (by kernel_rfl) (by kernel_rfl) (fun _ _ _ h => h) (Or.inl ⟨by rfl, ?_⟩) (by assumption) ?_
              rotate_left
              · (intro wS hSw; (try dsimp only at hSw); go_simp); all_goals with_reducible rfl
              try simp only [Act.put, List.setIfInBounds_toArray, List.set_cons_zero, List.set_cons_succ]
              refine wpAnyH_take (i := 13) (oi := ⟨_, _, _, _, _, _⟩) (v := ?_) rfl (by kernel_rfl) (by kernel_rfl) (by kernel_rfl) (fun _ _ _ h => h) (Or.inl ⟨by rfl, ?_⟩) (by assumption) ?_
              rotate_left
              · (intro wS hSw; (try dsimp only at hSw); go_simp); all_goals with_reducible rfl
              try simp only [Act.put, List.setIfInBounds_toArray, List.set_cons_zero, List.set_cons_succ]
              refine wpAnyH_take (i := 14) (oi := ⟨_, _, _, _, _, _⟩) (v := ?_) rfl (by kernel_rfl) (by kernel_rfl) (by kernel_rfl) (fun _ _ _ h => h) (Or.inl ⟨by rfl, ?_⟩) (by assumption) ?_
              rotate_left
              · (intro wS hSw; (try dsimp only at hSw); go_simp); all_goals with_reducible rfl
              try simp only [Act.put, List.setIfInBounds_toArray, List.set_cons_zero, List.set_cons_succ]
              refine wpAnyH_done (by kernel_rfl) ?_ _
              clear hHeld
              obtain ⟨_, g1⟩ := HS.out
              go_wp2_with fail
              refine (fail_any b _ W5.drew HW5.out.drew x 30).mono ?_
              rintro e W6 ⟨rfl, hW6, hg6⟩
              go_wp2_with fail
              try rw [Exit.noGoto_ret]
              go_ret
              rw [HV.out]
              refine ⟨hbK.grown hg6 (Nat.le_trans hbw hbK.size) (fun j hj => by injection hj with hj; omega), rfl, _, hW6, ?_, rfl⟩
              show (x : Int) = _
              have := hx.out
              have := hq0.out
              omega
            · have hxe : (x : Int) < (s.size : Int) := by omega
              have hxn : Hid (s.data.toList.drop x ≠ []) := by
                show _ ≠ _
                intro e
                have := congrArg List.length e
                rw [List.length_drop, HL.out] at this
                simp at this; omega
              obtain ⟨V', hV'⟩ : ∃ V', Hid (attrL (s.data.toList.drop x) bs = V') := ⟨_, rfl⟩
              clear hend
              go_wp2_with fail
              refine wp_region_held_drew (S := fun w' => w'.cell? ⟨b, 0, none⟩ = some (.string s) ∧ w'.cell? ⟨b, 1, none⟩ = some (.int .i64 x)) (by kernel_rfl) HS.out (fun hHeld => ?_)
              refine wpAnyH_take (i := 0) (oi := ⟨_, _, _, _, _, _⟩) (v := ?_) rfl (by kernel_rfl) (by kernel_rfl) (by kernel_rfl) (fun _ _ _ h => h) (Or.inl ⟨by rfl, ?_⟩) (by assumption) ?_
              rotate_left
              · (intro wS hSw; (try dsimp only at hSw); go_simp); all_goals with_reducible rfl
              try simp only [Act.put, List.setIfInBounds_toArray, List.set_cons_zero, List.set_cons_succ]
              refine wpAnyH_take (i := 1) (oi := ⟨_, _, _, _, _, _⟩) (v := ?_) rfl (by kernel_rfl) (by kernel_rfl) (by kernel_rfl) (fun _ _ _ h => h) (Or.inl ⟨by rfl, ?_⟩) (by assumption) ?_
              rotate_left
              · (intro wS hSw; (try dsimp only at hSw); go_simp); all_goals with_reducible rfl
              try simp only [Act.put, List.setIfInBounds_toArray, List.set_cons_zero, List.set_cons_succ]
              refine wpAnyH_take (i := 2) (oi := ⟨_, _, _, _, _, _⟩) (v := ?_) rfl (by kernel_rfl) (by kernel_rfl) (by kernel_rfl) (fun _ _ _ h => h) (Or.inl ⟨by rfl, ?_⟩) (by assumption) ?_
              rotate_left
              · (intro wS hSw; (try dsimp only at hSw); go_simp); all_goals with_reducible rfl
              try simp only [Act.put, List.setIfInBounds_toArray, List.set_cons_zero, List.set_cons_succ]
              refine wpAnyH_take (i := 3) (oi := ⟨_, _, _, _, _, _⟩) (v := ?_) rfl (by kernel_rfl) (by kernel_rfl) (by kernel_rfl) (fun _ _ _ h => h) (Or.inl ⟨by rfl, ?_⟩) (by assumption) ?_
              rotate_left
              · (intro wS hSw; (try dsimp only at hSw); go_simp); all_goals with_reducible rfl
              try simp only [Act.put, List.setIfInBounds_toArray, List.set_cons_zero, List.set_cons_succ]
              refine wpAnyH_take (i := 4) (oi := ⟨_, _, _, _, _, _⟩) (v := ?_) rfl (by kernel_rfl) (by kernel_rfl) (by kernel_rfl) (fun _ _ _ h => h) (Or.inl ⟨by rfl, ?_⟩) (by assumption) ?_
              rotate_left
              · (intro wS hSw; (try dsimp only at hSw); go_simp); all_goals with_reducible rfl
              try simp only [Act.put, List.setIfInBounds_toArray, List.set_cons_zero, List.set_cons_succ]
              refine wpAnyH_take (i := 5) (oi := ⟨_, _, _, _, _, _⟩) (v := ?_) rfl (by kernel_rfl) (by kernel_rfl) (by kernel_rfl) (fun _ _ _ h => h) (Or.inl ⟨by rfl, ?_⟩) (by assumption) ?_
              rotate_left
              · (intro wS hSw; (try dsimp only at hSw); go_simp); all_goals with_reducible rfl
              try simp only [Act.put, List.setIfInBounds_toArray, List.set_cons_zero, List.set_cons_succ]
              refine wpAnyH_take (i := 6) (oi := ⟨_, _, _, _, _, _⟩) (v := ?_) rfl (by kernel_rfl) (by kernel_rfl) (by kernel_rfl) (fun _ _ _ h => h) (Or.inl ⟨by rfl, ?_⟩) (by assumption) ?_
              rotate_left
              · (intro wS hSw; (try dsimp only at hSw); go_simp); all_goals with_reducible rfl
              try simp only [Act.put, List.setIfInBounds_toArray, List.set_cons_zero, List.set_cons_succ]
              refine wpAnyH_take (i := 7) (oi := ⟨_, _, _, _, _, _⟩) (v := ?_) rfl (by kernel_rfl) (by kernel_rfl) (by kernel_rfl) (fun _ _ _ h => h) (Or.inl ⟨by rfl, ?_⟩) (by assumption) ?_
              rotate_left
              · (intro wS hSw; (try dsimp only at hSw); go_simp); all_goals with_reducible rfl
              try simp only [Act.put, List.setIfInBounds_toArray, List.set_cons_zero, List.set_cons_succ]
              refine wpAnyH_take (i := 8) (oi := ⟨_, _, _, _, _, _⟩) (v := ?_) rfl (by kernel_rfl) (by kernel_rfl) (by kernel_rfl) (fun _ _ _ h => h) (Or.inl ⟨by rfl, ?_⟩) (by assumption) ?_
              rotate_left
              · (intro wS hSw; (try dsimp only at hSw); go_simp); all_goals with_reducible rfl
              try simp only [Act.put, List.setIfInBounds_toArray, List.set_cons_zero, List.set_cons_succ]
              refine wpAnyH_take (i := 9) (oi := ⟨_, _, _, _, _, _⟩) (v := ?_) rfl (by kernel_rfl) (by kernel_rfl) (by kernel_rfl) (fun _ _ _ h => h) (Or.inl ⟨by rfl, ?_⟩) (by assumption) ?_
              rotate_left
              · (intro wS hSw; (try dsimp only at hSw); go_simp); all_goals with_reducible rfl
              try simp only [Act.put, List.setIfInBounds_toArray, List.set_cons_zero, List.set_cons_succ]
              refine wpAnyH_take (i := 10) (oi := ⟨_, _, _, _, _, _⟩) (v := ?_) rfl (by kernel_rfl) (by kernel_rfl) (by kernel_rfl) (fun _ _ _ h => h) (Or.inl ⟨by rfl, ?_⟩) (by assumption) ?_
              rotate_left
              · (intro wS hSw; (try dsimp only at hSw); go_simp); all_goals with_reducible rfl
              try simp only [Act.put, List.setIfInBounds_toArray, List.set_cons_zero, List.set_cons_succ]
              refine wpAnyH_take (i := 11) (oi := ⟨_, _, _, _, _, _⟩) (v := ?_) rfl (by kernel_rfl) (by kernel_rfl) (by kernel_rfl) (fun _ _ _ h => h) (Or.inl ⟨by rfl, ?_⟩) (by assumption) ?_
              rotate_left
              · (intro wS hSw; (try dsimp only at hSw); go_simp); all_goals with_reducible rfl
              try simp only [Act.put, List.setIfInBounds_toArray, List.set_cons_zero, List.set_cons_succ]
              refine wpAnyH_take (i := 12) (oi := ⟨_, _, _, _, _, _⟩) (v := ?_) rfl (by kernel_rfl) (by kernel_rfl) (by kernel_rfl) (fun _ _ _ h => h) (Or.inl ⟨by rfl, ?_⟩) (by assumption) ?_
              rotate_left
              · (intro wS hSw; (try dsimp only at hSw); go_simp); all_goals with_reducible rfl
              try simp only [Act.put, List.setIfInBounds_toArray, List.set_cons_zero, List.set_cons_succ]
              refine wpAnyH_take (i := 13) (oi := ⟨_, _, _, _, _, _⟩) (v := ?_) rfl (by kernel_rfl) (by kernel_rfl) (by kernel_rfl) (fun _ _ _ h => h) (Or.inl ⟨by rfl, ?_⟩) (by assumption) ?_
              rotate_left
              · (intro wS hSw; (try dsimp only at hSw); go_simp); all_goals with_reducible rfl
              try simp only [Act.put, List.setIfInBounds_toArray, List.set_cons_zero, List.set_cons_succ]
              refine wpAnyH_take (i := 14) (oi := ⟨_, _, _, _, _, _⟩) (v := ?_) rfl (by kernel_rfl) (by kernel_rfl) (by kernel_rfl) (fun _ _ _ h => h) (Or.inl ⟨by rfl, ?_⟩) (by assumption) ?_
              rotate_left
              · (intro wS hSw; (try dsimp only at hSw); go_simp); all_goals with_reducible rfl
              try simp only [Act.put, List.setIfInBounds_toArray, List.set_cons_zero, List.set_cons_succ]
              refine wpAnyH_done (by kernel_rfl) ?_ _
              clear hHeld
              go_wp2_with fail
              refine (attr_any b B _ W5.drew HW5.out.drew hB (Nat.le_trans hbw hbK.size) hxs hs bs rfl HA5.out hbs1 V' hV').mono ?_
              rintro e W6 ⟨hb6, hpost⟩
              cases V' with
              | bad j e' =>
                obtain ⟨rfl, R6, hR6, hR61, hR62⟩ := hpost
                have HV : Hid (V = .bad (n.length + (p - q0 + (k + j))) e') := by
                  show _ = _
                  rw [hVE.out, ← hin.out, attrsL_bad _ _ k hk.out.symm hd1.out hd2.out HK.out (by rw [hdx.out]; exact hxn.out) j e' (by rw [hdx.out]; exact hV'.out)]
                  rfl
                have H61 := Lib.hid hR61
                have H62 := Lib.hid hR62
                clear hR61 hR62
                go_wp2_with fail
                try rw [Exit.noGoto_ret]
                go_ret
                rw [HV.out]
                refine ⟨hbK.trans hb6, rfl, R6, hR6, ?_, H62.out⟩
                rw [H61.out]
                show ((x + j : Nat) : Int) = _
                have := hx.out
                have := hq0.out
                omega
              | ok a m =>
                obtain ⟨rfl, A', c', hR6, hA6⟩ := hpost
                have hwit := attrL_within (s.data.toList.drop x) bs
                rw [hV'.out, List.length_drop, HL.out] at hwit
                obtain ⟨hm3, hmx⟩ := hwit
                have HIN : Hid ((attrsL (s.data.toList.drop (x + m)) (bs ++ [a])).past (x + m - q0) = R) := by
                  show _ = _
                  rw [← hin.out, attrsL_step _ _ k hk.out.symm hd1.out hd2.out HK.out (by rw [hdx.out]; exact hxn.out) a m (by rw [hdx.out]; exact hV'.out), Told.past_past, List.drop_drop, show p + (k + m) = x + m by have := hx.out; omega, show p - q0 + (k + m) = x + m - q0 by have := hx.out; omega]
                have HR6 : Hid (RdAt W6 b ⟨s, x + m, 0, place, n, [], A', (bs ++ [a]).length, c', 0, 0⟩) := hR6
                clear hR6
                go_wp2_with fail
                go_roundg (s.size - (x + m))
                case measure => have := hx.out; omega
                case rel => exact ⟨x + m, bs ++ [a], A', c', by have := hx.out; omega, by omega, rfl, HR6.out, hA6, attrsFine_snoc hfine.out hV'.out, hbK.trans hb6, HIN.out⟩
end Go.Proofs.Ythifddkmbjnncaa
