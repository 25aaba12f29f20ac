/-
  The walk of the law LexisRow.
-/
import Derived.Test.YthifddkmbjnncaaToks
namespace Go.Proofs.Ythifddkmbjnncaa
open Go.RowKit


set_option maxRecDepth 100000 in
set_option maxHeartbeats 4000000 in
theorem walk_LexisRow (s : ByteArray) (w : World) (hs1 : s.size ≤ 1048576) (_ : s.size ≤ maxLen) : Calls Try.prog 4 #[.string s] w (Ret w (.bool true)) := by
  have hs : s.size ≤ 1000000000 := by omega
  have HL := Lib.hid (size_toList s)
  obtain ⟨R, hR⟩ : ∃ R, Hid (allL 0 s.data.toList = R) := ⟨_, rfl⟩
  go_enter Try.func4, Try.ntmps4
  go_wp2_with fail
  refine (All_any s w hs R hR).mono ?_
  rintro e w1 ⟨hb1, hpost⟩
  rcases hpost with ⟨hR0, A, c, S, rfl, hown, hat, hS⟩ | ⟨hR0, rfl⟩
  · have hrow0 : RowOf 0 (s.data.toList.drop 0) ((S.map (·.1)).drop 0) := by
      rw [List.drop_zero, List.drop_zero, hS, ← hR.out]
      exact all_row (by rw [hR.out]; exact hR0)
    have HOWN := Lib.hid hown
    have HSZ : S.length ≤ 1000000000 := by
      have := rowOf_len _ _ _ hrow0
      rw [List.drop_zero, List.drop_zero, HL.out, List.length_map] at this
      omega
    clear hown hat hS hR0
    go_wp2_with fail
    go_loopw [6, 29] (fun at_ i wr => ∃ (p k : Nat), p ≤ s.size ∧ k ≤ S.length ∧ at_ = .int .i64 p ∧ i = .int .i64 k ∧ Hid (RowOf p (s.data.toList.drop p) ((S.map (·.1)).drop k)) ∧ Hid (k = 0 ∨ ∃ x p' n', S[k - 1]? = some x ∧ oneT (s.data.toList.drop p') = .ok x.1.2 n' ∧ p = p' + n') ∧ Hid (Below w1.heap.size w1 wr)) (fun _ i _ => S.length - (intOf i).toNat)
    case atStart => exact ⟨0, 0, Nat.zero_le _, Nat.zero_le _, rfl, rfl, hrow0, .inl rfl, Below.refl _ _⟩
    case round =>
      obtain ⟨p, k, hps, hk, rfl, rfl, hrow, hprev, hbel⟩ := hrel
      by_cases hlt : k < S.length
      · obtain ⟨ad, rfl, had, hc⟩ := HOWN.out.at (by omega)
        obtain ⟨⟨⟨q, t⟩, A1, c1⟩, hx⟩ : ∃ x, S[k]? = some x := ⟨S[k], List.getElem?_eq_getElem _⟩
        have hdr : (S.map (·.1)).drop k = (q, t) :: (S.map (·.1)).drop (k + 1) := drop_cons (by rw [List.getElem?_map, hx]; rfl)
        have hrow' := hrow.out
        rw [hdr] at hrow'
        obtain ⟨rfl, hne, n, ho, hrest⟩ := hrow'
        have htk := (hc k _ hx).below hbel.out had
        unfold TokAt at htk
        obtain ⟨h0, h1, h2, h3, h4⟩ := htk
        simp only at h0 h1 h2 h3 h4
        have hw := oneT_within _ hne
        rw [ho, List.length_drop, HL.out] at hw
        obtain ⟨hn1, hn2⟩ := hw
        have hqs : q < s.size := by omega
        obtain ⟨W1, hW1⟩ : ∃ W1, Hid (W1 = wr.alloc (.cells #[.int .i64 t.kind, .int .i64 q, .string ⟨t.name.toArray⟩, .string ⟨t.text.toArray⟩, .slice A1 t.attrs.length c1] 34)) := ⟨_, rfl⟩
        have y0 : W1.cell? ⟨wr.heap.size, 0, none⟩ = some (.int .i64 t.kind) := by rw [hW1.out, World.cell?_alloc_at _ _ _ _ (by simp)]; rfl
        have y1 : W1.cell? ⟨wr.heap.size, 1, none⟩ = some (.int .i64 q) := by rw [hW1.out, World.cell?_alloc_at _ _ _ _ (by simp)]; rfl
        have y3 : W1.cell? ⟨wr.heap.size, 3, none⟩ = some (.string ⟨t.text.toArray⟩) := by rw [hW1.out, World.cell?_alloc_at _ _ _ _ (by simp)]; rfl
        have hz1 : wr.heap.size < W1.heap.size := by rw [hW1.out]; simp
        have hbW1 : Below w1.heap.size w1 W1 := by rw [hW1.out]; exact hbel.out.alloc hbel.out.size _
        have HO := Lib.hid ho
        have HREST := Lib.hid hrest
        have HX := Lib.hid hx
        have HNE := Lib.hid hne
        have HC := Lib.hid hc
        clear ho hrest hx hne hdr hc
        go_wp2_with fail
        rw [← hW1.out]
        refine (One_any s q W1 hqs hs _ HO).mono ?_
        rintro e1 w2 ⟨hb2, hpost⟩
        obtain ⟨A2, c2, hee0, _⟩ := hpost
        have hee : e1 = .returned (.tuple #[.agg #[.int .i64 t.kind, .int .i64 q, .string ⟨t.name.toArray⟩, .string ⟨t.text.toArray⟩, .slice A2 t.attrs.length c2], .int .i64 (q + n : Nat), .int .i64 0, .int .i64 0]) := hee0
        clear hee0
        subst hee
        rw [← hb2.cell (p := ⟨wr.heap.size, 0, none⟩) hz1] at y0
        rw [← hb2.cell (p := ⟨wr.heap.size, 1, none⟩) hz1] at y1
        rw [← hb2.cell (p := ⟨wr.heap.size, 3, none⟩) hz1] at y3
        have hzz : wr.heap.size < w2.heap.size := by have := hb2.size; omega
        have hqn : (q : Int) < q + n := by omega
        have hbW2 : Below w1.heap.size w1 (w2.alloc (.cells #[.int .i64 t.kind, .int .i64 q, .string ⟨t.name.toArray⟩, .string ⟨t.text.toArray⟩, .slice A2 t.attrs.length c2] 34)) := (hbW1.trans (hb2.mono hbW1.size)).alloc (Nat.le_trans hbW1.size hb2.size) _
        clear h0 h1 h2 h3 h4 hW1
        have hnext : Hid (RowOf (q + n) (s.data.toList.drop (q + n)) ((S.map (·.1)).drop (k + 1))) := by
          have := HREST.out
          rw [List.drop_drop] at this
          exact this
        have hprev' : Hid (k + 1 = 0 ∨ ∃ x p' n', S[k + 1 - 1]? = some x ∧ oneT (s.data.toList.drop p') = .ok x.1.2 n' ∧ q + n = p' + n') := .inr ⟨_, q, n, HX.out, HO.out, rfl⟩
        by_cases hk4 : t.kind = 4
        · have k4 : (t.kind == 4) = true := by simpa using hk4
          have htx : (t.text == []) = false := by
            have := text_ne HNE.out HO.out hk4
            simpa using this
          by_cases hk0 : k = 0
          · have hk1 : decide ((0 : Int) < (k : Int)) = false := by simp; omega
            clear hk4 hk0
            go_wp2_with fail
            all_goals try (exfalso; simp at hk1; omega)
            go_roundw
            case rel => exact ⟨q + n, k + 1, by omega, by omega, by go_num, by go_num, hnext, hprev'.out, hbW2⟩
            case measure => simp [intOf]; omega
          · obtain ⟨x', p', n', hx', ho', hpn⟩ : ∃ x p' n', S[k - 1]? = some x ∧ oneT (s.data.toList.drop p') = .ok x.1.2 n' ∧ q = p' + n' := by
              rcases hprev.out with h | h
              · exact absurd h hk0
              · exact h
            have hpk : (x'.1.2.kind == 4) = false := by
              by_cases h4 : x'.1.2.kind = 4
              · exact absurd hk4 (behind_text ho' h4 (by rw [List.drop_drop, ← hpn]; exact HO.out) (by rw [List.drop_drop, ← hpn]; exact HNE.out))
              · simpa using h4
            have hk1 : decide ((0 : Int) < (k : Int)) = true := by simp; omega
            have hk2 : 0 < k := by omega
            have hkw : IntKind.i64.wrap ((k : Int) - 1) = (k : Int) - 1 := IntWalk.i64_in _ (by omega)
            have hkn : ((k : Int) - 1).toNat = k - 1 := by omega
            have hkl0 : (0 : Int) ≤ (k : Int) - 1 := by omega
            have hkl1 : (k : Int) - 1 < S.length := by omega
            have htk := (HC.out (k - 1) _ hx').below (hbW1.trans (hb2.mono hbW1.size)) had
            obtain ⟨g0, _⟩ := htk
            have hgb : (ad.add ((k - 1) * 5)).block < w2.heap.size := by rw [block_of_add]; have := hbW1.size; have := hb2.size; omega
            have g0' : (w2.alloc (.cells #[.int .i64 t.kind, .int .i64 q, .string ⟨t.name.toArray⟩, .string ⟨t.text.toArray⟩, .slice A2 t.attrs.length c2] 34)).cell? (ad.add ((k - 1) * 5)) = some (.int .i64 x'.1.2.kind) := (World.cell?_alloc_lt _ _ _ hgb).trans g0
            clear hk4 hk0 hx' ho' hpn
            go_wp2_with fail
            all_goals try (exfalso; simp at hk1; omega)
            go_roundw
            case rel => exact ⟨q + n, k + 1, by omega, by omega, by go_num, by go_num, hnext, hprev'.out, hbW2⟩
            case measure => simp [intOf]; omega
        · have k4 : (t.kind == 4) = false := by simpa using hk4
          clear hk4
          go_wp2_with fail
          all_goals try (exfalso; simp at hk1; omega)
          go_roundw
          case rel => exact ⟨q + n, k + 1, by omega, by omega, by go_num, by go_num, hnext, hprev'.out, hbW2⟩
          case measure => simp [intOf]; omega
      · have HRE : Hid (p = s.size) := by
          have h := hrow.out
          have hd : (S.map (·.1)).drop k = [] := List.drop_eq_nil_of_le (by rw [List.length_map]; omega)
          rw [hd] at h
          have h2 : s.data.toList.drop p = [] := h
          have := congrArg List.length h2
          rw [List.length_drop, HL.out] at this
          simp at this
          show p = s.size
          omega
        go_wp2_with fail
        refine (alive3_any wr).mono ?_
        rintro e w4 ⟨rfl, hb4⟩
        go_wp2_with fail
        go_ret
        rw [HRE.out]
        exact ⟨by simp, hb1.trans ((hbel.out.trans (hb4.mono hbel.out.size)).mono hb1.size)⟩
  · have he1 : (R.2.2 != 0) = true := by simpa using hR0
    clear hR0
    go_wp2_with fail
    refine (alive3_any w1).mono ?_
    rintro e w4 ⟨rfl, hb4⟩
    go_wp2_with fail
    go_ret
    exact ⟨rfl, hb1.trans (hb4.mono hb1.size)⟩
end Go.Proofs.Ythifddkmbjnncaa
