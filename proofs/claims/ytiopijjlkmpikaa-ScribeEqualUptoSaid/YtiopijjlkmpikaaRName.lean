/-
  The walk of ref01.Name.
-/
import Derived.Test.YtiopijjlkmpikaaRPart
import Derived.Test.YtiopijjlkmpikaaREsc
namespace Go.Proofs.Ytiopijjlkmpikaa
open Go.RowKit

set_option maxRecDepth 100000 in
set_option maxHeartbeats 1000000 in
theorem RName_any (s : ByteArray) (w : World) (hs : s.size ≤ 1000000000) (r : Bool) (hr : Hid (nameL s.data.toList = r)) :
    Calls Try.prog 52 #[.string s] w (Ret w (.bool r)) := by
  obtain ⟨q, hq⟩ : ∃ q, Hid (charsL s.data.toList = q) := ⟨_, rfl⟩
  have hr' := hr.out
  unfold nameL at hr'
  rw [hq.out, size_toList] at hr'
  cases q with
  | none =>
    have hv : Hid (r = false) := hr'.symm
    clear hr'
    go_enter Try.func52, Try.ntmps52
    go_wp2_with fail
    refine (RAll_any s w hs).mono ?_
    rw [hq.out]
    rintro e w2 ⟨ad, cp, rfl, hown, hb2⟩
    clear hown
    go_wp2_with fail
    go_ret
    exact ⟨by rw [hv.out]; rfl, hb2⟩
  | some cs =>
    cases cs with
    | nil =>
      have hv : Hid (r = false) := hr'.symm
      clear hr'
      have hnil : s.data.toList = [] := by
        by_cases hl : s.data.toList = []
        · exact hl
        · exfalso
          have hc := hq.out
          by_cases hn : (nextL s.data.toList).2 = 0
          · rw [charsL_bad _ hl hn] at hc; cases hc
          · rw [charsL_step _ hl hn] at hc
            cases hd : charsL (s.data.toList.drop (nextL s.data.toList).2) <;> rw [hd] at hc <;> simp at hc
      have hsz : (s.size : Int) < 1 := by rw [← size_toList, hnil]; decide
      clear hnil
      go_enter Try.func52, Try.ntmps52
      go_wp2_with fail
      refine (RAll_any s w hs).mono ?_
      rw [hq.out]
      rintro e w2 ⟨ad, cp, rfl, hown, hb2⟩
      clear hown
      go_wp2_with fail
      go_ret
      exact ⟨by rw [hv.out]; rfl, hb2⟩
    | cons c cs =>
      have hne : s.data.toList ≠ [] := by intro h; have := hq.out; rw [h, charsL_nil] at this; cases this
      have hpos : s.size ≠ 0 := by intro h; apply hne; exact List.eq_nil_of_length_eq_zero (by rw [size_toList]; exact h)
      have hcl : cs.length + 1 ≤ s.size := by have := charsL_len _ _ hq.out; rw [size_toList] at this; exact this
      have h1 : decide ((s.size : Int) < 1) = false := by simp; omega
      clear hne
      by_cases h60 : s.size ≤ 60
      · have h2 : decide ((60 : Int) < s.size) = false := by simp; omega
        simp only [h60, decide_true, Bool.true_and] at hr'
        clear h60 hpos
        cases hst : startB c with
        | false =>
          have HST : Hid (startB c = false) := hst
          have hv : Hid (r = false) := by show _ = _; rw [← hr', hst]; rfl
          clear hr' hst
          go_enter Try.func52, Try.ntmps52
          go_wp2_with fail
          refine (RAll_any s w hs).mono ?_
          rw [hq.out]
          rintro e w2 ⟨ad, cp, rfl, hown, hb2⟩
          have hz2 := hb2.size
          rcases own_shape hown with ⟨rfl, hn0, rfl⟩ | ⟨g, rfl, hg1, hg2⟩
          · cases hn0
          · have hcell : w2.cell? ⟨g, 0, none⟩ = some (.int .i32 c) := own_cell hown 0 _ rfl
            have hlen : ((Option.getD (some (c :: cs)) []).length) = cs.length + 1 := rfl
            clear hown
            rw [hlen]
            go_wp2_with fail
            refine (RStart_as c _ _ HST).mono ?_; rintro e w3 ⟨rfl, hb3⟩
            go_wp2_with fail
            go_ret
            exact ⟨by rw [hv.out]; rfl, hb2.trans (hb3.mono hz2)⟩
        | true =>
          have HST : Hid (startB c = true) := hst
          have hv : Hid ((c :: cs).all partB = r) := by show _ = _; rw [← hr', hst]; rfl
          clear hr' hst
          go_enter Try.func52, Try.ntmps52
          go_wp2_with fail
          refine (RAll_any s w hs).mono ?_
          rw [hq.out]
          rintro e w2 ⟨ad, cp, rfl, hown, hb2⟩
          have hz2 := hb2.size
          rcases own_shape hown with ⟨rfl, hn0, rfl⟩ | ⟨g, rfl, hg1, hg2⟩
          · cases hn0
          · have hcell : w2.cell? ⟨g, 0, none⟩ = some (.int .i32 c) := own_cell hown 0 _ rfl
            have hlen : ((Option.getD (some (c :: cs)) []).length) = cs.length + 1 := rfl
            have HOWN := Lib.hid hown
            clear hown
            rw [hlen]
            go_wp2_with fail
            refine (RStart_as c _ _ HST).mono ?_; rintro e w3 ⟨rfl, hb3⟩
            have hz3 := hb3.size
            go_wp2_with fail
            obtain ⟨L, hL⟩ : ∃ L, Hid (L = c :: cs) := ⟨_, rfl⟩
            have hLl : L.length = cs.length + 1 := by rw [hL.out]; rfl
            go_loopw [5] (fun i wr => ∃ (k : Nat), k ≤ cs.length + 1 ∧ i = .int .i64 k ∧ Hid ((L.drop k).all partB = r) ∧ Below w2.heap.size w2 wr) (fun i _ => cs.length + 1 - (intOf i).toNat)
            case atStart => exact ⟨0, Nat.zero_le _, rfl, by show _ = _; rw [hL.out]; exact hv.out, hb3⟩
            case round =>
              obtain ⟨k, hk, rfl, hall, hbel⟩ := hrel
              have hzr := hbel.size
              by_cases hlt : k < cs.length + 1
              · obtain ⟨d, hd⟩ : ∃ d, Hid (L[k]? = some d) := ⟨L[k], List.getElem?_eq_getElem _⟩
                have hcell : wr.cell? ⟨g, k, none⟩ = some (.int .i32 d) := by
                  rw [hbel.cell (p := ⟨g, k, none⟩) hg2]
                  refine own_cell HOWN.out k _ ?_
                  show ((c :: cs).map (Value.int .i32))[k]? = _
                  rw [List.getElem?_map, ← hL.out, hd.out]; rfl
                have hdrop : L.drop k = d :: L.drop (k + 1) := by
                  have h := hd.out
                  have hl : k < L.length := by omega
                  rw [List.drop_eq_getElem_cons hl]
                  rw [List.getElem?_eq_getElem hl] at h
                  injection h with h; rw [h]
                have hall' : (partB d && (L.drop (k + 1)).all partB) = r := by rw [← hall.out, hdrop]; rfl
                clear hdrop
                cases hp : partB d with
                | false =>
                  have HP : Hid (partB d = false) := hp
                  have hv : Hid (r = false) := by show _ = _; rw [← hall', hp]; rfl
                  clear hall' hp
                  go_wp2_with fail
                  refine (RPart_as d _ _ HP).mono ?_; rintro e w4 ⟨rfl, hb4⟩
                  go_wp2_with fail
                  go_ret
                  exact ⟨by rw [hv.out]; rfl, (hb2.trans (hbel.mono (by omega))).trans (hb4.mono (by omega))⟩
                | true =>
                  have HP : Hid (partB d = true) := hp
                  have hv : Hid ((L.drop (k + 1)).all partB = r) := by show _ = _; rw [← hall', hp]; rfl
                  clear hall' hp
                  go_wp2_with fail
                  refine (RPart_as d _ _ HP).mono ?_; rintro e w4 ⟨rfl, hb4⟩
                  go_wp2_with fail
                  go_roundw
                  case rel => exact ⟨k + 1, by omega, by go_num, hv, hbel.trans (hb4.mono (by omega))⟩
                  case measure => simp [intOf]; omega
              · have hk' : k = cs.length + 1 := by omega
                have hv : Hid (r = true) := by
                  show _ = _
                  rw [← hall.out, List.drop_eq_nil_of_le (by omega)]; rfl
                subst hk'
                go_wp2_with fail
                go_ret
                exact ⟨by rw [hv.out]; rfl, hb2.trans (hbel.mono (by omega))⟩
      · have h2 : decide ((60 : Int) < s.size) = true := by simp; omega
        have hv : Hid (r = false) := by show _ = _; rw [← hr']; simp [h60]
        clear hr' h60 hpos
        go_enter Try.func52, Try.ntmps52
        go_wp2_with fail
        refine (RAll_any s w hs).mono ?_
        rw [hq.out]
        rintro e w2 ⟨ad, cp, rfl, hown, hb2⟩
        clear hown
        go_wp2_with fail
        go_ret
        exact ⟨by rw [hv.out]; rfl, hb2⟩
end Go.Proofs.Ytiopijjlkmpikaa
