/-
  The walk of ref05.Normal.
-/
import Derived.Test.YtiopijjlkmpikaaNorm
namespace Go.Proofs.Ytiopijjlkmpikaa
open Go.RowKit

def keepB (x : ItemD) : Bool := x.kind != 2 || x.text != []
theorem keepB_false {x : ItemD} : keepB x = false ↔ x.kind = 2 ∧ x.text = [] := by unfold keepB; simp
theorem fold_filter (l : List ItemD) : ∀ out, (l.filter keepB).foldl nstep out = l.foldl nstep out := by
  induction l with
  | nil => intro out; rfl
  | cons x l ih =>
    intro out
    cases h : keepB x with
    | true => rw [List.filter_cons_of_pos h, List.foldl_cons, List.foldl_cons, ih]
    | false =>
      have := keepB_false.1 h
      rw [List.filter_cons_of_neg (by simp [h]), List.foldl_cons, nstep_void this.1 this.2, ih]

theorem textSum_filter (l : List ItemD) : textSum (l.filter keepB) ≤ textSum l := by
  induction l with
  | nil => exact Nat.le_refl _
  | cons x l ih =>
    have e1 : textSum (x :: l) = x.text.length + textSum l := by simp [textSum]
    cases h : keepB x with
    | true =>
      rw [List.filter_cons_of_pos h]
      have e2 : textSum (x :: l.filter keepB) = x.text.length + textSum (l.filter keepB) := by simp [textSum]
      omega
    | false => rw [List.filter_cons_of_neg (by simp [h])]; omega

/-- Items of the call's own; their attributes are whose they were. -/
structure RNormPost (w : World) (N : List ItemD) (e : Ending) (w' : World) : Prop where
  out : ∃ A c S, e = .returned (.slice A S.length c) ∧ ItemsOwn w' w.heap.size A c S ∧ (∀ s ∈ S, AttrsAt w w.heap.size s.2.1 s.1.attrs ∧ s.1.attrs.length ≤ s.2.2) ∧ S.map (·.1) = N
  below : Below w.heap.size w w'



set_option maxRecDepth 100000 in
set_option maxHeartbeats 4000000 in
theorem RNormal_any (l : List ItemD) (A : Option Addr) (c : Nat) (w : World) (hA : ItemsAt w w.heap.size A l) (hs : SmallDoc l) (N : List ItemD) (hN : Hid (normalL l = N)) :
    Calls Try.prog 13 #[.slice A l.length c] w (RNormPost w N) := by
  obtain ⟨⟨hs1, hs2⟩, hs3⟩ := hs
  have HT := Lib.hid hs3
  have HA := Lib.hid hA
  clear hs2 hA hs3
  go_enter Try.func13, Try.ntmps13
  go_wp2_with fail
  go_loopw [3, 4] (fun o i wr => ∃ (k : Nat) (S : List Slot) (ad : Option Addr) (cp m : Nat), k ≤ l.length ∧ i = .int .i64 k ∧ o = .slice ad m cp ∧ Hid (S.length = m) ∧ m ≤ k ∧ Hid (S.map (·.1) = (l.take k).filter keepB) ∧ Hid (ItemsOwn wr w.heap.size ad cp S) ∧ Hid (∀ s ∈ S, AttrsAt w w.heap.size s.2.1 s.1.attrs ∧ s.1.attrs.length ≤ s.2.2) ∧
      Below w.heap.size w wr) (fun _ i _ => l.length - (intOf i).toNat)
  case atStart => exact ⟨0, [], none, 0, 0, Nat.zero_le _, rfl, rfl, rfl, Nat.le_refl _, rfl, World.ownsRow_nil _ _ _ _, (fun _ h => absurd h List.not_mem_nil : ∀ s ∈ ([] : List Slot), AttrsAt w w.heap.size s.2.1 s.1.attrs ∧ s.1.attrs.length ≤ s.2.2), Below.refl _ _⟩
  case round =>
    obtain ⟨k, S, ad, cp, m, hk, rfl, rfl, hm, hmk, hmap, hown, hattr, hbel⟩ := hrel
    have hzr := hbel.size
    by_cases hlt : k < l.length
    · obtain ⟨x, hx⟩ : ∃ x, Hid (l[k]? = some x) := ⟨l[k], List.getElem?_eq_getElem _⟩
      have hAr := HA.out.below hbel
      obtain ⟨xd, hAd, _, _⟩ := hAr (by omega)
      subst hAd
      obtain ⟨hab, A', c', hat, hac, h0, h1, h2, h3, h4⟩ := hAr.item hx.out
      have HAT : Hid (AttrsAt w w.heap.size A' x.attrs) := by
        obtain ⟨_, A2, c2, hat2, _, _, _, _, _, g4⟩ := HA.out.item hx.out
        have e : some (Value.slice A' x.attrs.length c') = some (.slice A2 x.attrs.length c2) := by
          rw [← h4, ← g4]; exact hbel.cell (by show (xd.add _).block < _; rw [block_of_add]; exact hab)
        injection e with e
        injection e with e _ _
        rw [e]; exact hat2
      unfold strV at h2 h3
      have hab1 : (xd.add (k * 5)).block < wr.heap.size := by rw [block_of_add]; omega
      clear hat hAr
      have hlt' : (k : Int) < l.length := by omega
      have hk0 : (0 : Int) ≤ (k : Int) := by omega
      have htk : (l.take (k + 1)).filter keepB = (l.take k).filter keepB ++ (if keepB x then [x] else []) := by
        rw [List.take_add_one, hx.out, List.filter_append]
        cases h : keepB x <;> simp [h]
      cases hkp : keepB x with
      | false =>
        rw [hkp] at htk
        have hmap' : Hid (S.map (·.1) = (l.take (k + 1)).filter keepB) := by show _ = _; rw [htk, hmap.out]; simp
        obtain ⟨hk2, ht0⟩ := keepB_false.1 hkp
        have t1 : (x.kind != 2) = false := by simp [hk2]
        have t2 : (x.text == []) = true := by simp [ht0]
        clear htk hkp hk2 ht0
        go_wp2_with fail
        go_roundw
        case rel => exact ⟨k + 1, S, ad, cp, m, by omega, by go_num, rfl, hm, by omega, hmap', hown, hattr, hbel⟩
        case measure => simp [intOf]; omega
      | true =>
        rw [hkp] at htk
        have hmap' : Hid ((S ++ [(x, A', c')]).map (·.1) = (l.take (k + 1)).filter keepB) := by show _ = _; rw [htk, List.map_append, hmap.out]; simp
        have hown3 : wr.ownsRow w.heap.size 30 5 (.slice ad m cp) m (S.flatMap cellsI) := by rw [← hm.out]; exact hown.out
        have hkk : (x.kind != 2) = true ∨ ((x.kind != 2) = false ∧ (x.text == []) = false) := by
          unfold keepB at hkp
          cases h1 : (x.kind != 2) with
          | true => exact .inl rfl
          | false =>
            rw [h1] at hkp
            exact .inr ⟨rfl, by simpa using hkp⟩
        clear htk hkp
        have rel4 : ∀ a4 c4 w4, w4.ownsRow w.heap.size 30 5 (.slice a4 (m + 1) c4) (m + 1) (S.flatMap cellsI ++ cellsI (x, A', c')) → Below w.heap.size wr w4 →
            Hid ((S ++ [(x, A', c')]).length = m + 1) ∧ Hid (ItemsOwn w4 w.heap.size a4 c4 (S ++ [(x, A', c')])) ∧ Hid (∀ s ∈ S ++ [(x, A', c')], AttrsAt w w.heap.size s.2.1 s.1.attrs ∧ s.1.attrs.length ≤ s.2.2) ∧ Below w.heap.size w w4 := by
          intro a4 c4 w4 hown4 hb4
          refine ⟨by show _ = _; rw [List.length_append, hm.out]; rfl, ?_, ?_, hbel.trans hb4⟩
          · show World.ownsRow _ _ _ _ _ _ _
            rw [List.length_append, List.flatMap_append, hm.out]
            simpa using hown4
          · intro s hs
            rcases List.mem_append.1 hs with h | h
            · exact hattr.out s h
            · simp at h; subst h; exact ⟨HAT.out, hac⟩
        have REL4 := Lib.hid rel4
        clear rel4
        rcases hkk with t1 | ⟨t1, t2⟩
        all_goals
          go_wp2_with (at_builtin; go_loud (refine appendS rfl (.tmp 28) (.tmp 33) 22 rfl w.heap.size 30 (.agg #[.int .i64 0, .int .i64 0, .string ByteArray.empty, .string ByteArray.empty, .slice none 0 0]) 5 72 Try.underlying22 infoItem rfl (by decide) _ m _ (cellsI (x, A', c')) rfl hown3 hzr _ rfl rfl (cellsI_length _) (cellsI_one _) (by omega) (by decide) ?_))
          intro a4 c4 w4 hown4 hb4 hz4 hg4
          obtain ⟨k1, k2, k3, k4⟩ := REL4.out a4 c4 w4 hown4 hb4
          clear hown4 hg4 h0 h1 h2 h3 h4 hown3
          go_wp2_with fail
          go_roundw
          case rel => exact ⟨k + 1, S ++ [(x, A', c')], a4, c4, m + 1, by omega, by go_num, rfl, k1, by omega, hmap', k2, k3, k4⟩
          case measure => simp [intOf]; omega
    · have hk' : k = l.length := by omega
      have hF : Hid (S.map (·.1) = l.filter keepB) := by show _ = _; rw [hmap.out, hk', List.take_length]
      subst hk'
      clear hmap hlt hk
      obtain ⟨S1, rfl⟩ : ∃ S1, S1 = S := ⟨S, rfl⟩
      obtain ⟨a1, rfl⟩ : ∃ a1, a1 = ad := ⟨ad, rfl⟩
      obtain ⟨cp1, rfl⟩ : ∃ cp1, cp1 = cp := ⟨cp, rfl⟩
      obtain ⟨m1, rfl⟩ : ∃ m1, m1 = m := ⟨m, rfl⟩
      obtain ⟨w2, rfl⟩ : ∃ w2, w2 = wr := ⟨wr, rfl⟩
      have HS1 := hattr
      have hm1 := hm
      have hown1 := hown
      have hbel1 := hbel
      have hz1 := hbel1.size
      obtain ⟨B2, hB2⟩ : ∃ B2, Hid (B2 = w2.heap.size) := ⟨_, rfl⟩
      have hN2 : Hid (List.foldl nstep (([] : List Slot).map (·.1)) ((S1.map (·.1)).drop 0) = N) := by
        show _ = _
        rw [← hN.out, List.drop_zero, hF.out]
        exact fold_filter l []
      have HTS : Hid (textSum (S1.map (·.1)) ≤ 1000000000) := by
        show _ ≤ _
        rw [hF.out]
        exact Nat.le_trans (textSum_filter l) HT.out
      have hF2 := hF
      clear hattr hm hown hbel hN hF hzr
      go_wp2_with fail
      go_loopw [5, 6] (fun o i wr => ∃ (k : Nat) (S : List Slot) (ad : Option Addr) (cp m : Nat), k ≤ m1 ∧ i = .int .i64 k ∧ o = .slice ad m cp ∧ Hid (S.length = m) ∧ m ≤ k ∧ Hid (∀ s ∈ S, s.1.text.length ≤ textSum ((S1.map (·.1)).take k)) ∧ Hid (ItemsOwn wr B2 ad cp S) ∧ Hid (∀ s ∈ S, AttrsAt w w.heap.size s.2.1 s.1.attrs ∧ s.1.attrs.length ≤ s.2.2) ∧
          Hid (List.foldl nstep (S.map (·.1)) ((S1.map (·.1)).drop k) = N) ∧ Below B2 w2 wr) (fun _ i _ => m1 - (intOf i).toNat)
      case atStart => exact ⟨0, [], none, 0, 0, Nat.zero_le _, rfl, rfl, rfl, Nat.le_refl _, (fun _ h => absurd h List.not_mem_nil : ∀ s ∈ ([] : List Slot), s.1.text.length ≤ textSum ((S1.map (·.1)).take 0)), World.ownsRow_nil _ _ _ _, (fun _ h => absurd h List.not_mem_nil : ∀ s ∈ ([] : List Slot), AttrsAt w w.heap.size s.2.1 s.1.attrs ∧ s.1.attrs.length ≤ s.2.2), hN2, Below.refl _ _⟩
      case round =>
        obtain ⟨k, S, ad, cp, m, hk, rfl, rfl, hm, hmk, htx, hown, hattr, hin, hbel⟩ := hrel
        have hzr : B2 ≤ wr.heap.size := by have := hbel.size; have := hB2.out; omega
        by_cases hlt : k < m1
        · obtain ⟨xs, hxs⟩ : ∃ xs, Hid (S1[k]? = some xs) := ⟨S1[k]'(by rw [hm1.out]; exact hlt), List.getElem?_eq_getElem _⟩
          obtain ⟨x, hxx⟩ : ∃ x, Hid (xs.1 = x) := ⟨_, rfl⟩
          have hx : Hid ((S1.map (·.1))[k]? = some x) := by show _ = _; rw [List.getElem?_map, hxs.out, ← hxx.out]; rfl
          obtain ⟨g1, hg1, _, hg1z, _, hg1c⟩ := own_flat cellsI cellsI_length hown1.out (by rw [hm1.out]; omega)
          obtain ⟨xd, hxd⟩ : ∃ xd : Addr, Hid (xd = ⟨g1, 0, none⟩) := ⟨_, rfl⟩
          rw [← hxd.out] at hg1 hg1c
          subst hg1
          have hxb : xd.block < B2 := by rw [hxd.out, hB2.out]; exact hg1z
          have HX : Hid (∀ w', Below B2 w2 w' → w'.cell? (xd.add (k * 5)) = some (.int .i64 x.level) ∧ w'.cell? ⟨(xd.add (k * 5)).block, (xd.add (k * 5)).off + 1, none⟩ = some (.int .i64 x.kind) ∧ w'.cell? ⟨(xd.add (k * 5)).block, (xd.add (k * 5)).off + 2, none⟩ = some (.string ⟨x.name.toArray⟩) ∧ w'.cell? ⟨(xd.add (k * 5)).block, (xd.add (k * 5)).off + 3, none⟩ = some (.string ⟨x.text.toArray⟩) ∧ w'.cell? ⟨(xd.add (k * 5)).block, (xd.add (k * 5)).off + 4, none⟩ = some (.slice xs.2.1 x.attrs.length xs.2.2)) := fun w' hb => by
            have q0 := hg1c k xs 0 _ hxs.out rfl
            have q1 := hg1c k xs 1 _ hxs.out rfl
            have q2 := hg1c k xs 2 _ hxs.out rfl
            have q3 := hg1c k xs 3 _ hxs.out rfl
            have q4 := hg1c k xs 4 _ hxs.out rfl
            rw [add_plus _ _ _ (by decide)] at q1 q2 q3 q4
            rw [Nat.add_zero] at q0
            rw [hxx.out] at q0 q1 q2 q3 q4
            have kk : ∀ j, w'.cell? ⟨(xd.add (k * 5)).block, j, none⟩ = w2.cell? ⟨(xd.add (k * 5)).block, j, none⟩ := fun j => hb.cell (by show (xd.add _).block < _; rw [block_of_add]; exact hxb)
            exact ⟨(hb.cell (by rw [block_of_add]; exact hxb)).trans q0, (kk _).trans q1, (kk _).trans q2, (kk _).trans q3, (kk _).trans q4⟩
          have hlt' : (k : Int) < m1 := by omega
          have hk0 : (0 : Int) ≤ (k : Int) := by omega
          have hin' := hin.out
          rw [drop_cons hx.out, List.foldl_cons] at hin'
          have hkeep : ¬ (x.kind = 2 ∧ x.text = []) := fun h => by
            have hmem : x ∈ S1.map (·.1) := List.mem_of_getElem? hx.out
            rw [hF2.out] at hmem
            have := (List.mem_filter.1 hmem).2
            rw [keepB_false.2 h] at this; cases this
          clear hin hg1c
          obtain ⟨c0', c1', c2', c3', c4'⟩ := HX.out wr hbel
          clear c2' c4'
          by_cases hm0 : m = 0
          · have HIN : Hid (List.foldl nstep (S.map (·.1) ++ [x]) ((S1.map (·.1)).drop (k + 1)) = N) := by
              show _ = _
              have hSn : S = [] := List.eq_nil_of_length_eq_zero (by rw [hm.out]; exact hm0)
              rw [← hin', nstep_app hkeep (fun p hp => by rw [hSn] at hp; cases hp)]
            have d1 : decide ((0 : Int) ≤ (m : Int) - 1) = false := by simp; omega
            have d2 : decide ((1 : Int) ≤ (m : Int)) = false := by simp; omega
            have d3 : decide (1 ≤ m) = false := by simp; omega
            clear hin' hkeep hm0
            go_wp2_with fail
            refine wp_region_held_drew (S := fun _ => True) (by kernel_rfl) trivial (fun hHeld => ?_)
            refine wpAnyH_take (i := 0) (oi := ⟨_, _, _, _, _, _⟩) (v := ?_) rfl (by kernel_rfl) (by kernel_rfl) (by kernel_rfl) (fun _ _ _ h => h) (Or.inl ⟨by rfl, ?_⟩) (by assumption) ?_
            rotate_left
            · (intro wS hSw; (try dsimp only at hSw); go_simp); all_goals with_reducible rfl
            try simp only [Act.put, List.setIfInBounds_toArray, List.set_cons_zero, List.set_cons_succ]
            refine wpAnyH_take (i := 1) (oi := ⟨_, _, _, _, _, _⟩) (v := ?_) rfl (by kernel_rfl) (by kernel_rfl) (by kernel_rfl) (fun _ _ _ h => h) (Or.inl ⟨by rfl, ?_⟩) (by assumption) ?_
            rotate_left
            · (intro wS hSw; (try dsimp only at hSw); go_simp); all_goals with_reducible rfl
            try simp only [Act.put, List.setIfInBounds_toArray, List.set_cons_zero, List.set_cons_succ]
            refine wpAnyH_take (i := 2) (oi := ⟨_, _, _, _, _, _⟩) (v := ?_) rfl (by kernel_rfl) (by kernel_rfl) (by kernel_rfl) (fun _ _ _ h => h) (Or.inl ⟨by rfl, ?_⟩) (by assumption) ?_
            rotate_left
            · (intro wS hSw; (try dsimp only at hSw); go_simp); all_goals with_reducible rfl
            try simp only [Act.put, List.setIfInBounds_toArray, List.set_cons_zero, List.set_cons_succ]
            refine wpAnyH_take (i := 3) (oi := ⟨_, _, _, _, _, _⟩) (v := undef) rfl (by kernel_rfl) (by kernel_rfl) (by kernel_rfl) (fun _ _ _ h => h) (Or.inr ⟨by rfl, rfl⟩) (by assumption) ?_
            try simp only [Act.put, List.setIfInBounds_toArray, List.set_cons_zero, List.set_cons_succ]
            refine wpAnyH_take (i := 4) (oi := ⟨_, _, _, _, _, _⟩) (v := undef) rfl (by kernel_rfl) (by kernel_rfl) (by kernel_rfl) (fun _ _ _ h => h) (Or.inr ⟨by rfl, rfl⟩) (by assumption) ?_
            try simp only [Act.put, List.setIfInBounds_toArray, List.set_cons_zero, List.set_cons_succ]
            refine wpAnyH_take (i := 5) (oi := ⟨_, _, _, _, _, _⟩) (v := undef) rfl (by kernel_rfl) (by kernel_rfl) (by kernel_rfl) (fun _ _ _ h => h) (Or.inr ⟨by rfl, rfl⟩) (by assumption) ?_
            try simp only [Act.put, List.setIfInBounds_toArray, List.set_cons_zero, List.set_cons_succ]
            refine wpAnyH_take (i := 6) (oi := ⟨_, _, _, _, _, _⟩) (v := undef) rfl (by kernel_rfl) (by kernel_rfl) (by kernel_rfl) (fun _ _ _ h => h) (Or.inr ⟨by rfl, rfl⟩) (by assumption) ?_
            try simp only [Act.put, List.setIfInBounds_toArray, List.set_cons_zero, List.set_cons_succ]
            refine wpAnyH_take (i := 7) (oi := ⟨_, _, _, _, _, _⟩) (v := undef) rfl (by kernel_rfl) (by kernel_rfl) (by kernel_rfl) (fun _ _ _ h => h) (Or.inr ⟨by rfl, rfl⟩) (by assumption) ?_
            try simp only [Act.put, List.setIfInBounds_toArray, List.set_cons_zero, List.set_cons_succ]
            refine wpAnyH_take (i := 8) (oi := ⟨_, _, _, _, _, _⟩) (v := undef) rfl (by kernel_rfl) (by kernel_rfl) (by kernel_rfl) (fun _ _ _ h => h) (Or.inr ⟨by rfl, rfl⟩) (by assumption) ?_
            try simp only [Act.put, List.setIfInBounds_toArray, List.set_cons_zero, List.set_cons_succ]
            refine wpAnyH_take (i := 9) (oi := ⟨_, _, _, _, _, _⟩) (v := ?_) rfl (by kernel_rfl) (by kernel_rfl) (by kernel_rfl) (fun _ _ _ h => h) (Or.inl ⟨by rfl, ?_⟩) (by assumption) ?_
            rotate_left
            · (intro wS hSw; (try dsimp only at hSw); go_simp); all_goals with_reducible rfl
            try simp only [Act.put, List.setIfInBounds_toArray, List.set_cons_zero, List.set_cons_succ]
            refine wpAnyH_take (i := 10) (oi := ⟨_, _, _, _, _, _⟩) (v := ?_) rfl (by kernel_rfl) (by kernel_rfl) (by kernel_rfl) (fun _ _ _ h => h) (Or.inl ⟨by rfl, ?_⟩) (by assumption) ?_
            rotate_left
            · (intro wS hSw; (try dsimp only at hSw); go_simp); all_goals with_reducible rfl
            try simp only [Act.put, List.setIfInBounds_toArray, List.set_cons_zero, List.set_cons_succ]
            refine wpAnyH_take (i := 11) (oi := ⟨_, _, _, _, _, _⟩) (v := undef) rfl (by kernel_rfl) (by kernel_rfl) (by kernel_rfl) (fun _ _ _ h => h) (Or.inr ⟨by rfl, rfl⟩) (by assumption) ?_
            try simp only [Act.put, List.setIfInBounds_toArray, List.set_cons_zero, List.set_cons_succ]
            refine wpAnyH_take (i := 12) (oi := ⟨_, _, _, _, _, _⟩) (v := undef) rfl (by kernel_rfl) (by kernel_rfl) (by kernel_rfl) (fun _ _ _ h => h) (Or.inr ⟨by rfl, rfl⟩) (by assumption) ?_
            try simp only [Act.put, List.setIfInBounds_toArray, List.set_cons_zero, List.set_cons_succ]
            refine wpAnyH_take (i := 13) (oi := ⟨_, _, _, _, _, _⟩) (v := undef) rfl (by kernel_rfl) (by kernel_rfl) (by kernel_rfl) (fun _ _ _ h => h) (Or.inr ⟨by rfl, rfl⟩) (by assumption) ?_
            try simp only [Act.put, List.setIfInBounds_toArray, List.set_cons_zero, List.set_cons_succ]
            refine wpAnyH_take (i := 14) (oi := ⟨_, _, _, _, _, _⟩) (v := undef) rfl (by kernel_rfl) (by kernel_rfl) (by kernel_rfl) (fun _ _ _ h => h) (Or.inr ⟨by rfl, rfl⟩) (by assumption) ?_
            try simp only [Act.put, List.setIfInBounds_toArray, List.set_cons_zero, List.set_cons_succ]
            refine wpAnyH_take (i := 15) (oi := ⟨_, _, _, _, _, _⟩) (v := undef) rfl (by kernel_rfl) (by kernel_rfl) (by kernel_rfl) (fun _ _ _ h => h) (Or.inr ⟨by rfl, rfl⟩) (by assumption) ?_
            try simp only [Act.put, List.setIfInBounds_toArray, List.set_cons_zero, List.set_cons_succ]
            refine wpAnyH_take (i := 16) (oi := ⟨_, _, _, _, _, _⟩) (v := undef) rfl (by kernel_rfl) (by kernel_rfl) (by kernel_rfl) (fun _ _ _ h => h) (Or.inr ⟨by rfl, rfl⟩) (by assumption) ?_
            try simp only [Act.put, List.setIfInBounds_toArray, List.set_cons_zero, List.set_cons_succ]
            refine wpAnyH_take (i := 17) (oi := ⟨_, _, _, _, _, _⟩) (v := ?_) rfl (by kernel_rfl) (by kernel_rfl) (by kernel_rfl) (fun _ _ _ h => h) (Or.inl ⟨by rfl, ?_⟩) (by assumption) ?_
            rotate_left
            · (intro wS hSw; (try dsimp only at hSw); go_simp); all_goals with_reducible rfl
            try simp only [Act.put, List.setIfInBounds_toArray, List.set_cons_zero, List.set_cons_succ]
            refine wpAnyH_take (i := 18) (oi := ⟨_, _, _, _, _, _⟩) (v := ?_) rfl (by kernel_rfl) (by kernel_rfl) (by kernel_rfl) (fun _ _ _ h => h) (Or.inl ⟨by rfl, ?_⟩) (by assumption) ?_
            rotate_left
            · (intro wS hSw; (try dsimp only at hSw); go_simp); all_goals with_reducible rfl
            try simp only [Act.put, List.setIfInBounds_toArray, List.set_cons_zero, List.set_cons_succ]
            refine wpAnyH_take (i := 19) (oi := ⟨_, _, _, _, _, _⟩) (v := undef) rfl (by kernel_rfl) (by kernel_rfl) (by kernel_rfl) (fun _ _ _ h => h) (Or.inr ⟨by rfl, rfl⟩) (by assumption) ?_
            try simp only [Act.put, List.setIfInBounds_toArray, List.set_cons_zero, List.set_cons_succ]
            refine wpAnyH_take (i := 20) (oi := ⟨_, _, _, _, _, _⟩) (v := undef) rfl (by kernel_rfl) (by kernel_rfl) (by kernel_rfl) (fun _ _ _ h => h) (Or.inr ⟨by rfl, rfl⟩) (by assumption) ?_
            try simp only [Act.put, List.setIfInBounds_toArray, List.set_cons_zero, List.set_cons_succ]
            refine wpAnyH_take (i := 21) (oi := ⟨_, _, _, _, _, _⟩) (v := undef) rfl (by kernel_rfl) (by kernel_rfl) (by kernel_rfl) (fun _ _ _ h => h) (Or.inr ⟨by rfl, rfl⟩) (by assumption) ?_
            try simp only [Act.put, List.setIfInBounds_toArray, List.set_cons_zero, List.set_cons_succ]
            refine wpAnyH_take (i := 22) (oi := ⟨_, _, _, _, _, _⟩) (v := undef) rfl (by kernel_rfl) (by kernel_rfl) (by kernel_rfl) (fun _ _ _ h => h) (Or.inr ⟨by rfl, rfl⟩) (by assumption) ?_
            try simp only [Act.put, List.setIfInBounds_toArray, List.set_cons_zero, List.set_cons_succ]
            refine wpAnyH_take (i := 23) (oi := ⟨_, _, _, _, _, _⟩) (v := undef) rfl (by kernel_rfl) (by kernel_rfl) (by kernel_rfl) (fun _ _ _ h => h) (Or.inr ⟨by rfl, rfl⟩) (by assumption) ?_
            try simp only [Act.put, List.setIfInBounds_toArray, List.set_cons_zero, List.set_cons_succ]
            refine wpAnyH_take (i := 24) (oi := ⟨_, _, _, _, _, _⟩) (v := undef) rfl (by kernel_rfl) (by kernel_rfl) (by kernel_rfl) (fun _ _ _ h => h) (Or.inr ⟨by rfl, rfl⟩) (by assumption) ?_
            try simp only [Act.put, List.setIfInBounds_toArray, List.set_cons_zero, List.set_cons_succ]
            refine wpAnyH_take (i := 25) (oi := ⟨_, _, _, _, _, _⟩) (v := undef) rfl (by kernel_rfl) (by kernel_rfl) (by kernel_rfl) (fun _ _ _ h => h) (Or.inr ⟨by rfl, rfl⟩) (by assumption) ?_
            try simp only [Act.put, List.setIfInBounds_toArray, List.set_cons_zero, List.set_cons_succ]
            refine wpAnyH_take (i := 26) (oi := ⟨_, _, _, _, _, _⟩) (v := undef) rfl (by kernel_rfl) (by kernel_rfl) (by kernel_rfl) (fun _ _ _ h => h) (Or.inr ⟨by rfl, rfl⟩) (by assumption) ?_
            try simp only [Act.put, List.setIfInBounds_toArray, List.set_cons_zero, List.set_cons_succ]
            refine wpAnyH_take (i := 27) (oi := ⟨_, _, _, _, _, _⟩) (v := undef) rfl (by kernel_rfl) (by kernel_rfl) (by kernel_rfl) (fun _ _ _ h => h) (Or.inr ⟨by rfl, rfl⟩) (by assumption) ?_
            try simp only [Act.put, List.setIfInBounds_toArray, List.set_cons_zero, List.set_cons_succ]
            refine wpAnyH_take (i := 28) (oi := ⟨_, _, _, _, _, _⟩) (v := undef) rfl (by kernel_rfl) (by kernel_rfl) (by kernel_rfl) (fun _ _ _ h => h) (Or.inr ⟨by rfl, rfl⟩) (by assumption) ?_
            try simp only [Act.put, List.setIfInBounds_toArray, List.set_cons_zero, List.set_cons_succ]
            refine wpAnyH_take (i := 29) (oi := ⟨_, _, _, _, _, _⟩) (v := undef) rfl (by kernel_rfl) (by kernel_rfl) (by kernel_rfl) (fun _ _ _ h => h) (Or.inr ⟨by rfl, rfl⟩) (by assumption) ?_
            try simp only [Act.put, List.setIfInBounds_toArray, List.set_cons_zero, List.set_cons_succ]
            refine wpAnyH_take (i := 30) (oi := ⟨_, _, _, _, _, _⟩) (v := ?_) rfl (by kernel_rfl) (by kernel_rfl) (by kernel_rfl) (fun _ _ _ h => h) (Or.inl ⟨by rfl, ?_⟩) (by assumption) ?_
            rotate_left
            · (intro wS hSw; (try dsimp only at hSw); go_simp); all_goals with_reducible rfl
            try simp only [Act.put, List.setIfInBounds_toArray, List.set_cons_zero, List.set_cons_succ]
            refine wpAnyH_done (by kernel_rfl) ?_ _
            clear hHeld d1 d2 d3 c0' c1' c3'
            obtain ⟨W3, hW3⟩ : ∃ W3, Hid (W3 = wr.drew) := ⟨_, rfl⟩
            rw [← hW3.out]
            have hown3' : W3.ownsRow B2 30 5 (.slice ad m cp) m (S.flatMap cellsI) := by rw [← hm.out, hW3.out]; exact hown.out
            have hb3 : Below B2 w2 W3 := by rw [hW3.out]; exact hbel.drew
            have hz3 : B2 ≤ W3.heap.size := by rw [hW3.out]; exact hzr
            obtain ⟨c0, c1, c2, c3, c4⟩ := HX.out W3 hb3
            go_wp2_with (at_builtin; go_loud (refine appendS rfl (.tmp 90) (.tmp 95) 22 rfl B2 30 (.agg #[.int .i64 0, .int .i64 0, .string ByteArray.empty, .string ByteArray.empty, .slice none 0 0]) 5 72 Try.underlying22 infoItem rfl (by decide) _ m _ (cellsI (x, xs.2.1, xs.2.2)) rfl hown3' hz3 _ rfl rfl (cellsI_length _) (cellsI_one _) (by omega) (by decide) ?_))
            intro a4 cc4 w4 hown4 hb4 hz4 hg4
            have hown4' : ItemsOwn w4 B2 a4 cc4 (S ++ [xs]) := by
              unfold ItemsOwn
              rw [List.length_append, List.flatMap_append, hm.out]
              rw [← hxx.out] at hown4
              simpa using hown4
            have htx4 : Hid (∀ s ∈ S ++ [xs], s.1.text.length ≤ textSum ((S1.map (·.1)).take (k + 1))) := fun s hs => by
              rw [textSum_take hx.out]
              rcases List.mem_append.1 hs with h | h
              · have := htx.out s h; omega
              · simp at h; subst h; rw [hxx.out]; omega
            have hb4' : Below B2 w2 w4 := hb3.trans hb4
            have HIN4 : Hid (List.foldl nstep ((S ++ [xs]).map (·.1)) ((S1.map (·.1)).drop (k + 1)) = N) := by
              show _ = _
              rw [List.map_append, show [xs].map (·.1) = [x] from by rw [← hxx.out]; rfl]
              exact HIN.out
            have hat4 : Hid (∀ s ∈ S ++ [xs], AttrsAt w w.heap.size s.2.1 s.1.attrs ∧ s.1.attrs.length ≤ s.2.2) := fun s hs => by
              rcases List.mem_append.1 hs with h | h
              · exact hattr.out s h
              · simp at h; subst h; exact HS1.out _ (List.mem_of_getElem? hxs.out)
            clear hown4 hg4
            go_wp2_with fail
            go_roundw
            case rel => exact ⟨k + 1, S ++ [xs], a4, cc4, m + 1, by omega, by go_num, rfl, by show _ = _; rw [List.length_append, hm.out]; rfl, by omega, htx4, hown4', hat4, HIN4, hb4'⟩
            case measure => simp [intOf]; omega
          · have hm1' : 0 < m := by omega
            have hlast : S[m - 1]? = some (S[m - 1]'(by rw [hm.out]; omega)) := List.getElem?_eq_getElem _
            obtain ⟨s, hs⟩ : ∃ s, Hid (S[m - 1]? = some s) := ⟨_, hlast⟩
            obtain ⟨g, hag, hgB, hgz, _, hgc⟩ := own_flat cellsI cellsI_length hown.out (by rw [hm.out]; exact hm1')
            obtain ⟨gd, hgd⟩ : ∃ gd : Addr, Hid (gd = ⟨g, 0, none⟩) := ⟨_, rfl⟩
            rw [← hgd.out] at hag hgc
            subst hag
            have hgb : gd.block < wr.heap.size := by rw [hgd.out]; exact hgz
            have pc0 := hgc (m - 1) s 0 _ hs.out rfl
            have pc1 := hgc (m - 1) s 1 _ hs.out rfl
            have pc3 := hgc (m - 1) s 3 _ hs.out rfl
            rw [add_plus _ _ _ (by decide)] at pc1 pc3
            rw [Nat.add_zero] at pc0
            have hprev : (S.map (·.1))[(S.map (·.1)).length - 1]? = some s.1 := by rw [List.length_map, hm.out, List.getElem?_map, hs.out]; rfl
            have d1 : decide ((0 : Int) ≤ (m : Int) - 1) = true := by simp; omega
            have d2 : decide ((1 : Int) ≤ (m : Int)) = true := by simp; omega
            have d3 : decide (1 ≤ m) = true := by simp; omega
            have i1 : (1 : Int) ≤ (m : Int) := by omega
            have i0 : (0 : Int) ≤ (m : Int) - 1 := by omega
            have i2 : (m : Int) - 1 < (m : Int) := by omega
            have kn : ((m : Int) - 1).toNat = m - 1 := by omega
            have HW : Hid ((fun w' => w'.cell? (gd.add ((m - 1) * 5)) = some (.int .i64 s.1.level) ∧ w'.cell? ⟨(gd.add ((m - 1) * 5)).block, (gd.add ((m - 1) * 5)).off + 1, none⟩ = some (.int .i64 s.1.kind) ∧ w'.cell? ⟨(gd.add ((m - 1) * 5)).block, (gd.add ((m - 1) * 5)).off + 3, none⟩ = some (.string ⟨s.1.text.toArray⟩) ∧ w'.cell? (xd.add (k * 5)) = some (.int .i64 x.level) ∧ w'.cell? ⟨(xd.add (k * 5)).block, (xd.add (k * 5)).off + 1, none⟩ = some (.int .i64 x.kind) ∧ w'.cell? ⟨(xd.add (k * 5)).block, (xd.add (k * 5)).off + 3, none⟩ = some (.string ⟨x.text.toArray⟩)) wr.drew) := ⟨pc0, pc1, pc3, c0', c1', c3'⟩
            clear pc0 pc1 pc3 hgc c0' c1' c3'
            by_cases hj : x.kind = 2 ∧ s.1.kind = 2 ∧ s.1.level = x.level
            · obtain ⟨hj0, hj1, hj2⟩ := hj
              have d0 : (x.kind == 2) = true := by simp [hj0]
              have d4 : (s.1.kind == 2) = true := by simp [hj1]
              have d5 : (s.1.level == x.level) = true := by simp [hj2]
              have ht0 : x.text ≠ [] := fun h => hkeep ⟨hj0, h⟩
              rw [nstep_join hprev hj0 ht0 hj1 hj2] at hin'
              have HIN := Lib.hid hin'
              clear hin' hj0 hj1 hj2 ht0 hprev hlast hkeep
              go_wp2_with fail
              refine wp_region_held_drew (S := fun w' => w'.cell? (gd.add ((m - 1) * 5)) = some (.int .i64 s.1.level) ∧ w'.cell? ⟨(gd.add ((m - 1) * 5)).block, (gd.add ((m - 1) * 5)).off + 1, none⟩ = some (.int .i64 s.1.kind) ∧ w'.cell? ⟨(gd.add ((m - 1) * 5)).block, (gd.add ((m - 1) * 5)).off + 3, none⟩ = some (.string ⟨s.1.text.toArray⟩) ∧ w'.cell? (xd.add (k * 5)) = some (.int .i64 x.level) ∧ w'.cell? ⟨(xd.add (k * 5)).block, (xd.add (k * 5)).off + 1, none⟩ = some (.int .i64 x.kind) ∧ w'.cell? ⟨(xd.add (k * 5)).block, (xd.add (k * 5)).off + 3, none⟩ = some (.string ⟨x.text.toArray⟩)) (by kernel_rfl) HW.out (fun hHeld => ?_)
              refine wpAnyH_take (i := 0) (oi := ⟨_, _, _, _, _, _⟩) (v := ?_) rfl (by kernel_rfl) (by kernel_rfl) (by kernel_rfl) (fun _ _ _ h => h) (Or.inl ⟨by rfl, ?_⟩) (by assumption) ?_
              rotate_left
              · (intro wS hSw; (try dsimp only at hSw); go_simp); all_goals with_reducible rfl
              try simp only [Act.put, List.setIfInBounds_toArray, List.set_cons_zero, List.set_cons_succ]
              refine wpAnyH_take (i := 1) (oi := ⟨_, _, _, _, _, _⟩) (v := ?_) rfl (by kernel_rfl) (by kernel_rfl) (by kernel_rfl) (fun _ _ _ h => h) (Or.inl ⟨by rfl, ?_⟩) (by assumption) ?_
              rotate_left
              · (intro wS hSw; (try dsimp only at hSw); go_simp); all_goals with_reducible rfl
              try simp only [Act.put, List.setIfInBounds_toArray, List.set_cons_zero, List.set_cons_succ]
              refine wpAnyH_take (i := 2) (oi := ⟨_, _, _, _, _, _⟩) (v := ?_) rfl (by kernel_rfl) (by kernel_rfl) (by kernel_rfl) (fun _ _ _ h => h) (Or.inl ⟨by rfl, ?_⟩) (by assumption) ?_
              rotate_left
              · (intro wS hSw; (try dsimp only at hSw); go_simp); all_goals with_reducible rfl
              try simp only [Act.put, List.setIfInBounds_toArray, List.set_cons_zero, List.set_cons_succ]
              refine wpAnyH_take (i := 3) (oi := ⟨_, _, _, _, _, _⟩) (v := ?_) rfl (by kernel_rfl) (by kernel_rfl) (by kernel_rfl) (fun _ _ _ h => h) (Or.inl ⟨by rfl, ?_⟩) (by assumption) ?_
              rotate_left
              · (intro wS hSw; (try dsimp only at hSw); go_simp); all_goals with_reducible rfl
              try simp only [Act.put, List.setIfInBounds_toArray, List.set_cons_zero, List.set_cons_succ]
              refine wpAnyH_take (i := 4) (oi := ⟨_, _, _, _, _, _⟩) (v := ?_) rfl (by kernel_rfl) (by kernel_rfl) (by kernel_rfl) (fun _ _ _ h => h) (Or.inl ⟨by rfl, ?_⟩) (by assumption) ?_
              rotate_left
              · (intro wS hSw; (try dsimp only at hSw); go_simp); all_goals with_reducible rfl
              try simp only [Act.put, List.setIfInBounds_toArray, List.set_cons_zero, List.set_cons_succ]
              refine wpAnyH_take (i := 5) (oi := ⟨_, _, _, _, _, _⟩) (v := ?_) rfl (by kernel_rfl) (by kernel_rfl) (by kernel_rfl) (fun _ _ _ h => h) (Or.inl ⟨by rfl, ?_⟩) (by assumption) ?_
              rotate_left
              · (intro wS hSw; (try dsimp only at hSw); go_simp); all_goals with_reducible rfl
              try simp only [Act.put, List.setIfInBounds_toArray, List.set_cons_zero, List.set_cons_succ]
              refine wpAnyH_take (i := 6) (oi := ⟨_, _, _, _, _, _⟩) (v := ?_) rfl (by kernel_rfl) (by kernel_rfl) (by kernel_rfl) (fun _ _ _ h => h) (Or.inl ⟨by rfl, ?_⟩) (by assumption) ?_
              rotate_left
              · (intro wS hSw; (try dsimp only at hSw); go_simp); all_goals with_reducible rfl
              try simp only [Act.put, List.setIfInBounds_toArray, List.set_cons_zero, List.set_cons_succ]
              refine wpAnyH_take (i := 7) (oi := ⟨_, _, _, _, _, _⟩) (v := ?_) rfl (by kernel_rfl) (by kernel_rfl) (by kernel_rfl) (fun _ _ _ h => h) (Or.inl ⟨by rfl, ?_⟩) (by assumption) ?_
              rotate_left
              · (intro wS hSw; (try dsimp only at hSw); go_simp); all_goals with_reducible rfl
              try simp only [Act.put, List.setIfInBounds_toArray, List.set_cons_zero, List.set_cons_succ]
              refine wpAnyH_take (i := 8) (oi := ⟨_, _, _, _, _, _⟩) (v := ?_) rfl (by kernel_rfl) (by kernel_rfl) (by kernel_rfl) (fun _ _ _ h => h) (Or.inl ⟨by rfl, ?_⟩) (by assumption) ?_
              rotate_left
              · (intro wS hSw; (try dsimp only at hSw); go_simp); all_goals with_reducible rfl
              try simp only [Act.put, List.setIfInBounds_toArray, List.set_cons_zero, List.set_cons_succ]
              refine wpAnyH_take (i := 9) (oi := ⟨_, _, _, _, _, _⟩) (v := ?_) rfl (by kernel_rfl) (by kernel_rfl) (by kernel_rfl) (fun _ _ _ h => h) (Or.inl ⟨by rfl, ?_⟩) (by assumption) ?_
              rotate_left
              · (intro wS hSw; (try dsimp only at hSw); go_simp); all_goals with_reducible rfl
              try simp only [Act.put, List.setIfInBounds_toArray, List.set_cons_zero, List.set_cons_succ]
              refine wpAnyH_take (i := 10) (oi := ⟨_, _, _, _, _, _⟩) (v := ?_) rfl (by kernel_rfl) (by kernel_rfl) (by kernel_rfl) (fun _ _ _ h => h) (Or.inl ⟨by rfl, ?_⟩) (by assumption) ?_
              rotate_left
              · (intro wS hSw; (try dsimp only at hSw); go_simp); all_goals with_reducible rfl
              try simp only [Act.put, List.setIfInBounds_toArray, List.set_cons_zero, List.set_cons_succ]
              refine wpAnyH_take (i := 11) (oi := ⟨_, _, _, _, _, _⟩) (v := ?_) rfl (by kernel_rfl) (by kernel_rfl) (by kernel_rfl) (fun _ _ _ h => h) (Or.inl ⟨by rfl, ?_⟩) (by assumption) ?_
              rotate_left
              · (intro wS hSw; (try dsimp only at hSw); go_simp); all_goals with_reducible rfl
              try simp only [Act.put, List.setIfInBounds_toArray, List.set_cons_zero, List.set_cons_succ]
              refine wpAnyH_take (i := 12) (oi := ⟨_, _, _, _, _, _⟩) (v := ?_) rfl (by kernel_rfl) (by kernel_rfl) (by kernel_rfl) (fun _ _ _ h => h) (Or.inl ⟨by rfl, ?_⟩) (by assumption) ?_
              rotate_left
              · (intro wS hSw; (try dsimp only at hSw); go_simp); all_goals with_reducible rfl
              try simp only [Act.put, List.setIfInBounds_toArray, List.set_cons_zero, List.set_cons_succ]
              refine wpAnyH_take (i := 13) (oi := ⟨_, _, _, _, _, _⟩) (v := ?_) rfl (by kernel_rfl) (by kernel_rfl) (by kernel_rfl) (fun _ _ _ h => h) (Or.inl ⟨by rfl, ?_⟩) (by assumption) ?_
              rotate_left
              · (intro wS hSw; (try dsimp only at hSw); go_simp); all_goals with_reducible rfl
              try simp only [Act.put, List.setIfInBounds_toArray, List.set_cons_zero, List.set_cons_succ]
              refine wpAnyH_take (i := 14) (oi := ⟨_, _, _, _, _, _⟩) (v := ?_) rfl (by kernel_rfl) (by kernel_rfl) (by kernel_rfl) (fun _ _ _ h => h) (Or.inl ⟨by rfl, ?_⟩) (by assumption) ?_
              rotate_left
              · (intro wS hSw; (try dsimp only at hSw); go_simp); all_goals with_reducible rfl
              try simp only [Act.put, List.setIfInBounds_toArray, List.set_cons_zero, List.set_cons_succ]
              refine wpAnyH_take (i := 15) (oi := ⟨_, _, _, _, _, _⟩) (v := ?_) rfl (by kernel_rfl) (by kernel_rfl) (by kernel_rfl) (fun _ _ _ h => h) (Or.inl ⟨by rfl, ?_⟩) (by assumption) ?_
              rotate_left
              · (intro wS hSw; (try dsimp only at hSw); go_simp); all_goals with_reducible rfl
              try simp only [Act.put, List.setIfInBounds_toArray, List.set_cons_zero, List.set_cons_succ]
              refine wpAnyH_take (i := 16) (oi := ⟨_, _, _, _, _, _⟩) (v := ?_) rfl (by kernel_rfl) (by kernel_rfl) (by kernel_rfl) (fun _ _ _ h => h) (Or.inl ⟨by rfl, ?_⟩) (by assumption) ?_
              rotate_left
              · (intro wS hSw; (try dsimp only at hSw); go_simp); all_goals with_reducible rfl
              try simp only [Act.put, List.setIfInBounds_toArray, List.set_cons_zero, List.set_cons_succ]
              refine wpAnyH_take (i := 17) (oi := ⟨_, _, _, _, _, _⟩) (v := ?_) rfl (by kernel_rfl) (by kernel_rfl) (by kernel_rfl) (fun _ _ _ h => h) (Or.inl ⟨by rfl, ?_⟩) (by assumption) ?_
              rotate_left
              · (intro wS hSw; (try dsimp only at hSw); go_simp); all_goals with_reducible rfl
              try simp only [Act.put, List.setIfInBounds_toArray, List.set_cons_zero, List.set_cons_succ]
              refine wpAnyH_take (i := 18) (oi := ⟨_, _, _, _, _, _⟩) (v := ?_) rfl (by kernel_rfl) (by kernel_rfl) (by kernel_rfl) (fun _ _ _ h => h) (Or.inl ⟨by rfl, ?_⟩) (by assumption) ?_
              rotate_left
              · (intro wS hSw; (try dsimp only at hSw); go_simp); all_goals with_reducible rfl
              try simp only [Act.put, List.setIfInBounds_toArray, List.set_cons_zero, List.set_cons_succ]
              refine wpAnyH_take (i := 19) (oi := ⟨_, _, _, _, _, _⟩) (v := ?_) rfl (by kernel_rfl) (by kernel_rfl) (by kernel_rfl) (fun _ _ _ h => h) (Or.inl ⟨by rfl, ?_⟩) (by assumption) ?_
              rotate_left
              · (intro wS hSw; (try dsimp only at hSw); go_simp); all_goals with_reducible rfl
              try simp only [Act.put, List.setIfInBounds_toArray, List.set_cons_zero, List.set_cons_succ]
              refine wpAnyH_take (i := 20) (oi := ⟨_, _, _, _, _, _⟩) (v := ?_) rfl (by kernel_rfl) (by kernel_rfl) (by kernel_rfl) (fun _ _ _ h => h) (Or.inl ⟨by rfl, ?_⟩) (by assumption) ?_
              rotate_left
              · (intro wS hSw; (try dsimp only at hSw); go_simp); all_goals with_reducible rfl
              try simp only [Act.put, List.setIfInBounds_toArray, List.set_cons_zero, List.set_cons_succ]
              refine wpAnyH_take (i := 21) (oi := ⟨_, _, _, _, _, _⟩) (v := ?_) rfl (by kernel_rfl) (by kernel_rfl) (by kernel_rfl) (fun _ _ _ h => h) (Or.inl ⟨by rfl, ?_⟩) (by assumption) ?_
              rotate_left
              · (intro wS hSw; (try dsimp only at hSw); go_simp); all_goals with_reducible rfl
              try simp only [Act.put, List.setIfInBounds_toArray, List.set_cons_zero, List.set_cons_succ]
              refine wpAnyH_take (i := 22) (oi := ⟨_, _, _, _, _, _⟩) (v := ?_) rfl (by kernel_rfl) (by kernel_rfl) (by kernel_rfl) (fun _ _ _ h => h) (Or.inl ⟨by rfl, ?_⟩) (by assumption) ?_
              rotate_left
              · (intro wS hSw; (try dsimp only at hSw); go_simp); all_goals with_reducible rfl
              try simp only [Act.put, List.setIfInBounds_toArray, List.set_cons_zero, List.set_cons_succ]
              refine wpAnyH_take (i := 23) (oi := ⟨_, _, _, _, _, _⟩) (v := ?_) rfl (by kernel_rfl) (by kernel_rfl) (by kernel_rfl) (fun _ _ _ h => h) (Or.inl ⟨by rfl, ?_⟩) (by assumption) ?_
              rotate_left
              · (intro wS hSw; (try dsimp only at hSw); go_simp); all_goals with_reducible rfl
              try simp only [Act.put, List.setIfInBounds_toArray, List.set_cons_zero, List.set_cons_succ]
              refine wpAnyH_take (i := 24) (oi := ⟨_, _, _, _, _, _⟩) (v := ?_) rfl (by kernel_rfl) (by kernel_rfl) (by kernel_rfl) (fun _ _ _ h => h) (Or.inl ⟨by rfl, ?_⟩) (by assumption) ?_
              rotate_left
              · (intro wS hSw; (try dsimp only at hSw); go_simp); all_goals with_reducible rfl
              try simp only [Act.put, List.setIfInBounds_toArray, List.set_cons_zero, List.set_cons_succ]
              refine wpAnyH_take (i := 25) (oi := ⟨_, _, _, _, _, _⟩) (v := ?_) rfl (by kernel_rfl) (by kernel_rfl) (by kernel_rfl) (fun _ _ _ h => h) (Or.inl ⟨by rfl, ?_⟩) (by assumption) ?_
              rotate_left
              · (intro wS hSw; (try dsimp only at hSw); go_simp); all_goals with_reducible rfl
              try simp only [Act.put, List.setIfInBounds_toArray, List.set_cons_zero, List.set_cons_succ]
              refine wpAnyH_take (i := 26) (oi := ⟨_, _, _, _, _, _⟩) (v := ?_) rfl (by kernel_rfl) (by kernel_rfl) (by kernel_rfl) (fun _ _ _ h => h) (Or.inl ⟨by rfl, ?_⟩) (by assumption) ?_
              rotate_left
              · (intro wS hSw; (try dsimp only at hSw); go_simp); all_goals with_reducible rfl
              try simp only [Act.put, List.setIfInBounds_toArray, List.set_cons_zero, List.set_cons_succ]
              refine wpAnyH_take (i := 27) (oi := ⟨_, _, _, _, _, _⟩) (v := ?_) rfl (by kernel_rfl) (by kernel_rfl) (by kernel_rfl) (fun _ _ _ h => h) (Or.inl ⟨by rfl, ?_⟩) (by assumption) ?_
              rotate_left
              · (intro wS hSw; (try dsimp only at hSw); go_simp); all_goals with_reducible rfl
              try simp only [Act.put, List.setIfInBounds_toArray, List.set_cons_zero, List.set_cons_succ]
              refine wpAnyH_take (i := 28) (oi := ⟨_, _, _, _, _, _⟩) (v := ?_) rfl (by kernel_rfl) (by kernel_rfl) (by kernel_rfl) (fun _ _ _ h => h) (Or.inl ⟨by rfl, ?_⟩) (by assumption) ?_
              rotate_left
              · (intro wS hSw; (try dsimp only at hSw); go_simp); all_goals with_reducible rfl
              try simp only [Act.put, List.setIfInBounds_toArray, List.set_cons_zero, List.set_cons_succ]
              refine wpAnyH_take (i := 29) (oi := ⟨_, _, _, _, _, _⟩) (v := ?_) rfl (by kernel_rfl) (by kernel_rfl) (by kernel_rfl) (fun _ _ _ h => h) (Or.inl ⟨by rfl, ?_⟩) (by assumption) ?_
              rotate_left
              · (intro wS hSw; (try dsimp only at hSw); go_simp); all_goals with_reducible rfl
              try simp only [Act.put, List.setIfInBounds_toArray, List.set_cons_zero, List.set_cons_succ]
              refine wpAnyH_take (i := 30) (oi := ⟨_, _, _, _, _, _⟩) (v := ?_) rfl (by kernel_rfl) (by kernel_rfl) (by kernel_rfl) (fun _ _ _ h => h) (Or.inl ⟨by rfl, ?_⟩) (by assumption) ?_
              rotate_left
              · (intro wS hSw; (try dsimp only at hSw); go_simp); all_goals with_reducible rfl
              try simp only [Act.put, List.setIfInBounds_toArray, List.set_cons_zero, List.set_cons_succ]
              refine wpAnyH_done (by kernel_rfl) ?_ _
              clear hHeld
              obtain ⟨W2, hW2⟩ : ∃ W2, Hid (W2 = wr.drew) := ⟨_, rfl⟩
              have HW2 : Hid ((fun w' => w'.cell? (gd.add ((m - 1) * 5)) = some (.int .i64 s.1.level) ∧ w'.cell? ⟨(gd.add ((m - 1) * 5)).block, (gd.add ((m - 1) * 5)).off + 1, none⟩ = some (.int .i64 s.1.kind) ∧ w'.cell? ⟨(gd.add ((m - 1) * 5)).block, (gd.add ((m - 1) * 5)).off + 3, none⟩ = some (.string ⟨s.1.text.toArray⟩) ∧ w'.cell? (xd.add (k * 5)) = some (.int .i64 x.level) ∧ w'.cell? ⟨(xd.add (k * 5)).block, (xd.add (k * 5)).off + 1, none⟩ = some (.int .i64 x.kind) ∧ w'.cell? ⟨(xd.add (k * 5)).block, (xd.add (k * 5)).off + 3, none⟩ = some (.string ⟨x.text.toArray⟩)) W2.drew) := by rw [hW2.out]; exact HW.out
              have HF2 : Hid (W2.drew.frozen? ⟨(gd.add ((m - 1) * 5)).block, (gd.add ((m - 1) * 5)).off + 3, none⟩ = false) := by
                show _ = _
                rw [hW2.out]
                show wr.frozen? _ = _
                rw [hgd.out, add_zero_block]
                have ho := hown.out
                unfold ItemsOwn at ho
                rw [hgd.out] at ho
                exact ho.frozenAt _
              have h1' := htx.out s (List.mem_of_getElem? hs.out)
              have h2' := textSum_take hx.out
              have h3' := textSum_take_le (S1.map (·.1)) (k + 1)
              have h4' := HTS.out
              rw [← hW2.out]
              go_wp2_with fail
              have htl : ¬ (9223372036854775807 < s.1.text.length + x.text.length) := by omega
              obtain ⟨q0, q1, q3, r0, r1, r3⟩ := HW2.out
              have qf := HF2.out
              go_still_tail 15, (by kernel_rfl)
              change wpList _ _ _ _ _ W2.drew
              have hbW2 : Below wr.heap.size wr W2.drew := by rw [hW2.out]; exact (Below.refl _ wr).drew.drew
              have hown2 : W2.drew.ownsRow B2 30 5 (.slice (some ⟨g, 0, none⟩) m cp) m (S.flatMap cellsI) := by
                rw [← hm.out, ← hgd.out]; exact hown.out.keepB hbW2
              have hst := hown2.stored ((m - 1) * 5 + 3) (.string (⟨s.1.text.toArray⟩ ++ ⟨x.text.toArray⟩))
              rw [flat_set cellsI 5 cellsI_length S (m - 1) 3 s ({ s.1 with text := s.1.text ++ x.text }, s.2.1, s.2.2) _ hs.out (by decide) (by rw [str_app]; rfl)] at hst
              have HST := Lib.hid hst.1
              clear hst hown2
              go_wp2_with fail
              have heq : (⟨(gd.add ((m - 1) * 5)).block, (gd.add ((m - 1) * 5)).off + 3, none⟩ : Addr) = ⟨g, (m - 1) * 5 + 3, none⟩ := by rw [hgd.out, add_zero_block]
              rw [heq]
              go_roundw
              case rel =>
                refine ⟨k + 1, S.set (m - 1) ({ s.1 with text := s.1.text ++ x.text }, s.2.1, s.2.2), some gd, cp, m, by omega, by go_num, rfl, by show _ = _; rw [List.length_set]; exact hm.out, by omega, ?_, ?_, ?_, ?_, ?_⟩
                · intro s' hs'
                  rw [textSum_take hx.out]
                  rcases List.mem_or_eq_of_mem_set hs' with h | h
                  · have := htx.out s' h; omega
                  · subst h; simp only [List.length_append]; omega
                · show World.ownsRow _ _ _ _ _ _ _
                  rw [List.length_set, hm.out, hgd.out]
                  exact HST.out
                · intro s' hs'
                  rcases List.mem_or_eq_of_mem_set hs' with h | h
                  · exact hattr.out s' h
                  · subst h; exact hattr.out s (List.mem_of_getElem? hs.out)
                · show _ = _
                  rw [← HIN.out, List.map_set, List.length_map, hm.out]
                · exact (hbel.trans (hbW2.mono hzr)).setCell (by exact hgB) _
              case measure => simp [intOf]; omega
            · have HIN : Hid (List.foldl nstep (S.map (·.1) ++ [x]) ((S1.map (·.1)).drop (k + 1)) = N) := by
                show _ = _
                rw [← hin', nstep_app hkeep (fun p hp => by rw [hprev] at hp; injection hp with hp; subst hp; exact hj)]
              clear hin' hprev hlast hkeep
              by_cases hj0 : x.kind = 2
              · have d0 : (x.kind == 2) = true := by simp [hj0]
                by_cases hj1 : s.1.kind = 2
                · have d4 : (s.1.kind == 2) = true := by simp [hj1]
                  have d5 : (s.1.level == x.level) = false := by
                    have : ¬ s.1.level = x.level := fun h => hj ⟨hj0, hj1, h⟩
                    simp [this]
                  clear hj hj1 hj0
                  go_wp2_with fail
                  refine wp_region_held_drew (S := fun w' => w'.cell? (gd.add ((m - 1) * 5)) = some (.int .i64 s.1.level) ∧ w'.cell? ⟨(gd.add ((m - 1) * 5)).block, (gd.add ((m - 1) * 5)).off + 1, none⟩ = some (.int .i64 s.1.kind) ∧ w'.cell? ⟨(gd.add ((m - 1) * 5)).block, (gd.add ((m - 1) * 5)).off + 3, none⟩ = some (.string ⟨s.1.text.toArray⟩) ∧ w'.cell? (xd.add (k * 5)) = some (.int .i64 x.level) ∧ w'.cell? ⟨(xd.add (k * 5)).block, (xd.add (k * 5)).off + 1, none⟩ = some (.int .i64 x.kind) ∧ w'.cell? ⟨(xd.add (k * 5)).block, (xd.add (k * 5)).off + 3, none⟩ = some (.string ⟨x.text.toArray⟩)) (by kernel_rfl) HW.out (fun hHeld => ?_)
                  refine wpAnyH_take (i := 0) (oi := ⟨_, _, _, _, _, _⟩) (v := ?_) rfl (by kernel_rfl) (by kernel_rfl) (by kernel_rfl) (fun _ _ _ h => h) (Or.inl ⟨by rfl, ?_⟩) (by assumption) ?_
                  rotate_left
                  · (intro wS hSw; (try dsimp only at hSw); go_simp); all_goals with_reducible rfl
                  try simp only [Act.put, List.setIfInBounds_toArray, List.set_cons_zero, List.set_cons_succ]
                  refine wpAnyH_take (i := 1) (oi := ⟨_, _, _, _, _, _⟩) (v := ?_) rfl (by kernel_rfl) (by kernel_rfl) (by kernel_rfl) (fun _ _ _ h => h) (Or.inl ⟨by rfl, ?_⟩) (by assumption) ?_
                  rotate_left
                  · (intro wS hSw; (try dsimp only at hSw); go_simp); all_goals with_reducible rfl
                  try simp only [Act.put, List.setIfInBounds_toArray, List.set_cons_zero, List.set_cons_succ]
                  refine wpAnyH_take (i := 2) (oi := ⟨_, _, _, _, _, _⟩) (v := ?_) rfl (by kernel_rfl) (by kernel_rfl) (by kernel_rfl) (fun _ _ _ h => h) (Or.inl ⟨by rfl, ?_⟩) (by assumption) ?_
                  rotate_left
                  · (intro wS hSw; (try dsimp only at hSw); go_simp); all_goals with_reducible rfl
                  try simp only [Act.put, List.setIfInBounds_toArray, List.set_cons_zero, List.set_cons_succ]
                  refine wpAnyH_take (i := 3) (oi := ⟨_, _, _, _, _, _⟩) (v := ?_) rfl (by kernel_rfl) (by kernel_rfl) (by kernel_rfl) (fun _ _ _ h => h) (Or.inl ⟨by rfl, ?_⟩) (by assumption) ?_
                  rotate_left
                  · (intro wS hSw; (try dsimp only at hSw); go_simp); all_goals with_reducible rfl
                  try simp only [Act.put, List.setIfInBounds_toArray, List.set_cons_zero, List.set_cons_succ]
                  refine wpAnyH_take (i := 4) (oi := ⟨_, _, _, _, _, _⟩) (v := ?_) rfl (by kernel_rfl) (by kernel_rfl) (by kernel_rfl) (fun _ _ _ h => h) (Or.inl ⟨by rfl, ?_⟩) (by assumption) ?_
                  rotate_left
                  · (intro wS hSw; (try dsimp only at hSw); go_simp); all_goals with_reducible rfl
                  try simp only [Act.put, List.setIfInBounds_toArray, List.set_cons_zero, List.set_cons_succ]
                  refine wpAnyH_take (i := 5) (oi := ⟨_, _, _, _, _, _⟩) (v := ?_) rfl (by kernel_rfl) (by kernel_rfl) (by kernel_rfl) (fun _ _ _ h => h) (Or.inl ⟨by rfl, ?_⟩) (by assumption) ?_
                  rotate_left
                  · (intro wS hSw; (try dsimp only at hSw); go_simp); all_goals with_reducible rfl
                  try simp only [Act.put, List.setIfInBounds_toArray, List.set_cons_zero, List.set_cons_succ]
                  refine wpAnyH_take (i := 6) (oi := ⟨_, _, _, _, _, _⟩) (v := ?_) rfl (by kernel_rfl) (by kernel_rfl) (by kernel_rfl) (fun _ _ _ h => h) (Or.inl ⟨by rfl, ?_⟩) (by assumption) ?_
                  rotate_left
                  · (intro wS hSw; (try dsimp only at hSw); go_simp); all_goals with_reducible rfl
                  try simp only [Act.put, List.setIfInBounds_toArray, List.set_cons_zero, List.set_cons_succ]
                  refine wpAnyH_take (i := 7) (oi := ⟨_, _, _, _, _, _⟩) (v := ?_) rfl (by kernel_rfl) (by kernel_rfl) (by kernel_rfl) (fun _ _ _ h => h) (Or.inl ⟨by rfl, ?_⟩) (by assumption) ?_
                  rotate_left
                  · (intro wS hSw; (try dsimp only at hSw); go_simp); all_goals with_reducible rfl
                  try simp only [Act.put, List.setIfInBounds_toArray, List.set_cons_zero, List.set_cons_succ]
                  refine wpAnyH_take (i := 8) (oi := ⟨_, _, _, _, _, _⟩) (v := ?_) rfl (by kernel_rfl) (by kernel_rfl) (by kernel_rfl) (fun _ _ _ h => h) (Or.inl ⟨by rfl, ?_⟩) (by assumption) ?_
                  rotate_left
                  · (intro wS hSw; (try dsimp only at hSw); go_simp); all_goals with_reducible rfl
                  try simp only [Act.put, List.setIfInBounds_toArray, List.set_cons_zero, List.set_cons_succ]
                  refine wpAnyH_take (i := 9) (oi := ⟨_, _, _, _, _, _⟩) (v := ?_) rfl (by kernel_rfl) (by kernel_rfl) (by kernel_rfl) (fun _ _ _ h => h) (Or.inl ⟨by rfl, ?_⟩) (by assumption) ?_
                  rotate_left
                  · (intro wS hSw; (try dsimp only at hSw); go_simp); all_goals with_reducible rfl
                  try simp only [Act.put, List.setIfInBounds_toArray, List.set_cons_zero, List.set_cons_succ]
                  refine wpAnyH_take (i := 10) (oi := ⟨_, _, _, _, _, _⟩) (v := ?_) rfl (by kernel_rfl) (by kernel_rfl) (by kernel_rfl) (fun _ _ _ h => h) (Or.inl ⟨by rfl, ?_⟩) (by assumption) ?_
                  rotate_left
                  · (intro wS hSw; (try dsimp only at hSw); go_simp); all_goals with_reducible rfl
                  try simp only [Act.put, List.setIfInBounds_toArray, List.set_cons_zero, List.set_cons_succ]
                  refine wpAnyH_take (i := 11) (oi := ⟨_, _, _, _, _, _⟩) (v := ?_) rfl (by kernel_rfl) (by kernel_rfl) (by kernel_rfl) (fun _ _ _ h => h) (Or.inl ⟨by rfl, ?_⟩) (by assumption) ?_
                  rotate_left
                  · (intro wS hSw; (try dsimp only at hSw); go_simp); all_goals with_reducible rfl
                  try simp only [Act.put, List.setIfInBounds_toArray, List.set_cons_zero, List.set_cons_succ]
                  refine wpAnyH_take (i := 12) (oi := ⟨_, _, _, _, _, _⟩) (v := ?_) rfl (by kernel_rfl) (by kernel_rfl) (by kernel_rfl) (fun _ _ _ h => h) (Or.inl ⟨by rfl, ?_⟩) (by assumption) ?_
                  rotate_left
                  · (intro wS hSw; (try dsimp only at hSw); go_simp); all_goals with_reducible rfl
                  try simp only [Act.put, List.setIfInBounds_toArray, List.set_cons_zero, List.set_cons_succ]
                  refine wpAnyH_take (i := 13) (oi := ⟨_, _, _, _, _, _⟩) (v := ?_) rfl (by kernel_rfl) (by kernel_rfl) (by kernel_rfl) (fun _ _ _ h => h) (Or.inl ⟨by rfl, ?_⟩) (by assumption) ?_
                  rotate_left
                  · (intro wS hSw; (try dsimp only at hSw); go_simp); all_goals with_reducible rfl
                  try simp only [Act.put, List.setIfInBounds_toArray, List.set_cons_zero, List.set_cons_succ]
                  refine wpAnyH_take (i := 14) (oi := ⟨_, _, _, _, _, _⟩) (v := ?_) rfl (by kernel_rfl) (by kernel_rfl) (by kernel_rfl) (fun _ _ _ h => h) (Or.inl ⟨by rfl, ?_⟩) (by assumption) ?_
                  rotate_left
                  · (intro wS hSw; (try dsimp only at hSw); go_simp); all_goals with_reducible rfl
                  try simp only [Act.put, List.setIfInBounds_toArray, List.set_cons_zero, List.set_cons_succ]
                  refine wpAnyH_take (i := 15) (oi := ⟨_, _, _, _, _, _⟩) (v := ?_) rfl (by kernel_rfl) (by kernel_rfl) (by kernel_rfl) (fun _ _ _ h => h) (Or.inl ⟨by rfl, ?_⟩) (by assumption) ?_
                  rotate_left
                  · (intro wS hSw; (try dsimp only at hSw); go_simp); all_goals with_reducible rfl
                  try simp only [Act.put, List.setIfInBounds_toArray, List.set_cons_zero, List.set_cons_succ]
                  refine wpAnyH_take (i := 16) (oi := ⟨_, _, _, _, _, _⟩) (v := ?_) rfl (by kernel_rfl) (by kernel_rfl) (by kernel_rfl) (fun _ _ _ h => h) (Or.inl ⟨by rfl, ?_⟩) (by assumption) ?_
                  rotate_left
                  · (intro wS hSw; (try dsimp only at hSw); go_simp); all_goals with_reducible rfl
                  try simp only [Act.put, List.setIfInBounds_toArray, List.set_cons_zero, List.set_cons_succ]
                  refine wpAnyH_take (i := 17) (oi := ⟨_, _, _, _, _, _⟩) (v := ?_) rfl (by kernel_rfl) (by kernel_rfl) (by kernel_rfl) (fun _ _ _ h => h) (Or.inl ⟨by rfl, ?_⟩) (by assumption) ?_
                  rotate_left
                  · (intro wS hSw; (try dsimp only at hSw); go_simp); all_goals with_reducible rfl
                  try simp only [Act.put, List.setIfInBounds_toArray, List.set_cons_zero, List.set_cons_succ]
                  refine wpAnyH_take (i := 18) (oi := ⟨_, _, _, _, _, _⟩) (v := ?_) rfl (by kernel_rfl) (by kernel_rfl) (by kernel_rfl) (fun _ _ _ h => h) (Or.inl ⟨by rfl, ?_⟩) (by assumption) ?_
                  rotate_left
                  · (intro wS hSw; (try dsimp only at hSw); go_simp); all_goals with_reducible rfl
                  try simp only [Act.put, List.setIfInBounds_toArray, List.set_cons_zero, List.set_cons_succ]
                  refine wpAnyH_take (i := 19) (oi := ⟨_, _, _, _, _, _⟩) (v := ?_) rfl (by kernel_rfl) (by kernel_rfl) (by kernel_rfl) (fun _ _ _ h => h) (Or.inl ⟨by rfl, ?_⟩) (by assumption) ?_
                  rotate_left
                  · (intro wS hSw; (try dsimp only at hSw); go_simp); all_goals with_reducible rfl
                  try simp only [Act.put, List.setIfInBounds_toArray, List.set_cons_zero, List.set_cons_succ]
                  refine wpAnyH_take (i := 20) (oi := ⟨_, _, _, _, _, _⟩) (v := ?_) rfl (by kernel_rfl) (by kernel_rfl) (by kernel_rfl) (fun _ _ _ h => h) (Or.inl ⟨by rfl, ?_⟩) (by assumption) ?_
                  rotate_left
                  · (intro wS hSw; (try dsimp only at hSw); go_simp); all_goals with_reducible rfl
                  try simp only [Act.put, List.setIfInBounds_toArray, List.set_cons_zero, List.set_cons_succ]
                  refine wpAnyH_take (i := 21) (oi := ⟨_, _, _, _, _, _⟩) (v := ?_) rfl (by kernel_rfl) (by kernel_rfl) (by kernel_rfl) (fun _ _ _ h => h) (Or.inl ⟨by rfl, ?_⟩) (by assumption) ?_
                  rotate_left
                  · (intro wS hSw; (try dsimp only at hSw); go_simp); all_goals with_reducible rfl
                  try simp only [Act.put, List.setIfInBounds_toArray, List.set_cons_zero, List.set_cons_succ]
                  refine wpAnyH_take (i := 22) (oi := ⟨_, _, _, _, _, _⟩) (v := ?_) rfl (by kernel_rfl) (by kernel_rfl) (by kernel_rfl) (fun _ _ _ h => h) (Or.inl ⟨by rfl, ?_⟩) (by assumption) ?_
                  rotate_left
                  · (intro wS hSw; (try dsimp only at hSw); go_simp); all_goals with_reducible rfl
                  try simp only [Act.put, List.setIfInBounds_toArray, List.set_cons_zero, List.set_cons_succ]
                  refine wpAnyH_take (i := 23) (oi := ⟨_, _, _, _, _, _⟩) (v := ?_) rfl (by kernel_rfl) (by kernel_rfl) (by kernel_rfl) (fun _ _ _ h => h) (Or.inl ⟨by rfl, ?_⟩) (by assumption) ?_
                  rotate_left
                  · (intro wS hSw; (try dsimp only at hSw); go_simp); all_goals with_reducible rfl
                  try simp only [Act.put, List.setIfInBounds_toArray, List.set_cons_zero, List.set_cons_succ]
                  refine wpAnyH_take (i := 24) (oi := ⟨_, _, _, _, _, _⟩) (v := ?_) rfl (by kernel_rfl) (by kernel_rfl) (by kernel_rfl) (fun _ _ _ h => h) (Or.inl ⟨by rfl, ?_⟩) (by assumption) ?_
                  rotate_left
                  · (intro wS hSw; (try dsimp only at hSw); go_simp); all_goals with_reducible rfl
                  try simp only [Act.put, List.setIfInBounds_toArray, List.set_cons_zero, List.set_cons_succ]
                  refine wpAnyH_take (i := 25) (oi := ⟨_, _, _, _, _, _⟩) (v := ?_) rfl (by kernel_rfl) (by kernel_rfl) (by kernel_rfl) (fun _ _ _ h => h) (Or.inl ⟨by rfl, ?_⟩) (by assumption) ?_
                  rotate_left
                  · (intro wS hSw; (try dsimp only at hSw); go_simp); all_goals with_reducible rfl
                  try simp only [Act.put, List.setIfInBounds_toArray, List.set_cons_zero, List.set_cons_succ]
                  refine wpAnyH_take (i := 26) (oi := ⟨_, _, _, _, _, _⟩) (v := ?_) rfl (by kernel_rfl) (by kernel_rfl) (by kernel_rfl) (fun _ _ _ h => h) (Or.inl ⟨by rfl, ?_⟩) (by assumption) ?_
                  rotate_left
                  · (intro wS hSw; (try dsimp only at hSw); go_simp); all_goals with_reducible rfl
                  try simp only [Act.put, List.setIfInBounds_toArray, List.set_cons_zero, List.set_cons_succ]
                  refine wpAnyH_take (i := 27) (oi := ⟨_, _, _, _, _, _⟩) (v := ?_) rfl (by kernel_rfl) (by kernel_rfl) (by kernel_rfl) (fun _ _ _ h => h) (Or.inl ⟨by rfl, ?_⟩) (by assumption) ?_
                  rotate_left
                  · (intro wS hSw; (try dsimp only at hSw); go_simp); all_goals with_reducible rfl
                  try simp only [Act.put, List.setIfInBounds_toArray, List.set_cons_zero, List.set_cons_succ]
                  refine wpAnyH_take (i := 28) (oi := ⟨_, _, _, _, _, _⟩) (v := ?_) rfl (by kernel_rfl) (by kernel_rfl) (by kernel_rfl) (fun _ _ _ h => h) (Or.inl ⟨by rfl, ?_⟩) (by assumption) ?_
                  rotate_left
                  · (intro wS hSw; (try dsimp only at hSw); go_simp); all_goals with_reducible rfl
                  try simp only [Act.put, List.setIfInBounds_toArray, List.set_cons_zero, List.set_cons_succ]
                  refine wpAnyH_take (i := 29) (oi := ⟨_, _, _, _, _, _⟩) (v := ?_) rfl (by kernel_rfl) (by kernel_rfl) (by kernel_rfl) (fun _ _ _ h => h) (Or.inl ⟨by rfl, ?_⟩) (by assumption) ?_
                  rotate_left
                  · (intro wS hSw; (try dsimp only at hSw); go_simp); all_goals with_reducible rfl
                  try simp only [Act.put, List.setIfInBounds_toArray, List.set_cons_zero, List.set_cons_succ]
                  refine wpAnyH_take (i := 30) (oi := ⟨_, _, _, _, _, _⟩) (v := ?_) rfl (by kernel_rfl) (by kernel_rfl) (by kernel_rfl) (fun _ _ _ h => h) (Or.inl ⟨by rfl, ?_⟩) (by assumption) ?_
                  rotate_left
                  · (intro wS hSw; (try dsimp only at hSw); go_simp); all_goals with_reducible rfl
                  try simp only [Act.put, List.setIfInBounds_toArray, List.set_cons_zero, List.set_cons_succ]
                  refine wpAnyH_done (by kernel_rfl) ?_ _
                  clear hHeld d0 d1 d2 d3 d4 d5 kn
                  obtain ⟨W3, hW3⟩ : ∃ W3, Hid (W3 = wr.drew) := ⟨_, rfl⟩
                  rw [← hW3.out]
                  have hown3' : W3.ownsRow B2 30 5 (.slice (some gd) m cp) m (S.flatMap cellsI) := by rw [← hm.out, hW3.out]; exact hown.out
                  have hb3 : Below B2 w2 W3 := by rw [hW3.out]; exact hbel.drew
                  have hz3 : B2 ≤ W3.heap.size := by rw [hW3.out]; exact hzr
                  obtain ⟨c0, c1, c2, c3, c4⟩ := HX.out W3 hb3
                  go_wp2_with (at_builtin; go_loud (refine appendS rfl (.tmp 90) (.tmp 95) 22 rfl B2 30 (.agg #[.int .i64 0, .int .i64 0, .string ByteArray.empty, .string ByteArray.empty, .slice none 0 0]) 5 72 Try.underlying22 infoItem rfl (by decide) _ m _ (cellsI (x, xs.2.1, xs.2.2)) rfl hown3' hz3 _ rfl rfl (cellsI_length _) (cellsI_one _) (by omega) (by decide) ?_))
                  intro a4 cc4 w4 hown4 hb4 hz4 hg4
                  have hown4' : ItemsOwn w4 B2 a4 cc4 (S ++ [xs]) := by
                    unfold ItemsOwn
                    rw [List.length_append, List.flatMap_append, hm.out]
                    rw [← hxx.out] at hown4
                    simpa using hown4
                  have htx4 : Hid (∀ s ∈ S ++ [xs], s.1.text.length ≤ textSum ((S1.map (·.1)).take (k + 1))) := fun s hs => by
                    rw [textSum_take hx.out]
                    rcases List.mem_append.1 hs with h | h
                    · have := htx.out s h; omega
                    · simp at h; subst h; rw [hxx.out]; omega
                  have hb4' : Below B2 w2 w4 := hb3.trans hb4
                  have HIN4 : Hid (List.foldl nstep ((S ++ [xs]).map (·.1)) ((S1.map (·.1)).drop (k + 1)) = N) := by
                    show _ = _
                    rw [List.map_append, show [xs].map (·.1) = [x] from by rw [← hxx.out]; rfl]
                    exact HIN.out
                  have hat4 : Hid (∀ s ∈ S ++ [xs], AttrsAt w w.heap.size s.2.1 s.1.attrs ∧ s.1.attrs.length ≤ s.2.2) := fun s hs => by
                    rcases List.mem_append.1 hs with h | h
                    · exact hattr.out s h
                    · simp at h; subst h; exact HS1.out _ (List.mem_of_getElem? hxs.out)
                  clear hown4 hg4
                  go_wp2_with fail
                  go_roundw
                  case rel => exact ⟨k + 1, S ++ [xs], a4, cc4, m + 1, by omega, by go_num, rfl, by show _ = _; rw [List.length_append, hm.out]; rfl, by omega, htx4, hown4', hat4, HIN4, hb4'⟩
                  case measure => simp [intOf]; omega
                · have d4 : (s.1.kind == 2) = false := by simp [hj1]
                  clear hj hj1 hj0
                  go_wp2_with fail
                  refine wp_region_held_drew (S := fun w' => w'.cell? (gd.add ((m - 1) * 5)) = some (.int .i64 s.1.level) ∧ w'.cell? ⟨(gd.add ((m - 1) * 5)).block, (gd.add ((m - 1) * 5)).off + 1, none⟩ = some (.int .i64 s.1.kind) ∧ w'.cell? ⟨(gd.add ((m - 1) * 5)).block, (gd.add ((m - 1) * 5)).off + 3, none⟩ = some (.string ⟨s.1.text.toArray⟩) ∧ w'.cell? (xd.add (k * 5)) = some (.int .i64 x.level) ∧ w'.cell? ⟨(xd.add (k * 5)).block, (xd.add (k * 5)).off + 1, none⟩ = some (.int .i64 x.kind) ∧ w'.cell? ⟨(xd.add (k * 5)).block, (xd.add (k * 5)).off + 3, none⟩ = some (.string ⟨x.text.toArray⟩)) (by kernel_rfl) HW.out (fun hHeld => ?_)
                  refine wpAnyH_take (i := 0) (oi := ⟨_, _, _, _, _, _⟩) (v := ?_) rfl (by kernel_rfl) (by kernel_rfl) (by kernel_rfl) (fun _ _ _ h => h) (Or.inl ⟨by rfl, ?_⟩) (by assumption) ?_
                  rotate_left
                  · (intro wS hSw; (try dsimp only at hSw); go_simp); all_goals with_reducible rfl
                  try simp only [Act.put, List.setIfInBounds_toArray, List.set_cons_zero, List.set_cons_succ]
                  refine wpAnyH_take (i := 1) (oi := ⟨_, _, _, _, _, _⟩) (v := ?_) rfl (by kernel_rfl) (by kernel_rfl) (by kernel_rfl) (fun _ _ _ h => h) (Or.inl ⟨by rfl, ?_⟩) (by assumption) ?_
                  rotate_left
                  · (intro wS hSw; (try dsimp only at hSw); go_simp); all_goals with_reducible rfl
                  try simp only [Act.put, List.setIfInBounds_toArray, List.set_cons_zero, List.set_cons_succ]
                  refine wpAnyH_take (i := 2) (oi := ⟨_, _, _, _, _, _⟩) (v := ?_) rfl (by kernel_rfl) (by kernel_rfl) (by kernel_rfl) (fun _ _ _ h => h) (Or.inl ⟨by rfl, ?_⟩) (by assumption) ?_
                  rotate_left
                  · (intro wS hSw; (try dsimp only at hSw); go_simp); all_goals with_reducible rfl
                  try simp only [Act.put, List.setIfInBounds_toArray, List.set_cons_zero, List.set_cons_succ]
                  refine wpAnyH_take (i := 3) (oi := ⟨_, _, _, _, _, _⟩) (v := ?_) rfl (by kernel_rfl) (by kernel_rfl) (by kernel_rfl) (fun _ _ _ h => h) (Or.inl ⟨by rfl, ?_⟩) (by assumption) ?_
                  rotate_left
                  · (intro wS hSw; (try dsimp only at hSw); go_simp); all_goals with_reducible rfl
                  try simp only [Act.put, List.setIfInBounds_toArray, List.set_cons_zero, List.set_cons_succ]
                  refine wpAnyH_take (i := 4) (oi := ⟨_, _, _, _, _, _⟩) (v := ?_) rfl (by kernel_rfl) (by kernel_rfl) (by kernel_rfl) (fun _ _ _ h => h) (Or.inl ⟨by rfl, ?_⟩) (by assumption) ?_
                  rotate_left
                  · (intro wS hSw; (try dsimp only at hSw); go_simp); all_goals with_reducible rfl
                  try simp only [Act.put, List.setIfInBounds_toArray, List.set_cons_zero, List.set_cons_succ]
                  refine wpAnyH_take (i := 5) (oi := ⟨_, _, _, _, _, _⟩) (v := ?_) rfl (by kernel_rfl) (by kernel_rfl) (by kernel_rfl) (fun _ _ _ h => h) (Or.inl ⟨by rfl, ?_⟩) (by assumption) ?_
                  rotate_left
                  · (intro wS hSw; (try dsimp only at hSw); go_simp); all_goals with_reducible rfl
                  try simp only [Act.put, List.setIfInBounds_toArray, List.set_cons_zero, List.set_cons_succ]
                  refine wpAnyH_take (i := 6) (oi := ⟨_, _, _, _, _, _⟩) (v := ?_) rfl (by kernel_rfl) (by kernel_rfl) (by kernel_rfl) (fun _ _ _ h => h) (Or.inl ⟨by rfl, ?_⟩) (by assumption) ?_
                  rotate_left
                  · (intro wS hSw; (try dsimp only at hSw); go_simp); all_goals with_reducible rfl
                  try simp only [Act.put, List.setIfInBounds_toArray, List.set_cons_zero, List.set_cons_succ]
                  refine wpAnyH_take (i := 7) (oi := ⟨_, _, _, _, _, _⟩) (v := ?_) rfl (by kernel_rfl) (by kernel_rfl) (by kernel_rfl) (fun _ _ _ h => h) (Or.inl ⟨by rfl, ?_⟩) (by assumption) ?_
                  rotate_left
                  · (intro wS hSw; (try dsimp only at hSw); go_simp); all_goals with_reducible rfl
                  try simp only [Act.put, List.setIfInBounds_toArray, List.set_cons_zero, List.set_cons_succ]
                  refine wpAnyH_take (i := 8) (oi := ⟨_, _, _, _, _, _⟩) (v := ?_) rfl (by kernel_rfl) (by kernel_rfl) (by kernel_rfl) (fun _ _ _ h => h) (Or.inl ⟨by rfl, ?_⟩) (by assumption) ?_
                  rotate_left
                  · (intro wS hSw; (try dsimp only at hSw); go_simp); all_goals with_reducible rfl
                  try simp only [Act.put, List.setIfInBounds_toArray, List.set_cons_zero, List.set_cons_succ]
                  refine wpAnyH_take (i := 9) (oi := ⟨_, _, _, _, _, _⟩) (v := ?_) rfl (by kernel_rfl) (by kernel_rfl) (by kernel_rfl) (fun _ _ _ h => h) (Or.inl ⟨by rfl, ?_⟩) (by assumption) ?_
                  rotate_left
                  · (intro wS hSw; (try dsimp only at hSw); go_simp); all_goals with_reducible rfl
                  try simp only [Act.put, List.setIfInBounds_toArray, List.set_cons_zero, List.set_cons_succ]
                  refine wpAnyH_take (i := 10) (oi := ⟨_, _, _, _, _, _⟩) (v := ?_) rfl (by kernel_rfl) (by kernel_rfl) (by kernel_rfl) (fun _ _ _ h => h) (Or.inl ⟨by rfl, ?_⟩) (by assumption) ?_
                  rotate_left
                  · (intro wS hSw; (try dsimp only at hSw); go_simp); all_goals with_reducible rfl
                  try simp only [Act.put, List.setIfInBounds_toArray, List.set_cons_zero, List.set_cons_succ]
                  refine wpAnyH_take (i := 11) (oi := ⟨_, _, _, _, _, _⟩) (v := ?_) rfl (by kernel_rfl) (by kernel_rfl) (by kernel_rfl) (fun _ _ _ h => h) (Or.inl ⟨by rfl, ?_⟩) (by assumption) ?_
                  rotate_left
                  · (intro wS hSw; (try dsimp only at hSw); go_simp); all_goals with_reducible rfl
                  try simp only [Act.put, List.setIfInBounds_toArray, List.set_cons_zero, List.set_cons_succ]
                  refine wpAnyH_take (i := 12) (oi := ⟨_, _, _, _, _, _⟩) (v := ?_) rfl (by kernel_rfl) (by kernel_rfl) (by kernel_rfl) (fun _ _ _ h => h) (Or.inl ⟨by rfl, ?_⟩) (by assumption) ?_
                  rotate_left
                  · (intro wS hSw; (try dsimp only at hSw); go_simp); all_goals with_reducible rfl
                  try simp only [Act.put, List.setIfInBounds_toArray, List.set_cons_zero, List.set_cons_succ]
                  refine wpAnyH_take (i := 13) (oi := ⟨_, _, _, _, _, _⟩) (v := ?_) rfl (by kernel_rfl) (by kernel_rfl) (by kernel_rfl) (fun _ _ _ h => h) (Or.inl ⟨by rfl, ?_⟩) (by assumption) ?_
                  rotate_left
                  · (intro wS hSw; (try dsimp only at hSw); go_simp); all_goals with_reducible rfl
                  try simp only [Act.put, List.setIfInBounds_toArray, List.set_cons_zero, List.set_cons_succ]
                  refine wpAnyH_take (i := 14) (oi := ⟨_, _, _, _, _, _⟩) (v := ?_) rfl (by kernel_rfl) (by kernel_rfl) (by kernel_rfl) (fun _ _ _ h => h) (Or.inl ⟨by rfl, ?_⟩) (by assumption) ?_
                  rotate_left
                  · (intro wS hSw; (try dsimp only at hSw); go_simp); all_goals with_reducible rfl
                  try simp only [Act.put, List.setIfInBounds_toArray, List.set_cons_zero, List.set_cons_succ]
                  refine wpAnyH_take (i := 15) (oi := ⟨_, _, _, _, _, _⟩) (v := ?_) rfl (by kernel_rfl) (by kernel_rfl) (by kernel_rfl) (fun _ _ _ h => h) (Or.inl ⟨by rfl, ?_⟩) (by assumption) ?_
                  rotate_left
                  · (intro wS hSw; (try dsimp only at hSw); go_simp); all_goals with_reducible rfl
                  try simp only [Act.put, List.setIfInBounds_toArray, List.set_cons_zero, List.set_cons_succ]
                  refine wpAnyH_take (i := 16) (oi := ⟨_, _, _, _, _, _⟩) (v := ?_) rfl (by kernel_rfl) (by kernel_rfl) (by kernel_rfl) (fun _ _ _ h => h) (Or.inl ⟨by rfl, ?_⟩) (by assumption) ?_
                  rotate_left
                  · (intro wS hSw; (try dsimp only at hSw); go_simp); all_goals with_reducible rfl
                  try simp only [Act.put, List.setIfInBounds_toArray, List.set_cons_zero, List.set_cons_succ]
                  refine wpAnyH_take (i := 17) (oi := ⟨_, _, _, _, _, _⟩) (v := ?_) rfl (by kernel_rfl) (by kernel_rfl) (by kernel_rfl) (fun _ _ _ h => h) (Or.inl ⟨by rfl, ?_⟩) (by assumption) ?_
                  rotate_left
                  · (intro wS hSw; (try dsimp only at hSw); go_simp); all_goals with_reducible rfl
                  try simp only [Act.put, List.setIfInBounds_toArray, List.set_cons_zero, List.set_cons_succ]
                  refine wpAnyH_take (i := 18) (oi := ⟨_, _, _, _, _, _⟩) (v := ?_) rfl (by kernel_rfl) (by kernel_rfl) (by kernel_rfl) (fun _ _ _ h => h) (Or.inl ⟨by rfl, ?_⟩) (by assumption) ?_
                  rotate_left
                  · (intro wS hSw; (try dsimp only at hSw); go_simp); all_goals with_reducible rfl
                  try simp only [Act.put, List.setIfInBounds_toArray, List.set_cons_zero, List.set_cons_succ]
                  refine wpAnyH_take (i := 19) (oi := ⟨_, _, _, _, _, _⟩) (v := undef) rfl (by kernel_rfl) (by kernel_rfl) (by kernel_rfl) (fun _ _ _ h => h) (Or.inr ⟨by rfl, rfl⟩) (by assumption) ?_
                  try simp only [Act.put, List.setIfInBounds_toArray, List.set_cons_zero, List.set_cons_succ]
                  refine wpAnyH_take (i := 20) (oi := ⟨_, _, _, _, _, _⟩) (v := undef) rfl (by kernel_rfl) (by kernel_rfl) (by kernel_rfl) (fun _ _ _ h => h) (Or.inr ⟨by rfl, rfl⟩) (by assumption) ?_
                  try simp only [Act.put, List.setIfInBounds_toArray, List.set_cons_zero, List.set_cons_succ]
                  refine wpAnyH_take (i := 21) (oi := ⟨_, _, _, _, _, _⟩) (v := undef) rfl (by kernel_rfl) (by kernel_rfl) (by kernel_rfl) (fun _ _ _ h => h) (Or.inr ⟨by rfl, rfl⟩) (by assumption) ?_
                  try simp only [Act.put, List.setIfInBounds_toArray, List.set_cons_zero, List.set_cons_succ]
                  refine wpAnyH_take (i := 22) (oi := ⟨_, _, _, _, _, _⟩) (v := undef) rfl (by kernel_rfl) (by kernel_rfl) (by kernel_rfl) (fun _ _ _ h => h) (Or.inr ⟨by rfl, rfl⟩) (by assumption) ?_
                  try simp only [Act.put, List.setIfInBounds_toArray, List.set_cons_zero, List.set_cons_succ]
                  refine wpAnyH_take (i := 23) (oi := ⟨_, _, _, _, _, _⟩) (v := undef) rfl (by kernel_rfl) (by kernel_rfl) (by kernel_rfl) (fun _ _ _ h => h) (Or.inr ⟨by rfl, rfl⟩) (by assumption) ?_
                  try simp only [Act.put, List.setIfInBounds_toArray, List.set_cons_zero, List.set_cons_succ]
                  refine wpAnyH_take (i := 24) (oi := ⟨_, _, _, _, _, _⟩) (v := undef) rfl (by kernel_rfl) (by kernel_rfl) (by kernel_rfl) (fun _ _ _ h => h) (Or.inr ⟨by rfl, rfl⟩) (by assumption) ?_
                  try simp only [Act.put, List.setIfInBounds_toArray, List.set_cons_zero, List.set_cons_succ]
                  refine wpAnyH_take (i := 25) (oi := ⟨_, _, _, _, _, _⟩) (v := undef) rfl (by kernel_rfl) (by kernel_rfl) (by kernel_rfl) (fun _ _ _ h => h) (Or.inr ⟨by rfl, rfl⟩) (by assumption) ?_
                  try simp only [Act.put, List.setIfInBounds_toArray, List.set_cons_zero, List.set_cons_succ]
                  refine wpAnyH_take (i := 26) (oi := ⟨_, _, _, _, _, _⟩) (v := undef) rfl (by kernel_rfl) (by kernel_rfl) (by kernel_rfl) (fun _ _ _ h => h) (Or.inr ⟨by rfl, rfl⟩) (by assumption) ?_
                  try simp only [Act.put, List.setIfInBounds_toArray, List.set_cons_zero, List.set_cons_succ]
                  refine wpAnyH_take (i := 27) (oi := ⟨_, _, _, _, _, _⟩) (v := undef) rfl (by kernel_rfl) (by kernel_rfl) (by kernel_rfl) (fun _ _ _ h => h) (Or.inr ⟨by rfl, rfl⟩) (by assumption) ?_
                  try simp only [Act.put, List.setIfInBounds_toArray, List.set_cons_zero, List.set_cons_succ]
                  refine wpAnyH_take (i := 28) (oi := ⟨_, _, _, _, _, _⟩) (v := undef) rfl (by kernel_rfl) (by kernel_rfl) (by kernel_rfl) (fun _ _ _ h => h) (Or.inr ⟨by rfl, rfl⟩) (by assumption) ?_
                  try simp only [Act.put, List.setIfInBounds_toArray, List.set_cons_zero, List.set_cons_succ]
                  refine wpAnyH_take (i := 29) (oi := ⟨_, _, _, _, _, _⟩) (v := undef) rfl (by kernel_rfl) (by kernel_rfl) (by kernel_rfl) (fun _ _ _ h => h) (Or.inr ⟨by rfl, rfl⟩) (by assumption) ?_
                  try simp only [Act.put, List.setIfInBounds_toArray, List.set_cons_zero, List.set_cons_succ]
                  refine wpAnyH_take (i := 30) (oi := ⟨_, _, _, _, _, _⟩) (v := ?_) rfl (by kernel_rfl) (by kernel_rfl) (by kernel_rfl) (fun _ _ _ h => h) (Or.inl ⟨by rfl, ?_⟩) (by assumption) ?_
                  rotate_left
                  · (intro wS hSw; (try dsimp only at hSw); go_simp); all_goals with_reducible rfl
                  try simp only [Act.put, List.setIfInBounds_toArray, List.set_cons_zero, List.set_cons_succ]
                  refine wpAnyH_done (by kernel_rfl) ?_ _
                  clear hHeld d0 d1 d2 d3 d4 kn
                  obtain ⟨W3, hW3⟩ : ∃ W3, Hid (W3 = wr.drew) := ⟨_, rfl⟩
                  rw [← hW3.out]
                  have hown3' : W3.ownsRow B2 30 5 (.slice (some gd) m cp) m (S.flatMap cellsI) := by rw [← hm.out, hW3.out]; exact hown.out
                  have hb3 : Below B2 w2 W3 := by rw [hW3.out]; exact hbel.drew
                  have hz3 : B2 ≤ W3.heap.size := by rw [hW3.out]; exact hzr
                  obtain ⟨c0, c1, c2, c3, c4⟩ := HX.out W3 hb3
                  go_wp2_with (at_builtin; go_loud (refine appendS rfl (.tmp 90) (.tmp 95) 22 rfl B2 30 (.agg #[.int .i64 0, .int .i64 0, .string ByteArray.empty, .string ByteArray.empty, .slice none 0 0]) 5 72 Try.underlying22 infoItem rfl (by decide) _ m _ (cellsI (x, xs.2.1, xs.2.2)) rfl hown3' hz3 _ rfl rfl (cellsI_length _) (cellsI_one _) (by omega) (by decide) ?_))
                  intro a4 cc4 w4 hown4 hb4 hz4 hg4
                  have hown4' : ItemsOwn w4 B2 a4 cc4 (S ++ [xs]) := by
                    unfold ItemsOwn
                    rw [List.length_append, List.flatMap_append, hm.out]
                    rw [← hxx.out] at hown4
                    simpa using hown4
                  have htx4 : Hid (∀ s ∈ S ++ [xs], s.1.text.length ≤ textSum ((S1.map (·.1)).take (k + 1))) := fun s hs => by
                    rw [textSum_take hx.out]
                    rcases List.mem_append.1 hs with h | h
                    · have := htx.out s h; omega
                    · simp at h; subst h; rw [hxx.out]; omega
                  have hb4' : Below B2 w2 w4 := hb3.trans hb4
                  have HIN4 : Hid (List.foldl nstep ((S ++ [xs]).map (·.1)) ((S1.map (·.1)).drop (k + 1)) = N) := by
                    show _ = _
                    rw [List.map_append, show [xs].map (·.1) = [x] from by rw [← hxx.out]; rfl]
                    exact HIN.out
                  have hat4 : Hid (∀ s ∈ S ++ [xs], AttrsAt w w.heap.size s.2.1 s.1.attrs ∧ s.1.attrs.length ≤ s.2.2) := fun s hs => by
                    rcases List.mem_append.1 hs with h | h
                    · exact hattr.out s h
                    · simp at h; subst h; exact HS1.out _ (List.mem_of_getElem? hxs.out)
                  clear hown4 hg4
                  go_wp2_with fail
                  go_roundw
                  case rel => exact ⟨k + 1, S ++ [xs], a4, cc4, m + 1, by omega, by go_num, rfl, by show _ = _; rw [List.length_append, hm.out]; rfl, by omega, htx4, hown4', hat4, HIN4, hb4'⟩
                  case measure => simp [intOf]; omega
              · have d0 : (x.kind == 2) = false := by simp [hj0]
                clear hj hj0
                go_wp2_with fail
                refine wp_region_held_drew (S := fun w' => w'.cell? (gd.add ((m - 1) * 5)) = some (.int .i64 s.1.level) ∧ w'.cell? ⟨(gd.add ((m - 1) * 5)).block, (gd.add ((m - 1) * 5)).off + 1, none⟩ = some (.int .i64 s.1.kind) ∧ w'.cell? ⟨(gd.add ((m - 1) * 5)).block, (gd.add ((m - 1) * 5)).off + 3, none⟩ = some (.string ⟨s.1.text.toArray⟩) ∧ w'.cell? (xd.add (k * 5)) = some (.int .i64 x.level) ∧ w'.cell? ⟨(xd.add (k * 5)).block, (xd.add (k * 5)).off + 1, none⟩ = some (.int .i64 x.kind) ∧ w'.cell? ⟨(xd.add (k * 5)).block, (xd.add (k * 5)).off + 3, none⟩ = some (.string ⟨x.text.toArray⟩)) (by kernel_rfl) HW.out (fun hHeld => ?_)
                refine wpAnyH_take (i := 0) (oi := ⟨_, _, _, _, _, _⟩) (v := ?_) rfl (by kernel_rfl) (by kernel_rfl) (by kernel_rfl) (fun _ _ _ h => h) (Or.inl ⟨by rfl, ?_⟩) (by assumption) ?_
                rotate_left
                · (intro wS hSw; (try dsimp only at hSw); go_simp); all_goals with_reducible rfl
                try simp only [Act.put, List.setIfInBounds_toArray, List.set_cons_zero, List.set_cons_succ]
                refine wpAnyH_take (i := 1) (oi := ⟨_, _, _, _, _, _⟩) (v := ?_) rfl (by kernel_rfl) (by kernel_rfl) (by kernel_rfl) (fun _ _ _ h => h) (Or.inl ⟨by rfl, ?_⟩) (by assumption) ?_
                rotate_left
                · (intro wS hSw; (try dsimp only at hSw); go_simp); all_goals with_reducible rfl
                try simp only [Act.put, List.setIfInBounds_toArray, List.set_cons_zero, List.set_cons_succ]
                refine wpAnyH_take (i := 2) (oi := ⟨_, _, _, _, _, _⟩) (v := ?_) rfl (by kernel_rfl) (by kernel_rfl) (by kernel_rfl) (fun _ _ _ h => h) (Or.inl ⟨by rfl, ?_⟩) (by assumption) ?_
                rotate_left
                · (intro wS hSw; (try dsimp only at hSw); go_simp); all_goals with_reducible rfl
                try simp only [Act.put, List.setIfInBounds_toArray, List.set_cons_zero, List.set_cons_succ]
                refine wpAnyH_take (i := 3) (oi := ⟨_, _, _, _, _, _⟩) (v := ?_) rfl (by kernel_rfl) (by kernel_rfl) (by kernel_rfl) (fun _ _ _ h => h) (Or.inl ⟨by rfl, ?_⟩) (by assumption) ?_
                rotate_left
                · (intro wS hSw; (try dsimp only at hSw); go_simp); all_goals with_reducible rfl
                try simp only [Act.put, List.setIfInBounds_toArray, List.set_cons_zero, List.set_cons_succ]
                refine wpAnyH_take (i := 4) (oi := ⟨_, _, _, _, _, _⟩) (v := ?_) rfl (by kernel_rfl) (by kernel_rfl) (by kernel_rfl) (fun _ _ _ h => h) (Or.inl ⟨by rfl, ?_⟩) (by assumption) ?_
                rotate_left
                · (intro wS hSw; (try dsimp only at hSw); go_simp); all_goals with_reducible rfl
                try simp only [Act.put, List.setIfInBounds_toArray, List.set_cons_zero, List.set_cons_succ]
                refine wpAnyH_take (i := 5) (oi := ⟨_, _, _, _, _, _⟩) (v := ?_) rfl (by kernel_rfl) (by kernel_rfl) (by kernel_rfl) (fun _ _ _ h => h) (Or.inl ⟨by rfl, ?_⟩) (by assumption) ?_
                rotate_left
                · (intro wS hSw; (try dsimp only at hSw); go_simp); all_goals with_reducible rfl
                try simp only [Act.put, List.setIfInBounds_toArray, List.set_cons_zero, List.set_cons_succ]
                refine wpAnyH_take (i := 6) (oi := ⟨_, _, _, _, _, _⟩) (v := ?_) rfl (by kernel_rfl) (by kernel_rfl) (by kernel_rfl) (fun _ _ _ h => h) (Or.inl ⟨by rfl, ?_⟩) (by assumption) ?_
                rotate_left
                · (intro wS hSw; (try dsimp only at hSw); go_simp); all_goals with_reducible rfl
                try simp only [Act.put, List.setIfInBounds_toArray, List.set_cons_zero, List.set_cons_succ]
                refine wpAnyH_take (i := 7) (oi := ⟨_, _, _, _, _, _⟩) (v := ?_) rfl (by kernel_rfl) (by kernel_rfl) (by kernel_rfl) (fun _ _ _ h => h) (Or.inl ⟨by rfl, ?_⟩) (by assumption) ?_
                rotate_left
                · (intro wS hSw; (try dsimp only at hSw); go_simp); all_goals with_reducible rfl
                try simp only [Act.put, List.setIfInBounds_toArray, List.set_cons_zero, List.set_cons_succ]
                refine wpAnyH_take (i := 8) (oi := ⟨_, _, _, _, _, _⟩) (v := ?_) rfl (by kernel_rfl) (by kernel_rfl) (by kernel_rfl) (fun _ _ _ h => h) (Or.inl ⟨by rfl, ?_⟩) (by assumption) ?_
                rotate_left
                · (intro wS hSw; (try dsimp only at hSw); go_simp); all_goals with_reducible rfl
                try simp only [Act.put, List.setIfInBounds_toArray, List.set_cons_zero, List.set_cons_succ]
                refine wpAnyH_take (i := 9) (oi := ⟨_, _, _, _, _, _⟩) (v := ?_) rfl (by kernel_rfl) (by kernel_rfl) (by kernel_rfl) (fun _ _ _ h => h) (Or.inl ⟨by rfl, ?_⟩) (by assumption) ?_
                rotate_left
                · (intro wS hSw; (try dsimp only at hSw); go_simp); all_goals with_reducible rfl
                try simp only [Act.put, List.setIfInBounds_toArray, List.set_cons_zero, List.set_cons_succ]
                refine wpAnyH_take (i := 10) (oi := ⟨_, _, _, _, _, _⟩) (v := ?_) rfl (by kernel_rfl) (by kernel_rfl) (by kernel_rfl) (fun _ _ _ h => h) (Or.inl ⟨by rfl, ?_⟩) (by assumption) ?_
                rotate_left
                · (intro wS hSw; (try dsimp only at hSw); go_simp); all_goals with_reducible rfl
                try simp only [Act.put, List.setIfInBounds_toArray, List.set_cons_zero, List.set_cons_succ]
                refine wpAnyH_take (i := 11) (oi := ⟨_, _, _, _, _, _⟩) (v := undef) rfl (by kernel_rfl) (by kernel_rfl) (by kernel_rfl) (fun _ _ _ h => h) (Or.inr ⟨by rfl, rfl⟩) (by assumption) ?_
                try simp only [Act.put, List.setIfInBounds_toArray, List.set_cons_zero, List.set_cons_succ]
                refine wpAnyH_take (i := 12) (oi := ⟨_, _, _, _, _, _⟩) (v := undef) rfl (by kernel_rfl) (by kernel_rfl) (by kernel_rfl) (fun _ _ _ h => h) (Or.inr ⟨by rfl, rfl⟩) (by assumption) ?_
                try simp only [Act.put, List.setIfInBounds_toArray, List.set_cons_zero, List.set_cons_succ]
                refine wpAnyH_take (i := 13) (oi := ⟨_, _, _, _, _, _⟩) (v := undef) rfl (by kernel_rfl) (by kernel_rfl) (by kernel_rfl) (fun _ _ _ h => h) (Or.inr ⟨by rfl, rfl⟩) (by assumption) ?_
                try simp only [Act.put, List.setIfInBounds_toArray, List.set_cons_zero, List.set_cons_succ]
                refine wpAnyH_take (i := 14) (oi := ⟨_, _, _, _, _, _⟩) (v := undef) rfl (by kernel_rfl) (by kernel_rfl) (by kernel_rfl) (fun _ _ _ h => h) (Or.inr ⟨by rfl, rfl⟩) (by assumption) ?_
                try simp only [Act.put, List.setIfInBounds_toArray, List.set_cons_zero, List.set_cons_succ]
                refine wpAnyH_take (i := 15) (oi := ⟨_, _, _, _, _, _⟩) (v := undef) rfl (by kernel_rfl) (by kernel_rfl) (by kernel_rfl) (fun _ _ _ h => h) (Or.inr ⟨by rfl, rfl⟩) (by assumption) ?_
                try simp only [Act.put, List.setIfInBounds_toArray, List.set_cons_zero, List.set_cons_succ]
                refine wpAnyH_take (i := 16) (oi := ⟨_, _, _, _, _, _⟩) (v := undef) rfl (by kernel_rfl) (by kernel_rfl) (by kernel_rfl) (fun _ _ _ h => h) (Or.inr ⟨by rfl, rfl⟩) (by assumption) ?_
                try simp only [Act.put, List.setIfInBounds_toArray, List.set_cons_zero, List.set_cons_succ]
                refine wpAnyH_take (i := 17) (oi := ⟨_, _, _, _, _, _⟩) (v := ?_) rfl (by kernel_rfl) (by kernel_rfl) (by kernel_rfl) (fun _ _ _ h => h) (Or.inl ⟨by rfl, ?_⟩) (by assumption) ?_
                rotate_left
                · (intro wS hSw; (try dsimp only at hSw); go_simp); all_goals with_reducible rfl
                try simp only [Act.put, List.setIfInBounds_toArray, List.set_cons_zero, List.set_cons_succ]
                refine wpAnyH_take (i := 18) (oi := ⟨_, _, _, _, _, _⟩) (v := ?_) rfl (by kernel_rfl) (by kernel_rfl) (by kernel_rfl) (fun _ _ _ h => h) (Or.inl ⟨by rfl, ?_⟩) (by assumption) ?_
                rotate_left
                · (intro wS hSw; (try dsimp only at hSw); go_simp); all_goals with_reducible rfl
                try simp only [Act.put, List.setIfInBounds_toArray, List.set_cons_zero, List.set_cons_succ]
                refine wpAnyH_take (i := 19) (oi := ⟨_, _, _, _, _, _⟩) (v := undef) rfl (by kernel_rfl) (by kernel_rfl) (by kernel_rfl) (fun _ _ _ h => h) (Or.inr ⟨by rfl, rfl⟩) (by assumption) ?_
                try simp only [Act.put, List.setIfInBounds_toArray, List.set_cons_zero, List.set_cons_succ]
                refine wpAnyH_take (i := 20) (oi := ⟨_, _, _, _, _, _⟩) (v := undef) rfl (by kernel_rfl) (by kernel_rfl) (by kernel_rfl) (fun _ _ _ h => h) (Or.inr ⟨by rfl, rfl⟩) (by assumption) ?_
                try simp only [Act.put, List.setIfInBounds_toArray, List.set_cons_zero, List.set_cons_succ]
                refine wpAnyH_take (i := 21) (oi := ⟨_, _, _, _, _, _⟩) (v := undef) rfl (by kernel_rfl) (by kernel_rfl) (by kernel_rfl) (fun _ _ _ h => h) (Or.inr ⟨by rfl, rfl⟩) (by assumption) ?_
                try simp only [Act.put, List.setIfInBounds_toArray, List.set_cons_zero, List.set_cons_succ]
                refine wpAnyH_take (i := 22) (oi := ⟨_, _, _, _, _, _⟩) (v := undef) rfl (by kernel_rfl) (by kernel_rfl) (by kernel_rfl) (fun _ _ _ h => h) (Or.inr ⟨by rfl, rfl⟩) (by assumption) ?_
                try simp only [Act.put, List.setIfInBounds_toArray, List.set_cons_zero, List.set_cons_succ]
                refine wpAnyH_take (i := 23) (oi := ⟨_, _, _, _, _, _⟩) (v := undef) rfl (by kernel_rfl) (by kernel_rfl) (by kernel_rfl) (fun _ _ _ h => h) (Or.inr ⟨by rfl, rfl⟩) (by assumption) ?_
                try simp only [Act.put, List.setIfInBounds_toArray, List.set_cons_zero, List.set_cons_succ]
                refine wpAnyH_take (i := 24) (oi := ⟨_, _, _, _, _, _⟩) (v := undef) rfl (by kernel_rfl) (by kernel_rfl) (by kernel_rfl) (fun _ _ _ h => h) (Or.inr ⟨by rfl, rfl⟩) (by assumption) ?_
                try simp only [Act.put, List.setIfInBounds_toArray, List.set_cons_zero, List.set_cons_succ]
                refine wpAnyH_take (i := 25) (oi := ⟨_, _, _, _, _, _⟩) (v := undef) rfl (by kernel_rfl) (by kernel_rfl) (by kernel_rfl) (fun _ _ _ h => h) (Or.inr ⟨by rfl, rfl⟩) (by assumption) ?_
                try simp only [Act.put, List.setIfInBounds_toArray, List.set_cons_zero, List.set_cons_succ]
                refine wpAnyH_take (i := 26) (oi := ⟨_, _, _, _, _, _⟩) (v := undef) rfl (by kernel_rfl) (by kernel_rfl) (by kernel_rfl) (fun _ _ _ h => h) (Or.inr ⟨by rfl, rfl⟩) (by assumption) ?_
                try simp only [Act.put, List.setIfInBounds_toArray, List.set_cons_zero, List.set_cons_succ]
                refine wpAnyH_take (i := 27) (oi := ⟨_, _, _, _, _, _⟩) (v := undef) rfl (by kernel_rfl) (by kernel_rfl) (by kernel_rfl) (fun _ _ _ h => h) (Or.inr ⟨by rfl, rfl⟩) (by assumption) ?_
                try simp only [Act.put, List.setIfInBounds_toArray, List.set_cons_zero, List.set_cons_succ]
                refine wpAnyH_take (i := 28) (oi := ⟨_, _, _, _, _, _⟩) (v := undef) rfl (by kernel_rfl) (by kernel_rfl) (by kernel_rfl) (fun _ _ _ h => h) (Or.inr ⟨by rfl, rfl⟩) (by assumption) ?_
                try simp only [Act.put, List.setIfInBounds_toArray, List.set_cons_zero, List.set_cons_succ]
                refine wpAnyH_take (i := 29) (oi := ⟨_, _, _, _, _, _⟩) (v := undef) rfl (by kernel_rfl) (by kernel_rfl) (by kernel_rfl) (fun _ _ _ h => h) (Or.inr ⟨by rfl, rfl⟩) (by assumption) ?_
                try simp only [Act.put, List.setIfInBounds_toArray, List.set_cons_zero, List.set_cons_succ]
                refine wpAnyH_take (i := 30) (oi := ⟨_, _, _, _, _, _⟩) (v := ?_) rfl (by kernel_rfl) (by kernel_rfl) (by kernel_rfl) (fun _ _ _ h => h) (Or.inl ⟨by rfl, ?_⟩) (by assumption) ?_
                rotate_left
                · (intro wS hSw; (try dsimp only at hSw); go_simp); all_goals with_reducible rfl
                try simp only [Act.put, List.setIfInBounds_toArray, List.set_cons_zero, List.set_cons_succ]
                refine wpAnyH_done (by kernel_rfl) ?_ _
                clear hHeld d0 d1 d2 d3 kn
                obtain ⟨W3, hW3⟩ : ∃ W3, Hid (W3 = wr.drew) := ⟨_, rfl⟩
                rw [← hW3.out]
                have hown3' : W3.ownsRow B2 30 5 (.slice (some gd) m cp) m (S.flatMap cellsI) := by rw [← hm.out, hW3.out]; exact hown.out
                have hb3 : Below B2 w2 W3 := by rw [hW3.out]; exact hbel.drew
                have hz3 : B2 ≤ W3.heap.size := by rw [hW3.out]; exact hzr
                obtain ⟨c0, c1, c2, c3, c4⟩ := HX.out W3 hb3
                go_wp2_with (at_builtin; go_loud (refine appendS rfl (.tmp 90) (.tmp 95) 22 rfl B2 30 (.agg #[.int .i64 0, .int .i64 0, .string ByteArray.empty, .string ByteArray.empty, .slice none 0 0]) 5 72 Try.underlying22 infoItem rfl (by decide) _ m _ (cellsI (x, xs.2.1, xs.2.2)) rfl hown3' hz3 _ rfl rfl (cellsI_length _) (cellsI_one _) (by omega) (by decide) ?_))
                intro a4 cc4 w4 hown4 hb4 hz4 hg4
                have hown4' : ItemsOwn w4 B2 a4 cc4 (S ++ [xs]) := by
                  unfold ItemsOwn
                  rw [List.length_append, List.flatMap_append, hm.out]
                  rw [← hxx.out] at hown4
                  simpa using hown4
                have htx4 : Hid (∀ s ∈ S ++ [xs], s.1.text.length ≤ textSum ((S1.map (·.1)).take (k + 1))) := fun s hs => by
                  rw [textSum_take hx.out]
                  rcases List.mem_append.1 hs with h | h
                  · have := htx.out s h; omega
                  · simp at h; subst h; rw [hxx.out]; omega
                have hb4' : Below B2 w2 w4 := hb3.trans hb4
                have HIN4 : Hid (List.foldl nstep ((S ++ [xs]).map (·.1)) ((S1.map (·.1)).drop (k + 1)) = N) := by
                  show _ = _
                  rw [List.map_append, show [xs].map (·.1) = [x] from by rw [← hxx.out]; rfl]
                  exact HIN.out
                have hat4 : Hid (∀ s ∈ S ++ [xs], AttrsAt w w.heap.size s.2.1 s.1.attrs ∧ s.1.attrs.length ≤ s.2.2) := fun s hs => by
                  rcases List.mem_append.1 hs with h | h
                  · exact hattr.out s h
                  · simp at h; subst h; exact HS1.out _ (List.mem_of_getElem? hxs.out)
                clear hown4 hg4
                go_wp2_with fail
                go_roundw
                case rel => exact ⟨k + 1, S ++ [xs], a4, cc4, m + 1, by omega, by go_num, rfl, by show _ = _; rw [List.length_append, hm.out]; rfl, by omega, htx4, hown4', hat4, HIN4, hb4'⟩
                case measure => simp [intOf]; omega
        · have HIN : Hid (S.map (·.1) = N) := by
            show _ = _
            rw [← hin.out, List.drop_eq_nil_of_le (by rw [List.length_map, hm1.out]; omega)]; rfl
          have hk' : k = m1 := by omega
          subst hk'
          clear hin hlt hk
          go_wp2_with fail
          go_ret
          exact ⟨⟨ad, cp, S, by rw [hm.out]; rfl, own_base hown.out (by rw [hB2.out]; exact hz1), hattr.out, HIN.out⟩, hbel1.trans (hbel.mono (by rw [hB2.out]; exact hz1))⟩
end Go.Proofs.Ytiopijjlkmpikaa
