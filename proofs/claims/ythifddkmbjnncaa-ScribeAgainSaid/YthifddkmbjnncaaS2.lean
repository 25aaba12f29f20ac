/-
  Texts of this claim, joined (by a program of the claim's author): Name, RPut, RNext, UndoPlain, REsc, Count, Names, Tag, Parts.
-/
import Derived.Test.YthifddkmbjnncaaS1
/-
  The walks of glyph.Name$1, glyph.each with it, glyph.Name.
-/
namespace Go.Proofs.Ythifddkmbjnncaa
open Go.RowKit

theorem Part_as (c : Int) (w : World) (r : Bool) (h : Hid (partB c = r)) : Calls Try.prog 46 #[.int .i32 c] w (Ret w (.bool r)) := by
  rw [← h.out]; exact Part_any c w
theorem Start_as (c : Int) (w : World) (r : Bool) (h : Hid (startB c = r)) : Calls Try.prog 47 #[.int .i32 c] w (Ret w (.bool r)) := by
  rw [← h.out]; exact Start_any c w

set_option maxRecDepth 100000 in
set_option maxHeartbeats 1000000 in
theorem name1_any (c : Int) (first : Bool) (w : World) (r : Bool) (h : Hid ((partB c && (!first || startB c)) = r)) :
    Calls Try.prog 45 #[.int .i32 c, .bool first] w (Ret w (.bool r)) := by
  rw [← h.out]
  clear h
  obtain ⟨p, hp⟩ : ∃ p, Hid (partB c = p) := ⟨_, rfl⟩
  obtain ⟨q, hq⟩ : ∃ q, Hid (startB c = q) := ⟨_, rfl⟩
  rw [hp.out, hq.out]
  cases p <;> cases first <;> cases q
  all_goals
    go_enter Try.func45, Try.ntmps45
    go_wp2_with (first
      | (go_at_call 46; refine (Part_as c _ _ hp).mono ?_; rintro e w2 ⟨rfl, hb2⟩)
      | (go_at_call 47; refine (Start_as c _ _ hq).mono ?_; rintro e w3 ⟨rfl, hb3⟩))
    go_ret
    first
      | exact ⟨rfl, hb2⟩
      | exact ⟨rfl, hb2.trans (hb3.mono (by have := hb2.size; omega))⟩

set_option maxRecDepth 100000 in
set_option maxHeartbeats 1000000 in
theorem each_name (s : ByteArray) (b : Nat) (w : World) (hs : s.size ≤ maxLen) (hb : b < w.heap.size)
    (hc : w.cell? ⟨b, 0, none⟩ = some (.func (.func 45) #[] #[])) (V : Int) (hV : Hid (eachI 0 s.data.toList = V)) :
    Calls Try.prog 44 #[.string s, .slice (some ⟨b, 0, none⟩) 1 1] w (Ret w (.int .i64 V)) := by
  unfold maxLen at hs
  have HC := Lib.hid hc
  clear hc
  go_enter Try.func44, Try.ntmps44
  go_wp2_with fail
  go_loopw [0, 5] (fun sv mv wr => ∃ (t : ByteArray) (k : Nat), sv = .string t ∧ mv = .int .i64 k ∧ k + t.size ≤ s.size ∧ Hid (eachI k t.data.toList = V) ∧ Below w.heap.size w wr) (fun sv _ _ => (strOf sv).size)
  case atStart => exact ⟨s, 0, rfl, rfl, by omega, hV, Below.refl _ _⟩
  case round =>
    obtain ⟨t, k, rfl, rfl, hkt, hyes, hbel⟩ := hrel
    have hwr := hbel.size
    have HL := Lib.hid (size_toList t)
    by_cases he : t.toList.isEmpty = true
    · have hnil : t.data.toList = [] := by rw [ByteArray.toList_eq] at he; simpa using he
      have hv : Hid (V = k) := by
        have := hyes.out
        rw [hnil, eachI_nil] at this
        exact this.symm
      clear hnil
      go_wp2_with fail
      go_ret
      exact ⟨by rw [hv.out]; rfl, hbel⟩
    · have hne : t.toList.isEmpty = false := by simpa using he
      clear he
      have hnn : Hid (t.data.toList ≠ []) := by
        intro h
        rw [ByteArray.toList_eq, h] at hne
        cases hne
      obtain ⟨c, n, hq⟩ : ∃ c n, Hid (nextL t.data.toList = (c, n)) := ⟨_, _, rfl⟩
      have hle := nextL_le t.data.toList
      rw [hq.out, HL.out] at hle
      obtain ⟨hn1, hn4⟩ := hle
      simp only at hn1 hn4
      by_cases hn : n = 0
      · have hv : Hid (V = -1) := by
          have := eachI_bad k t.data.toList hnn.out (by rw [hq.out]; exact hn)
          exact hyes.out.symm.trans this
        have hn0 : ((n : Int) == 0) = true := by simp [hn]
        clear hn
        go_wp2_with (go_at_call 77; refine (Next_as t wr (by unfold maxLen; omega) c n hq).mono ?_; rintro e w2 ⟨rfl, hb2⟩)
        go_ret
        exact ⟨by rw [hv.out]; rfl, hbel.trans (hb2.mono (by omega))⟩
      · have hn0 : ((n : Int) == 0) = false := by simp [hn]
        have hnp : 1 ≤ n := by omega
        have HN : Hid ((nextL t.data.toList).2 ≠ 0) := by show _; rw [hq.out]; exact hn
        clear hn
        obtain ⟨f, hf⟩ : ∃ f, Hid (((k : Int) == 0) = f) := ⟨_, rfl⟩
        have hf' : Hid ((k == 0) = f) := by
          show _ = _
          rw [← hf.out, Bool.eq_iff_iff]; simp
        obtain ⟨r, hr⟩ : ∃ r, Hid ((partB c && (!f || startB c)) = r) := ⟨_, rfl⟩
        go_wp2_with fail
        refine (Next_as t wr (by unfold maxLen; omega) c n hq).mono ?_
        rintro e w2 ⟨rfl, hb2⟩
        obtain ⟨wo, rfl⟩ : ∃ wo : World, wo = wr := ⟨_, rfl⟩
        have hbel2 := hbel.trans (hb2.mono (by omega))
        have hz2 := hbel2.size
        have hcell : w2.cell? ⟨b, 0, none⟩ = some (.func (.func 45) #[] #[]) := by
          rw [hbel2.cell (p := ⟨b, 0, none⟩) hb]; exact HC.out
        have hfv := hf.out
        go_wp2_with fail
        cases r with
        | false =>
          have hv : Hid (V = -1) := by
            have := eachI_no k t.data.toList hnn.out HN.out (by rw [hq.out, hf'.out]; exact hr.out)
            exact hyes.out.symm.trans this
          refine wp_loop_rounds 1 ?_
          rw [rounds_succ]
          go_wp2_with (go_at_call 45; refine (name1_any c f _ _ hr).mono ?_; rintro e w3 ⟨rfl, hb3⟩)
          go_ret
          exact ⟨by rw [hv.out]; rfl, hbel2.trans (hb3.mono (by omega))⟩
        | true =>
          have hx : (t.extract n t.size).data.toList = t.data.toList.drop n := Lib.extract_to_end t n
          have hxs : (t.extract n t.size).size = t.size - n := by simp
          have hst : Hid (eachI (k + 1) (t.extract n t.size).data.toList = V) := by
            have := eachI_step k t.data.toList hnn.out HN.out (by rw [hq.out, hf'.out]; exact hr.out)
            rw [hq.out] at this
            show _ = _
            rw [hx, ← hyes.out, this]
          have HX := Lib.hid hxs
          clear hx hxs
          refine wp_loop_rounds 2 ?_
          rw [rounds_succ]
          go_wp2_with (go_at_call 45; refine (name1_any c f _ _ hr).mono ?_; rintro e w3 ⟨rfl, hb3⟩)
          rw [rounds_succ]
          go_wp2_with fail
          go_roundw
          case rel => exact ⟨t.extract n t.size, k + 1, rfl, by go_num, by rw [HX.out]; omega, hst, hbel2.trans (hb3.mono (by omega))⟩
          case measure =>
            show (t.extract n t.size).size < t.size
            rw [HX.out]; omega

set_option maxRecDepth 100000 in
set_option maxHeartbeats 1000000 in
theorem Name_any (s : ByteArray) (w : World) (hs : s.size ≤ maxLen) (r : Bool) (hr : Hid (nameL s.data.toList = r)) :
    Calls Try.prog 21 #[.string s] w (Ret w (.bool r)) := by
  have hr' := hr.out
  rw [nameL_each, size_toList] at hr'
  have HL := Lib.hid hr'
  clear hr hr'
  by_cases he : s.toList.isEmpty = true
  · have hnil : s.data.toList = [] := by rw [ByteArray.toList_eq] at he; simpa using he
    have hv : Hid (r = false) := by show _ = _; rw [← HL.out, hnil]; simp
    clear hnil HL
    go_enter Try.func21, Try.ntmps21
    go_wp2_with fail
    go_ret
    exact ⟨by rw [hv.out]; rfl, Below.refl _ _⟩
  · have hne : s.toList.isEmpty = false := by simpa using he
    clear he
    have hnn : Hid (s.data.toList ≠ []) := by
      intro h
      rw [ByteArray.toList_eq, h] at hne
      cases hne
    by_cases h60 : s.size ≤ 60
    · obtain ⟨V, hV⟩ : ∃ V, Hid (eachI 0 s.data.toList = V) := ⟨_, rfl⟩
      have hz : (s.size : Int) ≤ 60 := by omega
      have hv : Hid (decide (0 < V) = r) := by
        show _ = _
        rw [← HL.out, hV.out]; simp [h60, hnn.out]
      clear h60
      go_enter Try.func21, Try.ntmps21
      go_wp2_with fail
      refine (each_name s w.heap.size _ hs (by simp) (World.cell?_alloc_at _ _ _ _ (by simp)) V hV).mono ?_
      rintro e w2 ⟨rfl, hb2⟩
      go_wp2_with fail
      go_ret
      refine ⟨by rw [← hv.out]; rfl, ((Below.refl _ w).alloc (Nat.le_refl _) _).trans (hb2.mono (by simp))⟩
    · have hz : 60 < (s.size : Int) := by omega
      have hv : Hid (r = false) := by show _ = _; rw [← HL.out]; simp [h60]
      clear h60
      go_enter Try.func21, Try.ntmps21
      go_wp2_with fail
      go_ret
      exact ⟨by rw [hv.out]; rfl, Below.refl _ _⟩
end Go.Proofs.Ythifddkmbjnncaa

/-
  The walks of the document's Char, six and Put.
-/
namespace Go.Proofs.Ythifddkmbjnncaa
open Go.RowKit

/-! The document's Char and Put. -/
set_option maxHeartbeats 1000000 in
theorem RChar_any (c : Int) (w : World) :
    Calls Try.prog 136 #[.int .i32 c] w fun e w' => e = .returned (.bool (charB c)) ∧ w = w' := by
  go_enter Try.func136, Try.ntmps136
  go_wp2
  all_goals go_ret
  all_goals (refine ⟨congrArg (fun b => Ending.returned (.bool b)) ?_, rfl⟩; rw [Bool.eq_iff_iff]; simp [charB]; try omega)

set_option maxHeartbeats 400000 in
theorem six_any (c f : Int) (w : World) (h0 : 0 ≤ c) (h1 : c ≤ 1114111) (hf : 1 ≤ f) (hf1 : f ≤ 4096) :
    Calls Try.prog 137 #[.int .i32 c, .int .i32 f] w fun e w' => e = .returned (.int .u8 (128 + c / f % 64)) ∧ w = w' := by
  have hd0 : 0 ≤ c / f := Int.ediv_nonneg h0 (by omega)
  have hd1 : c / f ≤ c := Int.ediv_le_self _ h0
  have hb : 0 ≤ c / f % 64 ∧ c / f % 64 < 64 := by omega
  obtain ⟨hb0, hb1⟩ := hb
  go_enter Try.func137, Try.ntmps137
  go_wp2
  go_ret
  refine ⟨?_, rfl⟩
  rfl

set_option maxHeartbeats 1000000 in
theorem RPut_any (c : Int) (w : World) :
    Calls Try.prog 114 #[.int .i32 c] w (Ret w (.tuple #[.string ⟨(putF c).toArray⟩, .bool (charB c)])) := by
  by_cases hc : charB c = true
  · have hp : putF c = enc c := by unfold putF; rw [if_pos hc]
    have hr : 0 ≤ c ∧ c ≤ 1114111 := by simp [charB] at hc; omega
    obtain ⟨hr0, hr1⟩ := hr
    have HP := Lib.hid hp
    clear hp
    rcases (by omega : c < 128 ∨ (128 ≤ c ∧ c < 2048) ∨ (2048 ≤ c ∧ c < 65536) ∨ 65536 ≤ c) with h | ⟨h, h'⟩ | ⟨h, h'⟩ | h
    · have hx : (#[Value.int .u8 (c)] : Array Value).toList = Lib.byteCells (enc c) := by
        unfold enc; rw [if_pos (by omega)]; simp only [Lib.byteCells, List.map_cons, List.map_nil]
        simp only [bt_toNat (c) (by omega) (by omega)]
      have hln : (enc c).length = 1 := by unfold enc; rw [if_pos (by omega)]; rfl
      have hcv := run_string_lit (P := Try.prog) (enc c) _ hx (by rw [hln]; decide) Try.underlying78 Try.underlying5 Try.underlying9
      rw [hln] at hcv
      clear hx hln
      go_enter Try.func114, Try.ntmps114
      go_wp2_with (first
        | (go_at_call 136; refine (RChar_any _ _).mono ?_; rintro e w' ⟨rfl, rfl⟩)
        | (go_at_call 137; refine (six_any _ _ _ (by omega) (by omega) (by omega) (by omega)).mono ?_; rintro e w' ⟨rfl, rfl⟩))
      go_ret2
      exact ⟨by rw [HP.out, hc]; rfl, (Below.refl _ _).alloc (Nat.le_refl _) _⟩
    · have hx : (#[Value.int .u8 (192 + c / 64), Value.int .u8 (128 + c % 64)] : Array Value).toList = Lib.byteCells (enc c) := by
        unfold enc; rw [if_neg (by omega), if_pos (by omega)]; simp only [Lib.byteCells, List.map_cons, List.map_nil]
        simp only [bt_toNat (192 + c / 64) (by omega) (by omega), bt_toNat (128 + c % 64) (by omega) (by omega)]
      have hln : (enc c).length = 2 := by unfold enc; rw [if_neg (by omega), if_pos (by omega)]; rfl
      have hcv := run_string_lit (P := Try.prog) (enc c) _ hx (by rw [hln]; decide) Try.underlying78 Try.underlying5 Try.underlying9
      rw [hln] at hcv
      clear hx hln
      go_enter Try.func114, Try.ntmps114
      go_wp2_with (first
        | (go_at_call 136; refine (RChar_any _ _).mono ?_; rintro e w' ⟨rfl, rfl⟩)
        | (go_at_call 137; refine (six_any _ _ _ (by omega) (by omega) (by omega) (by omega)).mono ?_; rintro e w' ⟨rfl, rfl⟩))
      go_ret2
      exact ⟨by rw [HP.out, hc]; rfl, (Below.refl _ _).alloc (Nat.le_refl _) _⟩
    · have hx : (#[Value.int .u8 (224 + c / 4096), Value.int .u8 (128 + c / 64 % 64), Value.int .u8 (128 + c % 64)] : Array Value).toList = Lib.byteCells (enc c) := by
        unfold enc; rw [if_neg (by omega), if_neg (by omega), if_pos (by omega)]; simp only [Lib.byteCells, List.map_cons, List.map_nil]
        simp only [bt_toNat (224 + c / 4096) (by omega) (by omega), bt_toNat (128 + c / 64 % 64) (by omega) (by omega), bt_toNat (128 + c % 64) (by omega) (by omega)]
      have hln : (enc c).length = 3 := by unfold enc; rw [if_neg (by omega), if_neg (by omega), if_pos (by omega)]; rfl
      have hcv := run_string_lit (P := Try.prog) (enc c) _ hx (by rw [hln]; decide) Try.underlying78 Try.underlying5 Try.underlying9
      rw [hln] at hcv
      clear hx hln
      go_enter Try.func114, Try.ntmps114
      go_wp2_with (first
        | (go_at_call 136; refine (RChar_any _ _).mono ?_; rintro e w' ⟨rfl, rfl⟩)
        | (go_at_call 137; refine (six_any _ _ _ (by omega) (by omega) (by omega) (by omega)).mono ?_; rintro e w' ⟨rfl, rfl⟩))
      go_ret2
      exact ⟨by rw [HP.out, hc]; rfl, (Below.refl _ _).alloc (Nat.le_refl _) _⟩
    · have hx : (#[Value.int .u8 (240 + c / 262144), Value.int .u8 (128 + c / 4096 % 64), Value.int .u8 (128 + c / 64 % 64), Value.int .u8 (128 + c % 64)] : Array Value).toList = Lib.byteCells (enc c) := by
        unfold enc; rw [if_neg (by omega), if_neg (by omega), if_neg (by omega)]; simp only [Lib.byteCells, List.map_cons, List.map_nil]
        simp only [bt_toNat (240 + c / 262144) (by omega) (by omega), bt_toNat (128 + c / 4096 % 64) (by omega) (by omega), bt_toNat (128 + c / 64 % 64) (by omega) (by omega), bt_toNat (128 + c % 64) (by omega) (by omega)]
      have hln : (enc c).length = 4 := by unfold enc; rw [if_neg (by omega), if_neg (by omega), if_neg (by omega)]; rfl
      have hcv := run_string_lit (P := Try.prog) (enc c) _ hx (by rw [hln]; decide) Try.underlying78 Try.underlying5 Try.underlying9
      rw [hln] at hcv
      clear hx hln
      go_enter Try.func114, Try.ntmps114
      go_wp2_with (first
        | (go_at_call 136; refine (RChar_any _ _).mono ?_; rintro e w' ⟨rfl, rfl⟩)
        | (go_at_call 137; refine (six_any _ _ _ (by omega) (by omega) (by omega) (by omega)).mono ?_; rintro e w' ⟨rfl, rfl⟩))
      go_ret2
      exact ⟨by rw [HP.out, hc]; rfl, (Below.refl _ _).alloc (Nat.le_refl _) _⟩
  · have hc' : charB c = false := by simpa using hc
    clear hc
    have HP : Hid (putF c = []) := by unfold putF; rw [hc']; rfl
    go_enter Try.func114, Try.ntmps114
    go_wp2_with (go_at_call 136; refine (RChar_any _ _).mono ?_; rintro e w' ⟨rfl, rfl⟩)
    go_ret2
    exact ⟨by rw [HP.out, hc']; rfl, Below.refl _ _⟩
end Go.Proofs.Ythifddkmbjnncaa

/-
  The walk of the document's Next.
-/
namespace Go.Proofs.Ythifddkmbjnncaa
open Go.RowKit

theorem getk_of (s : ByteArray) (k : Nat) (x : UInt8) (h : s.data.toList[k]? = some x) (hk : k < s.size) : s[k] = x := by
  have : s.data[k]'hk = x := by
    rw [Array.getElem?_toList, Array.getElem?_eq_getElem hk] at h
    exact Option.some.inj h
  exact this

set_option maxHeartbeats 400000 in
theorem RNext_nil (s : ByteArray) (w : World) (he : s.toList.isEmpty = true) :
    Calls Try.prog 112 #[.string s] w (Ret w (.tuple #[.int .i32 0, .int .i64 0])) := by
  go_enter Try.func112, Try.ntmps112
  go_wp2_with fail
  go_ret2
  exact ⟨rfl, Below.refl _ _⟩

set_option maxRecDepth 100000 in
set_option maxHeartbeats 1000000 in
theorem RNext_good_a (s : ByteArray) (w : World) (b : UInt8) (c0 : Int) (m : List UInt8) (hs : s.size ≤ maxLen) (hp : 0 < s.size) (hne : s.toList.isEmpty = false) (he : s[0] = b) (hr0 : (b.toNat : Int) < 192) (hc0 : Hid (c0 = (b.toNat : Int)))
    (_hn : 1 ≤ s.size) (hml : Hid (m.length = 0)) (hm0 : Hid ((s.extract 0 1).toList = b :: m)) (_hmx : Hid (∀ k x, m[k]? = some x → s.data.toList[k + 1]? = some x)) (hbd : Hid (∀ k, k ≤ m.length → -1000000 < foldR c0 (m.take k) ∧ foldR c0 (m.take k) < 4194304))
    (V : Int × Nat) (hV : Hid (V = if charB (foldR c0 m) && (enc (foldR c0 m) == b :: m) then (foldR c0 m, 1) else (-1, 0))) :
    Calls Try.prog 112 #[.string s] w (Ret w (.tuple #[.int .i32 V.1, .int .i64 (V.2 : Nat)])) := by
  unfold maxLen at hs
  have hb256 : (b.toNat : Int) < 256 := by have := b.toNat_lt; omega
  go_enter Try.func112, Try.ntmps112
  go_wp2_with fail
  go_loop [5, 6] (fun c i => ∃ k : Nat, k ≤ 0 ∧ i = .int .i64 ((k + 1 : Nat) : Int) ∧ c = .int .i32 (foldR c0 (m.take k))) (fun _ i => 5 - (intOf i).toNat)
  case atStart => exact ⟨0, Nat.zero_le _, rfl, by rw [hc0.out]; rfl⟩
  case round =>
    obtain ⟨k, hk, rfl, rfl⟩ := hrel
    have hbk := hbd.out k (by have := hml.out; omega)
    generalize hck : foldR c0 (m.take k) = ck at *
    have HCK := Lib.hid hck
    clear hck
    obtain ⟨hbk0, hbk1⟩ := hbk
    by_cases hlt : k < 0
    · omega
    · obtain rfl : k = 0 := by omega
      have hfull : m.take 0 = m := List.take_of_length_le (by have := hml.out; omega)
      have HCK' : Hid (foldR c0 m = ck) := by have := HCK.out; rw [hfull] at this; exact this
      clear hfull
      by_cases hch : charB ck = true
      · have hpf : putF ck = enc ck := by unfold putF; rw [if_pos hch]
        have HPF := Lib.hid hpf
        clear hpf
        by_cases hq : (putF ck == (s.extract 0 1).toList) = true
        · have hv : Hid (V = (ck, 1)) := by
            have hq' : (enc ck == b :: m) = true := by rw [← HPF.out, ← hm0.out]; exact hq
            show V = (ck, 1)
            rw [hV.out, HCK'.out, hch, hq']; rfl
          go_wp2_with (go_at_call 114; refine (RPut_any _ _).mono ?_; rintro e w2 ⟨rfl, hb2⟩)
          go_ret2
          exact ⟨by rw [hv.out]; rfl, hb2⟩
        · have hq0 : (putF ck == (s.extract 0 1).toList) = false := by simpa using hq
          clear hq
          have hv : Hid (V = (-1, 0)) := by
            have hq' : (enc ck == b :: m) = false := by rw [← HPF.out, ← hm0.out]; exact hq0
            show V = (-1, 0)
            rw [hV.out, HCK'.out, hq']; simp
          go_wp2_with (go_at_call 114; refine (RPut_any _ _).mono ?_; rintro e w2 ⟨rfl, hb2⟩)
          go_ret2
          exact ⟨by rw [hv.out]; rfl, hb2⟩
      · have hch' : charB ck = false := by simpa using hch
        clear hch
        have hv : Hid (V = (-1, 0)) := by
          show V = (-1, 0)
          rw [hV.out, HCK'.out, hch']; simp
        go_wp2_with (go_at_call 114; refine (RPut_any _ _).mono ?_; rintro e w2 ⟨rfl, hb2⟩)
        go_ret2
        exact ⟨by rw [hv.out]; rfl, hb2⟩

set_option maxRecDepth 100000 in
set_option maxHeartbeats 1000000 in
theorem RNext_short_b (s : ByteArray) (w : World) (b : UInt8) (hs : s.size ≤ maxLen) (hp : 0 < s.size) (hne : s.toList.isEmpty = false) (he : s[0] = b) (hr0 : 192 ≤ (b.toNat : Int)) (hr1 : (b.toNat : Int) < 224) (hn : s.size < 2) :
    Calls Try.prog 112 #[.string s] w (Ret w (.tuple #[.int .i32 (-1), .int .i64 0])) := by
  unfold maxLen at hs
  have hb256 : (b.toNat : Int) < 256 := by have := b.toNat_lt; omega
  go_enter Try.func112, Try.ntmps112
  go_wp2_with fail
  go_ret2
  exact ⟨rfl, Below.refl _ _⟩

set_option maxRecDepth 100000 in
set_option maxHeartbeats 1000000 in
theorem RNext_good_b (s : ByteArray) (w : World) (b : UInt8) (c0 : Int) (m : List UInt8) (hs : s.size ≤ maxLen) (hp : 0 < s.size) (hne : s.toList.isEmpty = false) (he : s[0] = b) (hr0 : 192 ≤ (b.toNat : Int)) (hr1 : (b.toNat : Int) < 224) (hc0 : Hid (c0 = (b.toNat : Int) - 192))
    (hn : 2 ≤ s.size) (hml : Hid (m.length = 1)) (hm0 : Hid ((s.extract 0 2).toList = b :: m)) (hmx : Hid (∀ k x, m[k]? = some x → s.data.toList[k + 1]? = some x)) (hbd : Hid (∀ k, k ≤ m.length → -1000000 < foldR c0 (m.take k) ∧ foldR c0 (m.take k) < 4194304))
    (V : Int × Nat) (hV : Hid (V = if charB (foldR c0 m) && (enc (foldR c0 m) == b :: m) then (foldR c0 m, 2) else (-1, 0))) :
    Calls Try.prog 112 #[.string s] w (Ret w (.tuple #[.int .i32 V.1, .int .i64 (V.2 : Nat)])) := by
  unfold maxLen at hs
  have hb256 : (b.toNat : Int) < 256 := by have := b.toNat_lt; omega
  go_enter Try.func112, Try.ntmps112
  go_wp2_with fail
  go_loop [5, 6] (fun c i => ∃ k : Nat, k ≤ 1 ∧ i = .int .i64 ((k + 1 : Nat) : Int) ∧ c = .int .i32 (foldR c0 (m.take k))) (fun _ i => 5 - (intOf i).toNat)
  case atStart => exact ⟨0, Nat.zero_le _, rfl, by rw [hc0.out]; rfl⟩
  case round =>
    obtain ⟨k, hk, rfl, rfl⟩ := hrel
    have hbk := hbd.out k (by have := hml.out; omega)
    generalize hck : foldR c0 (m.take k) = ck at *
    have HCK := Lib.hid hck
    clear hck
    obtain ⟨hbk0, hbk1⟩ := hbk
    by_cases hlt : k < 1
    · obtain ⟨x, HX⟩ : ∃ x, Hid (m[k]? = some x) := ⟨m[k]'(by have := hml.out; omega), List.getElem?_eq_getElem _⟩
      have hks : k + 1 < s.size := by omega
      have hsx : s[k + 1] = x := getk_of s (k + 1) x (hmx.out k x HX.out) hks
      have hx1 : (x.toNat : Int) < 256 := by have := x.toNat_lt; omega
      go_wp2_with fail
      go_round
      case rel =>
        have htk : m.take (k + 1) = m.take k ++ [x] := by
          have := HX.out
          rw [List.take_add_one, this]; rfl
        exact ⟨k + 1, by omega, by go_num, by rw [htk, foldR_snoc, HCK.out]⟩
      case measure => simp [intOf]; omega
    · obtain rfl : k = 1 := by omega
      have hfull : m.take 1 = m := List.take_of_length_le (by have := hml.out; omega)
      have HCK' : Hid (foldR c0 m = ck) := by have := HCK.out; rw [hfull] at this; exact this
      clear hfull
      by_cases hch : charB ck = true
      · have hpf : putF ck = enc ck := by unfold putF; rw [if_pos hch]
        have HPF := Lib.hid hpf
        clear hpf
        by_cases hq : (putF ck == (s.extract 0 2).toList) = true
        · have hv : Hid (V = (ck, 2)) := by
            have hq' : (enc ck == b :: m) = true := by rw [← HPF.out, ← hm0.out]; exact hq
            show V = (ck, 2)
            rw [hV.out, HCK'.out, hch, hq']; rfl
          go_wp2_with (go_at_call 114; refine (RPut_any _ _).mono ?_; rintro e w2 ⟨rfl, hb2⟩)
          go_ret2
          exact ⟨by rw [hv.out]; rfl, hb2⟩
        · have hq0 : (putF ck == (s.extract 0 2).toList) = false := by simpa using hq
          clear hq
          have hv : Hid (V = (-1, 0)) := by
            have hq' : (enc ck == b :: m) = false := by rw [← HPF.out, ← hm0.out]; exact hq0
            show V = (-1, 0)
            rw [hV.out, HCK'.out, hq']; simp
          go_wp2_with (go_at_call 114; refine (RPut_any _ _).mono ?_; rintro e w2 ⟨rfl, hb2⟩)
          go_ret2
          exact ⟨by rw [hv.out]; rfl, hb2⟩
      · have hch' : charB ck = false := by simpa using hch
        clear hch
        have hv : Hid (V = (-1, 0)) := by
          show V = (-1, 0)
          rw [hV.out, HCK'.out, hch']; simp
        go_wp2_with (go_at_call 114; refine (RPut_any _ _).mono ?_; rintro e w2 ⟨rfl, hb2⟩)
        go_ret2
        exact ⟨by rw [hv.out]; rfl, hb2⟩

set_option maxRecDepth 100000 in
set_option maxHeartbeats 1000000 in
theorem RNext_short_c (s : ByteArray) (w : World) (b : UInt8) (hs : s.size ≤ maxLen) (hp : 0 < s.size) (hne : s.toList.isEmpty = false) (he : s[0] = b) (hr0 : 224 ≤ (b.toNat : Int)) (hr1 : (b.toNat : Int) < 240) (hn : s.size < 3) :
    Calls Try.prog 112 #[.string s] w (Ret w (.tuple #[.int .i32 (-1), .int .i64 0])) := by
  unfold maxLen at hs
  have hb256 : (b.toNat : Int) < 256 := by have := b.toNat_lt; omega
  go_enter Try.func112, Try.ntmps112
  go_wp2_with fail
  go_ret2
  exact ⟨rfl, Below.refl _ _⟩

set_option maxRecDepth 100000 in
set_option maxHeartbeats 1000000 in
theorem RNext_good_c (s : ByteArray) (w : World) (b : UInt8) (c0 : Int) (m : List UInt8) (hs : s.size ≤ maxLen) (hp : 0 < s.size) (hne : s.toList.isEmpty = false) (he : s[0] = b) (hr0 : 224 ≤ (b.toNat : Int)) (hr1 : (b.toNat : Int) < 240) (hc0 : Hid (c0 = (b.toNat : Int) - 224))
    (hn : 3 ≤ s.size) (hml : Hid (m.length = 2)) (hm0 : Hid ((s.extract 0 3).toList = b :: m)) (hmx : Hid (∀ k x, m[k]? = some x → s.data.toList[k + 1]? = some x)) (hbd : Hid (∀ k, k ≤ m.length → -1000000 < foldR c0 (m.take k) ∧ foldR c0 (m.take k) < 4194304))
    (V : Int × Nat) (hV : Hid (V = if charB (foldR c0 m) && (enc (foldR c0 m) == b :: m) then (foldR c0 m, 3) else (-1, 0))) :
    Calls Try.prog 112 #[.string s] w (Ret w (.tuple #[.int .i32 V.1, .int .i64 (V.2 : Nat)])) := by
  unfold maxLen at hs
  have hb256 : (b.toNat : Int) < 256 := by have := b.toNat_lt; omega
  go_enter Try.func112, Try.ntmps112
  go_wp2_with fail
  go_loop [5, 6] (fun c i => ∃ k : Nat, k ≤ 2 ∧ i = .int .i64 ((k + 1 : Nat) : Int) ∧ c = .int .i32 (foldR c0 (m.take k))) (fun _ i => 5 - (intOf i).toNat)
  case atStart => exact ⟨0, Nat.zero_le _, rfl, by rw [hc0.out]; rfl⟩
  case round =>
    obtain ⟨k, hk, rfl, rfl⟩ := hrel
    have hbk := hbd.out k (by have := hml.out; omega)
    generalize hck : foldR c0 (m.take k) = ck at *
    have HCK := Lib.hid hck
    clear hck
    obtain ⟨hbk0, hbk1⟩ := hbk
    by_cases hlt : k < 2
    · obtain ⟨x, HX⟩ : ∃ x, Hid (m[k]? = some x) := ⟨m[k]'(by have := hml.out; omega), List.getElem?_eq_getElem _⟩
      have hks : k + 1 < s.size := by omega
      have hsx : s[k + 1] = x := getk_of s (k + 1) x (hmx.out k x HX.out) hks
      have hx1 : (x.toNat : Int) < 256 := by have := x.toNat_lt; omega
      go_wp2_with fail
      go_round
      case rel =>
        have htk : m.take (k + 1) = m.take k ++ [x] := by
          have := HX.out
          rw [List.take_add_one, this]; rfl
        exact ⟨k + 1, by omega, by go_num, by rw [htk, foldR_snoc, HCK.out]⟩
      case measure => simp [intOf]; omega
    · obtain rfl : k = 2 := by omega
      have hfull : m.take 2 = m := List.take_of_length_le (by have := hml.out; omega)
      have HCK' : Hid (foldR c0 m = ck) := by have := HCK.out; rw [hfull] at this; exact this
      clear hfull
      by_cases hch : charB ck = true
      · have hpf : putF ck = enc ck := by unfold putF; rw [if_pos hch]
        have HPF := Lib.hid hpf
        clear hpf
        by_cases hq : (putF ck == (s.extract 0 3).toList) = true
        · have hv : Hid (V = (ck, 3)) := by
            have hq' : (enc ck == b :: m) = true := by rw [← HPF.out, ← hm0.out]; exact hq
            show V = (ck, 3)
            rw [hV.out, HCK'.out, hch, hq']; rfl
          go_wp2_with (go_at_call 114; refine (RPut_any _ _).mono ?_; rintro e w2 ⟨rfl, hb2⟩)
          go_ret2
          exact ⟨by rw [hv.out]; rfl, hb2⟩
        · have hq0 : (putF ck == (s.extract 0 3).toList) = false := by simpa using hq
          clear hq
          have hv : Hid (V = (-1, 0)) := by
            have hq' : (enc ck == b :: m) = false := by rw [← HPF.out, ← hm0.out]; exact hq0
            show V = (-1, 0)
            rw [hV.out, HCK'.out, hq']; simp
          go_wp2_with (go_at_call 114; refine (RPut_any _ _).mono ?_; rintro e w2 ⟨rfl, hb2⟩)
          go_ret2
          exact ⟨by rw [hv.out]; rfl, hb2⟩
      · have hch' : charB ck = false := by simpa using hch
        clear hch
        have hv : Hid (V = (-1, 0)) := by
          show V = (-1, 0)
          rw [hV.out, HCK'.out, hch']; simp
        go_wp2_with (go_at_call 114; refine (RPut_any _ _).mono ?_; rintro e w2 ⟨rfl, hb2⟩)
        go_ret2
        exact ⟨by rw [hv.out]; rfl, hb2⟩

set_option maxRecDepth 100000 in
set_option maxHeartbeats 1000000 in
theorem RNext_short_d (s : ByteArray) (w : World) (b : UInt8) (hs : s.size ≤ maxLen) (hp : 0 < s.size) (hne : s.toList.isEmpty = false) (he : s[0] = b) (hr0 : 240 ≤ (b.toNat : Int)) (hr1 : (b.toNat : Int) < 248) (hn : s.size < 4) :
    Calls Try.prog 112 #[.string s] w (Ret w (.tuple #[.int .i32 (-1), .int .i64 0])) := by
  unfold maxLen at hs
  have hb256 : (b.toNat : Int) < 256 := by have := b.toNat_lt; omega
  go_enter Try.func112, Try.ntmps112
  go_wp2_with fail
  go_ret2
  exact ⟨rfl, Below.refl _ _⟩

set_option maxRecDepth 100000 in
set_option maxHeartbeats 1000000 in
theorem RNext_good_d (s : ByteArray) (w : World) (b : UInt8) (c0 : Int) (m : List UInt8) (hs : s.size ≤ maxLen) (hp : 0 < s.size) (hne : s.toList.isEmpty = false) (he : s[0] = b) (hr0 : 240 ≤ (b.toNat : Int)) (hr1 : (b.toNat : Int) < 248) (hc0 : Hid (c0 = (b.toNat : Int) - 240))
    (hn : 4 ≤ s.size) (hml : Hid (m.length = 3)) (hm0 : Hid ((s.extract 0 4).toList = b :: m)) (hmx : Hid (∀ k x, m[k]? = some x → s.data.toList[k + 1]? = some x)) (hbd : Hid (∀ k, k ≤ m.length → -1000000 < foldR c0 (m.take k) ∧ foldR c0 (m.take k) < 4194304))
    (V : Int × Nat) (hV : Hid (V = if charB (foldR c0 m) && (enc (foldR c0 m) == b :: m) then (foldR c0 m, 4) else (-1, 0))) :
    Calls Try.prog 112 #[.string s] w (Ret w (.tuple #[.int .i32 V.1, .int .i64 (V.2 : Nat)])) := by
  unfold maxLen at hs
  have hb256 : (b.toNat : Int) < 256 := by have := b.toNat_lt; omega
  go_enter Try.func112, Try.ntmps112
  go_wp2_with fail
  go_loop [5, 6] (fun c i => ∃ k : Nat, k ≤ 3 ∧ i = .int .i64 ((k + 1 : Nat) : Int) ∧ c = .int .i32 (foldR c0 (m.take k))) (fun _ i => 5 - (intOf i).toNat)
  case atStart => exact ⟨0, Nat.zero_le _, rfl, by rw [hc0.out]; rfl⟩
  case round =>
    obtain ⟨k, hk, rfl, rfl⟩ := hrel
    have hbk := hbd.out k (by have := hml.out; omega)
    generalize hck : foldR c0 (m.take k) = ck at *
    have HCK := Lib.hid hck
    clear hck
    obtain ⟨hbk0, hbk1⟩ := hbk
    by_cases hlt : k < 3
    · obtain ⟨x, HX⟩ : ∃ x, Hid (m[k]? = some x) := ⟨m[k]'(by have := hml.out; omega), List.getElem?_eq_getElem _⟩
      have hks : k + 1 < s.size := by omega
      have hsx : s[k + 1] = x := getk_of s (k + 1) x (hmx.out k x HX.out) hks
      have hx1 : (x.toNat : Int) < 256 := by have := x.toNat_lt; omega
      go_wp2_with fail
      go_round
      case rel =>
        have htk : m.take (k + 1) = m.take k ++ [x] := by
          have := HX.out
          rw [List.take_add_one, this]; rfl
        exact ⟨k + 1, by omega, by go_num, by rw [htk, foldR_snoc, HCK.out]⟩
      case measure => simp [intOf]; omega
    · obtain rfl : k = 3 := by omega
      have hfull : m.take 3 = m := List.take_of_length_le (by have := hml.out; omega)
      have HCK' : Hid (foldR c0 m = ck) := by have := HCK.out; rw [hfull] at this; exact this
      clear hfull
      by_cases hch : charB ck = true
      · have hpf : putF ck = enc ck := by unfold putF; rw [if_pos hch]
        have HPF := Lib.hid hpf
        clear hpf
        by_cases hq : (putF ck == (s.extract 0 4).toList) = true
        · have hv : Hid (V = (ck, 4)) := by
            have hq' : (enc ck == b :: m) = true := by rw [← HPF.out, ← hm0.out]; exact hq
            show V = (ck, 4)
            rw [hV.out, HCK'.out, hch, hq']; rfl
          go_wp2_with (go_at_call 114; refine (RPut_any _ _).mono ?_; rintro e w2 ⟨rfl, hb2⟩)
          go_ret2
          exact ⟨by rw [hv.out]; rfl, hb2⟩
        · have hq0 : (putF ck == (s.extract 0 4).toList) = false := by simpa using hq
          clear hq
          have hv : Hid (V = (-1, 0)) := by
            have hq' : (enc ck == b :: m) = false := by rw [← HPF.out, ← hm0.out]; exact hq0
            show V = (-1, 0)
            rw [hV.out, HCK'.out, hq']; simp
          go_wp2_with (go_at_call 114; refine (RPut_any _ _).mono ?_; rintro e w2 ⟨rfl, hb2⟩)
          go_ret2
          exact ⟨by rw [hv.out]; rfl, hb2⟩
      · have hch' : charB ck = false := by simpa using hch
        clear hch
        have hv : Hid (V = (-1, 0)) := by
          show V = (-1, 0)
          rw [hV.out, HCK'.out, hch']; simp
        go_wp2_with (go_at_call 114; refine (RPut_any _ _).mono ?_; rintro e w2 ⟨rfl, hb2⟩)
        go_ret2
        exact ⟨by rw [hv.out]; rfl, hb2⟩

set_option maxRecDepth 100000 in
set_option maxHeartbeats 1000000 in
theorem RNext_good_e (s : ByteArray) (w : World) (b : UInt8) (c0 : Int) (m : List UInt8) (hs : s.size ≤ maxLen) (hp : 0 < s.size) (hne : s.toList.isEmpty = false) (he : s[0] = b) (hr0 : 248 ≤ (b.toNat : Int)) (hc0 : Hid (c0 = (b.toNat : Int)))
    (_hn : 1 ≤ s.size) (hml : Hid (m.length = 0)) (hm0 : Hid ((s.extract 0 1).toList = b :: m)) (_hmx : Hid (∀ k x, m[k]? = some x → s.data.toList[k + 1]? = some x)) (hbd : Hid (∀ k, k ≤ m.length → -1000000 < foldR c0 (m.take k) ∧ foldR c0 (m.take k) < 4194304))
    (V : Int × Nat) (hV : Hid (V = if charB (foldR c0 m) && (enc (foldR c0 m) == b :: m) then (foldR c0 m, 1) else (-1, 0))) :
    Calls Try.prog 112 #[.string s] w (Ret w (.tuple #[.int .i32 V.1, .int .i64 (V.2 : Nat)])) := by
  unfold maxLen at hs
  have hb256 : (b.toNat : Int) < 256 := by have := b.toNat_lt; omega
  go_enter Try.func112, Try.ntmps112
  go_wp2_with fail
  go_loop [5, 6] (fun c i => ∃ k : Nat, k ≤ 0 ∧ i = .int .i64 ((k + 1 : Nat) : Int) ∧ c = .int .i32 (foldR c0 (m.take k))) (fun _ i => 5 - (intOf i).toNat)
  case atStart => exact ⟨0, Nat.zero_le _, rfl, by rw [hc0.out]; rfl⟩
  case round =>
    obtain ⟨k, hk, rfl, rfl⟩ := hrel
    have hbk := hbd.out k (by have := hml.out; omega)
    generalize hck : foldR c0 (m.take k) = ck at *
    have HCK := Lib.hid hck
    clear hck
    obtain ⟨hbk0, hbk1⟩ := hbk
    by_cases hlt : k < 0
    · omega
    · obtain rfl : k = 0 := by omega
      have hfull : m.take 0 = m := List.take_of_length_le (by have := hml.out; omega)
      have HCK' : Hid (foldR c0 m = ck) := by have := HCK.out; rw [hfull] at this; exact this
      clear hfull
      by_cases hch : charB ck = true
      · have hpf : putF ck = enc ck := by unfold putF; rw [if_pos hch]
        have HPF := Lib.hid hpf
        clear hpf
        by_cases hq : (putF ck == (s.extract 0 1).toList) = true
        · have hv : Hid (V = (ck, 1)) := by
            have hq' : (enc ck == b :: m) = true := by rw [← HPF.out, ← hm0.out]; exact hq
            show V = (ck, 1)
            rw [hV.out, HCK'.out, hch, hq']; rfl
          go_wp2_with (go_at_call 114; refine (RPut_any _ _).mono ?_; rintro e w2 ⟨rfl, hb2⟩)
          go_ret2
          exact ⟨by rw [hv.out]; rfl, hb2⟩
        · have hq0 : (putF ck == (s.extract 0 1).toList) = false := by simpa using hq
          clear hq
          have hv : Hid (V = (-1, 0)) := by
            have hq' : (enc ck == b :: m) = false := by rw [← HPF.out, ← hm0.out]; exact hq0
            show V = (-1, 0)
            rw [hV.out, HCK'.out, hq']; simp
          go_wp2_with (go_at_call 114; refine (RPut_any _ _).mono ?_; rintro e w2 ⟨rfl, hb2⟩)
          go_ret2
          exact ⟨by rw [hv.out]; rfl, hb2⟩
      · have hch' : charB ck = false := by simpa using hch
        clear hch
        have hv : Hid (V = (-1, 0)) := by
          show V = (-1, 0)
          rw [hV.out, HCK'.out, hch']; simp
        go_wp2_with (go_at_call 114; refine (RPut_any _ _).mono ?_; rintro e w2 ⟨rfl, hb2⟩)
        go_ret2
        exact ⟨by rw [hv.out]; rfl, hb2⟩

/-- The document's Next: any text. -/
theorem RNext_any (s : ByteArray) (w : World) (hs : s.size ≤ maxLen) :
    Calls Try.prog 112 #[.string s] w (Ret w (.tuple #[.int .i32 (nextL s.data.toList).1, .int .i64 ((nextL s.data.toList).2 : Nat)])) := by
  have hsz := size_toList s
  cases hl : s.data.toList with
  | nil => exact RNext_nil s w (by rw [ByteArray.toList_eq, hl]; rfl)
  | cons b t =>
    have hp : 0 < s.size := by rw [← hsz, hl]; simp
    have hne : s.toList.isEmpty = false := by rw [ByteArray.toList_eq, hl]; rfl
    have he := get0_of s b t hl hp
    have hlen : t.length + 1 = s.size := by rw [← hsz, hl]; rfl
    have hb256 : (b.toNat : Int) < 256 := by have := b.toNat_lt; omega
    have hx0 : ∀ n, (s.extract 0 (n + 1)).toList = b :: t.take n := fun n => by
      rw [ByteArray.toList_eq, Lib.extract_data, hl]; rfl
    have hmx : ∀ n k x, (t.take n)[k]? = some x → s.data.toList[k + 1]? = some x := fun n k x h => by
      rw [hl, List.getElem?_cons_succ]
      rw [List.getElem?_take] at h
      split at h
      · exact h
      · cases h
    have hv := rnext_eq b t
    have hbd := fun (n : Nat) (hn : (t.take n).length + 1 ≤ rN b.toNat) => foldR_bd b.toNat (by omega) (t.take n) hb256 hn
    generalize hV : nextL (b :: t) = V at *
    rcases (by omega : (b.toNat : Int) < 192 ∨ (192 ≤ (b.toNat : Int) ∧ (b.toNat : Int) < 224) ∨ (224 ≤ (b.toNat : Int) ∧ (b.toNat : Int) < 240) ∨ (240 ≤ (b.toNat : Int) ∧ (b.toNat : Int) < 248) ∨ 248 ≤ (b.toNat : Int)) with h | ⟨h, h'⟩ | ⟨h, h'⟩ | ⟨h, h'⟩ | h
    · have e1 : rN b.toNat = 1 := by unfold rN; repeat (first | rw [if_pos (by omega)] | rw [if_neg (by omega)])
      have e2 : rC b.toNat = (b.toNat : Int) := by unfold rC; repeat (first | rw [if_pos (by omega)] | rw [if_neg (by omega)])
      rw [e1, e2] at hv
      rw [e1, e2] at hbd
      by_cases hlt : t.length + 1 < 1
      · omega
      · rw [if_neg hlt] at hv
        have hml : (t.take 0).length = 0 := by rw [List.length_take]; omega
        exact RNext_good_a s w b _ (t.take 0) hs hp hne he h rfl (by omega) hml (hx0 0) (hmx 0) (hbd 0 (by omega)) V hv.symm
    · have e1 : rN b.toNat = 2 := by unfold rN; repeat (first | rw [if_pos (by omega)] | rw [if_neg (by omega)])
      have e2 : rC b.toNat = (b.toNat : Int) - 192 := by unfold rC; repeat (first | rw [if_pos (by omega)] | rw [if_neg (by omega)])
      rw [e1, e2] at hv
      rw [e1, e2] at hbd
      by_cases hlt : t.length + 1 < 2
      · rw [if_pos hlt] at hv
        rw [← hv]
        exact RNext_short_b s w b hs hp hne he h h' (by omega)
      · rw [if_neg hlt] at hv
        have hml : (t.take 1).length = 1 := by rw [List.length_take]; omega
        exact RNext_good_b s w b _ (t.take 1) hs hp hne he h h' rfl (by omega) hml (hx0 1) (hmx 1) (hbd 1 (by omega)) V hv.symm
    · have e1 : rN b.toNat = 3 := by unfold rN; repeat (first | rw [if_pos (by omega)] | rw [if_neg (by omega)])
      have e2 : rC b.toNat = (b.toNat : Int) - 224 := by unfold rC; repeat (first | rw [if_pos (by omega)] | rw [if_neg (by omega)])
      rw [e1, e2] at hv
      rw [e1, e2] at hbd
      by_cases hlt : t.length + 1 < 3
      · rw [if_pos hlt] at hv
        rw [← hv]
        exact RNext_short_c s w b hs hp hne he h h' (by omega)
      · rw [if_neg hlt] at hv
        have hml : (t.take 2).length = 2 := by rw [List.length_take]; omega
        exact RNext_good_c s w b _ (t.take 2) hs hp hne he h h' rfl (by omega) hml (hx0 2) (hmx 2) (hbd 2 (by omega)) V hv.symm
    · have e1 : rN b.toNat = 4 := by unfold rN; repeat (first | rw [if_pos (by omega)] | rw [if_neg (by omega)])
      have e2 : rC b.toNat = (b.toNat : Int) - 240 := by unfold rC; repeat (first | rw [if_pos (by omega)] | rw [if_neg (by omega)])
      rw [e1, e2] at hv
      rw [e1, e2] at hbd
      by_cases hlt : t.length + 1 < 4
      · rw [if_pos hlt] at hv
        rw [← hv]
        exact RNext_short_d s w b hs hp hne he h h' (by omega)
      · rw [if_neg hlt] at hv
        have hml : (t.take 3).length = 3 := by rw [List.length_take]; omega
        exact RNext_good_d s w b _ (t.take 3) hs hp hne he h h' rfl (by omega) hml (hx0 3) (hmx 3) (hbd 3 (by omega)) V hv.symm
    · have e1 : rN b.toNat = 1 := by unfold rN; repeat (first | rw [if_pos (by omega)] | rw [if_neg (by omega)])
      have e2 : rC b.toNat = (b.toNat : Int) := by unfold rC; repeat (first | rw [if_pos (by omega)] | rw [if_neg (by omega)])
      rw [e1, e2] at hv
      rw [e1, e2] at hbd
      by_cases hlt : t.length + 1 < 1
      · omega
      · rw [if_neg hlt] at hv
        have hml : (t.take 0).length = 0 := by rw [List.length_take]; omega
        exact RNext_good_e s w b _ (t.take 0) hs hp hne he h rfl (by omega) hml (hx0 0) (hmx 0) (hbd 0 (by omega)) V hv.symm
end Go.Proofs.Ythifddkmbjnncaa

/-
  The plain law of references and of what is undone: no program in sight.
-/
namespace Go.Proofs.Ythifddkmbjnncaa

def digitV (base x : Int) : Int :=
  if 48 ≤ x ∧ x ≤ 57 then x - 48
  else if base = 16 ∧ 97 ≤ x ∧ x ≤ 102 then x - 87
  else if base = 16 ∧ 65 ≤ x ∧ x ≤ 70 then x - 55
  else -1

theorem digitV_bd (base x : Int) : -1 ≤ digitV base x ∧ digitV base x < 16 := by
  unfold digitV
  repeat (first | split | omega)
theorem digitV_10 (x : Int) : digitV 10 x < 10 := by
  unfold digitV
  repeat (first | split | omega)

/-- the digits of a number: how many were read, its value so far -/
def scanL (base : Int) : Nat → Int → List UInt8 → Option (Int × Nat)
  | _, _, [] => none
  | k, c, x :: r => if x = 59 ∧ 0 < k then some (c, k) else if digitV base x.toNat < 0 ∨ 7 ≤ k then none else scanL base (k + 1) (c * base + digitV base x.toNat) r

def pre (p l : List UInt8) : Bool := l.take p.length == p

def pick (n : Nat) : Option (Int × Nat) → Int × Nat
  | some (c, k) => (c, n + k + 1)
  | none => (0, 0)

/-- the reference that a text begins with: its number, how many bytes it has -/
def refL (l : List UInt8) : Int × Nat :=
  if pre [38, 97, 109, 112, 59] l then (38, 5)
  else if pre [38, 108, 116, 59] l then (60, 4)
  else if pre [38, 103, 116, 59] l then (62, 4)
  else if pre [38, 113, 117, 111, 116, 59] l then (34, 6)
  else if pre [38, 97, 112, 111, 115, 59] l then (39, 6)
  else if pre [38, 35] l then
    if pre [38, 35, 120] l then pick 3 (scanL 16 0 0 (l.drop 3)) else pick 2 (scanL 10 0 0 (l.drop 2))
  else (0, 0)

theorem pre_len {p l : List UInt8} (h : pre p l = true) : p.length ≤ l.length := by
  have := congrArg List.length (eq_of_beq h)
  rw [List.length_take] at this
  omega

theorem scanL_le (base : Int) : ∀ (l : List UInt8) (k : Nat) (c : Int) (q : Int × Nat), scanL base k c l = some q → q.2 < k + l.length ∧ q.2 ≤ 7 ∧ k ≤ q.2 ∨ q.2 = k ∧ q.2 < k + l.length := by
  intro l
  induction l with
  | nil => intro k c q h; simp [scanL] at h
  | cons x r ih =>
    intro k c q h
    simp only [scanL] at h
    split at h
    · injection h with h; subst h; right; simp
    · split at h
      · cases h
      · rename_i hk
        rcases ih _ _ _ h with h' | h'
        · left; simp only [List.length_cons]; omega
        · left; simp only [List.length_cons]; omega

theorem refL_le (l : List UInt8) : (refL l).2 ≤ l.length := by
  unfold refL
  have key : ∀ (n : Nat) (base : Int), n ≤ l.length → (pick n (scanL base 0 0 (l.drop n))).2 ≤ l.length := fun n base hn => by
    cases h : scanL base 0 0 (l.drop n) with
    | none => simp [pick]
    | some q =>
      have := scanL_le base _ _ _ _ h
      rw [List.length_drop] at this
      simp only [pick]; omega
  split
  · rename_i h; exact pre_len h
  split
  · rename_i h; exact pre_len h
  split
  · rename_i h; exact pre_len h
  split
  · rename_i h; exact pre_len h
  split
  · rename_i h; exact pre_len h
  split
  · rename_i h
    split
    · rename_i h'; exact key 3 16 (pre_len h')
    · exact key 2 10 (pre_len h)
  · simp

/-- one step of what is undone: an error's number, or bytes and how many were read -/
def stepL (v : Bool) (l : List UInt8) : Int ⊕ (List UInt8 × Nat) :=
  let q := nextL l
  if 0 < q.2 ∧ (q.1 = 60 ∨ q.1 = 62) then .inl 20
  else if q.2 = 0 ∨ q.1 = 13 ∨ (v = true ∧ (q.1 = 34 ∨ q.1 = 9 ∨ q.1 = 10)) then .inl 21
  else
    let r := if q.1 = 38 then refL l else q
    if r.2 = 0 then .inl 20 else if charB r.1 = false then .inl 21 else .inr (putF r.1, r.2)

theorem stepL_pos {v : Bool} {l t : List UInt8} {n : Nat} (h : stepL v l = .inr (t, n)) : 1 ≤ n ∧ n ≤ l.length ∧ t.length ≤ 4 := by
  simp only [stepL] at h
  split at h
  · cases h
  split at h
  · cases h
  have hr : (if (nextL l).fst = 38 then refL l else nextL l).2 ≤ l.length := by
    split
    · exact refL_le l
    · exact (nextL_le l).1
  generalize (if (nextL l).fst = 38 then refL l else nextL l) = r at h hr
  split at h
  · cases h
  split at h
  · cases h
  · injection h with h
    injection h with ht hn
    exact ⟨by omega, by omega, by rw [← ht]; exact putF_len _⟩

/-- what is undone, with fuel: the text, the place, the error's number (0: none) -/
def undoF (v : Bool) : Nat → List UInt8 → List UInt8 × Nat × Int
  | 0, _ => ([], 0, 0)
  | f + 1, l =>
    if l = [] then ([], 0, 0)
    else match stepL v l with
      | .inl e => ([], 0, e)
      | .inr (t, n) =>
        let r := undoF v f (l.drop n)
        if r.2.2 = 0 then (t ++ r.1, n + r.2.1, 0) else ([], n + r.2.1, r.2.2)

theorem undoF_more (v : Bool) (f : Nat) : ∀ (l : List UInt8) (g : Nat), l.length ≤ f → l.length ≤ g → undoF v f l = undoF v g l := by
  induction f with
  | zero =>
    intro l g h _
    obtain rfl : l = [] := List.eq_nil_of_length_eq_zero (by omega)
    cases g <;> simp [undoF]
  | succ f ih =>
    intro l g h h'
    by_cases hl : l = []
    · subst hl; cases g <;> simp [undoF]
    · have hp : 0 < l.length := List.length_pos_iff.2 hl
      obtain ⟨g, rfl⟩ : ∃ g', g = g' + 1 := ⟨g - 1, by omega⟩
      simp only [undoF, if_neg hl]
      cases hs : stepL v l with
      | inl e => rfl
      | inr q =>
        obtain ⟨t, n⟩ := q
        have := stepL_pos hs
        simp only
        rw [ih (l.drop n) g (by rw [List.length_drop]; omega) (by rw [List.length_drop]; omega)]

def undoL (v : Bool) (l : List UInt8) : List UInt8 × Nat × Int := undoF v l.length l

/-- what stands ahead, and what comes behind -/
def joinU (acc : List UInt8) (at_ : Nat) (r : List UInt8 × Nat × Int) : List UInt8 × Nat × Int :=
  if r.2.2 = 0 then (acc ++ r.1, at_ + r.2.1, 0) else ([], at_ + r.2.1, r.2.2)

theorem undoL_nil (v : Bool) : undoL v [] = ([], 0, 0) := rfl
theorem undoL_bad (v : Bool) (l : List UInt8) (h : l ≠ []) (e : Int) (hs : stepL v l = .inl e) : undoL v l = ([], 0, e) := by
  unfold undoL
  have hp : 0 < l.length := List.length_pos_iff.2 h
  obtain ⟨f, hf⟩ : ∃ f, l.length = f + 1 := ⟨l.length - 1, by omega⟩
  rw [hf]
  simp only [undoF, if_neg h, hs]
theorem undoL_step (v : Bool) (l : List UInt8) (h : l ≠ []) (t : List UInt8) (n : Nat) (hs : stepL v l = .inr (t, n)) : undoL v l = joinU t n (undoL v (l.drop n)) := by
  unfold undoL joinU
  have hp : 0 < l.length := List.length_pos_iff.2 h
  obtain ⟨f, hf⟩ : ∃ f, l.length = f + 1 := ⟨l.length - 1, by omega⟩
  have := stepL_pos hs
  rw [hf]
  simp only [undoF, if_neg h, hs]
  rw [undoF_more v f (l.drop n) (l.drop n).length (by rw [List.length_drop]; omega) (Nat.le_refl _)]

theorem joinU_nil (r : List UInt8 × Nat × Int) (h : r.2.2 ≠ 0 → r.1 = []) : joinU [] 0 r = r := by
  obtain ⟨a, b, c⟩ := r
  unfold joinU
  by_cases hc : c = 0
  · subst hc; simp
  · have ha : a = [] := h hc
    subst ha; simp [hc]
theorem joinU_join (a b : List UInt8) (m n : Nat) (r : List UInt8 × Nat × Int) : joinU a m (joinU b n r) = joinU (a ++ b) (m + n) r := by
  obtain ⟨x, y, z⟩ := r
  unfold joinU
  by_cases hz : z = 0
  · subst hz; simp; omega
  · simp [hz]; omega

theorem undoF_shape (v : Bool) (f : Nat) : ∀ l, (undoF v f l).2.2 ≠ 0 → (undoF v f l).1 = [] := by
  induction f with
  | zero => intro l h; rfl
  | succ f ih =>
    intro l h
    simp only [undoF] at h ⊢
    split
    · rfl
    · rename_i hl
      rw [if_neg hl] at h
      cases hs : stepL v l with
      | inl e => rfl
      | inr q =>
        obtain ⟨t, n⟩ := q
        simp only [hs] at h ⊢
        by_cases hr : (undoF v f (l.drop n)).2.2 = 0
        · simp [hr] at h
        · simp [hr]
theorem undoL_shape (v : Bool) (l : List UInt8) : (undoL v l).2.2 ≠ 0 → (undoL v l).1 = [] := undoF_shape v _ l
end Go.Proofs.Ythifddkmbjnncaa

/-
  The walks of the document's All, escaped, Text and Value.
-/
namespace Go.Proofs.Ythifddkmbjnncaa
open Go.RowKit

theorem infoRune : (Try.prog.info? 21).map (fun i => (i.zero, i.size, i.bytes)) = some (some (.int .i32 0), 1, 4) := by kernel_rfl

theorem RNext_as (s : ByteArray) (w : World) (hs : s.size ≤ maxLen) (c : Int) (n : Nat) (h : Hid (nextL s.data.toList = (c, n))) :
    Calls Try.prog 112 #[.string s] w (Ret w (.tuple #[.int .i32 c, .int .i64 (n : Nat)])) := by
  have := RNext_any s w hs
  rw [h.out] at this
  exact this

/-- A list of numbers of the call's own. -/
def OwnRunes (w w' : World) (v : Value) (cs : List Int) : Prop := w'.ownsRow w.heap.size 21 1 v cs.length (cs.map (Value.int .i32))
def AllPost (w : World) (r : Option (List Int)) (e : Ending) (w' : World) : Prop :=
  ∃ ad c, e = .returned (.tuple #[.slice ad (r.getD []).length c, .bool r.isSome]) ∧ OwnRunes w w' (.slice ad (r.getD []).length c) (r.getD []) ∧ Below w.heap.size w w'

set_option maxRecDepth 100000 in
set_option maxHeartbeats 1000000 in
theorem RAll_any (s : ByteArray) (w : World) (hs : s.size ≤ 1000000000) :
    Calls Try.prog 108 #[.string s] w (AllPost w (charsL s.data.toList)) := by
  go_enter Try.func108, Try.ntmps108
  go_wp2_with fail
  go_loopw [0, 4] (fun sv v wr => ∃ (t : ByteArray) (acc : List Int) (ad : Option Addr) (cp : Nat), sv = .string t ∧ v = .slice ad acc.length cp ∧ t.size ≤ s.size ∧ Hid (charsL s.data.toList = (charsL t.data.toList).map (acc ++ ·)) ∧ acc.length + t.size ≤ s.size ∧
      wr.ownsRow w.heap.size 21 1 (.slice ad acc.length cp) acc.length (acc.map (Value.int .i32)) ∧ Below w.heap.size w wr) (fun sv _ _ => (strOf sv).size)
  case atStart =>
    refine ⟨s, [], none, 0, rfl, rfl, Nat.le_refl _, ?_, by simp, World.ownsRow_nil _ _ _ _, Below.refl _ _⟩
    show _ = _
    cases charsL s.data.toList <;> simp
  case round =>
    obtain ⟨t, acc, ad, cp, rfl, rfl, hts, hesc, hal, hown, hbel⟩ := hrel
    have hwz := hbel.size
    have hl := size_toList t
    by_cases he : t.toList.isEmpty = true
    · have hnil : t.data.toList = [] := by rw [ByteArray.toList_eq] at he; simpa using he
      have hv : Hid (charsL s.data.toList = some acc) := by
        show _ = _
        rw [hesc.out, hnil, charsL_nil]; simp
      go_wp2_with fail
      go_ret2
      refine ⟨ad, cp, ?_, ?_, hbel⟩
      · rw [hv.out]; rfl
      · rw [hv.out]; exact hown
    · have hne : t.toList.isEmpty = false := by simpa using he
      clear he
      have hnn : Hid (t.data.toList ≠ []) := by
        intro h
        rw [ByteArray.toList_eq, h] at hne
        cases hne
      obtain ⟨c, n, hq⟩ : ∃ c n, Hid (nextL t.data.toList = (c, n)) := ⟨_, _, rfl⟩
      have hle := nextL_le t.data.toList
      rw [hq.out] at hle
      obtain ⟨hn1, hn4⟩ := hle
      rw [hl] at hn1
      simp only at hn1 hn4
      by_cases hn : n = 0
      · have hv : Hid (charsL s.data.toList = none) := by
          show _ = _
          rw [hesc.out, charsL_bad _ hnn.out (by rw [hq.out]; exact hn)]; rfl
        have hn0 : ((n : Int) == 0) = true := by simp [hn]
        clear hn
        go_wp2_with (go_at_call 112; refine (RNext_as t wr (by unfold maxLen; omega) c n hq).mono ?_; rintro e w2 ⟨rfl, hb2⟩)
        go_ret2
        refine ⟨none, 0, ?_, ?_, hbel.trans (hb2.mono (by omega))⟩
        · rw [hv.out]; rfl
        · rw [hv.out]; exact World.ownsRow_nil _ _ _ _
      · have hn0 : ((n : Int) == 0) = false := by simp [hn]
        have hesc' := charsL_step t.data.toList hnn.out (by rw [hq.out]; exact hn)
        rw [hq.out] at hesc'
        have HS := Lib.hid hesc'
        clear hesc'
        have hnp : 1 ≤ n := by omega
        clear hn
        go_wp2_with fail
        refine (RNext_as t wr (by unfold maxLen; omega) c n hq).mono ?_
        rintro e w2 ⟨rfl, hb2⟩
        have hz2 := hb2.size
        have hown2 := own_below hown hb2
        go_wp2_with (at_builtin; refine append1 rfl (.tmp 16) (.tmp 18) 130 rfl w.heap.size 21 (.int .i32 0) 4 Try.underlying130 infoRune rfl _ _ _ (.int .i32 c) rfl hown2 (by omega) _ rfl (by simp) rfl (by omega) (by omega) ?_)
        intro g cp2 w3 hown3 hb3 hz3
        go_wp2
        go_roundw
        case rel =>
          have hx : (t.extract n t.size).data.toList = t.data.toList.drop n := Lib.extract_to_end t n
          have hxs : (t.extract n t.size).size = t.size - n := by simp
          refine ⟨t.extract n t.size, acc ++ [c], some ⟨g, 0, none⟩, cp2, rfl, ?_, by omega, ?_, ?_, ?_, ?_⟩
          · rw [List.length_append]; rfl
          · show _ = _
            rw [hesc.out, HS.out, hx]
            cases charsL (t.data.toList.drop n) <;> simp
          · rw [List.length_append, hxs]; simp; omega
          · rw [List.length_append, List.map_append]; exact hown3
          · exact (hbel.trans (hb2.mono (by omega))).trans hb3
        case measure =>
          have hxs : (t.extract n t.size).size = t.size - n := by simp
          show (t.extract n t.size).size < t.size
          omega

theorem charsF_len (f : Nat) : ∀ l cs, charsF f l = some cs → cs.length ≤ l.length := by
  induction f with
  | zero =>
    intro l cs h
    simp only [charsF] at h
    split at h
    · injection h with h; subst h; simp
    · cases h
  | succ f ih =>
    intro l cs h
    simp only [charsF] at h
    split at h
    · injection h with h; subst h; simp
    · split at h
      · cases h
      · rename_i hl hn
        cases hr : charsF f (l.drop (nextL l).2) with
        | none => rw [hr] at h; cases h
        | some ds =>
          rw [hr] at h
          injection h with h
          subst h
          have := ih _ _ hr
          have := (nextL_le l).1
          rw [List.length_drop] at *
          simp only [List.length_cons]; omega
theorem charsL_len (l : List UInt8) (cs : List Int) (h : charsL l = some cs) : cs.length ≤ l.length := charsF_len _ l cs h

end Go.Proofs.Ythifddkmbjnncaa

/-
  The walks of glyph.each without conditions, glyph.Count, ref01.Count, parse.chars, ref04.chars.
-/
namespace Go.Proofs.Ythifddkmbjnncaa
open Go.RowKit

set_option maxRecDepth 100000 in
set_option maxHeartbeats 1000000 in
theorem each_none (s : ByteArray) (w : World) (hs : s.size ≤ maxLen) :
    Calls Try.prog 44 #[.string s, .slice none 0 0] w (Ret w (.int .i64 (countL s.data.toList))) := by
  unfold maxLen at hs
  go_enter Try.func44, Try.ntmps44
  go_wp2_with fail
  go_loopw [0, 5] (fun sv mv wr => ∃ (t : ByteArray) (k : Nat), sv = .string t ∧ mv = .int .i64 k ∧ k + t.size ≤ s.size ∧ Hid (charsL s.data.toList = none ↔ charsL t.data.toList = none) ∧ Hid (∀ cs, charsL t.data.toList = some cs → countL s.data.toList = k + cs.length) ∧ Below w.heap.size w wr) (fun sv _ _ => (strOf sv).size)
  case atStart =>
    refine ⟨s, 0, rfl, rfl, by omega, Iff.rfl, ?_, Below.refl _ _⟩
    intro cs hcs
    unfold countL; rw [hcs]; simp
  case round =>
    obtain ⟨t, k, rfl, rfl, hkt, hno, hyes, hbel⟩ := hrel
    have hwr := hbel.size
    have HL := Lib.hid (size_toList t)
    by_cases he : t.toList.isEmpty = true
    · have hnil : t.data.toList = [] := by rw [ByteArray.toList_eq] at he; simpa using he
      have hv : Hid (countL s.data.toList = k) := by
        have := hyes.out [] (by rw [hnil]; rfl)
        show _ = _
        rw [this]; simp
      clear hnil
      go_wp2_with fail
      go_ret
      exact ⟨by rw [hv.out]; rfl, hbel⟩
    · have hne : t.toList.isEmpty = false := by simpa using he
      clear he
      have hnn : Hid (t.data.toList ≠ []) := by
        intro h
        rw [ByteArray.toList_eq, h] at hne
        cases hne
      obtain ⟨c, n, hq⟩ : ∃ c n, Hid (nextL t.data.toList = (c, n)) := ⟨_, _, rfl⟩
      have hle := nextL_le t.data.toList
      rw [hq.out, HL.out] at hle
      obtain ⟨hn1, hn4⟩ := hle
      simp only at hn1 hn4
      by_cases hn : n = 0
      · have hv : Hid (countL s.data.toList = -1) := by
          have := hno.out.2 (charsL_bad _ hnn.out (by rw [hq.out]; exact hn))
          show _ = _
          unfold countL; rw [this]
        have hn0 : ((n : Int) == 0) = true := by simp [hn]
        clear hn
        go_wp2_with (go_at_call 77; refine (Next_as t wr (by unfold maxLen; omega) c n hq).mono ?_; rintro e w2 ⟨rfl, hb2⟩)
        go_ret
        exact ⟨by rw [hv.out]; rfl, hbel.trans (hb2.mono (by omega))⟩
      · have hn0 : ((n : Int) == 0) = false := by simp [hn]
        have hst := charsL_step t.data.toList hnn.out (by rw [hq.out]; exact hn)
        rw [hq.out] at hst
        have HS := Lib.hid hst
        clear hst
        have hnp : 1 ≤ n := by omega
        clear hn
        go_wp2_with fail
        refine (Next_as t wr (by unfold maxLen; omega) c n hq).mono ?_
        rintro e w2 ⟨rfl, hb2⟩
        obtain ⟨wo, rfl⟩ : ∃ wo : World, wo = wr := ⟨_, rfl⟩
        go_wp2_with fail
        refine wp_loop_rounds 1 ?_
        rw [rounds_succ]
        go_wp2_with fail
        go_roundw
        case rel =>
          have hx : (t.extract n t.size).data.toList = t.data.toList.drop n := Lib.extract_to_end t n
          have hxs : (t.extract n t.size).size = t.size - n := by simp
          refine ⟨t.extract n t.size, k + 1, rfl, by go_num, by omega, ?_, ?_, hbel.trans (hb2.mono (by omega))⟩
          · show _ ↔ _
            rw [hno.out, HS.out, hx]
            cases charsL (t.data.toList.drop n) <;> simp
          · intro cs hcs
            rw [hx] at hcs
            have := hyes.out (c :: cs) (by rw [HS.out, hcs]; rfl)
            rw [this, List.length_cons]; omega
        case measure =>
          have hxs : (t.extract n t.size).size = t.size - n := by simp
          show (t.extract n t.size).size < t.size
          omega

theorem Count_any (s : ByteArray) (w : World) (hs : s.size ≤ maxLen) :
    Calls Try.prog 22 #[.string s] w (Ret w (.int .i64 (countL s.data.toList))) := by
  go_enter Try.func22, Try.ntmps22
  go_wp2_with (go_at_call 44; refine (each_none s _ hs).mono ?_; rintro e w2 ⟨rfl, hb2⟩)
  go_ret
  exact ⟨rfl, hb2⟩

theorem Count_as (s : ByteArray) (w : World) (hs : s.size ≤ maxLen) (n : Int) (h : Hid (countL s.data.toList = n)) :
    Calls Try.prog 22 #[.string s] w (Ret w (.int .i64 n)) := by
  have := Count_any s w hs
  rw [h.out] at this
  exact this


set_option maxRecDepth 100000 in
set_option maxHeartbeats 1000000 in
theorem RCount_as (s : ByteArray) (w : World) (hs : s.size ≤ 1000000000) (n : Int) (h : Hid (countL s.data.toList = n)) :
    Calls Try.prog 132 #[.string s] w (Ret w (.int .i64 n)) := by
  obtain ⟨r, hr⟩ : ∃ r, Hid (charsL s.data.toList = r) := ⟨_, rfl⟩
  have hn := h.out
  unfold countL at hn
  rw [hr.out] at hn
  subst hn
  cases r with
  | none =>
    go_enter Try.func132, Try.ntmps132
    go_wp2_with fail
    refine (RAll_any s w hs).mono ?_
    rw [hr.out]
    rintro e w2 ⟨ad, cp, rfl, hown, hb2⟩
    clear hown
    go_wp2_with fail
    go_ret
    exact ⟨rfl, hb2⟩
  | some cs =>
    go_enter Try.func132, Try.ntmps132
    go_wp2_with fail
    refine (RAll_any s w hs).mono ?_
    rw [hr.out]
    rintro e w2 ⟨ad, cp, rfl, hown, hb2⟩
    clear hown
    go_wp2_with fail
    go_ret
    exact ⟨rfl, hb2⟩

set_option maxRecDepth 100000 in
set_option maxHeartbeats 1000000 in
theorem chars_as (s : ByteArray) (w : World) (hs : s.size ≤ maxLen) (n : Int) (h : Hid (charsE s.data.toList = n)) :
    Calls Try.prog 82 #[.string s] w (Ret w (.int .i64 n)) := by
  obtain ⟨c, hc⟩ : ∃ c, Hid (countL s.data.toList = c) := ⟨_, rfl⟩
  have hn := h.out
  unfold charsE at hn
  rw [hc.out, size_toList] at hn
  by_cases h1 : c < 0
  · have hv : Hid (n = 64) := by show _ = _; rw [← hn, if_pos h1]
    clear hn
    go_enter Try.func82, Try.ntmps82
    go_wp2_with (go_at_call 22; refine (Count_as s _ hs _ hc).mono ?_; rintro e w2 ⟨rfl, hb2⟩)
    go_ret
    exact ⟨by rw [hv.out]; rfl, hb2⟩
  · rw [if_neg h1] at hn
    by_cases h2 : 1500 < s.size
    · have hv : Hid (n = 67) := by show _ = _; rw [← hn, if_pos h2]
      have h2' : (1500 : Int) < s.size := by omega
      clear hn h2
      go_enter Try.func82, Try.ntmps82
      go_wp2_with (go_at_call 22; refine (Count_as s _ hs _ hc).mono ?_; rintro e w2 ⟨rfl, hb2⟩)
      go_ret
      exact ⟨by rw [hv.out]; rfl, hb2⟩
    · have hv : Hid (n = 0) := by show _ = _; rw [← hn, if_neg h2]
      have h2' : (s.size : Int) ≤ 1500 := by omega
      clear hn h2
      go_enter Try.func82, Try.ntmps82
      go_wp2_with (go_at_call 22; refine (Count_as s _ hs _ hc).mono ?_; rintro e w2 ⟨rfl, hb2⟩)
      go_ret
      exact ⟨by rw [hv.out]; rfl, hb2⟩

set_option maxRecDepth 100000 in
set_option maxHeartbeats 1000000 in
theorem rchars_as (s : ByteArray) (w : World) (hs : s.size ≤ 1000000000) (n : Int) (h : Hid (charsE s.data.toList = n)) :
    Calls Try.prog 104 #[.string s] w (Ret w (.int .i64 n)) := by
  obtain ⟨c, hc⟩ : ∃ c, Hid (countL s.data.toList = c) := ⟨_, rfl⟩
  have hn := h.out
  unfold charsE at hn
  rw [hc.out, size_toList] at hn
  by_cases h1 : c < 0
  · have hv : Hid (n = 64) := by show _ = _; rw [← hn, if_pos h1]
    clear hn
    go_enter Try.func104, Try.ntmps104
    go_wp2_with (go_at_call 132; refine (RCount_as s _ hs _ hc).mono ?_; rintro e w2 ⟨rfl, hb2⟩)
    go_ret
    exact ⟨by rw [hv.out]; rfl, hb2⟩
  · rw [if_neg h1] at hn
    by_cases h2 : 1500 < s.size
    · have hv : Hid (n = 67) := by show _ = _; rw [← hn, if_pos h2]
      have h2' : (1500 : Int) < s.size := by omega
      clear hn h2
      go_enter Try.func104, Try.ntmps104
      go_wp2_with (go_at_call 132; refine (RCount_as s _ hs _ hc).mono ?_; rintro e w2 ⟨rfl, hb2⟩)
      go_ret
      exact ⟨by rw [hv.out]; rfl, hb2⟩
    · have hv : Hid (n = 0) := by show _ = _; rw [← hn, if_neg h2]
      have h2' : (s.size : Int) ≤ 1500 := by omega
      clear hn h2
      go_enter Try.func104, Try.ntmps104
      go_wp2_with (go_at_call 132; refine (RCount_as s _ hs _ hc).mono ?_; rintro e w2 ⟨rfl, hb2⟩)
      go_ret
      exact ⟨by rw [hv.out]; rfl, hb2⟩
end Go.Proofs.Ythifddkmbjnncaa

/-
  The walk of parse.names.
-/
namespace Go.Proofs.Ythifddkmbjnncaa
open Go.RowKit

theorem Name_l (s : List UInt8) (w : World) (hs : s.length ≤ 1000000000) (r : Bool) (hr : Hid (nameL s = r)) :
    Calls Try.prog 21 #[.string ⟨s.toArray⟩] w (Ret w (.bool r)) := Name_any _ w (by show s.toArray.size ≤ maxLen; unfold maxLen; simp; omega) r hr
theorem chars_l (s : List UInt8) (w : World) (hs : s.length ≤ 1000000000) (n : Int) (h : Hid (charsE s = n)) :
    Calls Try.prog 82 #[.string ⟨s.toArray⟩] w (Ret w (.int .i64 n)) := chars_as _ w (by show s.toArray.size ≤ maxLen; unfold maxLen; simp; omega) n h
theorem rchars_l (s : List UInt8) (w : World) (hs : s.length ≤ 1000000000) (n : Int) (h : Hid (charsE s = n)) :
    Calls Try.prog 104 #[.string ⟨s.toArray⟩] w (Ret w (.int .i64 n)) := rchars_as _ w (by show s.toArray.size ≤ _; simp; omega) n h

set_option maxRecDepth 100000 in
set_option maxHeartbeats 2000000 in
theorem names_any (x : ItemD) (A : Option Addr) (c : Nat) (w : World) (hA : AttrsAt w w.heap.size A x.attrs) (hs : SmallItem x) (V : Int) (hV : Hid (namesE x = V)) :
    Calls Try.prog 83 #[.agg (itemVal x A c)] w (Ret w (.int .i64 V)) := by
  obtain ⟨hs1, hs2, hs3, hs4, hs5⟩ := hs
  have HS4 := Lib.hid hs4
  have HA := Lib.hid hA
  clear hs4 hA hs5
  have hV' := hV.out
  unfold namesE at hV'
  clear hV
  unfold itemVal strV
  cases hn : nameL x.name with
  | false =>
    have HN : Hid (nameL x.name = false) := hn
    have hv : Hid (V = 63) := by show _ = _; rw [← hV', hn]; rfl
    clear hV' hn
    go_enter Try.func83, Try.ntmps83
    go_wp2_with fail
    refine (Name_l _ _ hs1 _ HN).mono ?_; rintro e w2 ⟨rfl, hb2⟩
    go_wp2_with fail
    go_ret
    exact ⟨by rw [hv.out]; rfl, ((Below.refl _ w).alloc (Nat.le_refl _) _).trans (hb2.mono (by simp))⟩
  | true =>
    have HN : Hid (nameL x.name = true) := hn
    rw [hn, Bool.true_and] at hV'
    clear hn
    obtain ⟨R, hR⟩ : ∃ R, Hid (attrNames [] x.attrs = R) := ⟨_, rfl⟩
    rw [hR.out] at hV'
    have HV := Lib.hid hV'
    clear hV'
    go_enter Try.func83, Try.ntmps83
    go_wp2_with fail
    obtain ⟨w1, hw1⟩ : ∃ w1, Hid (w1 = w.alloc (.cells #[.int .i64 x.level, .int .i64 x.kind, .string ⟨x.name.toArray⟩, .string ⟨x.text.toArray⟩, .slice A x.attrs.length c] 50)) := ⟨_, rfl⟩
    have hbw1 : Below w.heap.size w w1 := by rw [hw1.out]; exact (Below.refl _ w).alloc (Nat.le_refl _) _
    have hz1 : w.heap.size < w1.heap.size := by rw [hw1.out]; simp
    have hcell1 : Hid (w1.cell? ⟨w.heap.size, 4, none⟩ = some (.slice A x.attrs.length c)) := by
      show _ = _
      rw [hw1.out, World.cell?_alloc_at _ _ _ _ (by simp)]; rfl
    rw [← hw1.out]
    refine (Name_l _ _ hs1 _ HN).mono ?_; rintro e w2 ⟨rfl, hb2⟩
    have hz2 := hb2.size
    have hc4 : w2.cell? ⟨w.heap.size, 4, none⟩ = some (.slice A x.attrs.length c) := by
      rw [hb2.cell (p := ⟨w.heap.size, 4, none⟩) hz1]; exact hcell1.out
    go_wp2_with fail
    go_loopw [3, 13] (fun last i wr => ∃ (k : Nat) (l : List UInt8), k ≤ x.attrs.length ∧ i = .int .i64 k ∧ last = .string ⟨l.toArray⟩ ∧ Hid (attrNames l (x.attrs.drop k) = R) ∧ Below w2.heap.size w2 wr) (fun _ i _ => x.attrs.length - (intOf i).toNat)
    case atStart => exact ⟨0, [], Nat.zero_le _, rfl, rfl, hR, Below.refl _ _⟩
    case round =>
      obtain ⟨k, l, hk, rfl, rfl, hin, hbel⟩ := hrel
      have hzr := hbel.size
      have hbwr : Below w.heap.size w wr := (hbw1.trans (hb2.mono (by omega))).trans (hbel.mono (by omega))
      by_cases hlt : k < x.attrs.length
      · obtain ⟨a, ha⟩ : ∃ a, Hid (x.attrs[k]? = some a) := ⟨x.attrs[k], List.getElem?_eq_getElem _⟩
        obtain ⟨ad, hAd, hbl, hcs⟩ := (HA.out.below hbwr) (by omega)
        obtain ⟨hc0, hc1⟩ := hcs k a ha.out
        unfold strV at hc0 hc1
        clear hcs
        have hin' := hin.out
        rw [drop_cons ha.out, attrNames] at hin'
        have hnm := (HS4.out k a ha.out).1
        subst hAd
        have hlt' : (k : Int) < x.attrs.length := by omega
        cases hq : nameL a.name with
        | false =>
          have HQ : Hid (nameL a.name = false) := hq
          have hv : Hid (V = 63) := by
            show _ = _
            rw [hq] at hin'
            have hR' : R = false := hin'.symm
            rw [← HV.out, hR']; rfl
          clear hin' hq
          go_wp2_with fail
          refine (Name_l _ _ hnm _ HQ).mono ?_; rintro e w3 ⟨rfl, hb3⟩
          have hz3 := hb3.size
          simp only [World.size_alloc] at hz3
          go_wp2_with fail
          go_ret
          exact ⟨by rw [hv.out]; rfl, (hbwr.alloc (by omega) _).trans (hb3.mono (by simp; omega))⟩
        | true =>
          have HQ : Hid (nameL a.name = true) := hq
          rw [hq, Bool.true_and] at hin'
          clear hq
          have hcell3 : ∀ w3, Below (wr.alloc (Obj.cells #[Value.string ⟨a.name.toArray⟩, Value.string ⟨a.value.toArray⟩] 44)).heap.size (wr.alloc (Obj.cells #[Value.string ⟨a.name.toArray⟩, Value.string ⟨a.value.toArray⟩] 44)) w3 → w3.cell? ⟨wr.heap.size, 0, none⟩ = some (.string ⟨a.name.toArray⟩) := fun w3 hb3 => by
            rw [hb3.cell (p := ⟨wr.heap.size, 0, none⟩) (by simp), World.cell?_alloc_at _ _ _ _ (by simp)]; rfl
          have HC3 := Lib.hid hcell3
          clear hcell3
          obtain ⟨b1, hb1⟩ : ∃ b1, Op.bytesLess a.name l = b1 := ⟨_, rfl⟩
          obtain ⟨b2, hb2'⟩ : ∃ b2, (a.name == l) = b2 := ⟨_, rfl⟩
          have hle : leB a.name l = (b1 || b2) := by unfold leB; rw [hb1, hb2']
          rw [hle] at hin'
          clear hle
          cases hbb : (b1 || b2) with
          | true =>
            have hv : Hid (V = 63) := by
              show _ = _
              rw [hbb] at hin'
              have hR' : R = false := hin'.symm
              rw [← HV.out, hR']; rfl
            clear hin'
            go_wp2_with fail
            refine (Name_l _ _ hnm _ HQ).mono ?_; rintro e w3 ⟨rfl, hb3⟩
            have hz3 := hb3.size
            have hcell3 := HC3.out w3 hb3
            simp only [World.size_alloc] at hz3
            go_wp2_with fail
            go_ret
            exact ⟨by rw [hv.out]; rfl, (hbwr.alloc (by omega) _).trans (hb3.mono (by simp; omega))⟩
          | false =>
            rw [hbb] at hin'
            have hin2 : Hid (attrNames a.name (x.attrs.drop (k + 1)) = R) := hin'
            clear hin'
            go_wp2_with fail
            refine (Name_l _ _ hnm _ HQ).mono ?_; rintro e w3 ⟨rfl, hb3⟩
            have hz3 := hb3.size
            have hcell3 := HC3.out w3 hb3
            simp only [World.size_alloc] at hz3
            go_wp2_with fail
            go_roundw
            case rel => exact ⟨k + 1, a.name, by omega, by go_num, rfl, hin2, (hbel.alloc (by omega) _).trans (hb3.mono (by simp; omega))⟩
            case measure => simp [intOf]; omega
      · have hk' : k = x.attrs.length := by omega
        have hR' : R = true := by
          rw [← hin.out, List.drop_eq_nil_of_le (by omega)]; rfl
        have hv' := HV.out
        rw [hR'] at hv'
        subst hk'
        have hc4r : wr.cell? ⟨w.heap.size, 4, none⟩ = some (.slice A x.attrs.length c) := by
          rw [hbel.cell (p := ⟨w.heap.size, 4, none⟩) (by show w.heap.size < _; omega)]; exact hc4
        by_cases h20 : 20 < x.attrs.length
        · have hv : Hid (V = 67) := by show _ = _; rw [← hv', if_pos rfl, if_pos h20]
          have h20' : (20 : Int) < x.attrs.length := by omega
          clear hv' h20
          go_wp2_with fail
          go_ret
          exact ⟨by rw [hv.out]; rfl, hbwr⟩
        · have hv : Hid (V = 0) := by show _ = _; rw [← hv', if_pos rfl, if_neg h20]
          have h20' : (x.attrs.length : Int) ≤ 20 := by omega
          clear hv' h20
          go_wp2_with fail
          go_ret
          exact ⟨by rw [hv.out]; rfl, hbwr⟩
end Go.Proofs.Ythifddkmbjnncaa

/-
  The walks of scribe.tag and of ref05.tag.
-/
namespace Go.Proofs.Ythifddkmbjnncaa
open Go.RowKit

theorem strCells_bytes (s : ByteArray) : Lib.strCells s = Lib.byteCells s.data.toList := rfl

/-- (*strings.Builder).WriteString, with what it leaves alone. -/
theorem WriteK (B b : Nat) (bs : List Value) (s : ByteArray) (w : World) (h : Lib.IsBuilderF 80 5 B b bs w) (hlen : bs.length + s.size ≤ 140737488355328) (hBw : B ≤ w.heap.size) :
    Calls Try.prog 53 #[.pointer (some ⟨b, 0, none⟩), .string s] w fun e w' => e = .returned (.tuple #[.int .i64 s.size, .nilIface]) ∧ (Lib.BuilderAtF 80 5 B b (.pointer (some ⟨b, 0, none⟩)) (bs ++ Lib.strCells s) w' ∧ Below B w w' ∧ Lib.OthersKept 5 (some b) w w') := Any.Builder_WriteString_k Try.lays166 Try.Builder_Extra_166 B b bs s w h hlen hBw
theorem StringK (B b : Nat) (l : List UInt8) (w : World) (h : Lib.IsBuilderF 80 5 B b (Lib.byteCells l) w) (hBw : B ≤ w.heap.size) :
    Calls Try.prog 57 #[.pointer (some ⟨b, 0, none⟩)] w fun e w' => e = .returned (.string ⟨l.toArray⟩) ∧ (Lib.IsBuilderF 80 5 B b (Lib.byteCells l) w' ∧ Below B w w' ∧ Lib.OthersKept 5 (some b) w w') := Any.Builder_String_any_k Try.lays169 Try.Builder_Extra_169 B b l w h hBw

theorem Value_l (s : List UInt8) (w : World) (hs : s.length ≤ 1000000000) (o : List UInt8) (ho : Hid (escV s = o)) :
    Calls Try.prog 87 #[.string ⟨s.toArray⟩] w (Ret w (.tuple #[.string ⟨o.toArray⟩, .bool (escL true s).isSome])) := by
  have := Value_any ⟨s.toArray⟩ w (by show s.toArray.size ≤ _; simp; omega)
  rw [← ho.out]
  exact this
theorem Text_l (s : List UInt8) (w : World) (hs : s.length ≤ 1000000000) (o : List UInt8) (ho : Hid (escT s = o)) :
    Calls Try.prog 55 #[.string ⟨s.toArray⟩] w (Ret w (.tuple #[.string ⟨o.toArray⟩, .bool (escL false s).isSome])) := by
  have := Text_any ⟨s.toArray⟩ w (by show s.toArray.size ≤ _; simp; omega)
  rw [← ho.out]
  exact this
theorem builderF_below {T e : TypeId} {B b : Nat} {bs : List Value} {w w' : World} (h : Lib.IsBuilderF T e B b bs w) (hb : Below w.heap.size w w') : Lib.IsBuilderF T e B b bs w' := by
  have key : ∀ p, Lib.BuilderAtF T e B b p bs w → Lib.BuilderAtF T e B b p bs w' := fun p h => by
    obtain ⟨h1, v, h2, h3, h4⟩ := h
    refine ⟨h1, v, by rw [hb.block b (Array.getElem?_eq_some_iff.1 h2).1]; exact h2, ?_, h4⟩
    refine ⟨h3.1, ?_⟩
    rcases h3.2 with h | ⟨g, cap, cur, fz, k1, k2, k3, k4⟩
    · exact .inl h
    · exact .inr ⟨g, cap, cur, fz, k1, k2, by rw [hb.block g (Array.getElem?_eq_some_iff.1 k3).1]; exact k3, k4⟩
  rcases h with h | h
  · exact .inl (key _ h)
  · exact .inr (key _ h)

/-- The same bytes, whichever way they were put together. -/
theorem str_data {a : ByteArray} {l : List UInt8} (h : a.data.toList = l) : a = ⟨l.toArray⟩ := by
  obtain ⟨⟨x⟩⟩ := a
  simp at h
  subst h; rfl

set_option maxRecDepth 100000 in
set_option maxHeartbeats 2000000 in
theorem tag_any (x : ItemD) (A : Option Addr) (c : Nat) (w : World) (hA : AttrsAt w w.heap.size A x.attrs) (hs : SmallItem x) (T : List UInt8) (hT : Hid (tagL x = T)) (hTl : T.length ≤ 1000000000) :
    Calls Try.prog 56 #[.agg (itemVal x A c)] w (Ret w (.string ⟨T.toArray⟩)) := by
  obtain ⟨hs1, hs2, hs3, hs4, hs5⟩ := hs
  have HS4 := Lib.hid hs4
  have HA := Lib.hid hA
  clear hs4 hA hs5
  unfold itemVal strV
  go_enter Try.func56, Try.ntmps56
  have hpre := hT.out
  have htot : ∀ k, k ≤ x.attrs.length → ([60] ++ x.name ++ (x.attrs.take k).flatMap attrT) ++ (x.attrs.drop k).flatMap attrT = T := fun k _ => by
    rw [← hpre]
    unfold tagL
    rw [List.append_assoc, ← List.flatMap_append, List.take_append_drop]
  have HTOT := Lib.hid htot
  have hnl : x.name.length + 1 ≤ 1000000000 := by
    have := congrArg List.length (htot 0 (Nat.zero_le _))
    simp at this; omega
  clear hpre htot hT
  go_wp2_with fail
  have hB0 := Lib.IsBuilderF.of (builder_new 80 5 (w.alloc (.cells #[.int .i64 x.level, .int .i64 x.kind, .string ⟨x.name.toArray⟩, .string ⟨x.text.toArray⟩, .slice A x.attrs.length c] 50)))
  rw [World.size_alloc] at hB0
  have hlen : ([] : List Value).length + ((⟨[60].toArray⟩ : ByteArray) ++ ⟨x.name.toArray⟩).size ≤ 140737488355328 := by
    rw [ByteArray.size_append]
    show 0 + (([60] : List UInt8).toArray.size + x.name.toArray.size) ≤ _
    rw [List.size_toArray, List.size_toArray]
    simp only [List.length_cons, List.length_nil]
    omega
  have hz : w.heap.size + 1 ≤ ((w.alloc (.cells #[.int .i64 x.level, .int .i64 x.kind, .string ⟨x.name.toArray⟩, .string ⟨x.text.toArray⟩, .slice A x.attrs.length c] 50)).alloc (.cells #[.pointer none, .slice none 0 0] 80)).heap.size := by simp
  refine (WriteK (w.heap.size + 1) (w.heap.size + 1) [] _ _ hB0 hlen hz).mono ?_
  clear hlen hz
  rintro e w2 ⟨rfl, hB2, hb2, _⟩
  have hacc : Lib.IsBuilderF 80 5 (w.heap.size + 1) (w.heap.size + 1) (Lib.byteCells ([60] ++ x.name ++ (x.attrs.take 0).flatMap attrT)) w2 := by
    refine .inr ?_
    have e : Lib.byteCells ([60] ++ x.name ++ (x.attrs.take 0).flatMap attrT) = [] ++ Lib.strCells (⟨[60].toArray⟩ ++ ⟨x.name.toArray⟩) := by
      rw [strCells_bytes, str_app]; simp
    rw [e]; exact hB2
  have hz2 := hb2.size
  simp only [World.size_alloc] at hz2
  have hc4 : w2.cell? ⟨w.heap.size, 4, none⟩ = some (.slice A x.attrs.length c) := by
    rw [hb2.cell (p := ⟨w.heap.size, 4, none⟩) (by simp), World.cell?_alloc_lt _ _ _ (by simp), World.cell?_alloc_at _ _ _ _ (by simp)]; rfl
  have hbw2 : Below w.heap.size w w2 := (((Below.refl _ w).alloc (Nat.le_refl _) _).alloc (by simp) _).trans (hb2.mono (by omega))
  clear hB2
  go_wp2_with fail
  go_loopw [15] (fun i wr => ∃ (k : Nat), k ≤ x.attrs.length ∧ i = .int .i64 k ∧ Hid (Lib.IsBuilderF 80 5 (w.heap.size + 1) (w.heap.size + 1) (Lib.byteCells ([60] ++ x.name ++ (x.attrs.take k).flatMap attrT)) wr) ∧ Below w.heap.size w wr ∧ w.heap.size + 1 < wr.heap.size) (fun i _ => x.attrs.length - (intOf i).toNat)
  case atStart => exact ⟨0, Nat.zero_le _, rfl, hacc, hbw2, by omega⟩
  case round =>
    obtain ⟨k, hk, rfl, hacc, hbel, hzr⟩ := hrel
    by_cases hlt : k < x.attrs.length
    · obtain ⟨a, ha⟩ : ∃ a, Hid (x.attrs[k]? = some a) := ⟨x.attrs[k], List.getElem?_eq_getElem _⟩
      obtain ⟨ad, hAd, hbl, hcs⟩ := (HA.out.below hbel) (by omega)
      obtain ⟨hc0, hc1⟩ := hcs k a ha.out
      unfold strV at hc0 hc1
      clear hcs
      obtain ⟨hn1, hn2⟩ := HS4.out k a ha.out
      subst hAd
      have hlt' : (k : Int) < x.attrs.length := by omega
      have hstep : (x.attrs.take (k + 1)).flatMap attrT = (x.attrs.take k).flatMap attrT ++ attrT a := by
        rw [List.take_add_one, ha.out, List.flatMap_append]; simp
      have hl := congrArg List.length (HTOT.out (k + 1) hlt)
      rw [hstep] at hl
      simp only [List.length_append, attrT] at hl
      have HST := Lib.hid hstep
      obtain ⟨o, ho⟩ : ∃ o, Hid (escV a.value = o) := ⟨_, rfl⟩
      rw [ho.out] at hl
      have hl1 : ([60] ++ x.name ++ (x.attrs.take k).flatMap attrT).length + (a.name.length + o.length + 4) ≤ 1000000000 := by
        simp only [List.length_append, List.length_cons, List.length_nil] at hl ⊢; omega
      have hl2 : a.name.length + o.length + 4 ≤ 1000000000 := by omega
      clear hl hstep
      go_wp2_with fail
      refine (Value_l _ _ hn2 o ho).mono ?_; rintro e w3 ⟨rfl, hb3⟩
      have hz3 := hb3.size
      simp only [World.size_alloc] at hz3
      have hd0 : w3.cell? ⟨wr.heap.size, 0, none⟩ = some (.string ⟨a.name.toArray⟩) := by
        rw [hb3.cell (p := ⟨wr.heap.size, 0, none⟩) (by simp), World.cell?_alloc_at _ _ _ _ (by simp)]; rfl
      have hbw3 : Below wr.heap.size wr w3 := ((Below.refl _ wr).alloc (Nat.le_refl _) _).trans (hb3.mono (by simp))
      have hB3 := builderF_below hacc.out hbw3
      have HB3 := Lib.hid hB3
      clear hB3 hc0 hc1
      go_wp2_with fail
      refine (WriteK (w.heap.size + 1) (w.heap.size + 1) _ _ _ HB3.out ?hlen (by omega)).mono ?_
      case hlen =>
        rw [Lib.byteCells_length]
        simp only [ByteArray.size_append]
        show _ + (((([32] : List UInt8).toArray.size + a.name.toArray.size) + ([61, 34] : List UInt8).toArray.size + o.toArray.size) + ([34] : List UInt8).toArray.size) ≤ _
        simp only [List.size_toArray, List.length_cons, List.length_nil] at hl1 ⊢
        omega
      rintro e w4 ⟨rfl, hB4, hb4, _⟩
      have hz4 := hb4.size
      go_wp2_with fail
      go_roundw
      case rel =>
        refine ⟨k + 1, by omega, by go_num, ?_, (hbel.trans (hbw3.mono (by omega))).trans (hb4.mono (by omega)), by omega⟩
        refine .inr ?_
        rw [strCells_bytes, ← Lib.byteCells_append] at hB4
        have e : [60] ++ x.name ++ (x.attrs.take (k + 1)).flatMap attrT = ([60] ++ x.name ++ (x.attrs.take k).flatMap attrT) ++ attrT a := by
          rw [HST.out]; simp
        rw [e]
        have e2 : attrT a = (((⟨[32].toArray⟩ : ByteArray) ++ (⟨a.name.toArray⟩ : ByteArray) ++ (⟨[61, 34].toArray⟩ : ByteArray) ++ (⟨o.toArray⟩ : ByteArray) ++ (⟨[34].toArray⟩ : ByteArray)).data.toList) := by
          unfold attrT
          rw [ho.out]
          simp
        rw [e2]
        exact hB4
      case measure => simp [intOf]; omega
    · have hk' : k = x.attrs.length := by omega
      have hfin := HTOT.out k hk
      rw [List.drop_eq_nil_of_le (by omega)] at hfin
      have hfin' : [60] ++ x.name ++ (x.attrs.take k).flatMap attrT = T := by rw [← hfin]; simp
      rw [hfin'] at hacc
      subst hk'
      clear hfin hfin' hlt hk
      go_wp2_with fail
      refine (StringK _ _ T wr hacc.out (by omega)).mono ?_
      rintro e w4 ⟨rfl, _, hb4, _⟩
      go_wp2_with fail
      go_ret
      exact ⟨rfl, hbel.trans (hb4.mono (by omega))⟩

end Go.Proofs.Ythifddkmbjnncaa

/-
  The walk of parse.parts.
-/
namespace Go.Proofs.Ythifddkmbjnncaa
open Go.RowKit

set_option maxRecDepth 100000 in
set_option maxHeartbeats 2000000 in
theorem parts_any (x : ItemD) (A : Option Addr) (c : Nat) (w : World) (hA : AttrsAt w w.heap.size A x.attrs) (hs : SmallItem x) (V : Int) (hV : Hid (partsE x = V)) :
    Calls Try.prog 51 #[.agg (itemVal x A c)] w (Ret w (.int .i64 V)) := by
  have HSM := Lib.hid hs
  obtain ⟨hs1, hs2, hs3, hs4, hs5⟩ := hs
  have HS4 := Lib.hid hs4
  have HA := Lib.hid hA
  clear hs4 hA hs5
  have hV' := hV.out
  unfold partsE at hV'
  clear hV
  by_cases h1 : x.kind = 2 ∧ x.name = [] ∧ x.attrs = []
  · rw [if_pos h1] at hV'
    obtain ⟨k1, k2, k3⟩ := h1
    have HV := Lib.hid hV'
    have e1 : (x.kind == 2) = true := by rw [k1]; rfl
    have e2 : (x.name == []) = true := by rw [k2]; rfl
    have e3 : x.attrs.length = 0 := by rw [k3]; rfl
    unfold itemVal strV
    rw [k2, e3, k1]
    clear k1 k2 k3 e1 e2 e3 hV'
    go_enter Try.func51, Try.ntmps51
    go_wp2_with fail
    refine (chars_l _ _ hs2 _ HV).mono ?_; rintro e w2 ⟨rfl, hb2⟩
    go_wp2_with fail
    go_ret
    exact ⟨rfl, ((Below.refl _ w).alloc (Nat.le_refl _) _).trans (hb2.mono (by simp))⟩
  · rw [if_neg h1] at hV'
    by_cases h2 : x.kind ≠ 1 ∨ x.text ≠ []
    · rw [if_pos h2] at hV'
      have hv : Hid (V = 68) := hV'.symm
      clear hV'
      by_cases k2 : x.kind = 2
      · have e1 : (x.kind == 2) = true := by simp [k2]
        have e4 : (x.kind != 1) = true := by simp [k2]
        by_cases k3 : x.name = []
        · have e2 : (x.name == []) = true := by simp [k3]
          have e3 : ((x.attrs.length : Int) == 0) = false := by
            have : x.attrs ≠ [] := fun h => h1 ⟨k2, k3, h⟩
            have : x.attrs.length ≠ 0 := fun h => this (List.eq_nil_of_length_eq_zero h)
            simp; omega
          clear h1 h2 k2 k3
          unfold itemVal strV
          go_enter Try.func51, Try.ntmps51
          go_wp2_with fail
          go_ret
          exact ⟨by rw [hv.out]; rfl, (Below.refl _ w).alloc (Nat.le_refl _) _⟩
        · have e2 : (x.name == []) = false := by simp [k3]
          clear h1 h2 k2 k3
          unfold itemVal strV
          go_enter Try.func51, Try.ntmps51
          go_wp2_with fail
          go_ret
          exact ⟨by rw [hv.out]; rfl, (Below.refl _ w).alloc (Nat.le_refl _) _⟩
      · have e1 : (x.kind == 2) = false := by simp [k2]
        by_cases k3 : x.kind = 1
        · have e4 : (x.kind != 1) = false := by simp [k3]
          have e5 : (x.text == []) = false := by
            have : x.text ≠ [] := h2.resolve_left (fun h => h k3)
            simp [this]
          clear h1 h2 k2 k3
          unfold itemVal strV
          go_enter Try.func51, Try.ntmps51
          go_wp2_with fail
          go_ret
          exact ⟨by rw [hv.out]; rfl, (Below.refl _ w).alloc (Nat.le_refl _) _⟩
        · have e4 : (x.kind != 1) = true := by simp [k3]
          clear h1 h2 k2 k3
          unfold itemVal strV
          go_enter Try.func51, Try.ntmps51
          go_wp2_with fail
          go_ret
          exact ⟨by rw [hv.out]; rfl, (Below.refl _ w).alloc (Nat.le_refl _) _⟩
    · rw [if_neg h2] at hV'
      have k1 : x.kind = 1 := Decidable.of_not_not fun h => h2 (.inl h)
      have k5 : x.text = [] := Decidable.of_not_not fun h => h2 (.inr h)
      have e1 : (x.kind == 2) = false := by simp [k1]
      have e4 : (x.kind != 1) = false := by simp [k1]
      have e5 : (x.text == []) = true := by simp [k5]
      clear h1 h2 k1 k5
      obtain ⟨E, hE⟩ : ∃ E, Hid (namesE x = E) := ⟨_, rfl⟩
      rw [hE.out] at hV'
      have HV := Lib.hid hV'
      clear hV'
      have HN : ∀ w1 : World, Below w.heap.size w w1 → Calls Try.prog 83 #[.agg (itemVal x A c)] w1 (Ret w1 (.int .i64 E)) :=
        fun w1 hb => names_any x A c w1 ((HA.out.below hb).more hb.size) HSM.out E hE
      have HNH := Lib.hid HN
      clear HN
      unfold itemVal strV at *
      go_enter Try.func51, Try.ntmps51
      go_wp2_with fail
      obtain ⟨w1, hw1⟩ : ∃ w1, Hid (w1 = w.alloc (.cells #[.int .i64 x.level, .int .i64 x.kind, .string ⟨x.name.toArray⟩, .string ⟨x.text.toArray⟩, .slice A x.attrs.length c] 50)) := ⟨_, rfl⟩
      have hbw1 : Below w.heap.size w w1 := by rw [hw1.out]; exact (Below.refl _ w).alloc (Nat.le_refl _) _
      have hz1 : w.heap.size < w1.heap.size := by rw [hw1.out]; simp
      have hcell1 : Hid (w1.cell? ⟨w.heap.size, 4, none⟩ = some (.slice A x.attrs.length c)) := by
        show _ = _
        rw [hw1.out, World.cell?_alloc_at _ _ _ _ (by simp)]; rfl
      rw [← hw1.out]
      refine (HNH.out w1 hbw1).mono ?_; rintro e w2 ⟨rfl, hb2⟩
      have hz2 := hb2.size
      have hc4 : w2.cell? ⟨w.heap.size, 4, none⟩ = some (.slice A x.attrs.length c) := by
        rw [hb2.cell (p := ⟨w.heap.size, 4, none⟩) hz1]; exact hcell1.out
      go_wp2_with fail
      go_loopw [3, 38] (fun ev i wr => ∃ (k : Nat) (f : Int), k ≤ x.attrs.length ∧ i = .int .i64 k ∧ ev = .int .i64 f ∧ Hid ((if f = 0 then valuesE (x.attrs.drop k) else f) = V) ∧ Below w2.heap.size w2 wr) (fun _ i _ => x.attrs.length - (intOf i).toNat)
      case atStart => exact ⟨0, E, Nat.zero_le _, rfl, rfl, HV, Below.refl _ _⟩
      case round =>
        obtain ⟨k, f, hk, rfl, rfl, hin, hbel⟩ := hrel
        have hzr := hbel.size
        have hbwr : Below w.heap.size w wr := (hbw1.trans (hb2.mono (by omega))).trans (hbel.mono (by omega))
        by_cases hlt : k < x.attrs.length
        · obtain ⟨a, ha⟩ : ∃ a, Hid (x.attrs[k]? = some a) := ⟨x.attrs[k], List.getElem?_eq_getElem _⟩
          obtain ⟨ad, hAd, hbl, hcs⟩ := (HA.out.below hbwr) (by omega)
          obtain ⟨hc0, hc1⟩ := hcs k a ha.out
          unfold strV at hc0 hc1
          clear hcs
          have hin' := hin.out
          rw [drop_cons ha.out, valuesE] at hin'
          have hnm := (HS4.out k a ha.out).2
          subst hAd
          have hlt' : (k : Int) < x.attrs.length := by omega
          by_cases hf : f = 0
          · rw [if_pos hf] at hin'
            subst hf
            obtain ⟨q, hq⟩ : ∃ q, Hid (charsE a.value = q) := ⟨_, rfl⟩
            rw [hq.out] at hin'
            have hv : Hid ((if q = 0 then valuesE (x.attrs.drop (k + 1)) else q) = V) := hin'
            clear hin'
            go_wp2_with fail
            refine (chars_l _ _ hnm _ hq).mono ?_; rintro e w3 ⟨rfl, hb3⟩
            have hz3 := hb3.size
            simp only [World.size_alloc] at hz3
            go_wp2_with fail
            go_roundw
            case rel => exact ⟨k + 1, q, by omega, by go_num, rfl, hv, (hbel.alloc (by omega) _).trans (hb3.mono (by simp; omega))⟩
            case measure => simp [intOf]; omega
          · rw [if_neg hf] at hin'
            have hv : Hid ((if f = 0 then valuesE (x.attrs.drop (k + 1)) else f) = V) := by show _ = _; rw [if_neg hf]; exact hin'
            clear hin'
            have ef : (f == 0) = false := by simp [hf]
            clear hf
            go_wp2_with fail
            go_roundw
            case rel => exact ⟨k + 1, f, by omega, by go_num, rfl, hv, hbel.alloc (by omega) _⟩
            case measure => simp [intOf]; omega
        · have hk' : k = x.attrs.length := by omega
          have hv : Hid (V = f) := by
            show _ = _
            rw [← hin.out, List.drop_eq_nil_of_le (by omega)]
            simp only [valuesE]
            split <;> simp_all
          subst hk'
          go_wp2_with fail
          go_ret
          exact ⟨by rw [hv.out]; rfl, hbwr⟩
end Go.Proofs.Ythifddkmbjnncaa
