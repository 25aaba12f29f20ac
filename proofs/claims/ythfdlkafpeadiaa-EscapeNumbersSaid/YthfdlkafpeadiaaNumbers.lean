/-
  The walk of the law EscapeNumbers.
-/
import Derived.Test.YthfdlkafpeadiaaAlive
import Derived.Test.YthfdlkafpeadiaaRNext
import Derived.Test.YthfdlkafpeadiaaNumPlain
namespace Go.Proofs.Ythfdlkafpeadiaa
open Go.RowKit

theorem Put_as (c : Int) (w : World) (o : List UInt8) (b : Bool) (h : Hid (putF c = o ∧ charB c = b)) :
    Calls Try.prog 13 #[.int .i32 c] w (Ret w (.tuple #[.string ⟨o.toArray⟩, .bool b])) := by
  have := Put_any c w
  rw [h.out.1, h.out.2] at this
  exact this

theorem dig10 (n : Int) (_h0 : 0 ≤ n) : 0 ≤ digitV 10 ((bt (48 + n % 10)).toNat) ∧ no59 (bt (48 + n % 10)) = true ∧ bt (48 + n % 10) ≠ 120 ∧ digitV 10 ((bt (48 + n % 10)).toNat) = n % 10 := by
  have hb := bt_toNat (48 + n % 10) (by omega) (by omega)
  have hd : digitV 10 ((bt (48 + n % 10)).toNat) = n % 10 := by rw [hb]; unfold digitV; rw [if_pos (by omega)]; omega
  refine ⟨by omega, ?_, ?_, hd⟩
  · unfold no59
    rw [bne_iff_ne]
    intro h
    rw [h] at hb
    have : ((59 : UInt8).toNat : Int) = 59 := rfl
    omega
  · intro h
    rw [h] at hb
    have : ((120 : UInt8).toNat : Int) = 120 := rfl
    omega

/-- the hexadecimal digits' bytes -/
def hexB (k : Int) : Int := if k < 10 then 48 + k else 87 + k
theorem dig16 (k : Int) (h0 : 0 ≤ k) (h1 : k < 16) : 0 ≤ hexB k ∧ hexB k < 256 ∧ 0 ≤ digitV 16 ((bt (hexB k)).toNat) ∧ no59 (bt (hexB k)) = true ∧ bt (hexB k) ≠ 120 ∧ digitV 16 ((bt (hexB k)).toNat) = k := by
  have hr : 0 ≤ hexB k ∧ hexB k < 256 := by unfold hexB; split <;> omega
  have hb := bt_toNat (hexB k) hr.1 hr.2
  have hd : digitV 16 ((bt (hexB k)).toNat) = k := by
    rw [hb]; unfold hexB digitV
    repeat (first | split | omega)
  have hv : hexB k ≠ 59 ∧ hexB k ≠ 120 := by unfold hexB; split <;> omega
  refine ⟨hr.1, hr.2, by omega, ?_, ?_, hd⟩
  · unfold no59
    rw [bne_iff_ne]
    intro h
    rw [h] at hb
    exact hv.1 hb.symm
  · intro h
    rw [h] at hb
    exact hv.2 hb.symm

theorem hex_at : ∀ k : Fin 16, (⟨#[48, 49, 50, 51, 52, 53, 54, 55, 56, 57, 97, 98, 99, 100, 101, 102]⟩ : ByteArray).data[k.val]? = some (bt (hexB (k.val : Int))) := by decide +kernel

theorem hex_idx (n : Int) (h0 : 0 ≤ n % 16) (_h1 : n % 16 < 16) (h : (n % 16).toNat < (⟨#[48, 49, 50, 51, 52, 53, 54, 55, 56, 57, 97, 98, 99, 100, 101, 102]⟩ : ByteArray).size) : (⟨#[48, 49, 50, 51, 52, 53, 54, 55, 56, 57, 97, 98, 99, 100, 101, 102]⟩ : ByteArray)[(n % 16).toNat] = bt (hexB (n % 16)) := by
  have h2 := hex_at ⟨(n % 16).toNat, by omega⟩
  simp only at h2
  rw [Int.toNat_of_nonneg h0] at h2
  exact getk_of _ _ _ (by rw [Array.getElem?_toList]; exact h2) h

set_option maxRecDepth 100000 in
set_option maxHeartbeats 4000000 in
theorem numbers_in (c : Int) (w : World) (h0 : 0 ≤ c) (h1 : c ≤ 9999999) : Calls Try.prog 4 #[.int .i32 c] w (Ret w (.bool true)) := by
  go_enter Try.func4, Try.ntmps4
  go_wp2_with fail
  go_loopw [3, 5] (fun tv nv wr => ∃ (ds : List UInt8) (n : Int), tv = .string ⟨ds.toArray⟩ ∧ nv = .int .i32 n ∧ 0 ≤ n ∧ n ≤ 9999999 ∧ ds.length ≤ 7 ∧ Hid (n * 10 ^ ds.length ≤ c) ∧ Hid (digitsOk 10 ds) ∧ Hid (numF 10 n ds = c) ∧ Below w.heap.size w wr) (fun tv nv _ => 2 * (intOf nv).toNat + (if (strOf tv).size = 0 then 1 else 0))
  case atStart => exact ⟨[], c, rfl, rfl, h0, h1, by simp, (by simp : c * 10 ^ 0 ≤ c), (fun x hx => nomatch hx : digitsOk 10 []), rfl, Below.refl _ _⟩
  case round =>
    obtain ⟨ds, n, rfl, rfl, hn0, hn1, hdl, hle, hok, hnum, hbel⟩ := hrel
    have hwr := hbel.size
    by_cases hgo : 0 < n ∨ ds = []
    · have hdl6 : ds.length ≤ 6 := by
        rcases hgo with h | h
        · have hl := hle.out
          rcases (by omega : ds.length = 7 ∨ ds.length ≤ 6) with h7 | h6
          · rw [h7] at hl
            have : (10 : Int) ^ 7 = 10000000 := by decide
            rw [this] at hl
            omega
          · exact h6
        · rw [h]; simp
      have hd := dig10 n hn0
      have HD := Lib.hid hd
      clear hd
      have hcv := run_string_lit (P := Try.prog) [bt (48 + n % 10)] #[Value.int .u8 (48 + n % 10)] (by simp only [Lib.byteCells, List.map_cons, List.map_nil]; rw [bt_toNat _ (by omega) (by omega)]) (by simp [maxLen]) Try.underlying27 Try.underlying5 Try.underlying9
      simp only [List.length_singleton] at hcv
      have hmore : Hid (numF 10 (n / 10) (bt (48 + n % 10) :: ds) = c) := digit_more 10 n _ ds c HD.out.2.2.2 hnum.out
      have hok' : Hid (digitsOk 10 (bt (48 + n % 10) :: ds)) := by
        intro x hx
        rcases List.mem_cons.1 hx with rfl | hx
        · exact ⟨HD.out.1, HD.out.2.1, HD.out.2.2.1⟩
        · exact hok.out x hx
      have hle' : Hid (n / 10 * 10 ^ (ds.length + 1) ≤ c) := by
        have h2 := hle.out
        show _ ≤ _
        have e : n / 10 * 10 ^ (ds.length + 1) = (n / 10 * 10) * 10 ^ ds.length := by rw [Int.pow_succ, Int.mul_assoc, Int.mul_comm (10 ^ ds.length) 10]
        have hp : (0 : Int) ≤ 10 ^ ds.length := Int.le_of_lt (Int.pow_pos (by decide))
        rw [e]
        exact Int.le_trans (Int.mul_le_mul_of_nonneg_right (by omega) hp) h2
      have hmea : Hid (2 * (n / 10).toNat + (if ((⟨[bt (48 + n % 10)].toArray⟩ : ByteArray) ++ ⟨ds.toArray⟩).size = 0 then 1 else 0) < 2 * n.toNat + (if (⟨ds.toArray⟩ : ByteArray).size = 0 then 1 else 0)) := by
        show _ < _
        rw [str_app]
        rw [if_neg (by show ¬ ([bt (48 + n % 10)] ++ ds).toArray.size = 0; simp)]
        rcases hgo with h | h
        · omega
        · subst h
          rw [if_pos (by rfl)]
          omega
      by_cases hpos : 0 < n
      · clear hgo
        go_wp2_with fail
        go_roundw
        case rel => exact ⟨bt (48 + n % 10) :: ds, n / 10, congrArg Value.string (str_app _ _), rfl, by omega, by omega, by simp; omega, hle'.out, hok'.out, hmore.out, (hbel.alloc (by omega) _)⟩
        case measure => exact hmea.out
      · have hz : n ≤ 0 := by omega
        have hnil : ds = [] := by rcases hgo with h | h; omega; exact h
        subst hnil
        clear hgo
        go_wp2_with fail
        go_roundw
        case rel => exact ⟨[bt (48 + n % 10)], n / 10, congrArg Value.string (str_app _ _), rfl, by omega, by omega, by simp, hle'.out, hok'.out, hmore.out, (hbel.alloc (by omega) _)⟩
        case measure => exact hmea.out
    · obtain ⟨hn, hdn⟩ : n = 0 ∧ ds ≠ [] := by
        constructor
        · rcases (by omega : 0 < n ∨ n = 0) with h | h
          · exact absurd (.inl h) hgo
          · exact h
        · exact fun h => hgo (.inr h)
      subst hn
      have hdp : 1 ≤ ds.length := List.length_pos_iff.2 hdn
      have hde : ds.isEmpty = false := by cases ds with | nil => exact absurd rfl hdn | cons x r => rfl
      have hten : Hid (refL ([38, 35] ++ ds ++ [59]) = (c, ds.length + 3)) := by
        have := ref_ten ds hok.out hdp hdl
        rw [hnum.out] at this
        exact this
      clear hgo hdn
      go_wp2_with fail
      obtain ⟨wo, rfl⟩ : ∃ wo : World, wo = wr := ⟨_, rfl⟩
      go_loopw [4, 6] (fun tv nv wr => ∃ (es : List UInt8) (n : Int), tv = .string ⟨es.toArray⟩ ∧ nv = .int .i32 n ∧ 0 ≤ n ∧ n ≤ 9999999 ∧ es.length ≤ 6 ∧ Hid (n * 16 ^ es.length ≤ c) ∧ Hid (digitsOk 16 es) ∧ Hid (numF 16 n es = c) ∧ Below w.heap.size w wr) (fun tv nv _ => 2 * (intOf nv).toNat + (if (strOf tv).size = 0 then 1 else 0))
      case atStart => exact ⟨[], c, rfl, rfl, h0, h1, by simp, (by simp : c * 16 ^ 0 ≤ c), (fun x hx => nomatch hx : digitsOk 16 []), rfl, hbel⟩
      case round =>
        obtain ⟨es, n, rfl, rfl, hn0, hn1, hel, hle2, hok2, hnum2, hbel2⟩ := hrel
        have hwr2 := hbel2.size
        by_cases hgo : 0 < n ∨ es = []
        · have hk0 : 0 ≤ n % 16 := by omega
          have hk1 : n % 16 < 16 := by omega
          have hsz16 : (n % 16).toNat < (⟨#[48, 49, 50, 51, 52, 53, 54, 55, 56, 57, 97, 98, 99, 100, 101, 102]⟩ : ByteArray).size := by show _ < 16; omega
          have hidx := hex_idx n hk0 hk1 hsz16
          have HD := Lib.hid (dig16 (n % 16) hk0 hk1)
          have hel5 : es.length ≤ 5 := by
            rcases hgo with h | h
            · have hl := hle2.out
              rcases (by omega : es.length = 6 ∨ es.length ≤ 5) with h7 | h6
              · rw [h7] at hl
                have : (16 : Int) ^ 6 = 16777216 := by decide
                rw [this] at hl
                omega
              · exact h6
            · rw [h]; simp
          have hcv := run_string_lit (P := Try.prog) [bt (hexB (n % 16))] #[Value.int .u8 ((bt (hexB (n % 16))).toNat)] rfl (by simp [maxLen]) Try.underlying27 Try.underlying5 Try.underlying9
          simp only [List.length_singleton] at hcv
          have hmore : Hid (numF 16 (n / 16) (bt (hexB (n % 16)) :: es) = c) := digit_more 16 n _ es c HD.out.2.2.2.2.2 hnum2.out
          have hok' : Hid (digitsOk 16 (bt (hexB (n % 16)) :: es)) := by
            intro x hx
            rcases List.mem_cons.1 hx with rfl | hx
            · exact ⟨HD.out.2.2.1, HD.out.2.2.2.1, HD.out.2.2.2.2.1⟩
            · exact hok2.out x hx
          have hle' : Hid (n / 16 * 16 ^ (es.length + 1) ≤ c) := by
            have h2 := hle2.out
            show _ ≤ _
            have e : n / 16 * 16 ^ (es.length + 1) = (n / 16 * 16) * 16 ^ es.length := by rw [Int.pow_succ, Int.mul_assoc, Int.mul_comm (16 ^ es.length) 16]
            have hp : (0 : Int) ≤ 16 ^ es.length := Int.le_of_lt (Int.pow_pos (by decide))
            rw [e]
            exact Int.le_trans (Int.mul_le_mul_of_nonneg_right (by omega) hp) h2
          have hmea : Hid (2 * (n / 16).toNat + (if ((⟨[bt (hexB (n % 16))].toArray⟩ : ByteArray) ++ ⟨es.toArray⟩).size = 0 then 1 else 0) < 2 * n.toNat + (if (⟨es.toArray⟩ : ByteArray).size = 0 then 1 else 0)) := by
            show _ < _
            rw [str_app]
            rw [if_neg (by show ¬ ([bt (hexB (n % 16))] ++ es).toArray.size = 0; simp)]
            rcases hgo with h | h
            · omega
            · subst h
              rw [if_pos (by rfl)]
              omega
          by_cases hpos : 0 < n
          · clear hgo
            go_wp2_with fail
            go_roundw
            case rel => exact ⟨bt (hexB (n % 16)) :: es, n / 16, congrArg Value.string (str_app _ _), rfl, by omega, by omega, by simp; omega, hle'.out, hok'.out, hmore.out, (hbel2.alloc (by omega) _)⟩
            case measure => exact hmea.out
          · have hz : n ≤ 0 := by omega
            have hnil : es = [] := by rcases hgo with h | h; omega; exact h
            subst hnil
            clear hgo
            go_wp2_with fail
            go_roundw
            case rel => exact ⟨[bt (hexB (n % 16))], n / 16, congrArg Value.string (str_app _ _), rfl, by omega, by omega, by simp, hle'.out, hok'.out, hmore.out, (hbel2.alloc (by omega) _)⟩
            case measure => exact hmea.out
        · obtain ⟨hn, hdn⟩ : n = 0 ∧ es ≠ [] := by
            constructor
            · rcases (by omega : 0 < n ∨ n = 0) with h | h
              · exact absurd (.inl h) hgo
              · exact h
            · exact fun h => hgo (.inr h)
          subst hn
          have hep : 1 ≤ es.length := List.length_pos_iff.2 hdn
          have hee : es.isEmpty = false := by cases es with | nil => exact absurd rfl hdn | cons x r => rfl
          have hhex : Hid (refL ([38, 35, 120] ++ es ++ [59]) = (c, es.length + 4)) := by
            have := ref_hex es hok2.out hep (by omega)
            rw [hnum2.out] at this
            exact this
          have hs1 : Hid ((((⟨#[38, 35]⟩ : ByteArray) ++ ⟨ds.toArray⟩) ++ ⟨#[59]⟩).data.toList = [38, 35] ++ ds ++ [59]) := by show _ = _; simp
          have hs2 : Hid ((((⟨#[38, 35, 120]⟩ : ByteArray) ++ ⟨es.toArray⟩) ++ ⟨#[59]⟩).data.toList = [38, 35, 120] ++ es ++ [59]) := by show _ = _; simp
          have hz1 : Hid ((((⟨#[38, 35]⟩ : ByteArray) ++ ⟨ds.toArray⟩) ++ ⟨#[59]⟩).size ≤ 1099511627776) := by show _ ≤ _; rw [← size_toList, hs1.out]; simp; omega
          have hz2 : Hid ((((⟨#[38, 35, 120]⟩ : ByteArray) ++ ⟨es.toArray⟩) ++ ⟨#[59]⟩).size ≤ 1099511627776) := by show _ ≤ _; rw [← size_toList, hs2.out]; simp; omega
          have hu1 := undo_ref true ([35] ++ ds ++ [59]) c (by have := hten.out; simpa using this)
          have hu2 := undo_ref false ([35, 120] ++ es ++ [59]) c (by have := hhex.out; simpa using this)
          clear hgo hdn
          cases hch : charB c
          · rw [hch] at hu1 hu2
            rw [if_neg (by decide)] at hu1 hu2
            have hU1 : Hid (undoL true (((⟨#[38, 35]⟩ : ByteArray) ++ ⟨ds.toArray⟩) ++ ⟨#[59]⟩).data.toList = ([], 0, 21)) := by show _ = _; rw [hs1.out]; exact hu1
            have hU2 : Hid (undoL false (((⟨#[38, 35, 120]⟩ : ByteArray) ++ ⟨es.toArray⟩) ++ ⟨#[59]⟩).data.toList = ([], 0, 21)) := by show _ = _; rw [hs2.out]; exact hu2
            have hP : Hid (putF c = [] ∧ charB c = false) := ⟨by unfold putF; rw [hch]; rfl, hch⟩
            clear hu1 hu2 hch
            go_wp2_with fail
            refine (Put_as c _ _ _ hP).mono ?_; rintro e w1 ⟨rfl, hb1⟩
            go_wp2_with fail
            refine (Undo_as _ true _ hz1.out _ _ _ hU1).mono ?_; rintro e w2 ⟨rfl, hb2⟩
            go_wp2_with fail
            refine (Undo_as _ false _ hz2.out _ _ _ hU2).mono ?_; rintro e w3 ⟨rfl, hb3⟩
            go_wp2_with (go_at_call 10; refine (alive_any _).mono ?_; rintro e w7 ⟨rfl, hb7⟩)
            go_ret
            have hw1 := hb1.size; have hw2 := hb2.size; have hw3 := hb3.size
            exact ⟨rfl, (((hbel2.trans (hb1.mono (by omega))).trans (hb2.mono (by omega))).trans (hb3.mono (by omega))).trans (hb7.mono (by omega))⟩
          · rw [hch] at hu1 hu2
            rw [if_pos rfl] at hu1 hu2
            have hU1 : Hid (undoL true (((⟨#[38, 35]⟩ : ByteArray) ++ ⟨ds.toArray⟩) ++ ⟨#[59]⟩).data.toList = (enc c, ds.length + 3, 0)) := by show _ = _; rw [hs1.out]; have := hu1; simpa using this
            have hU2 : Hid (undoL false (((⟨#[38, 35, 120]⟩ : ByteArray) ++ ⟨es.toArray⟩) ++ ⟨#[59]⟩).data.toList = (enc c, es.length + 4, 0)) := by show _ = _; rw [hs2.out]; have := hu2; simpa using this
            have hP : Hid (putF c = enc c ∧ charB c = true) := ⟨by unfold putF; rw [if_pos hch], hch⟩
            clear hu1 hu2 hch
            go_wp2_with fail
            refine (Put_as c _ _ _ hP).mono ?_; rintro e w1 ⟨rfl, hb1⟩
            go_wp2_with fail
            refine (Undo_as _ true _ hz1.out _ _ _ hU1).mono ?_; rintro e w2 ⟨rfl, hb2⟩
            go_wp2_with fail
            refine (Undo_as _ false _ hz2.out _ _ _ hU2).mono ?_; rintro e w3 ⟨rfl, hb3⟩
            go_wp2_with (go_at_call 10; refine (alive_any _).mono ?_; rintro e w7 ⟨rfl, hb7⟩)
            go_ret
            have hw1 := hb1.size; have hw2 := hb2.size; have hw3 := hb3.size
            exact ⟨rfl, (((hbel2.trans (hb1.mono (by omega))).trans (hb2.mono (by omega))).trans (hb3.mono (by omega))).trans (hb7.mono (by omega))⟩

set_option maxRecDepth 100000 in
set_option maxHeartbeats 1000000 in
theorem walk_EscapeNumbers (c : Int) (w : World) (_ : (Lit.int .i32 c).wf = true) : Calls Try.prog 4 #[.int .i32 c] w (Ret w (.bool true)) := by
  by_cases h : 0 ≤ c ∧ c ≤ 9999999
  · exact numbers_in c w h.1 h.2
  · rcases (by omega : c < 0 ∨ (0 ≤ c ∧ 9999999 < c)) with h | ⟨h, h'⟩
    · go_enter Try.func4, Try.ntmps4
      go_wp2_with (go_at_call 10; refine (alive_any _).mono ?_; rintro e w7 ⟨rfl, hb7⟩)
      go_ret
      exact ⟨rfl, hb7⟩
    · go_enter Try.func4, Try.ntmps4
      go_wp2_with (go_at_call 10; refine (alive_any _).mono ?_; rintro e w7 ⟨rfl, hb7⟩)
      go_ret
      exact ⟨rfl, hb7⟩
end Go.Proofs.Ythfdlkafpeadiaa
