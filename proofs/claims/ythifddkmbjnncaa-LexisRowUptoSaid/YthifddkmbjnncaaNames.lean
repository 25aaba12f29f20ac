/-
  The walk of parse.names.
-/
import Derived.Test.YthifddkmbjnncaaItems
import Derived.Test.YthifddkmbjnncaaCheckPlain
import Derived.Test.YthifddkmbjnncaaName
import Derived.Test.YthifddkmbjnncaaCount
namespace Go.Proofs.Ythifddkmbjnncaa
open Go.RowKit

theorem Name_l (s : List UInt8) (w : World) (hs : s.length ≤ 1000000000) (r : Bool) (hr : Hid (nameL s = r)) :
    Calls Try.prog 21 #[.string ⟨s.toArray⟩] w (Ret w (.bool r)) := Name_any _ w (by show s.toArray.size ≤ maxLen; unfold maxLen; simp; omega) r hr
theorem chars_l (s : List UInt8) (w : World) (hs : s.length ≤ 1000000000) (n : Int) (h : Hid (charsE s = n)) :
    Calls Try.prog 82 #[.string ⟨s.toArray⟩] w (Ret w (.int .i64 n)) := chars_as _ w (by show s.toArray.size ≤ maxLen; unfold maxLen; simp; omega) n h
theorem rchars_l (s : List UInt8) (w : World) (hs : s.length ≤ 1000000000) (n : Int) (h : Hid (charsE s = n)) :
    Calls Try.prog 104 #[.string ⟨s.toArray⟩] w (Ret w (.int .i64 n)) := rchars_as _ w (by show s.toArray.size ≤ _; simp; omega) n h

set_option maxRecDepth 100000 in
set_option maxHeartbeats 2000000 in
theorem names_any (x : ItemD) (A : Option Addr) (c : Nat) (w : World) (hA : AttrsAt w w.heap.size A x.attrs) (hs : SmallItem x) (V : Int) (hV : Hid (namesE x = V)) :
    Calls Try.prog 83 #[.agg (itemVal x A c)] w (Ret w (.int .i64 V)) := by
  obtain ⟨hs1, hs2, hs3, hs4, hs5⟩ := hs
  have HS4 := Lib.hid hs4
  have HA := Lib.hid hA
  clear hs4 hA hs5
  have hV' := hV.out
  unfold namesE at hV'
  clear hV
  unfold itemVal strV
  cases hn : nameL x.name with
  | false =>
    have HN : Hid (nameL x.name = false) := hn
    have hv : Hid (V = 63) := by show _ = _; rw [← hV', hn]; rfl
    clear hV' hn
    go_enter Try.func83, Try.ntmps83
    go_wp2_with fail
    refine (Name_l _ _ hs1 _ HN).mono ?_; rintro e w2 ⟨rfl, hb2⟩
    go_wp2_with fail
    go_ret
    exact ⟨by rw [hv.out]; rfl, ((Below.refl _ w).alloc (Nat.le_refl _) _).trans (hb2.mono (by simp))⟩
  | true =>
    have HN : Hid (nameL x.name = true) := hn
    rw [hn, Bool.true_and] at hV'
    clear hn
    obtain ⟨R, hR⟩ : ∃ R, Hid (attrNames [] x.attrs = R) := ⟨_, rfl⟩
    rw [hR.out] at hV'
    have HV := Lib.hid hV'
    clear hV'
    go_enter Try.func83, Try.ntmps83
    go_wp2_with fail
    obtain ⟨w1, hw1⟩ : ∃ w1, Hid (w1 = w.alloc (.cells #[.int .i64 x.level, .int .i64 x.kind, .string ⟨x.name.toArray⟩, .string ⟨x.text.toArray⟩, .slice A x.attrs.length c] 50)) := ⟨_, rfl⟩
    have hbw1 : Below w.heap.size w w1 := by rw [hw1.out]; exact (Below.refl _ w).alloc (Nat.le_refl _) _
    have hz1 : w.heap.size < w1.heap.size := by rw [hw1.out]; simp
    have hcell1 : Hid (w1.cell? ⟨w.heap.size, 4, none⟩ = some (.slice A x.attrs.length c)) := by
      show _ = _
      rw [hw1.out, World.cell?_alloc_at _ _ _ _ (by simp)]; rfl
    rw [← hw1.out]
    refine (Name_l _ _ hs1 _ HN).mono ?_; rintro e w2 ⟨rfl, hb2⟩
    have hz2 := hb2.size
    have hc4 : w2.cell? ⟨w.heap.size, 4, none⟩ = some (.slice A x.attrs.length c) := by
      rw [hb2.cell (p := ⟨w.heap.size, 4, none⟩) hz1]; exact hcell1.out
    go_wp2_with fail
    go_loopw [3, 13] (fun last i wr => ∃ (k : Nat) (l : List UInt8), k ≤ x.attrs.length ∧ i = .int .i64 k ∧ last = .string ⟨l.toArray⟩ ∧ Hid (attrNames l (x.attrs.drop k) = R) ∧ Below w2.heap.size w2 wr) (fun _ i _ => x.attrs.length - (intOf i).toNat)
    case atStart => exact ⟨0, [], Nat.zero_le _, rfl, rfl, hR, Below.refl _ _⟩
    case round =>
      obtain ⟨k, l, hk, rfl, rfl, hin, hbel⟩ := hrel
      have hzr := hbel.size
      have hbwr : Below w.heap.size w wr := (hbw1.trans (hb2.mono (by omega))).trans (hbel.mono (by omega))
      by_cases hlt : k < x.attrs.length
      · obtain ⟨a, ha⟩ : ∃ a, Hid (x.attrs[k]? = some a) := ⟨x.attrs[k], List.getElem?_eq_getElem _⟩
        obtain ⟨ad, hAd, hbl, hcs⟩ := (HA.out.below hbwr) (by omega)
        obtain ⟨hc0, hc1⟩ := hcs k a ha.out
        unfold strV at hc0 hc1
        clear hcs
        have hin' := hin.out
        rw [drop_cons ha.out, attrNames] at hin'
        have hnm := (HS4.out k a ha.out).1
        subst hAd
        have hlt' : (k : Int) < x.attrs.length := by omega
        cases hq : nameL a.name with
        | false =>
          have HQ : Hid (nameL a.name = false) := hq
          have hv : Hid (V = 63) := by
            show _ = _
            rw [hq] at hin'
            have hR' : R = false := hin'.symm
            rw [← HV.out, hR']; rfl
          clear hin' hq
          go_wp2_with fail
          refine (Name_l _ _ hnm _ HQ).mono ?_; rintro e w3 ⟨rfl, hb3⟩
          have hz3 := hb3.size
          simp only [World.size_alloc] at hz3
          go_wp2_with fail
          go_ret
          exact ⟨by rw [hv.out]; rfl, (hbwr.alloc (by omega) _).trans (hb3.mono (by simp; omega))⟩
        | true =>
          have HQ : Hid (nameL a.name = true) := hq
          rw [hq, Bool.true_and] at hin'
          clear hq
          have hcell3 : ∀ w3, Below (wr.alloc (Obj.cells #[Value.string ⟨a.name.toArray⟩, Value.string ⟨a.value.toArray⟩] 44)).heap.size (wr.alloc (Obj.cells #[Value.string ⟨a.name.toArray⟩, Value.string ⟨a.value.toArray⟩] 44)) w3 → w3.cell? ⟨wr.heap.size, 0, none⟩ = some (.string ⟨a.name.toArray⟩) := fun w3 hb3 => by
            rw [hb3.cell (p := ⟨wr.heap.size, 0, none⟩) (by simp), World.cell?_alloc_at _ _ _ _ (by simp)]; rfl
          have HC3 := Lib.hid hcell3
          clear hcell3
          obtain ⟨b1, hb1⟩ : ∃ b1, Op.bytesLess a.name l = b1 := ⟨_, rfl⟩
          obtain ⟨b2, hb2'⟩ : ∃ b2, (a.name == l) = b2 := ⟨_, rfl⟩
          have hle : leB a.name l = (b1 || b2) := by unfold leB; rw [hb1, hb2']
          rw [hle] at hin'
          clear hle
          cases hbb : (b1 || b2) with
          | true =>
            have hv : Hid (V = 63) := by
              show _ = _
              rw [hbb] at hin'
              have hR' : R = false := hin'.symm
              rw [← HV.out, hR']; rfl
            clear hin'
            go_wp2_with fail
            refine (Name_l _ _ hnm _ HQ).mono ?_; rintro e w3 ⟨rfl, hb3⟩
            have hz3 := hb3.size
            have hcell3 := HC3.out w3 hb3
            simp only [World.size_alloc] at hz3
            go_wp2_with fail
            go_ret
            exact ⟨by rw [hv.out]; rfl, (hbwr.alloc (by omega) _).trans (hb3.mono (by simp; omega))⟩
          | false =>
            rw [hbb] at hin'
            have hin2 : Hid (attrNames a.name (x.attrs.drop (k + 1)) = R) := hin'
            clear hin'
            go_wp2_with fail
            refine (Name_l _ _ hnm _ HQ).mono ?_; rintro e w3 ⟨rfl, hb3⟩
            have hz3 := hb3.size
            have hcell3 := HC3.out w3 hb3
            simp only [World.size_alloc] at hz3
            go_wp2_with fail
            go_roundw
            case rel => exact ⟨k + 1, a.name, by omega, by go_num, rfl, hin2, (hbel.alloc (by omega) _).trans (hb3.mono (by simp; omega))⟩
            case measure => simp [intOf]; omega
      · have hk' : k = x.attrs.length := by omega
        have hR' : R = true := by
          rw [← hin.out, List.drop_eq_nil_of_le (by omega)]; rfl
        have hv' := HV.out
        rw [hR'] at hv'
        subst hk'
        have hc4r : wr.cell? ⟨w.heap.size, 4, none⟩ = some (.slice A x.attrs.length c) := by
          rw [hbel.cell (p := ⟨w.heap.size, 4, none⟩) (by show w.heap.size < _; omega)]; exact hc4
        by_cases h20 : 20 < x.attrs.length
        · have hv : Hid (V = 67) := by show _ = _; rw [← hv', if_pos rfl, if_pos h20]
          have h20' : (20 : Int) < x.attrs.length := by omega
          clear hv' h20
          go_wp2_with fail
          go_ret
          exact ⟨by rw [hv.out]; rfl, hbwr⟩
        · have hv : Hid (V = 0) := by show _ = _; rw [← hv', if_pos rfl, if_neg h20]
          have h20' : (x.attrs.length : Int) ≤ 20 := by omega
          clear hv' h20
          go_wp2_with fail
          go_ret
          exact ⟨by rw [hv.out]; rfl, hbwr⟩
end Go.Proofs.Ythifddkmbjnncaa
