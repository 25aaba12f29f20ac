/-
  Texts of this claim, joined (by a program of the claim's author): GRFo, GRIn.
-/
import Derived.Test.YtmkgajdgnmolkaaGreatR1
import Derived.Test.YtmkgajdgnmolkaaGreatR4
import Derived.Test.YtmkgajdgnmolkaaGreatR11
import Derived.Test.YtmkgajdgnmolkaaGreatR7
namespace Go.Proofs.YtmkgajdgnmolkaaGreat
set_option maxRecDepth 100000
set_option maxHeartbeats 16000000
section
open Go.RowKit
theorem RForest_any (l : List ItemD) (A : Option Addr) (c : Nat) (w : World) (hA : ItemsAt w w.heap.size A l) (hs : SmallItems l) (V : Int) (hV : Hid ((forestL l).2 = V)) :
  Calls Tryz.prog 84 #[.slice A l.length c] w (Ret w (.int .i64 V)) := by
 obtain ⟨hs1, hs2⟩ := hs
 have HS := Lib.hid hs2
 have HA := Lib.hid hA
 clear hs2 hA
 by_cases h0 : l = []
 ·have hv : Hid (40 = V) := by
   have := hV.out
   unfold forestL at this
   rw [if_pos h0] at this
   exact this
  have hlen : l.length = 0 := by rw [h0]; rfl
  rw [hlen]
  clear h0 hV hs1 hlen
  go_enter Tryz.func84, Tryz.ntmps84
  go_wp2_with fail
  go_ret
  exact ⟨by rw [← hv.out]; rfl, Below.refl _ _⟩
 ·have hpos : 0 < l.length := List.length_pos_iff.2 h0
  have hC : Hid ((forestF (prevOf l 0) 0 (l.drop 0)).2 = V) := by
   have := hV.out
   unfold forestL at this
   rw [if_neg h0] at this
   exact this
  have t0 : ((l.length : Int) == 0) = false := by simp; omega
  clear h0 hV
  go_enter Tryz.func84, Tryz.ntmps84
  go_wp2_with fail
  go_loopw [3] (fun i wr => ∃ (k : Nat), k ≤ l.length ∧ i = .int .i64 k ∧ Hid (∃ dp, (forestF (prevOf l k) dp (l.drop k)).2 = V) ∧ Hid (∀ p, prevOf l k = some p → 0 ≤ p.level ∧ p.level ≤ (k : Int)) ∧ Below w.heap.size w wr) (fun i _ => l.length - (intOf i).toNat)
  case atStart => exact ⟨0, Nat.zero_le _, rfl, ⟨0, hC.out⟩, fun p hp => by simp [prevOf] at hp, Below.refl _ _⟩
  case round =>
   obtain ⟨k, hk, rfl, hin, hpv, hbel⟩ := hrel
   have hzr := hbel.size
   by_cases hlt : k < l.length
   ·obtain ⟨x, hx⟩ : ∃ x, Hid (l[k]? = some x) := ⟨l[k], List.getElem?_eq_getElem _⟩
    have hAr := HA.out.below hbel
    obtain ⟨ad, hAd, _⟩ := hAr (by omega)
    subst hAd
    obtain ⟨hbl, A', c', hat, hac, h0, h1, h2, h3, h4⟩ := hAr.item hx.out
    unfold strV at h2 h3
    have HAT := Lib.hid hat
    have hsx := Lib.hid (HS.out k x hx.out)
    have hin' : (if foE (prevOf l k) x = 0 then ∃ dp, (forestF (prevOf l (k + 1)) dp (l.drop (k + 1))).2 = V else foE (prevOf l k) x = V) := by
     obtain ⟨dp, h⟩ := hin.out
     rw [forestF_drop hx.out] at h
     split
     ·rename_i hz; rw [if_pos hz] at h; exact ⟨_, h⟩
     ·rename_i hz; rw [if_neg hz] at h; exact h
    have hlt' : (k : Int) < l.length := by omega
    clear hin hac hat
    by_cases hk0 : k = 0
    ·have hTE : Hid (foE (prevOf l k) x = if x.level < 0 ∨ 0 < x.level then 69 else partsE x) := by
      show _ = _
      rw [hk0]
      unfold foE topOf isText prevOf
      simp
     have hTK : Hid ((0 : Int) ≤ (k : Int) + 1) := by show _ ≤ _; omega
     have i1 : (0 : Int) ≤ (k : Int) := by omega
     have t1 : decide ((0 : Int) < (k : Int)) = false := by simp; omega
     have t2 : decide (0 < k) = false := by simp; omega
     clear hk0
     by_cases c1 : x.level < 0
     ·have ho : foE (prevOf l k) x = 69 := by unfold foE; exact if_pos (.inl c1)
      rw [ho, if_neg (by decide)] at hin'
      have HIN := Lib.hid hin'
      clear ho hin'
      go_wp2_with fail
      go_ret
      exact ⟨by rw [← HIN.out]; rfl, hbel⟩
     have c1' : 0 ≤ x.level := by omega
     by_cases c2 : 0 < x.level
     ·have ho : foE (prevOf l k) x = 69 := by rw [hTE.out, if_pos (.inr c2)]
      rw [ho, if_neg (by decide)] at hin'
      have HIN := Lib.hid hin'
      clear ho hin'
      go_wp2_with fail
      go_ret
      exact ⟨by rw [← HIN.out]; rfl, hbel⟩
     have c2' : x.level ≤ 0 := by omega
     have ho : foE (prevOf l k) x = partsE x := by rw [hTE.out, if_neg (by omega)]
     obtain ⟨f, hf⟩ : ∃ f, Hid (partsE x = f) := ⟨_, rfl⟩
     rw [ho, hf.out] at hin'
     have HIN := Lib.hid hin'
     have HFO : Hid (f = 0 → 0 ≤ x.level ∧ x.level ≤ (k : Int) + 1) := fun _ => ⟨c1', by have := hTK.out; omega⟩
     clear hin' ho c1 c2
     by_cases hf0 : f = 0
     ·subst hf0
      go_wp2_with fail
      refine (RParts_any x A' c' wr (HAT.out.more hzr) hsx.out 0 hf).mono ?_
      rintro e2 w2 ⟨rfl, hb2⟩
      have HB2 : Hid (Below w.heap.size w w2) := hbel.trans (hb2.mono hzr)
      clear hb2
      go_wp2_with fail
      go_roundw
      case rel =>
       refine ⟨k + 1, by omega, by go_num, ?_, fun p hp => ?_, HB2.out⟩
       ·have := HIN.out
        rw [if_pos trivial] at this
        exact this
       rw [prevOf_succ hx.out] at hp
       injection hp with hp
       subst hp
       have := HFO.out (by trivial)
       exact ⟨this.1, by omega⟩
      case measure => simp [intOf]; omega
     ·have hfn : (f != 0) = true := by simpa using hf0
      go_wp2_with fail
      refine (RParts_any x A' c' wr (HAT.out.more hzr) hsx.out f hf).mono ?_
      rintro e2 w2 ⟨rfl, hb2⟩
      have HB2 : Hid (Below w.heap.size w w2) := hbel.trans (hb2.mono hzr)
      clear hb2
      go_wp2_with fail
      go_ret
      have hin := HIN.out
      rw [if_neg hf0] at hin
      exact ⟨by rw [← hin]; rfl, HB2.out⟩
    ·have hp : l[k - 1]? = some l[k - 1] := List.getElem?_eq_getElem _
     have he : prevOf l k = some l[k - 1] := by unfold prevOf; rw [if_neg hk0, hp]
     obtain ⟨p, hpp⟩ : ∃ p : ItemD, Hid (p = l[k - 1]) := ⟨l[k - 1], by show _ = _; rfl⟩
     rw [← hpp.out] at hp he
     obtain ⟨q0, q1⟩ := hpv.out p he
     obtain ⟨_, A2, c2, _, _, g0, g1, _, _, _⟩ := hAr.item hp
     have i1 : (0 : Int) ≤ (k : Int) := by omega
     have i2 : (1 : Int) ≤ (k : Int) := by omega
     have i4 : (0 : Int) ≤ (k : Int) - 1 := by omega
     have i5 : (k : Int) - 1 < l.length := by omega
     have t1 : decide ((0 : Int) < (k : Int)) = true := by simp; omega
     have t2 : decide (0 < k) = true := by simp; omega
     by_cases hkd : p.kind = 2
     ·have hTE : Hid (foE (prevOf l k) x = if x.level < 0 ∨ p.level < x.level then 69 else partsE x) := by
       show _ = _
       rw [he]
       unfold foE topOf isText
       simp only [hkd]
       by_cases hz : x.level < 0 ∨ p.level < x.level
       ·rw [if_pos hz, if_pos]
        rcases hz with hz | hz
        ·exact .inl hz
        ·by_cases hy : p.level + 1 < x.level
         ·exact .inr (.inl hy)
         ·exact .inr (.inr ⟨rfl, by omega⟩)
       ·rw [if_neg hz, if_neg]
        rintro (h | h | ⟨_, h⟩) <;> omega
      have hTK : Hid (p.level ≤ (k : Int) + 1) := by show _ ≤ _; omega
      have hkd' : (p.kind != 2) = false := by simp [hkd]
      clear hkd he hp hAr
      by_cases c1 : x.level < 0
      ·have ho : foE (prevOf l k) x = 69 := by unfold foE; exact if_pos (.inl c1)
       rw [ho, if_neg (by decide)] at hin'
       have HIN := Lib.hid hin'
       clear ho hin'
       go_wp2_with fail
       go_ret
       exact ⟨by rw [← HIN.out]; rfl, hbel⟩
      have c1' : 0 ≤ x.level := by omega
      by_cases c2 : p.level < x.level
      ·have ho : foE (prevOf l k) x = 69 := by rw [hTE.out, if_pos (.inr c2)]
       rw [ho, if_neg (by decide)] at hin'
       have HIN := Lib.hid hin'
       clear ho hin'
       go_wp2_with fail
       go_ret
       exact ⟨by rw [← HIN.out]; rfl, hbel⟩
      have c2' : x.level ≤ p.level := by omega
      have ho : foE (prevOf l k) x = partsE x := by rw [hTE.out, if_neg (by omega)]
      obtain ⟨f, hf⟩ : ∃ f, Hid (partsE x = f) := ⟨_, rfl⟩
      rw [ho, hf.out] at hin'
      have HIN := Lib.hid hin'
      have HFO : Hid (f = 0 → 0 ≤ x.level ∧ x.level ≤ (k : Int) + 1) := fun _ => ⟨c1', by have := hTK.out; omega⟩
      clear hin' ho c1 c2
      by_cases hf0 : f = 0
      ·subst hf0
       go_wp2_with fail
       refine (RParts_any x A' c' wr (HAT.out.more hzr) hsx.out 0 hf).mono ?_
       rintro e2 w2 ⟨rfl, hb2⟩
       have HB2 : Hid (Below w.heap.size w w2) := hbel.trans (hb2.mono hzr)
       clear hb2
       go_wp2_with fail
       go_roundw
       case rel =>
        refine ⟨k + 1, by omega, by go_num, ?_, fun p hp => ?_, HB2.out⟩
        ·have := HIN.out
         rw [if_pos trivial] at this
         exact this
        rw [prevOf_succ hx.out] at hp
        injection hp with hp
        subst hp
        have := HFO.out (by trivial)
        exact ⟨this.1, by omega⟩
       case measure => simp [intOf]; omega
      ·have hfn : (f != 0) = true := by simpa using hf0
       go_wp2_with fail
       refine (RParts_any x A' c' wr (HAT.out.more hzr) hsx.out f hf).mono ?_
       rintro e2 w2 ⟨rfl, hb2⟩
       have HB2 : Hid (Below w.heap.size w w2) := hbel.trans (hb2.mono hzr)
       clear hb2
       go_wp2_with fail
       go_ret
       have hin := HIN.out
       rw [if_neg hf0] at hin
       exact ⟨by rw [← hin]; rfl, HB2.out⟩
     ·have hTE : Hid (foE (prevOf l k) x = if x.level < 0 ∨ p.level + 1 < x.level then 69 else partsE x) := by
       show _ = _
       rw [he]
       unfold foE topOf isText
       have hkf : (p.kind == 2) = false := by simpa using hkd
       simp only [hkf]
       by_cases hz : x.level < 0 ∨ p.level + 1 < x.level
       ·rw [if_pos hz, if_pos]
        rcases hz with hz | hz
        ·exact .inl hz
        ·exact .inr (.inl hz)
       ·rw [if_neg hz, if_neg]
        rintro (h | h | ⟨h, _⟩)
        ·omega
        ·omega
        ·cases h
      have hTK : Hid (p.level + 1 ≤ (k : Int) + 1) := by show _ ≤ _; omega
      have hkd' : (p.kind != 2) = true := by simpa using hkd
      clear hkd he hp hAr
      by_cases c1 : x.level < 0
      ·have ho : foE (prevOf l k) x = 69 := by unfold foE; exact if_pos (.inl c1)
       rw [ho, if_neg (by decide)] at hin'
       have HIN := Lib.hid hin'
       clear ho hin'
       go_wp2_with fail
       go_ret
       exact ⟨by rw [← HIN.out]; rfl, hbel⟩
      have c1' : 0 ≤ x.level := by omega
      by_cases c2 : (p.level + 1) < x.level
      ·have ho : foE (prevOf l k) x = 69 := by rw [hTE.out, if_pos (.inr c2)]
       rw [ho, if_neg (by decide)] at hin'
       have HIN := Lib.hid hin'
       clear ho hin'
       go_wp2_with fail
       go_ret
       exact ⟨by rw [← HIN.out]; rfl, hbel⟩
      have c2' : x.level ≤ (p.level + 1) := by omega
      have ho : foE (prevOf l k) x = partsE x := by rw [hTE.out, if_neg (by omega)]
      obtain ⟨f, hf⟩ : ∃ f, Hid (partsE x = f) := ⟨_, rfl⟩
      rw [ho, hf.out] at hin'
      have HIN := Lib.hid hin'
      have HFO : Hid (f = 0 → 0 ≤ x.level ∧ x.level ≤ (k : Int) + 1) := fun _ => ⟨c1', by have := hTK.out; omega⟩
      clear hin' ho c1 c2
      by_cases hf0 : f = 0
      ·subst hf0
       go_wp2_with fail
       refine (RParts_any x A' c' wr (HAT.out.more hzr) hsx.out 0 hf).mono ?_
       rintro e2 w2 ⟨rfl, hb2⟩
       have HB2 : Hid (Below w.heap.size w w2) := hbel.trans (hb2.mono hzr)
       clear hb2
       go_wp2_with fail
       go_roundw
       case rel =>
        refine ⟨k + 1, by omega, by go_num, ?_, fun p hp => ?_, HB2.out⟩
        ·have := HIN.out
         rw [if_pos trivial] at this
         exact this
        rw [prevOf_succ hx.out] at hp
        injection hp with hp
        subst hp
        have := HFO.out (by trivial)
        exact ⟨this.1, by omega⟩
       case measure => simp [intOf]; omega
      ·have hfn : (f != 0) = true := by simpa using hf0
       go_wp2_with fail
       refine (RParts_any x A' c' wr (HAT.out.more hzr) hsx.out f hf).mono ?_
       rintro e2 w2 ⟨rfl, hb2⟩
       have HB2 : Hid (Below w.heap.size w w2) := hbel.trans (hb2.mono hzr)
       clear hb2
       go_wp2_with fail
       go_ret
       have hin := HIN.out
       rw [if_neg hf0] at hin
       exact ⟨by rw [← hin]; rfl, HB2.out⟩
   ·have hk' : k = l.length := by omega
    have HIN : Hid (0 = V) := by
     obtain ⟨dp, h⟩ := hin.out
     rw [List.drop_eq_nil_of_le (by omega)] at h
     exact h
    subst hk'
    clear hin hlt hk hpv
    go_wp2_with fail
    go_ret
    exact ⟨by rw [← HIN.out]; rfl, hbel⟩
def deepL (dp : Int) (l : List ItemD) : Int := l.foldl (fun a x => max a x.level) dp
theorem forestF_deep : ∀ (l : List ItemD) (prev : Option ItemD) (dp n : Int), forestF prev dp l = (n, 0) → deepL dp l = n
 | [], _, dp, n, h => by injection h
 | x :: r, prev, dp, n, h => by
  unfold forestF at h
  by_cases hx : foE prev x = 0
  ·rw [if_pos hx] at h
   exact forestF_deep r _ _ _ h
  ·rw [if_neg hx] at h
   injection h with _ h
   exact absurd h hx
theorem deep_bound : ∀ (l : List ItemD) (dp : Int), (dp ≤ 1000000000) → (∀ x ∈ l, x.level ≤ 1000000000) → dp ≤ deepL dp l ∧ deepL dp l ≤ 1000000000
 | [], dp, h, _ => ⟨Int.le_refl _, h⟩
 | x :: r, dp, h, hx => by
  have h1 := hx x (by simp)
  have := deep_bound r (max dp x.level) (by omega) (fun z hz => hx z (List.mem_cons_of_mem _ hz))
  have e : deepL dp (x :: r) = deepL (max dp x.level) r := rfl
  rw [e]
  omega
theorem deep_snoc {l : List ItemD} {k : Nat} {x : ItemD} (h : l[k]? = some x) : deepL 0 (l.take (k + 1)) = max (deepL 0 (l.take k)) x.level := by
 unfold deepL
 rw [List.take_add_one, h]
 simp
theorem Rdeep_any (l : List ItemD) (A : Option Addr) (c : Nat) (w : World) (hA : ItemsAt w w.heap.size A l) (hs : l.length ≤ 1000000) (hlv : ∀ x ∈ l, x.level ≤ 1000000000) (V : Int) (hV : Hid (deepL 0 l = V)) :
  Calls Tryz.prog 85 #[.slice A l.length c] w (Ret w (.int .i64 V)) := by
 have HA := Lib.hid hA
 have HLV := Lib.hid hlv
 clear hA hlv
 go_enter Tryz.func85, Tryz.ntmps85
 go_wp2_with fail
 go_loopw [3, 4] (fun d i wr => ∃ (k : Nat) (dp : Int), k ≤ l.length ∧ i = .int .i64 k ∧ d = .int .i64 dp ∧ Hid (deepL 0 (l.take k) = dp) ∧ Below w.heap.size w wr) (fun _ i _ => l.length - (intOf i).toNat)
 case atStart => exact ⟨0, 0, Nat.zero_le _, rfl, rfl, rfl, Below.refl _ _⟩
 case round =>
  obtain ⟨k, dp, hk, rfl, rfl, hin, hbel⟩ := hrel
  have hzr := hbel.size
  by_cases hlt : k < l.length
  ·obtain ⟨x, hx⟩ : ∃ x, Hid (l[k]? = some x) := ⟨l[k], List.getElem?_eq_getElem _⟩
   have hAr := HA.out.below hbel
   obtain ⟨ad, hAd, _⟩ := hAr (by omega)
   subst hAd
   obtain ⟨hbl, A', c', hat, hac, h0, h1, h2, h3, h4⟩ := hAr.item hx.out
   have hlt' : (k : Int) < l.length := by omega
   have hi' : (0 : Int) ≤ (k : Int) := by omega
   have HIN : Hid (deepL 0 (l.take (k + 1)) = max dp x.level) := by show _ = _; rw [deep_snoc hx.out, hin.out]
   clear hin hac hat hAr
   go_wp2_with fail
   go_roundw
   case rel => exact ⟨k + 1, _, by omega, by go_num, by first | rfl | (congr 1; omega), HIN, hbel⟩
   case measure => simp [intOf]; omega
  ·have hk' : k = l.length := by omega
   have HIN : Hid (dp = V) := by
    show _ = _
    rw [← hin.out, hk', List.take_length, hV.out]
   subst hk'
   clear hin hlt hk
   go_wp2_with fail
   go_ret
   exact ⟨by rw [← HIN.out]; rfl, hbel⟩
end
section
open Go.RowKit Go.Shelf
variable {X : Nat → Prop}
theorem posL_lt (lv : Int) : ∀ (X : List RowD) (b : Nat), ∀ q ∈ posL lv b X, q < b + X.length
 | [], _, q, h => by simp [posL] at h
 | r :: X, b, q, h => by
  unfold posL at h
  rw [List.length_cons]
  split at h
  ·rcases List.mem_cons.1 h with h | h
   ·omega
   ·have := posL_lt lv X (b + 1) q h
    omega
  ·have := posL_lt lv X (b + 1) q h
   omega
theorem spot_le {L : List RowD} {k pl : Nat} (hk : k < L.length) : spotL L k pl ≤ L.length := by
 have h2 := end_le hk
 unfold spotL
 split
 ·rename_i q hq
  have := posL_lt _ _ _ q (List.mem_of_getElem? hq)
  have h3 : endL L k = k + 1 + (belowL L k).length := rfl
  omega
 ·exact h2.2
theorem RInsert_any (L : List RowD) (A : Option Addr) (c : Nat) (next id pl : Int) (l : List ItemD) (Al : Option Addr) (cl : Nat) (w : World) (hT : TreeR X w A c L) (hs : SmallRows L) (hlen : L.length ≤ 100000) (N : Nat) (hi : ItemsAt w N Al l) (hN : N ≤ w.heap.size) (hNX : ∀ b, b < N → X b) (hX : ∀ b, w.heap.size ≤ b → X b) (hsm : SmallItems l) (hln : l.length ≤ 100000) (hlv : (forestL l).2 = 0 → ∀ x ∈ l, (-1000000 ≤ x.level ∧ x.level ≤ 1000000)) (hnx : 0 ≤ next ∧ next ≤ 4294967296) :
  Calls Tryz.prog 64 #[.agg #[.slice A L.length c, .int .i64 next], .int .i64 id, .int .i64 pl, .slice Al l.length cl] w (TPost3 X w (insertL L next id pl l)) := by
 obtain ⟨hn0, hn1⟩ := hnx
 obtain ⟨v, hr⟩ : ∃ v, Hid (findI L id = v) := ⟨_, rfl⟩
 obtain ⟨a, ha⟩ : ∃ a, Hid (a = insertL L next id pl l) := ⟨_, rfl⟩
 rw [← ha.out]
 have HI := Lib.hid hi
 have HSM := Lib.hid hsm
 have HLV := Lib.hid hlv
 have HS := Lib.hid hs
 have HLEN := Lib.hid hlen
 have HLN := Lib.hid hln
 have HNX := Lib.hid hNX
 have HXN := Lib.hid hX
 clear hi hsm hlv hs hNX hX
 have l0 : (0 : Int) ≤ (l.length : Int) := by omega
 have l1 : (l.length : Int) ≤ 100000 := by omega
 have n0 : (0 : Int) ≤ (L.length : Int) := by omega
 have n1 : (L.length : Int) ≤ 100000 := by omega
 obtain ⟨W2, hW2⟩ : ∃ W2, Hid (W2 = (w.alloc (.cells #[.slice A L.length c, .int .i64 next] 29)).alloc (.cells #[.slice none 0 0, .int .i64 0] 29)) := ⟨_, rfl⟩
 have hb2 : Below w.heap.size w W2 := by rw [hW2.out]; exact ((Below.refl _ w).alloc (Nat.le_refl _) _).alloc (by simp) _
 have hz2 : W2.heap.size = w.heap.size + 2 := by rw [hW2.out]; simp
 have hx2 : W2.heap[w.heap.size]? = some (.cells (treeV A L.length c next) 29 (0, 0)) := by
  rw [hW2.out]
  exact (Below.heap_alloc _ _ _ (by simp)).trans (heap_alloc_new w _)
 have hy2 : W2.heap[w.heap.size + 1]? = some (.cells zeroT 29 (0, 0)) := by
  rw [hW2.out]
  have := heap_alloc_new (w.alloc (.cells #[.slice A L.length c, .int .i64 next] 29)) (.cells #[.slice none 0 0, .int .i64 0] 29)
  simpa [zeroT] using this
 have HT2 := Lib.hid (hT.below hb2)
 have HT := Lib.hid hT
 have HB2 := Lib.hid hb2
 have HX2 := Lib.hid hx2
 have HY2 := Lib.hid hy2
 have HZ2 := Lib.hid hz2
 clear hb2 hx2 hy2 hz2 hT
 cases hf : findL L id with
 | none =>
  have hr1 : v = -1 := by rw [← hr.out]; unfold findI; rw [hf]
  have HE : Hid (a = (L, next, 0, 60)) := by show _ = _; rw [ha.out]; unfold insertL; rw [hf]
  clear hf ha
  subst hr1
  go_enter Tryz.func64, Tryz.ntmps64
  go_wp2_with fail
  rw [← hW2.out]
  refine (RFind_any L A c next id W2 HT2.out.1 HS.out (-1) hr).mono ?_
  rintro e3 w3 ⟨rfl, hb3⟩
  have HB3 : Hid (Below w.heap.size w w3) := HB2.out.trans (hb3.mono HB2.out.size)
  have HX3 : Hid (w3.heap[w.heap.size]? = some (.cells (treeV A L.length c next) 29 (0, 0))) := (hb3.block w.heap.size (by have := HZ2.out; omega)).trans HX2.out
  have HY3 : Hid (w3.heap[w.heap.size + 1]? = some (.cells zeroT 29 (0, 0))) := (hb3.block (w.heap.size + 1) (by have := HZ2.out; omega)).trans HY2.out
  have HT3 := Lib.hid (HT2.out.below hb3)
  clear hb3
  go_upto_region 3 with (fail)
  have e0 := cell_row HX3.out 0 _ rfl
  have e1 := cell_row HX3.out 1 _ rfl
  go_wp2_with (refine wpList_store_row rfl 29 (.tmp 8) (.tmp 20) rfl (w.heap.size + 1) (treeV A L.length c next) rfl rfl 29 zeroT HY3.out (by kernel_rfl) rfl (treeV_one _ _ _ _) ?_)
  try simp only [Exit.inBlock, Exit.then]
  refine bodyPost_ret (results_cell2 Tryz.results64 _ _ (w.heap.size + 1) 29 (treeV A L.length c next) (0, 0) _ rfl (setRow_heap _ _ _ _ _ _ HY3.out) Tryz.underlying29 rfl (by kernel_rfl)) rfl ?_
  obtain ⟨q1, q2⟩ := HT3.out.laid HB3.out (g := w.heap.size + 1) (by omega) HY3.out (treeV A L.length c next)
  rw [HE.out]
  exact ⟨A, c, rfl, q1, q2⟩
 | some k =>
  have hr1 : v = (k : Int) := by rw [← hr.out]; unfold findI; rw [hf]
  have hk : k < L.length := find_lt hf
  have hkc : (k : Int) < (L.length : Int) := by omega
  subst hr1
  have k0 : (0 : Int) ≤ (k : Int) := by omega
  have HAD : Hid (∃ ad, A = some ad) := by
   obtain ⟨ad, hA, _⟩ := HT.out.1 (by omega)
   exact ⟨ad, hA⟩
  obtain ⟨⟨ri, r⟩, hrk⟩ : ∃ r, Hid (L[k]? = some r) := ⟨L[k], List.getElem?_eq_getElem _⟩
  obtain ⟨kn, hkn⟩ : ∃ kn, Hid ((kidsL L k).length = kn) := ⟨_, rfl⟩
  obtain ⟨fd, fe, hfo⟩ : ∃ fd fe, Hid (forestL l = (fd, fe)) := ⟨_, _, rfl⟩
  have hf' : insertL L next id pl l = if r.kind ≠ 1 then (L, next, 0, 68) else if pl < 0 ∨ (kn : Int) < pl then (L, next, 0, 69) else if fe ≠ 0 then (L, next, 0, fe) else if 40 ≤ r.level + 1 + fd then (L, next, 0, 65) else if 1000 < L.length + l.length ∨ 2147483647 < next + (l.length : Int) then (L, next, 0, 66) else (laidL L (spotL L k pl.toNat) (namedL next l (r.level + 1)), next + (l.length : Int), next, 0) := by
   unfold insertL
   rw [hf]
   simp only [hrk.out, hkn.out, hfo.out]
  have HRL : Hid (-1000000 ≤ r.level ∧ r.level ≤ 1000000) := (HS.out.2 ⟨ri, r⟩ (List.mem_of_getElem? hrk.out)).1
  have HA := Lib.hid (ha.out.trans hf')
  clear hf hf' ha
  go_enter Tryz.func64, Tryz.ntmps64
  go_wp2_with fail
  rw [← hW2.out]
  refine (RFind_any L A c next id W2 HT2.out.1 HS.out (k : Int) hr).mono ?_
  rintro e3 w3 ⟨rfl, hb3⟩
  have HB3 : Hid (Below w.heap.size w w3) := HB2.out.trans (hb3.mono HB2.out.size)
  have HX3 : Hid (w3.heap[w.heap.size]? = some (.cells (treeV A L.length c next) 29 (0, 0))) := (hb3.block w.heap.size (by have := HZ2.out; omega)).trans HX2.out
  have HY3 : Hid (w3.heap[w.heap.size + 1]? = some (.cells zeroT 29 (0, 0))) := (hb3.block (w.heap.size + 1) (by have := HZ2.out; omega)).trans HY2.out
  have HT3 := Lib.hid (HT2.out.below hb3)
  have HZ3 : Hid (w.heap.size + 2 ≤ w3.heap.size) := by show _ ≤ _; have := hb3.size; have := HZ2.out; omega
  have HB33 : Hid (Below w3.heap.size w3 w3) := Below.refl _ _
  clear hb3
  obtain ⟨ad, rfl⟩ := HAD.out
  have HIW : Hid (∀ W : World, Below w3.heap.size w3 W → ItemsAt W W.heap.size Al l) := fun W hb => by
   have hbw : Below w.heap.size w W := HB3.out.trans (hb.mono HB3.out.size)
   exact (HI.out.below (hbw.mono hN)).more (Nat.le_trans hN hbw.size)
  have HIN : Hid (∀ W : World, Below w3.heap.size w3 W → ItemsAt W N Al l ∧ N ≤ W.heap.size) := fun W hb => by
   have hbw : Below w.heap.size w W := HB3.out.trans (hb.mono HB3.out.size)
   exact ⟨HI.out.below (hbw.mono hN), Nat.le_trans hN hbw.size⟩
  obtain ⟨_, Ax, cx, hat, hac, k0', k1', k2', k3', k4', k5'⟩ := (show RowsAt X w3 w3.heap.size (some ad) L from HT3.out.1).row hrk.out
  have e0 : w3.cell? ⟨w.heap.size, 0, none⟩ = some (.slice (some ad) L.length c) := cell_row HX3.out 0 _ rfl
  have e1 : w3.cell? ⟨w.heap.size, 1, none⟩ = some (.int .i64 next) := cell_row HX3.out 1 _ rfl
  have HK1 := Lib.hid k1'
  clear k0' k1' k3' k4' k5' hat hac
  by_cases hkd : r.kind ≠ 1
  ·have HE : Hid (a = (L, next, 0, 68)) := HA.out.trans (if_pos hkd)
   have hkd' : (r.kind != 1) = true := by simpa using hkd
   clear hkd
   go_upto_region 5 with (fail)
   clear e0 e1 k2'
   go_upto_region 5 with (fail)
   have e0 := cell_row HX3.out 0 _ rfl
   have e1 := cell_row HX3.out 1 _ rfl
   go_wp2_with (refine wpList_store_row rfl 29 (.tmp 8) (.tmp 29) rfl (w.heap.size + 1) (treeV (some ad) L.length c next) rfl rfl 29 zeroT HY3.out (by kernel_rfl) rfl (treeV_one _ _ _ _) ?_)
   try simp only [Exit.inBlock, Exit.then]
   refine bodyPost_ret (results_cell2 Tryz.results64 _ _ (w.heap.size + 1) 29 (treeV (some ad) L.length c next) (0, 0) _ rfl (setRow_heap _ _ _ _ _ _ HY3.out) Tryz.underlying29 rfl (by kernel_rfl)) rfl ?_
   obtain ⟨q1, q2⟩ := HT3.out.laid HB3.out (g := w.heap.size + 1) (by omega) HY3.out (treeV (some ad) L.length c next)
   rw [HE.out]
   exact ⟨(some ad), c, rfl, q1, q2⟩
  replace HA := Lib.hid (HA.out.trans (if_neg hkd))
  have hkd' : (r.kind != 1) = false := by simpa using hkd
  clear hkd
  by_cases hp0 : pl < 0
  ·have HE : Hid (a = (L, next, 0, 69)) := HA.out.trans (if_pos (.inl hp0))
   go_upto_region 7 with (fail)
   clear e0 e1 k2'
   go_upto_region 7 with (fail)
   have e0 := cell_row HX3.out 0 _ rfl
   have e1 := cell_row HX3.out 1 _ rfl
   go_wp2_with (refine wpList_store_row rfl 29 (.tmp 8) (.tmp 40) rfl (w.heap.size + 1) (treeV (some ad) L.length c next) rfl rfl 29 zeroT HY3.out (by kernel_rfl) rfl (treeV_one _ _ _ _) ?_)
   try simp only [Exit.inBlock, Exit.then]
   refine bodyPost_ret (results_cell2 Tryz.results64 _ _ (w.heap.size + 1) 29 (treeV (some ad) L.length c next) (0, 0) _ rfl (setRow_heap _ _ _ _ _ _ HY3.out) Tryz.underlying29 rfl (by kernel_rfl)) rfl ?_
   obtain ⟨q1, q2⟩ := HT3.out.laid HB3.out (g := w.heap.size + 1) (by omega) HY3.out (treeV (some ad) L.length c next)
   rw [HE.out]
   exact ⟨(some ad), c, rfl, q1, q2⟩
  obtain ⟨pn, rfl⟩ : ∃ pn : Nat, pl = (pn : Int) := ⟨pl.toNat, by omega⟩
  have p0 : (0 : Int) ≤ (pn : Int) := by omega
  clear hp0
  go_wp2_with fail
  refine (Rkids_g L (some ad) c next k w3 HT3.out.1 HS.out hk).mono ?_
  rintro e4 w4 ⟨A4, c4, rfl, _, hb4⟩
  have hkn' : ((ints (kidsL L k)).length : Int) = (kn : Int) := by rw [ints_length, hkn.out]
  have kn0 : (0 : Int) ≤ (kn : Int) := by omega
  clear e0 e1 k2'
  have HB34 : Hid (Below w3.heap.size w3 w4) := HB33.out.trans (hb4.mono HB33.out.size)
  have HX4 : Hid (w4.heap[w.heap.size]? = some (.cells (treeV (some ad) L.length c next) 29 (0, 0))) := (HB34.out.block w.heap.size (by have := HZ3.out; omega)).trans HX3.out
  have HY4 : Hid (w4.heap[w.heap.size + 1]? = some (.cells zeroT 29 (0, 0))) := (HB34.out.block (w.heap.size + 1) (by have := HZ3.out; omega)).trans HY3.out
  have HT4 := Lib.hid (HT3.out.below HB34.out)
  have HB4 : Hid (Below w.heap.size w w4) := HB3.out.trans (HB34.out.mono HB3.out.size)
  clear hb4
  by_cases hp1 : (kn : Int) < (pn : Int)
  ·have HE : Hid (a = (L, next, 0, 69)) := HA.out.trans (if_pos (.inr hp1))
   go_upto_region 7 with (fail)
   have e0 := cell_row HX4.out 0 _ rfl
   have e1 := cell_row HX4.out 1 _ rfl
   go_wp2_with (refine wpList_store_row rfl 29 (.tmp 8) (.tmp 40) rfl (w.heap.size + 1) (treeV (some ad) L.length c next) rfl rfl 29 zeroT HY4.out (by kernel_rfl) rfl (treeV_one _ _ _ _) ?_)
   try simp only [Exit.inBlock, Exit.then]
   refine bodyPost_ret (results_cell2 Tryz.results64 _ _ (w.heap.size + 1) 29 (treeV (some ad) L.length c next) (0, 0) _ rfl (setRow_heap _ _ _ _ _ _ HY4.out) Tryz.underlying29 rfl (by kernel_rfl)) rfl ?_
   obtain ⟨q1, q2⟩ := HT4.out.laid HB4.out (g := w.heap.size + 1) (by omega) HY4.out (treeV (some ad) L.length c next)
   rw [HE.out]
   exact ⟨(some ad), c, rfl, q1, q2⟩
  replace HA := Lib.hid (HA.out.trans (if_neg (by omega)))
  go_wp2_with fail
  refine (RForest_any l Al cl w4 (HIW.out w4 HB34.out) HSM.out fe (by show (forestL l).2 = fe; rw [hfo.out])).mono ?_
  rintro e5 w5 ⟨rfl, hb5⟩
  have HB35 : Hid (Below w3.heap.size w3 w5) := HB34.out.trans (hb5.mono HB34.out.size)
  have HX5 : Hid (w5.heap[w.heap.size]? = some (.cells (treeV (some ad) L.length c next) 29 (0, 0))) := (HB35.out.block w.heap.size (by have := HZ3.out; omega)).trans HX3.out
  have HY5 : Hid (w5.heap[w.heap.size + 1]? = some (.cells zeroT 29 (0, 0))) := (HB35.out.block (w.heap.size + 1) (by have := HZ3.out; omega)).trans HY3.out
  have HT5 := Lib.hid (HT3.out.below HB35.out)
  have HB5 : Hid (Below w.heap.size w w5) := HB3.out.trans (HB35.out.mono HB3.out.size)
  clear hb5
  by_cases hfe : fe ≠ 0
  ·have HE : Hid (a = (L, next, 0, fe)) := HA.out.trans (if_pos hfe)
   have hfe' : (fe != 0) = true := by simpa using hfe
   clear hfe
   go_upto_region 10 with (fail)
   have e0 := cell_row HX5.out 0 _ rfl
   have e1 := cell_row HX5.out 1 _ rfl
   go_wp2_with (refine wpList_store_row rfl 29 (.tmp 8) (.tmp 45) rfl (w.heap.size + 1) (treeV (some ad) L.length c next) rfl rfl 29 zeroT HY5.out (by kernel_rfl) rfl (treeV_one _ _ _ _) ?_)
   try simp only [Exit.inBlock, Exit.then]
   refine bodyPost_ret (results_cell2 Tryz.results64 _ _ (w.heap.size + 1) 29 (treeV (some ad) L.length c next) (0, 0) _ rfl (setRow_heap _ _ _ _ _ _ HY5.out) Tryz.underlying29 rfl (by kernel_rfl)) rfl ?_
   obtain ⟨q1, q2⟩ := HT5.out.laid HB5.out (g := w.heap.size + 1) (by omega) HY5.out (treeV (some ad) L.length c next)
   rw [HE.out]
   exact ⟨(some ad), c, rfl, q1, q2⟩
  replace HA := Lib.hid (HA.out.trans (if_neg hfe))
  obtain rfl : fe = 0 := by omega
  replace HLV := Lib.hid (HLV.out (by rw [hfo.out]))
  clear hfe
  have hdp : Hid (deepL 0 l = fd) := by
   have h := hfo.out
   unfold forestL at h
   split at h
   ·injection h with _ h; cases h
   ·exact forestF_deep _ _ _ _ h
  have hfd : 0 ≤ fd ∧ fd ≤ 1000000000 := by
   have := deep_bound l 0 (by omega) (fun x hx => by have := HLV.out x hx; omega)
   rw [hdp.out] at this
   exact this
  obtain ⟨fd0, fd1⟩ := hfd
  obtain ⟨rl0, rl1⟩ := HRL.out
  obtain ⟨lv, hlv⟩ : ∃ lv, Hid (lv = r.level + 1) := ⟨_, rfl⟩
  have hlw : IntKind.i64.wrap (r.level + 1) = lv := by rw [hlv.out]; exact IntWalk.i64_in _ (by omega)
  have hlq := hlv.out
  have hdw : IntKind.i64.wrap (lv + fd) = lv + fd := IntWalk.i64_in _ (by omega)
  have e0 : w5.cell? ⟨w.heap.size, 0, none⟩ = some (.slice (some ad) L.length c) := cell_row HX5.out 0 _ rfl
  have e1 : w5.cell? ⟨w.heap.size, 1, none⟩ = some (.int .i64 next) := cell_row HX5.out 1 _ rfl
  obtain ⟨_, Ax5, cx5, _, _, _, k1', _, _, _, _⟩ := (show RowsAt X w5 w5.heap.size (some ad) L from HT5.out.1).row hrk.out
  have HLQ := Lib.hid hlq
  clear hlq
  go_upto_region 12 with (fail)
  clear e0 e1 k1'
  go_wp2_with fail
  refine (Rdeep_any l Al cl w5 (HIW.out w5 HB35.out) (by have := HLN.out; omega) (fun x hx => by have := HLV.out x hx; omega) fd hdp).mono ?_
  rintro e6 w6 ⟨rfl, hb6⟩
  have HB36 : Hid (Below w3.heap.size w3 w6) := HB35.out.trans (hb6.mono HB35.out.size)
  have HX6 : Hid (w6.heap[w.heap.size]? = some (.cells (treeV (some ad) L.length c next) 29 (0, 0))) := (HB36.out.block w.heap.size (by have := HZ3.out; omega)).trans HX3.out
  have HY6 : Hid (w6.heap[w.heap.size + 1]? = some (.cells zeroT 29 (0, 0))) := (HB36.out.block (w.heap.size + 1) (by have := HZ3.out; omega)).trans HY3.out
  have HT6 := Lib.hid (HT3.out.below HB36.out)
  have HB6 : Hid (Below w.heap.size w w6) := HB3.out.trans (HB36.out.mono HB3.out.size)
  clear hb6
  by_cases hd : 40 ≤ lv + fd
  ·have HE : Hid (a = (L, next, 0, 65)) := HA.out.trans (if_pos (by rw [← HLQ.out]; exact hd))
   go_upto_region 13 with (fail)
   have e0 := cell_row HX6.out 0 _ rfl
   have e1 := cell_row HX6.out 1 _ rfl
   go_wp2_with (refine wpList_store_row rfl 29 (.tmp 8) (.tmp 60) rfl (w.heap.size + 1) (treeV (some ad) L.length c next) rfl rfl 29 zeroT HY6.out (by kernel_rfl) rfl (treeV_one _ _ _ _) ?_)
   try simp only [Exit.inBlock, Exit.then]
   refine bodyPost_ret (results_cell2 Tryz.results64 _ _ (w.heap.size + 1) 29 (treeV (some ad) L.length c next) (0, 0) _ rfl (setRow_heap _ _ _ _ _ _ HY6.out) Tryz.underlying29 rfl (by kernel_rfl)) rfl ?_
   obtain ⟨q1, q2⟩ := HT6.out.laid HB6.out (g := w.heap.size + 1) (by omega) HY6.out (treeV (some ad) L.length c next)
   rw [HE.out]
   exact ⟨(some ad), c, rfl, q1, q2⟩
  replace HA := Lib.hid (HA.out.trans (if_neg (by rw [← HLQ.out]; exact hd)))
  have hd' : lv + fd < 40 := by omega
  clear hd
  have e0 : w6.cell? ⟨w.heap.size, 0, none⟩ = some (.slice (some ad) L.length c) := cell_row HX6.out 0 _ rfl
  have e1 : w6.cell? ⟨w.heap.size, 1, none⟩ = some (.int .i64 next) := cell_row HX6.out 1 _ rfl
  have hw1 : IntKind.i64.wrap ((L.length : Int) + (l.length : Int)) = (L.length : Int) + (l.length : Int) := IntWalk.i64_in _ (by omega)
  have hw2 : IntKind.i64.wrap (next + (l.length : Int)) = next + (l.length : Int) := IntWalk.i64_in _ (by omega)
  by_cases hm1 : 1000 < L.length + l.length
  ·have HE : Hid (a = (L, next, 0, 66)) := HA.out.trans (if_pos (.inl hm1))
   have hm1' : (1000 : Int) < (L.length : Int) + (l.length : Int) := by omega
   go_upto_region 15 with (fail)
   clear e0 e1
   go_upto_region 15 with (fail)
   have e0 := cell_row HX6.out 0 _ rfl
   have e1 := cell_row HX6.out 1 _ rfl
   go_wp2_with (refine wpList_store_row rfl 29 (.tmp 8) (.tmp 76) rfl (w.heap.size + 1) (treeV (some ad) L.length c next) rfl rfl 29 zeroT HY6.out (by kernel_rfl) rfl (treeV_one _ _ _ _) ?_)
   try simp only [Exit.inBlock, Exit.then]
   refine bodyPost_ret (results_cell2 Tryz.results64 _ _ (w.heap.size + 1) 29 (treeV (some ad) L.length c next) (0, 0) _ rfl (setRow_heap _ _ _ _ _ _ HY6.out) Tryz.underlying29 rfl (by kernel_rfl)) rfl ?_
   obtain ⟨q1, q2⟩ := HT6.out.laid HB6.out (g := w.heap.size + 1) (by omega) HY6.out (treeV (some ad) L.length c next)
   rw [HE.out]
   exact ⟨(some ad), c, rfl, q1, q2⟩
  have hm1' : ¬ (1000 : Int) < (L.length : Int) + (l.length : Int) := by omega
  by_cases hm2 : 2147483647 < next + (l.length : Int)
  ·have HE : Hid (a = (L, next, 0, 66)) := HA.out.trans (if_pos (.inr hm2))
   go_upto_region 15 with (fail)
   clear e0 e1
   go_upto_region 15 with (fail)
   have e0 := cell_row HX6.out 0 _ rfl
   have e1 := cell_row HX6.out 1 _ rfl
   go_wp2_with (refine wpList_store_row rfl 29 (.tmp 8) (.tmp 76) rfl (w.heap.size + 1) (treeV (some ad) L.length c next) rfl rfl 29 zeroT HY6.out (by kernel_rfl) rfl (treeV_one _ _ _ _) ?_)
   try simp only [Exit.inBlock, Exit.then]
   refine bodyPost_ret (results_cell2 Tryz.results64 _ _ (w.heap.size + 1) 29 (treeV (some ad) L.length c next) (0, 0) _ rfl (setRow_heap _ _ _ _ _ _ HY6.out) Tryz.underlying29 rfl (by kernel_rfl)) rfl ?_
   obtain ⟨q1, q2⟩ := HT6.out.laid HB6.out (g := w.heap.size + 1) (by omega) HY6.out (treeV (some ad) L.length c next)
   rw [HE.out]
   exact ⟨(some ad), c, rfl, q1, q2⟩
  obtain ⟨sp, hsp⟩ : ∃ sp, Hid (spotL L k pn = sp) := ⟨_, rfl⟩
  have HE : Hid (a = (laidL L sp (namedL next l lv), next + (l.length : Int), next, 0)) := HA.out.trans ((if_neg (by omega)).trans (by rw [hlv.out, ← hsp.out]; rfl))
  have hm2' : ¬ (2147483647 : Int) < next + (l.length : Int) := hm2
  go_upto_region 16 with (fail)
  clear hm1 hm1' hm2 hm2' hd'
  have hS : Hid (w6.drew.cell? ⟨w.heap.size, 0, none⟩ = some (.slice (some ad) L.length c) ∧ w6.drew.cell? ⟨w.heap.size, 1, none⟩ = some (.int .i64 next)) := ⟨e0, e1⟩
  clear e0 e1
  refine wp_region_held_drew (S := fun w' => w'.cell? ⟨w.heap.size, 0, none⟩ = some (.slice (some ad) L.length c) ∧ w'.cell? ⟨w.heap.size, 1, none⟩ = some (.int .i64 next)) (by kernel_rfl) hS.out (fun hHeld => ?_)
  refine tkv 0 (h := tkv 1 (h := tkv 2 (h := tkv 3 (h := ?_))))
  refine tkv 5 (h := tkv 6 (h := tkv 7 (h := ?_)))
  have hb7 : Below w6.heap.size w6 w6.drew := ⟨rfl, rfl, rfl, Nat.le_refl _, fun _ _ => rfl⟩
  obtain ⟨w7, hw7⟩ : ∃ w7, Hid (w6.drew = w7) := ⟨_, rfl⟩
  rw [hw7.out] at hb7 ⊢
  have HB37 : Hid (Below w3.heap.size w3 w7) := HB36.out.trans (hb7.mono HB36.out.size)
  have HX7 : Hid (w7.heap[w.heap.size]? = some (.cells (treeV (some ad) L.length c next) 29 (0, 0))) := (HB37.out.block w.heap.size (by have := HZ3.out; omega)).trans HX3.out
  have HY7 : Hid (w7.heap[w.heap.size + 1]? = some (.cells zeroT 29 (0, 0))) := (HB37.out.block (w.heap.size + 1) (by have := HZ3.out; omega)).trans HY3.out
  have HT7 := Lib.hid (HT3.out.below HB37.out)
  have HB7 : Hid (Below w.heap.size w w7) := HB3.out.trans (HB37.out.mono HB3.out.size)
  clear hb7
  have HPN : Hid (pn ≤ 1000000 ∧ sp ≤ L.length) := by
   have h1 := posL_len (lvlL L k + 1) (belowL L k) (k + 1)
   have h2 := end_le hk
   have h3 : endL L k = k + 1 + (belowL L k).length := rfl
   have h5 : (kidsL L k).length = (posL (lvlL L k + 1) (k + 1) (belowL L k)).length := rfl
   have h6 := hkn.out
   have h7 := HLEN.out
   have h8 := hp1
   refine ⟨by omega, ?_⟩
   rw [← hsp.out]
   exact spot_le hk
  clear hp1
  refine wpAnyH_ready (rs := [4, 10]) (by kernel_rfl) (by simp) ?_
  refine AllReadyH.cons (o := ⟨_, _, _, _, _, _⟩) rfl (fun K hK => ?_) (AllReadyH.cons (o := ⟨_, _, _, _, _, _⟩) rfl (fun K hK => ?_) AllReadyH.nil)
  ·go_simp
   refine (Rspot_g L (some ad) c next k pn w7 HT7.out.1 HS.out hk HPN.out.1 sp hsp).mono ?_
   rintro e8 w8 ⟨rfl, hb8⟩
   go_wp2_with fail
   have HB38 : Hid (Below w3.heap.size w3 w8) := HB37.out.trans (hb8.mono HB37.out.size)
   have HX8 : Hid (w8.heap[w.heap.size]? = some (.cells (treeV (some ad) L.length c next) 29 (0, 0))) := (HB38.out.block w.heap.size (by have := HZ3.out; omega)).trans HX3.out
   have HY8 : Hid (w8.heap[w.heap.size + 1]? = some (.cells zeroT 29 (0, 0))) := (HB38.out.block (w.heap.size + 1) (by have := HZ3.out; omega)).trans HY3.out
   have HT8 := Lib.hid (HT3.out.below HB38.out)
   have HB8 : Hid (Below w.heap.size w w8) := HB3.out.trans (HB38.out.mono HB3.out.size)
   clear hb8
   refine hK.out _ _ (⟨cell_row HX8.out 0 _ rfl, cell_row HX8.out 1 _ rfl⟩) (fun hHeld => ?_)
   clear hK K
   try go_frame
   refine wpAnyH_ready (rs := [8, 10]) (by kernel_rfl) (by simp) ?_
   refine AllReadyH.cons (o := ⟨_, _, _, _, _, _⟩) rfl (fun K hK => ?_) (AllReadyH.cons (o := ⟨_, _, _, _, _, _⟩) rfl (fun K hK => ?_) AllReadyH.nil)
   ·go_simp
    refine (Rnamed_g (some ad) L.length c next lv l Al cl N w8 (HIN.out w8 HB38.out).1 (HIN.out w8 HB38.out).2 (by omega) HLV.out (by have := HLQ.out; omega) (by omega) HNX.out).mono ?_
    rintro e9 w9 ⟨A8, c8, S8, rfl, hS8, hown8, hat8, hb9⟩
    have hT8 := TreeR.of hown8 (hat8.more (HIN.out w8 HB38.out).2) hb9 hS8 (fun b hb => HXN.out b (Nat.le_trans HB8.out.size hb))
    have hsl8 := congrArg List.length hS8
    rw [List.length_map] at hsl8
    rw [hsl8]
    have HN9 := Lib.hid hT8.1
    clear hown8 hat8 hS8 hsl8 hT8
    go_wp2_with fail
    have HB39 : Hid (Below w3.heap.size w3 w9) := HB38.out.trans (hb9.mono HB38.out.size)
    have HX9 : Hid (w9.heap[w.heap.size]? = some (.cells (treeV (some ad) L.length c next) 29 (0, 0))) := (HB39.out.block w.heap.size (by have := HZ3.out; omega)).trans HX3.out
    have HY9 : Hid (w9.heap[w.heap.size + 1]? = some (.cells zeroT 29 (0, 0))) := (HB39.out.block (w.heap.size + 1) (by have := HZ3.out; omega)).trans HY3.out
    have HT9 := Lib.hid (HT3.out.below HB39.out)
    have HB9 : Hid (Below w.heap.size w w9) := HB3.out.trans (HB39.out.mono HB3.out.size)
    clear hb9
    refine hK.out _ _ (⟨cell_row HX9.out 0 _ rfl, cell_row HX9.out 1 _ rfl⟩) (fun hHeld => ?_)
    clear hK K
    try go_frame
    refine wpAnyH_ready (rs := [9, 10]) (by kernel_rfl) (by simp) ?_
    refine AllReadyH.cons (o := ⟨_, _, _, _, _, _⟩) rfl (fun K hK => ?_) (AllReadyH.cons (o := ⟨_, _, _, _, _, _⟩) rfl (fun K hK => ?_) AllReadyH.nil)
    ·go_simp
     refine (Rlaid_g L ad c next sp (namedL next l lv) A8 c8 w9 HT9.out.1 HS.out HT9.out.2 HN9.out (by rw [named_length]; omega) HPN.out.2 HLEN.out).mono ?_
     rintro e10 w10 ⟨A9, c9, S9, rfl, hS9, hown9, hat9, hb10⟩
     have hT9 := TreeR.of hown9 hat9 hb10 hS9 (fun b hb => HXN.out b (Nat.le_trans HB9.out.size hb))
     have hsl9 := congrArg List.length hS9
     rw [List.length_map] at hsl9
     obtain ⟨L', hL'⟩ : ∃ L', Hid (laidL L sp (namedL next l lv) = L') := ⟨_, rfl⟩
     rw [hL'.out] at hsl9 hT9
     rw [hsl9]
     have HR10 := Lib.hid hT9
     clear hown9 hat9 hS9 hsl9 hT9
     go_wp2_with fail
     have HB310 : Hid (Below w3.heap.size w3 w10) := HB39.out.trans (hb10.mono HB39.out.size)
     have HX10 : Hid (w10.heap[w.heap.size]? = some (.cells (treeV (some ad) L.length c next) 29 (0, 0))) := (HB310.out.block w.heap.size (by have := HZ3.out; omega)).trans HX3.out
     have HY10 : Hid (w10.heap[w.heap.size + 1]? = some (.cells zeroT 29 (0, 0))) := (HB310.out.block (w.heap.size + 1) (by have := HZ3.out; omega)).trans HY3.out
     have HT10 := Lib.hid (HT3.out.below HB310.out)
     have HB10 : Hid (Below w.heap.size w w10) := HB3.out.trans (HB310.out.mono HB3.out.size)
     clear hb10
     refine hK.out _ _ (⟨cell_row HX10.out 0 _ rfl, cell_row HX10.out 1 _ rfl⟩) (fun hHeld => ?_)
     clear hK K
     try go_frame
     refine rdy 10 (fun K hK => ?_)
     go_simp
     obtain ⟨w11, hw11⟩ : ∃ w11, Hid (w10.alloc (.cells #[.slice none 0 0, .int .i64 0] 29) = w11) := ⟨_, rfl⟩
     obtain ⟨G, hG⟩ : ∃ G, Hid (w10.heap.size = G) := ⟨_, rfl⟩
     have hb11 : Below w10.heap.size w10 w11 := by rw [← hw11.out]; exact (Below.refl _ _).alloc (Nat.le_refl _) _
     have HG11 : Hid (w11.heap[G]? = some (.cells zeroT 29 (0, 0))) := by show _ = _; rw [← hw11.out, ← hG.out]; exact heap_alloc_new _ _
     have HGZ11 : Hid (G < w11.heap.size) := by show _ < _; rw [← hw11.out, ← hG.out]; simp
     have HGL : Hid (w3.heap.size ≤ G) := by show _ ≤ _; rw [← hG.out]; exact HB310.out.size
     rw [hw11.out, hG.out]
     have HR11 := Lib.hid (HR10.out.below hb11)
     have HB311 : Hid (Below w3.heap.size w3 w11) := HB310.out.trans (hb11.mono HB310.out.size)
     have HX11 : Hid (w11.heap[w.heap.size]? = some (.cells (treeV (some ad) L.length c next) 29 (0, 0))) := (HB311.out.block w.heap.size (by have := HZ3.out; omega)).trans HX3.out
     have HY11 : Hid (w11.heap[w.heap.size + 1]? = some (.cells zeroT 29 (0, 0))) := (HB311.out.block (w.heap.size + 1) (by have := HZ3.out; omega)).trans HY3.out
     have HT11 := Lib.hid (HT3.out.below HB311.out)
     have HB11 : Hid (Below w.heap.size w w11) := HB3.out.trans (HB311.out.mono HB3.out.size)
     clear hb11
     refine hK.out _ _ (⟨cell_row HX11.out 0 _ rfl, cell_row HX11.out 1 _ rfl⟩) (fun hHeld => ?_)
     clear hK K
     try go_frame
     refine rdy 11 (fun K hK => ?_)
     refine step_store_row rfl 29 (.tmp 14) (.tmp 86) rfl G (treeV A9 L'.length c9 next) rfl rfl 29 zeroT HG11.out (by kernel_rfl) rfl (treeV_one _ _ _ _) ?_
     obtain ⟨q1, q2⟩ := HR11.out.laid HB11.out (g := G) (by have := HGL.out; have := HZ3.out; omega) HG11.out (treeV A9 L'.length c9 next)
     have HQ1 := Lib.hid q1
     have HQ2 := Lib.hid q2
     obtain ⟨w12, hw12⟩ : ∃ w12, Hid (w11.setRow G (treeV A9 L'.length c9 next) = w12) := ⟨_, rfl⟩
     have HX12 : Hid (w12.heap[w.heap.size]? = some (.cells (treeV (some ad) L.length c next) 29 (0, 0))) := by show _ = _; rw [← hw12.out, setRow_other _ _ _ _ (by have := HGL.out; have := HZ3.out; omega)]; exact HX11.out
     have HY12 : Hid (w12.heap[w.heap.size + 1]? = some (.cells zeroT 29 (0, 0))) := by show _ = _; rw [← hw12.out, setRow_other _ _ _ _ (by have := HGL.out; have := HZ3.out; omega)]; exact HY11.out
     have HG12 : Hid (w12.heap[G]? = some (.cells (treeV A9 L'.length c9 next) 29 (0, 0))) := by show _ = _; rw [← hw12.out]; exact setRow_heap _ _ _ _ _ _ HG11.out
     rw [hw12.out] at HQ1 HQ2 ⊢
     clear q1 q2
     refine hK.out _ _ (⟨cell_row HX12.out 0 _ rfl, cell_row HX12.out 1 _ rfl⟩) (fun hHeld => ?_)
     clear hK K
     try go_frame
     refine wpAnyH_done (by kernel_rfl) ?_ _
     have e1 : w12.cell? ⟨w.heap.size, 1, none⟩ = some (.int .i64 next) := cell_row HX12.out 1 _ rfl
     have g1 : w12.cell? ⟨G, 1, none⟩ = some (.int .i64 next) := cell_row HG12.out 1 _ rfl
     have fG := free_row HG12.out 1
     go_upto_region 18 with (fail)
     clear e1 g1 fG
     have hsr : w12.setCell ⟨G, 1, none⟩ (.int .i64 (next + (l.length : Int))) = w12.setRow G (treeV A9 L'.length c9 (next + (l.length : Int))) := setCell_eq_setRow w12 G 1 _ _ (0, 0) _ HG12.out
     rw [hsr]
     obtain ⟨w13, hw13⟩ : ∃ w13, Hid (w12.setRow G (treeV A9 L'.length c9 (next + (l.length : Int))) = w13) := ⟨_, rfl⟩
     have HX13 : Hid (w13.heap[w.heap.size]? = some (.cells (treeV (some ad) L.length c next) 29 (0, 0))) := by show _ = _; rw [← hw13.out, setRow_other _ _ _ _ (by have := HGL.out; have := HZ3.out; omega)]; exact HX12.out
     have HY13 : Hid (w13.heap[w.heap.size + 1]? = some (.cells zeroT 29 (0, 0))) := by show _ = _; rw [← hw13.out, setRow_other _ _ _ _ (by have := HGL.out; have := HZ3.out; omega)]; exact HY12.out
     have HG13 : Hid (w13.heap[G]? = some (.cells (treeV A9 L'.length c9 (next + (l.length : Int))) 29 (0, 0))) := by show _ = _; rw [← hw13.out]; exact setRow_heap _ _ _ _ _ _ HG12.out
     have HR13 : Hid (TreeR X w13 A9 c9 L') := by
      refine ⟨?_, HQ1.out.2⟩
      rw [← hw13.out, setRow_size]
      exact HQ1.out.1.setRow HG12.out (treeV_no _ _ _ _) _
     have HB13 : Hid (Below w.heap.size w w13) := by
      show Below _ _ _
      rw [← hw13.out]
      have h := HQ2.out
      exact ⟨h.os, h.tape, h.output, by rw [setRow_size]; exact h.size, fun b hb => (setRow_other _ _ _ _ (by have := HGL.out; have := HZ3.out; omega)).trans (h.block b hb)⟩
     rw [hw13.out]
     clear hsr
     obtain ⟨w14, hw14⟩ : ∃ w14, Hid (w13.drew = w14) := ⟨_, rfl⟩
     have hb14 : Below w13.heap.size w13 w14 := by rw [← hw14.out]; exact ⟨rfl, rfl, rfl, Nat.le_refl _, fun _ _ => rfl⟩
     have hx14 : w14.heap[w.heap.size]? = some (.cells (treeV (some ad) L.length c next) 29 (0, 0)) := by rw [← hw14.out]; exact HX13.out
     have HY14 : Hid (w14.heap[w.heap.size + 1]? = some (.cells zeroT 29 (0, 0))) := by show _ = _; rw [← hw14.out]; exact HY13.out
     have hg14 : w14.heap[G]? = some (.cells (treeV A9 L'.length c9 (next + (l.length : Int))) 29 (0, 0)) := by rw [← hw14.out]; exact HG13.out
     have HR14 := Lib.hid (HR13.out.below hb14)
     have HB14 : Hid (Below w.heap.size w w14) := HB13.out.trans (hb14.mono HB13.out.size)
     have hS14 : Hid (w13.drew.cell? ⟨w.heap.size, 1, none⟩ = some (.int .i64 next) ∧ w13.drew.cell? ⟨G, 0, none⟩ = some (.slice A9 L'.length c9) ∧ w13.drew.cell? ⟨G, 1, none⟩ = some (.int .i64 (next + (l.length : Int)))) := by
      show _ ∧ _
      rw [hw14.out]
      exact ⟨cell_row hx14 1 _ rfl, cell_row hg14 0 _ rfl, cell_row hg14 1 _ rfl⟩
     refine wp_region_held_drew (S := fun w' => w'.cell? ⟨w.heap.size, 1, none⟩ = some (.int .i64 next) ∧ w'.cell? ⟨G, 0, none⟩ = some (.slice A9 L'.length c9) ∧ w'.cell? ⟨G, 1, none⟩ = some (.int .i64 (next + (l.length : Int)))) (by kernel_rfl) hS14.out (fun hHeld => ?_)
     refine tkv 0 (h := tkv 1 (h := tkv 2 (h := ?_)))
     rw [hw14.out]
     refine rdy 3 (fun K hK => ?_)
     refine step_store_row rfl 29 (.tmp 8) (.tmp 93) rfl (w.heap.size + 1) (treeV A9 L'.length c9 (next + (l.length : Int))) rfl rfl 29 zeroT HY14.out (by kernel_rfl) rfl (treeV_one _ _ _ _) ?_
     obtain ⟨q1, q2⟩ := HR14.out.laid HB14.out (g := w.heap.size + 1) (by omega) HY14.out (treeV A9 L'.length c9 (next + (l.length : Int)))
     have HP1 := Lib.hid q1
     have HP2 := Lib.hid q2
     obtain ⟨w15, hw15⟩ : ∃ w15, Hid (w14.setRow (w.heap.size + 1) (treeV A9 L'.length c9 (next + (l.length : Int))) = w15) := ⟨_, rfl⟩
     have hx15 : w15.heap[w.heap.size]? = some (.cells (treeV (some ad) L.length c next) 29 (0, 0)) := by rw [← hw15.out, setRow_other _ _ _ _ (by omega)]; exact hx14
     have hg15 : w15.heap[G]? = some (.cells (treeV A9 L'.length c9 (next + (l.length : Int))) 29 (0, 0)) := by rw [← hw15.out, setRow_other _ _ _ _ (by have := HGL.out; have := HZ3.out; omega)]; exact hg14
     have HY15 : Hid (w15.heap[w.heap.size + 1]? = some (.cells (treeV A9 L'.length c9 (next + (l.length : Int))) 29 (0, 0))) := by show _ = _; rw [← hw15.out]; exact setRow_heap _ _ _ _ _ _ HY14.out
     have hS15 : Hid (w15.cell? ⟨w.heap.size, 1, none⟩ = some (.int .i64 next) ∧ w15.cell? ⟨G, 0, none⟩ = some (.slice A9 L'.length c9) ∧ w15.cell? ⟨G, 1, none⟩ = some (.int .i64 (next + (l.length : Int)))) := ⟨cell_row hx15 1 _ rfl, cell_row hg15 0 _ rfl, cell_row hg15 1 _ rfl⟩
     rw [hw15.out] at HP1 HP2 ⊢
     clear hx14 hg14 hx15 hg15 q1 q2 hb14
     refine hK.out _ _ (hS15.out) (fun hHeld => ?_)
     clear hK K
     try go_frame
     refine tkv 4 (h := tkv 5 (h := ?_))
     refine wpAnyH_done (by kernel_rfl) ?_ _
     go_wp2_with fail
     refine bodyPost_ret (results_cell2 Tryz.results64 _ _ (w.heap.size + 1) 29 (treeV A9 L'.length c9 (next + (l.length : Int))) (0, 0) _ rfl HY15.out Tryz.underlying29 rfl (by kernel_rfl)) rfl ?_
     rw [HE.out, hL'.out]
     exact ⟨A9, c9, rfl, HP1.out, HP2.out⟩
    ·go_simp
     obtain ⟨w10, hw10⟩ : ∃ w10, Hid (w9.alloc (.cells #[.slice none 0 0, .int .i64 0] 29) = w10) := ⟨_, rfl⟩
     obtain ⟨G, hG⟩ : ∃ G, Hid (w9.heap.size = G) := ⟨_, rfl⟩
     have hb10 : Below w9.heap.size w9 w10 := by rw [← hw10.out]; exact (Below.refl _ _).alloc (Nat.le_refl _) _
     have HG10 : Hid (w10.heap[G]? = some (.cells zeroT 29 (0, 0))) := by show _ = _; rw [← hw10.out, ← hG.out]; exact heap_alloc_new _ _
     have HGZ10 : Hid (G < w10.heap.size) := by show _ < _; rw [← hw10.out, ← hG.out]; simp
     have HGL : Hid (w3.heap.size ≤ G) := by show _ ≤ _; rw [← hG.out]; exact HB39.out.size
     rw [hw10.out, hG.out]
     have HN10 := Lib.hid ((HN9.out.below hb10).more hb10.size)
     have HB310 : Hid (Below w3.heap.size w3 w10) := HB39.out.trans (hb10.mono HB39.out.size)
     have HX10 : Hid (w10.heap[w.heap.size]? = some (.cells (treeV (some ad) L.length c next) 29 (0, 0))) := (HB310.out.block w.heap.size (by have := HZ3.out; omega)).trans HX3.out
     have HY10 : Hid (w10.heap[w.heap.size + 1]? = some (.cells zeroT 29 (0, 0))) := (HB310.out.block (w.heap.size + 1) (by have := HZ3.out; omega)).trans HY3.out
     have HT10 := Lib.hid (HT3.out.below HB310.out)
     have HB10 : Hid (Below w.heap.size w w10) := HB3.out.trans (HB310.out.mono HB3.out.size)
     clear hb10
     refine hK.out _ _ (⟨cell_row HX10.out 0 _ rfl, cell_row HX10.out 1 _ rfl⟩) (fun hHeld => ?_)
     clear hK K
     try go_frame
     refine rdy 9 (fun K hK => ?_)
     go_simp
     refine (Rlaid_g L ad c next sp (namedL next l lv) A8 c8 w10 HT10.out.1 HS.out HT10.out.2 HN10.out (by rw [named_length]; omega) HPN.out.2 HLEN.out).mono ?_
     rintro e11 w11 ⟨A9, c9, S9, rfl, hS9, hown9, hat9, hb11⟩
     have hT9 := TreeR.of hown9 hat9 hb11 hS9 (fun b hb => HXN.out b (Nat.le_trans HB10.out.size hb))
     have hsl9 := congrArg List.length hS9
     rw [List.length_map] at hsl9
     obtain ⟨L', hL'⟩ : ∃ L', Hid (laidL L sp (namedL next l lv) = L') := ⟨_, rfl⟩
     rw [hL'.out] at hsl9 hT9
     rw [hsl9]
     have HR11 := Lib.hid hT9
     clear hown9 hat9 hS9 hsl9 hT9
     go_wp2_with fail
     have HG11 : Hid (w11.heap[G]? = some (.cells zeroT 29 (0, 0))) := (hb11.block G HGZ10.out).trans HG10.out
     have HGZ11 : Hid (G < w11.heap.size) := Nat.lt_of_lt_of_le HGZ10.out hb11.size
     have HB311 : Hid (Below w3.heap.size w3 w11) := HB310.out.trans (hb11.mono HB310.out.size)
     have HX11 : Hid (w11.heap[w.heap.size]? = some (.cells (treeV (some ad) L.length c next) 29 (0, 0))) := (HB311.out.block w.heap.size (by have := HZ3.out; omega)).trans HX3.out
     have HY11 : Hid (w11.heap[w.heap.size + 1]? = some (.cells zeroT 29 (0, 0))) := (HB311.out.block (w.heap.size + 1) (by have := HZ3.out; omega)).trans HY3.out
     have HT11 := Lib.hid (HT3.out.below HB311.out)
     have HB11 : Hid (Below w.heap.size w w11) := HB3.out.trans (HB311.out.mono HB3.out.size)
     clear hb11
     refine hK.out _ _ (⟨cell_row HX11.out 0 _ rfl, cell_row HX11.out 1 _ rfl⟩) (fun hHeld => ?_)
     clear hK K
     try go_frame
     refine rdy 11 (fun K hK => ?_)
     refine step_store_row rfl 29 (.tmp 14) (.tmp 86) rfl G (treeV A9 L'.length c9 next) rfl rfl 29 zeroT HG11.out (by kernel_rfl) rfl (treeV_one _ _ _ _) ?_
     obtain ⟨q1, q2⟩ := HR11.out.laid HB11.out (g := G) (by have := HGL.out; have := HZ3.out; omega) HG11.out (treeV A9 L'.length c9 next)
     have HQ1 := Lib.hid q1
     have HQ2 := Lib.hid q2
     obtain ⟨w12, hw12⟩ : ∃ w12, Hid (w11.setRow G (treeV A9 L'.length c9 next) = w12) := ⟨_, rfl⟩
     have HX12 : Hid (w12.heap[w.heap.size]? = some (.cells (treeV (some ad) L.length c next) 29 (0, 0))) := by show _ = _; rw [← hw12.out, setRow_other _ _ _ _ (by have := HGL.out; have := HZ3.out; omega)]; exact HX11.out
     have HY12 : Hid (w12.heap[w.heap.size + 1]? = some (.cells zeroT 29 (0, 0))) := by show _ = _; rw [← hw12.out, setRow_other _ _ _ _ (by have := HGL.out; have := HZ3.out; omega)]; exact HY11.out
     have HG12 : Hid (w12.heap[G]? = some (.cells (treeV A9 L'.length c9 next) 29 (0, 0))) := by show _ = _; rw [← hw12.out]; exact setRow_heap _ _ _ _ _ _ HG11.out
     rw [hw12.out] at HQ1 HQ2 ⊢
     clear q1 q2
     refine hK.out _ _ (⟨cell_row HX12.out 0 _ rfl, cell_row HX12.out 1 _ rfl⟩) (fun hHeld => ?_)
     clear hK K
     try go_frame
     refine wpAnyH_done (by kernel_rfl) ?_ _
     have e1 : w12.cell? ⟨w.heap.size, 1, none⟩ = some (.int .i64 next) := cell_row HX12.out 1 _ rfl
     have g1 : w12.cell? ⟨G, 1, none⟩ = some (.int .i64 next) := cell_row HG12.out 1 _ rfl
     have fG := free_row HG12.out 1
     go_upto_region 18 with (fail)
     clear e1 g1 fG
     have hsr : w12.setCell ⟨G, 1, none⟩ (.int .i64 (next + (l.length : Int))) = w12.setRow G (treeV A9 L'.length c9 (next + (l.length : Int))) := setCell_eq_setRow w12 G 1 _ _ (0, 0) _ HG12.out
     rw [hsr]
     obtain ⟨w13, hw13⟩ : ∃ w13, Hid (w12.setRow G (treeV A9 L'.length c9 (next + (l.length : Int))) = w13) := ⟨_, rfl⟩
     have HX13 : Hid (w13.heap[w.heap.size]? = some (.cells (treeV (some ad) L.length c next) 29 (0, 0))) := by show _ = _; rw [← hw13.out, setRow_other _ _ _ _ (by have := HGL.out; have := HZ3.out; omega)]; exact HX12.out
     have HY13 : Hid (w13.heap[w.heap.size + 1]? = some (.cells zeroT 29 (0, 0))) := by show _ = _; rw [← hw13.out, setRow_other _ _ _ _ (by have := HGL.out; have := HZ3.out; omega)]; exact HY12.out
     have HG13 : Hid (w13.heap[G]? = some (.cells (treeV A9 L'.length c9 (next + (l.length : Int))) 29 (0, 0))) := by show _ = _; rw [← hw13.out]; exact setRow_heap _ _ _ _ _ _ HG12.out
     have HR13 : Hid (TreeR X w13 A9 c9 L') := by
      refine ⟨?_, HQ1.out.2⟩
      rw [← hw13.out, setRow_size]
      exact HQ1.out.1.setRow HG12.out (treeV_no _ _ _ _) _
     have HB13 : Hid (Below w.heap.size w w13) := by
      show Below _ _ _
      rw [← hw13.out]
      have h := HQ2.out
      exact ⟨h.os, h.tape, h.output, by rw [setRow_size]; exact h.size, fun b hb => (setRow_other _ _ _ _ (by have := HGL.out; have := HZ3.out; omega)).trans (h.block b hb)⟩
     rw [hw13.out]
     clear hsr
     obtain ⟨w14, hw14⟩ : ∃ w14, Hid (w13.drew = w14) := ⟨_, rfl⟩
     have hb14 : Below w13.heap.size w13 w14 := by rw [← hw14.out]; exact ⟨rfl, rfl, rfl, Nat.le_refl _, fun _ _ => rfl⟩
     have hx14 : w14.heap[w.heap.size]? = some (.cells (treeV (some ad) L.length c next) 29 (0, 0)) := by rw [← hw14.out]; exact HX13.out
     have HY14 : Hid (w14.heap[w.heap.size + 1]? = some (.cells zeroT 29 (0, 0))) := by show _ = _; rw [← hw14.out]; exact HY13.out
     have hg14 : w14.heap[G]? = some (.cells (treeV A9 L'.length c9 (next + (l.length : Int))) 29 (0, 0)) := by rw [← hw14.out]; exact HG13.out
     have HR14 := Lib.hid (HR13.out.below hb14)
     have HB14 : Hid (Below w.heap.size w w14) := HB13.out.trans (hb14.mono HB13.out.size)
     have hS14 : Hid (w13.drew.cell? ⟨w.heap.size, 1, none⟩ = some (.int .i64 next) ∧ w13.drew.cell? ⟨G, 0, none⟩ = some (.slice A9 L'.length c9) ∧ w13.drew.cell? ⟨G, 1, none⟩ = some (.int .i64 (next + (l.length : Int)))) := by
      show _ ∧ _
      rw [hw14.out]
      exact ⟨cell_row hx14 1 _ rfl, cell_row hg14 0 _ rfl, cell_row hg14 1 _ rfl⟩
     refine wp_region_held_drew (S := fun w' => w'.cell? ⟨w.heap.size, 1, none⟩ = some (.int .i64 next) ∧ w'.cell? ⟨G, 0, none⟩ = some (.slice A9 L'.length c9) ∧ w'.cell? ⟨G, 1, none⟩ = some (.int .i64 (next + (l.length : Int)))) (by kernel_rfl) hS14.out (fun hHeld => ?_)
     refine tkv 0 (h := tkv 1 (h := tkv 2 (h := ?_)))
     rw [hw14.out]
     refine rdy 3 (fun K hK => ?_)
     refine step_store_row rfl 29 (.tmp 8) (.tmp 93) rfl (w.heap.size + 1) (treeV A9 L'.length c9 (next + (l.length : Int))) rfl rfl 29 zeroT HY14.out (by kernel_rfl) rfl (treeV_one _ _ _ _) ?_
     obtain ⟨q1, q2⟩ := HR14.out.laid HB14.out (g := w.heap.size + 1) (by omega) HY14.out (treeV A9 L'.length c9 (next + (l.length : Int)))
     have HP1 := Lib.hid q1
     have HP2 := Lib.hid q2
     obtain ⟨w15, hw15⟩ : ∃ w15, Hid (w14.setRow (w.heap.size + 1) (treeV A9 L'.length c9 (next + (l.length : Int))) = w15) := ⟨_, rfl⟩
     have hx15 : w15.heap[w.heap.size]? = some (.cells (treeV (some ad) L.length c next) 29 (0, 0)) := by rw [← hw15.out, setRow_other _ _ _ _ (by omega)]; exact hx14
     have hg15 : w15.heap[G]? = some (.cells (treeV A9 L'.length c9 (next + (l.length : Int))) 29 (0, 0)) := by rw [← hw15.out, setRow_other _ _ _ _ (by have := HGL.out; have := HZ3.out; omega)]; exact hg14
     have HY15 : Hid (w15.heap[w.heap.size + 1]? = some (.cells (treeV A9 L'.length c9 (next + (l.length : Int))) 29 (0, 0))) := by show _ = _; rw [← hw15.out]; exact setRow_heap _ _ _ _ _ _ HY14.out
     have hS15 : Hid (w15.cell? ⟨w.heap.size, 1, none⟩ = some (.int .i64 next) ∧ w15.cell? ⟨G, 0, none⟩ = some (.slice A9 L'.length c9) ∧ w15.cell? ⟨G, 1, none⟩ = some (.int .i64 (next + (l.length : Int)))) := ⟨cell_row hx15 1 _ rfl, cell_row hg15 0 _ rfl, cell_row hg15 1 _ rfl⟩
     rw [hw15.out] at HP1 HP2 ⊢
     clear hx14 hg14 hx15 hg15 q1 q2 hb14
     refine hK.out _ _ (hS15.out) (fun hHeld => ?_)
     clear hK K
     try go_frame
     refine tkv 4 (h := tkv 5 (h := ?_))
     refine wpAnyH_done (by kernel_rfl) ?_ _
     go_wp2_with fail
     refine bodyPost_ret (results_cell2 Tryz.results64 _ _ (w.heap.size + 1) 29 (treeV A9 L'.length c9 (next + (l.length : Int))) (0, 0) _ rfl HY15.out Tryz.underlying29 rfl (by kernel_rfl)) rfl ?_
     rw [HE.out, hL'.out]
     exact ⟨A9, c9, rfl, HP1.out, HP2.out⟩
   ·go_simp
    obtain ⟨w9, hw9⟩ : ∃ w9, Hid (w8.alloc (.cells #[.slice none 0 0, .int .i64 0] 29) = w9) := ⟨_, rfl⟩
    obtain ⟨G, hG⟩ : ∃ G, Hid (w8.heap.size = G) := ⟨_, rfl⟩
    have hb9 : Below w8.heap.size w8 w9 := by rw [← hw9.out]; exact (Below.refl _ _).alloc (Nat.le_refl _) _
    have HG9 : Hid (w9.heap[G]? = some (.cells zeroT 29 (0, 0))) := by show _ = _; rw [← hw9.out, ← hG.out]; exact heap_alloc_new _ _
    have HGZ9 : Hid (G < w9.heap.size) := by show _ < _; rw [← hw9.out, ← hG.out]; simp
    have HGL : Hid (w3.heap.size ≤ G) := by show _ ≤ _; rw [← hG.out]; exact HB38.out.size
    rw [hw9.out, hG.out]
    have HB39 : Hid (Below w3.heap.size w3 w9) := HB38.out.trans (hb9.mono HB38.out.size)
    have HX9 : Hid (w9.heap[w.heap.size]? = some (.cells (treeV (some ad) L.length c next) 29 (0, 0))) := (HB39.out.block w.heap.size (by have := HZ3.out; omega)).trans HX3.out
    have HY9 : Hid (w9.heap[w.heap.size + 1]? = some (.cells zeroT 29 (0, 0))) := (HB39.out.block (w.heap.size + 1) (by have := HZ3.out; omega)).trans HY3.out
    have HT9 := Lib.hid (HT3.out.below HB39.out)
    have HB9 : Hid (Below w.heap.size w w9) := HB3.out.trans (HB39.out.mono HB3.out.size)
    clear hb9
    refine hK.out _ _ (⟨cell_row HX9.out 0 _ rfl, cell_row HX9.out 1 _ rfl⟩) (fun hHeld => ?_)
    clear hK K
    try go_frame
    refine rdy 8 (fun K hK => ?_)
    go_simp
    refine (Rnamed_g (some ad) L.length c next lv l Al cl N w9 (HIN.out w9 HB39.out).1 (HIN.out w9 HB39.out).2 (by omega) HLV.out (by have := HLQ.out; omega) (by omega) HNX.out).mono ?_
    rintro e10 w10 ⟨A8, c8, S8, rfl, hS8, hown8, hat8, hb10⟩
    have hT8 := TreeR.of hown8 (hat8.more (HIN.out w9 HB39.out).2) hb10 hS8 (fun b hb => HXN.out b (Nat.le_trans HB9.out.size hb))
    have hsl8 := congrArg List.length hS8
    rw [List.length_map] at hsl8
    rw [hsl8]
    have HN10 := Lib.hid hT8.1
    clear hown8 hat8 hS8 hsl8 hT8
    go_wp2_with fail
    have HG10 : Hid (w10.heap[G]? = some (.cells zeroT 29 (0, 0))) := (hb10.block G HGZ9.out).trans HG9.out
    have HGZ10 : Hid (G < w10.heap.size) := Nat.lt_of_lt_of_le HGZ9.out hb10.size
    have HB310 : Hid (Below w3.heap.size w3 w10) := HB39.out.trans (hb10.mono HB39.out.size)
    have HX10 : Hid (w10.heap[w.heap.size]? = some (.cells (treeV (some ad) L.length c next) 29 (0, 0))) := (HB310.out.block w.heap.size (by have := HZ3.out; omega)).trans HX3.out
    have HY10 : Hid (w10.heap[w.heap.size + 1]? = some (.cells zeroT 29 (0, 0))) := (HB310.out.block (w.heap.size + 1) (by have := HZ3.out; omega)).trans HY3.out
    have HT10 := Lib.hid (HT3.out.below HB310.out)
    have HB10 : Hid (Below w.heap.size w w10) := HB3.out.trans (HB310.out.mono HB3.out.size)
    clear hb10
    refine hK.out _ _ (⟨cell_row HX10.out 0 _ rfl, cell_row HX10.out 1 _ rfl⟩) (fun hHeld => ?_)
    clear hK K
    try go_frame
    refine rdy 9 (fun K hK => ?_)
    go_simp
    refine (Rlaid_g L ad c next sp (namedL next l lv) A8 c8 w10 HT10.out.1 HS.out HT10.out.2 HN10.out (by rw [named_length]; omega) HPN.out.2 HLEN.out).mono ?_
    rintro e11 w11 ⟨A9, c9, S9, rfl, hS9, hown9, hat9, hb11⟩
    have hT9 := TreeR.of hown9 hat9 hb11 hS9 (fun b hb => HXN.out b (Nat.le_trans HB10.out.size hb))
    have hsl9 := congrArg List.length hS9
    rw [List.length_map] at hsl9
    obtain ⟨L', hL'⟩ : ∃ L', Hid (laidL L sp (namedL next l lv) = L') := ⟨_, rfl⟩
    rw [hL'.out] at hsl9 hT9
    rw [hsl9]
    have HR11 := Lib.hid hT9
    clear hown9 hat9 hS9 hsl9 hT9
    go_wp2_with fail
    have HG11 : Hid (w11.heap[G]? = some (.cells zeroT 29 (0, 0))) := (hb11.block G HGZ10.out).trans HG10.out
    have HGZ11 : Hid (G < w11.heap.size) := Nat.lt_of_lt_of_le HGZ10.out hb11.size
    have HB311 : Hid (Below w3.heap.size w3 w11) := HB310.out.trans (hb11.mono HB310.out.size)
    have HX11 : Hid (w11.heap[w.heap.size]? = some (.cells (treeV (some ad) L.length c next) 29 (0, 0))) := (HB311.out.block w.heap.size (by have := HZ3.out; omega)).trans HX3.out
    have HY11 : Hid (w11.heap[w.heap.size + 1]? = some (.cells zeroT 29 (0, 0))) := (HB311.out.block (w.heap.size + 1) (by have := HZ3.out; omega)).trans HY3.out
    have HT11 := Lib.hid (HT3.out.below HB311.out)
    have HB11 : Hid (Below w.heap.size w w11) := HB3.out.trans (HB311.out.mono HB3.out.size)
    clear hb11
    refine hK.out _ _ (⟨cell_row HX11.out 0 _ rfl, cell_row HX11.out 1 _ rfl⟩) (fun hHeld => ?_)
    clear hK K
    try go_frame
    refine rdy 11 (fun K hK => ?_)
    refine step_store_row rfl 29 (.tmp 14) (.tmp 86) rfl G (treeV A9 L'.length c9 next) rfl rfl 29 zeroT HG11.out (by kernel_rfl) rfl (treeV_one _ _ _ _) ?_
    obtain ⟨q1, q2⟩ := HR11.out.laid HB11.out (g := G) (by have := HGL.out; have := HZ3.out; omega) HG11.out (treeV A9 L'.length c9 next)
    have HQ1 := Lib.hid q1
    have HQ2 := Lib.hid q2
    obtain ⟨w12, hw12⟩ : ∃ w12, Hid (w11.setRow G (treeV A9 L'.length c9 next) = w12) := ⟨_, rfl⟩
    have HX12 : Hid (w12.heap[w.heap.size]? = some (.cells (treeV (some ad) L.length c next) 29 (0, 0))) := by show _ = _; rw [← hw12.out, setRow_other _ _ _ _ (by have := HGL.out; have := HZ3.out; omega)]; exact HX11.out
    have HY12 : Hid (w12.heap[w.heap.size + 1]? = some (.cells zeroT 29 (0, 0))) := by show _ = _; rw [← hw12.out, setRow_other _ _ _ _ (by have := HGL.out; have := HZ3.out; omega)]; exact HY11.out
    have HG12 : Hid (w12.heap[G]? = some (.cells (treeV A9 L'.length c9 next) 29 (0, 0))) := by show _ = _; rw [← hw12.out]; exact setRow_heap _ _ _ _ _ _ HG11.out
    rw [hw12.out] at HQ1 HQ2 ⊢
    clear q1 q2
    refine hK.out _ _ (⟨cell_row HX12.out 0 _ rfl, cell_row HX12.out 1 _ rfl⟩) (fun hHeld => ?_)
    clear hK K
    try go_frame
    refine wpAnyH_done (by kernel_rfl) ?_ _
    have e1 : w12.cell? ⟨w.heap.size, 1, none⟩ = some (.int .i64 next) := cell_row HX12.out 1 _ rfl
    have g1 : w12.cell? ⟨G, 1, none⟩ = some (.int .i64 next) := cell_row HG12.out 1 _ rfl
    have fG := free_row HG12.out 1
    go_upto_region 18 with (fail)
    clear e1 g1 fG
    have hsr : w12.setCell ⟨G, 1, none⟩ (.int .i64 (next + (l.length : Int))) = w12.setRow G (treeV A9 L'.length c9 (next + (l.length : Int))) := setCell_eq_setRow w12 G 1 _ _ (0, 0) _ HG12.out
    rw [hsr]
    obtain ⟨w13, hw13⟩ : ∃ w13, Hid (w12.setRow G (treeV A9 L'.length c9 (next + (l.length : Int))) = w13) := ⟨_, rfl⟩
    have HX13 : Hid (w13.heap[w.heap.size]? = some (.cells (treeV (some ad) L.length c next) 29 (0, 0))) := by show _ = _; rw [← hw13.out, setRow_other _ _ _ _ (by have := HGL.out; have := HZ3.out; omega)]; exact HX12.out
    have HY13 : Hid (w13.heap[w.heap.size + 1]? = some (.cells zeroT 29 (0, 0))) := by show _ = _; rw [← hw13.out, setRow_other _ _ _ _ (by have := HGL.out; have := HZ3.out; omega)]; exact HY12.out
    have HG13 : Hid (w13.heap[G]? = some (.cells (treeV A9 L'.length c9 (next + (l.length : Int))) 29 (0, 0))) := by show _ = _; rw [← hw13.out]; exact setRow_heap _ _ _ _ _ _ HG12.out
    have HR13 : Hid (TreeR X w13 A9 c9 L') := by
     refine ⟨?_, HQ1.out.2⟩
     rw [← hw13.out, setRow_size]
     exact HQ1.out.1.setRow HG12.out (treeV_no _ _ _ _) _
    have HB13 : Hid (Below w.heap.size w w13) := by
     show Below _ _ _
     rw [← hw13.out]
     have h := HQ2.out
     exact ⟨h.os, h.tape, h.output, by rw [setRow_size]; exact h.size, fun b hb => (setRow_other _ _ _ _ (by have := HGL.out; have := HZ3.out; omega)).trans (h.block b hb)⟩
    rw [hw13.out]
    clear hsr
    obtain ⟨w14, hw14⟩ : ∃ w14, Hid (w13.drew = w14) := ⟨_, rfl⟩
    have hb14 : Below w13.heap.size w13 w14 := by rw [← hw14.out]; exact ⟨rfl, rfl, rfl, Nat.le_refl _, fun _ _ => rfl⟩
    have hx14 : w14.heap[w.heap.size]? = some (.cells (treeV (some ad) L.length c next) 29 (0, 0)) := by rw [← hw14.out]; exact HX13.out
    have HY14 : Hid (w14.heap[w.heap.size + 1]? = some (.cells zeroT 29 (0, 0))) := by show _ = _; rw [← hw14.out]; exact HY13.out
    have hg14 : w14.heap[G]? = some (.cells (treeV A9 L'.length c9 (next + (l.length : Int))) 29 (0, 0)) := by rw [← hw14.out]; exact HG13.out
    have HR14 := Lib.hid (HR13.out.below hb14)
    have HB14 : Hid (Below w.heap.size w w14) := HB13.out.trans (hb14.mono HB13.out.size)
    have hS14 : Hid (w13.drew.cell? ⟨w.heap.size, 1, none⟩ = some (.int .i64 next) ∧ w13.drew.cell? ⟨G, 0, none⟩ = some (.slice A9 L'.length c9) ∧ w13.drew.cell? ⟨G, 1, none⟩ = some (.int .i64 (next + (l.length : Int)))) := by
     show _ ∧ _
     rw [hw14.out]
     exact ⟨cell_row hx14 1 _ rfl, cell_row hg14 0 _ rfl, cell_row hg14 1 _ rfl⟩
    refine wp_region_held_drew (S := fun w' => w'.cell? ⟨w.heap.size, 1, none⟩ = some (.int .i64 next) ∧ w'.cell? ⟨G, 0, none⟩ = some (.slice A9 L'.length c9) ∧ w'.cell? ⟨G, 1, none⟩ = some (.int .i64 (next + (l.length : Int)))) (by kernel_rfl) hS14.out (fun hHeld => ?_)
    refine tkv 0 (h := tkv 1 (h := tkv 2 (h := ?_)))
    rw [hw14.out]
    refine rdy 3 (fun K hK => ?_)
    refine step_store_row rfl 29 (.tmp 8) (.tmp 93) rfl (w.heap.size + 1) (treeV A9 L'.length c9 (next + (l.length : Int))) rfl rfl 29 zeroT HY14.out (by kernel_rfl) rfl (treeV_one _ _ _ _) ?_
    obtain ⟨q1, q2⟩ := HR14.out.laid HB14.out (g := w.heap.size + 1) (by omega) HY14.out (treeV A9 L'.length c9 (next + (l.length : Int)))
    have HP1 := Lib.hid q1
    have HP2 := Lib.hid q2
    obtain ⟨w15, hw15⟩ : ∃ w15, Hid (w14.setRow (w.heap.size + 1) (treeV A9 L'.length c9 (next + (l.length : Int))) = w15) := ⟨_, rfl⟩
    have hx15 : w15.heap[w.heap.size]? = some (.cells (treeV (some ad) L.length c next) 29 (0, 0)) := by rw [← hw15.out, setRow_other _ _ _ _ (by omega)]; exact hx14
    have hg15 : w15.heap[G]? = some (.cells (treeV A9 L'.length c9 (next + (l.length : Int))) 29 (0, 0)) := by rw [← hw15.out, setRow_other _ _ _ _ (by have := HGL.out; have := HZ3.out; omega)]; exact hg14
    have HY15 : Hid (w15.heap[w.heap.size + 1]? = some (.cells (treeV A9 L'.length c9 (next + (l.length : Int))) 29 (0, 0))) := by show _ = _; rw [← hw15.out]; exact setRow_heap _ _ _ _ _ _ HY14.out
    have hS15 : Hid (w15.cell? ⟨w.heap.size, 1, none⟩ = some (.int .i64 next) ∧ w15.cell? ⟨G, 0, none⟩ = some (.slice A9 L'.length c9) ∧ w15.cell? ⟨G, 1, none⟩ = some (.int .i64 (next + (l.length : Int)))) := ⟨cell_row hx15 1 _ rfl, cell_row hg15 0 _ rfl, cell_row hg15 1 _ rfl⟩
    rw [hw15.out] at HP1 HP2 ⊢
    clear hx14 hg14 hx15 hg15 q1 q2 hb14
    refine hK.out _ _ (hS15.out) (fun hHeld => ?_)
    clear hK K
    try go_frame
    refine tkv 4 (h := tkv 5 (h := ?_))
    refine wpAnyH_done (by kernel_rfl) ?_ _
    go_wp2_with fail
    refine bodyPost_ret (results_cell2 Tryz.results64 _ _ (w.heap.size + 1) 29 (treeV A9 L'.length c9 (next + (l.length : Int))) (0, 0) _ rfl HY15.out Tryz.underlying29 rfl (by kernel_rfl)) rfl ?_
    rw [HE.out, hL'.out]
    exact ⟨A9, c9, rfl, HP1.out, HP2.out⟩
  ·go_simp
   obtain ⟨w8, hw8⟩ : ∃ w8, Hid (w7.alloc (.cells #[.slice none 0 0, .int .i64 0] 29) = w8) := ⟨_, rfl⟩
   obtain ⟨G, hG⟩ : ∃ G, Hid (w7.heap.size = G) := ⟨_, rfl⟩
   have hb8 : Below w7.heap.size w7 w8 := by rw [← hw8.out]; exact (Below.refl _ _).alloc (Nat.le_refl _) _
   have HG8 : Hid (w8.heap[G]? = some (.cells zeroT 29 (0, 0))) := by show _ = _; rw [← hw8.out, ← hG.out]; exact heap_alloc_new _ _
   have HGZ8 : Hid (G < w8.heap.size) := by show _ < _; rw [← hw8.out, ← hG.out]; simp
   have HGL : Hid (w3.heap.size ≤ G) := by show _ ≤ _; rw [← hG.out]; exact HB37.out.size
   rw [hw8.out, hG.out]
   have HB38 : Hid (Below w3.heap.size w3 w8) := HB37.out.trans (hb8.mono HB37.out.size)
   have HX8 : Hid (w8.heap[w.heap.size]? = some (.cells (treeV (some ad) L.length c next) 29 (0, 0))) := (HB38.out.block w.heap.size (by have := HZ3.out; omega)).trans HX3.out
   have HY8 : Hid (w8.heap[w.heap.size + 1]? = some (.cells zeroT 29 (0, 0))) := (HB38.out.block (w.heap.size + 1) (by have := HZ3.out; omega)).trans HY3.out
   have HT8 := Lib.hid (HT3.out.below HB38.out)
   have HB8 : Hid (Below w.heap.size w w8) := HB3.out.trans (HB38.out.mono HB3.out.size)
   clear hb8
   refine hK.out _ _ (⟨cell_row HX8.out 0 _ rfl, cell_row HX8.out 1 _ rfl⟩) (fun hHeld => ?_)
   clear hK K
   try go_frame
   refine rdy 4 (fun K hK => ?_)
   go_simp
   refine (Rspot_g L (some ad) c next k pn w8 HT8.out.1 HS.out hk HPN.out.1 sp hsp).mono ?_
   rintro e9 w9 ⟨rfl, hb9⟩
   go_wp2_with fail
   have HG9 : Hid (w9.heap[G]? = some (.cells zeroT 29 (0, 0))) := (hb9.block G HGZ8.out).trans HG8.out
   have HGZ9 : Hid (G < w9.heap.size) := Nat.lt_of_lt_of_le HGZ8.out hb9.size
   have HB39 : Hid (Below w3.heap.size w3 w9) := HB38.out.trans (hb9.mono HB38.out.size)
   have HX9 : Hid (w9.heap[w.heap.size]? = some (.cells (treeV (some ad) L.length c next) 29 (0, 0))) := (HB39.out.block w.heap.size (by have := HZ3.out; omega)).trans HX3.out
   have HY9 : Hid (w9.heap[w.heap.size + 1]? = some (.cells zeroT 29 (0, 0))) := (HB39.out.block (w.heap.size + 1) (by have := HZ3.out; omega)).trans HY3.out
   have HT9 := Lib.hid (HT3.out.below HB39.out)
   have HB9 : Hid (Below w.heap.size w w9) := HB3.out.trans (HB39.out.mono HB3.out.size)
   clear hb9
   refine hK.out _ _ (⟨cell_row HX9.out 0 _ rfl, cell_row HX9.out 1 _ rfl⟩) (fun hHeld => ?_)
   clear hK K
   try go_frame
   refine rdy 8 (fun K hK => ?_)
   go_simp
   refine (Rnamed_g (some ad) L.length c next lv l Al cl N w9 (HIN.out w9 HB39.out).1 (HIN.out w9 HB39.out).2 (by omega) HLV.out (by have := HLQ.out; omega) (by omega) HNX.out).mono ?_
   rintro e10 w10 ⟨A8, c8, S8, rfl, hS8, hown8, hat8, hb10⟩
   have hT8 := TreeR.of hown8 (hat8.more (HIN.out w9 HB39.out).2) hb10 hS8 (fun b hb => HXN.out b (Nat.le_trans HB9.out.size hb))
   have hsl8 := congrArg List.length hS8
   rw [List.length_map] at hsl8
   rw [hsl8]
   have HN10 := Lib.hid hT8.1
   clear hown8 hat8 hS8 hsl8 hT8
   go_wp2_with fail
   have HG10 : Hid (w10.heap[G]? = some (.cells zeroT 29 (0, 0))) := (hb10.block G HGZ9.out).trans HG9.out
   have HGZ10 : Hid (G < w10.heap.size) := Nat.lt_of_lt_of_le HGZ9.out hb10.size
   have HB310 : Hid (Below w3.heap.size w3 w10) := HB39.out.trans (hb10.mono HB39.out.size)
   have HX10 : Hid (w10.heap[w.heap.size]? = some (.cells (treeV (some ad) L.length c next) 29 (0, 0))) := (HB310.out.block w.heap.size (by have := HZ3.out; omega)).trans HX3.out
   have HY10 : Hid (w10.heap[w.heap.size + 1]? = some (.cells zeroT 29 (0, 0))) := (HB310.out.block (w.heap.size + 1) (by have := HZ3.out; omega)).trans HY3.out
   have HT10 := Lib.hid (HT3.out.below HB310.out)
   have HB10 : Hid (Below w.heap.size w w10) := HB3.out.trans (HB310.out.mono HB3.out.size)
   clear hb10
   refine hK.out _ _ (⟨cell_row HX10.out 0 _ rfl, cell_row HX10.out 1 _ rfl⟩) (fun hHeld => ?_)
   clear hK K
   try go_frame
   refine rdy 9 (fun K hK => ?_)
   go_simp
   refine (Rlaid_g L ad c next sp (namedL next l lv) A8 c8 w10 HT10.out.1 HS.out HT10.out.2 HN10.out (by rw [named_length]; omega) HPN.out.2 HLEN.out).mono ?_
   rintro e11 w11 ⟨A9, c9, S9, rfl, hS9, hown9, hat9, hb11⟩
   have hT9 := TreeR.of hown9 hat9 hb11 hS9 (fun b hb => HXN.out b (Nat.le_trans HB10.out.size hb))
   have hsl9 := congrArg List.length hS9
   rw [List.length_map] at hsl9
   obtain ⟨L', hL'⟩ : ∃ L', Hid (laidL L sp (namedL next l lv) = L') := ⟨_, rfl⟩
   rw [hL'.out] at hsl9 hT9
   rw [hsl9]
   have HR11 := Lib.hid hT9
   clear hown9 hat9 hS9 hsl9 hT9
   go_wp2_with fail
   have HG11 : Hid (w11.heap[G]? = some (.cells zeroT 29 (0, 0))) := (hb11.block G HGZ10.out).trans HG10.out
   have HGZ11 : Hid (G < w11.heap.size) := Nat.lt_of_lt_of_le HGZ10.out hb11.size
   have HB311 : Hid (Below w3.heap.size w3 w11) := HB310.out.trans (hb11.mono HB310.out.size)
   have HX11 : Hid (w11.heap[w.heap.size]? = some (.cells (treeV (some ad) L.length c next) 29 (0, 0))) := (HB311.out.block w.heap.size (by have := HZ3.out; omega)).trans HX3.out
   have HY11 : Hid (w11.heap[w.heap.size + 1]? = some (.cells zeroT 29 (0, 0))) := (HB311.out.block (w.heap.size + 1) (by have := HZ3.out; omega)).trans HY3.out
   have HT11 := Lib.hid (HT3.out.below HB311.out)
   have HB11 : Hid (Below w.heap.size w w11) := HB3.out.trans (HB311.out.mono HB3.out.size)
   clear hb11
   refine hK.out _ _ (⟨cell_row HX11.out 0 _ rfl, cell_row HX11.out 1 _ rfl⟩) (fun hHeld => ?_)
   clear hK K
   try go_frame
   refine rdy 11 (fun K hK => ?_)
   refine step_store_row rfl 29 (.tmp 14) (.tmp 86) rfl G (treeV A9 L'.length c9 next) rfl rfl 29 zeroT HG11.out (by kernel_rfl) rfl (treeV_one _ _ _ _) ?_
   obtain ⟨q1, q2⟩ := HR11.out.laid HB11.out (g := G) (by have := HGL.out; have := HZ3.out; omega) HG11.out (treeV A9 L'.length c9 next)
   have HQ1 := Lib.hid q1
   have HQ2 := Lib.hid q2
   obtain ⟨w12, hw12⟩ : ∃ w12, Hid (w11.setRow G (treeV A9 L'.length c9 next) = w12) := ⟨_, rfl⟩
   have HX12 : Hid (w12.heap[w.heap.size]? = some (.cells (treeV (some ad) L.length c next) 29 (0, 0))) := by show _ = _; rw [← hw12.out, setRow_other _ _ _ _ (by have := HGL.out; have := HZ3.out; omega)]; exact HX11.out
   have HY12 : Hid (w12.heap[w.heap.size + 1]? = some (.cells zeroT 29 (0, 0))) := by show _ = _; rw [← hw12.out, setRow_other _ _ _ _ (by have := HGL.out; have := HZ3.out; omega)]; exact HY11.out
   have HG12 : Hid (w12.heap[G]? = some (.cells (treeV A9 L'.length c9 next) 29 (0, 0))) := by show _ = _; rw [← hw12.out]; exact setRow_heap _ _ _ _ _ _ HG11.out
   rw [hw12.out] at HQ1 HQ2 ⊢
   clear q1 q2
   refine hK.out _ _ (⟨cell_row HX12.out 0 _ rfl, cell_row HX12.out 1 _ rfl⟩) (fun hHeld => ?_)
   clear hK K
   try go_frame
   refine wpAnyH_done (by kernel_rfl) ?_ _
   have e1 : w12.cell? ⟨w.heap.size, 1, none⟩ = some (.int .i64 next) := cell_row HX12.out 1 _ rfl
   have g1 : w12.cell? ⟨G, 1, none⟩ = some (.int .i64 next) := cell_row HG12.out 1 _ rfl
   have fG := free_row HG12.out 1
   go_upto_region 18 with (fail)
   clear e1 g1 fG
   have hsr : w12.setCell ⟨G, 1, none⟩ (.int .i64 (next + (l.length : Int))) = w12.setRow G (treeV A9 L'.length c9 (next + (l.length : Int))) := setCell_eq_setRow w12 G 1 _ _ (0, 0) _ HG12.out
   rw [hsr]
   obtain ⟨w13, hw13⟩ : ∃ w13, Hid (w12.setRow G (treeV A9 L'.length c9 (next + (l.length : Int))) = w13) := ⟨_, rfl⟩
   have HX13 : Hid (w13.heap[w.heap.size]? = some (.cells (treeV (some ad) L.length c next) 29 (0, 0))) := by show _ = _; rw [← hw13.out, setRow_other _ _ _ _ (by have := HGL.out; have := HZ3.out; omega)]; exact HX12.out
   have HY13 : Hid (w13.heap[w.heap.size + 1]? = some (.cells zeroT 29 (0, 0))) := by show _ = _; rw [← hw13.out, setRow_other _ _ _ _ (by have := HGL.out; have := HZ3.out; omega)]; exact HY12.out
   have HG13 : Hid (w13.heap[G]? = some (.cells (treeV A9 L'.length c9 (next + (l.length : Int))) 29 (0, 0))) := by show _ = _; rw [← hw13.out]; exact setRow_heap _ _ _ _ _ _ HG12.out
   have HR13 : Hid (TreeR X w13 A9 c9 L') := by
    refine ⟨?_, HQ1.out.2⟩
    rw [← hw13.out, setRow_size]
    exact HQ1.out.1.setRow HG12.out (treeV_no _ _ _ _) _
   have HB13 : Hid (Below w.heap.size w w13) := by
    show Below _ _ _
    rw [← hw13.out]
    have h := HQ2.out
    exact ⟨h.os, h.tape, h.output, by rw [setRow_size]; exact h.size, fun b hb => (setRow_other _ _ _ _ (by have := HGL.out; have := HZ3.out; omega)).trans (h.block b hb)⟩
   rw [hw13.out]
   clear hsr
   obtain ⟨w14, hw14⟩ : ∃ w14, Hid (w13.drew = w14) := ⟨_, rfl⟩
   have hb14 : Below w13.heap.size w13 w14 := by rw [← hw14.out]; exact ⟨rfl, rfl, rfl, Nat.le_refl _, fun _ _ => rfl⟩
   have hx14 : w14.heap[w.heap.size]? = some (.cells (treeV (some ad) L.length c next) 29 (0, 0)) := by rw [← hw14.out]; exact HX13.out
   have HY14 : Hid (w14.heap[w.heap.size + 1]? = some (.cells zeroT 29 (0, 0))) := by show _ = _; rw [← hw14.out]; exact HY13.out
   have hg14 : w14.heap[G]? = some (.cells (treeV A9 L'.length c9 (next + (l.length : Int))) 29 (0, 0)) := by rw [← hw14.out]; exact HG13.out
   have HR14 := Lib.hid (HR13.out.below hb14)
   have HB14 : Hid (Below w.heap.size w w14) := HB13.out.trans (hb14.mono HB13.out.size)
   have hS14 : Hid (w13.drew.cell? ⟨w.heap.size, 1, none⟩ = some (.int .i64 next) ∧ w13.drew.cell? ⟨G, 0, none⟩ = some (.slice A9 L'.length c9) ∧ w13.drew.cell? ⟨G, 1, none⟩ = some (.int .i64 (next + (l.length : Int)))) := by
    show _ ∧ _
    rw [hw14.out]
    exact ⟨cell_row hx14 1 _ rfl, cell_row hg14 0 _ rfl, cell_row hg14 1 _ rfl⟩
   refine wp_region_held_drew (S := fun w' => w'.cell? ⟨w.heap.size, 1, none⟩ = some (.int .i64 next) ∧ w'.cell? ⟨G, 0, none⟩ = some (.slice A9 L'.length c9) ∧ w'.cell? ⟨G, 1, none⟩ = some (.int .i64 (next + (l.length : Int)))) (by kernel_rfl) hS14.out (fun hHeld => ?_)
   refine tkv 0 (h := tkv 1 (h := tkv 2 (h := ?_)))
   rw [hw14.out]
   refine rdy 3 (fun K hK => ?_)
   refine step_store_row rfl 29 (.tmp 8) (.tmp 93) rfl (w.heap.size + 1) (treeV A9 L'.length c9 (next + (l.length : Int))) rfl rfl 29 zeroT HY14.out (by kernel_rfl) rfl (treeV_one _ _ _ _) ?_
   obtain ⟨q1, q2⟩ := HR14.out.laid HB14.out (g := w.heap.size + 1) (by omega) HY14.out (treeV A9 L'.length c9 (next + (l.length : Int)))
   have HP1 := Lib.hid q1
   have HP2 := Lib.hid q2
   obtain ⟨w15, hw15⟩ : ∃ w15, Hid (w14.setRow (w.heap.size + 1) (treeV A9 L'.length c9 (next + (l.length : Int))) = w15) := ⟨_, rfl⟩
   have hx15 : w15.heap[w.heap.size]? = some (.cells (treeV (some ad) L.length c next) 29 (0, 0)) := by rw [← hw15.out, setRow_other _ _ _ _ (by omega)]; exact hx14
   have hg15 : w15.heap[G]? = some (.cells (treeV A9 L'.length c9 (next + (l.length : Int))) 29 (0, 0)) := by rw [← hw15.out, setRow_other _ _ _ _ (by have := HGL.out; have := HZ3.out; omega)]; exact hg14
   have HY15 : Hid (w15.heap[w.heap.size + 1]? = some (.cells (treeV A9 L'.length c9 (next + (l.length : Int))) 29 (0, 0))) := by show _ = _; rw [← hw15.out]; exact setRow_heap _ _ _ _ _ _ HY14.out
   have hS15 : Hid (w15.cell? ⟨w.heap.size, 1, none⟩ = some (.int .i64 next) ∧ w15.cell? ⟨G, 0, none⟩ = some (.slice A9 L'.length c9) ∧ w15.cell? ⟨G, 1, none⟩ = some (.int .i64 (next + (l.length : Int)))) := ⟨cell_row hx15 1 _ rfl, cell_row hg15 0 _ rfl, cell_row hg15 1 _ rfl⟩
   rw [hw15.out] at HP1 HP2 ⊢
   clear hx14 hg14 hx15 hg15 q1 q2 hb14
   refine hK.out _ _ (hS15.out) (fun hHeld => ?_)
   clear hK K
   try go_frame
   refine tkv 4 (h := tkv 5 (h := ?_))
   refine wpAnyH_done (by kernel_rfl) ?_ _
   go_wp2_with fail
   refine bodyPost_ret (results_cell2 Tryz.results64 _ _ (w.heap.size + 1) 29 (treeV A9 L'.length c9 (next + (l.length : Int))) (0, 0) _ rfl HY15.out Tryz.underlying29 rfl (by kernel_rfl)) rfl ?_
   rw [HE.out, hL'.out]
   exact ⟨A9, c9, rfl, HP1.out, HP2.out⟩
end
end Go.Proofs.YtmkgajdgnmolkaaGreat
