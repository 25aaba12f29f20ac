/-
  The walks of parse.Check and of ref04.Check.
-/
import Derived.Test.YtiopijjlkmpikaaROne
namespace Go.Proofs.Ytiopijjlkmpikaa
open Go.RowKit

theorem place_any (l : List ItemD) (A : Option Addr) (c k : Nat) (x : ItemD) (w : World) (hA : ItemsAt w w.heap.size A l) (hx : l[k]? = some x) (hlen : l.length ≤ 1000000000) (hpl : ∀ p, prevOf l k = some p → 0 ≤ p.level ∧ p.level < 40) (V : Int) (hV : Hid (placeE (prevOf l k) k x = V)) :
    Calls Try.prog 30 #[.slice A l.length c, .int .i64 k] w (Ret w (.int .i64 V)) := by
  have hl : k < l.length := (List.getElem?_eq_some_iff.1 hx).1
  obtain ⟨ad, rfl, _⟩ := hA (by omega)
  by_cases hk : k = 0
  · subst hk
    exact place_first l ad c x w hA hx hlen V hV
  · have hp : l[k - 1]? = some l[k - 1] := List.getElem?_eq_getElem _
    have he : prevOf l k = some l[k - 1] := by unfold prevOf; rw [if_neg hk, hp]
    have hb := hpl _ he
    rw [he] at hV
    exact place_later l ad c k x _ w hA (by omega) hx hp hlen (by omega) V hV

theorem Rone_any (l : List ItemD) (A : Option Addr) (c k : Nat) (x : ItemD) (w : World) (hA : ItemsAt w w.heap.size A l) (hx : l[k]? = some x) (hlen : l.length ≤ 1000000000) (hpl : ∀ p, prevOf l k = some p → 0 ≤ p.level ∧ p.level < 40) (hs : SmallItem x) (V : Int) (hV : Hid (oneE (prevOf l k) k x = V)) :
    Calls Try.prog 35 #[.slice A l.length c, .int .i64 k] w (Ret w (.int .i64 V)) := by
  have hl : k < l.length := (List.getElem?_eq_some_iff.1 hx).1
  obtain ⟨ad, rfl, _⟩ := hA (by omega)
  by_cases hk : k = 0
  · subst hk
    exact one_first l ad c x w hA hx hlen hs V hV
  · have hp : l[k - 1]? = some l[k - 1] := List.getElem?_eq_getElem _
    have he : prevOf l k = some l[k - 1] := by unfold prevOf; rw [if_neg hk, hp]
    have hb := hpl _ he
    rw [he] at hV
    exact one_later l ad c k x _ w hA (by omega) hx hp hlen (by omega) hs V hV

theorem placeE_zero {prev : Option ItemD} {k : Nat} {x : ItemD} (h : placeE prev k x = 0) : 0 ≤ x.level ∧ x.level < 40 := by
  unfold placeE at h
  cases prev with
  | none =>
    simp only at h
    split at h
    · omega
    · omega
  | some p =>
    simp only at h
    split at h
    · omega
    split at h
    · omega
    · omega
theorem oneE_zero {prev : Option ItemD} {k : Nat} {x : ItemD} (h : oneE prev k x = 0) : placeE prev k x = 0 ∧ partsE x = 0 := by
  unfold oneE at h
  by_cases hp : placeE prev k x = 0
  · rw [if_pos hp] at h; exact ⟨hp, h⟩
  · rw [if_neg hp] at h; exact absurd h hp
theorem prevOf_succ {l : List ItemD} {k : Nat} {x : ItemD} (hx : l[k]? = some x) : prevOf l (k + 1) = some x := by
  unfold prevOf; rw [if_neg (by omega)]; exact hx
theorem checkF_drop {l : List ItemD} {k : Nat} {x : ItemD} (hx : l[k]? = some x) : checkF (prevOf l k) k (l.drop k) = if oneE (prevOf l k) k x = 0 then checkF (prevOf l (k + 1)) (k + 1) (l.drop (k + 1)) else ((k : Int), oneE (prevOf l k) k x) := by
  rw [drop_cons hx, prevOf_succ hx]; rfl

/-- All items are small enough. -/
def SmallItems (l : List ItemD) : Prop := l.length ≤ 1000000000 ∧ ∀ (k : Nat) (x : ItemD), l[k]? = some x → SmallItem x

set_option maxRecDepth 100000 in
set_option maxHeartbeats 2000000 in
theorem Check_any (l : List ItemD) (A : Option Addr) (c : Nat) (w : World) (hA : ItemsAt w w.heap.size A l) (hs : SmallItems l) (n e : Int) (hV : Hid (checkL l = (n, e))) :
    Calls Try.prog 15 #[.slice A l.length c] w (Ret w (.tuple #[.int .i64 n, .int .i64 e])) := by
  obtain ⟨hs1, hs2⟩ := hs
  have HS := Lib.hid hs2
  have HA := Lib.hid hA
  clear hs2 hA
  by_cases h0 : l = []
  · have hv : Hid (n = 0 ∧ e = 40) := by
      have := hV.out
      unfold checkL at this
      rw [if_pos h0] at this
      injection this with a b
      exact ⟨a.symm, b.symm⟩
    have hlen : l.length = 0 := by rw [h0]; rfl
    rw [hlen]
    clear h0 hV hs1 hlen
    go_enter Try.func15, Try.ntmps15
    go_wp2_with fail
    go_ret2
    obtain ⟨rfl, rfl⟩ := hv.out
    exact ⟨rfl, Below.refl _ _⟩
  · have hpos : 0 < l.length := List.length_pos_iff.2 h0
    have hC : Hid (checkF (prevOf l 0) 0 (l.drop 0) = (n, e)) := by
      have := hV.out
      unfold checkL at this
      rw [if_neg h0] at this
      exact this
    have t0 : ((l.length : Int) == 0) = false := by simp; omega
    clear h0 hV
    go_enter Try.func15, Try.ntmps15
    go_wp2_with fail
    go_loopw [12] (fun i wr => ∃ (k : Nat), k ≤ l.length ∧ i = .int .i64 k ∧ Hid (checkF (prevOf l k) k (l.drop k) = (n, e)) ∧ Hid (∀ p, prevOf l k = some p → 0 ≤ p.level ∧ p.level < 40) ∧ Below w.heap.size w wr) (fun i _ => l.length - (intOf i).toNat)
    case atStart => exact ⟨0, Nat.zero_le _, rfl, hC, fun p hp => by simp [prevOf] at hp, Below.refl _ _⟩
    case round =>
      obtain ⟨k, hk, rfl, hin, hpv, hbel⟩ := hrel
      have hzr := hbel.size
      by_cases hlt : k < l.length
      · obtain ⟨x, hx⟩ : ∃ x, Hid (l[k]? = some x) := ⟨l[k], List.getElem?_eq_getElem _⟩
        have hAr := HA.out.below hbel
        obtain ⟨ad, hAd, _⟩ := hAr (by omega)
        subst hAd
        obtain ⟨hbl, A', c', hat, _, h0, h1, h2, h3, h4⟩ := hAr.item hx.out
        unfold strV at h2 h3
        have HAR := Lib.hid hAr
        have HAT := Lib.hid hat
        clear hAr hat
        have hsx := Lib.hid (HS.out k x hx.out)
        have hin' := hin.out
        rw [checkF_drop hx.out] at hin'
        have hlt' : (k : Int) < l.length := by omega
        obtain ⟨q, hq⟩ : ∃ q, Hid (placeE (prevOf l k) k x = q) := ⟨_, rfl⟩
        obtain ⟨W1, hW1⟩ : ∃ W1, Hid (W1 = wr.alloc (.cells #[.int .i64 x.level, .int .i64 x.kind, .string ⟨x.name.toArray⟩, .string ⟨x.text.toArray⟩, .slice A' x.attrs.length c'] 30)) := ⟨_, rfl⟩
        have hbW : Below wr.heap.size wr W1 := by rw [hW1.out]; exact (Below.refl _ wr).alloc (Nat.le_refl _) _
        have hzW : wr.heap.size < W1.heap.size := by rw [hW1.out]; simp
        have hcs : Hid (∀ w', Below W1.heap.size W1 w' → w'.cell? ⟨wr.heap.size, 0, none⟩ = some (.int .i64 x.level) ∧ w'.cell? ⟨wr.heap.size, 1, none⟩ = some (.int .i64 x.kind) ∧ w'.cell? ⟨wr.heap.size, 2, none⟩ = some (.string ⟨x.name.toArray⟩) ∧ w'.cell? ⟨wr.heap.size, 3, none⟩ = some (.string ⟨x.text.toArray⟩) ∧ w'.cell? ⟨wr.heap.size, 4, none⟩ = some (.slice A' x.attrs.length c')) := fun w' hb => by
          refine ⟨?_, ?_, ?_, ?_, ?_⟩
          all_goals
            rw [hb.cell (by exact hzW), hW1.out, World.cell?_alloc_at _ _ _ _ (by simp)]; rfl
        clear hbl
        go_wp2_with fail
        rw [← hW1.out]
        refine (place_any l (some ad) c k x W1 ((HAR.out.below (hbW.mono hzr)).more (by omega)) hx.out hs1 hpv.out q hq).mono ?_; rintro e2 w2 ⟨rfl, hb2⟩
        obtain ⟨c0, c1, c2, c3, c4⟩ := hcs.out _ hb2
        have hb2' : Below w.heap.size w w2 := hbel.trans ((hbW.mono hzr).trans (hb2.mono (by omega)))
        clear h0 h1 h2 h3 h4
        by_cases hq0 : q = 0
        · obtain ⟨f, hf⟩ : ∃ f, Hid (partsE x = f) := ⟨_, rfl⟩
          have ho : oneE (prevOf l k) k x = f := by unfold oneE; rw [hq.out, if_pos hq0]; exact hf.out
          rw [ho] at hin'
          subst hq0
          by_cases hf0 : f = 0
          · rw [if_pos hf0] at hin'
            have HIN := Lib.hid hin'
            have hpv' : Hid (∀ p, prevOf l (k + 1) = some p → 0 ≤ p.level ∧ p.level < 40) := fun p hp => by
              rw [prevOf_succ hx.out] at hp
              injection hp with hp; subst hp
              exact placeE_zero hq.out
            subst hf0
            clear hin' hin ho hpv
            go_wp2_with fail
            refine (parts_any x A' c' w2 ((HAT.out.below (hbW.mono hzr |>.trans (hb2.mono (by omega)))).more hb2'.size) hsx.out 0 hf).mono ?_; rintro e3 w3 ⟨rfl, hb3⟩
            have hb3' : Below w.heap.size w w3 := hb2'.trans (hb3.mono hb2'.size)
            go_wp2_with fail
            go_roundw
            case rel => exact ⟨k + 1, by omega, by go_num, HIN, hpv', hb3'⟩
            case measure => simp [intOf]; omega
          · rw [if_neg hf0] at hin'
            have HIN := Lib.hid hin'
            have tf : (f != 0) = true := by simp [hf0]
            clear hin' hin ho hpv hf0
            go_wp2_with fail
            refine (parts_any x A' c' w2 ((HAT.out.below (hbW.mono hzr |>.trans (hb2.mono (by omega)))).more hb2'.size) hsx.out f hf).mono ?_; rintro e3 w3 ⟨rfl, hb3⟩
            have hb3' : Below w.heap.size w w3 := hb2'.trans (hb3.mono hb2'.size)
            go_wp2_with fail
            go_ret2
            have := HIN.out
            injection this with a b
            subst a; subst b
            exact ⟨rfl, hb3'⟩
        · have ho : oneE (prevOf l k) k x = q := by unfold oneE; rw [hq.out, if_neg hq0]
          rw [ho, if_neg hq0] at hin'
          have HIN := Lib.hid hin'
          have tq : (q == 0) = false := by simp [hq0]
          have tq' : (q != 0) = true := by simp [hq0]
          clear hin' hin ho hpv hq0
          go_wp2_with fail
          go_ret2
          have := HIN.out
          injection this with a b
          subst a; subst b
          exact ⟨rfl, hb2'⟩
      · have hk' : k = l.length := by omega
        have HIN : Hid ((0, 0) = (n, e)) := by
          show _ = _
          rw [← hin.out, List.drop_eq_nil_of_le (by omega)]; rfl
        subst hk'
        clear hin hlt hk hpv
        go_wp2_with fail
        go_ret2
        have := HIN.out
        injection this with a b
        subst a; subst b
        exact ⟨rfl, hbel⟩

set_option maxRecDepth 100000 in
set_option maxHeartbeats 2000000 in
theorem RCheck_any (l : List ItemD) (A : Option Addr) (c : Nat) (w : World) (hA : ItemsAt w w.heap.size A l) (hs : SmallItems l) (n e : Int) (hV : Hid (checkL l = (n, e))) :
    Calls Try.prog 22 #[.slice A l.length c] w (Ret w (.tuple #[.int .i64 n, .int .i64 e])) := by
  obtain ⟨hs1, hs2⟩ := hs
  have HS := Lib.hid hs2
  have HA := Lib.hid hA
  clear hs2 hA
  by_cases h0 : l = []
  · have hv : Hid (n = 0 ∧ e = 40) := by
      have := hV.out
      unfold checkL at this
      rw [if_pos h0] at this
      injection this with a b
      exact ⟨a.symm, b.symm⟩
    have hlen : l.length = 0 := by rw [h0]; rfl
    rw [hlen]
    clear h0 hV hs1 hlen
    go_enter Try.func22, Try.ntmps22
    go_wp2_with fail
    go_ret2
    obtain ⟨rfl, rfl⟩ := hv.out
    exact ⟨rfl, Below.refl _ _⟩
  · have hpos : 0 < l.length := List.length_pos_iff.2 h0
    have hC : Hid (checkF (prevOf l 0) 0 (l.drop 0) = (n, e)) := by
      have := hV.out
      unfold checkL at this
      rw [if_neg h0] at this
      exact this
    have t0 : ((l.length : Int) == 0) = false := by simp; omega
    clear h0 hV
    go_enter Try.func22, Try.ntmps22
    go_wp2_with fail
    go_loopw [4] (fun i wr => ∃ (k : Nat), k ≤ l.length ∧ i = .int .i64 k ∧ Hid (checkF (prevOf l k) k (l.drop k) = (n, e)) ∧ Hid (∀ p, prevOf l k = some p → 0 ≤ p.level ∧ p.level < 40) ∧ Below w.heap.size w wr) (fun i _ => l.length - (intOf i).toNat)
    case atStart => exact ⟨0, Nat.zero_le _, rfl, hC, fun p hp => by simp [prevOf] at hp, Below.refl _ _⟩
    case round =>
      obtain ⟨k, hk, rfl, hin, hpv, hbel⟩ := hrel
      have hzr := hbel.size
      by_cases hlt : k < l.length
      · obtain ⟨x, hx⟩ : ∃ x, Hid (l[k]? = some x) := ⟨l[k], List.getElem?_eq_getElem _⟩
        have hAr := Lib.hid (HA.out.below hbel)
        have hsx := Lib.hid (HS.out k x hx.out)
        have hin' := hin.out
        rw [checkF_drop hx.out] at hin'
        have hlt' : (k : Int) < l.length := by omega
        obtain ⟨q, hq⟩ : ∃ q, Hid (oneE (prevOf l k) k x = q) := ⟨_, rfl⟩
        rw [hq.out] at hin'
        by_cases hq0 : q = 0
        · rw [if_pos hq0] at hin'
          have HIN := Lib.hid hin'
          subst hq0
          have hpv' : Hid (∀ p, prevOf l (k + 1) = some p → 0 ≤ p.level ∧ p.level < 40) := fun p hp => by
            rw [prevOf_succ hx.out] at hp
            injection hp with hp; subst hp
            exact placeE_zero (oneE_zero hq.out).1
          clear hin' hin
          go_wp2_with fail
          refine (Rone_any l A c k x wr (hAr.out.more hzr) hx.out hs1 hpv.out hsx.out 0 hq).mono ?_; rintro e2 w2 ⟨rfl, hb2⟩
          have hb2' : Below w.heap.size w w2 := hbel.trans (hb2.mono hzr)
          go_wp2_with fail
          go_roundw
          case rel => exact ⟨k + 1, by omega, by go_num, HIN, hpv', hb2'⟩
          case measure => simp [intOf]; omega
        · rw [if_neg hq0] at hin'
          have HIN := Lib.hid hin'
          have tq' : (q != 0) = true := by simp [hq0]
          clear hin' hin hq0
          go_wp2_with fail
          refine (Rone_any l A c k x wr (hAr.out.more hzr) hx.out hs1 hpv.out hsx.out q hq).mono ?_; rintro e2 w2 ⟨rfl, hb2⟩
          have hb2' : Below w.heap.size w w2 := hbel.trans (hb2.mono hzr)
          go_wp2_with fail
          go_ret2
          have := HIN.out
          injection this with a b
          subst a; subst b
          exact ⟨rfl, hb2'⟩
      · have hk' : k = l.length := by omega
        have HIN : Hid ((0, 0) = (n, e)) := by
          show _ = _
          rw [← hin.out, List.drop_eq_nil_of_le (by omega)]; rfl
        subst hk'
        clear hin hlt hk hpv
        go_wp2_with fail
        go_ret2
        have := HIN.out
        injection this with a b
        subst a; subst b
        exact ⟨rfl, hbel⟩
end Go.Proofs.Ytiopijjlkmpikaa
