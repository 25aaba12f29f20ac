/-
  The walk of ref05.Print.
-/
import Derived.Test.YtiopijjlkmpikaaPrint
import Derived.Test.YtiopijjlkmpikaaRNorm
import Derived.Laws.AppendOwnNone
namespace Go.Proofs.Ytiopijjlkmpikaa
open Go.RowKit

/-- Texts that lie in memory, side by side. -/
def StrsAt (w : World) (B : Nat) (A : Option Addr) (l : List (List UInt8)) : Prop :=
  0 < l.length → ∃ ad, A = some ad ∧ ad.block < B ∧ ∀ k s, l[k]? = some s → w.cell? (ad.add k) = some (strV s)
theorem StrsAt.below {w w' : World} {B : Nat} {A : Option Addr} {l : List (List UInt8)} (h : StrsAt w B A l) (hb : Below B w w') : StrsAt w' B A l := fun hn => by
  obtain ⟨ad, e, hbl, hc⟩ := h hn
  exact ⟨ad, e, hbl, fun k s hs => (hb.cell (by rw [block_of_add]; exact hbl)).trans (hc k s hs)⟩
theorem StrsAt.more {w : World} {B B' : Nat} {A : Option Addr} {l : List (List UInt8)} (h : StrsAt w B A l) (hB : B ≤ B') : StrsAt w B' A l := fun hn => by
  obtain ⟨ad, e, hbl, hc⟩ := h hn
  exact ⟨ad, e, by omega, hc⟩
theorem StrsAt.cut {w : World} {B : Nat} {A : Option Addr} {n : List UInt8} {o : List (List UInt8)} (h : StrsAt w B A (n :: o).reverse) : StrsAt w B A o.reverse := fun hn => by
  obtain ⟨ad, e, hbl, hc⟩ := h (by simp)
  refine ⟨ad, e, hbl, fun k s hs => hc k s ?_⟩
  rw [List.reverse_cons, List.getElem?_append_left (List.getElem?_eq_some_iff.1 hs).1]
  exact hs
theorem StrsAt.top {w : World} {B : Nat} {ad : Addr} {n : List UInt8} {o : List (List UInt8)} (h : StrsAt w B (some ad) (n :: o).reverse) : ad.block < B ∧ w.cell? (ad.add o.length) = some (strV n) := by
  obtain ⟨ad', e, hbl, hc⟩ := h (by simp)
  injection e with e; subst e
  refine ⟨hbl, hc o.length n ?_⟩
  rw [List.reverse_cons, List.getElem?_append_right (by simp)]
  simp
theorem infoStr : (Try.prog.info? 9).map (fun i => (i.zero, i.size, i.bytes)) = some (some (.string ByteArray.empty), 1, 16) := by kernel_rfl

theorem mach_len {o : List (List UInt8)} {l : List ItemD} {a : List UInt8} {O : List UInt8} (h : a ++ mach o l = O) : a.length ≤ O.length := by
  rw [← h, List.length_append]; omega


set_option maxRecDepth 100000 in
set_option maxHeartbeats 8000000 in
theorem RPrint_any (l : List ItemD) (A : Option Addr) (c : Nat) (w : World) (hA : ItemsAt w w.heap.size A l) (hs : SmallDoc l) (O : List UInt8) (e : Int) (hV : Hid (printL l = (O, e))) :
    Calls Try.prog 9 #[.slice A l.length c] w (Ret w (.tuple #[.string ⟨O.toArray⟩, .int .i64 e])) := by
  have HA := Lib.hid hA
  have HS := Lib.hid hs
  obtain ⟨n, q, hq⟩ : ∃ n q, Hid (checkL l = (n, q)) := ⟨_, _, rfl⟩
  obtain ⟨v1, v2⟩ := printL_ok hV.out
  rw [hq.out] at v1 v2
  simp only at v1 v2
  clear hA hs hV
  by_cases hq0 : q = 0
  · obtain ⟨ho, he⟩ := v1 hq0
    clear v1 v2
    have hdoc : Doc l := checkL_ok (by rw [hq.out]; exact hq0)
    have HDOC := Lib.hid hdoc
    obtain ⟨x0, s0, hsh⟩ := hdoc.normal
    have HSH := Lib.hid hsh
    have HO := Lib.hid ho
    subst hq0; subst he
    clear hdoc hsh ho
    go_enter Try.func9, Try.ntmps9
    go_wp2_with fail
    refine (RCheck_any l A c w HA.out HS.out.1 n 0 hq).mono ?_; rintro e2 w2 ⟨rfl, hb2⟩
    have hz2 := hb2.size
    obtain ⟨N, hN⟩ : ∃ N, Hid (normalL l = N) := ⟨_, rfl⟩
    go_wp2_with fail
    refine (RNormal_any l A c w2 ((HA.out.below hb2).more hz2) HS.out N hN).mono ?_
    rintro e3 w3 ⟨⟨A', c', S, rfl, hown, hattr, hmap⟩, hb3⟩
    have hz3 := hb3.size
    have hItems : ItemsAt w3 w3.heap.size A' N := by
      have := ItemsOwn.at hown (fun s hs => ⟨((hattr s hs).1.below hb3).more hz3, (hattr s hs).2⟩)
      rw [hmap] at this; exact this
    have hNx : N = x0 :: s0 := by rw [← hN.out]; exact HSH.out.eq
    have hSl : S.length = N.length := by rw [← hmap, List.length_map]
    obtain ⟨ad, rfl⟩ : ∃ ad, A' = some ad := by
      obtain ⟨ad, h, _⟩ := hItems (by rw [hNx]; simp)
      exact ⟨ad, h⟩
    rw [hSl]
    have HIT := Lib.hid hItems
    have hNS : SmallItems N := by rw [← hN.out]; exact normal_small HS.out
    obtain ⟨hN1, hN2⟩ := hNS
    have HN2 := Lib.hid hN2
    have hM : Hid ([] ++ mach [] (N.drop 0) = O) := by
      show _ = _
      rw [List.drop_zero, List.nil_append, ← hN.out, HSH.out.mach, HO.out]
    have hOl : O.length ≤ 250000000 := by
      have := HDOC.out.small
      rw [← HO.out] at this; exact this
    have hbw3 : Below w.heap.size w w3 := hb2.trans (hb3.mono hz2)
    have hlow : Hid (∀ x ∈ N, 0 ≤ x.level) := fun x hx => HSH.out.zero x (by rw [hN.out]; exact hx)
    have hTag : Hid (∀ x ∈ N, (tagL x).length ≤ 1000000000) := fun x hx => by
      have h1 := HDOC.out.fits.1 x (by rw [hN.out]; exact hx)
      have := tag_fit h1; omega
    clear hown hattr hmap hItems hNx hSl hN2
    go_wp2_with fail
    go_loopw [6, 7, 8] (fun s v i wr => ∃ (k : Nat) (b : ByteArray) (o : List (List UInt8)) (od : Option Addr) (oc m : Nat), k ≤ N.length ∧ i = .int .i64 k ∧ s = .string b ∧ v = .slice od m oc ∧ Hid (o.length = m) ∧ m ≤ k ∧ m ≤ oc ∧ oc ≤ maxLen ∧ Hid (od = none → oc = 0) ∧ Hid (b.data.toList ++ mach o (N.drop k) = O) ∧
      Hid (∀ n ∈ o, n.length ≤ 1000000000) ∧ Hid (StrsAt wr wr.heap.size od o.reverse) ∧ Below w3.heap.size w3 wr) (fun _ _ i _ => N.length - (intOf i).toNat)
    case atStart => exact ⟨0, ByteArray.empty, [], none, 0, 0, Nat.zero_le _, rfl, rfl, rfl, rfl, Nat.le_refl _, Nat.le_refl _, by unfold maxLen; omega, (fun _ => rfl : (none : Option Addr) = none → (0 : Nat) = 0), hM, (fun _ h => absurd h List.not_mem_nil : ∀ n ∈ ([] : List (List UInt8)), n.length ≤ 1000000000), (fun h => absurd h (by simp) : StrsAt w3 w3.heap.size none ([] : List (List UInt8)).reverse), Below.refl _ _⟩
    case round =>
      obtain ⟨k, b, o, od, oc, m, hk, rfl, rfl, rfl, hm, hmk, hmc, hocm, hod, hin, hnl, hstr, hbel⟩ := hrel
      have hzr := hbel.size
      have hbl : b.size ≤ 250000000 := by
        have := mach_len hin.out
        have e : b.data.toList.length = b.size := by rw [Array.length_toList]; rfl
        omega
      by_cases hlt : k < N.length
      · obtain ⟨x, hx⟩ : ∃ x, Hid (N[k]? = some x) := ⟨N[k], List.getElem?_eq_getElem _⟩
        have hlt' : (k : Int) < N.length := by omega
        have hk0 : (0 : Int) ≤ (k : Int) := by omega
        obtain ⟨hadb, A', c', hat, _, h0, h1, h2, h3, h4⟩ := HIT.out.item hx.out
        unfold strV at h2 h3
        have HC : Hid (∀ w', Below w3.heap.size w3 w' → w'.cell? (ad.add (k * 5)) = some (.int .i64 x.level) ∧ w'.cell? ⟨(ad.add (k * 5)).block, (ad.add (k * 5)).off + 1, none⟩ = some (.int .i64 x.kind) ∧ w'.cell? ⟨(ad.add (k * 5)).block, (ad.add (k * 5)).off + 2, none⟩ = some (.string ⟨x.name.toArray⟩) ∧ w'.cell? ⟨(ad.add (k * 5)).block, (ad.add (k * 5)).off + 3, none⟩ = some (.string ⟨x.text.toArray⟩) ∧ w'.cell? ⟨(ad.add (k * 5)).block, (ad.add (k * 5)).off + 4, none⟩ = some (.slice A' x.attrs.length c')) := fun w' hw => by
          have ka : ∀ j, w'.cell? ⟨(ad.add (k * 5)).block, j, none⟩ = w3.cell? ⟨(ad.add (k * 5)).block, j, none⟩ := fun j => hw.cell (by show (ad.add _).block < _; rw [block_of_add]; exact hadb)
          exact ⟨(hw.cell (by rw [block_of_add]; exact hadb)).trans h0, (ka _).trans h1, (ka _).trans h2, (ka _).trans h3, (ka _).trans h4⟩
        have HAT : Hid (∀ w', Below w3.heap.size w3 w' → AttrsAt w' w'.heap.size A' x.attrs) := fun w' hw => (hat.below hw).more hw.size
        have hsx := HN2.out k x hx.out
        have HSX := Lib.hid hsx
        have hst1 := hsx.1
        have hst2 := hsx.2.1
        have htg := hTag.out x (List.mem_of_getElem? hx.out)
        clear h0 h1 h2 h3 h4 hat hsx
        have hin' := hin.out
        rw [drop_cons hx.out] at hin'
        obtain ⟨R, hR⟩ : ∃ R, Hid (N.drop (k + 1) = R) := ⟨_, rfl⟩
        rw [hR.out] at hin'
        have HIN := Lib.hid hin'
        clear hin' hin hbl
        go_wp2_with fail
        go_loopw [6, 7] (fun s v wq => ∃ (b : ByteArray) (o : List (List UInt8)) (m : Nat), s = .string b ∧ v = .slice od m oc ∧ Hid (o.length = m) ∧ m ≤ k ∧ m ≤ oc ∧ Hid (b.data.toList ++ mach o (x :: R) = O) ∧
          Hid (∀ n ∈ o, n.length ≤ 1000000000) ∧ Hid (StrsAt wr wr.heap.size od o.reverse) ∧ wq = wr) (fun _ v _ => match v with | .slice _ n _ => n | _ => 0)
        case atStart => exact ⟨b, o, m, rfl, rfl, hm, hmk, hmc, HIN, hnl, hstr, rfl⟩
        case round =>
          obtain ⟨b, o, m, rfl, rfl, hm, hmk, hmc, hin, hnl, hstr, rfl⟩ := hrel
          have hbl : b.size ≤ 250000000 := by
            have := mach_len hin.out
            have e : b.data.toList.length = b.size := by rw [Array.length_toList]; rfl
            omega
          obtain ⟨c0, c1, c2, c3, c4⟩ := HC.out wr hbel
          have hm0 : (0 : Int) ≤ (m : Int) := by omega
          by_cases hp : x.level < (m : Int)
          · -- one is closed
            have d1 : decide (x.level < (m : Int)) = true := by simpa using hp
            have hxl : -9223372036854775808 ≤ x.level := HSX.out.2.2.2.2.1
            obtain ⟨nm, t, hot⟩ : ∃ nm t, o = nm :: t := by
              cases o with
              | nil =>
                have h1 := hm.out
                have h2 := hin.out
                simp at h1
                exact absurd hp (by have := hlow.out x (List.mem_of_getElem? hx.out); omega)
              | cons nm t => exact ⟨nm, t, rfl⟩
            subst hot
            have hmt : m = t.length + 1 := by have := hm.out; simpa using this.symm
            obtain ⟨god, hgod⟩ : ∃ god, od = some god := by
              obtain ⟨god, h, _⟩ := hstr.out (by simp)
              exact ⟨god, h⟩
            subst hgod
            obtain ⟨hgb, hgc⟩ := hstr.out.top
            unfold strV at hgc
            have hgc' : wr.cell? (god.add (m - 1)) = some (.string ⟨nm.toArray⟩) := by rw [hmt]; exact hgc
            have hnm := hnl.out nm (by simp)
            have i1 : (1 : Int) ≤ (m : Int) := by omega
            have i2 : (0 : Int) ≤ (m : Int) - 1 := by omega
            have i3 : (m : Int) - 1 < (m : Int) := by omega
            have i4 : (m : Int) - 1 ≤ (oc : Int) := by omega
            have hin2 : Hid ((b.data.toList ++ closeT nm) ++ mach t (x :: R) = O) := by
              show _ = _
              rw [← hin.out, mach_pop (fun y u h => by injection h with h _; subst h; omega), List.append_assoc]
            have hmt' : Hid (t.length = m - 1) := by show _ = _; omega
            have hnl' : Hid (∀ n ∈ t, n.length ≤ 1000000000) := fun n hn => hnl.out n (by simp [hn])
            have hst' : Hid (StrsAt wr wr.heap.size (some god) t.reverse) := hstr.out.cut
            clear hin hgc hmt hp hstr hnl c1 c2 c3 c4
            go_wp2_with fail
            go_roundw
            case rel =>
              refine ⟨_, t, m - 1, rfl, ?_, hmt', by omega, by omega, ?_, hnl', hst', by first | rfl | trivial⟩
              · first | rfl | (congr 1; omega)
              · show _ = _
                rw [← hin2.out]
                simp [closeT]
            case measure => simp; omega
          · have d1 : decide (x.level < (m : Int)) = false := by simpa using hp
            have hle : (o.length : Int) ≤ x.level := by rw [hm.out]; omega
            by_cases hk2 : x.kind = 2
            · have d2 : (x.kind == 2) = true := by simp [hk2]
              obtain ⟨u, hu⟩ : ∃ u, Hid (escT x.text = u) := ⟨_, rfl⟩
              have hin2 : Hid ((b.data.toList ++ u) ++ mach o (N.drop (k + 1)) = O) := by
                show _ = _
                rw [← hin.out, mach_text hle hk2, hR.out, hu.out, List.append_assoc]
              have hul : u.length ≤ 250000000 := by
                have := mach_len hin2.out
                rw [List.length_append] at this; omega
              clear hin hp hle hk2
              go_wp2_with fail
              refine (RText_l _ _ hst2 u hu).mono ?_; rintro e w4 ⟨rfl, hb4⟩
              have hb4' := hbel.trans (hb4.mono hzr)
              have hs4 : Hid (StrsAt w4 w4.heap.size od o.reverse) := (hstr.out.below hb4).more hb4.size
              clear c0 c1 c2 c3 c4 d1 d2
              go_wp2_with fail
              go_roundw
              case rel =>
                refine ⟨k + 1, _, o, od, oc, m, by omega, by go_num, rfl, rfl, hm, by omega, hmc, hocm, hod, ?_, hnl, hs4, hb4'⟩
                show _ = _
                rw [← hin2.out]
                simp
              case measure => simp [intOf]; omega
            · have d2 : (x.kind == 2) = false := by simp [hk2]
              obtain ⟨T, hT⟩ : ∃ T, Hid (tagL x = T) := ⟨_, rfl⟩
              rw [hT.out] at htg
              have htl : T.length ≤ 1000000000 := htg
              have i1 : IntKind.i64.wrap ((k : Int) + 1) = (k : Int) + 1 := IntWalk.i64_in _ (by omega)
              have i2 : (0 : Int) ≤ (k : Int) + 1 := by omega
              have i3 : ((k : Int) + 1).toNat = k + 1 := by omega
              cases hlf : leafB x R with
              | true =>
                have hin2 : Hid ((b.data.toList ++ (T ++ [47, 62])) ++ mach o (N.drop (k + 1)) = O) := by
                  show _ = _
                  rw [← hin.out, mach_leaf hle hk2 hlf, hR.out, hT.out]
                  simp
                clear hin hp hle hk2 htg
                by_cases hlast : k + 1 = N.length
                · have d3 : ((k : Int) + 1 == N.length) = true := by simp; omega
                  clear hlf hlast
                  go_wp2_with fail
                  refine wp_region_held_drew (S := fun _ => True) (by kernel_rfl) trivial (fun hHeld => ?_)
                  refine wpAnyH_take (i := 0) (oi := ⟨_, _, _, _, _, _⟩) (v := ?_) rfl (by kernel_rfl) (by kernel_rfl) (by kernel_rfl) (fun _ _ _ h => h) (Or.inl ⟨by rfl, ?_⟩) (by assumption) ?_
                  rotate_left
                  · (intro wS hSw; (try dsimp only at hSw); go_simp); all_goals with_reducible rfl
                  try simp only [Act.put, List.setIfInBounds_toArray, List.set_cons_zero, List.set_cons_succ]
                  refine wpAnyH_take (i := 1) (oi := ⟨_, _, _, _, _, _⟩) (v := ?_) rfl (by kernel_rfl) (by kernel_rfl) (by kernel_rfl) (fun _ _ _ h => h) (Or.inl ⟨by rfl, ?_⟩) (by assumption) ?_
                  rotate_left
                  · (intro wS hSw; (try dsimp only at hSw); go_simp); all_goals with_reducible rfl
                  try simp only [Act.put, List.setIfInBounds_toArray, List.set_cons_zero, List.set_cons_succ]
                  refine wpAnyH_take (i := 2) (oi := ⟨_, _, _, _, _, _⟩) (v := ?_) rfl (by kernel_rfl) (by kernel_rfl) (by kernel_rfl) (fun _ _ _ h => h) (Or.inl ⟨by rfl, ?_⟩) (by assumption) ?_
                  rotate_left
                  · (intro wS hSw; (try dsimp only at hSw); go_simp); all_goals with_reducible rfl
                  try simp only [Act.put, List.setIfInBounds_toArray, List.set_cons_zero, List.set_cons_succ]
                  refine wpAnyH_take (i := 3) (oi := ⟨_, _, _, _, _, _⟩) (v := ?_) rfl (by kernel_rfl) (by kernel_rfl) (by kernel_rfl) (fun _ _ _ h => h) (Or.inl ⟨by rfl, ?_⟩) (by assumption) ?_
                  rotate_left
                  · (intro wS hSw; (try dsimp only at hSw); go_simp); all_goals with_reducible rfl
                  try simp only [Act.put, List.setIfInBounds_toArray, List.set_cons_zero, List.set_cons_succ]
                  refine wpAnyH_take (i := 4) (oi := ⟨_, _, _, _, _, _⟩) (v := ?_) rfl (by kernel_rfl) (by kernel_rfl) (by kernel_rfl) (fun _ _ _ h => h) (Or.inl ⟨by rfl, ?_⟩) (by assumption) ?_
                  rotate_left
                  · (intro wS hSw; (try dsimp only at hSw); go_simp); all_goals with_reducible rfl
                  try simp only [Act.put, List.setIfInBounds_toArray, List.set_cons_zero, List.set_cons_succ]
                  refine wpAnyH_take (i := 5) (oi := ⟨_, _, _, _, _, _⟩) (v := ?_) rfl (by kernel_rfl) (by kernel_rfl) (by kernel_rfl) (fun _ _ _ h => h) (Or.inl ⟨by rfl, ?_⟩) (by assumption) ?_
                  rotate_left
                  · (intro wS hSw; (try dsimp only at hSw); go_simp); all_goals with_reducible rfl
                  try simp only [Act.put, List.setIfInBounds_toArray, List.set_cons_zero, List.set_cons_succ]
                  refine wpAnyH_take (i := 6) (oi := ⟨_, _, _, _, _, _⟩) (v := undef) rfl (by kernel_rfl) (by kernel_rfl) (by kernel_rfl) (fun _ _ _ h => h) (Or.inr ⟨by rfl, rfl⟩) (by assumption) ?_
                  try simp only [Act.put, List.setIfInBounds_toArray, List.set_cons_zero, List.set_cons_succ]
                  refine wpAnyH_take (i := 7) (oi := ⟨_, _, _, _, _, _⟩) (v := undef) rfl (by kernel_rfl) (by kernel_rfl) (by kernel_rfl) (fun _ _ _ h => h) (Or.inr ⟨by rfl, rfl⟩) (by assumption) ?_
                  try simp only [Act.put, List.setIfInBounds_toArray, List.set_cons_zero, List.set_cons_succ]
                  refine wpAnyH_take (i := 8) (oi := ⟨_, _, _, _, _, _⟩) (v := undef) rfl (by kernel_rfl) (by kernel_rfl) (by kernel_rfl) (fun _ _ _ h => h) (Or.inr ⟨by rfl, rfl⟩) (by assumption) ?_
                  try simp only [Act.put, List.setIfInBounds_toArray, List.set_cons_zero, List.set_cons_succ]
                  refine wpAnyH_take (i := 9) (oi := ⟨_, _, _, _, _, _⟩) (v := undef) rfl (by kernel_rfl) (by kernel_rfl) (by kernel_rfl) (fun _ _ _ h => h) (Or.inr ⟨by rfl, rfl⟩) (by assumption) ?_
                  try simp only [Act.put, List.setIfInBounds_toArray, List.set_cons_zero, List.set_cons_succ]
                  refine wpAnyH_take (i := 10) (oi := ⟨_, _, _, _, _, _⟩) (v := undef) rfl (by kernel_rfl) (by kernel_rfl) (by kernel_rfl) (fun _ _ _ h => h) (Or.inr ⟨by rfl, rfl⟩) (by assumption) ?_
                  try simp only [Act.put, List.setIfInBounds_toArray, List.set_cons_zero, List.set_cons_succ]
                  refine wpAnyH_take (i := 11) (oi := ⟨_, _, _, _, _, _⟩) (v := undef) rfl (by kernel_rfl) (by kernel_rfl) (by kernel_rfl) (fun _ _ _ h => h) (Or.inr ⟨by rfl, rfl⟩) (by assumption) ?_
                  try simp only [Act.put, List.setIfInBounds_toArray, List.set_cons_zero, List.set_cons_succ]
                  refine wpAnyH_take (i := 12) (oi := ⟨_, _, _, _, _, _⟩) (v := undef) rfl (by kernel_rfl) (by kernel_rfl) (by kernel_rfl) (fun _ _ _ h => h) (Or.inr ⟨by rfl, rfl⟩) (by assumption) ?_
                  try simp only [Act.put, List.setIfInBounds_toArray, List.set_cons_zero, List.set_cons_succ]
                  refine wpAnyH_take (i := 13) (oi := ⟨_, _, _, _, _, _⟩) (v := undef) rfl (by kernel_rfl) (by kernel_rfl) (by kernel_rfl) (fun _ _ _ h => h) (Or.inr ⟨by rfl, rfl⟩) (by assumption) ?_
                  try simp only [Act.put, List.setIfInBounds_toArray, List.set_cons_zero, List.set_cons_succ]
                  refine wpAnyH_take (i := 14) (oi := ⟨_, _, _, _, _, _⟩) (v := undef) rfl (by kernel_rfl) (by kernel_rfl) (by kernel_rfl) (fun _ _ _ h => h) (Or.inr ⟨by rfl, rfl⟩) (by assumption) ?_
                  try simp only [Act.put, List.setIfInBounds_toArray, List.set_cons_zero, List.set_cons_succ]
                  refine wpAnyH_take (i := 15) (oi := ⟨_, _, _, _, _, _⟩) (v := undef) rfl (by kernel_rfl) (by kernel_rfl) (by kernel_rfl) (fun _ _ _ h => h) (Or.inr ⟨by rfl, rfl⟩) (by assumption) ?_
                  try simp only [Act.put, List.setIfInBounds_toArray, List.set_cons_zero, List.set_cons_succ]
                  refine wpAnyH_take (i := 16) (oi := ⟨_, _, _, _, _, _⟩) (v := undef) rfl (by kernel_rfl) (by kernel_rfl) (by kernel_rfl) (fun _ _ _ h => h) (Or.inr ⟨by rfl, rfl⟩) (by assumption) ?_
                  try simp only [Act.put, List.setIfInBounds_toArray, List.set_cons_zero, List.set_cons_succ]
                  refine wpAnyH_take (i := 17) (oi := ⟨_, _, _, _, _, _⟩) (v := undef) rfl (by kernel_rfl) (by kernel_rfl) (by kernel_rfl) (fun _ _ _ h => h) (Or.inr ⟨by rfl, rfl⟩) (by assumption) ?_
                  try simp only [Act.put, List.setIfInBounds_toArray, List.set_cons_zero, List.set_cons_succ]
                  refine wpAnyH_take (i := 18) (oi := ⟨_, _, _, _, _, _⟩) (v := ?_) rfl (by kernel_rfl) (by kernel_rfl) (by kernel_rfl) (fun _ _ _ h => h) (Or.inl ⟨by rfl, ?_⟩) (by assumption) ?_
                  rotate_left
                  · (intro wS hSw; (try dsimp only at hSw); go_simp); all_goals with_reducible rfl
                  try simp only [Act.put, List.setIfInBounds_toArray, List.set_cons_zero, List.set_cons_succ]
                  refine wpAnyH_done (by kernel_rfl) ?_ _
                  clear hHeld d1 d2 d3 i1 i2 i3
                  have hbd := hbel.drew
                  obtain ⟨W4, hW4⟩ : ∃ W4, Hid (W4 = wr.drew) := ⟨_, rfl⟩
                  rw [← hW4.out] at hbd ⊢
                  have hst4 : Hid (StrsAt W4 W4.heap.size od o.reverse) := by rw [hW4.out]; exact hstr.out
                  clear c0 c1 c2 c3 c4
                  obtain ⟨c0, c1, c2, c3, c4⟩ := HC.out W4 hbd
                  go_wp2_with fail
                  refine (Rtag_any x A' c' _ (HAT.out W4 hbd) HSX.out T hT htl).mono ?_; rintro e w5 ⟨rfl, hb5⟩
                  have hzd := hbd.size
                  have hb5' := hbd.trans (hb5.mono hzd)
                  have hst5 : Hid (StrsAt w5 w5.heap.size od o.reverse) := (hst4.out.below hb5).more hb5.size
                  clear c0 c1 c2 c3 c4
                  go_wp2_with fail
                  go_roundw
                  case rel =>
                    refine ⟨k + 1, _, o, od, oc, m, by omega, by go_num, rfl, rfl, hm, by omega, hmc, hocm, hod, ?_, hnl, hst5, hb5'⟩
                    show _ = _
                    rw [← hin2.out]
                    simp
                  case measure => simp [intOf]; omega
                · obtain ⟨y, hy⟩ : ∃ y, Hid (N[k + 1]? = some y) := by
                    have h := List.getElem?_eq_getElem (l := N) (i := k + 1) (by omega)
                    exact ⟨_, h⟩
                  have hRy : R = y :: N.drop (k + 2) := by rw [← hR.out]; exact drop_cons hy.out
                  rw [hRy] at hlf
                  have hyl : y.level ≤ x.level := of_decide_eq_true hlf
                  have hyc := (HIT.out.item hy.out).2.choose_spec.choose_spec.2.2.1
                  have d3 : ((k : Int) + 1 == N.length) = false := by simp; omega
                  have d4 : decide (y.level ≤ x.level) = true := by simpa using hyl
                  have i4 : (k : Int) + 1 < N.length := by omega
                  have HSS : Hid (wr.drew.cell? (ad.add (k * 5)) = some (.int .i64 x.level) ∧ wr.drew.cell? (ad.add ((k + 1) * 5)) = some (.int .i64 y.level)) := ⟨c0, (hbel.drew.cell (by rw [block_of_add]; exact hadb)).trans hyc⟩
                  clear hlf hRy hyl hyc
                  go_wp2_with fail
                  refine wp_region_held_drew (S := fun w' => w'.cell? (ad.add (k * 5)) = some (.int .i64 x.level) ∧ w'.cell? (ad.add ((k + 1) * 5)) = some (.int .i64 y.level)) (by kernel_rfl) HSS.out (fun hHeld => ?_)
                  refine wpAnyH_take (i := 0) (oi := ⟨_, _, _, _, _, _⟩) (v := ?_) rfl (by kernel_rfl) (by kernel_rfl) (by kernel_rfl) (fun _ _ _ h => h) (Or.inl ⟨by rfl, ?_⟩) (by assumption) ?_
                  rotate_left
                  · (intro wS hSw; (try dsimp only at hSw); go_simp); all_goals with_reducible rfl
                  try simp only [Act.put, List.setIfInBounds_toArray, List.set_cons_zero, List.set_cons_succ]
                  refine wpAnyH_take (i := 1) (oi := ⟨_, _, _, _, _, _⟩) (v := ?_) rfl (by kernel_rfl) (by kernel_rfl) (by kernel_rfl) (fun _ _ _ h => h) (Or.inl ⟨by rfl, ?_⟩) (by assumption) ?_
                  rotate_left
                  · (intro wS hSw; (try dsimp only at hSw); go_simp); all_goals with_reducible rfl
                  try simp only [Act.put, List.setIfInBounds_toArray, List.set_cons_zero, List.set_cons_succ]
                  refine wpAnyH_take (i := 2) (oi := ⟨_, _, _, _, _, _⟩) (v := ?_) rfl (by kernel_rfl) (by kernel_rfl) (by kernel_rfl) (fun _ _ _ h => h) (Or.inl ⟨by rfl, ?_⟩) (by assumption) ?_
                  rotate_left
                  · (intro wS hSw; (try dsimp only at hSw); go_simp); all_goals with_reducible rfl
                  try simp only [Act.put, List.setIfInBounds_toArray, List.set_cons_zero, List.set_cons_succ]
                  refine wpAnyH_take (i := 3) (oi := ⟨_, _, _, _, _, _⟩) (v := ?_) rfl (by kernel_rfl) (by kernel_rfl) (by kernel_rfl) (fun _ _ _ h => h) (Or.inl ⟨by rfl, ?_⟩) (by assumption) ?_
                  rotate_left
                  · (intro wS hSw; (try dsimp only at hSw); go_simp); all_goals with_reducible rfl
                  try simp only [Act.put, List.setIfInBounds_toArray, List.set_cons_zero, List.set_cons_succ]
                  refine wpAnyH_take (i := 4) (oi := ⟨_, _, _, _, _, _⟩) (v := ?_) rfl (by kernel_rfl) (by kernel_rfl) (by kernel_rfl) (fun _ _ _ h => h) (Or.inl ⟨by rfl, ?_⟩) (by assumption) ?_
                  rotate_left
                  · (intro wS hSw; (try dsimp only at hSw); go_simp); all_goals with_reducible rfl
                  try simp only [Act.put, List.setIfInBounds_toArray, List.set_cons_zero, List.set_cons_succ]
                  refine wpAnyH_take (i := 5) (oi := ⟨_, _, _, _, _, _⟩) (v := ?_) rfl (by kernel_rfl) (by kernel_rfl) (by kernel_rfl) (fun _ _ _ h => h) (Or.inl ⟨by rfl, ?_⟩) (by assumption) ?_
                  rotate_left
                  · (intro wS hSw; (try dsimp only at hSw); go_simp); all_goals with_reducible rfl
                  try simp only [Act.put, List.setIfInBounds_toArray, List.set_cons_zero, List.set_cons_succ]
                  refine wpAnyH_take (i := 6) (oi := ⟨_, _, _, _, _, _⟩) (v := ?_) rfl (by kernel_rfl) (by kernel_rfl) (by kernel_rfl) (fun _ _ _ h => h) (Or.inl ⟨by rfl, ?_⟩) (by assumption) ?_
                  rotate_left
                  · (intro wS hSw; (try dsimp only at hSw); go_simp); all_goals with_reducible rfl
                  try simp only [Act.put, List.setIfInBounds_toArray, List.set_cons_zero, List.set_cons_succ]
                  refine wpAnyH_take (i := 7) (oi := ⟨_, _, _, _, _, _⟩) (v := ?_) rfl (by kernel_rfl) (by kernel_rfl) (by kernel_rfl) (fun _ _ _ h => h) (Or.inl ⟨by rfl, ?_⟩) (by assumption) ?_
                  rotate_left
                  · (intro wS hSw; (try dsimp only at hSw); go_simp); all_goals with_reducible rfl
                  try simp only [Act.put, List.setIfInBounds_toArray, List.set_cons_zero, List.set_cons_succ]
                  refine wpAnyH_take (i := 8) (oi := ⟨_, _, _, _, _, _⟩) (v := ?_) rfl (by kernel_rfl) (by kernel_rfl) (by kernel_rfl) (fun _ _ _ h => h) (Or.inl ⟨by rfl, ?_⟩) (by assumption) ?_
                  rotate_left
                  · (intro wS hSw; (try dsimp only at hSw); go_simp); all_goals with_reducible rfl
                  try simp only [Act.put, List.setIfInBounds_toArray, List.set_cons_zero, List.set_cons_succ]
                  refine wpAnyH_take (i := 9) (oi := ⟨_, _, _, _, _, _⟩) (v := ?_) rfl (by kernel_rfl) (by kernel_rfl) (by kernel_rfl) (fun _ _ _ h => h) (Or.inl ⟨by rfl, ?_⟩) (by assumption) ?_
                  rotate_left
                  · (intro wS hSw; (try dsimp only at hSw); go_simp); all_goals with_reducible rfl
                  try simp only [Act.put, List.setIfInBounds_toArray, List.set_cons_zero, List.set_cons_succ]
                  refine wpAnyH_take (i := 10) (oi := ⟨_, _, _, _, _, _⟩) (v := ?_) rfl (by kernel_rfl) (by kernel_rfl) (by kernel_rfl) (fun _ _ _ h => h) (Or.inl ⟨by rfl, ?_⟩) (by assumption) ?_
                  rotate_left
                  · (intro wS hSw; (try dsimp only at hSw); go_simp); all_goals with_reducible rfl
                  try simp only [Act.put, List.setIfInBounds_toArray, List.set_cons_zero, List.set_cons_succ]
                  refine wpAnyH_take (i := 11) (oi := ⟨_, _, _, _, _, _⟩) (v := ?_) rfl (by kernel_rfl) (by kernel_rfl) (by kernel_rfl) (fun _ _ _ h => h) (Or.inl ⟨by rfl, ?_⟩) (by assumption) ?_
                  rotate_left
                  · (intro wS hSw; (try dsimp only at hSw); go_simp); all_goals with_reducible rfl
                  try simp only [Act.put, List.setIfInBounds_toArray, List.set_cons_zero, List.set_cons_succ]
                  refine wpAnyH_take (i := 12) (oi := ⟨_, _, _, _, _, _⟩) (v := ?_) rfl (by kernel_rfl) (by kernel_rfl) (by kernel_rfl) (fun _ _ _ h => h) (Or.inl ⟨by rfl, ?_⟩) (by assumption) ?_
                  rotate_left
                  · (intro wS hSw; (try dsimp only at hSw); go_simp); all_goals with_reducible rfl
                  try simp only [Act.put, List.setIfInBounds_toArray, List.set_cons_zero, List.set_cons_succ]
                  refine wpAnyH_take (i := 13) (oi := ⟨_, _, _, _, _, _⟩) (v := ?_) rfl (by kernel_rfl) (by kernel_rfl) (by kernel_rfl) (fun _ _ _ h => h) (Or.inl ⟨by rfl, ?_⟩) (by assumption) ?_
                  rotate_left
                  · (intro wS hSw; (try dsimp only at hSw); go_simp); all_goals with_reducible rfl
                  try simp only [Act.put, List.setIfInBounds_toArray, List.set_cons_zero, List.set_cons_succ]
                  refine wpAnyH_take (i := 14) (oi := ⟨_, _, _, _, _, _⟩) (v := ?_) rfl (by kernel_rfl) (by kernel_rfl) (by kernel_rfl) (fun _ _ _ h => h) (Or.inl ⟨by rfl, ?_⟩) (by assumption) ?_
                  rotate_left
                  · (intro wS hSw; (try dsimp only at hSw); go_simp); all_goals with_reducible rfl
                  try simp only [Act.put, List.setIfInBounds_toArray, List.set_cons_zero, List.set_cons_succ]
                  refine wpAnyH_take (i := 15) (oi := ⟨_, _, _, _, _, _⟩) (v := ?_) rfl (by kernel_rfl) (by kernel_rfl) (by kernel_rfl) (fun _ _ _ h => h) (Or.inl ⟨by rfl, ?_⟩) (by assumption) ?_
                  rotate_left
                  · (intro wS hSw; (try dsimp only at hSw); go_simp); all_goals with_reducible rfl
                  try simp only [Act.put, List.setIfInBounds_toArray, List.set_cons_zero, List.set_cons_succ]
                  refine wpAnyH_take (i := 16) (oi := ⟨_, _, _, _, _, _⟩) (v := ?_) rfl (by kernel_rfl) (by kernel_rfl) (by kernel_rfl) (fun _ _ _ h => h) (Or.inl ⟨by rfl, ?_⟩) (by assumption) ?_
                  rotate_left
                  · (intro wS hSw; (try dsimp only at hSw); go_simp); all_goals with_reducible rfl
                  try simp only [Act.put, List.setIfInBounds_toArray, List.set_cons_zero, List.set_cons_succ]
                  refine wpAnyH_take (i := 17) (oi := ⟨_, _, _, _, _, _⟩) (v := ?_) rfl (by kernel_rfl) (by kernel_rfl) (by kernel_rfl) (fun _ _ _ h => h) (Or.inl ⟨by rfl, ?_⟩) (by assumption) ?_
                  rotate_left
                  · (intro wS hSw; (try dsimp only at hSw); go_simp); all_goals with_reducible rfl
                  try simp only [Act.put, List.setIfInBounds_toArray, List.set_cons_zero, List.set_cons_succ]
                  refine wpAnyH_take (i := 18) (oi := ⟨_, _, _, _, _, _⟩) (v := ?_) rfl (by kernel_rfl) (by kernel_rfl) (by kernel_rfl) (fun _ _ _ h => h) (Or.inl ⟨by rfl, ?_⟩) (by assumption) ?_
                  rotate_left
                  · (intro wS hSw; (try dsimp only at hSw); go_simp); all_goals with_reducible rfl
                  try simp only [Act.put, List.setIfInBounds_toArray, List.set_cons_zero, List.set_cons_succ]
                  refine wpAnyH_done (by kernel_rfl) ?_ _
                  clear hHeld d1 d2 d3 d4 i1 i2 i3 i4
                  have hbd := hbel.drew
                  obtain ⟨W4, hW4⟩ : ∃ W4, Hid (W4 = wr.drew) := ⟨_, rfl⟩
                  rw [← hW4.out] at hbd ⊢
                  have hst4 : Hid (StrsAt W4 W4.heap.size od o.reverse) := by rw [hW4.out]; exact hstr.out
                  clear c0 c1 c2 c3 c4
                  obtain ⟨c0, c1, c2, c3, c4⟩ := HC.out W4 hbd
                  go_wp2_with fail
                  refine (Rtag_any x A' c' _ (HAT.out W4 hbd) HSX.out T hT htl).mono ?_; rintro e w5 ⟨rfl, hb5⟩
                  have hzd := hbd.size
                  have hb5' := hbd.trans (hb5.mono hzd)
                  have hst5 : Hid (StrsAt w5 w5.heap.size od o.reverse) := (hst4.out.below hb5).more hb5.size
                  clear c0 c1 c2 c3 c4
                  go_wp2_with fail
                  go_roundw
                  case rel =>
                    refine ⟨k + 1, _, o, od, oc, m, by omega, by go_num, rfl, rfl, hm, by omega, hmc, hocm, hod, ?_, hnl, hst5, hb5'⟩
                    show _ = _
                    rw [← hin2.out]
                    simp
                  case measure => simp [intOf]; omega
              | false =>
                have hin2 : Hid ((b.data.toList ++ (T ++ [62])) ++ mach (x.name :: o) (N.drop (k + 1)) = O) := by
                  show _ = _
                  rw [← hin.out, mach_open hle hk2 hlf, hR.out, hT.out]
                  simp
                obtain ⟨y, s', hRy⟩ : ∃ y s', R = y :: s' := by
                  cases R with
                  | nil => cases hlf
                  | cons y s' => exact ⟨y, s', rfl⟩
                have hy : Hid (N[k + 1]? = some y) := by
                  have := hR.out
                  rw [hRy] at this
                  have h2 : (N.drop (k + 1))[0]? = some y := by rw [this]; rfl
                  rw [List.getElem?_drop] at h2
                  exact h2
                have hk1 : k + 1 < N.length := (List.getElem?_eq_some_iff.1 hy.out).1
                rw [hRy] at hlf
                have hyl : ¬ y.level ≤ x.level := of_decide_eq_false hlf
                have hyc := (HIT.out.item hy.out).2.choose_spec.choose_spec.2.2.1
                have d3 : ((k : Int) + 1 == N.length) = false := by simp; omega
                have d4 : decide (y.level ≤ x.level) = false := by simpa using hyl
                have i4 : (k : Int) + 1 < N.length := by omega
                have HSS : Hid (wr.drew.cell? (ad.add (k * 5)) = some (.int .i64 x.level) ∧ wr.drew.cell? (ad.add ((k + 1) * 5)) = some (.int .i64 y.level)) := ⟨c0, (hbel.drew.cell (by rw [block_of_add]; exact hadb)).trans hyc⟩
                clear hin hp hle hk2 htg hlf hRy hyl hyc
                go_wp2_with fail
                refine wp_region_held_drew (S := fun w' => w'.cell? (ad.add (k * 5)) = some (.int .i64 x.level) ∧ w'.cell? (ad.add ((k + 1) * 5)) = some (.int .i64 y.level)) (by kernel_rfl) HSS.out (fun hHeld => ?_)
                refine wpAnyH_take (i := 0) (oi := ⟨_, _, _, _, _, _⟩) (v := ?_) rfl (by kernel_rfl) (by kernel_rfl) (by kernel_rfl) (fun _ _ _ h => h) (Or.inl ⟨by rfl, ?_⟩) (by assumption) ?_
                rotate_left
                · (intro wS hSw; (try dsimp only at hSw); go_simp); all_goals with_reducible rfl
                try simp only [Act.put, List.setIfInBounds_toArray, List.set_cons_zero, List.set_cons_succ]
                refine wpAnyH_take (i := 1) (oi := ⟨_, _, _, _, _, _⟩) (v := ?_) rfl (by kernel_rfl) (by kernel_rfl) (by kernel_rfl) (fun _ _ _ h => h) (Or.inl ⟨by rfl, ?_⟩) (by assumption) ?_
                rotate_left
                · (intro wS hSw; (try dsimp only at hSw); go_simp); all_goals with_reducible rfl
                try simp only [Act.put, List.setIfInBounds_toArray, List.set_cons_zero, List.set_cons_succ]
                refine wpAnyH_take (i := 2) (oi := ⟨_, _, _, _, _, _⟩) (v := ?_) rfl (by kernel_rfl) (by kernel_rfl) (by kernel_rfl) (fun _ _ _ h => h) (Or.inl ⟨by rfl, ?_⟩) (by assumption) ?_
                rotate_left
                · (intro wS hSw; (try dsimp only at hSw); go_simp); all_goals with_reducible rfl
                try simp only [Act.put, List.setIfInBounds_toArray, List.set_cons_zero, List.set_cons_succ]
                refine wpAnyH_take (i := 3) (oi := ⟨_, _, _, _, _, _⟩) (v := ?_) rfl (by kernel_rfl) (by kernel_rfl) (by kernel_rfl) (fun _ _ _ h => h) (Or.inl ⟨by rfl, ?_⟩) (by assumption) ?_
                rotate_left
                · (intro wS hSw; (try dsimp only at hSw); go_simp); all_goals with_reducible rfl
                try simp only [Act.put, List.setIfInBounds_toArray, List.set_cons_zero, List.set_cons_succ]
                refine wpAnyH_take (i := 4) (oi := ⟨_, _, _, _, _, _⟩) (v := ?_) rfl (by kernel_rfl) (by kernel_rfl) (by kernel_rfl) (fun _ _ _ h => h) (Or.inl ⟨by rfl, ?_⟩) (by assumption) ?_
                rotate_left
                · (intro wS hSw; (try dsimp only at hSw); go_simp); all_goals with_reducible rfl
                try simp only [Act.put, List.setIfInBounds_toArray, List.set_cons_zero, List.set_cons_succ]
                refine wpAnyH_take (i := 5) (oi := ⟨_, _, _, _, _, _⟩) (v := ?_) rfl (by kernel_rfl) (by kernel_rfl) (by kernel_rfl) (fun _ _ _ h => h) (Or.inl ⟨by rfl, ?_⟩) (by assumption) ?_
                rotate_left
                · (intro wS hSw; (try dsimp only at hSw); go_simp); all_goals with_reducible rfl
                try simp only [Act.put, List.setIfInBounds_toArray, List.set_cons_zero, List.set_cons_succ]
                refine wpAnyH_take (i := 6) (oi := ⟨_, _, _, _, _, _⟩) (v := ?_) rfl (by kernel_rfl) (by kernel_rfl) (by kernel_rfl) (fun _ _ _ h => h) (Or.inl ⟨by rfl, ?_⟩) (by assumption) ?_
                rotate_left
                · (intro wS hSw; (try dsimp only at hSw); go_simp); all_goals with_reducible rfl
                try simp only [Act.put, List.setIfInBounds_toArray, List.set_cons_zero, List.set_cons_succ]
                refine wpAnyH_take (i := 7) (oi := ⟨_, _, _, _, _, _⟩) (v := ?_) rfl (by kernel_rfl) (by kernel_rfl) (by kernel_rfl) (fun _ _ _ h => h) (Or.inl ⟨by rfl, ?_⟩) (by assumption) ?_
                rotate_left
                · (intro wS hSw; (try dsimp only at hSw); go_simp); all_goals with_reducible rfl
                try simp only [Act.put, List.setIfInBounds_toArray, List.set_cons_zero, List.set_cons_succ]
                refine wpAnyH_take (i := 8) (oi := ⟨_, _, _, _, _, _⟩) (v := ?_) rfl (by kernel_rfl) (by kernel_rfl) (by kernel_rfl) (fun _ _ _ h => h) (Or.inl ⟨by rfl, ?_⟩) (by assumption) ?_
                rotate_left
                · (intro wS hSw; (try dsimp only at hSw); go_simp); all_goals with_reducible rfl
                try simp only [Act.put, List.setIfInBounds_toArray, List.set_cons_zero, List.set_cons_succ]
                refine wpAnyH_take (i := 9) (oi := ⟨_, _, _, _, _, _⟩) (v := ?_) rfl (by kernel_rfl) (by kernel_rfl) (by kernel_rfl) (fun _ _ _ h => h) (Or.inl ⟨by rfl, ?_⟩) (by assumption) ?_
                rotate_left
                · (intro wS hSw; (try dsimp only at hSw); go_simp); all_goals with_reducible rfl
                try simp only [Act.put, List.setIfInBounds_toArray, List.set_cons_zero, List.set_cons_succ]
                refine wpAnyH_take (i := 10) (oi := ⟨_, _, _, _, _, _⟩) (v := ?_) rfl (by kernel_rfl) (by kernel_rfl) (by kernel_rfl) (fun _ _ _ h => h) (Or.inl ⟨by rfl, ?_⟩) (by assumption) ?_
                rotate_left
                · (intro wS hSw; (try dsimp only at hSw); go_simp); all_goals with_reducible rfl
                try simp only [Act.put, List.setIfInBounds_toArray, List.set_cons_zero, List.set_cons_succ]
                refine wpAnyH_take (i := 11) (oi := ⟨_, _, _, _, _, _⟩) (v := ?_) rfl (by kernel_rfl) (by kernel_rfl) (by kernel_rfl) (fun _ _ _ h => h) (Or.inl ⟨by rfl, ?_⟩) (by assumption) ?_
                rotate_left
                · (intro wS hSw; (try dsimp only at hSw); go_simp); all_goals with_reducible rfl
                try simp only [Act.put, List.setIfInBounds_toArray, List.set_cons_zero, List.set_cons_succ]
                refine wpAnyH_take (i := 12) (oi := ⟨_, _, _, _, _, _⟩) (v := ?_) rfl (by kernel_rfl) (by kernel_rfl) (by kernel_rfl) (fun _ _ _ h => h) (Or.inl ⟨by rfl, ?_⟩) (by assumption) ?_
                rotate_left
                · (intro wS hSw; (try dsimp only at hSw); go_simp); all_goals with_reducible rfl
                try simp only [Act.put, List.setIfInBounds_toArray, List.set_cons_zero, List.set_cons_succ]
                refine wpAnyH_take (i := 13) (oi := ⟨_, _, _, _, _, _⟩) (v := ?_) rfl (by kernel_rfl) (by kernel_rfl) (by kernel_rfl) (fun _ _ _ h => h) (Or.inl ⟨by rfl, ?_⟩) (by assumption) ?_
                rotate_left
                · (intro wS hSw; (try dsimp only at hSw); go_simp); all_goals with_reducible rfl
                try simp only [Act.put, List.setIfInBounds_toArray, List.set_cons_zero, List.set_cons_succ]
                refine wpAnyH_take (i := 14) (oi := ⟨_, _, _, _, _, _⟩) (v := ?_) rfl (by kernel_rfl) (by kernel_rfl) (by kernel_rfl) (fun _ _ _ h => h) (Or.inl ⟨by rfl, ?_⟩) (by assumption) ?_
                rotate_left
                · (intro wS hSw; (try dsimp only at hSw); go_simp); all_goals with_reducible rfl
                try simp only [Act.put, List.setIfInBounds_toArray, List.set_cons_zero, List.set_cons_succ]
                refine wpAnyH_take (i := 15) (oi := ⟨_, _, _, _, _, _⟩) (v := ?_) rfl (by kernel_rfl) (by kernel_rfl) (by kernel_rfl) (fun _ _ _ h => h) (Or.inl ⟨by rfl, ?_⟩) (by assumption) ?_
                rotate_left
                · (intro wS hSw; (try dsimp only at hSw); go_simp); all_goals with_reducible rfl
                try simp only [Act.put, List.setIfInBounds_toArray, List.set_cons_zero, List.set_cons_succ]
                refine wpAnyH_take (i := 16) (oi := ⟨_, _, _, _, _, _⟩) (v := ?_) rfl (by kernel_rfl) (by kernel_rfl) (by kernel_rfl) (fun _ _ _ h => h) (Or.inl ⟨by rfl, ?_⟩) (by assumption) ?_
                rotate_left
                · (intro wS hSw; (try dsimp only at hSw); go_simp); all_goals with_reducible rfl
                try simp only [Act.put, List.setIfInBounds_toArray, List.set_cons_zero, List.set_cons_succ]
                refine wpAnyH_take (i := 17) (oi := ⟨_, _, _, _, _, _⟩) (v := ?_) rfl (by kernel_rfl) (by kernel_rfl) (by kernel_rfl) (fun _ _ _ h => h) (Or.inl ⟨by rfl, ?_⟩) (by assumption) ?_
                rotate_left
                · (intro wS hSw; (try dsimp only at hSw); go_simp); all_goals with_reducible rfl
                try simp only [Act.put, List.setIfInBounds_toArray, List.set_cons_zero, List.set_cons_succ]
                refine wpAnyH_take (i := 18) (oi := ⟨_, _, _, _, _, _⟩) (v := ?_) rfl (by kernel_rfl) (by kernel_rfl) (by kernel_rfl) (fun _ _ _ h => h) (Or.inl ⟨by rfl, ?_⟩) (by assumption) ?_
                rotate_left
                · (intro wS hSw; (try dsimp only at hSw); go_simp); all_goals with_reducible rfl
                try simp only [Act.put, List.setIfInBounds_toArray, List.set_cons_zero, List.set_cons_succ]
                refine wpAnyH_done (by kernel_rfl) ?_ _
                clear hHeld d1 d2 d3 d4 i1 i2 i3 i4
                have hbd := hbel.drew
                obtain ⟨W4, hW4⟩ : ∃ W4, Hid (W4 = wr.drew) := ⟨_, rfl⟩
                rw [← hW4.out] at hbd ⊢
                have hst4 : Hid (StrsAt W4 W4.heap.size od o.reverse) := by rw [hW4.out]; exact hstr.out
                clear c0 c1 c2 c3 c4
                obtain ⟨c0, c1, c2, c3, c4⟩ := HC.out W4 hbd
                go_wp2_with fail
                refine (Rtag_any x A' c' _ (HAT.out W4 hbd) HSX.out T hT htl).mono ?_; rintro e w5 ⟨rfl, hb5⟩
                have hz5 := hb5.size
                have hzd := hbd.size
                have hb5' := hbd.trans (hb5.mono hzd)
                have hst5 : Hid (StrsAt w5 w5.heap.size od o.reverse) := (hst4.out.below hb5).more hz5
                clear c0 c1 c2 c3 c4
                obtain ⟨i0, hi0, hz0, hz1, hz2⟩ := info_parts infoStr
                have hown5 : (w5.alloc (.cells #[] 9)).ownsRow w5.heap.size 9 1 (.slice (some ⟨w5.heap.size, 0, none⟩) 0 0) 0 [] :=
                  ⟨by simp, .inr ⟨w5.heap.size, 0, #[], rfl, Nat.le_refl _, heap_alloc_new w5 _, Nat.le_refl _, by decide, by simp, by simp⟩⟩
                have hOWN5 := Lib.hid hown5
                clear hown5
                have hpush : Hid (∀ (v : Value) (w6 : World), w6.ownsRow w5.heap.size 9 1 v m ((o.map strV).reverse) → Below w5.heap.size w5 w6 → w5.heap.size ≤ w6.heap.size → ∀ a c2 w7, w7.ownsRow w5.heap.size 9 1 (.slice a (m + 1) c2) (m + 1) ((o.map strV).reverse ++ [strV x.name]) → Below w5.heap.size w6 w7 →
                    Hid ((x.name :: o).length = m + 1) ∧ m + 1 ≤ c2 ∧ c2 ≤ maxLen ∧ Hid (a = none → c2 = 0) ∧ Hid (∀ n ∈ x.name :: o, n.length ≤ 1000000000) ∧ Hid (StrsAt w7 w7.heap.size a (x.name :: o).reverse) ∧ Below w3.heap.size w3 w7) := by
                  intro v w6 _ h6 _ a c2 w7 h7 hb7
                  have hcc : m + 1 ≤ c2 ∧ c2 ≤ maxLen := by
                    rcases h7.2 with ⟨_, h0⟩ | ⟨g, cap, cur, hv, _, _, h4, h5, _⟩
                    · omega
                    · injection hv with _ _ h3; subst h3; exact ⟨h4, h5⟩
                  refine ⟨by show _ = _; rw [List.length_cons, hm.out], hcc.1, hcc.2, ?_, ?_, ?_, hb5'.trans ((h6.mono (by omega)).trans (hb7.mono (by omega)))⟩
                  · intro ha
                    subst ha
                    rcases h7.2 with ⟨_, h0⟩ | ⟨g, cap, cur, hv, _⟩
                    · omega
                    · cases hv
                  · intro n hn
                    rcases List.mem_cons.1 hn with rfl | hn
                    · exact hst1
                    · exact hnl.out n hn
                  · intro _
                    rcases h7.2 with ⟨_, h0⟩ | ⟨g, cap, cur, hv, _, hg, _⟩
                    · omega
                    · injection hv with hv _ _
                      refine ⟨⟨g, 0, none⟩, hv, (Array.getElem?_eq_some_iff.1 hg).1, fun j s hs => ?_⟩
                      subst hv
                      refine h7.cells (g := g) rfl j _ ?_
                      have e : (o.map strV).reverse ++ [strV x.name] = (x.name :: o).reverse.map strV := by rw [List.reverse_cons, List.map_append, List.map_reverse]; rfl
                      rw [e, List.getElem?_map, hs]; rfl
                have hz5' : w3.heap.size ≤ w5.heap.size := by omega
                obtain ⟨c0, c1, c2, c3, c4⟩ := HC.out w5 hb5'
                have hne : ∀ w', Below w5.heap.size w5 w' → w'.cell? ⟨(ad.add (k * 5)).block, (ad.add (k * 5)).off + 2, none⟩ = some (.string ⟨x.name.toArray⟩) := fun w' hb => (HC.out w' (hb5'.trans (hb.mono hz5'))).2.2.1
                have HNE := Lib.hid hne
                clear hne c0 c1 c2 c3 c4
                have hk5 : Hid (∀ n ∈ x.name :: o, n.length ≤ 1000000000) := fun n hn => by
                  rcases List.mem_cons.1 hn with rfl | hn
                  · exact hst1
                  · exact hnl.out n hn
                cases od with
                | none =>
                  have hoc := hod.out rfl
                  subst hoc
                  have hm00 : m = 0 := by omega
                  subst hm00
                  have ho0 : o = [] := List.eq_nil_of_length_eq_zero hm.out
                  have hown6 : (w5.alloc (.cells #[] 9)).ownsRow w5.heap.size 9 1 (.slice (some ⟨w5.heap.size, 0, none⟩) 0 0) 0 ((o.map strV).reverse) := by rw [ho0]; exact hOWN5.out
                  have hb6 : Below w5.heap.size w5 (w5.alloc (.cells #[] 9)) := (Below.refl _ w5).alloc (Nat.le_refl _) _
                  have hnc := HNE.out _ hb6
                  have hz6 : w5.heap.size ≤ (w5.alloc (.cells #[] 9)).heap.size := by simp
                  have H6 := Lib.hid (show _ ∧ _ from ⟨hown6, hb6⟩)
                  clear hown6 hb6 ho0
                  go_wp2_with (first | (at_builtin; refine wpList_append_own_none rfl (.tmp 105) (.tmp 106) 51 rfl w5.heap.size 9 i0 1 Try.underlying51 hi0 _ 0 [] rfl hOWN5.out rfl ?_) | (at_builtin; refine append1 rfl (.tmp 108) (.tmp 114) 51 rfl w5.heap.size 9 (.string ByteArray.empty) 16 Try.underlying51 infoStr rfl _ _ _ (strV x.name) rfl H6.out.1 hz6 _ rfl (by simp) rfl (by omega) (by omega) ?_))
                  intro g c2 w7 hown7 hb7 hz7
                  obtain ⟨r1, r2, r3, r4, r5, r6, r7⟩ := hpush.out _ _ H6.out.1 H6.out.2 hz6 _ c2 w7 hown7 hb7
                  clear hown7 hnc
                  go_wp2_with fail
                  go_roundw
                  case rel =>
                    refine ⟨k + 1, _, x.name :: o, some ⟨g, 0, none⟩, c2, 0 + 1, by omega, by go_num, rfl, rfl, r1, by omega, r2, r3, r4, ?_, r5, r6, r7⟩
                    show _ = _
                    rw [← hin2.out]
                    simp
                  case measure => simp [intOf]; omega
                | some god =>
                  have hcs : Hid (∀ j u, ((o.map strV).reverse)[j]? = some u → (w5.alloc (.cells #[] 9)).cell? (god.add j) = some u) := by
                    intro j u hu
                    rw [← List.map_reverse, List.getElem?_map] at hu
                    obtain ⟨s, hs, rfl⟩ := Option.map_eq_some_iff.1 hu
                    obtain ⟨ad', e, hbl', hc'⟩ := hst5.out (by have := (List.getElem?_eq_some_iff.1 hs).1; omega)
                    injection e with e; subst e
                    rw [World.cell?_alloc_lt _ _ _ (by rw [block_of_add]; exact hbl')]
                    exact hc' j s hs
                  have hl1 : ((o.map strV).reverse).length = m * 1 := by rw [List.length_reverse, List.length_map, hm.out]; omega
                  have hone : ∀ u ∈ (o.map strV).reverse, u.oneCell' = true := fun u hu => by
                    obtain ⟨s, _, rfl⟩ := List.mem_map.1 (List.mem_reverse.1 hu); rfl
                  have HL1 := Lib.hid (show _ ∧ _ from ⟨hl1, hone⟩)
                  clear hl1 hone
                  go_wp2_with (at_builtin; go_loud (refine wpList_append_own _ rfl (.tmp 105) (.tmp 106) 51 rfl w5.heap.size 9 i0 (.string ByteArray.empty) 1 16 Try.underlying51 hi0 hz0 hz1 hz2 rfl (by decide) _ 0 [] rfl hOWN5.out god m oc ((o.map strV).reverse) rfl HL1.out.1 hcs.out HL1.out.2 (by unfold maxLen; omega) (by omega) (by simp) ?_))
                  intro v6 w6 hown6 hg6 _
                  have hb6 : Below w5.heap.size w5 w6 := ((Below.refl _ w5).alloc (Nat.le_refl _) _).grown hg6 (by simp) (fun j hj => (hOWN5.out.lt j hj).1)
                  have hz6 := hb6.size
                  have hown6' : w6.ownsRow w5.heap.size 9 1 v6 m ((o.map strV).reverse) := by
                    simpa using hown6
                  obtain ⟨a6, c6, rfl⟩ : ∃ a6 c6, v6 = .slice a6 m c6 := by
                    rcases hown6'.2 with ⟨h1, h2⟩ | ⟨g, c, cur, hv, _⟩
                    · exact ⟨none, 0, by rw [h2]; exact h1⟩
                    · exact ⟨_, c, hv⟩
                  have H6 := Lib.hid (show _ ∧ _ from ⟨hown6', hb6⟩)
                  have hnc := HNE.out w6 hb6
                  clear hown6 hown6' hg6 hb6
                  go_wp2_with (at_builtin; go_loud (refine append1 rfl (.tmp 108) (.tmp 114) 51 rfl w5.heap.size 9 (.string ByteArray.empty) 16 Try.underlying51 infoStr rfl _ _ _ (strV x.name) rfl H6.out.1 hz6 _ rfl rfl rfl (by omega) (by omega) ?_))
                  intro g c2 w7 hown7 hb7 hz7
                  obtain ⟨r1, r2, r3, r4, r5, r6, r7⟩ := hpush.out _ _ H6.out.1 H6.out.2 hz6 _ c2 w7 hown7 hb7
                  clear hown7 hnc
                  go_wp2_with fail
                  go_roundw
                  case rel =>
                    refine ⟨k + 1, _, x.name :: o, some ⟨g, 0, none⟩, c2, m + 1, by omega, by go_num, rfl, rfl, r1, by omega, r2, r3, r4, ?_, r5, r6, r7⟩
                    show _ = _
                    rw [← hin2.out]
                    simp
                  case measure => simp [intOf]; omega
      · have hkN : k = N.length := by omega
        have hM2 : Hid (b.data.toList ++ (o.drop (m - m)).flatMap closeT = O) := by
          show _ = _
          rw [← hin.out, hkN, List.drop_eq_nil_of_le (Nat.le_refl _), Nat.sub_self, List.drop_zero]; rfl
        subst hkN
        clear hin hlt hk hbl
        have hm0 : (0 : Int) ≤ (m : Int) := by omega
        go_wp2_with fail
        go_loopw [6, 12] (fun s i wq => ∃ (j : Nat) (b : ByteArray), j ≤ m ∧ i = .int .i64 ((j : Int) - 1) ∧ s = .string b ∧ Hid (b.data.toList ++ (o.drop (m - j)).flatMap closeT = O) ∧ wq = wr) (fun _ i _ => (intOf i + 1).toNat)
        case atStart => exact ⟨m, b, Nat.le_refl _, rfl, rfl, hM2, rfl⟩
        case round =>
          obtain ⟨j, b, hj, rfl, rfl, hin, rfl⟩ := hrel
          have hbl : b.size ≤ 250000000 := by
            have : b.data.toList.length ≤ O.length := by rw [← hin.out, List.length_append]; omega
            have e : b.data.toList.length = b.size := by rw [Array.length_toList]; rfl
            omega
          by_cases hj0 : j = 0
          · have hv : Hid (b.data.toList = O) := by
              show _ = _
              rw [← hin.out, hj0, Nat.sub_zero, List.drop_eq_nil_of_le (by rw [hm.out]; exact Nat.le_refl _)]; simp
            have hbO : b = ⟨O.toArray⟩ := str_data hv.out
            have d1 : decide ((0 : Int) ≤ (j : Int) - 1) = false := by simp; omega
            have d2 : decide ((1 : Int) ≤ (j : Int)) = false := by simp; omega
            have d3 : decide (1 ≤ j) = false := by simp; omega
            clear hin hj0 hv
            subst hbO
            go_wp2_with fail
            go_ret2
            exact ⟨rfl, hbw3.trans (hbel.mono (hbw3.size))⟩
          · obtain ⟨nm, hnm⟩ : ∃ nm, Hid (o[m - j]? = some nm) := ⟨o[m - j]'(by rw [hm.out]; omega), List.getElem?_eq_getElem _⟩
            have hdr : o.drop (m - j) = nm :: o.drop (m - (j - 1)) := by rw [drop_cons hnm.out, show m - j + 1 = m - (j - 1) by omega]
            have hin2 : Hid ((b.data.toList ++ closeT nm) ++ (o.drop (m - (j - 1))).flatMap closeT = O) := by
              show _ = _
              rw [← hin.out, hdr, List.flatMap_cons, List.append_assoc]
            have hnml := hnl.out nm (List.mem_of_getElem? hnm.out)
            obtain ⟨god, hgod, hgb, hgc⟩ := hstr.out (by rw [List.length_reverse, hm.out]; omega)
            subst hgod
            have hgc' := hgc (j - 1) nm (by rw [List.getElem?_reverse (by rw [hm.out]; omega), hm.out, show m - 1 - (j - 1) = m - j by omega]; exact hnm.out)
            unfold strV at hgc'
            have d1 : decide ((0 : Int) ≤ (j : Int) - 1) = true := by simp; omega
            have d2 : decide ((1 : Int) ≤ (j : Int)) = true := by simp; omega
            have d3 : decide (1 ≤ j) = true := by simp; omega
            have i1 : (1 : Int) ≤ (j : Int) := by omega
            have i2 : (0 : Int) ≤ (j : Int) - 1 := by omega
            have i3 : (j : Int) - 1 < (m : Int) := by omega
            clear hin hj0 hdr hgc
            go_wp2_with fail
            go_roundw
            case rel =>
              refine ⟨j - 1, _, by omega, by go_num, rfl, ?_, by first | rfl | trivial⟩
              show _ = _
              rw [← hin2.out]
              simp [closeT]
            case measure => simp [intOf]; omega
  · obtain ⟨ho, he⟩ := v2 hq0
    have tq : (q != 0) = true := by simp [hq0]
    clear v1 v2 hq0
    subst ho; subst he
    go_enter Try.func9, Try.ntmps9
    go_wp2_with fail
    refine (RCheck_any l A c w HA.out HS.out.1 n e hq).mono ?_; rintro e2 w2 ⟨rfl, hb2⟩
    go_wp2_with fail
    go_ret2
    exact ⟨rfl, hb2⟩
end Go.Proofs.Ytiopijjlkmpikaa
