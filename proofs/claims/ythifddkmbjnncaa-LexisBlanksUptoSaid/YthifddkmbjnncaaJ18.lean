/-
  Texts of this claim, joined (by a program of the claim's author): Blanks3.
-/
import Derived.Test.YthifddkmbjnncaaJ17
import Derived.Test.YthifddkmbjnncaaJ4
/-
  The law LexisBlanks walked.
-/
namespace Go.Proofs.Ythifddkmbjnncaa
open Go.RowKit

/-- what each of the three pairs of ends says -/
def BlankPair (bl X E : ByteArray) : Prop :=
  (X.size ≤ 1000000 + 1000000 ∧ E.size ≤ 10 ∧ 0 < E.size) ∧ ∀ t, oneT (X ++ E).data.toList = .ok t (X ++ E).size → oneT (X ++ bl ++ E).data.toList = .ok t (X ++ bl ++ E).size

theorem pair_start (n bl e : ByteArray) (he : endB e.data.toList) (hb : bl.data.toList.all blankB = true) (hn : n.data.toList ≠ []) (hx : n.data.toList.getLast? ≠ some 47) (hs : n.size ≤ 1048576) (hse : e.size ≤ 10) : BlankPair bl (⟨#[60]⟩ ++ n) e := by
  have hpos : 0 < e.size := by
    rw [← size_toList]
    rcases he with he | he <;> rw [he] <;> decide
  refine ⟨⟨by rw [ByteArray.size_append]; show 1 + n.size ≤ _; omega, hse, hpos⟩, fun t ht => ?_⟩
  have h1 : (⟨#[60]⟩ ++ n ++ e : ByteArray).data.toList = 60 :: n.data.toList ++ e.data.toList := by rw [cat_list, cat_list]; rfl
  have h2 : (⟨#[60]⟩ ++ n ++ bl ++ e : ByteArray).data.toList = 60 :: n.data.toList ++ bl.data.toList ++ e.data.toList := by rw [cat_list, cat_list, cat_list]; rfl
  rw [← size_toList, h1] at ht
  rw [← size_toList, h2]
  exact oneT_blanks he hb hn hx ht
theorem pair_stop (n bl : ByteArray) (hb : bl.data.toList.all blankB = true) (hs : n.size ≤ 1048576) : BlankPair bl (⟨#[60, 47]⟩ ++ n) ⟨#[62]⟩ := by
  refine ⟨⟨by rw [ByteArray.size_append]; show 2 + n.size ≤ _; omega, by decide, by decide⟩, fun t ht => ?_⟩
  have h1 : (⟨#[60, 47]⟩ ++ n ++ ⟨#[62]⟩ : ByteArray).data.toList = 60 :: 47 :: n.data.toList ++ [62] := by rw [cat_list, cat_list]; rfl
  have h2 : (⟨#[60, 47]⟩ ++ n ++ bl ++ ⟨#[62]⟩ : ByteArray).data.toList = 60 :: 47 :: n.data.toList ++ bl.data.toList ++ [62] := by rw [cat_list, cat_list, cat_list]; rfl
  rw [← size_toList, h1] at ht
  rw [← size_toList, h2]
  exact oneT_blanks_end hb ht

theorem get_last0 {α : Type} {l : List α} (h : l ≠ []) : ∃ x, l[l.length - 1]? = some x ∧ l.getLast? = some x := by
  have hl : 0 < l.length := List.length_pos_iff.2 h
  refine ⟨l[l.length - 1], List.getElem?_eq_getElem (by omega), ?_⟩
  rw [List.getLast?_eq_getElem?]; exact List.getElem?_eq_getElem (by omega)

/-- what One says at the beginning of a text -/
def OneAt (w : World) (V : Told TokD) (e : Ending) (w' : World) : Prop :=
  Below w.heap.size w w' ∧ ∃ (t : TokD) (A : Option Addr) (c k : Nat) (b : Nat) (er : Int), e = .returned (.tuple #[.agg #[.int .i64 t.kind, .int .i64 0, .string ⟨t.name.toArray⟩, .string ⟨t.text.toArray⟩, .slice A t.attrs.length c], .int .i64 (k : Int), .int .i64 (b : Int), .int .i64 er])
    ∧ AttrsOwn w' w.heap.size A c t.attrs ∧ t.attrs.length ≤ 1000 ∧ (∀ t' n', V = .ok t' n' → t = t' ∧ k = n' ∧ er = 0) ∧ (∀ k' e', V = .bad k' e' → er ≠ 0)
theorem One_at (s : ByteArray) (w : World) (hp : 0 < s.size) (hs : s.size ≤ 1000000000) (V : Told TokD) (hV : Hid (oneT s.data.toList = V)) : Calls Try.prog 20 #[.string s, .int .i64 0] w (OneAt w V) := by
  have hne : s.data.toList ≠ [] := by
    intro e
    have := size_toList s
    rw [e] at this; simp at this; omega
  have hw := oneT_within _ hne
  refine (One_any s 0 w hp hs V hV).mono ?_
  rintro e w' ⟨hb, hpost⟩
  cases V with
  | bad k e' =>
    rw [hV.out] at hw
    exact ⟨hb, ⟨0, [], [], []⟩, none, 0, 0, 0 + k, e', hpost, World.ownsRow_nil _ _ _ _, by simp, (fun _ _ h => by cases h), (fun k' e'' h => by injection h with _ h; subst h; exact hw.2)⟩
  | ok t n =>
    obtain ⟨A, c, h1, h2⟩ := hpost
    have hm := (tok_parts hV.out).2.2.2.1
    rw [Nat.zero_add] at h1
    exact ⟨hb, t, A, c, n, 0, 0, h1, h2, by omega, (fun t' n' h => by injection h with h h'; exact ⟨h, h', rfl⟩), (fun _ _ h => by cases h)⟩


set_option maxRecDepth 100000 in
set_option maxHeartbeats 4000000 in
theorem walk_LexisBlanks (n bl : ByteArray) (w : World) (hs : n.size + bl.size ≤ 1048576) (_ : n.size ≤ maxLen) (_ : bl.size ≤ maxLen) : Calls Try.prog 5 #[.string n, .string bl] w (Ret w (.bool true)) := by
  have HLn := Lib.hid (size_toList n)
  have HLb := Lib.hid (size_toList bl)
  by_cases h0 : n.toList.isEmpty = true
  · go_enter Try.func5, Try.ntmps5
    go_wp2_with fail
    refine (alive3_any _).mono ?_
    rintro e9 w9 ⟨rfl, hb9⟩
    go_wp2_with fail
    go_ret
    exact ⟨rfl, hb9⟩
  have h0' : n.toList.isEmpty = false := by simpa using h0
  have hn : n.data.toList ≠ [] := by
    intro e
    apply h0
    rw [ByteArray.toList_eq, e]; rfl
  have hpos : 0 < n.size := by rw [← HLn.out]; exact List.length_pos_iff.2 hn
  obtain ⟨x, hx, hxl⟩ := get_last0 hn
  rw [HLn.out] at hx
  have hnx : n[n.size - 1]'(by omega) = x := getk_of n (n.size - 1) x hx (by omega)
  have i0 : (0 : Int) ≤ (n.size : Int) - 1 := by omega
  have i1 : (n.size : Int) - 1 < n.size := by omega
  have i2 : (1 : Int) ≤ n.size := by omega
  have iw : IntKind.i64.wrap ((n.size : Int) - 1) = (n.size : Int) - 1 := IntWalk.i64_in _ (by omega)
  have itn : ((n.size : Int) - 1).toNat = n.size - 1 := by omega
  have HN := Lib.hid hn
  have HXL := Lib.hid hxl
  clear hn hx hxl h0
  by_cases hx47 : x = 47
  · subst hx47
    go_enter Try.func5, Try.ntmps5
    go_wp2_with fail
    refine (alive3_any _).mono ?_
    rintro e9 w9 ⟨rfl, hb9⟩
    go_wp2_with fail
    go_ret
    exact ⟨rfl, hb9⟩
  have e47 : ((x.toNat : Int) == 47) = false := by
    have : x.toNat ≠ 47 := fun e => hx47 (UInt8.toNat.inj e)
    simp; omega
  have hlast : Hid (n.data.toList.getLast? ≠ some 47) := by
    show _ ≠ _
    rw [HXL.out]
    intro e; injection e with e; exact hx47 e
  clear hx47
  go_enter Try.func5, Try.ntmps5
  go_wp2_with fail
  clear i0 i1 i2 iw itn e47
  go_loopw [29] (fun i wr => ∃ (k : Nat), k ≤ bl.size ∧ i = .int .i64 (k : Int) ∧ Hid ((bl.data.toList.take k).all blankB = true) ∧ Hid (w = wr)) (fun i _ => bl.size - (intOf i).toNat)
  case atStart => exact ⟨0, Nat.zero_le _, rfl, rfl, rfl⟩
  case round =>
    obtain ⟨k, hk, rfl, hall, hwr⟩ := hrel
    by_cases hlt : k < bl.size
    · obtain ⟨y, HY⟩ : ∃ y, Hid (bl.data.toList[k]? = some y) := ⟨bl.data.toList[k]'(by have := HLb.out; omega), List.getElem?_eq_getElem _⟩
      have hsy : bl[k] = y := getk_of bl k y HY.out hlt
      have j0 : (0 : Int) ≤ (k : Int) := by omega
      have j1 : (k : Int) < bl.size := by omega
      have hstep : Hid ((bl.data.toList.take (k + 1)).all blankB = blankB y) := by
        show _ = _
        rw [List.take_add_one, HY.out, List.all_append, hall.out]
        simp
      by_cases hy32 : y = 32
      · subst hy32
        go_wp2_with fail
        go_roundw
        case rel => exact ⟨k + 1, by omega, by go_num, hstep.out, hwr.out⟩
        case measure => simp [intOf]; omega
      by_cases hy9 : y = 9
      · subst hy9
        clear hy32
        go_wp2_with fail
        go_roundw
        case rel => exact ⟨k + 1, by omega, by go_num, hstep.out, hwr.out⟩
        case measure => simp [intOf]; omega
      by_cases hy10 : y = 10
      · subst hy10
        clear hy32 hy9
        go_wp2_with fail
        go_roundw
        case rel => exact ⟨k + 1, by omega, by go_num, hstep.out, hwr.out⟩
        case measure => simp [intOf]; omega
      have e32 : ((y.toNat : Int) != 32) = true := by have : ((y.toNat : Int) == 32) = false := u8_ne hy32; simp [bne, this]
      have e9 : ((y.toNat : Int) != 9) = true := by have : ((y.toNat : Int) == 9) = false := u8_ne hy9; simp [bne, this]
      have e10 : ((y.toNat : Int) != 10) = true := by have : ((y.toNat : Int) == 10) = false := u8_ne hy10; simp [bne, this]
      clear hy32 hy9 hy10
      go_wp2_with fail
      refine (alive3_any _).mono ?_
      rintro e9 w9 ⟨rfl, hb9⟩
      go_wp2_with fail
      go_ret
      rw [hwr.out]
      exact ⟨rfl, hb9⟩
    · have hbl : bl.data.toList.all blankB = true := by
        have := hall.out
        rw [List.take_of_length_le (by rw [HLb.out]; omega)] at this
        exact this
      have HP0 : Hid (BlankPair bl (⟨#[60]⟩ ++ n) ⟨#[62]⟩) := pair_start n bl _ (.inl rfl) hbl HN.out hlast.out (by omega) (by decide)
      have HP1 : Hid (BlankPair bl (⟨#[60, 47]⟩ ++ n) ⟨#[62]⟩) := pair_stop n bl hbl (by omega)
      have HP2 : Hid (BlankPair bl (⟨#[60]⟩ ++ n) ⟨#[47, 62]⟩) := pair_start n bl _ (.inr rfl) hbl HN.out hlast.out (by omega) (by decide)
      clear hbl
      go_wp2_with fail
      obtain ⟨W0, hW0⟩ : ∃ W0, Hid (W0 = wr.alloc (.cells #[.string (⟨#[60]⟩ ++ n), .string ⟨#[62]⟩, .string (⟨#[60, 47]⟩ ++ n), .string ⟨#[62]⟩, .string (⟨#[60]⟩ ++ n), .string ⟨#[47, 62]⟩] 38)) := ⟨_, rfl⟩
      rw [← hW0.out]
      have hbW0 : Below wr.heap.size wr W0 := by rw [hW0.out]; exact (Below.refl _ wr).alloc (Nat.le_refl _) _
      have HPAIR : Hid (∀ k : Nat, k < 3 → ∃ X E : ByteArray, BlankPair bl X E ∧ W0.cell? ⟨wr.heap.size, k * 2, none⟩ = some (.string X) ∧ W0.cell? ⟨wr.heap.size, k * 2 + 1, none⟩ = some (.string E)) := fun k hk => by
        have hc : ∀ j u, (#[.string (⟨#[60]⟩ ++ n), .string ⟨#[62]⟩, .string (⟨#[60, 47]⟩ ++ n), .string ⟨#[62]⟩, .string (⟨#[60]⟩ ++ n), .string ⟨#[47, 62]⟩] : Array Value)[j]? = some u → W0.cell? ⟨wr.heap.size, j, none⟩ = some u := fun j u hu => by
          rw [hW0.out, World.cell?_alloc_at _ _ _ _ rfl]; exact hu
        match k, hk with
        | 0, _ => exact ⟨_, _, HP0.out, hc 0 _ rfl, hc 1 _ rfl⟩
        | 1, _ => exact ⟨_, _, HP1.out, hc 2 _ rfl, hc 3 _ rfl⟩
        | 2, _ => exact ⟨_, _, HP2.out, hc 4 _ rfl, hc 5 _ rfl⟩
      have hz0 : wr.heap.size < W0.heap.size := by rw [hW0.out]; simp
      have HB0 : Hid (Below w.heap.size w W0) := by have e := hwr.out; subst e; exact hbW0
      obtain ⟨g, hg⟩ : ∃ g, Hid (g = wr.heap.size) := ⟨_, rfl⟩
      rw [← hg.out]
      rw [← hg.out] at hz0
      have HPAIR2 : Hid (∀ k : Nat, k < 3 → ∃ X E : ByteArray, BlankPair bl X E ∧ W0.cell? ⟨g, k * 2, none⟩ = some (.string X) ∧ W0.cell? ⟨g, k * 2 + 1, none⟩ = some (.string E)) := by
        show ∀ k, _
        rw [hg.out]; exact HPAIR.out
      clear HPAIR hbW0 hall hwr hg hW0
      go_loopw [61] (fun i wr => ∃ (k : Nat), k ≤ 3 ∧ i = .int .i64 (k : Int) ∧ Hid (Below W0.heap.size W0 wr)) (fun i _ => 3 - (intOf i).toNat)
      case atStart => exact ⟨0, by omega, rfl, (Below.refl _ _ : Below W0.heap.size W0 W0)⟩
      case round =>
        obtain ⟨k, hk, rfl, hbel⟩ := hrel
        by_cases hlt : k < 3
        · obtain ⟨X, E, hpair, hX, hE⟩ := HPAIR2.out k hlt
          rw [← hbel.out.cell (p := ⟨g, k * 2, none⟩) hz0] at hX
          rw [← hbel.out.cell (p := ⟨g, k * 2 + 1, none⟩) hz0] at hE
          have hX' : wr.cell? ((⟨g, 0, none⟩ : Addr).add (k * 2)) = some (.string X) := by rw [add_zero_block]; exact hX
          have hE' : wr.cell? ⟨((⟨g, 0, none⟩ : Addr).add (k * 2)).block, ((⟨g, 0, none⟩ : Addr).add (k * 2)).off + 1, none⟩ = some (.string E) := by rw [add_zero_block]; exact hE
          obtain ⟨⟨hXs, hEs, hE0⟩, hprop⟩ := hpair
          have j0 : (0 : Int) ≤ (k : Int) := by omega
          have j1 : (k : Int) < 3 := by omega
          obtain ⟨W1, hW1⟩ : ∃ W1, Hid (W1 = wr.alloc (.cells #[.string X, .string E] 38)) := ⟨_, rfl⟩
          have c0 : W1.cell? ⟨wr.heap.size, 0, none⟩ = some (.string X) := by rw [hW1.out, World.cell?_alloc_at _ _ _ _ rfl]; rfl
          have c1 : W1.cell? ⟨wr.heap.size, 1, none⟩ = some (.string E) := by rw [hW1.out, World.cell?_alloc_at _ _ _ _ rfl]; rfl
          have hz1 : wr.heap.size < W1.heap.size := by rw [hW1.out]; simp
          have hbW1 : Below wr.heap.size wr W1 := by rw [hW1.out]; exact (Below.refl _ wr).alloc (Nat.le_refl _) _
          have hsz : (X ++ E).size = X.size + E.size := ByteArray.size_append
          have hsz2 : (X ++ bl ++ E).size = X.size + bl.size + E.size := by rw [ByteArray.size_append, ByteArray.size_append]
          obtain ⟨V1, hV1⟩ : ∃ V1, Hid (oneT (X ++ E).data.toList = V1) := ⟨_, rfl⟩
          obtain ⟨V2, hV2⟩ : ∃ V2, Hid (oneT (X ++ bl ++ E).data.toList = V2) := ⟨_, rfl⟩
          have HPR := Lib.hid hprop
          have HSZ := Lib.hid hsz
          have HSZ2 := Lib.hid hsz2
          have HWW := Lib.hid hbW1
          have hxe1 : 0 < (X ++ E).size := by omega
          have hxe2 : (X ++ E).size ≤ 1000000000 := by omega
          have hxb1 : 0 < (X ++ bl ++ E).size := by omega
          have hxb2 : (X ++ bl ++ E).size ≤ 1000000000 := by omega
          have HXE1 := Lib.hid hxe1
          have HXE2 := Lib.hid hxe2
          have HXB1 := Lib.hid hxb1
          have HXB2 := Lib.hid hxb2
          clear hprop hsz hsz2 hxe1 hxe2 hxb1 hxb2 hbW1
          go_wp2_with fail
          rw [← hW1.out]
          refine (One_at (X ++ E) W1 HXE1.out HXE2.out V1 hV1).mono ?_
          rintro e1 w2 ⟨hb2, t1, A1, c1', k1, b1, er1, rfl, hown1, hm1, hok1, hbad1⟩
          have y0 := (hb2.cell (p := ⟨wr.heap.size, 0, none⟩) hz1).trans c0
          have y1 := (hb2.cell (p := ⟨wr.heap.size, 1, none⟩) hz1).trans c1
          have hz2 : wr.heap.size < w2.heap.size := Nat.lt_of_lt_of_le hz1 hb2.size
          obtain ⟨W3, hW3⟩ : ∃ W3, Hid (W3 = w2.alloc (.cells #[.int .i64 t1.kind, .int .i64 0, .string ⟨t1.name.toArray⟩, .string ⟨t1.text.toArray⟩, .slice A1 t1.attrs.length c1'] 34)) := ⟨_, rfl⟩
          obtain ⟨hy3, hz3, hbW3⟩ := tok_box hW3.out
          have HY3 : Hid (∀ (j : Nat) (u : Value), (#[.int .i64 t1.kind, .int .i64 0, .string ⟨t1.name.toArray⟩, .string ⟨t1.text.toArray⟩, .slice A1 t1.attrs.length c1'] : Array Value)[j]? = some u → W3.cell? ⟨w2.heap.size, j, none⟩ = some u) := hy3
          have y0' : W3.cell? ⟨wr.heap.size, 0, none⟩ = some (.string X) := (hbW3.cell (p := ⟨wr.heap.size, 0, none⟩) hz2).trans y0
          have y1' : W3.cell? ⟨wr.heap.size, 1, none⟩ = some (.string E) := (hbW3.cell (p := ⟨wr.heap.size, 1, none⟩) hz2).trans y1
          have HOWN1 := Lib.hid hown1
          have HOK1 := Lib.hid hok1
          have HBAD1 := Lib.hid hbad1
          have HB2 := Lib.hid hb2
          have HB3 := Lib.hid hbW3
          clear hy3 hown1 hok1 hbad1 hb2 hbW3 c0 c1
          go_wp2_with fail
          rw [← hW3.out]
          refine (One_at (X ++ bl ++ E) W3 HXB1.out HXB2.out V2 hV2).mono ?_
          rintro e2 w4 ⟨hb4, t2, A2, c2', k2, b2, er2, rfl, hown2, hm2, hok2, hbad2⟩
          have hz34 : wr.heap.size < W3.heap.size := Nat.lt_trans hz2 hz3
          have z0 := (hb4.cell (p := ⟨wr.heap.size, 0, none⟩) hz34).trans y0'
          have z1 := (hb4.cell (p := ⟨wr.heap.size, 1, none⟩) hz34).trans y1'
          have hz4 : wr.heap.size < w4.heap.size := Nat.lt_of_lt_of_le hz34 hb4.size
          have hz24 : w2.heap.size < w4.heap.size := Nat.lt_of_lt_of_le hz3 hb4.size
          have HB4 := Lib.hid hb4
          have hb14 : Hid (Below wr.heap.size wr w4) := HWW.out.trans ((HB2.out.trans ((HB3.out.trans (hb4.mono HB3.out.size)).mono HB2.out.size)).mono HWW.out.size)
          obtain ⟨W5, hW5⟩ : ∃ W5, Hid (W5 = w4.alloc (.cells #[.int .i64 t2.kind, .int .i64 0, .string ⟨t2.name.toArray⟩, .string ⟨t2.text.toArray⟩, .slice A2 t2.attrs.length c2'] 34)) := ⟨_, rfl⟩
          have hbW5 : Hid (Below w4.heap.size w4 W5) := by show Below _ _ _; rw [hW5.out]; exact (Below.refl _ w4).alloc (Nat.le_refl _) _
          by_cases her : er1 = 0
          · subst her
            by_cases hk1 : k1 = X.size + E.size
            · subst hk1
              obtain ⟨rfl, rfl, rfl⟩ : t2 = t1 ∧ k2 = X.size + bl.size + E.size ∧ er2 = 0 := by
                cases V1 with
                | bad k' e' => exact absurd rfl (HBAD1.out k' e' rfl)
                | ok t' n' =>
                  obtain ⟨rfl, hn', _⟩ := HOK1.out t' n' rfl
                  have h2 := HPR.out t1 (by rw [hV1.out, HSZ.out, hn'])
                  have h3 : V2 = .ok t1 (X ++ bl ++ E).size := by rw [← hV2.out]; exact h2
                  obtain ⟨q1, q2, q3⟩ := hok2 _ _ h3
                  exact ⟨q1, by rw [q2, HSZ2.out], q3⟩
              obtain ⟨hy5, hz5, hbw5⟩ := tok_box hW5.out
              have hx := fun j => HB4.out.cell (p := ⟨w2.heap.size, j, none⟩) hz3
              have v0 := (hx 0).trans (HY3.out 0 _ rfl)
              have v1 := (hx 1).trans (HY3.out 1 _ rfl)
              have v2 := (hx 2).trans (HY3.out 2 _ rfl)
              have v3 := (hx 3).trans (HY3.out 3 _ rfl)
              have v4 := (hx 4).trans (HY3.out 4 _ rfl)
              have HAT1 : Hid (AttrsAt W5 W5.heap.size A1 t2.attrs) := ((AttrsOwn.at HOWN1.out).below ((HB3.out.trans (HB4.out.mono HB3.out.size)).trans (hbw5.mono (Nat.le_of_lt hz24)))).more (Nat.le_trans (Nat.le_of_lt hz24) hbw5.size)
              have HAT2 : Hid (AttrsAt W5 W5.heap.size A2 t2.attrs) := ((AttrsOwn.at hown2).below hbw5).more hbw5.size
              have hmm : t2.attrs.length ≤ 1000000000 := by omega
              have HB5 := Lib.hid hbw5
              clear hx hy5 hown2 hok2 hbad2 hbw5
              go_wp2_with fail
              rw [← hW5.out]
              refine (TokSame_eq t2 0 A1 A2 c1' c2' W5 HAT1.out HAT2.out hmm).mono ?_
              rintro e6 w6 ⟨rfl, hb6⟩
              have q0 : w6.cell? ⟨wr.heap.size, 0, none⟩ = some (.string X) := (hb6.cell (p := ⟨wr.heap.size, 0, none⟩) (Nat.lt_trans hz4 hz5)).trans ((HB5.out.cell (p := ⟨wr.heap.size, 0, none⟩) hz4).trans z0)
              have q1 : w6.cell? ⟨wr.heap.size, 1, none⟩ = some (.string E) := (hb6.cell (p := ⟨wr.heap.size, 1, none⟩) (Nat.lt_trans hz4 hz5)).trans ((HB5.out.cell (p := ⟨wr.heap.size, 1, none⟩) hz4).trans z1)
              go_wp2_with fail
              go_roundw
              case rel => exact ⟨k + 1, by omega, by go_num, hbel.out.trans ((hb14.out.trans ((HB5.out.trans (hb6.mono HB5.out.size)).mono hb14.out.size)).mono hbel.out.size)⟩
              case measure => simp [intOf]; omega
            · have hkk : ((k1 : Int) != (X.size : Int) + E.size) = true := by
                have : (k1 : Int) ≠ (X.size : Int) + E.size := by omega
                simpa using this
              clear hk1
              go_wp2_with fail
              go_roundw
              case rel => exact ⟨k + 1, by omega, by go_num, hbel.out.trans ((hb14.out.trans ((Below.refl _ w4).alloc (Nat.le_refl _) _ |>.mono hb14.out.size)).mono hbel.out.size)⟩
              case measure => simp [intOf]; omega
          · have hee : (er1 != 0) = true := by simpa using her
            clear her
            go_wp2_with fail
            go_roundw
            case rel => exact ⟨k + 1, by omega, by go_num, hbel.out.trans ((hb14.out.trans ((Below.refl _ w4).alloc (Nat.le_refl _) _ |>.mono hb14.out.size)).mono hbel.out.size)⟩
            case measure => simp [intOf]; omega
        · go_wp2_with fail
          refine (alive3_any _).mono ?_
          rintro e9 w9 ⟨rfl, hb9⟩
          go_wp2_with fail
          go_ret
          exact ⟨rfl, HB0.out.trans ((hbel.out.trans (hb9.mono hbel.out.size)).mono HB0.out.size)⟩
end Go.Proofs.Ythifddkmbjnncaa
