/-
  Texts of this claim, joined (by a program of the claim's author): GShp.
-/
import Derived.Test.YtmkgajdgnmolkaaG1
import Derived.Test.YtmkgajdgnmolkaaG9
import Derived.Test.YtmkgajdgnmolkaaG11
import Derived.Deep.RegionHeld
import Derived.IntWalk
/-
  The law GroveShape: what stands below the root is a document; each node but the root is a kid of its parent, at just one place.
-/
namespace Go.Proofs.Ytmkgajdgnmolkaa
open Go.RowKit Go.Shelf

attribute [local go_sem] Oper.semAt_some

theorem check_items {w : World} {A : Option Addr} {c n : Nat} {L : List ItemD} (hl : L.length = n) (hi : ItemsAt w w.heap.size A L) (hs : SmallItems L) (ck : Int) (hck : Hid (checkL L = (ck, 0))) : Calls Try.prog 14 #[.slice A n c] w (Ret w (.tuple #[.int .i64 ck, .int .i64 0])) := by
  subst hl
  exact RCheck_any L A c w hi hs ck 0 hck

set_option maxRecDepth 100000 in
set_option maxHeartbeats 4000000 in
theorem walk_GroveShape (l : List OpD) (A : Option Addr) (c : Nat) (w : World) (hI : OpsAt w w.heap.size A l) (hS : SmallOps l) :
    Calls Try.prog 4 #[.slice A l.length c] w (Ret w (.bool true)) := by
  have HI := Lib.hid hI
  have HS := Lib.hid hS
  have hln : (l.length : Int) ≤ 1048576 := by have := hS.1; omega
  clear hI hS
  go_enter Try.func4, Try.ntmps4
  go_wp2_with fail
  refine (New_in w).mono ?_
  rintro e w1 ⟨rfl, hb1, ht1⟩
  have HB1 := Lib.hid hb1
  have HT1 := Lib.hid ht1
  have HI1 := Lib.hid (HI.out.below hb1)
  clear hb1 ht1
  go_wp2_with fail
  cases hfew : fewL l with
  | false =>
    refine (few_any l A c w.heap.size w1 HI1.out HB1.out.size HS.out false hfew).mono ?_
    rintro e w2 ⟨rfl, hb2⟩
    have HB2 : Hid (Below w.heap.size w w2) := HB1.out.trans (hb2.mono HB1.out.size)
    clear hb2 hfew
    go_wp2_with fail
    refine (alive_any w2).mono ?_
    rintro e w3 ⟨rfl, hb3⟩
    have HB3 : Hid (Below w.heap.size w w3) := HB2.out.trans (hb3.mono HB2.out.size)
    clear hb3
    go_wp2_with fail
    go_ret
    exact ⟨rfl, HB3.out⟩
  | true =>
    refine (few_any l A c w.heap.size w1 HI1.out HB1.out.size HS.out true hfew).mono ?_
    rintro e w2 ⟨rfl, hb2⟩
    have HB2 : Hid (Below w.heap.size w w2) := HB1.out.trans (hb2.mono HB1.out.size)
    have HT2 := Lib.hid (HT1.out.below hb2)
    clear hb2 hfew
    go_wp2_with fail
    go_loopw [34] (fun i wr => ∃ (k : Nat) (f : Fo) (next : Int) (M : Nat → Prop), k ≤ l.length ∧ i = .int .i64 (k : Int) ∧ Hid (TreeM M (w.heap.size + 1) f next wr) ∧ Hid (∀ b, M b → w.heap.size ≤ b) ∧ Hid (Below w.heap.size w wr)) (fun i _ => l.length - (intOf i).toNat)
    case atStart => exact ⟨0, .nil, 1, _, Nat.zero_le _, rfl, HT2.out, fun b hb => by rcases hb with rfl | rfl <;> omega, HB2.out⟩
    case round =>
      obtain ⟨k, f, next, M, hk, rfl, ht, hlow, hbel⟩ := hrel
      clear HB2 HT2 HB1 HT1 HI1
      by_cases hlt : k < l.length
      · obtain ⟨o, ho⟩ : ∃ o, Hid (l[k]? = some o) := ⟨l[k], List.getElem?_eq_getElem _⟩
        obtain ⟨hso, hol⟩ := HS.out.2 o (List.mem_of_getElem? ho.out)
        have HSO := Lib.hid hso
        obtain ⟨ad, hAd, hadB, hcells⟩ := (HI.out.below hbel.out) (by omega)
        subst hAd
        obtain ⟨A', c', hit, hcap, k0, k1, k2, k3, k4, k5, k6⟩ := hcells k o ho.out
        have hlt' : (k : Int) < l.length := by omega
        obtain ⟨W1, hW1⟩ : ∃ W1, Hid (W1 = wr.alloc (.cells (opVal o A' c') 29)) := ⟨_, rfl⟩
        have hb1 : Below wr.heap.size wr W1 := by rw [hW1.out]; exact (Below.refl _ wr).alloc (Nat.le_refl _) _
        have hX1 : W1.heap[wr.heap.size]? = some (.cells (opVal o A' c') 29 (0, 0)) := by rw [hW1.out]; exact heap_alloc_new wr _
        have HT1 := Lib.hid (ht.out.below hb1)
        have HB1 : Hid (Below w.heap.size w W1) := hbel.out.trans (hb1.mono hbel.out.size)
        have HIT := Lib.hid (hit.below (hb1.mono hbel.out.size))
        have hW1' := hW1.out
        unfold opVal strV at hW1'
        replace hW1 := Lib.hid hW1'
        unfold strV at k4 k5
        unfold opVal strV at hX1
        have d0 := cell_row hX1 0 _ rfl
        have d1 := cell_row hX1 1 _ rfl
        have d2 := cell_row hX1 2 _ rfl
        have d3 := cell_row hX1 3 _ rfl
        have d4 := cell_row hX1 4 _ rfl
        have d5 := cell_row hX1 5 _ rfl
        have d6 := cell_row hX1 6 _ rfl
        rw [hW1.out] at d0 d1 d2 d3 d4 d5 d6
        clear hcells hit hb1 hX1 hso hol hcap hW1'
        go_wp2_with fail
        rw [← hW1.out]
        refine (does_in HT1.out o A' c' w.heap.size HIT.out hlow.out HB1.out.size HSO.out).mono ?_
        rintro e2 w2 ⟨rfl, M2, f2, hf2, ht2, hg2⟩
        have HT2 := Lib.hid ht2
        have HLOW2 := Lib.hid (hg2.low hlow.out HB1.out.size)
        have HB2 : Hid (Below w.heap.size w w2) := HB1.out.trans (hg2.1.below hlow.out HB1.out.size)
        clear hf2 ht2 hg2 d0 d1 d2 d3 d4 d5 d6 k0 k1 k2 k3 k4 k5 k6
        go_wp2_with fail
        go_roundw
        case rel => exact ⟨k + 1, f2, _, M2, by omega, by go_num, HT2.out, HLOW2.out, HB2.out⟩
        case measure => simp [intOf]; omega
      · have hlt' : ¬ (k : Int) < l.length := by omega
        have HI := Lib.hid ht.out.inv
        have hcn : (f.cnt : Int) ≤ 1000 := by have := HI.out.cnt; omega
        have hcn0 : (0 : Int) ≤ (f.cnt : Int) := by omega
        go_wp2_with fail
        refine (Root_in ht.out).mono ?_
        rintro e7 w' ⟨rfl, rfl⟩
        go_wp2_with fail
        refine (Items_in ht.out HI.out.root_wf).mono ?_
        rintro e8 w8 ⟨A8, c8, S8, rfl, hS8, hown8, hat8, hb8⟩
        have hS8' : S8.map (·.1) = (f.flat 0).map (·.x) := by rw [hS8, HI.out.items_root]
        have hl8 : S8.length = f.cnt := by rw [← HI.out.root_len, ← hS8, List.length_map]
        have HT8 := Lib.hid (ht.out.below hb8)
        have HB8 : Hid (Below w.heap.size w w8) := hbel.out.trans (hb8.mono hbel.out.size)
        have hitems : ItemsAt w8 w8.heap.size A8 ((f.flat 0).map (·.x)) := by
          rw [← hS8']
          exact (ItemsOwn.at (World.ownsRow.mono hown8 (Nat.zero_le _)) fun s hs => ⟨AttrsOwn.at (World.ownsRow.mono (hat8 s hs) (Nat.zero_le _)), AttrsOwn.cap (hat8 s hs)⟩)
        have HIT8 := Lib.hid hitems
        rw [hl8]
        clear hS8 hb8 hown8 hat8 hitems hS8' hl8
        by_cases hc : f.cnt = 0
        · have c0 : decide ((0 : Int) < (f.cnt : Int)) = false := decide_eq_false (by omega)
          have c0' : decide (0 < f.cnt) = false := decide_eq_false (by omega)
          clear hc
          go_wp2_with fail
          refine (Len_in HT8.out).mono ?_
          rintro e9 w' ⟨rfl, rfl⟩
          have cc : ((f.cnt : Int) != (f.cnt : Int)) = false := by simp
          go_wp2_with fail
          refine (Order_in HT8.out).mono ?_
          rintro e9 w9 ⟨v9, rfl, hr9, hb9, _⟩
          obtain ⟨A9, c9, rfl, _, _, _, _⟩ := row_shape hr9
          have hl9 : f.ids.length = f.cnt := Fo.ids_len f
          rw [hl9]
          have HT9 := Lib.hid (HT8.out.below hb9)
          have HB9 : Hid (Below w.heap.size w w9) := HB8.out.trans (hb9.mono HB8.out.size)
          clear hr9 hb9 hl9
          go_wp2_with fail
          refine (Len_in HT9.out).mono ?_
          rintro e9 w' ⟨rfl, rfl⟩
          clear HB8 HT8
          go_wp2_with fail
          refine (Order_in HT9.out).mono ?_
          rintro e4 w4 ⟨v4, rfl, hr4, hb4, hf4⟩
          obtain ⟨A4, c4, rfl, _, hm4, hn4, hs4⟩ := row_shape hr4
          have HR4 := Lib.hid hr4
          have HB4 : Hid (Below w.heap.size w w4) := HB9.out.trans (hb4.mono HB9.out.size)
          have HT4 := Lib.hid (HT9.out.below hb4)
          have HS4 := Lib.hid hs4
          have HN4 := Lib.hid hn4
          obtain ⟨m4, hm4⟩ : ∃ m, Hid (f.ids.length = m) := ⟨_, rfl⟩
          have hml : (m4 : Int) ≤ 1000 := by have := HI.out.cnt; rw [← Fo.ids_len, hm4.out] at this; omega
          rw [hm4.out]
          clear hr4 hb4 hf4 hs4 hn4
          go_wp2_with fail
          obtain ⟨w0, hw0⟩ : ∃ w0 : World, w0 = wr := ⟨_, rfl⟩
          subst hw0
          go_loopw [72] (fun i wr => ∃ j : Nat, i = .int .i64 (j : Int) ∧ j ≤ m4 ∧ Hid (TreeM M (w.heap.size + 1) f next wr) ∧ Hid (Below w4.heap.size w4 wr)) (fun i _ => m4 - (intOf i).toNat)
          case atStart => exact ⟨0, rfl, Nat.zero_le _, HT4.out, Below.refl _ _⟩
          case round =>
            obtain ⟨j, rfl, hj, htj, hbj⟩ := hrel
            by_cases hjm : j < m4
            · obtain ⟨x, hx⟩ : ∃ x, Hid (f.ids[j]? = some x) := ⟨f.ids[j]'(by have := hm4.out; omega), List.getElem?_eq_getElem _⟩
              obtain ⟨e, he⟩ : ∃ e, Hid (f.ent 0 x = some e) := Fo.ent_some f 0 x (List.mem_of_getElem? hx.out)
              have hrj : intRow wr (.slice A4 f.ids.length c4) f.ids := row_block HR4.out fun b hb => hbj.out.block b (row_lt HR4.out hb)
              cases A4 with
              | none => exfalso; have := (HN4.out rfl).1; have := hm4.out; omega
              | some a4 =>
                obtain ⟨b4, rfl, _⟩ := HS4.out a4 rfl
                have e4 := own_cell hrj j (.int .i64 x) (by rw [List.getElem?_map, hx.out]; rfl)
                have j0 : (0 : Int) ≤ (j : Int) := by omega
                have j1 : (j : Int) < (m4 : Int) := by omega
                have hkn : (e.kids.length : Int) ≤ 1000 := by have := HI.out.kidsN _ _ he.out; omega
                have hkn0 : (0 : Int) ≤ (e.kids.length : Int) := by omega
                clear hrj
                obtain ⟨K, hK, hKl⟩ := HI.out.parK he.out
                have HK := Lib.hid hK
                have hKl1 : (K.length : Int) ≤ 1000 := by omega
                have hKl0 : (0 : Int) ≤ (K.length : Int) := by omega
                clear hK
                go_wp2_with fail
                refine (Get_in htj.out he.out).mono ?_
                rintro e5 w5 ⟨A5, c5, rfl, _, hb5⟩
                have HT5 := Lib.hid (htj.out.below hb5)
                have HB5 : Hid (Below w4.heap.size w4 w5) := hbj.out.trans (hb5.mono hbj.out.size)
                clear hb5
                obtain ⟨W6, hW6⟩ : ∃ W6, Hid (W6 = w5.alloc (.cells (nodeR x e (.slice A5 e.d.attrs.length c5)) 40)) := ⟨_, rfl⟩
                have hb6 : Below w5.heap.size w5 W6 := by rw [hW6.out]; exact (Below.refl _ w5).alloc (Nat.le_refl _) _
                have hx6 : W6.heap[w5.heap.size]? = some (.cells (nodeR x e (.slice A5 e.d.attrs.length c5)) 40 (0, 0)) := by rw [hW6.out]; exact heap_alloc_new w5 _
                have hz6 : Hid (w5.heap.size < W6.heap.size) := by show _ < _; rw [hW6.out]; simp
                have HT6 := Lib.hid (HT5.out.below hb6)
                have HB6 : Hid (Below w4.heap.size w4 W6) := HB5.out.trans (hb6.mono HB5.out.size)
                have f1 : W6.cell? ⟨w5.heap.size, 1, none⟩ = some (.int .i64 e.par) := cell_row hx6 1 _ rfl
                have HX6 := Lib.hid hx6
                have hW6' := hW6.out
                unfold nodeR strV at hW6'
                replace hW6 := Lib.hid hW6'
                rw [hW6'] at f1
                clear hb6 hx6 hW6'
                unfold nodeR strV
                go_wp2_with fail
                rw [← hW6.out]
                refine (Get_par HT6.out HK.out).mono ?_
                rintro e7 w7 ⟨a0, a1, a2, s4, s5, A7, n7, c7, b7, rfl, hb7⟩
                clear f1
                have HT7 := Lib.hid (HT6.out.below hb7)
                have HB7 : Hid (Below w4.heap.size w4 w7) := HB6.out.trans (hb7.mono HB6.out.size)
                have HX7 : Hid (w7.heap[w5.heap.size]? = some (.cells (nodeR x e (.slice A5 e.d.attrs.length c5)) 40 (0, 0))) := (hb7.block _ hz6.out).trans HX6.out
                have hz7 : Hid (w5.heap.size < w7.heap.size) := Nat.lt_of_lt_of_le hz6.out hb7.size
                clear hb7
                obtain ⟨W8, hW8⟩ : ∃ W8, Hid (W8 = w7.alloc (.cells #[.int .i64 a0, .int .i64 a1, .int .i64 a2, .int .i64 (K.length : Int), .string ⟨s4.toArray⟩, .string ⟨s5.toArray⟩, .slice A7 n7 c7] 40)) := ⟨_, rfl⟩
                have hb8 : Below w7.heap.size w7 W8 := by rw [hW8.out]; exact (Below.refl _ w7).alloc (Nat.le_refl _) _
                have hx8 : W8.heap[w7.heap.size]? = some (.cells #[.int .i64 a0, .int .i64 a1, .int .i64 a2, .int .i64 (K.length : Int), .string ⟨s4.toArray⟩, .string ⟨s5.toArray⟩, .slice A7 n7 c7] 40 (0, 0)) := by rw [hW8.out]; exact heap_alloc_new w7 _
                have HT8 := Lib.hid (HT7.out.below hb8)
                have HB8 : Hid (Below w4.heap.size w4 W8) := HB7.out.trans (hb8.mono HB7.out.size)
                have HX8 : Hid (W8.heap[w5.heap.size]? = some (.cells (nodeR x e (.slice A5 e.d.attrs.length c5)) 40 (0, 0))) := (hb8.block _ hz7.out).trans HX7.out
                have hz8 : Hid (w5.heap.size < W8.heap.size) := Nat.lt_of_lt_of_le hz7.out hb8.size
                have f3 : W8.cell? ⟨w7.heap.size, 3, none⟩ = some (.int .i64 (K.length : Int)) := cell_row hx8 3 _ rfl
                rw [hW8.out] at f3
                clear hb8 hx8
                go_wp2_with fail
                rw [← hW8.out]
                clear f3
                obtain ⟨w1', hw1'⟩ : ∃ w1' : World, w1' = wr := ⟨_, rfl⟩
                subst hw1'
                go_loopw [13, 91] (fun s i wr => ∃ q n : Nat, i = .int .i64 (q : Int) ∧ q ≤ K.length ∧ s = .int .i64 (n : Int) ∧ n ≤ q ∧ Hid ((K.take q).count x = n) ∧ Hid (TreeM M (w.heap.size + 1) f next wr) ∧ Hid (Below W8.heap.size W8 wr)) (fun _ i _ => K.length - (intOf i).toNat)
                case atStart => exact ⟨0, 0, rfl, Nat.zero_le _, rfl, Nat.le_refl _, rfl, HT8.out, Below.refl _ _⟩
                case round =>
                  obtain ⟨q, n, rfl, hq, rfl, hnq, hn, htq, hbq⟩ := hrel
                  have n0 : (0 : Int) ≤ (n : Int) := by omega
                  have n1 : (n : Int) ≤ 1000 := by omega
                  have f1 : wr.cell? ⟨w5.heap.size, 1, none⟩ = some (.int .i64 e.par) := cell_row ((hbq.out.block _ hz8.out).trans HX8.out) 1 _ rfl
                  by_cases hqk : q < K.length
                  · have q1 : (q : Int) < (K.length : Int) := by omega
                    have q0 : (0 : Int) ≤ (q : Int) := by omega
                    obtain ⟨z, hz⟩ : ∃ z, Hid (K[q]? = some z) := ⟨K[q], List.getElem?_eq_getElem _⟩
                    have hct : (K.take (q + 1)).count x = n + (if z = x then 1 else 0) := by
                      rw [List.take_add_one, hz.out, List.count_append, hn.out]
                      simp [List.count_singleton]
                    have HCT := Lib.hid hct
                    clear hct
                    have hkid : ∃ pe, f.ent 0 e.par = some pe ∧ pe.kids[q]? = some z := by
                      rcases HK.out with ⟨_, _, h⟩ | ⟨_, _, pe, h1, h2, _⟩
                      · rw [h] at hqk; simp at hqk
                      · exact ⟨pe, h1, by rw [← h2]; exact hz.out⟩
                    have HKID := Lib.hid hkid
                    clear hkid
                    go_wp2_with fail
                    obtain ⟨pe, hpe, hpk⟩ := HKID.out
                    refine (Kid_in htq.out hpe q z hpk).mono ?_
                    rintro e9 w' ⟨rfl, rfl⟩
                    clear hpe hpk
                    by_cases hzx : z = x
                    · have hzb : (z == x) = true := by simpa using hzx
                      have hct : Hid ((K.take (q + 1)).count x = n + 1) := by have := HCT.out; rw [if_pos hzx] at this; exact this
                      clear hzx
                      go_wp2_with fail
                      go_roundw
                      case rel => exact ⟨q + 1, n + 1, by go_num, by omega, by go_num, by omega, hct.out, htq.out, hbq.out⟩
                      case measure => simp [intOf]; omega
                    · have hzb : (z == x) = false := by simpa using hzx
                      have hct : Hid ((K.take (q + 1)).count x = n) := by have := HCT.out; rw [if_neg hzx] at this; exact this
                      clear hzx
                      go_wp2_with fail
                      go_roundw
                      case rel => exact ⟨q + 1, n, by go_num, by omega, rfl, by omega, hct.out, htq.out, hbq.out⟩
                      case measure => simp [intOf]; omega
                  · have q1 : ¬ (q : Int) < (K.length : Int) := by omega
                    have hcn1 : K.count x = n := by have := hn.out; rw [List.take_of_length_le (by omega)] at this; exact this
                    have HTD : Hid (TreeM M (w.heap.size + 1) f next wr.drew) := htq.out.below ⟨rfl, rfl, rfl, Nat.le_refl _, fun _ _ => rfl⟩
                    have hb9 : Below w4.heap.size w4 wr := HB8.out.trans (hbq.out.mono HB8.out.size)
                    have HBF : Hid (Below w4.heap.size w4 wr.drew) := hb9.trans ⟨rfl, rfl, rfl, Nat.le_refl _, fun _ _ => rfl⟩
                    clear hb9
                    rcases HK.out with ⟨h1, h2, -⟩ | ⟨h1, h2, _, -, -, h4⟩
                    · have p0 : (e.par == 0) = true := by simpa using h1
                      have p1 : (x == rootF f) = true := by simpa using h2
                      have p2 : (e.par != 0) = false := by simpa using h1
                      clear h1 h2 hcn1
                      go_wp2_with fail
                      refine wp_region_held_drew (S := fun V => V.cell? ⟨w5.heap.size, 1, none⟩ = some (.int .i64 e.par)) (by kernel_rfl) f1 (fun hHeld => ?_)
                      refine tks (oi := ⟨_, _, _, _, _, _⟩) (v := ?_) 0 rfl (.inl ⟨by rfl, ?_⟩) ?_; rotate_left
                      · (intro wS hSw; (try dsimp only at hSw); go_simp); all_goals with_reducible rfl
                      try go_frame
                      refine tks (oi := ⟨_, _, _, _, _, _⟩) (v := ?_) 1 rfl (.inl ⟨by rfl, ?_⟩) ?_; rotate_left
                      · (intro wS hSw; (try dsimp only at hSw); go_simp); all_goals with_reducible rfl
                      try go_frame
                      refine tks (oi := ⟨_, _, _, _, _, _⟩) (v := ?_) 2 rfl (.inl ⟨by rfl, ?_⟩) ?_; rotate_left
                      · (intro wS hSw; (try dsimp only at hSw); go_simp); all_goals with_reducible rfl
                      try go_frame
                      refine tks (oi := ⟨_, _, _, _, _, _⟩) (v := ?_) 3 rfl (.inl ⟨by rfl, ?_⟩) ?_; rotate_left
                      · (intro wS hSw; (try dsimp only at hSw); go_simp); all_goals with_reducible rfl
                      try go_frame
                      refine tks (oi := ⟨_, _, _, _, _, _⟩) (v := ?_) 4 rfl (.inl ⟨by rfl, ?_⟩) ?_; rotate_left
                      · (intro wS hSw; (try dsimp only at hSw); go_simp); all_goals with_reducible rfl
                      try go_frame
                      refine tks (oi := ⟨_, _, _, _, _, _⟩) (v := ?_) 5 rfl (.inl ⟨by rfl, ?_⟩) ?_; rotate_left
                      · (intro wS hSw; (try dsimp only at hSw); go_simp); all_goals with_reducible rfl
                      try go_frame
                      refine tks (oi := ⟨_, _, _, _, _, _⟩) (v := ?_) 6 rfl (.inl ⟨by rfl, ?_⟩) ?_; rotate_left
                      · (intro wS hSw; (try dsimp only at hSw); go_simp); all_goals with_reducible rfl
                      try go_frame
                      refine tks (oi := ⟨_, _, _, _, _, _⟩) (v := ?_) 7 rfl (.inl ⟨by rfl, ?_⟩) ?_; rotate_left
                      · (intro wS hSw; (try dsimp only at hSw); go_simp); all_goals with_reducible rfl
                      try go_frame
                      refine wpAnyH_ready (rs := [8]) (by kernel_rfl) (by simp) ?_
                      refine AllReadyH.cons (o := ⟨_, _, _, _, _, _⟩) rfl (fun K hK => ?_) AllReadyH.nil
                      go_simp
                      refine (Root_in HTD.out).mono ?_
                      rintro e9 w' ⟨rfl, rfl⟩
                      go_wp2_with fail
                      refine hK.out _ _ (hHeld) (fun hHeld => ?_)
                      clear hK K
                      try go_frame
                      refine tks (oi := ⟨_, _, _, _, _, _⟩) (v := ?_) 9 rfl (.inl ⟨by rfl, ?_⟩) ?_; rotate_left
                      · (intro wS hSw; (try dsimp only at hSw); go_simp); all_goals with_reducible rfl
                      try go_frame
                      refine tks (oi := ⟨_, _, _, _, _, _⟩) (v := ?_) 10 rfl (.inl ⟨by rfl, ?_⟩) ?_; rotate_left
                      · (intro wS hSw; (try dsimp only at hSw); go_simp); all_goals with_reducible rfl
                      try go_frame
                      refine tks (oi := ⟨_, _, _, _, _, _⟩) (v := ?_) 11 rfl (.inl ⟨by rfl, ?_⟩) ?_; rotate_left
                      · (intro wS hSw; (try dsimp only at hSw); go_simp); all_goals with_reducible rfl
                      try go_frame
                      refine tks (oi := ⟨_, _, _, _, _, _⟩) (v := ?_) 12 rfl (.inl ⟨by rfl, ?_⟩) ?_; rotate_left
                      · (intro wS hSw; (try dsimp only at hSw); go_simp); all_goals with_reducible rfl
                      try go_frame
                      refine tks (oi := ⟨_, _, _, _, _, _⟩) (v := ?_) 13 rfl (.inl ⟨by rfl, ?_⟩) ?_; rotate_left
                      · (intro wS hSw; (try dsimp only at hSw); go_simp); all_goals with_reducible rfl
                      try go_frame
                      refine tks (oi := ⟨_, _, _, _, _, _⟩) (v := ?_) 14 rfl (.inl ⟨by rfl, ?_⟩) ?_; rotate_left
                      · (intro wS hSw; (try dsimp only at hSw); go_simp); all_goals with_reducible rfl
                      try go_frame
                      refine tks (oi := ⟨_, _, _, _, _, _⟩) (v := ?_) 15 rfl (.inl ⟨by rfl, ?_⟩) ?_; rotate_left
                      · (intro wS hSw; (try dsimp only at hSw); go_simp); all_goals with_reducible rfl
                      try go_frame
                      refine tks (oi := ⟨_, _, _, _, _, _⟩) (v := ?_) 16 rfl (.inl ⟨by rfl, ?_⟩) ?_; rotate_left
                      · (intro wS hSw; (try dsimp only at hSw); go_simp); all_goals with_reducible rfl
                      try go_frame
                      refine tks (oi := ⟨_, _, _, _, _, _⟩) (v := undef) 17 rfl (.inr ⟨by rfl, rfl⟩) ?_
                      try go_frame
                      refine tks (oi := ⟨_, _, _, _, _, _⟩) (v := undef) 18 rfl (.inr ⟨by rfl, rfl⟩) ?_
                      try go_frame
                      refine tks (oi := ⟨_, _, _, _, _, _⟩) (v := ?_) 19 rfl (.inl ⟨by rfl, ?_⟩) ?_; rotate_left
                      · (intro wS hSw; (try dsimp only at hSw); go_simp); all_goals with_reducible rfl
                      try go_frame
                      refine tks (oi := ⟨_, _, _, _, _, _⟩) (v := ?_) 20 rfl (.inl ⟨by rfl, ?_⟩) ?_; rotate_left
                      · (intro wS hSw; (try dsimp only at hSw); go_simp); all_goals with_reducible rfl
                      try go_frame
                      refine wpAnyH_done (by kernel_rfl) ?_ _
                      clear hHeld
                      go_wp2_with fail
                      go_roundw
                      case rel => exact ⟨j + 1, by go_num, by omega, HTD.out, HBF.out⟩
                      case measure => simp [intOf]; omega
                    · have p0 : (e.par == 0) = false := by simpa using h1
                      have p1 : (x == rootF f) = false := by simpa using h2
                      have p2 : (e.par != 0) = true := by simpa using h1
                      have hn1 : n = 1 := by omega
                      have p3 : ((n : Int) != 1) = false := by simp; omega
                      clear h1 h2 h4 hcn1 hn1
                      go_wp2_with fail
                      refine wp_region_held_drew (S := fun V => V.cell? ⟨w5.heap.size, 1, none⟩ = some (.int .i64 e.par)) (by kernel_rfl) f1 (fun hHeld => ?_)
                      refine tks (oi := ⟨_, _, _, _, _, _⟩) (v := ?_) 0 rfl (.inl ⟨by rfl, ?_⟩) ?_; rotate_left
                      · (intro wS hSw; (try dsimp only at hSw); go_simp); all_goals with_reducible rfl
                      try go_frame
                      refine tks (oi := ⟨_, _, _, _, _, _⟩) (v := ?_) 1 rfl (.inl ⟨by rfl, ?_⟩) ?_; rotate_left
                      · (intro wS hSw; (try dsimp only at hSw); go_simp); all_goals with_reducible rfl
                      try go_frame
                      refine tks (oi := ⟨_, _, _, _, _, _⟩) (v := ?_) 2 rfl (.inl ⟨by rfl, ?_⟩) ?_; rotate_left
                      · (intro wS hSw; (try dsimp only at hSw); go_simp); all_goals with_reducible rfl
                      try go_frame
                      refine tks (oi := ⟨_, _, _, _, _, _⟩) (v := ?_) 3 rfl (.inl ⟨by rfl, ?_⟩) ?_; rotate_left
                      · (intro wS hSw; (try dsimp only at hSw); go_simp); all_goals with_reducible rfl
                      try go_frame
                      refine tks (oi := ⟨_, _, _, _, _, _⟩) (v := ?_) 4 rfl (.inl ⟨by rfl, ?_⟩) ?_; rotate_left
                      · (intro wS hSw; (try dsimp only at hSw); go_simp); all_goals with_reducible rfl
                      try go_frame
                      refine tks (oi := ⟨_, _, _, _, _, _⟩) (v := ?_) 5 rfl (.inl ⟨by rfl, ?_⟩) ?_; rotate_left
                      · (intro wS hSw; (try dsimp only at hSw); go_simp); all_goals with_reducible rfl
                      try go_frame
                      refine tks (oi := ⟨_, _, _, _, _, _⟩) (v := ?_) 6 rfl (.inl ⟨by rfl, ?_⟩) ?_; rotate_left
                      · (intro wS hSw; (try dsimp only at hSw); go_simp); all_goals with_reducible rfl
                      try go_frame
                      refine tks (oi := ⟨_, _, _, _, _, _⟩) (v := ?_) 7 rfl (.inl ⟨by rfl, ?_⟩) ?_; rotate_left
                      · (intro wS hSw; (try dsimp only at hSw); go_simp); all_goals with_reducible rfl
                      try go_frame
                      refine wpAnyH_ready (rs := [8]) (by kernel_rfl) (by simp) ?_
                      refine AllReadyH.cons (o := ⟨_, _, _, _, _, _⟩) rfl (fun K hK => ?_) AllReadyH.nil
                      go_simp
                      refine (Root_in HTD.out).mono ?_
                      rintro e9 w' ⟨rfl, rfl⟩
                      go_wp2_with fail
                      refine hK.out _ _ (hHeld) (fun hHeld => ?_)
                      clear hK K
                      try go_frame
                      refine tks (oi := ⟨_, _, _, _, _, _⟩) (v := ?_) 9 rfl (.inl ⟨by rfl, ?_⟩) ?_; rotate_left
                      · (intro wS hSw; (try dsimp only at hSw); go_simp); all_goals with_reducible rfl
                      try go_frame
                      refine tks (oi := ⟨_, _, _, _, _, _⟩) (v := ?_) 10 rfl (.inl ⟨by rfl, ?_⟩) ?_; rotate_left
                      · (intro wS hSw; (try dsimp only at hSw); go_simp); all_goals with_reducible rfl
                      try go_frame
                      refine tks (oi := ⟨_, _, _, _, _, _⟩) (v := ?_) 11 rfl (.inl ⟨by rfl, ?_⟩) ?_; rotate_left
                      · (intro wS hSw; (try dsimp only at hSw); go_simp); all_goals with_reducible rfl
                      try go_frame
                      refine tks (oi := ⟨_, _, _, _, _, _⟩) (v := ?_) 12 rfl (.inl ⟨by rfl, ?_⟩) ?_; rotate_left
                      · (intro wS hSw; (try dsimp only at hSw); go_simp); all_goals with_reducible rfl
                      try go_frame
                      refine tks (oi := ⟨_, _, _, _, _, _⟩) (v := ?_) 13 rfl (.inl ⟨by rfl, ?_⟩) ?_; rotate_left
                      · (intro wS hSw; (try dsimp only at hSw); go_simp); all_goals with_reducible rfl
                      try go_frame
                      refine tks (oi := ⟨_, _, _, _, _, _⟩) (v := ?_) 14 rfl (.inl ⟨by rfl, ?_⟩) ?_; rotate_left
                      · (intro wS hSw; (try dsimp only at hSw); go_simp); all_goals with_reducible rfl
                      try go_frame
                      refine tks (oi := ⟨_, _, _, _, _, _⟩) (v := ?_) 15 rfl (.inl ⟨by rfl, ?_⟩) ?_; rotate_left
                      · (intro wS hSw; (try dsimp only at hSw); go_simp); all_goals with_reducible rfl
                      try go_frame
                      refine tks (oi := ⟨_, _, _, _, _, _⟩) (v := ?_) 16 rfl (.inl ⟨by rfl, ?_⟩) ?_; rotate_left
                      · (intro wS hSw; (try dsimp only at hSw); go_simp); all_goals with_reducible rfl
                      try go_frame
                      refine tks (oi := ⟨_, _, _, _, _, _⟩) (v := ?_) 17 rfl (.inl ⟨by rfl, ?_⟩) ?_; rotate_left
                      · (intro wS hSw; (try dsimp only at hSw); go_simp); all_goals with_reducible rfl
                      try go_frame
                      refine tks (oi := ⟨_, _, _, _, _, _⟩) (v := ?_) 18 rfl (.inl ⟨by rfl, ?_⟩) ?_; rotate_left
                      · (intro wS hSw; (try dsimp only at hSw); go_simp); all_goals with_reducible rfl
                      try go_frame
                      refine tks (oi := ⟨_, _, _, _, _, _⟩) (v := ?_) 19 rfl (.inl ⟨by rfl, ?_⟩) ?_; rotate_left
                      · (intro wS hSw; (try dsimp only at hSw); go_simp); all_goals with_reducible rfl
                      try go_frame
                      refine tks (oi := ⟨_, _, _, _, _, _⟩) (v := ?_) 20 rfl (.inl ⟨by rfl, ?_⟩) ?_; rotate_left
                      · (intro wS hSw; (try dsimp only at hSw); go_simp); all_goals with_reducible rfl
                      try go_frame
                      refine wpAnyH_done (by kernel_rfl) ?_ _
                      clear hHeld
                      go_wp2_with fail
                      go_roundw
                      case rel => exact ⟨j + 1, by go_num, by omega, HTD.out, HBF.out⟩
                      case measure => simp [intOf]; omega
            · have j1 : ¬ (j : Int) < (m4 : Int) := by omega
              go_wp2_with fail
              refine (alive_any wr).mono ?_
              rintro e6 w6 ⟨rfl, hb6⟩
              have HB6 : Hid (Below w.heap.size w w6) := HB4.out.trans ((hbj.out.trans (hb6.mono hbj.out.size)).mono HB4.out.size)
              clear hb6
              go_wp2_with fail
              go_ret
              exact ⟨rfl, HB6.out⟩
        · have c0 : decide ((0 : Int) < (f.cnt : Int)) = true := decide_eq_true (by omega)
          have c0' : decide (0 < f.cnt) = true := decide_eq_true (by omega)
          obtain ⟨ck, hck⟩ : ∃ ck, Hid (checkL ((f.flat 0).map (·.x)) = (ck, 0)) := ⟨(checkL ((f.flat 0).map (·.x))).1, Prod.ext rfl (HI.out.check hc)⟩
          have hlen : ((f.flat 0).map (·.x)).length = f.cnt := by rw [List.length_map, Fo.flat_len]
          have hchk : Calls Try.prog 14 #[.slice A8 f.cnt c8] w8 (Ret w8 (.tuple #[.int .i64 ck, .int .i64 0])) := by
            exact check_items hlen HIT8.out HI.out.small ck hck
          have HCHK := Lib.hid hchk
          clear hc hlen hchk hck
          go_wp2_with fail
          refine HCHK.out.mono ?_
          rintro e9 w9 ⟨rfl, hb9⟩
          replace HB8 : Hid (Below w.heap.size w w9) := HB8.out.trans (hb9.mono HB8.out.size)
          replace HT8 := Lib.hid (HT8.out.below hb9)
          clear hb9
          go_wp2_with fail
          refine (Len_in HT8.out).mono ?_
          rintro e9 w' ⟨rfl, rfl⟩
          have cc : ((f.cnt : Int) != (f.cnt : Int)) = false := by simp
          go_wp2_with fail
          refine (Order_in HT8.out).mono ?_
          rintro e9 w9 ⟨v9, rfl, hr9, hb9, _⟩
          obtain ⟨A9, c9, rfl, _, _, _, _⟩ := row_shape hr9
          have hl9 : f.ids.length = f.cnt := Fo.ids_len f
          rw [hl9]
          have HT9 := Lib.hid (HT8.out.below hb9)
          have HB9 : Hid (Below w.heap.size w w9) := HB8.out.trans (hb9.mono HB8.out.size)
          clear hr9 hb9 hl9
          go_wp2_with fail
          refine (Len_in HT9.out).mono ?_
          rintro e9 w' ⟨rfl, rfl⟩
          clear HB8 HT8
          go_wp2_with fail
          refine (Order_in HT9.out).mono ?_
          rintro e4 w4 ⟨v4, rfl, hr4, hb4, hf4⟩
          obtain ⟨A4, c4, rfl, _, hm4, hn4, hs4⟩ := row_shape hr4
          have HR4 := Lib.hid hr4
          have HB4 : Hid (Below w.heap.size w w4) := HB9.out.trans (hb4.mono HB9.out.size)
          have HT4 := Lib.hid (HT9.out.below hb4)
          have HS4 := Lib.hid hs4
          have HN4 := Lib.hid hn4
          obtain ⟨m4, hm4⟩ : ∃ m, Hid (f.ids.length = m) := ⟨_, rfl⟩
          have hml : (m4 : Int) ≤ 1000 := by have := HI.out.cnt; rw [← Fo.ids_len, hm4.out] at this; omega
          rw [hm4.out]
          clear hr4 hb4 hf4 hs4 hn4
          go_wp2_with fail
          obtain ⟨w0, hw0⟩ : ∃ w0 : World, w0 = wr := ⟨_, rfl⟩
          subst hw0
          go_loopw [72] (fun i wr => ∃ j : Nat, i = .int .i64 (j : Int) ∧ j ≤ m4 ∧ Hid (TreeM M (w.heap.size + 1) f next wr) ∧ Hid (Below w4.heap.size w4 wr)) (fun i _ => m4 - (intOf i).toNat)
          case atStart => exact ⟨0, rfl, Nat.zero_le _, HT4.out, Below.refl _ _⟩
          case round =>
            obtain ⟨j, rfl, hj, htj, hbj⟩ := hrel
            by_cases hjm : j < m4
            · obtain ⟨x, hx⟩ : ∃ x, Hid (f.ids[j]? = some x) := ⟨f.ids[j]'(by have := hm4.out; omega), List.getElem?_eq_getElem _⟩
              obtain ⟨e, he⟩ : ∃ e, Hid (f.ent 0 x = some e) := Fo.ent_some f 0 x (List.mem_of_getElem? hx.out)
              have hrj : intRow wr (.slice A4 f.ids.length c4) f.ids := row_block HR4.out fun b hb => hbj.out.block b (row_lt HR4.out hb)
              cases A4 with
              | none => exfalso; have := (HN4.out rfl).1; have := hm4.out; omega
              | some a4 =>
                obtain ⟨b4, rfl, _⟩ := HS4.out a4 rfl
                have e4 := own_cell hrj j (.int .i64 x) (by rw [List.getElem?_map, hx.out]; rfl)
                have j0 : (0 : Int) ≤ (j : Int) := by omega
                have j1 : (j : Int) < (m4 : Int) := by omega
                have hkn : (e.kids.length : Int) ≤ 1000 := by have := HI.out.kidsN _ _ he.out; omega
                have hkn0 : (0 : Int) ≤ (e.kids.length : Int) := by omega
                clear hrj
                obtain ⟨K, hK, hKl⟩ := HI.out.parK he.out
                have HK := Lib.hid hK
                have hKl1 : (K.length : Int) ≤ 1000 := by omega
                have hKl0 : (0 : Int) ≤ (K.length : Int) := by omega
                clear hK
                go_wp2_with fail
                refine (Get_in htj.out he.out).mono ?_
                rintro e5 w5 ⟨A5, c5, rfl, _, hb5⟩
                have HT5 := Lib.hid (htj.out.below hb5)
                have HB5 : Hid (Below w4.heap.size w4 w5) := hbj.out.trans (hb5.mono hbj.out.size)
                clear hb5
                obtain ⟨W6, hW6⟩ : ∃ W6, Hid (W6 = w5.alloc (.cells (nodeR x e (.slice A5 e.d.attrs.length c5)) 40)) := ⟨_, rfl⟩
                have hb6 : Below w5.heap.size w5 W6 := by rw [hW6.out]; exact (Below.refl _ w5).alloc (Nat.le_refl _) _
                have hx6 : W6.heap[w5.heap.size]? = some (.cells (nodeR x e (.slice A5 e.d.attrs.length c5)) 40 (0, 0)) := by rw [hW6.out]; exact heap_alloc_new w5 _
                have hz6 : Hid (w5.heap.size < W6.heap.size) := by show _ < _; rw [hW6.out]; simp
                have HT6 := Lib.hid (HT5.out.below hb6)
                have HB6 : Hid (Below w4.heap.size w4 W6) := HB5.out.trans (hb6.mono HB5.out.size)
                have f1 : W6.cell? ⟨w5.heap.size, 1, none⟩ = some (.int .i64 e.par) := cell_row hx6 1 _ rfl
                have HX6 := Lib.hid hx6
                have hW6' := hW6.out
                unfold nodeR strV at hW6'
                replace hW6 := Lib.hid hW6'
                rw [hW6'] at f1
                clear hb6 hx6 hW6'
                unfold nodeR strV
                go_wp2_with fail
                rw [← hW6.out]
                refine (Get_par HT6.out HK.out).mono ?_
                rintro e7 w7 ⟨a0, a1, a2, s4, s5, A7, n7, c7, b7, rfl, hb7⟩
                clear f1
                have HT7 := Lib.hid (HT6.out.below hb7)
                have HB7 : Hid (Below w4.heap.size w4 w7) := HB6.out.trans (hb7.mono HB6.out.size)
                have HX7 : Hid (w7.heap[w5.heap.size]? = some (.cells (nodeR x e (.slice A5 e.d.attrs.length c5)) 40 (0, 0))) := (hb7.block _ hz6.out).trans HX6.out
                have hz7 : Hid (w5.heap.size < w7.heap.size) := Nat.lt_of_lt_of_le hz6.out hb7.size
                clear hb7
                obtain ⟨W8, hW8⟩ : ∃ W8, Hid (W8 = w7.alloc (.cells #[.int .i64 a0, .int .i64 a1, .int .i64 a2, .int .i64 (K.length : Int), .string ⟨s4.toArray⟩, .string ⟨s5.toArray⟩, .slice A7 n7 c7] 40)) := ⟨_, rfl⟩
                have hb8 : Below w7.heap.size w7 W8 := by rw [hW8.out]; exact (Below.refl _ w7).alloc (Nat.le_refl _) _
                have hx8 : W8.heap[w7.heap.size]? = some (.cells #[.int .i64 a0, .int .i64 a1, .int .i64 a2, .int .i64 (K.length : Int), .string ⟨s4.toArray⟩, .string ⟨s5.toArray⟩, .slice A7 n7 c7] 40 (0, 0)) := by rw [hW8.out]; exact heap_alloc_new w7 _
                have HT8 := Lib.hid (HT7.out.below hb8)
                have HB8 : Hid (Below w4.heap.size w4 W8) := HB7.out.trans (hb8.mono HB7.out.size)
                have HX8 : Hid (W8.heap[w5.heap.size]? = some (.cells (nodeR x e (.slice A5 e.d.attrs.length c5)) 40 (0, 0))) := (hb8.block _ hz7.out).trans HX7.out
                have hz8 : Hid (w5.heap.size < W8.heap.size) := Nat.lt_of_lt_of_le hz7.out hb8.size
                have f3 : W8.cell? ⟨w7.heap.size, 3, none⟩ = some (.int .i64 (K.length : Int)) := cell_row hx8 3 _ rfl
                rw [hW8.out] at f3
                clear hb8 hx8
                go_wp2_with fail
                rw [← hW8.out]
                clear f3
                obtain ⟨w1', hw1'⟩ : ∃ w1' : World, w1' = wr := ⟨_, rfl⟩
                subst hw1'
                go_loopw [13, 91] (fun s i wr => ∃ q n : Nat, i = .int .i64 (q : Int) ∧ q ≤ K.length ∧ s = .int .i64 (n : Int) ∧ n ≤ q ∧ Hid ((K.take q).count x = n) ∧ Hid (TreeM M (w.heap.size + 1) f next wr) ∧ Hid (Below W8.heap.size W8 wr)) (fun _ i _ => K.length - (intOf i).toNat)
                case atStart => exact ⟨0, 0, rfl, Nat.zero_le _, rfl, Nat.le_refl _, rfl, HT8.out, Below.refl _ _⟩
                case round =>
                  obtain ⟨q, n, rfl, hq, rfl, hnq, hn, htq, hbq⟩ := hrel
                  have n0 : (0 : Int) ≤ (n : Int) := by omega
                  have n1 : (n : Int) ≤ 1000 := by omega
                  have f1 : wr.cell? ⟨w5.heap.size, 1, none⟩ = some (.int .i64 e.par) := cell_row ((hbq.out.block _ hz8.out).trans HX8.out) 1 _ rfl
                  by_cases hqk : q < K.length
                  · have q1 : (q : Int) < (K.length : Int) := by omega
                    have q0 : (0 : Int) ≤ (q : Int) := by omega
                    obtain ⟨z, hz⟩ : ∃ z, Hid (K[q]? = some z) := ⟨K[q], List.getElem?_eq_getElem _⟩
                    have hct : (K.take (q + 1)).count x = n + (if z = x then 1 else 0) := by
                      rw [List.take_add_one, hz.out, List.count_append, hn.out]
                      simp [List.count_singleton]
                    have HCT := Lib.hid hct
                    clear hct
                    have hkid : ∃ pe, f.ent 0 e.par = some pe ∧ pe.kids[q]? = some z := by
                      rcases HK.out with ⟨_, _, h⟩ | ⟨_, _, pe, h1, h2, _⟩
                      · rw [h] at hqk; simp at hqk
                      · exact ⟨pe, h1, by rw [← h2]; exact hz.out⟩
                    have HKID := Lib.hid hkid
                    clear hkid
                    go_wp2_with fail
                    obtain ⟨pe, hpe, hpk⟩ := HKID.out
                    refine (Kid_in htq.out hpe q z hpk).mono ?_
                    rintro e9 w' ⟨rfl, rfl⟩
                    clear hpe hpk
                    by_cases hzx : z = x
                    · have hzb : (z == x) = true := by simpa using hzx
                      have hct : Hid ((K.take (q + 1)).count x = n + 1) := by have := HCT.out; rw [if_pos hzx] at this; exact this
                      clear hzx
                      go_wp2_with fail
                      go_roundw
                      case rel => exact ⟨q + 1, n + 1, by go_num, by omega, by go_num, by omega, hct.out, htq.out, hbq.out⟩
                      case measure => simp [intOf]; omega
                    · have hzb : (z == x) = false := by simpa using hzx
                      have hct : Hid ((K.take (q + 1)).count x = n) := by have := HCT.out; rw [if_neg hzx] at this; exact this
                      clear hzx
                      go_wp2_with fail
                      go_roundw
                      case rel => exact ⟨q + 1, n, by go_num, by omega, rfl, by omega, hct.out, htq.out, hbq.out⟩
                      case measure => simp [intOf]; omega
                  · have q1 : ¬ (q : Int) < (K.length : Int) := by omega
                    have hcn1 : K.count x = n := by have := hn.out; rw [List.take_of_length_le (by omega)] at this; exact this
                    have HTD : Hid (TreeM M (w.heap.size + 1) f next wr.drew) := htq.out.below ⟨rfl, rfl, rfl, Nat.le_refl _, fun _ _ => rfl⟩
                    have hb9 : Below w4.heap.size w4 wr := HB8.out.trans (hbq.out.mono HB8.out.size)
                    have HBF : Hid (Below w4.heap.size w4 wr.drew) := hb9.trans ⟨rfl, rfl, rfl, Nat.le_refl _, fun _ _ => rfl⟩
                    clear hb9
                    rcases HK.out with ⟨h1, h2, -⟩ | ⟨h1, h2, _, -, -, h4⟩
                    · have p0 : (e.par == 0) = true := by simpa using h1
                      have p1 : (x == rootF f) = true := by simpa using h2
                      have p2 : (e.par != 0) = false := by simpa using h1
                      clear h1 h2 hcn1
                      go_wp2_with fail
                      refine wp_region_held_drew (S := fun V => V.cell? ⟨w5.heap.size, 1, none⟩ = some (.int .i64 e.par)) (by kernel_rfl) f1 (fun hHeld => ?_)
                      refine tks (oi := ⟨_, _, _, _, _, _⟩) (v := ?_) 0 rfl (.inl ⟨by rfl, ?_⟩) ?_; rotate_left
                      · (intro wS hSw; (try dsimp only at hSw); go_simp); all_goals with_reducible rfl
                      try go_frame
                      refine tks (oi := ⟨_, _, _, _, _, _⟩) (v := ?_) 1 rfl (.inl ⟨by rfl, ?_⟩) ?_; rotate_left
                      · (intro wS hSw; (try dsimp only at hSw); go_simp); all_goals with_reducible rfl
                      try go_frame
                      refine tks (oi := ⟨_, _, _, _, _, _⟩) (v := ?_) 2 rfl (.inl ⟨by rfl, ?_⟩) ?_; rotate_left
                      · (intro wS hSw; (try dsimp only at hSw); go_simp); all_goals with_reducible rfl
                      try go_frame
                      refine tks (oi := ⟨_, _, _, _, _, _⟩) (v := ?_) 3 rfl (.inl ⟨by rfl, ?_⟩) ?_; rotate_left
                      · (intro wS hSw; (try dsimp only at hSw); go_simp); all_goals with_reducible rfl
                      try go_frame
                      refine tks (oi := ⟨_, _, _, _, _, _⟩) (v := ?_) 4 rfl (.inl ⟨by rfl, ?_⟩) ?_; rotate_left
                      · (intro wS hSw; (try dsimp only at hSw); go_simp); all_goals with_reducible rfl
                      try go_frame
                      refine tks (oi := ⟨_, _, _, _, _, _⟩) (v := ?_) 5 rfl (.inl ⟨by rfl, ?_⟩) ?_; rotate_left
                      · (intro wS hSw; (try dsimp only at hSw); go_simp); all_goals with_reducible rfl
                      try go_frame
                      refine tks (oi := ⟨_, _, _, _, _, _⟩) (v := ?_) 6 rfl (.inl ⟨by rfl, ?_⟩) ?_; rotate_left
                      · (intro wS hSw; (try dsimp only at hSw); go_simp); all_goals with_reducible rfl
                      try go_frame
                      refine tks (oi := ⟨_, _, _, _, _, _⟩) (v := ?_) 7 rfl (.inl ⟨by rfl, ?_⟩) ?_; rotate_left
                      · (intro wS hSw; (try dsimp only at hSw); go_simp); all_goals with_reducible rfl
                      try go_frame
                      refine wpAnyH_ready (rs := [8]) (by kernel_rfl) (by simp) ?_
                      refine AllReadyH.cons (o := ⟨_, _, _, _, _, _⟩) rfl (fun K hK => ?_) AllReadyH.nil
                      go_simp
                      refine (Root_in HTD.out).mono ?_
                      rintro e9 w' ⟨rfl, rfl⟩
                      go_wp2_with fail
                      refine hK.out _ _ (hHeld) (fun hHeld => ?_)
                      clear hK K
                      try go_frame
                      refine tks (oi := ⟨_, _, _, _, _, _⟩) (v := ?_) 9 rfl (.inl ⟨by rfl, ?_⟩) ?_; rotate_left
                      · (intro wS hSw; (try dsimp only at hSw); go_simp); all_goals with_reducible rfl
                      try go_frame
                      refine tks (oi := ⟨_, _, _, _, _, _⟩) (v := ?_) 10 rfl (.inl ⟨by rfl, ?_⟩) ?_; rotate_left
                      · (intro wS hSw; (try dsimp only at hSw); go_simp); all_goals with_reducible rfl
                      try go_frame
                      refine tks (oi := ⟨_, _, _, _, _, _⟩) (v := ?_) 11 rfl (.inl ⟨by rfl, ?_⟩) ?_; rotate_left
                      · (intro wS hSw; (try dsimp only at hSw); go_simp); all_goals with_reducible rfl
                      try go_frame
                      refine tks (oi := ⟨_, _, _, _, _, _⟩) (v := ?_) 12 rfl (.inl ⟨by rfl, ?_⟩) ?_; rotate_left
                      · (intro wS hSw; (try dsimp only at hSw); go_simp); all_goals with_reducible rfl
                      try go_frame
                      refine tks (oi := ⟨_, _, _, _, _, _⟩) (v := ?_) 13 rfl (.inl ⟨by rfl, ?_⟩) ?_; rotate_left
                      · (intro wS hSw; (try dsimp only at hSw); go_simp); all_goals with_reducible rfl
                      try go_frame
                      refine tks (oi := ⟨_, _, _, _, _, _⟩) (v := ?_) 14 rfl (.inl ⟨by rfl, ?_⟩) ?_; rotate_left
                      · (intro wS hSw; (try dsimp only at hSw); go_simp); all_goals with_reducible rfl
                      try go_frame
                      refine tks (oi := ⟨_, _, _, _, _, _⟩) (v := ?_) 15 rfl (.inl ⟨by rfl, ?_⟩) ?_; rotate_left
                      · (intro wS hSw; (try dsimp only at hSw); go_simp); all_goals with_reducible rfl
                      try go_frame
                      refine tks (oi := ⟨_, _, _, _, _, _⟩) (v := ?_) 16 rfl (.inl ⟨by rfl, ?_⟩) ?_; rotate_left
                      · (intro wS hSw; (try dsimp only at hSw); go_simp); all_goals with_reducible rfl
                      try go_frame
                      refine tks (oi := ⟨_, _, _, _, _, _⟩) (v := undef) 17 rfl (.inr ⟨by rfl, rfl⟩) ?_
                      try go_frame
                      refine tks (oi := ⟨_, _, _, _, _, _⟩) (v := undef) 18 rfl (.inr ⟨by rfl, rfl⟩) ?_
                      try go_frame
                      refine tks (oi := ⟨_, _, _, _, _, _⟩) (v := ?_) 19 rfl (.inl ⟨by rfl, ?_⟩) ?_; rotate_left
                      · (intro wS hSw; (try dsimp only at hSw); go_simp); all_goals with_reducible rfl
                      try go_frame
                      refine tks (oi := ⟨_, _, _, _, _, _⟩) (v := ?_) 20 rfl (.inl ⟨by rfl, ?_⟩) ?_; rotate_left
                      · (intro wS hSw; (try dsimp only at hSw); go_simp); all_goals with_reducible rfl
                      try go_frame
                      refine wpAnyH_done (by kernel_rfl) ?_ _
                      clear hHeld
                      go_wp2_with fail
                      go_roundw
                      case rel => exact ⟨j + 1, by go_num, by omega, HTD.out, HBF.out⟩
                      case measure => simp [intOf]; omega
                    · have p0 : (e.par == 0) = false := by simpa using h1
                      have p1 : (x == rootF f) = false := by simpa using h2
                      have p2 : (e.par != 0) = true := by simpa using h1
                      have hn1 : n = 1 := by omega
                      have p3 : ((n : Int) != 1) = false := by simp; omega
                      clear h1 h2 h4 hcn1 hn1
                      go_wp2_with fail
                      refine wp_region_held_drew (S := fun V => V.cell? ⟨w5.heap.size, 1, none⟩ = some (.int .i64 e.par)) (by kernel_rfl) f1 (fun hHeld => ?_)
                      refine tks (oi := ⟨_, _, _, _, _, _⟩) (v := ?_) 0 rfl (.inl ⟨by rfl, ?_⟩) ?_; rotate_left
                      · (intro wS hSw; (try dsimp only at hSw); go_simp); all_goals with_reducible rfl
                      try go_frame
                      refine tks (oi := ⟨_, _, _, _, _, _⟩) (v := ?_) 1 rfl (.inl ⟨by rfl, ?_⟩) ?_; rotate_left
                      · (intro wS hSw; (try dsimp only at hSw); go_simp); all_goals with_reducible rfl
                      try go_frame
                      refine tks (oi := ⟨_, _, _, _, _, _⟩) (v := ?_) 2 rfl (.inl ⟨by rfl, ?_⟩) ?_; rotate_left
                      · (intro wS hSw; (try dsimp only at hSw); go_simp); all_goals with_reducible rfl
                      try go_frame
                      refine tks (oi := ⟨_, _, _, _, _, _⟩) (v := ?_) 3 rfl (.inl ⟨by rfl, ?_⟩) ?_; rotate_left
                      · (intro wS hSw; (try dsimp only at hSw); go_simp); all_goals with_reducible rfl
                      try go_frame
                      refine tks (oi := ⟨_, _, _, _, _, _⟩) (v := ?_) 4 rfl (.inl ⟨by rfl, ?_⟩) ?_; rotate_left
                      · (intro wS hSw; (try dsimp only at hSw); go_simp); all_goals with_reducible rfl
                      try go_frame
                      refine tks (oi := ⟨_, _, _, _, _, _⟩) (v := ?_) 5 rfl (.inl ⟨by rfl, ?_⟩) ?_; rotate_left
                      · (intro wS hSw; (try dsimp only at hSw); go_simp); all_goals with_reducible rfl
                      try go_frame
                      refine tks (oi := ⟨_, _, _, _, _, _⟩) (v := ?_) 6 rfl (.inl ⟨by rfl, ?_⟩) ?_; rotate_left
                      · (intro wS hSw; (try dsimp only at hSw); go_simp); all_goals with_reducible rfl
                      try go_frame
                      refine tks (oi := ⟨_, _, _, _, _, _⟩) (v := ?_) 7 rfl (.inl ⟨by rfl, ?_⟩) ?_; rotate_left
                      · (intro wS hSw; (try dsimp only at hSw); go_simp); all_goals with_reducible rfl
                      try go_frame
                      refine wpAnyH_ready (rs := [8]) (by kernel_rfl) (by simp) ?_
                      refine AllReadyH.cons (o := ⟨_, _, _, _, _, _⟩) rfl (fun K hK => ?_) AllReadyH.nil
                      go_simp
                      refine (Root_in HTD.out).mono ?_
                      rintro e9 w' ⟨rfl, rfl⟩
                      go_wp2_with fail
                      refine hK.out _ _ (hHeld) (fun hHeld => ?_)
                      clear hK K
                      try go_frame
                      refine tks (oi := ⟨_, _, _, _, _, _⟩) (v := ?_) 9 rfl (.inl ⟨by rfl, ?_⟩) ?_; rotate_left
                      · (intro wS hSw; (try dsimp only at hSw); go_simp); all_goals with_reducible rfl
                      try go_frame
                      refine tks (oi := ⟨_, _, _, _, _, _⟩) (v := ?_) 10 rfl (.inl ⟨by rfl, ?_⟩) ?_; rotate_left
                      · (intro wS hSw; (try dsimp only at hSw); go_simp); all_goals with_reducible rfl
                      try go_frame
                      refine tks (oi := ⟨_, _, _, _, _, _⟩) (v := ?_) 11 rfl (.inl ⟨by rfl, ?_⟩) ?_; rotate_left
                      · (intro wS hSw; (try dsimp only at hSw); go_simp); all_goals with_reducible rfl
                      try go_frame
                      refine tks (oi := ⟨_, _, _, _, _, _⟩) (v := ?_) 12 rfl (.inl ⟨by rfl, ?_⟩) ?_; rotate_left
                      · (intro wS hSw; (try dsimp only at hSw); go_simp); all_goals with_reducible rfl
                      try go_frame
                      refine tks (oi := ⟨_, _, _, _, _, _⟩) (v := ?_) 13 rfl (.inl ⟨by rfl, ?_⟩) ?_; rotate_left
                      · (intro wS hSw; (try dsimp only at hSw); go_simp); all_goals with_reducible rfl
                      try go_frame
                      refine tks (oi := ⟨_, _, _, _, _, _⟩) (v := ?_) 14 rfl (.inl ⟨by rfl, ?_⟩) ?_; rotate_left
                      · (intro wS hSw; (try dsimp only at hSw); go_simp); all_goals with_reducible rfl
                      try go_frame
                      refine tks (oi := ⟨_, _, _, _, _, _⟩) (v := ?_) 15 rfl (.inl ⟨by rfl, ?_⟩) ?_; rotate_left
                      · (intro wS hSw; (try dsimp only at hSw); go_simp); all_goals with_reducible rfl
                      try go_frame
                      refine tks (oi := ⟨_, _, _, _, _, _⟩) (v := ?_) 16 rfl (.inl ⟨by rfl, ?_⟩) ?_; rotate_left
                      · (intro wS hSw; (try dsimp only at hSw); go_simp); all_goals with_reducible rfl
                      try go_frame
                      refine tks (oi := ⟨_, _, _, _, _, _⟩) (v := ?_) 17 rfl (.inl ⟨by rfl, ?_⟩) ?_; rotate_left
                      · (intro wS hSw; (try dsimp only at hSw); go_simp); all_goals with_reducible rfl
                      try go_frame
                      refine tks (oi := ⟨_, _, _, _, _, _⟩) (v := ?_) 18 rfl (.inl ⟨by rfl, ?_⟩) ?_; rotate_left
                      · (intro wS hSw; (try dsimp only at hSw); go_simp); all_goals with_reducible rfl
                      try go_frame
                      refine tks (oi := ⟨_, _, _, _, _, _⟩) (v := ?_) 19 rfl (.inl ⟨by rfl, ?_⟩) ?_; rotate_left
                      · (intro wS hSw; (try dsimp only at hSw); go_simp); all_goals with_reducible rfl
                      try go_frame
                      refine tks (oi := ⟨_, _, _, _, _, _⟩) (v := ?_) 20 rfl (.inl ⟨by rfl, ?_⟩) ?_; rotate_left
                      · (intro wS hSw; (try dsimp only at hSw); go_simp); all_goals with_reducible rfl
                      try go_frame
                      refine wpAnyH_done (by kernel_rfl) ?_ _
                      clear hHeld
                      go_wp2_with fail
                      go_roundw
                      case rel => exact ⟨j + 1, by go_num, by omega, HTD.out, HBF.out⟩
                      case measure => simp [intOf]; omega
            · have j1 : ¬ (j : Int) < (m4 : Int) := by omega
              go_wp2_with fail
              refine (alive_any wr).mono ?_
              rintro e6 w6 ⟨rfl, hb6⟩
              have HB6 : Hid (Below w.heap.size w w6) := HB4.out.trans ((hbj.out.trans (hb6.mono hbj.out.size)).mono HB4.out.size)
              clear hb6
              go_wp2_with fail
              go_ret
              exact ⟨rfl, HB6.out⟩
end Go.Proofs.Ytmkgajdgnmolkaa
