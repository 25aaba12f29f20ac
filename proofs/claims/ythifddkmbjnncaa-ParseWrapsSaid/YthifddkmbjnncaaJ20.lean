/-
  Texts of this claim, joined (by a program of the claim's author): Wraps4.
-/
import Derived.Test.YthifddkmbjnncaaJ16
import Derived.Test.YthifddkmbjnncaaJ19
import Derived.Test.YthifddkmbjnncaaJ5
/-
  The law ParseWraps walked.
-/
namespace Go.Proofs.Ythifddkmbjnncaa
open Go.RowKit

theorem cat_list4 (s m : ByteArray) : (s ++ m).data.toList = s.data.toList ++ m.data.toList := by simp [ByteArray.data_append]

/-- how deep items are -/
def deepL (l : List ItemD) : Int := l.foldl (fun d x => max d x.level) 0
theorem deepL_take {l : List ItemD} {k : Nat} {x : ItemD} (h : l[k]? = some x) : deepL (l.take (k + 1)) = max (deepL (l.take k)) x.level := by
  unfold deepL
  rw [List.take_add_one, h]
  simp
theorem foldl_max : ∀ (l : List ItemD) (d : Int), d ≤ l.foldl (fun d x => max d x.level) d ∧ (∀ x ∈ l, x.level ≤ l.foldl (fun d x => max d x.level) d) ∧ (∀ c, d < c → (∀ x ∈ l, x.level < c) → l.foldl (fun d x => max d x.level) d < c)
  | [], d => ⟨Int.le_refl _, fun _ h => (by cases h), fun c h _ => h⟩
  | a :: l, d => by
    obtain ⟨h1, h2, h3⟩ := foldl_max l (max d a.level)
    rw [List.foldl_cons]
    refine ⟨by omega, fun x hx => ?_, fun c hc hx => h3 c (by have := hx a (by simp); omega) (fun x hm => hx x (by simp [hm]))⟩
    rcases List.mem_cons.1 hx with rfl | hx
    · omega
    · exact h2 x hx

theorem deepL_zero (l : List ItemD) : deepL (l.take 0) = 0 := rfl
theorem deepL_all {l : List ItemD} (h : ∀ x ∈ l, x.level < 39) : deepL l < 39 := (foldl_max l 0).2.2 39 (by decide) h
theorem deepL_big {l : List ItemD} {x : ItemD} (hx : x ∈ l) : x.level ≤ deepL l := (foldl_max l 0).2.1 x hx
theorem deepL_pos (l : List ItemD) : 0 ≤ deepL l := (foldl_max l 0).1





set_option maxRecDepth 100000 in
set_option maxHeartbeats 4000000 in
theorem walk_ParseWraps (s : ByteArray) (w : World) (_hm : s.size ≤ maxLen) : Calls Try.prog 9 #[.string s] w (Ret w (.bool true)) := by
  by_cases hbig : 20000 < s.size
  · have hb' : (20000 : Int) < s.size := by omega
    clear _hm
    go_enter Try.func9, Try.ntmps9
    go_wp2_with fail
    refine (alive4_any w).mono ?_
    rintro e1 w1 ⟨rfl, hb1⟩
    go_wp2_with fail
    go_ret
    exact ⟨rfl, hb1⟩
  have hb' : (s.size : Int) ≤ 20000 := by omega
  have HSZ : Hid (s.size ≤ 20000) := by show s.size ≤ 20000; omega
  have hs : s.size ≤ 100000000 := by omega
  have hs2 : (⟨#[60, 119, 62]⟩ ++ s ++ ⟨#[60, 47, 119, 62]⟩ : ByteArray).size ≤ 100000000 := by
    rw [ByteArray.size_append, ByteArray.size_append]
    show 3 + s.size + 4 ≤ _
    omega
  have HL2 : Hid ((⟨#[60, 119, 62]⟩ ++ s ++ ⟨#[60, 47, 119, 62]⟩ : ByteArray).data.toList = wrapT s.data.toList) := by
    show _ = _
    rw [cat_list4, cat_list4]; rfl
  obtain ⟨R, hR⟩ : ∃ R, Hid (parseL 0 s.data.toList [] [] = R) := ⟨_, rfl⟩
  obtain ⟨R2, hR2⟩ : ∃ R2, Hid (parseL 0 (wrapT s.data.toList) [] [] = R2) := ⟨_, rfl⟩
  have hR2' : Hid (parseL 0 (⟨#[60, 119, 62]⟩ ++ s ++ ⟨#[60, 47, 119, 62]⟩ : ByteArray).data.toList [] [] = R2) := by show _ = _; rw [HL2.out]; exact hR2.out
  have HS2 := Lib.hid hs2
  clear _hm hbig hs2
  go_enter Try.func9, Try.ntmps9
  go_wp2_with fail
  refine (Parse_any s w hs R hR).mono ?_
  rintro e w1 ⟨hb1, hpost⟩
  rcases hpost with ⟨hR0, A, c, S, rfl, hown, hat, hS⟩ | ⟨hR0, rfl⟩
  · obtain ⟨l, hlS⟩ : ∃ l, Hid (S.map (·.1) = l) := ⟨_, rfl⟩
    have hR0' : (parseL 0 s.data.toList [] []).2.2 = 0 := by rw [hR.out]; exact hR0
    have hlR : l = (parseL 0 s.data.toList [] []).1 := by rw [← hlS.out, hS, hR.out]
    have hlen : Hid (S.length = l.length) := by show _ = _; rw [← hlS.out, List.length_map]
    have hlm : l.length ≤ 1000 := by have := parse_many hR0'; rw [← hlR] at this; exact this
    have hsm0 : ∀ x ∈ l, ItemSm s.data.toList.length x := by rw [hlR]; exact parse_sm
    have HSM0 : Hid (∀ x ∈ l, ItemSm s.data.toList.length x) := hsm0
    have HWR := Lib.hid (parse_wraps hR0')
    rw [← hlR, hR2.out] at HWR
    have HAT : Hid (ItemsAt w1 w1.heap.size A l) := by
      show ItemsAt _ _ _ _
      rw [← hlS.out]; exact items_at hown hat
    clear hown hat hS hR0 hR0' hlR hsm0
    go_wp2_with fail
    rw [hlen.out]
    refine (Parse_any _ w1 HS2.out R2 hR2').mono ?_
    rintro e2 w2 ⟨hb2, hpost2⟩
    have hAT2 := (HAT.out.below hb2).more hb2.size
    rcases HWR.out with ⟨hw1, hw2, hw3⟩ | ⟨hw1, hw2⟩
    · rcases hpost2 with ⟨_, Am, cm, S2, rfl, hown2, hat2, hS2⟩ | ⟨h0, _⟩
      · obtain ⟨M, hM⟩ : ∃ M, Hid (wItem :: l.map bump = M) := ⟨_, rfl⟩
        have hSM : S2.map (·.1) = M := by rw [hS2, hw1]; exact hM.out
        have hlen2 : Hid (S2.length = M.length) := by show _ = _; rw [← hSM, List.length_map]
        have hMR : M = (parseL 0 (wrapT s.data.toList) [] []).1 := by rw [hR2.out, hw1]; exact hM.out.symm
        have HATM : Hid (ItemsAt w2 w2.heap.size Am M) := by
          show ItemsAt _ _ _ _
          rw [← hSM]; exact items_at hown2 hat2
        have HSMM : Hid (SmallItems M) := by
          show SmallItems _
          have hlM : M.length ≤ 1000000000 := by rw [← hM.out]; simp; omega
          have hsm : ∀ x ∈ M, ItemSm (wrapT s.data.toList).length x := by rw [hMR]; exact parse_sm
          refine small_of_sm ?_ hlM hsm
          rw [← HL2.out, size_toList]; have := HS2.out; omega
        have HLV : Hid (∀ x ∈ l, x.level + 1 < 40) := hw2
        have HAT2 := Lib.hid hAT2
        clear hown2 hat2 hS2 hSM hMR hw2 hAT2 HWR HAT
        go_wp2_with fail
        rw [hlen2.out]
        go_loopw [9, 38] (fun d i wr => ∃ (k : Nat), k ≤ l.length ∧ d = .int .i64 (deepL (l.take k)) ∧ i = .int .i64 (k : Int) ∧ Hid (Below w2.heap.size w2 wr)) (fun _ i _ => l.length - (intOf i).toNat)
        case atStart => exact ⟨0, Nat.zero_le _, rfl, rfl, (Below.refl _ _ : Below w2.heap.size w2 w2)⟩
        case round =>
          obtain ⟨k, hk, rfl, rfl, hbel⟩ := hrel
          obtain ⟨D, hD⟩ : ∃ D, Hid (deepL (l.take k) = D) := ⟨_, rfl⟩
          rw [hD.out]
          by_cases hlt : k < l.length
          · obtain ⟨x, hx⟩ : ∃ x, Hid (l[k]? = some x) := ⟨l[k], List.getElem?_eq_getElem _⟩
            have hAr := (HAT2.out.below hbel.out)
            obtain ⟨ad, hAd, hbl, _⟩ := hAr (by omega)
            subst hAd
            obtain ⟨_, A', c', _, _, h0, h1, h2, h3, h4⟩ := hAr.item hx.out
            unfold strV at h2 h3
            have hstep : Hid (deepL (l.take (k + 1)) = max D x.level) := by show _ = _; rw [deepL_take hx.out, hD.out]
            have HAR := Lib.hid hAr
            clear hAr
            go_wp2_with fail
            go_roundw
            case rel => exact ⟨k + 1, by omega, by rw [hstep.out], by go_num, hbel.out.alloc hbel.out.size _⟩
            case measure => simp [intOf]; omega
          · have hke : Hid (D = deepL l) := by show _ = _; rw [← hD.out, List.take_of_length_le (by omega)]
            rename World => w5
            have hD0 : 0 ≤ D := by rw [hke.out]; exact deepL_pos l
            have hD39 : D < 39 := by rw [hke.out]; exact deepL_all (fun x hx => by have := HLV.out x hx; omega)
            have hq1 : D + 1 < (40 : Int) := by omega
            have hq2 : (l.length : Int) + 1 ≤ (1000 : Int) := by omega
            have hq3 : (l.length : Int) < (1000 : Int) := by omega
            have HATL5 : Hid (ItemsAt w5 w5.heap.size A l) := (HAT2.out.below hbel.out).more hbel.out.size
            have HATM5 : Hid (ItemsAt w5 w5.heap.size Am M) := (HATM.out.below hbel.out).more hbel.out.size
            have H25 := Lib.hid hbel.out
            clear hbel
            go_wp2_with fail
            obtain ⟨W3, hW3⟩ : ∃ W3, Hid (W3 = w5.alloc (.cells #[.int .i64 0, .int .i64 1, .string ⟨#[119]⟩, .string ⟨#[]⟩, .slice none 0 0] 50)) := ⟨_, rfl⟩
            rw [← hW3.out]
            have hown3 : ItemsOwn W3 w5.heap.size (some ⟨w5.heap.size, 0, none⟩) 1 [((wItem, none, 0) : Slot)] := by
              rw [hW3.out]
              exact World.ownsRow_lit w5 _ 1 (Nat.le_refl _) (by decide) rfl
            have hb3 : Below w5.heap.size w5 W3 := by rw [hW3.out]; exact (Below.refl _ w5).alloc (Nat.le_refl _) _
            go_loopw [12, 69] (fun wv i wr => ∃ (k : Nat) (Sw : List Slot) (ad : Option Addr) (cp m : Nat), k ≤ l.length ∧ wv = .slice ad m cp ∧ i = .int .i64 (k : Int) ∧ Hid (Sw.length = m) ∧ m = k + 1 ∧ Hid (ItemsOwn wr w5.heap.size ad cp Sw) ∧ Hid (∀ s ∈ Sw, AttrsAt w5 w5.heap.size s.2.1 s.1.attrs ∧ s.1.attrs.length ≤ s.2.2) ∧ Hid (Sw.map (·.1) = wItem :: (l.take k).map bump) ∧ Hid (Below w5.heap.size w5 wr)) (fun _ i _ => l.length - (intOf i).toNat)
            case atStart => exact ⟨0, [((wItem, none, 0) : Slot)], _, 1, 1, Nat.zero_le _, rfl, rfl, rfl, rfl, hown3, (fun s hs => by simp at hs; subst hs; exact ⟨fun h => absurd h (by decide), Nat.le_refl _⟩ : ∀ s ∈ [((wItem, none, 0) : Slot)], AttrsAt w5 w5.heap.size s.2.1 s.1.attrs ∧ s.1.attrs.length ≤ s.2.2), rfl, hb3⟩
            case round =>
              clear hown3 hb3
              obtain ⟨k, Sw, ad, cp, m, hk, rfl, rfl, hm, rfl, hown, hats, hmap, hbel⟩ := hrel
              by_cases hlt : k < l.length
              · obtain ⟨x, hx⟩ : ∃ x, Hid (l[k]? = some x) := ⟨l[k], List.getElem?_eq_getElem _⟩
                have hAr := (HATL5.out.below hbel.out)
                obtain ⟨xd, hAd, hbl, _⟩ := hAr (by omega)
                subst hAd
                obtain ⟨_, A', c', _, _, h0, h1, h2, h3, h4⟩ := hAr.item hx.out
                obtain ⟨_, A5, c5, hat5, hac5, _, _, _, _, g4⟩ := HATL5.out.item hx.out
                have hAc : A' = A5 ∧ c' = c5 := by
                  have e := (hbel.out.cell (p := ⟨(xd.add (k * 5)).block, (xd.add (k * 5)).off + 4, none⟩) (by show (xd.add _).block < _; rw [block_of_add]; exact hbl)).trans g4
                  rw [h4] at e
                  injection e with e
                  injection e with e1 _ e2
                  exact ⟨e1, e2⟩
                obtain ⟨rfl, rfl⟩ := hAc
                unfold strV at h2 h3
                have hxs := HSM0.out x (List.mem_of_getElem? hx.out)
                have hlx := hxs.level
                have hwl : IntKind.i64.wrap (x.level + 1) = x.level + 1 := IntWalk.i64_in _ (by omega)
                obtain ⟨W6, hW6⟩ : ∃ W6, Hid (W6 = wr.alloc (.cells #[.int .i64 (x.level + 1), .int .i64 x.kind, .string ⟨x.name.toArray⟩, .string ⟨x.text.toArray⟩, .slice A' x.attrs.length c'] 50)) := ⟨_, rfl⟩
                have hb6 : Below wr.heap.size wr W6 := by rw [hW6.out]; exact (Below.refl _ wr).alloc (Nat.le_refl _) _
                have hown6 : W6.ownsRow w5.heap.size 50 5 (.slice ad (k + 1) cp) (k + 1) (Sw.flatMap cellsI) := by rw [← hm.out]; exact own_keep hown.out hb6
                have hz6 : w5.heap.size ≤ W6.heap.size := Nat.le_trans hbel.out.size hb6.size
                have HAT5 : Hid (AttrsAt w5 w5.heap.size A' x.attrs ∧ x.attrs.length ≤ c') := ⟨hat5, hac5⟩
                clear hAr hat5 hac5 g4 hxs
                go_wp2_with (at_builtin; rw [← hW6.out]; go_loud (refine appendS rfl (.tmp 77) (.tmp 79) 45 rfl w5.heap.size 50 (.agg #[.int .i64 0, .int .i64 0, .string ByteArray.empty, .string ByteArray.empty, .slice none 0 0]) 5 72 Try.underlying45 infoItem rfl (by decide) _ (k + 1) _ (cellsI (bump x, A', c')) rfl hown6 hz6 _ rfl (by rw [hW6.out]; simp) (cellsI_length _) (cellsI_cell _) (by omega) (by decide) ?_))
                intro a7 c7 w7 hown7 hb7 hz7 hg7
                have hown7' : ItemsOwn w7 w5.heap.size a7 c7 (Sw ++ [((bump x, A', c') : Slot)]) := by
                  unfold ItemsOwn
                  rw [List.length_append, List.flatMap_append, hm.out]
                  simpa using hown7
                have hats7 : Hid (∀ s ∈ Sw ++ [((bump x, A', c') : Slot)], AttrsAt w5 w5.heap.size s.2.1 s.1.attrs ∧ s.1.attrs.length ≤ s.2.2) := fun s hs => by
                  rcases List.mem_append.1 hs with h | h
                  · exact hats.out s h
                  · simp at h; subst h; exact HAT5.out
                have hmap7 : Hid ((Sw ++ [((bump x, A', c') : Slot)]).map (·.1) = wItem :: (l.take (k + 1)).map bump) := by
                  show _ = _
                  rw [List.map_append, hmap.out, List.take_add_one, hx.out]
                  simp
                clear hown7 hg7
                go_wp2_with fail
                go_roundw
                case rel => exact ⟨k + 1, Sw ++ [((bump x, A', c') : Slot)], a7, c7, k + 1 + 1, by omega, by go_num, by go_num, by show _ = _; rw [List.length_append, hm.out]; rfl, rfl, hown7', hats7.out, hmap7.out, hbel.out.trans ((hb6.mono hbel.out.size).trans hb7)⟩
                case measure => simp [intOf]; omega
              · have hkl : k = l.length := by omega
                subst hkl
                have hSwM : Hid (Sw.map (·.1) = M) := by
                  show _ = _
                  rw [hmap.out, List.take_length, hM.out]
                have hSwl : Hid (l.length + 1 = M.length) := by show _ = _; rw [← hSwM.out, List.length_map, hm.out]
                have HWT : Hid (ItemsAt wr wr.heap.size ad M) := by
                  show ItemsAt _ _ _ _
                  rw [← hSwM.out]
                  exact ItemsOwn.at hown.out (fun s hs => ⟨((hats.out s hs).1.below hbel.out).more hbel.out.size, (hats.out s hs).2⟩)
                have HMT : Hid (ItemsAt wr wr.heap.size Am M) := (HATM5.out.below hbel.out).more hbel.out.size
                go_wp2_with fail
                refine (alive4_any wr).mono ?_
                rintro e3 w8 ⟨rfl, hb8⟩
                have HWT8 : Hid (ItemsAt w8 w8.heap.size ad M) := (HWT.out.below hb8).more hb8.size
                have HMT8 : Hid (ItemsAt w8 w8.heap.size Am M) := (HMT.out.below hb8).more hb8.size
                go_wp2_with fail
                rw [hSwl.out]
                refine (RSame_any M M Am ad cm cp w8 HMT8.out HWT8.out HSMM.out HSMM.out true (decide_eq_true rfl)).mono ?_
                rintro e4 w9 ⟨rfl, hb9⟩
                go_wp2_with fail
                go_ret
                exact ⟨rfl, hb1.trans ((hb2.trans ((H25.out.trans ((hbel.out.trans ((hb8.trans (hb9.mono hb8.size)).mono hbel.out.size)).mono H25.out.size)).mono hb2.size)).mono hb1.size)⟩
      · exact absurd (by rw [hw1]) h0
    · have hf : R2.2.2 ≠ 0 := by rcases hw1 with h | h <;> rw [h] <;> decide
      rcases hpost2 with ⟨h0, _⟩ | ⟨_, rfl⟩
      · exact absurd h0 hf
      · have HW2 := Lib.hid hw2
        have HW1 := Lib.hid hw1
        have HAT2 := Lib.hid hAT2
        obtain ⟨f, hfq⟩ : ∃ f, R2.2.2 = f := ⟨_, rfl⟩
        rw [hfq]
        rw [hfq] at HW1 hf
        clear hAT2 hw1 hw2 hf HWR HAT
        go_wp2_with fail
        go_loopw [9, 38] (fun d i wr => ∃ (k : Nat), k ≤ l.length ∧ d = .int .i64 (deepL (l.take k)) ∧ i = .int .i64 (k : Int) ∧ Hid (Below w2.heap.size w2 wr)) (fun _ i _ => l.length - (intOf i).toNat)
        case atStart => exact ⟨0, Nat.zero_le _, rfl, rfl, (Below.refl _ _ : Below w2.heap.size w2 w2)⟩
        case round =>
          obtain ⟨k, hk, rfl, rfl, hbel⟩ := hrel
          obtain ⟨D, hD⟩ : ∃ D, Hid (deepL (l.take k) = D) := ⟨_, rfl⟩
          rw [hD.out]
          by_cases hlt : k < l.length
          · obtain ⟨x, hx⟩ : ∃ x, Hid (l[k]? = some x) := ⟨l[k], List.getElem?_eq_getElem _⟩
            have hAr := (HAT2.out.below hbel.out)
            obtain ⟨ad, hAd, hbl, _⟩ := hAr (by omega)
            subst hAd
            obtain ⟨_, A', c', _, _, h0, h1, h2, h3, h4⟩ := hAr.item hx.out
            unfold strV at h2 h3
            have hstep : Hid (deepL (l.take (k + 1)) = max D x.level) := by show _ = _; rw [deepL_take hx.out, hD.out]
            have HAR := Lib.hid hAr
            clear hAr
            go_wp2_with fail
            go_roundw
            case rel => exact ⟨k + 1, by omega, by rw [hstep.out], by go_num, hbel.out.alloc hbel.out.size _⟩
            case measure => simp [intOf]; omega
          · have hke : Hid (D = deepL l) := by show _ = _; rw [← hD.out, List.take_of_length_le (by omega)]
            have hD0 : 0 ≤ D := by rw [hke.out]; exact deepL_pos l
            have hcond : 39 ≤ D ∨ 1000 ≤ l.length := by
              rcases HW2.out with ⟨x, hx, hxl⟩ | h
              · left; rw [hke.out]; exact Int.le_trans hxl (deepL_big hx)
              · exact .inr h
            have HD : Hid (D ≤ 1000) := by
              show D ≤ 1000
              rw [hke.out]
              refine Int.le_of_lt (Int.lt_of_lt_of_le ((foldl_max l 0).2.2 40 (by decide) (fun x hx => (HSM0.out x hx).level.2)) (by decide))
            have hDb : D ≤ 1000 := HD.out
            have hnx : D + 1 ≤ 1001 := by omega
            by_cases h39 : 39 ≤ D
            · have hq1 : (40 : Int) ≤ D + 1 := by omega
              clear hcond
              go_wp2_with fail
              refine (alive4_any _).mono ?_
              rintro e3 w3 ⟨rfl, hb3⟩
              rcases HW1.out with rfl | rfl
              · go_wp2_with fail
                go_ret
                exact ⟨rfl, hb1.trans ((hb2.trans ((hbel.out.trans (hb3.mono hbel.out.size)).mono hb2.size)).mono hb1.size)⟩
              · go_wp2_with fail
                go_ret
                exact ⟨rfl, hb1.trans ((hb2.trans ((hbel.out.trans (hb3.mono hbel.out.size)).mono hb2.size)).mono hb1.size)⟩
            · have hq1 : D + 1 < (40 : Int) := by omega
              have hq2 : (1000 : Int) < (l.length : Int) + 1 := by omega
              clear hcond h39
              go_wp2_with fail
              refine (alive4_any _).mono ?_
              rintro e3 w3 ⟨rfl, hb3⟩
              rcases HW1.out with rfl | rfl
              · go_wp2_with fail
                go_ret
                exact ⟨rfl, hb1.trans ((hb2.trans ((hbel.out.trans (hb3.mono hbel.out.size)).mono hb2.size)).mono hb1.size)⟩
              · go_wp2_with fail
                go_ret
                exact ⟨rfl, hb1.trans ((hb2.trans ((hbel.out.trans (hb3.mono hbel.out.size)).mono hb2.size)).mono hb1.size)⟩
  · have he1 : (R.2.2 != 0) = true := by simpa using hR0
    clear hR0
    go_wp2_with fail
    refine (Parse_any _ w1 HS2.out R2 hR2').mono ?_
    rintro e2 w2 ⟨hb2, hpost2⟩
    rcases hpost2 with ⟨_, A2, c2, S2, rfl, _⟩ | ⟨_, rfl⟩
    · go_wp2_with fail
      refine (alive4_any w2).mono ?_
      rintro e3 w3 ⟨rfl, hb3⟩
      go_wp2_with fail
      go_ret
      exact ⟨rfl, hb1.trans ((hb2.trans (hb3.mono hb2.size)).mono hb1.size)⟩
    · go_wp2_with fail
      refine (alive4_any w2).mono ?_
      rintro e3 w3 ⟨rfl, hb3⟩
      go_wp2_with fail
      go_ret
      exact ⟨rfl, hb1.trans ((hb2.trans (hb3.mono hb2.size)).mono hb1.size)⟩
end Go.Proofs.Ythifddkmbjnncaa
