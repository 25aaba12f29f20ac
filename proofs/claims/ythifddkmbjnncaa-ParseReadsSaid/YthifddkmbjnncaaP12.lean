/-
  Texts of this claim, joined (by a program of the claim's author): RAttr, RBegin, RLOne, RPOne, RPAdd.
-/
import Derived.Test.YthifddkmbjnncaaP11
import Derived.Test.YthifddkmbjnncaaP5
import Derived.Test.YthifddkmbjnncaaP10
import Derived.Test.YthifddkmbjnncaaP1
import Derived.Test.YthifddkmbjnncaaP6
import Derived.Test.YthifddkmbjnncaaP7
/-
  The document's reader of tokens: the walk of attr.
-/
namespace Go.Proofs.Ythifddkmbjnncaa
open Go.RowKit

/-- what attr leaves -/
def RAttrPost (w : World) (p : Nat) (kind tat : Int) (name text : List UInt8) (l : List AttrD) (V : Told AttrD) (e : Ending) (w' : World) : Prop :=
  Below w.heap.size w w' ∧ match V with
  | .ok a n => ∃ A c, e = .returned (.agg (stC (p + n : Nat) kind tat name text A (insA a l).length c 0 0)) ∧ AttrsOwn w' w.heap.size A c (insA a l)
  | .bad k c => e = .returned (.agg (stC 0 0 0 [] [] none 0 0 (p + k : Nat) c))


set_option maxRecDepth 100000 in
set_option maxHeartbeats 8000000 in
theorem rattr_any (s : ByteArray) (p : Nat) (kind tat : Int) (name text : List UInt8) (A : Option Addr) (c : Nat) (l : List AttrD) (w : World) (hp : p ≤ s.size) (hs : s.size ≤ 1000000000) (hA : AttrsAt w w.heap.size A l) (hl : l.length ≤ 1000) (V : Told AttrD) (hV : Hid (attrL (s.data.toList.drop p) l = V)) :
    Calls Try.prog 92 #[.string s, .agg (stC p kind tat name text A l.length c 0 0)] w (RAttrPost w p kind tat name text l V) := by
  have HL := Lib.hid (size_toList s)
  have HA := Lib.hid hA
  obtain ⟨n, hn⟩ : ∃ n, Hid (wordL (s.data.toList.drop p) = n) := ⟨_, rfl⟩
  obtain ⟨v, hv⟩ : ∃ v, Hid (nameL n = v) := ⟨_, rfl⟩
  obtain ⟨k, hk⟩ : ∃ k, Hid (p + n.length = k) := ⟨_, rfl⟩
  have hkl : k ≤ s.size := by
    have := wordL_len (s.data.toList.drop p)
    rw [hn.out, List.length_drop, HL.out] at this
    have := hk.out
    omega
  have hword : Hid (p + (wordL (s.data.toList.drop p)).length = k) := by show _ = _; rw [hn.out]; exact hk.out
  have hx : (s.extract p k).data.toList = n := by
    rw [Lib.extract_data]
    have h2 := span_word (s.data.toList.drop p) nb
    have e : (s.data.toList.drop p).takeWhile nb = n := hn.out
    rw [e] at h2
    rw [show k - p = n.length by have := hk.out; omega]
    conv => lhs; rw [h2]
    rw [List.take_append_of_le_length (Nat.le_refl _), List.take_length]
  have hxe : Hid (s.extract p k = ⟨n.toArray⟩) := by
    show _ = _
    rw [← hx]
  have hnl : n.length ≤ 1000000000 := by have := hk.out; omega
  have i0 : (0 : Int) ≤ (p : Int) := by omega
  have i1 : (p : Int) ≤ k := by have := hk.out; omega
  have i2 : (k : Int) ≤ s.size := by omega
  clear hx hA
  show Calls Try.prog 92 #[.string s, .agg #[.int .i64 p, .int .i64 kind, .int .i64 tat, .string ⟨name.toArray⟩, .string ⟨text.toArray⟩, .slice A l.length c, .int .i64 0, .int .i64 0]] w _
  go_enter Try.func92, Try.ntmps92
  go_wp2_with fail
  obtain ⟨W1, hW1⟩ : ∃ W1, Hid (W1 = (w.alloc (.cells #[.int .i64 p, .int .i64 kind, .int .i64 tat, .string ⟨name.toArray⟩, .string ⟨text.toArray⟩, .slice A l.length c, .int .i64 0, .int .i64 0] 94)).alloc (.cells zeroSt 94)) := ⟨_, rfl⟩
  change Calls _ _ _ ((w.alloc _).alloc (.cells zeroSt 94)) _
  rw [← hW1.out]
  have hb1 : Below w.heap.size w W1 := by rw [hW1.out]; exact ((Below.refl _ w).alloc (Nat.le_refl _) _).alloc (by simp) _
  have HX1 : Hid (W1.heap[w.heap.size]? = some (.cells #[.int .i64 p, .int .i64 kind, .int .i64 tat, .string ⟨name.toArray⟩, .string ⟨text.toArray⟩, .slice A l.length c, .int .i64 0, .int .i64 0] 94 (0, 0))) := by show _ = _; rw [hW1.out]; exact heap_alloc2_old _ _ _
  have HT1 : Hid (W1.heap[w.heap.size + 1]? = some (.cells zeroSt 94 (0, 0))) := by show _ = _; rw [hW1.out]; exact heap_alloc2_new _ _ _
  have HB1 := Lib.hid hb1
  clear hb1
  refine (rword_any s p W1 hp hs k hword).mono ?_
  rintro e w2 ⟨rfl, hb2⟩
  have HX2 := Lib.hid (blk_below hb2 HX1.out)
  have HT2 := Lib.hid (blk_below hb2 HT1.out)
  have HB2 : Hid (Below w.heap.size w w2) := HB1.out.trans (hb2.mono HB1.out.size)
  have z0 : w2.cell? ⟨w.heap.size, 0, none⟩ = some (.int .i64 p) := by rw [cell_of_row HX2.out]; rfl
  go_wp2_with fail
  rw [hxe.out]
  refine (RName_l n w2 hnl v hv).mono ?_
  rintro e w3 ⟨rfl, hb3⟩
  have HX3 := Lib.hid (blk_below hb3 HX2.out)
  have HT3 := Lib.hid (blk_below hb3 HT2.out)
  have HB3 : Hid (Below w.heap.size w w3) := HB2.out.trans (hb3.mono HB2.out.size)
  replace z0 : w3.cell? ⟨w.heap.size, 0, none⟩ = some (.int .i64 p) := by rw [cell_of_row HX3.out]; rfl
  have z5 : w3.cell? ⟨w.heap.size, 5, none⟩ = some (.slice A l.length c) := by rw [cell_of_row HX3.out]; rfl
  cases v with
  | false =>
    have HV : Hid (V = .bad 0 31) := by
      show _ = _
      rw [← hV.out]; unfold attrL; simp only [hn.out, hv.out]; rw [if_pos trivial]
    go_wp2_with fail
    refine (rfails_any _ _ w3).mono ?_
    rintro e9 w9 ⟨rfl, hb9⟩
    have HT9 := Lib.hid (blk_below hb9 HT3.out)
    go_wp2_with (refine wpList_store_row rfl 94 (.tmp 4) (.tmp 26) rfl (w.heap.size + 1) (stC 0 0 0 [] [] none 0 0 ((p : Int)) 31) rfl rfl 94 zeroSt HT9.out (by kernel_rfl) rfl (stC_one _ _ _ _ _ _ _ _ _ _) ?_)
    try simp only [Exit.inBlock, Exit.then]
    refine bodyPost_ret (results_cell_row Try.results92 _ _ (w.heap.size + 1) 94 (stC 0 0 0 [] [] none 0 0 ((p : Int)) 31) (0, 0) _ rfl (setRow_heap _ _ _ _ _ _ HT9.out) Try.underlying94 rfl (by kernel_rfl)) rfl ?_
    rw [HV.out]
    refine ⟨below_stored ((HB3.out).trans (hb9.mono (HB3.out).size)) (Nat.le_succ _) _, ?_⟩
    rfl
  | true =>
    by_cases h20 : 20 ≤ l.length
    · have HV : Hid (V = .bad 0 33) := by
        show _ = _
        rw [← hV.out]; unfold attrL; simp only [hn.out, hv.out]; rw [if_neg (by decide), if_pos h20]
      have h20' : (20 : Int) ≤ l.length := by omega
      clear h20
      go_wp2_with fail
      refine (rfails_any _ _ w3).mono ?_
      rintro e9 w9 ⟨rfl, hb9⟩
      have HT9 := Lib.hid (blk_below hb9 HT3.out)
      go_wp2_with (refine wpList_store_row rfl 94 (.tmp 4) (.tmp 34) rfl (w.heap.size + 1) (stC 0 0 0 [] [] none 0 0 ((p : Int)) 33) rfl rfl 94 zeroSt HT9.out (by kernel_rfl) rfl (stC_one _ _ _ _ _ _ _ _ _ _) ?_)
      try simp only [Exit.inBlock, Exit.then]
      refine bodyPost_ret (results_cell_row Try.results92 _ _ (w.heap.size + 1) 94 (stC 0 0 0 [] [] none 0 0 ((p : Int)) 33) (0, 0) _ rfl (setRow_heap _ _ _ _ _ _ HT9.out) Try.underlying94 rfl (by kernel_rfl)) rfl ?_
      rw [HV.out]
      refine ⟨below_stored ((HB3.out).trans (hb9.mono (HB3.out).size)) (Nat.le_succ _) _, ?_⟩
      rfl
    · have h20' : (l.length : Int) < 20 := by omega
      have H20 := Lib.hid h20
      clear h20
      go_wp2_with fail
      go_loopw [7] (fun i wr => ∃ (j : Nat), j ≤ l.length ∧ i = .int .i64 (j : Int) ∧ Hid ((l.take j).any (fun a => decide (a.name = n)) = false) ∧ w3 = wr) (fun i _ => l.length - (intOf i).toNat)
      case atStart => exact ⟨0, Nat.zero_le _, rfl, rfl, rfl⟩
      case round =>
        obtain ⟨j, hj, rfl, hno, hwr⟩ := hrel
        subst hwr
        by_cases hjl : j < l.length
        · obtain ⟨a, ha⟩ : ∃ a, Hid (l[j]? = some a) := ⟨l[j], List.getElem?_eq_getElem _⟩
          have hAr := (HA.out.below HB3.out)
          obtain ⟨ad, hAd, had, hcc⟩ := hAr (by omega)
          subst hAd
          obtain ⟨a0, _⟩ := hcc j a ha.out
          unfold strV at a0
          have k0 : (0 : Int) ≤ (j : Int) := by omega
          have k1 : (j : Int) < l.length := by omega
          by_cases hc : a.name = n
          · have hcb : (a.name == n) = true := by simpa using hc
            have hany : l.any (fun a => decide (a.name = n)) = true := List.any_eq_true.2 ⟨a, List.mem_of_getElem? ha.out, by simpa using hc⟩
            have HV : Hid (V = .bad 0 32) := by
              show _ = _
              rw [← hV.out]; unfold attrL; simp only [hn.out, hv.out]; rw [if_neg (by decide), if_neg H20.out, if_pos hany]
            clear hc hany hcc
            go_wp2_with fail
            refine (rfails_any _ _ w3).mono ?_
            rintro e9 w9 ⟨rfl, hb9⟩
            have HT9 := Lib.hid (blk_below hb9 HT3.out)
            go_wp2_with (refine wpList_store_row rfl 94 (.tmp 4) (.tmp 54) rfl (w.heap.size + 1) (stC 0 0 0 [] [] none 0 0 ((p : Int)) 32) rfl rfl 94 zeroSt HT9.out (by kernel_rfl) rfl (stC_one _ _ _ _ _ _ _ _ _ _) ?_)
            try simp only [Exit.inBlock, Exit.then]
            refine bodyPost_ret (results_cell_row Try.results92 _ _ (w.heap.size + 1) 94 (stC 0 0 0 [] [] none 0 0 ((p : Int)) 32) (0, 0) _ rfl (setRow_heap _ _ _ _ _ _ HT9.out) Try.underlying94 rfl (by kernel_rfl)) rfl ?_
            rw [HV.out]
            refine ⟨below_stored ((HB3.out).trans (hb9.mono (HB3.out).size)) (Nat.le_succ _) _, ?_⟩
            rfl
          · have hcb : (a.name == n) = false := by simpa using hc
            have hno' : Hid ((l.take (j + 1)).any (fun a => decide (a.name = n)) = false) := by
              show _ = _
              rw [List.take_add_one, ha.out, List.any_append, hno.out]
              simp [hc]
            clear hc hcc
            go_wp2_with fail
            go_roundw
            case rel => exact ⟨j + 1, by omega, by go_num, hno'.out, trivial⟩
            case measure => simp [intOf]; omega
        · have hany : Hid (l.any (fun a => decide (a.name = n)) = false) := by
            have := hno.out
            rw [List.take_of_length_le (by omega)] at this
            exact this
          have k1 : (l.length : Int) ≤ (j : Int) := by omega
          go_wp2_with fail
          obtain ⟨m1, hm1⟩ : ∃ m1, Hid (pre [61] (s.data.toList.drop k) = m1) := ⟨_, rfl⟩
          refine (there_any s k [61] w3 hkl hs (by decide) m1 hm1).mono ?_
          rintro e w4 ⟨rfl, hb4⟩
          have HX4 := Lib.hid (blk_below hb4 HX3.out)
          have HT4 := Lib.hid (blk_below hb4 HT3.out)
          have HB4 : Hid (Below w.heap.size w w4) := HB3.out.trans (hb4.mono HB3.out.size)
          have hpd : p + n.length = k := hk.out
          have hVE : Hid (V = if m1 = false then .bad n.length 30 else if pre [34] (s.data.toList.drop (k + 1)) = false then .bad (n.length + 1) 30 else valueT n (s.data.toList.drop (k + 2))) := by
            show _ = _
            rw [← hV.out]; unfold attrL; simp only [hn.out, hv.out, hany.out, List.drop_drop]
            rw [if_neg (by decide), if_neg H20.out, if_neg (by decide), hpd, hm1.out, show p + (n.length + 1) = k + 1 by omega, show p + (n.length + 2) = k + 2 by omega]
          have HPD := Lib.hid hpd
          clear hpd z0 z5 hb4
          cases m1 with
          | false =>
            have HV : Hid (V = .bad n.length 30) := hVE.out.trans (if_pos rfl)
            go_wp2_with fail
            refine (rfails_any _ _ w4).mono ?_
            rintro e9 w9 ⟨rfl, hb9⟩
            have HT9 := Lib.hid (blk_below hb9 HT4.out)
            go_wp2_with (refine wpList_store_row rfl 94 (.tmp 4) (.tmp 60) rfl (w.heap.size + 1) (stC 0 0 0 [] [] none 0 0 ((k : Int)) 30) rfl rfl 94 zeroSt HT9.out (by kernel_rfl) rfl (stC_one _ _ _ _ _ _ _ _ _ _) ?_)
            try simp only [Exit.inBlock, Exit.then]
            refine bodyPost_ret (results_cell_row Try.results92 _ _ (w.heap.size + 1) 94 (stC 0 0 0 [] [] none 0 0 ((k : Int)) 30) (0, 0) _ rfl (setRow_heap _ _ _ _ _ _ HT9.out) Try.underlying94 rfl (by kernel_rfl)) rfl ?_
            rw [HV.out]
            refine ⟨below_stored ((HB4.out).trans (hb9.mono (HB4.out).size)) (Nat.le_succ _) _, ?_⟩
            show _ = Ending.returned (.agg (stC 0 0 0 [] [] none 0 0 ((p + n.length : Nat) : Int) 30))
            rw [HPD.out]
          | true =>
            have hk1 : k + 1 ≤ s.size := by have := pre1_len hm1.out; rw [HL.out] at this; exact this
            obtain ⟨m2, hm2⟩ : ∃ m2, Hid (pre [34] (s.data.toList.drop (k + 1)) = m2) := ⟨_, rfl⟩
            have hVE2 : Hid (V = if m2 = false then .bad (n.length + 1) 30 else valueT n (s.data.toList.drop (k + 2))) := by
              show _ = _
              rw [hVE.out, if_neg (by decide), hm2.out]
            have i5 : (k : Int) + 1 ≤ s.size := by omega
            go_wp2_with fail
            refine (there_any s (k + 1) [34] w4 hk1 hs (by decide) m2 hm2).mono ?_
            rintro e w5 ⟨rfl, hb5⟩
            have HX5 := Lib.hid (blk_below hb5 HX4.out)
            have HT5 := Lib.hid (blk_below hb5 HT4.out)
            have HB5 : Hid (Below w.heap.size w w5) := HB4.out.trans (hb5.mono HB4.out.size)
            clear hb5
            cases m2 with
            | false =>
              have HV : Hid (V = .bad (n.length + 1) 30) := hVE2.out.trans (if_pos rfl)
              go_wp2_with fail
              refine (rfails_any _ _ w5).mono ?_
              rintro e9 w9 ⟨rfl, hb9⟩
              have HT9 := Lib.hid (blk_below hb9 HT5.out)
              go_wp2_with (refine wpList_store_row rfl 94 (.tmp 4) (.tmp 68) rfl (w.heap.size + 1) (stC 0 0 0 [] [] none 0 0 ((k : Int) + 1) 30) rfl rfl 94 zeroSt HT9.out (by kernel_rfl) rfl (stC_one _ _ _ _ _ _ _ _ _ _) ?_)
              try simp only [Exit.inBlock, Exit.then]
              refine bodyPost_ret (results_cell_row Try.results92 _ _ (w.heap.size + 1) 94 (stC 0 0 0 [] [] none 0 0 ((k : Int) + 1) 30) (0, 0) _ rfl (setRow_heap _ _ _ _ _ _ HT9.out) Try.underlying94 rfl (by kernel_rfl)) rfl ?_
              rw [HV.out]
              refine ⟨below_stored ((HB5.out).trans (hb9.mono (HB5.out).size)) (Nat.le_succ _) _, ?_⟩
              show _ = Ending.returned (.agg (stC 0 0 0 [] [] none 0 0 ((p + (n.length + 1) : Nat) : Int) 30))
              rw [show p + (n.length + 1) = k + 1 by have := HPD.out; omega]
              rfl
            | true =>
              have hk2 : k + 2 ≤ s.size := by have := pre1_len hm2.out; rw [HL.out] at this; exact this
              have i6 : (k : Int) + 2 ≤ s.size := by omega
              obtain ⟨t, ht⟩ : ∃ t, Hid ((s.data.toList.drop (k + 2)).takeWhile (· != 34) = t) := ⟨_, rfl⟩
              obtain ⟨q, hq⟩ : ∃ q, Hid (k + 2 + t.length = q) := ⟨_, rfl⟩
              have htl : t.length ≤ s.size - (k + 2) := by
                have := takeWhile_len (· != 34) (s.data.toList.drop (k + 2))
                rw [ht.out, List.length_drop, HL.out] at this
                exact this
              have hql : q ≤ s.size := by have := hq.out; omega
              have hfind : Hid (k + 2 + ((s.data.toList.drop (k + 2)).takeWhile (· != 34)).length = q) := by show _ = _; rw [ht.out]; exact hq.out
              have hVT : Hid (valueT n (s.data.toList.drop (k + 2)) = if t.length = s.size - (k + 2) then .bad (n.length + 2 + t.length) 30 else if (undoL true t).2.2 ≠ 0 then .bad (n.length + 2 + (undoL true t).2.1) (undoL true t).2.2 else if 1500 < (undoL true t).1.length then .bad (n.length + 1) 34 else .ok ⟨n, (undoL true t).1⟩ (n.length + 2 + t.length + 1)) := by
                show _ = _
                unfold valueT
                simp only [ht.out, List.length_drop, HL.out]
              have i7 : (k : Int) + 2 ≤ q := by have := hq.out; omega
              have i8 : (q : Int) ≤ s.size := by omega
              go_wp2_with fail
              refine (rfind_any s (k + 2) 34 w5 hk2 hs q hfind).mono ?_
              rintro e w6 ⟨rfl, hb6⟩
              have HX6 := Lib.hid (blk_below hb6 HX5.out)
              have HT6 := Lib.hid (blk_below hb6 HT5.out)
              have HB6 : Hid (Below w.heap.size w w6) := HB5.out.trans (hb6.mono HB5.out.size)
              clear hb6
              by_cases hend : q = s.size
              · have HV : Hid (V = .bad (n.length + 2 + t.length) 30) := by
                  show _ = _
                  rw [hVE2.out, if_neg (by decide), hVT.out, if_pos (by have := hq.out; omega)]
                have t0 : ((q : Int) == (s.size : Int)) = true := by simp [hend]
                clear hend
                go_wp2_with fail
                refine (rfails_any _ _ w6).mono ?_
                rintro e9 w9 ⟨rfl, hb9⟩
                have HT9 := Lib.hid (blk_below hb9 HT6.out)
                go_wp2_with (refine wpList_store_row rfl 94 (.tmp 4) (.tmp 78) rfl (w.heap.size + 1) (stC 0 0 0 [] [] none 0 0 ((q : Int)) 30) rfl rfl 94 zeroSt HT9.out (by kernel_rfl) rfl (stC_one _ _ _ _ _ _ _ _ _ _) ?_)
                try simp only [Exit.inBlock, Exit.then]
                refine bodyPost_ret (results_cell_row Try.results92 _ _ (w.heap.size + 1) 94 (stC 0 0 0 [] [] none 0 0 ((q : Int)) 30) (0, 0) _ rfl (setRow_heap _ _ _ _ _ _ HT9.out) Try.underlying94 rfl (by kernel_rfl)) rfl ?_
                rw [HV.out]
                refine ⟨below_stored ((HB6.out).trans (hb9.mono (HB6.out).size)) (Nat.le_succ _) _, ?_⟩
                show _ = Ending.returned (.agg (stC 0 0 0 [] [] none 0 0 ((p + (n.length + 2 + t.length) : Nat) : Int) 30))
                rw [show p + (n.length + 2 + t.length) = q by have := HPD.out; have := hq.out; omega]
              · have t0 : ((q : Int) == (s.size : Int)) = false := beq_eq_false_iff_ne.2 (by omega)
                obtain ⟨u, mm, er, hu⟩ : ∃ u mm er, Hid (undoL true t = (u, mm, er)) := ⟨_, _, _, rfl⟩
                have hVU : Hid (V = if er ≠ 0 then .bad (n.length + 2 + mm) er else if 1500 < u.length then .bad (n.length + 1) 34 else .ok ⟨n, u⟩ (n.length + 2 + t.length + 1)) := by
                  show _ = _
                  rw [hVE2.out, if_neg (by decide), hVT.out, if_neg (by have := hq.out; omega), hu.out]
                have hx2 : (s.extract (k + 2) q).data.toList = t := by
                  rw [Lib.extract_data]
                  have h2 := span_word (s.data.toList.drop (k + 2)) (· != 34)
                  rw [ht.out] at h2
                  rw [show q - (k + 2) = t.length by have := hq.out; omega]
                  conv => lhs; rw [h2]
                  rw [List.take_append_of_le_length (Nat.le_refl _), List.take_length]
                have hU : Hid (undoL true (s.extract (k + 2) q).data.toList = (u, mm, er)) := by show _ = _; rw [hx2]; exact hu.out
                have hxs : (s.extract (k + 2) q).size ≤ 1000000000 := by rw [ByteArray.size_extract]; omega
                have HXS := Lib.hid hxs
                have hmm : mm ≤ t.length := by have := undoL_le true t; rw [hu.out] at this; exact this
                have hmb : (k : Int) + 2 + mm ≤ s.size := by have := hq.out; omega
                clear hx2 hxs hend
                go_wp2_with fail
                refine (RUndo_at _ true w6 HXS.out u mm er hU).mono ?_
                rintro e w7 ⟨rfl, hb7⟩
                have HX7 := Lib.hid (blk_below hb7 HX6.out)
                have HT7 := Lib.hid (blk_below hb7 HT6.out)
                have HB7 : Hid (Below w.heap.size w w7) := HB6.out.trans (hb7.mono HB6.out.size)
                clear hb7
                by_cases he : er = 0
                · subst he
                  by_cases hlong : 1500 < u.length
                  · have HV : Hid (V = .bad (n.length + 1) 34) := by show _ = _; rw [hVU.out, if_neg (by simp), if_pos hlong]
                    have hl' : (1500 : Int) < u.length := by omega
                    clear hlong
                    go_wp2_with fail
                    refine (rfails_any _ _ w7).mono ?_
                    rintro e9 w9 ⟨rfl, hb9⟩
                    have HT9 := Lib.hid (blk_below hb9 HT7.out)
                    go_wp2_with (refine wpList_store_row rfl 94 (.tmp 4) (.tmp 102) rfl (w.heap.size + 1) (stC 0 0 0 [] [] none 0 0 ((k : Int) + 1) 34) rfl rfl 94 zeroSt HT9.out (by kernel_rfl) rfl (stC_one _ _ _ _ _ _ _ _ _ _) ?_)
                    try simp only [Exit.inBlock, Exit.then]
                    refine bodyPost_ret (results_cell_row Try.results92 _ _ (w.heap.size + 1) 94 (stC 0 0 0 [] [] none 0 0 ((k : Int) + 1) 34) (0, 0) _ rfl (setRow_heap _ _ _ _ _ _ HT9.out) Try.underlying94 rfl (by kernel_rfl)) rfl ?_
                    rw [HV.out]
                    refine ⟨below_stored ((HB7.out).trans (hb9.mono (HB7.out).size)) (Nat.le_succ _) _, ?_⟩
                    show _ = Ending.returned (.agg (stC 0 0 0 [] [] none 0 0 ((p + (n.length + 1) : Nat) : Int) 34))
                    rw [show p + (n.length + 1) = k + 1 by have := HPD.out; omega]
                    rfl
                  · have HV : Hid (V = .ok ⟨n, u⟩ (n.length + 2 + t.length + 1)) := by show _ = _; rw [hVU.out, if_neg (by simp), if_neg hlong]
                    have hl' : (u.length : Int) ≤ 1500 := by omega
                    clear hlong
                    have z5 : w7.cell? ⟨w.heap.size, 5, none⟩ = some (.slice A l.length c) := by rw [cell_of_row HX7.out]; rfl
                    have HA7 : Hid (AttrsAt w7 w7.heap.size A l) := (HA.out.below HB7.out).more HB7.out.size
                    obtain ⟨M, hM⟩ : ∃ M, Hid (insA ⟨n, u⟩ l = M) := ⟨_, rfl⟩
                    go_wp2_with fail
                    refine (rwith_any l A c ⟨n, u⟩ w7 HA7.out hl M hM).mono ?_
                    rintro e w8 ⟨hb8, A8, c8, rfl, hA8⟩
                    have HX8 := Lib.hid (blk_below hb8 HX7.out)
                    have HT8 := Lib.hid (blk_below hb8 HT7.out)
                    have HB8 : Hid (Below w.heap.size w w8) := HB7.out.trans (hb8.mono HB7.out.size)
                    have y0 : w8.cell? ⟨w.heap.size, 0, none⟩ = some (.int .i64 p) := by rw [cell_of_row HX8.out]; rfl
                    have y1 : w8.cell? ⟨w.heap.size, 1, none⟩ = some (.int .i64 kind) := by rw [cell_of_row HX8.out]; rfl
                    have y2 : w8.cell? ⟨w.heap.size, 2, none⟩ = some (.int .i64 tat) := by rw [cell_of_row HX8.out]; rfl
                    have y3 : w8.cell? ⟨w.heap.size, 3, none⟩ = some (.string ⟨name.toArray⟩) := by rw [cell_of_row HX8.out]; rfl
                    have y4 : w8.cell? ⟨w.heap.size, 4, none⟩ = some (.string ⟨text.toArray⟩) := by rw [cell_of_row HX8.out]; rfl
                    have y5 : w8.cell? ⟨w.heap.size, 5, none⟩ = some (.slice A l.length c) := by rw [cell_of_row HX8.out]; rfl
                    have y6 : w8.cell? ⟨w.heap.size, 6, none⟩ = some (.int .i64 0) := by rw [cell_of_row HX8.out]; rfl
                    have y7 : w8.cell? ⟨w.heap.size, 7, none⟩ = some (.int .i64 0) := by rw [cell_of_row HX8.out]; rfl
                    have f0 : w8.frozen? ⟨w.heap.size, 0, none⟩ = false := frozen_of_row w8 w.heap.size 0 _ _ HX8.out
                    have f5 : w8.frozen? ⟨w.heap.size, 5, none⟩ = false := frozen_of_row w8 w.heap.size 5 _ _ HX8.out
                    have HA8 := Lib.hid hA8
                    have HB78 := Lib.hid hb8
                    have HTF : Hid (((w8.setCell ⟨w.heap.size, 5, none⟩ (.slice A8 M.length c8)).setCell ⟨w.heap.size, 0, none⟩ (.int .i64 ((q : Int) + 1))).heap[w.heap.size + 1]? = some (.cells zeroSt 94 (0, 0))) := by
                      have hlt : w.heap.size + 1 < w8.heap.size := (Array.getElem?_eq_some_iff.1 HT8.out).1
                      have g := Lib.grownBy_setB (Lib.grownBy_setCell w8 w.heap.size 5 (.slice A8 M.length c8)) 0 (.int .i64 ((q : Int) + 1))
                      exact (g.block (w.heap.size + 1) hlt (fun e => by injection e with e; omega)).trans HT8.out
                    clear hA8 hb8 z5
                    go_wp2_with (refine wpList_store_row rfl 94 (.tmp 4) (.tmp 115) rfl (w.heap.size + 1) (stC ((q : Int) + 1) kind tat name text A8 M.length c8 0 0) rfl rfl 94 zeroSt HTF.out (by kernel_rfl) rfl (stC_one _ _ _ _ _ _ _ _ _ _) ?_)
                    try simp only [Exit.inBlock, Exit.then]
                    refine bodyPost_ret (results_cell_row Try.results92 _ _ (w.heap.size + 1) 94 (stC ((q : Int) + 1) kind tat name text A8 M.length c8 0 0) (0, 0) _ rfl (setRow_heap _ _ _ _ _ _ HTF.out) Try.underlying94 rfl (by kernel_rfl)) rfl ?_
                    rw [HV.out]
                    refine ⟨below_stored ((HB8.out.setCell (Nat.le_refl _) _).setCell (Nat.le_refl _) _) (Nat.le_succ _) _, A8, c8, ?_, ?_⟩
                    · show _ = Ending.returned (.agg (stC ((p + (n.length + 2 + t.length + 1) : Nat) : Int) kind tat name text A8 (insA ⟨n, u⟩ l).length c8 0 0))
                      rw [show p + (n.length + 2 + t.length + 1) = q + 1 by have := HPD.out; have := hq.out; omega, hM.out]
                      rfl
                    · show AttrsOwn _ _ A8 c8 (insA ⟨n, u⟩ l)
                      rw [hM.out]
                      have hz : w.heap.size + 1 < w7.heap.size := (Array.getElem?_eq_some_iff.1 HT7.out).1
                      have h1 : AttrsOwn ((w8.setCell ⟨w.heap.size, 5, none⟩ (.slice A8 M.length c8)).setCell ⟨w.heap.size, 0, none⟩ (.int .i64 ((q : Int) + 1))) w7.heap.size A8 c8 M :=
                        World.ownsRow.kept HA8.out (Lib.grownBy_setB (Lib.grownBy_setCell w8 w.heap.size 5 _) 0 _) (by
                          cases hvv : (Value.slice A8 M.length c8).ownBlock with
                          | none => exact .inl rfl
                          | some g =>
                            refine .inr fun e => ?_
                            injection e with e
                            have := (own_type HA8.out g hvv).1
                            omega)
                      exact row_base (row_setRow h1 (by omega) _) (by omega)
                · have he1 : (er != 0) = true := by simpa using he
                  have HV : Hid (V = .bad (n.length + 2 + mm) er) := by show _ = _; rw [hVU.out, if_pos he]
                  clear he
                  go_wp2_with fail
                  refine (rfails_any _ _ w7).mono ?_
                  rintro e9 w9 ⟨rfl, hb9⟩
                  have HT9 := Lib.hid (blk_below hb9 HT7.out)
                  go_wp2_with (refine wpList_store_row rfl 94 (.tmp 4) (.tmp 96) rfl (w.heap.size + 1) (stC 0 0 0 [] [] none 0 0 ((k : Int) + 2 + mm) er) rfl rfl 94 zeroSt HT9.out (by kernel_rfl) rfl (stC_one _ _ _ _ _ _ _ _ _ _) ?_)
                  try simp only [Exit.inBlock, Exit.then]
                  refine bodyPost_ret (results_cell_row Try.results92 _ _ (w.heap.size + 1) 94 (stC 0 0 0 [] [] none 0 0 ((k : Int) + 2 + mm) er) (0, 0) _ rfl (setRow_heap _ _ _ _ _ _ HT9.out) Try.underlying94 rfl (by kernel_rfl)) rfl ?_
                  rw [HV.out]
                  refine ⟨below_stored ((HB7.out).trans (hb9.mono (HB7.out).size)) (Nat.le_succ _) _, ?_⟩
                  show _ = Ending.returned (.agg (stC 0 0 0 [] [] none 0 0 ((p + (n.length + 2 + mm) : Nat) : Int) er))
                  rw [show p + (n.length + 2 + mm) = k + 2 + mm by have := HPD.out; omega]
                  rfl
end Go.Proofs.Ythifddkmbjnncaa

/-
  The document's reader of tokens: the walk of begin.
-/
namespace Go.Proofs.Ythifddkmbjnncaa
open Go.RowKit

theorem attrL_sort (l : List UInt8) (bs : List AttrD) : attrL l (sortA bs) = attrL l bs := by
  have h1 : (sortA bs).length = bs.length := (sortA_perm bs).length_eq
  have h2 : ∀ n, (sortA bs).any (fun a => decide (a.name = n)) = bs.any (fun a => decide (a.name = n)) := fun n => by
    rw [Bool.eq_iff_iff, List.any_eq_true, List.any_eq_true]
    constructor
    · rintro ⟨a, ha, hp⟩; exact ⟨a, (sortA_perm bs).mem_iff.1 ha, hp⟩
    · rintro ⟨a, ha, hp⟩; exact ⟨a, (sortA_perm bs).mem_iff.2 ha, hp⟩
  unfold attrL
  simp only [h1, h2]
theorem sortA_len' (l : List AttrD) : (sortA l).length = l.length := (sortA_perm l).length_eq

theorem blk_old {w w' : World} {B g : Nat} {o : Obj} (h : Below B w w') (hg : g < B) (ho : w.heap[g]? = some o) : w'.heap[g]? = some o := by rw [h.block g hg]; exact ho

/-- a state in a block -/
def StAt (w : World) (g : Nat) (cs : Array Value) : Prop := w.heap[g]? = some (.cells cs 94 (0, 0))
theorem StAt.cells {w : World} {g : Nat} {at_ kind tat : Int} {name text : List UInt8} {A : Option Addr} {n c : Nat} {bad e : Int} (h : StAt w g (stC at_ kind tat name text A n c bad e)) :
    w.cell? ⟨g, 0, none⟩ = some (.int .i64 at_) ∧ w.cell? ⟨g, 1, none⟩ = some (.int .i64 kind) ∧ w.cell? ⟨g, 2, none⟩ = some (.int .i64 tat) ∧ w.cell? ⟨g, 3, none⟩ = some (.string ⟨name.toArray⟩) ∧ w.cell? ⟨g, 4, none⟩ = some (.string ⟨text.toArray⟩) ∧ w.cell? ⟨g, 5, none⟩ = some (.slice A n c) ∧ w.cell? ⟨g, 6, none⟩ = some (.int .i64 bad) ∧ w.cell? ⟨g, 7, none⟩ = some (.int .i64 e) ∧ (∀ j, w.frozen? ⟨g, j, none⟩ = false) := by
  refine ⟨?_, ?_, ?_, ?_, ?_, ?_, ?_, ?_, fun j => frozen_of_row w g j _ _ h⟩ <;> (rw [cell_of_row h]; rfl)
theorem StAt.set {w : World} {g : Nat} {cs cs' : Array Value} (h : StAt w g cs) : StAt (w.setRow g cs') g cs' := setRow_heap _ _ _ _ _ _ h






set_option maxRecDepth 100000 in
set_option maxHeartbeats 8000000 in
theorem rbegin_any (s : ByteArray) (p : Nat) (w : World) (hp : p + 1 ≤ s.size) (hs : s.size ≤ 1000000000) (V : Told TokD) (hV : Hid (beginT (s.data.toList.drop (p + 1)) = V)) :
    Calls Try.prog 64 #[.string s, .int .i64 p] w (StPost w (p + 1) p V) := by
  have HL := Lib.hid (size_toList s)
  obtain ⟨n, hn⟩ : ∃ n, Hid (wordL (s.data.toList.drop (p + 1)) = n) := ⟨_, rfl⟩
  obtain ⟨v, hv⟩ : ∃ v, Hid (nameL n = v) := ⟨_, rfl⟩
  obtain ⟨k, hk⟩ : ∃ k, Hid (p + 1 + n.length = k) := ⟨_, rfl⟩
  have hkl : k ≤ s.size := by
    have := wordL_len (s.data.toList.drop (p + 1))
    rw [hn.out, List.length_drop, HL.out] at this
    have := hk.out
    omega
  have hword : Hid (p + 1 + (wordL (s.data.toList.drop (p + 1))).length = k) := by show _ = _; rw [hn.out]; exact hk.out
  have hx : (s.extract (p + 1) k).data.toList = n := by
    rw [Lib.extract_data]
    have h2 := span_word (s.data.toList.drop (p + 1)) nb
    have e : (s.data.toList.drop (p + 1)).takeWhile nb = n := hn.out
    rw [e] at h2
    rw [show k - (p + 1) = n.length by have := hk.out; omega]
    conv => lhs; rw [h2]
    rw [List.take_append_of_le_length (Nat.le_refl _), List.take_length]
  have hxe : Hid (s.extract (p + 1) k = ⟨n.toArray⟩) := by
    show _ = _
    rw [← hx]
  have hnl : n.length ≤ 1000000000 := by have := hk.out; omega
  have i0 : (0 : Int) ≤ (p : Int) := by omega
  have i1 : (p : Int) + 1 ≤ k := by have := hk.out; omega
  have i2 : (k : Int) ≤ s.size := by omega
  have i3 : (p : Int) + 1 ≤ s.size := by omega
  clear hx
  go_enter Try.func64, Try.ntmps64
  go_wp2_with fail
  obtain ⟨W1, hW1⟩ : ∃ W1, Hid (W1 = w.alloc (.cells zeroSt 94)) := ⟨_, rfl⟩
  change Calls _ _ _ (w.alloc (.cells zeroSt 94)) _
  rw [← hW1.out]
  have hb1 : Below w.heap.size w W1 := by rw [hW1.out]; exact (Below.refl _ w).alloc (Nat.le_refl _) _
  have HT1 : Hid (W1.heap[w.heap.size]? = some (.cells zeroSt 94 (0, 0))) := by show _ = _; rw [hW1.out]; exact heap_alloc_new w _
  refine (rword_any s (p + 1) W1 hp hs k hword).mono ?_
  rintro e w2 ⟨rfl, hb2⟩
  go_wp2_with fail
  rw [hxe.out]
  refine (RName_l n w2 hnl v hv).mono ?_
  rintro e w3 ⟨rfl, hb3⟩
  have HT3 := Lib.hid (blk_below hb3 (blk_below hb2 HT1.out))
  have HB3 : Hid (Below w.heap.size w w3) := hb1.trans ((hb2.trans (hb3.mono hb2.size)).mono hb1.size)
  clear hb1 hb2 hb3
  cases v with
  | false =>
    have HV : Hid (V = .bad 0 31) := by
      show _ = _
      rw [← hV.out]
      unfold beginT
      simp only [hn.out, hv.out]
      rw [if_pos trivial]
    go_wp2_with fail
    refine (rfails_any _ 31 w3).mono ?_
    rintro e w4 ⟨rfl, hb4⟩
    have HT4 := Lib.hid (blk_below hb4 HT3.out)
    go_wp2_with (refine wpList_store_row rfl 94 (.tmp 4) (.tmp 21) rfl w.heap.size (stC 0 0 0 [] [] none 0 0 ((p : Int) + 1) 31) rfl rfl 94 zeroSt HT4.out (by kernel_rfl) rfl (stC_one _ _ _ _ _ _ _ _ _ _) ?_)
    try simp only [Exit.inBlock, Exit.then]
    refine bodyPost_ret (results_cell_row Try.results64 _ _ w.heap.size 94 (stC 0 0 0 [] [] none 0 0 ((p : Int) + 1) 31) (0, 0) _ rfl (setRow_heap _ _ _ _ _ _ HT4.out) Try.underlying94 rfl (by kernel_rfl)) rfl ?_
    rw [HV.out]
    exact ⟨below_stored (HB3.out.trans (hb4.mono HB3.out.size)) (Nat.le_refl _) _, rfl⟩
  | true =>
    have hVE : Hid (V = match attrsL (s.data.toList.drop k) [] with | .bad k e => .bad (n.length + k) e | .ok q k => .ok ⟨q.1, n, [], sortA q.2⟩ (n.length + k)) := by
      show _ = _
      rw [← hV.out]
      unfold beginT
      simp only [hn.out, hv.out]
      rw [if_neg (by decide), List.drop_drop, hk.out]
      unfold attrsL
      rw [attrsF_more ((s.data.toList.drop (p + 1)).length + 1) (s.data.toList.drop k) [] ((s.data.toList.drop k).length + 1) (by simp only [List.length_drop]; have := hk.out; omega) (by omega)]
      cases attrsF ((s.data.toList.drop k).length + 1) (s.data.toList.drop k) [] <;> rfl
    obtain ⟨R, hR0⟩ : ∃ R, Hid (attrsL (s.data.toList.drop k) [] = R) := ⟨_, rfl⟩
    rw [hR0.out] at hVE
    have hxe' := hxe.out
    go_wp2_with fail
    obtain ⟨W4, hW4⟩ : ∃ W4, Hid (W4 = w3.alloc (.cells (stC k 0 p n [] none 0 0 0 0) 94)) := ⟨_, rfl⟩
    change Code.wp _ _ _ _ (w3.alloc (.cells (stC k 0 p n [] none 0 0 0 0) 94))
    rw [← hW4.out]
    have HX4 : Hid (StAt W4 w3.heap.size (stC k 0 p n [] none 0 0 0 0)) := by show StAt _ _ _; rw [hW4.out]; exact heap_alloc_new w3 _
    have HBW4 : Hid (Below w3.heap.size w3 W4) := by show Below _ _ _; rw [hW4.out]; exact (Below.refl _ w3).alloc (Nat.le_refl _) _
    obtain ⟨g6, hg6⟩ : ∃ g6, Hid (g6 = w3.heap.size) := ⟨_, rfl⟩
    rw [← hg6.out] at HX4 HBW4 ⊢
    have hwg : w.heap.size < g6 := by rw [hg6.out]; exact (Array.getElem?_eq_some_iff.1 HT3.out).1
    have HT4 := Lib.hid (blk_old HBW4.out hwg HT3.out)
    have HB4 : Hid (Below w.heap.size w W4) := HB3.out.trans (HBW4.out.mono (Nat.le_of_lt hwg))
    clear hxe'
    go_loopg [] (s.size - k) (fun gg wr => ∃ (pos : Nat) (bs : List AttrD) (A : Option Addr) (c : Nat), k ≤ pos ∧ pos ≤ s.size ∧ gg = s.size - pos ∧ Hid (StAt wr g6 (stC pos 0 p n [] A (sortA bs).length c 0 0)) ∧ Hid (AttrsOwn wr (g6 + 1) A c (sortA bs)) ∧ Hid (AttrsFine bs) ∧ Hid (Below g6 W4 wr) ∧ Hid ((attrsL (s.data.toList.drop pos) bs).past (pos - k) = R))
    case atStart => exact ⟨k, [], none, 0, Nat.le_refl _, hkl, rfl, HX4.out, World.ownsRow_nil _ _ _ _, attrsFine_nil, Below.refl _ _, by show _ = _; rw [hR0.out, Nat.sub_self, Told.past_zero]⟩
    case round =>
      obtain ⟨pos, bs, A, c, hkp, hps, rfl, HX, HA, hfine, hbel, hin⟩ := hrel
      obtain ⟨b, hb⟩ : ∃ b, Hid (skipL (s.data.toList.drop pos) = b) := ⟨_, rfl⟩
      obtain ⟨j, hj⟩ : ∃ j, Hid (pos + b = j) := ⟨_, rfl⟩
      have hjl : j ≤ s.size := by
        have := skipL_len (s.data.toList.drop pos)
        rw [hb.out, List.length_drop, HL.out] at this
        have := hj.out
        omega
      have hskip : Hid (pos + skipL (s.data.toList.drop pos) = j) := by show _ = _; rw [hb.out]; exact hj.out
      obtain ⟨m1, hm1⟩ : ∃ m1, Hid (pre [62] (s.data.toList.drop j) = m1) := ⟨_, rfl⟩
      obtain ⟨m2, hm2⟩ : ∃ m2, Hid (pre [47, 62] (s.data.toList.drop j) = m2) := ⟨_, rfl⟩
      have hdj : Hid ((s.data.toList.drop pos).drop b = s.data.toList.drop j) := by show _ = _; rw [List.drop_drop, hj.out]
      obtain ⟨z0, z1, z2, z3, z4, z5, z6, z7, zf⟩ := HX.out.cells
      have HTr : Hid (wr.heap[w.heap.size]? = some (.cells zeroSt 94 (0, 0))) := blk_old hbel.out hwg HT4.out
      have j0 : (j : Int) ≤ s.size := by omega
      go_wp2_with fail
      refine (rskip_any s pos wr hps hs j hskip).mono ?_
      rintro e w5 ⟨rfl, hb5⟩
      have HX5 : Hid (StAt w5 g6 (stC pos 0 p n [] A (sortA bs).length c 0 0)) := blk_below hb5 HX.out
      have HT5 := Lib.hid (blk_below hb5 HTr.out)
      have HA5 := Lib.hid (own_below HA.out hb5)
      have HB5 : Hid (Below g6 W4 w5) := hbel.out.trans (hb5.mono (Nat.le_of_lt (Array.getElem?_eq_some_iff.1 HX.out).1))
      clear hb5 z0 z1 z2 z3 z4 z5 z6 z7 zf
      go_wp2_with fail
      refine (there_any s j [62] w5 hjl hs (by decide) m1 hm1).mono ?_
      rintro e w6 ⟨rfl, hb6⟩
      have HX6 : Hid (StAt w6 g6 (stC pos 0 p n [] A (sortA bs).length c 0 0)) := blk_below hb6 HX5.out
      have HT6 := Lib.hid (blk_below hb6 HT5.out)
      have HA6 := Lib.hid (own_below HA5.out hb6)
      have HB6 : Hid (Below g6 W4 w6) := HB5.out.trans (hb6.mono (Nat.le_of_lt (Array.getElem?_eq_some_iff.1 HX5.out).1))
      clear hb6
      cases m1 with
      | true =>
        have HV : Hid (V = .ok ⟨1, n, [], sortA bs⟩ (n.length + (pos - k + (b + 1)))) := by
          show _ = _
          rw [hVE.out, ← hin.out, attrsL_one _ _ b hb.out.symm (by rw [hdj.out]; exact hm1.out)]
          rfl
        obtain ⟨z0, z1, z2, z3, z4, z5, z6, z7, zf⟩ := HX6.out.cells
        have f0 := zf 0
        have f1 := zf 1
        have HTF : Hid (((w6.setCell ⟨g6, 1, none⟩ (.int .i64 1)).setCell ⟨g6, 0, none⟩ (.int .i64 ((j : Int) + 1))).heap[w.heap.size]? = some (.cells zeroSt 94 (0, 0))) := by
          have g := Lib.grownBy_setB (Lib.grownBy_setCell w6 g6 1 (.int .i64 1)) 0 (.int .i64 ((j : Int) + 1))
          exact (g.block w.heap.size (Array.getElem?_eq_some_iff.1 HT6.out).1 (fun e => by injection e with e; omega)).trans HT6.out
        go_wp2_with (refine wpList_store_row rfl 94 (.tmp 4) (.tmp 43) rfl w.heap.size (stC ((j : Int) + 1) 1 p n [] A (sortA bs).length c 0 0) rfl rfl 94 zeroSt HTF.out (by kernel_rfl) rfl (stC_one _ _ _ _ _ _ _ _ _ _) ?_)
        try simp only [Exit.inBlock, Exit.then]
        refine bodyPost_ret (results_cell_row Try.results64 _ _ w.heap.size 94 (stC ((j : Int) + 1) 1 p n [] A (sortA bs).length c 0 0) (0, 0) _ rfl (setRow_heap _ _ _ _ _ _ HTF.out) Try.underlying94 rfl (by kernel_rfl)) rfl ?_
        rw [HV.out]
        refine ⟨below_stored (((HB4.out.trans (HB6.out.mono (Nat.le_of_lt hwg))).setCell (Nat.le_of_lt hwg) _).setCell (Nat.le_of_lt hwg) _) (Nat.le_refl _) _, A, c, ?_, ?_⟩
        · rw [show p + 1 + (n.length + (pos - k + (b + 1))) = j + 1 by have := hj.out; have := hk.out; omega]
          rfl
        · have h1 : AttrsOwn ((w6.setCell ⟨g6, 1, none⟩ (.int .i64 1)).setCell ⟨g6, 0, none⟩ (.int .i64 ((j : Int) + 1))) (g6 + 1) A c (sortA bs) :=
            World.ownsRow.kept HA6.out (Lib.grownBy_setB (Lib.grownBy_setCell w6 g6 1 _) 0 _) (by
              cases hvv : (Value.slice A (sortA bs).length c).ownBlock with
              | none => exact .inl rfl
              | some g =>
                refine .inr fun e => ?_
                injection e with e
                have := (own_type HA6.out g hvv).1
                omega)
          exact row_base (row_setRow h1 (by omega) _) (by omega)
      | false =>
        go_wp2_with fail
        refine (there_any s j [47, 62] w6 hjl hs (by decide) m2 hm2).mono ?_
        rintro e w7 ⟨rfl, hb7⟩
        have HX7 : Hid (StAt w7 g6 (stC pos 0 p n [] A (sortA bs).length c 0 0)) := blk_below hb7 HX6.out
        have HT7 := Lib.hid (blk_below hb7 HT6.out)
        have HA7 := Lib.hid (own_below HA6.out hb7)
        have HB7 : Hid (Below g6 W4 w7) := HB6.out.trans (hb7.mono (Nat.le_of_lt (Array.getElem?_eq_some_iff.1 HX6.out).1))
        clear hb7
        cases m2 with
        | true =>
          have HV : Hid (V = .ok ⟨3, n, [], sortA bs⟩ (n.length + (pos - k + (b + 2)))) := by
            show _ = _
            rw [hVE.out, ← hin.out, attrsL_two _ _ b hb.out.symm (by rw [hdj.out]; exact hm1.out) (by rw [hdj.out]; exact hm2.out)]
            rfl
          obtain ⟨z0, z1, z2, z3, z4, z5, z6, z7, zf⟩ := HX7.out.cells
          have f0 := zf 0
          have f1 := zf 1
          have HTF : Hid (((w7.setCell ⟨g6, 1, none⟩ (.int .i64 3)).setCell ⟨g6, 0, none⟩ (.int .i64 ((j : Int) + 2))).heap[w.heap.size]? = some (.cells zeroSt 94 (0, 0))) := by
            have g := Lib.grownBy_setB (Lib.grownBy_setCell w7 g6 1 (.int .i64 3)) 0 (.int .i64 ((j : Int) + 2))
            exact (g.block w.heap.size (Array.getElem?_eq_some_iff.1 HT7.out).1 (fun e => by injection e with e; omega)).trans HT7.out
          go_wp2_with (refine wpList_store_row rfl 94 (.tmp 4) (.tmp 52) rfl w.heap.size (stC ((j : Int) + 2) 3 p n [] A (sortA bs).length c 0 0) rfl rfl 94 zeroSt HTF.out (by kernel_rfl) rfl (stC_one _ _ _ _ _ _ _ _ _ _) ?_)
          try simp only [Exit.inBlock, Exit.then]
          refine bodyPost_ret (results_cell_row Try.results64 _ _ w.heap.size 94 (stC ((j : Int) + 2) 3 p n [] A (sortA bs).length c 0 0) (0, 0) _ rfl (setRow_heap _ _ _ _ _ _ HTF.out) Try.underlying94 rfl (by kernel_rfl)) rfl ?_
          rw [HV.out]
          refine ⟨below_stored (((HB4.out.trans (HB7.out.mono (Nat.le_of_lt hwg))).setCell (Nat.le_of_lt hwg) _).setCell (Nat.le_of_lt hwg) _) (Nat.le_refl _) _, A, c, ?_, ?_⟩
          · rw [show p + 1 + (n.length + (pos - k + (b + 2))) = j + 2 by have := hj.out; have := hk.out; omega]
            rfl
          · have h1 : AttrsOwn ((w7.setCell ⟨g6, 1, none⟩ (.int .i64 3)).setCell ⟨g6, 0, none⟩ (.int .i64 ((j : Int) + 2))) (g6 + 1) A c (sortA bs) :=
              World.ownsRow.kept HA7.out (Lib.grownBy_setB (Lib.grownBy_setCell w7 g6 1 _) 0 _) (by
                cases hvv : (Value.slice A (sortA bs).length c).ownBlock with
                | none => exact .inl rfl
                | some g =>
                  refine .inr fun e => ?_
                  injection e with e
                  have := (own_type HA7.out g hvv).1
                  omega)
            exact row_base (row_setRow h1 (by omega) _) (by omega)
        | false =>
          obtain ⟨z0, z1, z2, z3, z4, z5, z6, z7, zf⟩ := HX7.out.cells
          have f0 := zf 0
          have hd1 : Hid (pre [62] ((s.data.toList.drop pos).drop b) = false) := by show _ = _; rw [hdj.out]; exact hm1.out
          have hd2 : Hid (pre [47, 62] ((s.data.toList.drop pos).drop b) = false) := by show _ = _; rw [hdj.out]; exact hm2.out
          by_cases hb0 : b = 0
          · have t0 : ((j : Int) == (pos : Int)) = true := by have := hj.out; simp; omega
            have HV : Hid (V = .bad (n.length + (pos - k + b)) 30) := by
              show _ = _
              rw [hVE.out, ← hin.out, attrsL_form _ _ b hb.out.symm hd1.out hd2.out (.inl hb0)]
              rfl
            clear hb0
            go_wp2_with fail
            refine (rfails_any _ 30 w7).mono ?_
            rintro e w9 ⟨rfl, hb9⟩
            have HT9 := Lib.hid (blk_below hb9 HT7.out)
            go_wp2_with (refine wpList_store_row rfl 94 (.tmp 4) (.tmp 64) rfl w.heap.size (stC 0 0 0 [] [] none 0 0 (j : Int) 30) rfl rfl 94 zeroSt HT9.out (by kernel_rfl) rfl (stC_one _ _ _ _ _ _ _ _ _ _) ?_)
            try simp only [Exit.inBlock, Exit.then]
            refine bodyPost_ret (results_cell_row Try.results64 _ _ w.heap.size 94 (stC 0 0 0 [] [] none 0 0 (j : Int) 30) (0, 0) _ rfl (setRow_heap _ _ _ _ _ _ HT9.out) Try.underlying94 rfl (by kernel_rfl)) rfl ?_
            rw [HV.out]
            refine ⟨below_stored ((HB4.out.trans (HB7.out.mono (Nat.le_of_lt hwg))).trans (hb9.mono (HB4.out.trans (HB7.out.mono (Nat.le_of_lt hwg))).size)) (Nat.le_refl _) _, ?_⟩
            show _ = Ending.returned (.agg (stC 0 0 0 [] [] none 0 0 ((p + 1 + (n.length + (pos - k + b)) : Nat) : Int) 30))
            rw [show p + 1 + (n.length + (pos - k + b)) = j by have := hj.out; have := hk.out; omega]
          · have t0 : ((j : Int) == (pos : Int)) = false := beq_eq_false_iff_ne.2 (by have := hj.out; omega)
            by_cases hend : j = s.size
            · have hxe2 : (s.size : Int) ≤ (j : Int) := by omega
              have HV : Hid (V = .bad (n.length + (pos - k + b)) 30) := by
                show _ = _
                rw [hVE.out, ← hin.out, attrsL_form _ _ b hb.out.symm hd1.out hd2.out (.inr (by rw [hdj.out]; exact List.drop_eq_nil_of_le (by rw [HL.out]; omega)))]
                rfl
              clear hb0 hend
              go_wp2_with fail
              refine (rfails_any _ 30 w7).mono ?_
              rintro e w9 ⟨rfl, hb9⟩
              have HT9 := Lib.hid (blk_below hb9 HT7.out)
              go_wp2_with (refine wpList_store_row rfl 94 (.tmp 4) (.tmp 64) rfl w.heap.size (stC 0 0 0 [] [] none 0 0 (j : Int) 30) rfl rfl 94 zeroSt HT9.out (by kernel_rfl) rfl (stC_one _ _ _ _ _ _ _ _ _ _) ?_)
              try simp only [Exit.inBlock, Exit.then]
              refine bodyPost_ret (results_cell_row Try.results64 _ _ w.heap.size 94 (stC 0 0 0 [] [] none 0 0 (j : Int) 30) (0, 0) _ rfl (setRow_heap _ _ _ _ _ _ HT9.out) Try.underlying94 rfl (by kernel_rfl)) rfl ?_
              rw [HV.out]
              refine ⟨below_stored ((HB4.out.trans (HB7.out.mono (Nat.le_of_lt hwg))).trans (hb9.mono (HB4.out.trans (HB7.out.mono (Nat.le_of_lt hwg))).size)) (Nat.le_refl _) _, ?_⟩
              show _ = Ending.returned (.agg (stC 0 0 0 [] [] none 0 0 ((p + 1 + (n.length + (pos - k + b)) : Nat) : Int) 30))
              rw [show p + 1 + (n.length + (pos - k + b)) = j by have := hj.out; have := hk.out; omega]
            · have hxe2 : (j : Int) < (s.size : Int) := by omega
              have hb0' := Lib.hid hb0
              have hxn : Hid (s.data.toList.drop j ≠ []) := by
                show _ ≠ _
                intro e
                have := congrArg List.length e
                rw [List.length_drop, HL.out] at this
                simp at this; omega
              obtain ⟨V', hV'⟩ : ∃ V', Hid (attrL (s.data.toList.drop j) bs = V') := ⟨_, rfl⟩
              have hV2 : Hid (attrL (s.data.toList.drop j) (sortA bs) = V') := by show _ = _; rw [attrL_sort]; exact hV'.out
              obtain ⟨W8, hW8⟩ : ∃ W8, Hid (W8 = w7.setCell ⟨g6, 0, none⟩ (.int .i64 j)) := ⟨_, rfl⟩
              have HX8 : Hid (StAt W8 g6 (stC j 0 p n [] A (sortA bs).length c 0 0)) := by show StAt _ _ _; rw [hW8.out]; exact Lib.heap_setCell_same (i := 0) HX7.out _
              have hgr8 : w7.grownBy W8 (some g6) := by rw [hW8.out]; exact Lib.grownBy_setCell w7 g6 0 _
              have HT8 : Hid (W8.heap[w.heap.size]? = some (.cells zeroSt 94 (0, 0))) := (hgr8.block w.heap.size (Array.getElem?_eq_some_iff.1 HT7.out).1 (fun e => by injection e with e; omega)).trans HT7.out
              have HA8 : Hid (AttrsOwn W8 (g6 + 1) A c (sortA bs)) := World.ownsRow.kept HA7.out hgr8 (by
                cases hvv : (Value.slice A (sortA bs).length c).ownBlock with
                | none => exact .inl rfl
                | some g =>
                  refine .inr fun e => ?_
                  injection e with e
                  have := (own_type HA7.out g hvv).1
                  omega)
              have hg68 : g6 < W8.heap.size := (Array.getElem?_eq_some_iff.1 HX8.out).1
              have HB8 : Hid (Below g6 W4 W8) := by show Below _ _ _; rw [hW8.out]; exact HB7.out.setCell (Nat.le_refl _) _
              have hmany : (sortA bs).length ≤ 1000 := by rw [sortA_len']; have := hfine.out.many; omega
              clear hb0 hend hgr8
              go_wp2_with fail
              rw [← hW8.out]
              refine (rattr_any s j 0 p n [] A c (sortA bs) W8 hjl hs (AttrsOwn.at HA8.out) hmany V' hV2).mono ?_
              rintro e w9 ⟨hb9, hpost⟩
              have HX9 : Hid (StAt w9 g6 (stC j 0 p n [] A (sortA bs).length c 0 0)) := blk_below hb9 HX8.out
              have HT9 := Lib.hid (blk_below hb9 HT8.out)
              have HB9 : Hid (Below g6 W4 w9) := HB8.out.trans (hb9.mono (Nat.le_of_lt hg68))
              cases V' with
              | bad k' er =>
                obtain rfl := hpost
                have hwit := attrL_within (s.data.toList.drop j) bs
                rw [hV'.out] at hwit
                have her : (er != 0) = true := by simpa using hwit.2
                have HV : Hid (V = .bad (n.length + (pos - k + (b + k'))) er) := by
                  show _ = _
                  rw [hVE.out, ← hin.out, attrsL_bad _ _ b hb.out.symm hd1.out hd2.out hb0'.out (by rw [hdj.out]; exact hxn.out) k' er (by rw [hdj.out]; exact hV'.out)]
                  rfl
                have HXN : Hid (StAt (w9.setRow g6 (stC 0 0 0 [] [] none 0 0 ((j : Int) + k') er)) g6 (stC 0 0 0 [] [] none 0 0 ((j : Int) + k') er)) := StAt.set HX9.out
                obtain ⟨q0, q1, q2, q3, q4, q5, q6, q7, _⟩ := HXN.out.cells
                have HTN : Hid ((w9.setRow g6 (stC 0 0 0 [] [] none 0 0 ((j : Int) + k') er)).heap[w.heap.size]? = some (.cells zeroSt 94 (0, 0))) := (setRow_other _ _ _ _ (by omega)).trans HT9.out
                clear z0 z1 z2 z3 z4 z5 z6 z7 zf f0 hwit
                go_wp2_with (first | (refine wpList_store_row rfl 94 (.tmp 6) (.tmp 69) rfl g6 (stC 0 0 0 [] [] none 0 0 ((j : Int) + k') er) rfl rfl 94 (stC j 0 p n [] A (sortA bs).length c 0 0) HX9.out (by kernel_rfl) rfl (stC_one _ _ _ _ _ _ _ _ _ _) ?_) | (refine wpList_store_row rfl 94 (.tmp 4) (.tmp 73) rfl w.heap.size (stC 0 0 0 [] [] none 0 0 ((j : Int) + k') er) rfl rfl 94 zeroSt HTN.out (by kernel_rfl) rfl (stC_one _ _ _ _ _ _ _ _ _ _) ?_))
                try simp only [Exit.inBlock, Exit.then]
                refine bodyPost_ret (results_cell_row Try.results64 _ _ w.heap.size 94 (stC 0 0 0 [] [] none 0 0 ((j : Int) + k') er) (0, 0) _ rfl (setRow_heap _ _ _ _ _ _ HTN.out) Try.underlying94 rfl (by kernel_rfl)) rfl ?_
                rw [HV.out]
                refine ⟨below_stored (below_stored (HB4.out.trans (HB9.out.mono (Nat.le_of_lt hwg))) (Nat.le_of_lt hwg) _) (Nat.le_refl _) _, ?_⟩
                show _ = Ending.returned (.agg (stC 0 0 0 [] [] none 0 0 ((p + 1 + (n.length + (pos - k + (b + k'))) : Nat) : Int) er))
                rw [show p + 1 + (n.length + (pos - k + (b + k'))) = j + k' by have := hj.out; have := hk.out; omega]
                rfl
              | ok a m =>
                obtain ⟨A', c', rfl, hA9⟩ := hpost
                have hwit := attrL_within (s.data.toList.drop j) bs
                rw [hV'.out, List.length_drop, HL.out] at hwit
                obtain ⟨hm3, hmx⟩ := hwit
                have HIN : Hid ((attrsL (s.data.toList.drop (j + m)) (bs ++ [a])).past (j + m - k) = R) := by
                  show _ = _
                  rw [← hin.out, attrsL_step _ _ b hb.out.symm hd1.out hd2.out hb0'.out (by rw [hdj.out]; exact hxn.out) a m (by rw [hdj.out]; exact hV'.out), Told.past_past, List.drop_drop, show pos + (b + m) = j + m by have := hj.out; omega, show pos - k + (b + m) = j + m - k by have := hj.out; omega]
                have hsn := sortA_snoc bs a
                rw [← hsn] at hA9 ⊢
                have HXN : Hid (StAt (w9.setRow g6 (stC ((j : Int) + m) 0 p n [] A' (sortA (bs ++ [a])).length c' 0 0)) g6 (stC ((j : Int) + m) 0 p n [] A' (sortA (bs ++ [a])).length c' 0 0)) := StAt.set HX9.out
                obtain ⟨q0, q1, q2, q3, q4, q5, q6, q7, _⟩ := HXN.out.cells
                have HA9 := Lib.hid hA9
                clear z0 z1 z2 z3 z4 z5 z6 z7 zf f0 hA9 hsn
                go_wp2_with (refine wpList_store_row rfl 94 (.tmp 6) (.tmp 69) rfl g6 (stC ((j : Int) + m) 0 p n [] A' (sortA (bs ++ [a])).length c' 0 0) rfl rfl 94 (stC j 0 p n [] A (sortA bs).length c 0 0) HX9.out (by kernel_rfl) rfl (stC_one _ _ _ _ _ _ _ _ _ _) ?_)
                go_roundg (s.size - (j + m))
                case measure => have := hj.out; omega
                case rel => exact ⟨j + m, bs ++ [a], A', c', by have := hj.out; omega, by omega, rfl, (show StAt _ g6 (stC ((j + m : Nat) : Int) 0 p n [] A' (sortA (bs ++ [a])).length c' 0 0) from by rw [show ((j + m : Nat) : Int) = (j : Int) + m by omega]; exact HXN.out), row_base (row_setRow HA9.out (by omega) _) (by omega), attrsFine_snoc hfine.out hV'.out, below_stored HB9.out (Nat.le_refl _) _, HIN.out⟩
end Go.Proofs.Ythifddkmbjnncaa

/-
  The document's One walked.
-/
namespace Go.Proofs.Ythifddkmbjnncaa
open Go.RowKit


set_option maxRecDepth 100000 in
set_option maxHeartbeats 8000000 in
theorem ROne_any (s : ByteArray) (p : Nat) (w : World) (hp : p < s.size) (hs : s.size ≤ 1000000000) (V : Told TokD) (hV : Hid (oneT (s.data.toList.drop p) = V)) :
    Calls Try.prog 38 #[.string s, .int .i64 p] w (OnePost w p V) := by
  have HL := Lib.hid (size_toList s)
  have i0 : (0 : Int) ≤ (p : Int) := by omega
  have i1 : (p : Int) < s.size := by omega
  obtain ⟨m1, hm1⟩ : ∃ m1, Hid (pre [60, 47] (s.data.toList.drop p) = m1) := ⟨_, rfl⟩
  obtain ⟨m2, hm2⟩ : ∃ m2, Hid (pre [60] (s.data.toList.drop p) = m2) := ⟨_, rfl⟩
  obtain ⟨y, HY⟩ : ∃ y, Hid (s.data.toList[p]? = some y) := ⟨s.data.toList[p]'(by have := HL.out; omega), List.getElem?_eq_getElem _⟩
  have hsy : s[p] = y := getk_of s p y HY.out hp
  have hy60 : Hid ((y == 60) = m2) := by
    show _ = _
    rw [← hm2.out, drop_cons HY.out]
    simp [pre]
  go_enter Try.func38, Try.ntmps38
  go_wp2_with fail
  obtain ⟨W1, hW1⟩ : ∃ W1, Hid (W1 = (w.alloc (.cells zeroTok 33)).alloc (.cells zeroSt 94)) := ⟨_, rfl⟩
  change Calls _ _ _ ((w.alloc (.cells zeroTok 33)).alloc (.cells zeroSt 94)) _
  rw [← hW1.out]
  have hb1 : Below w.heap.size w W1 := by rw [hW1.out]; exact ((Below.refl _ w).alloc (Nat.le_refl _) _).alloc (by simp) _
  have HT1 : Hid (W1.heap[w.heap.size]? = some (.cells zeroTok 33 (0, 0))) := by show _ = _; rw [hW1.out]; exact heap_alloc2_old _ _ _
  have HX1 : Hid (StAt W1 (w.heap.size + 1) zeroSt) := by show StAt _ _ _; rw [hW1.out]; exact heap_alloc2_new _ _ _
  refine (there_any s p [60, 47] W1 (Nat.le_of_lt hp) hs (by decide) m1 hm1).mono ?_
  rintro e w2 ⟨rfl, hb2⟩
  have HT2 := Lib.hid (blk_below hb2 HT1.out)
  have HX2 : Hid (StAt w2 (w.heap.size + 1) zeroSt) := blk_below hb2 HX1.out
  have hz2 : w.heap.size + 2 ≤ w2.heap.size := (Array.getElem?_eq_some_iff.1 HX2.out).1
  cases m1 with
  | true =>
    obtain ⟨V', hV'⟩ : ∃ V', Hid (endT (s.data.toList.drop (p + 2)) = V') := ⟨_, rfl⟩
    have hVE : Hid (V = V'.past 2) := by
      show _ = _
      rw [← hV.out]
      unfold oneT
      rw [hm1.out, if_pos rfl, List.drop_drop, hV'.out]
    have hp2 : p + 2 ≤ s.size := by have := pre_len hm1.out; rw [List.length_drop, HL.out] at this; simp at this; omega
    have hwit := endT_within (s.data.toList.drop (p + 2))
    go_wp2_with fail
    refine (rend_any s p w2 hp2 hs V' hV').mono ?_
    rintro e w4 ⟨hb4, hpost⟩
    have hbw : Below w.heap.size W1 w4 := (hb2.trans (hb4.mono hb2.size)).mono hb1.size
    have HT4 := Lib.hid (blk_below hb4 HT2.out)
    have HX4 : Hid (StAt w4 (w.heap.size + 1) zeroSt) := blk_below hb4 HX2.out
    have hz4 := hz2
    cases V' with
    | bad k c =>
      obtain rfl := hpost
      have HV : Hid (V = .bad (2 + k) c) := hVE.out
      have hcn : (c != 0) = true := by have := hwit; rw [hV'.out] at this; simpa using this.2
      have HXN : Hid (StAt (w4.setRow (w.heap.size + 1) (stC 0 0 0 [] [] none 0 0 (p + 2 + k : Nat) c)) (w.heap.size + 1) (stC 0 0 0 [] [] none 0 0 (p + 2 + k : Nat) c)) := StAt.set HX4.out
      obtain ⟨x, hx⟩ : ∃ x : Nat, Hid (p + 2 + k = x) := ⟨_, rfl⟩
      have HXN2 := HXN.out
      rw [hx.out] at HXN2
      have HTN : Hid ((w4.setRow (w.heap.size + 1) (stC 0 0 0 [] [] none 0 0 x c)).drew.heap[w.heap.size]? = some (.cells zeroTok 33 (0, 0))) := (setRow_other _ _ _ _ (by omega)).trans HT4.out
      rw [hx.out]
      obtain ⟨q0, q1, q2, q3, q4, q5, q6, q7, _⟩ := HXN2.cells
      clear HXN HXN2 hwit
      go_wp2_with (refine wpList_store_row rfl 94 (.tmp 8) (.tmp 24) rfl (w.heap.size + 1) (stC 0 0 0 [] [] none 0 0 x c) rfl rfl 94 zeroSt HX4.out (by kernel_rfl) rfl (stC_one _ _ _ _ _ _ _ _ _ _) ?_)
      refine wp_region_held_drew (S := fun w' => w'.cell? ⟨w.heap.size + 1, 6, none⟩ = some (.int .i64 x) ∧ w'.cell? ⟨w.heap.size + 1, 7, none⟩ = some (.int .i64 c)) (by kernel_rfl) ⟨q6, q7⟩ (fun hHeld => ?_)
      refine tks (oi := ⟨_, _, _, _, _, _⟩) (v := ?_) 0 rfl (.inl ⟨by rfl, ?_⟩) ?_; rotate_left
      · (intro wS hSw; (try dsimp only at hSw); go_simp); all_goals with_reducible rfl
      try go_frame
      refine tks (oi := ⟨_, _, _, _, _, _⟩) (v := ?_) 1 rfl (.inl ⟨by rfl, ?_⟩) ?_; rotate_left
      · (intro wS hSw; (try dsimp only at hSw); go_simp); all_goals with_reducible rfl
      try go_frame
      refine tks (oi := ⟨_, _, _, _, _, _⟩) (v := ?_) 2 rfl (.inl ⟨by rfl, ?_⟩) ?_; rotate_left
      · (intro wS hSw; (try dsimp only at hSw); go_simp); all_goals with_reducible rfl
      try go_frame
      refine tks (oi := ⟨_, _, _, _, _, _⟩) (v := ?_) 3 rfl (.inl ⟨by rfl, ?_⟩) ?_; rotate_left
      · (intro wS hSw; (try dsimp only at hSw); go_simp); all_goals with_reducible rfl
      try go_frame
      refine tks (oi := ⟨_, _, _, _, _, _⟩) (v := ?_) 4 rfl (.inl ⟨by rfl, ?_⟩) ?_; rotate_left
      · (intro wS hSw; (try dsimp only at hSw); go_simp); all_goals with_reducible rfl
      try go_frame
      refine wpAnyH_ready (rs := [5]) (by kernel_rfl) (by simp) ?_
      refine AllReadyH.cons (o := ⟨_, _, _, _, _, _⟩) rfl (fun K hK => ?_) AllReadyH.nil
      refine wp_store_row 33 (.tmp 4) (.tmp 38) rfl w.heap.size zeroTok rfl rfl 33 zeroTok HTN.out (by kernel_rfl) rfl zeroTok_one ?_
      refine hK.out _ _ (⟨(cell_setRow_other _ _ _ _ (Nat.succ_ne_self _)).trans q6, (cell_setRow_other _ _ _ _ (Nat.succ_ne_self _)).trans q7⟩) (fun hHeld => ?_)
      clear hK K
      try go_frame
      refine tks (oi := ⟨_, _, _, _, _, _⟩) (v := ?_) 6 rfl (.inl ⟨by rfl, ?_⟩) ?_; rotate_left
      · (intro wS hSw; (try dsimp only at hSw); go_simp); all_goals with_reducible rfl
      try go_frame
      refine tks (oi := ⟨_, _, _, _, _, _⟩) (v := ?_) 7 rfl (.inl ⟨by rfl, ?_⟩) ?_; rotate_left
      · (intro wS hSw; (try dsimp only at hSw); go_simp); all_goals with_reducible rfl
      try go_frame
      refine tks (oi := ⟨_, _, _, _, _, _⟩) (v := ?_) 8 rfl (.inl ⟨by rfl, ?_⟩) ?_; rotate_left
      · (intro wS hSw; (try dsimp only at hSw); go_simp); all_goals with_reducible rfl
      try go_frame
      refine wpAnyH_done (by kernel_rfl) ?_ _
      clear hHeld
      go_wp2_with fail
      try simp only [Exit.inBlock, Exit.then]
      refine bodyPost_ret (results_cell3 Try.results38 _ _ w.heap.size 33 zeroTok (0, 0) _ rfl (setRow_heap _ _ _ _ _ _ HTN.out) Try.underlying33 rfl (by kernel_rfl)) rfl ?_
      rw [HV.out]
      refine ⟨below_row ((below_row (hb1.trans hbw) (Nat.le_succ _) _).drew) (Nat.le_refl _) _, ?_⟩
      show _ = Ending.returned (.tuple #[.agg zeroTok, .int .i64 0, .int .i64 (p + (2 + k) : Nat), .int .i64 c])
      rw [show p + (2 + k) = x by have := hx.out; omega]
      rfl
    | ok t n =>
      obtain ⟨A, c, rfl, hA4⟩ := hpost
      have HV : Hid (V = .ok t (2 + n)) := hVE.out
      obtain ⟨x, hx⟩ : ∃ x : Nat, Hid (p + 2 + n = x) := ⟨_, rfl⟩
      have HXN : Hid (StAt (w4.setRow (w.heap.size + 1) (stC x t.kind p t.name t.text A t.attrs.length c 0 0)) (w.heap.size + 1) (stC x t.kind p t.name t.text A t.attrs.length c 0 0)) := StAt.set HX4.out
      have HTN : Hid ((w4.setRow (w.heap.size + 1) (stC x t.kind p t.name t.text A t.attrs.length c 0 0)).drew.heap[w.heap.size]? = some (.cells zeroTok 33 (0, 0))) := (setRow_other _ _ _ _ (by omega)).trans HT4.out
      rw [hx.out]
      obtain ⟨q0, q1, q2, q3, q4, q5, q6, q7, _⟩ := HXN.out.cells
      have HA4 : Hid (AttrsOwn (w4.setRow (w.heap.size + 1) (stC x t.kind p t.name t.text A t.attrs.length c 0 0)).drew (w.heap.size + 2) A c t.attrs) := row_setRow (row_base hA4 hz4) (by omega) _
      clear hA4 hwit
      go_wp2_with (refine wpList_store_row rfl 94 (.tmp 8) (.tmp 24) rfl (w.heap.size + 1) (stC x t.kind p t.name t.text A t.attrs.length c 0 0) rfl rfl 94 zeroSt HX4.out (by kernel_rfl) rfl (stC_one _ _ _ _ _ _ _ _ _ _) ?_)
      refine wp_region_held_drew (S := fun w' => w'.cell? ⟨w.heap.size + 1, 0, none⟩ = some (.int .i64 x) ∧ w'.cell? ⟨w.heap.size + 1, 1, none⟩ = some (.int .i64 t.kind) ∧ w'.cell? ⟨w.heap.size + 1, 2, none⟩ = some (.int .i64 p) ∧ w'.cell? ⟨w.heap.size + 1, 3, none⟩ = some (.string ⟨t.name.toArray⟩) ∧ w'.cell? ⟨w.heap.size + 1, 4, none⟩ = some (.string ⟨t.text.toArray⟩) ∧ w'.cell? ⟨w.heap.size + 1, 5, none⟩ = some (.slice A t.attrs.length c)) (by kernel_rfl) ⟨q0, q1, q2, q3, q4, q5⟩ (fun hHeld => ?_)
      refine tks (oi := ⟨_, _, _, _, _, _⟩) (v := ?_) 0 rfl (.inl ⟨by rfl, ?_⟩) ?_; rotate_left
      · (intro wS hSw; (try dsimp only at hSw); go_simp); all_goals with_reducible rfl
      try go_frame
      refine tks (oi := ⟨_, _, _, _, _, _⟩) (v := ?_) 1 rfl (.inl ⟨by rfl, ?_⟩) ?_; rotate_left
      · (intro wS hSw; (try dsimp only at hSw); go_simp); all_goals with_reducible rfl
      try go_frame
      refine tks (oi := ⟨_, _, _, _, _, _⟩) (v := ?_) 2 rfl (.inl ⟨by rfl, ?_⟩) ?_; rotate_left
      · (intro wS hSw; (try dsimp only at hSw); go_simp); all_goals with_reducible rfl
      try go_frame
      refine tks (oi := ⟨_, _, _, _, _, _⟩) (v := ?_) 3 rfl (.inl ⟨by rfl, ?_⟩) ?_; rotate_left
      · (intro wS hSw; (try dsimp only at hSw); go_simp); all_goals with_reducible rfl
      try go_frame
      refine wpAnyH_ready (rs := [4]) (by kernel_rfl) (by simp) ?_
      refine AllReadyH.cons (o := ⟨_, _, _, _, _, _⟩) rfl (fun K hK => ?_) AllReadyH.nil
      refine wp_store_row 33 (.tmp 4) (.tmp 44) rfl w.heap.size (tokC p t A c) rfl rfl 33 zeroTok HTN.out (by kernel_rfl) rfl (tokC_one _ _ _ _) ?_
      have hoth : ∀ j, ((w4.setRow (w.heap.size + 1) (stC x t.kind p t.name t.text A t.attrs.length c 0 0)).drew.setRow w.heap.size (tokC p t A c)).cell? ⟨w.heap.size + 1, j, none⟩ = (w4.setRow (w.heap.size + 1) (stC x t.kind p t.name t.text A t.attrs.length c 0 0)).drew.cell? ⟨w.heap.size + 1, j, none⟩ := fun j => cell_setRow_other _ _ _ _ (Nat.succ_ne_self _)
      refine hK.out _ _ (⟨(hoth 0).trans q0, (hoth 1).trans q1, (hoth 2).trans q2, (hoth 3).trans q3, (hoth 4).trans q4, (hoth 5).trans q5⟩) (fun hHeld => ?_)
      clear hK K
      try go_frame
      refine tks (oi := ⟨_, _, _, _, _, _⟩) (v := ?_) 5 rfl (.inl ⟨by rfl, ?_⟩) ?_; rotate_left
      · (intro wS hSw; (try dsimp only at hSw); go_simp); all_goals with_reducible rfl
      try go_frame
      refine tks (oi := ⟨_, _, _, _, _, _⟩) (v := ?_) 6 rfl (.inl ⟨by rfl, ?_⟩) ?_; rotate_left
      · (intro wS hSw; (try dsimp only at hSw); go_simp); all_goals with_reducible rfl
      try go_frame
      refine tks (oi := ⟨_, _, _, _, _, _⟩) (v := ?_) 7 rfl (.inl ⟨by rfl, ?_⟩) ?_; rotate_left
      · (intro wS hSw; (try dsimp only at hSw); go_simp); all_goals with_reducible rfl
      try go_frame
      refine wpAnyH_done (by kernel_rfl) ?_ _
      clear hHeld hoth
      go_wp2_with fail
      try simp only [Exit.inBlock, Exit.then]
      refine bodyPost_ret (results_cell3 Try.results38 _ _ w.heap.size 33 (tokC p t A c) (0, 0) _ rfl (setRow_heap _ _ _ _ _ _ HTN.out) Try.underlying33 rfl (by kernel_rfl)) rfl ?_
      rw [HV.out]
      refine ⟨below_row ((below_row (hb1.trans hbw) (Nat.le_succ _) _).drew) (Nat.le_refl _) _, A, c, ?_, row_base (row_setRow HA4.out (by omega) _) (by omega)⟩
      rw [show p + (2 + n) = x by have := hx.out; omega]
      rfl
  | false =>
    cases m2 with
    | true =>
      have hyy : y = 60 := eq_of_beq hy60.out
      subst hyy
      obtain ⟨V', hV'⟩ : ∃ V', Hid (beginT (s.data.toList.drop (p + 1)) = V') := ⟨_, rfl⟩
      have hVE : Hid (V = V'.past 1) := by
        show _ = _
        rw [← hV.out]
        unfold oneT
        rw [hm1.out, if_neg (by decide), hm2.out, if_pos rfl, List.drop_drop, hV'.out]
      have hwit := beginT_within (s.data.toList.drop (p + 1))
      go_wp2_with fail
      refine (rbegin_any s p w2 hp hs V' hV').mono ?_
      rintro e w4 ⟨hb4, hpost⟩
      have hbw : Below w.heap.size W1 w4 := (hb2.trans (hb4.mono hb2.size)).mono hb1.size
      have HT4 := Lib.hid (blk_below hb4 HT2.out)
      have HX4 : Hid (StAt w4 (w.heap.size + 1) zeroSt) := blk_below hb4 HX2.out
      have hz4 := hz2
      cases V' with
      | bad k c =>
        obtain rfl := hpost
        have HV : Hid (V = .bad (1 + k) c) := hVE.out
        have hcn : (c != 0) = true := by have := hwit; rw [hV'.out] at this; simpa using this.2
        have HXN : Hid (StAt (w4.setRow (w.heap.size + 1) (stC 0 0 0 [] [] none 0 0 (p + 1 + k : Nat) c)) (w.heap.size + 1) (stC 0 0 0 [] [] none 0 0 (p + 1 + k : Nat) c)) := StAt.set HX4.out
        obtain ⟨x, hx⟩ : ∃ x : Nat, Hid (p + 1 + k = x) := ⟨_, rfl⟩
        have HXN2 := HXN.out
        rw [hx.out] at HXN2
        have HTN : Hid ((w4.setRow (w.heap.size + 1) (stC 0 0 0 [] [] none 0 0 x c)).drew.heap[w.heap.size]? = some (.cells zeroTok 33 (0, 0))) := (setRow_other _ _ _ _ (by omega)).trans HT4.out
        rw [hx.out]
        obtain ⟨q0, q1, q2, q3, q4, q5, q6, q7, _⟩ := HXN2.cells
        clear HXN HXN2 hwit
        go_wp2_with (refine wpList_store_row rfl 94 (.tmp 8) (.tmp 31) rfl (w.heap.size + 1) (stC 0 0 0 [] [] none 0 0 x c) rfl rfl 94 zeroSt HX4.out (by kernel_rfl) rfl (stC_one _ _ _ _ _ _ _ _ _ _) ?_)
        refine wp_region_held_drew (S := fun w' => w'.cell? ⟨w.heap.size + 1, 6, none⟩ = some (.int .i64 x) ∧ w'.cell? ⟨w.heap.size + 1, 7, none⟩ = some (.int .i64 c)) (by kernel_rfl) ⟨q6, q7⟩ (fun hHeld => ?_)
        refine tks (oi := ⟨_, _, _, _, _, _⟩) (v := ?_) 0 rfl (.inl ⟨by rfl, ?_⟩) ?_; rotate_left
        · (intro wS hSw; (try dsimp only at hSw); go_simp); all_goals with_reducible rfl
        try go_frame
        refine tks (oi := ⟨_, _, _, _, _, _⟩) (v := ?_) 1 rfl (.inl ⟨by rfl, ?_⟩) ?_; rotate_left
        · (intro wS hSw; (try dsimp only at hSw); go_simp); all_goals with_reducible rfl
        try go_frame
        refine tks (oi := ⟨_, _, _, _, _, _⟩) (v := ?_) 2 rfl (.inl ⟨by rfl, ?_⟩) ?_; rotate_left
        · (intro wS hSw; (try dsimp only at hSw); go_simp); all_goals with_reducible rfl
        try go_frame
        refine tks (oi := ⟨_, _, _, _, _, _⟩) (v := ?_) 3 rfl (.inl ⟨by rfl, ?_⟩) ?_; rotate_left
        · (intro wS hSw; (try dsimp only at hSw); go_simp); all_goals with_reducible rfl
        try go_frame
        refine tks (oi := ⟨_, _, _, _, _, _⟩) (v := ?_) 4 rfl (.inl ⟨by rfl, ?_⟩) ?_; rotate_left
        · (intro wS hSw; (try dsimp only at hSw); go_simp); all_goals with_reducible rfl
        try go_frame
        refine wpAnyH_ready (rs := [5]) (by kernel_rfl) (by simp) ?_
        refine AllReadyH.cons (o := ⟨_, _, _, _, _, _⟩) rfl (fun K hK => ?_) AllReadyH.nil
        refine wp_store_row 33 (.tmp 4) (.tmp 38) rfl w.heap.size zeroTok rfl rfl 33 zeroTok HTN.out (by kernel_rfl) rfl zeroTok_one ?_
        refine hK.out _ _ (⟨(cell_setRow_other _ _ _ _ (Nat.succ_ne_self _)).trans q6, (cell_setRow_other _ _ _ _ (Nat.succ_ne_self _)).trans q7⟩) (fun hHeld => ?_)
        clear hK K
        try go_frame
        refine tks (oi := ⟨_, _, _, _, _, _⟩) (v := ?_) 6 rfl (.inl ⟨by rfl, ?_⟩) ?_; rotate_left
        · (intro wS hSw; (try dsimp only at hSw); go_simp); all_goals with_reducible rfl
        try go_frame
        refine tks (oi := ⟨_, _, _, _, _, _⟩) (v := ?_) 7 rfl (.inl ⟨by rfl, ?_⟩) ?_; rotate_left
        · (intro wS hSw; (try dsimp only at hSw); go_simp); all_goals with_reducible rfl
        try go_frame
        refine tks (oi := ⟨_, _, _, _, _, _⟩) (v := ?_) 8 rfl (.inl ⟨by rfl, ?_⟩) ?_; rotate_left
        · (intro wS hSw; (try dsimp only at hSw); go_simp); all_goals with_reducible rfl
        try go_frame
        refine wpAnyH_done (by kernel_rfl) ?_ _
        clear hHeld
        go_wp2_with fail
        try simp only [Exit.inBlock, Exit.then]
        refine bodyPost_ret (results_cell3 Try.results38 _ _ w.heap.size 33 zeroTok (0, 0) _ rfl (setRow_heap _ _ _ _ _ _ HTN.out) Try.underlying33 rfl (by kernel_rfl)) rfl ?_
        rw [HV.out]
        refine ⟨below_row ((below_row (hb1.trans hbw) (Nat.le_succ _) _).drew) (Nat.le_refl _) _, ?_⟩
        show _ = Ending.returned (.tuple #[.agg zeroTok, .int .i64 0, .int .i64 (p + (1 + k) : Nat), .int .i64 c])
        rw [show p + (1 + k) = x by have := hx.out; omega]
        rfl
      | ok t n =>
        obtain ⟨A, c, rfl, hA4⟩ := hpost
        have HV : Hid (V = .ok t (1 + n)) := hVE.out
        obtain ⟨x, hx⟩ : ∃ x : Nat, Hid (p + 1 + n = x) := ⟨_, rfl⟩
        have HXN : Hid (StAt (w4.setRow (w.heap.size + 1) (stC x t.kind p t.name t.text A t.attrs.length c 0 0)) (w.heap.size + 1) (stC x t.kind p t.name t.text A t.attrs.length c 0 0)) := StAt.set HX4.out
        have HTN : Hid ((w4.setRow (w.heap.size + 1) (stC x t.kind p t.name t.text A t.attrs.length c 0 0)).drew.heap[w.heap.size]? = some (.cells zeroTok 33 (0, 0))) := (setRow_other _ _ _ _ (by omega)).trans HT4.out
        rw [hx.out]
        obtain ⟨q0, q1, q2, q3, q4, q5, q6, q7, _⟩ := HXN.out.cells
        have HA4 : Hid (AttrsOwn (w4.setRow (w.heap.size + 1) (stC x t.kind p t.name t.text A t.attrs.length c 0 0)).drew (w.heap.size + 2) A c t.attrs) := row_setRow (row_base hA4 hz4) (by omega) _
        clear hA4 hwit
        go_wp2_with (refine wpList_store_row rfl 94 (.tmp 8) (.tmp 31) rfl (w.heap.size + 1) (stC x t.kind p t.name t.text A t.attrs.length c 0 0) rfl rfl 94 zeroSt HX4.out (by kernel_rfl) rfl (stC_one _ _ _ _ _ _ _ _ _ _) ?_)
        refine wp_region_held_drew (S := fun w' => w'.cell? ⟨w.heap.size + 1, 0, none⟩ = some (.int .i64 x) ∧ w'.cell? ⟨w.heap.size + 1, 1, none⟩ = some (.int .i64 t.kind) ∧ w'.cell? ⟨w.heap.size + 1, 2, none⟩ = some (.int .i64 p) ∧ w'.cell? ⟨w.heap.size + 1, 3, none⟩ = some (.string ⟨t.name.toArray⟩) ∧ w'.cell? ⟨w.heap.size + 1, 4, none⟩ = some (.string ⟨t.text.toArray⟩) ∧ w'.cell? ⟨w.heap.size + 1, 5, none⟩ = some (.slice A t.attrs.length c)) (by kernel_rfl) ⟨q0, q1, q2, q3, q4, q5⟩ (fun hHeld => ?_)
        refine tks (oi := ⟨_, _, _, _, _, _⟩) (v := ?_) 0 rfl (.inl ⟨by rfl, ?_⟩) ?_; rotate_left
        · (intro wS hSw; (try dsimp only at hSw); go_simp); all_goals with_reducible rfl
        try go_frame
        refine tks (oi := ⟨_, _, _, _, _, _⟩) (v := ?_) 1 rfl (.inl ⟨by rfl, ?_⟩) ?_; rotate_left
        · (intro wS hSw; (try dsimp only at hSw); go_simp); all_goals with_reducible rfl
        try go_frame
        refine tks (oi := ⟨_, _, _, _, _, _⟩) (v := ?_) 2 rfl (.inl ⟨by rfl, ?_⟩) ?_; rotate_left
        · (intro wS hSw; (try dsimp only at hSw); go_simp); all_goals with_reducible rfl
        try go_frame
        refine tks (oi := ⟨_, _, _, _, _, _⟩) (v := ?_) 3 rfl (.inl ⟨by rfl, ?_⟩) ?_; rotate_left
        · (intro wS hSw; (try dsimp only at hSw); go_simp); all_goals with_reducible rfl
        try go_frame
        refine wpAnyH_ready (rs := [4]) (by kernel_rfl) (by simp) ?_
        refine AllReadyH.cons (o := ⟨_, _, _, _, _, _⟩) rfl (fun K hK => ?_) AllReadyH.nil
        refine wp_store_row 33 (.tmp 4) (.tmp 44) rfl w.heap.size (tokC p t A c) rfl rfl 33 zeroTok HTN.out (by kernel_rfl) rfl (tokC_one _ _ _ _) ?_
        have hoth : ∀ j, ((w4.setRow (w.heap.size + 1) (stC x t.kind p t.name t.text A t.attrs.length c 0 0)).drew.setRow w.heap.size (tokC p t A c)).cell? ⟨w.heap.size + 1, j, none⟩ = (w4.setRow (w.heap.size + 1) (stC x t.kind p t.name t.text A t.attrs.length c 0 0)).drew.cell? ⟨w.heap.size + 1, j, none⟩ := fun j => cell_setRow_other _ _ _ _ (Nat.succ_ne_self _)
        refine hK.out _ _ (⟨(hoth 0).trans q0, (hoth 1).trans q1, (hoth 2).trans q2, (hoth 3).trans q3, (hoth 4).trans q4, (hoth 5).trans q5⟩) (fun hHeld => ?_)
        clear hK K
        try go_frame
        refine tks (oi := ⟨_, _, _, _, _, _⟩) (v := ?_) 5 rfl (.inl ⟨by rfl, ?_⟩) ?_; rotate_left
        · (intro wS hSw; (try dsimp only at hSw); go_simp); all_goals with_reducible rfl
        try go_frame
        refine tks (oi := ⟨_, _, _, _, _, _⟩) (v := ?_) 6 rfl (.inl ⟨by rfl, ?_⟩) ?_; rotate_left
        · (intro wS hSw; (try dsimp only at hSw); go_simp); all_goals with_reducible rfl
        try go_frame
        refine tks (oi := ⟨_, _, _, _, _, _⟩) (v := ?_) 7 rfl (.inl ⟨by rfl, ?_⟩) ?_; rotate_left
        · (intro wS hSw; (try dsimp only at hSw); go_simp); all_goals with_reducible rfl
        try go_frame
        refine wpAnyH_done (by kernel_rfl) ?_ _
        clear hHeld hoth
        go_wp2_with fail
        try simp only [Exit.inBlock, Exit.then]
        refine bodyPost_ret (results_cell3 Try.results38 _ _ w.heap.size 33 (tokC p t A c) (0, 0) _ rfl (setRow_heap _ _ _ _ _ _ HTN.out) Try.underlying33 rfl (by kernel_rfl)) rfl ?_
        rw [HV.out]
        refine ⟨below_row ((below_row (hb1.trans hbw) (Nat.le_succ _) _).drew) (Nat.le_refl _) _, A, c, ?_, row_base (row_setRow HA4.out (by omega) _) (by omega)⟩
        rw [show p + (1 + n) = x by have := hx.out; omega]
        rfl
    | false =>
      have hne60 : y ≠ 60 := fun e => by
        have h := hy60.out
        rw [e] at h
        exact absurd h (by decide)
      have e60 : ((y.toNat : Int) == 60) = false := u8_ne hne60
      clear hne60
      obtain ⟨V', hV'⟩ : ∃ V', Hid (textT (s.data.toList.drop p) = V') := ⟨_, rfl⟩
      have hVE : Hid (V = V'.past 0) := by
        show _ = _
        rw [← hV.out, Told.past_zero, ← hV'.out]
        unfold oneT
        rw [hm1.out, if_neg (by decide), hm2.out, if_neg (by decide)]
      have hne : s.data.toList.drop p ≠ [] := by
        intro e
        have := congrArg List.length e
        rw [List.length_drop, HL.out] at this
        simp at this; omega
      have hwit := textT_within (s.data.toList.drop p) hne hm2.out
      clear hne
      go_wp2_with fail
      refine (rtext_any s p w2 (Nat.le_of_lt hp) hs V' hV').mono ?_
      rintro e w4 ⟨hb4, hpost⟩
      have hbw : Below w.heap.size W1 w4 := (hb2.trans (hb4.mono hb2.size)).mono hb1.size
      have HT4 := Lib.hid (blk_below hb4 HT2.out)
      have HX4 : Hid (StAt w4 (w.heap.size + 1) zeroSt) := blk_below hb4 HX2.out
      have hz4 := hz2
      cases V' with
      | bad k c =>
        obtain rfl := hpost
        have HV : Hid (V = .bad (0 + k) c) := hVE.out
        have hcn : (c != 0) = true := by have := hwit; rw [hV'.out] at this; simpa using this.2
        have HXN : Hid (StAt (w4.setRow (w.heap.size + 1) (stC 0 0 0 [] [] none 0 0 (p + k : Nat) c)) (w.heap.size + 1) (stC 0 0 0 [] [] none 0 0 (p + k : Nat) c)) := StAt.set HX4.out
        obtain ⟨x, hx⟩ : ∃ x : Nat, Hid (p + k = x) := ⟨_, rfl⟩
        have HXN2 := HXN.out
        rw [hx.out] at HXN2
        have HTN : Hid ((w4.setRow (w.heap.size + 1) (stC 0 0 0 [] [] none 0 0 x c)).drew.heap[w.heap.size]? = some (.cells zeroTok 33 (0, 0))) := (setRow_other _ _ _ _ (by omega)).trans HT4.out
        rw [hx.out]
        obtain ⟨q0, q1, q2, q3, q4, q5, q6, q7, _⟩ := HXN2.cells
        clear HXN HXN2 hwit
        go_wp2_with (refine wpList_store_row rfl 94 (.tmp 8) (.tmp 34) rfl (w.heap.size + 1) (stC 0 0 0 [] [] none 0 0 x c) rfl rfl 94 zeroSt HX4.out (by kernel_rfl) rfl (stC_one _ _ _ _ _ _ _ _ _ _) ?_)
        refine wp_region_held_drew (S := fun w' => w'.cell? ⟨w.heap.size + 1, 6, none⟩ = some (.int .i64 x) ∧ w'.cell? ⟨w.heap.size + 1, 7, none⟩ = some (.int .i64 c)) (by kernel_rfl) ⟨q6, q7⟩ (fun hHeld => ?_)
        refine tks (oi := ⟨_, _, _, _, _, _⟩) (v := ?_) 0 rfl (.inl ⟨by rfl, ?_⟩) ?_; rotate_left
        · (intro wS hSw; (try dsimp only at hSw); go_simp); all_goals with_reducible rfl
        try go_frame
        refine tks (oi := ⟨_, _, _, _, _, _⟩) (v := ?_) 1 rfl (.inl ⟨by rfl, ?_⟩) ?_; rotate_left
        · (intro wS hSw; (try dsimp only at hSw); go_simp); all_goals with_reducible rfl
        try go_frame
        refine tks (oi := ⟨_, _, _, _, _, _⟩) (v := ?_) 2 rfl (.inl ⟨by rfl, ?_⟩) ?_; rotate_left
        · (intro wS hSw; (try dsimp only at hSw); go_simp); all_goals with_reducible rfl
        try go_frame
        refine tks (oi := ⟨_, _, _, _, _, _⟩) (v := ?_) 3 rfl (.inl ⟨by rfl, ?_⟩) ?_; rotate_left
        · (intro wS hSw; (try dsimp only at hSw); go_simp); all_goals with_reducible rfl
        try go_frame
        refine tks (oi := ⟨_, _, _, _, _, _⟩) (v := ?_) 4 rfl (.inl ⟨by rfl, ?_⟩) ?_; rotate_left
        · (intro wS hSw; (try dsimp only at hSw); go_simp); all_goals with_reducible rfl
        try go_frame
        refine wpAnyH_ready (rs := [5]) (by kernel_rfl) (by simp) ?_
        refine AllReadyH.cons (o := ⟨_, _, _, _, _, _⟩) rfl (fun K hK => ?_) AllReadyH.nil
        refine wp_store_row 33 (.tmp 4) (.tmp 38) rfl w.heap.size zeroTok rfl rfl 33 zeroTok HTN.out (by kernel_rfl) rfl zeroTok_one ?_
        refine hK.out _ _ (⟨(cell_setRow_other _ _ _ _ (Nat.succ_ne_self _)).trans q6, (cell_setRow_other _ _ _ _ (Nat.succ_ne_self _)).trans q7⟩) (fun hHeld => ?_)
        clear hK K
        try go_frame
        refine tks (oi := ⟨_, _, _, _, _, _⟩) (v := ?_) 6 rfl (.inl ⟨by rfl, ?_⟩) ?_; rotate_left
        · (intro wS hSw; (try dsimp only at hSw); go_simp); all_goals with_reducible rfl
        try go_frame
        refine tks (oi := ⟨_, _, _, _, _, _⟩) (v := ?_) 7 rfl (.inl ⟨by rfl, ?_⟩) ?_; rotate_left
        · (intro wS hSw; (try dsimp only at hSw); go_simp); all_goals with_reducible rfl
        try go_frame
        refine tks (oi := ⟨_, _, _, _, _, _⟩) (v := ?_) 8 rfl (.inl ⟨by rfl, ?_⟩) ?_; rotate_left
        · (intro wS hSw; (try dsimp only at hSw); go_simp); all_goals with_reducible rfl
        try go_frame
        refine wpAnyH_done (by kernel_rfl) ?_ _
        clear hHeld
        go_wp2_with fail
        try simp only [Exit.inBlock, Exit.then]
        refine bodyPost_ret (results_cell3 Try.results38 _ _ w.heap.size 33 zeroTok (0, 0) _ rfl (setRow_heap _ _ _ _ _ _ HTN.out) Try.underlying33 rfl (by kernel_rfl)) rfl ?_
        rw [HV.out]
        refine ⟨below_row ((below_row (hb1.trans hbw) (Nat.le_succ _) _).drew) (Nat.le_refl _) _, ?_⟩
        show _ = Ending.returned (.tuple #[.agg zeroTok, .int .i64 0, .int .i64 (p + (0 + k) : Nat), .int .i64 c])
        rw [show p + (0 + k) = x by have := hx.out; omega]
        rfl
      | ok t n =>
        obtain ⟨A, c, rfl, hA4⟩ := hpost
        have HV : Hid (V = .ok t (0 + n)) := hVE.out
        obtain ⟨x, hx⟩ : ∃ x : Nat, Hid (p + n = x) := ⟨_, rfl⟩
        have HXN : Hid (StAt (w4.setRow (w.heap.size + 1) (stC x t.kind p t.name t.text A t.attrs.length c 0 0)) (w.heap.size + 1) (stC x t.kind p t.name t.text A t.attrs.length c 0 0)) := StAt.set HX4.out
        have HTN : Hid ((w4.setRow (w.heap.size + 1) (stC x t.kind p t.name t.text A t.attrs.length c 0 0)).drew.heap[w.heap.size]? = some (.cells zeroTok 33 (0, 0))) := (setRow_other _ _ _ _ (by omega)).trans HT4.out
        rw [hx.out]
        obtain ⟨q0, q1, q2, q3, q4, q5, q6, q7, _⟩ := HXN.out.cells
        have HA4 : Hid (AttrsOwn (w4.setRow (w.heap.size + 1) (stC x t.kind p t.name t.text A t.attrs.length c 0 0)).drew (w.heap.size + 2) A c t.attrs) := row_setRow (row_base hA4 hz4) (by omega) _
        clear hA4 hwit
        go_wp2_with (refine wpList_store_row rfl 94 (.tmp 8) (.tmp 34) rfl (w.heap.size + 1) (stC x t.kind p t.name t.text A t.attrs.length c 0 0) rfl rfl 94 zeroSt HX4.out (by kernel_rfl) rfl (stC_one _ _ _ _ _ _ _ _ _ _) ?_)
        refine wp_region_held_drew (S := fun w' => w'.cell? ⟨w.heap.size + 1, 0, none⟩ = some (.int .i64 x) ∧ w'.cell? ⟨w.heap.size + 1, 1, none⟩ = some (.int .i64 t.kind) ∧ w'.cell? ⟨w.heap.size + 1, 2, none⟩ = some (.int .i64 p) ∧ w'.cell? ⟨w.heap.size + 1, 3, none⟩ = some (.string ⟨t.name.toArray⟩) ∧ w'.cell? ⟨w.heap.size + 1, 4, none⟩ = some (.string ⟨t.text.toArray⟩) ∧ w'.cell? ⟨w.heap.size + 1, 5, none⟩ = some (.slice A t.attrs.length c)) (by kernel_rfl) ⟨q0, q1, q2, q3, q4, q5⟩ (fun hHeld => ?_)
        refine tks (oi := ⟨_, _, _, _, _, _⟩) (v := ?_) 0 rfl (.inl ⟨by rfl, ?_⟩) ?_; rotate_left
        · (intro wS hSw; (try dsimp only at hSw); go_simp); all_goals with_reducible rfl
        try go_frame
        refine tks (oi := ⟨_, _, _, _, _, _⟩) (v := ?_) 1 rfl (.inl ⟨by rfl, ?_⟩) ?_; rotate_left
        · (intro wS hSw; (try dsimp only at hSw); go_simp); all_goals with_reducible rfl
        try go_frame
        refine tks (oi := ⟨_, _, _, _, _, _⟩) (v := ?_) 2 rfl (.inl ⟨by rfl, ?_⟩) ?_; rotate_left
        · (intro wS hSw; (try dsimp only at hSw); go_simp); all_goals with_reducible rfl
        try go_frame
        refine tks (oi := ⟨_, _, _, _, _, _⟩) (v := ?_) 3 rfl (.inl ⟨by rfl, ?_⟩) ?_; rotate_left
        · (intro wS hSw; (try dsimp only at hSw); go_simp); all_goals with_reducible rfl
        try go_frame
        refine wpAnyH_ready (rs := [4]) (by kernel_rfl) (by simp) ?_
        refine AllReadyH.cons (o := ⟨_, _, _, _, _, _⟩) rfl (fun K hK => ?_) AllReadyH.nil
        refine wp_store_row 33 (.tmp 4) (.tmp 44) rfl w.heap.size (tokC p t A c) rfl rfl 33 zeroTok HTN.out (by kernel_rfl) rfl (tokC_one _ _ _ _) ?_
        have hoth : ∀ j, ((w4.setRow (w.heap.size + 1) (stC x t.kind p t.name t.text A t.attrs.length c 0 0)).drew.setRow w.heap.size (tokC p t A c)).cell? ⟨w.heap.size + 1, j, none⟩ = (w4.setRow (w.heap.size + 1) (stC x t.kind p t.name t.text A t.attrs.length c 0 0)).drew.cell? ⟨w.heap.size + 1, j, none⟩ := fun j => cell_setRow_other _ _ _ _ (Nat.succ_ne_self _)
        refine hK.out _ _ (⟨(hoth 0).trans q0, (hoth 1).trans q1, (hoth 2).trans q2, (hoth 3).trans q3, (hoth 4).trans q4, (hoth 5).trans q5⟩) (fun hHeld => ?_)
        clear hK K
        try go_frame
        refine tks (oi := ⟨_, _, _, _, _, _⟩) (v := ?_) 5 rfl (.inl ⟨by rfl, ?_⟩) ?_; rotate_left
        · (intro wS hSw; (try dsimp only at hSw); go_simp); all_goals with_reducible rfl
        try go_frame
        refine tks (oi := ⟨_, _, _, _, _, _⟩) (v := ?_) 6 rfl (.inl ⟨by rfl, ?_⟩) ?_; rotate_left
        · (intro wS hSw; (try dsimp only at hSw); go_simp); all_goals with_reducible rfl
        try go_frame
        refine tks (oi := ⟨_, _, _, _, _, _⟩) (v := ?_) 7 rfl (.inl ⟨by rfl, ?_⟩) ?_; rotate_left
        · (intro wS hSw; (try dsimp only at hSw); go_simp); all_goals with_reducible rfl
        try go_frame
        refine wpAnyH_done (by kernel_rfl) ?_ _
        clear hHeld hoth
        go_wp2_with fail
        try simp only [Exit.inBlock, Exit.then]
        refine bodyPost_ret (results_cell3 Try.results38 _ _ w.heap.size 33 (tokC p t A c) (0, 0) _ rfl (setRow_heap _ _ _ _ _ _ HTN.out) Try.underlying33 rfl (by kernel_rfl)) rfl ?_
        rw [HV.out]
        refine ⟨below_row ((below_row (hb1.trans hbw) (Nat.le_succ _) _).drew) (Nat.le_refl _) _, A, c, ?_, row_base (row_setRow HA4.out (by omega) _) (by omega)⟩
        rw [show p + (0 + n) = x by have := hx.out; omega]
        rfl
end Go.Proofs.Ythifddkmbjnncaa

/-
  The document's reader of documents: one token taken.
-/
namespace Go.Proofs.Ythifddkmbjnncaa
open Go.RowKit

structure RInv (w : World) (B : Nat) (S : List Slot) (IA : Option Addr) (Ic : Nat) (OA : Option Addr) (Oc : Nat) (items : List ItemD) (o : List (List UInt8)) : Prop where
  own : ItemsOwn w B IA Ic S
  attrs : ∀ s ∈ S, AttrsOwn w B s.2.1 s.2.2 s.1.attrs
  names : w.ownsRow B 9 1 (.slice OA o.length Oc) o.length (o.map strV)
  map : S.map (·.1) = items
theorem RInv.below {w w' : World} {B : Nat} {S : List Slot} {IA OA : Option Addr} {Ic Oc : Nat} {items : List ItemD} {o : List (List UInt8)} (h : RInv w B S IA Ic OA Oc items o) (hb : Below w.heap.size w w') : RInv w' B S IA Ic OA Oc items o :=
  ⟨own_keep h.own hb, fun s hs => own_keep (h.attrs s hs) hb, own_keep h.names hb, h.map⟩
theorem RInv.cut {w : World} {B : Nat} {S : List Slot} {IA OA : Option Addr} {Ic Oc : Nat} {items : List ItemD} {o : List (List UInt8)} (h : RInv w B S IA Ic OA Oc items o) (ho : o ≠ []) : RInv w B S IA Ic OA Oc items o.dropLast := by
  refine ⟨h.own, h.attrs, ⟨by simp, ?_⟩, h.map⟩
  rcases h.names.2 with ⟨h1, h2⟩ | ⟨g, cap, cur, h1, h2, h3, h4, h5, h6, h7⟩
  · exact absurd (List.eq_nil_of_length_eq_zero h2) ho
  · injection h1 with h1 _ h8
    refine .inr ⟨g, cap, cur, by rw [h1, h8, List.length_dropLast], h2, h3, by simp; omega, h5, h6, ?_⟩
    have := congrArg (List.take (o.length - 1)) h7
    rw [Nat.mul_one, List.take_take, Nat.min_eq_left (Nat.sub_le _ _)] at this
    rw [Nat.mul_one, List.length_dropLast, this, List.dropLast_eq_take, List.map_take]
theorem RInv.open {w : World} {B : Nat} {S : List Slot} {IA OA : Option Addr} {Ic Oc : Nat} {items : List ItemD} {o : List (List UInt8)} (h : RInv w B S IA Ic OA Oc items o) : OpenOwn w B OA Oc o := OpenOwn.own h.names

def ROneP (w : World) (B : Nat) (V : Int ⊕ (List ItemD × List (List UInt8))) (e : Ending) (w' : World) : Prop :=
  Below B w w' ∧ match V with
  | .inl c => ∃ u v, e = .returned (.tuple #[u, v, .int .i64 c])
  | .inr q => ∃ S IA Ic OA Oc, e = .returned (.tuple #[.slice IA S.length Ic, .slice OA q.2.length Oc, .int .i64 0]) ∧ RInv w' B S IA Ic OA Oc q.1 q.2


set_option maxRecDepth 100000 in
set_option maxHeartbeats 2000000 in
theorem rpclose_any (B : Nat) (items : List ItemD) (o : List (List UInt8)) (w : World) (S : List Slot) (IA OA : Option Addr) (Ic Oc : Nat) (h : RInv w B S IA Ic OA Oc items o) (hBw : B ≤ w.heap.size) (ho : o.length ≤ 1000000000) (t : TokD) (at_ : Int) (A : Option Addr) (c : Nat) (v : Bool) (hv : Hid (decide (o.getLast? = some t.name) = v)) :
    Calls Try.prog 49 #[.slice IA S.length Ic, .slice OA o.length Oc, .agg #[.int .i64 2, .int .i64 at_, .string ⟨t.name.toArray⟩, .string ⟨t.text.toArray⟩, .slice A t.attrs.length c]] w (ROneP w B (if v then .inr (items, o.dropLast) else .inl 41)) := by
  have HO := Lib.hid h.open
  obtain ⟨W1, hW1⟩ : ∃ W1, Hid (W1 = w.alloc (.cells #[.int .i64 2, .int .i64 at_, .string ⟨t.name.toArray⟩, .string ⟨t.text.toArray⟩, .slice A t.attrs.length c] 33)) := ⟨_, rfl⟩
  have hbW : Below w.heap.size w W1 := by rw [hW1.out]; exact (Below.refl _ w).alloc (Nat.le_refl _) _
  have y2 : W1.cell? ⟨w.heap.size, 2, none⟩ = some (.string ⟨t.name.toArray⟩) := by rw [hW1.out, World.cell?_alloc_at _ _ _ _ (by simp)]; rfl
  have HI1 := Lib.hid (RInv.below h hbW)
  by_cases h0 : o = []
  · subst h0
    have hv' : v = false := by rw [← hv.out]; simp
    subst hv'
    have HIh := Lib.hid h
    clear h
    simp only [List.length_nil]
    go_enter Try.func49, Try.ntmps49
    go_wp2_with fail
    rw [← hW1.out]
    refine wp_region_held_drew (S := fun _ => True) (by kernel_rfl) trivial (fun hHeld => ?_)
    refine tks (oi := ⟨_, _, _, _, _, _⟩) (v := ?_) 0 rfl (.inl ⟨by rfl, ?_⟩) ?_; rotate_left
    · (intro wS hSw; (try dsimp only at hSw); go_simp); all_goals with_reducible rfl
    try go_frame
    refine tks (oi := ⟨_, _, _, _, _, _⟩) (v := ?_) 1 rfl (.inl ⟨by rfl, ?_⟩) ?_; rotate_left
    · (intro wS hSw; (try dsimp only at hSw); go_simp); all_goals with_reducible rfl
    try go_frame
    refine tks (oi := ⟨_, _, _, _, _, _⟩) (v := ?_) 2 rfl (.inl ⟨by rfl, ?_⟩) ?_; rotate_left
    · (intro wS hSw; (try dsimp only at hSw); go_simp); all_goals with_reducible rfl
    try go_frame
    refine tks (oi := ⟨_, _, _, _, _, _⟩) (v := undef) 3 rfl (.inr ⟨by rfl, rfl⟩) ?_
    try go_frame
    refine tks (oi := ⟨_, _, _, _, _, _⟩) (v := undef) 4 rfl (.inr ⟨by rfl, rfl⟩) ?_
    try go_frame
    refine tks (oi := ⟨_, _, _, _, _, _⟩) (v := undef) 5 rfl (.inr ⟨by rfl, rfl⟩) ?_
    try go_frame
    refine tks (oi := ⟨_, _, _, _, _, _⟩) (v := undef) 6 rfl (.inr ⟨by rfl, rfl⟩) ?_
    try go_frame
    refine tks (oi := ⟨_, _, _, _, _, _⟩) (v := undef) 7 rfl (.inr ⟨by rfl, rfl⟩) ?_
    try go_frame
    refine tks (oi := ⟨_, _, _, _, _, _⟩) (v := undef) 8 rfl (.inr ⟨by rfl, rfl⟩) ?_
    try go_frame
    refine tks (oi := ⟨_, _, _, _, _, _⟩) (v := undef) 9 rfl (.inr ⟨by rfl, rfl⟩) ?_
    try go_frame
    refine tks (oi := ⟨_, _, _, _, _, _⟩) (v := undef) 10 rfl (.inr ⟨by rfl, rfl⟩) ?_
    try go_frame
    refine tks (oi := ⟨_, _, _, _, _, _⟩) (v := ?_) 11 rfl (.inl ⟨by rfl, ?_⟩) ?_; rotate_left
    · (intro wS hSw; (try dsimp only at hSw); go_simp); all_goals with_reducible rfl
    try go_frame
    refine wpAnyH_done (by kernel_rfl) ?_ _
    clear hHeld
    go_wp2_with fail
    go_ret3
    exact ⟨(hbW.mono hBw).drew, _, _, rfl⟩
  · obtain ⟨x, hx, hxl⟩ := get_last h0
    obtain ⟨g, rfl, hg, hcell⟩ := HO.out.last hx
    have hpos : 0 < o.length := List.length_pos_iff.2 h0
    have t0 : ((o.length : Int) == 0) = false := by simp; omega
    have hkw : IntKind.i64.wrap ((o.length : Int) - 1) = (o.length : Int) - 1 := IntWalk.i64_in _ (by omega)
    have hkn : ((o.length : Int) - 1).toNat = o.length - 1 := by omega
    have hk0 : (0 : Int) ≤ (o.length : Int) - 1 := by omega
    have hk1 : (o.length : Int) - 1 < o.length := by omega
    have hk2 : (1 : Int) ≤ o.length := by omega
    have hg1 : W1.cell? ⟨g, o.length - 1, none⟩ = some (.string ⟨x.toArray⟩) := (hbW.cell (p := ⟨g, o.length - 1, none⟩) hg).trans hcell
    have HS : Hid (W1.drew.cell? ((⟨g, 0, none⟩ : Addr).add (o.length - 1)) = some (.string ⟨x.toArray⟩) ∧ W1.drew.cell? ⟨g, o.length - 1, none⟩ = some (.string ⟨x.toArray⟩) ∧ W1.drew.cell? ⟨w.heap.size, 2, none⟩ = some (.string ⟨t.name.toArray⟩)) :=
      ⟨by rw [add_zero_block]; exact hg1, hg1, y2⟩
    have hne := Lib.hid h0
    clear h0 hg1 y2 h
    cases v with
    | true =>
      have hxx : x = t.name := by
        have := of_decide_eq_true hv.out
        rw [hxl] at this
        injection this
      subst hxx
      clear hx hcell
      go_enter Try.func49, Try.ntmps49
      go_wp2_with fail
      rw [← hW1.out]
      refine wp_region_held_drew (S := fun w' => w'.cell? ((⟨g, 0, none⟩ : Addr).add (o.length - 1)) = some (.string ⟨t.name.toArray⟩) ∧ w'.cell? ⟨g, o.length - 1, none⟩ = some (.string ⟨t.name.toArray⟩) ∧ w'.cell? ⟨w.heap.size, 2, none⟩ = some (.string ⟨t.name.toArray⟩)) (by kernel_rfl) HS.out (fun hHeld => ?_)
      refine tks (oi := ⟨_, _, _, _, _, _⟩) (v := ?_) 0 rfl (.inl ⟨by rfl, ?_⟩) ?_; rotate_left
      · (intro wS hSw; (try dsimp only at hSw); go_simp); all_goals with_reducible rfl
      try go_frame
      refine tks (oi := ⟨_, _, _, _, _, _⟩) (v := ?_) 1 rfl (.inl ⟨by rfl, ?_⟩) ?_; rotate_left
      · (intro wS hSw; (try dsimp only at hSw); go_simp); all_goals with_reducible rfl
      try go_frame
      refine tks (oi := ⟨_, _, _, _, _, _⟩) (v := ?_) 2 rfl (.inl ⟨by rfl, ?_⟩) ?_; rotate_left
      · (intro wS hSw; (try dsimp only at hSw); go_simp); all_goals with_reducible rfl
      try go_frame
      refine tks (oi := ⟨_, _, _, _, _, _⟩) (v := ?_) 3 rfl (.inl ⟨by rfl, ?_⟩) ?_; rotate_left
      · (intro wS hSw; (try dsimp only at hSw); go_simp); all_goals with_reducible rfl
      try go_frame
      refine tks (oi := ⟨_, _, _, _, _, _⟩) (v := ?_) 4 rfl (.inl ⟨by rfl, ?_⟩) ?_; rotate_left
      · (intro wS hSw; (try dsimp only at hSw); go_simp); all_goals with_reducible rfl
      try go_frame
      refine tks (oi := ⟨_, _, _, _, _, _⟩) (v := ?_) 5 rfl (.inl ⟨by rfl, ?_⟩) ?_; rotate_left
      · (intro wS hSw; (try dsimp only at hSw); go_simp); all_goals with_reducible rfl
      try go_frame
      refine tks (oi := ⟨_, _, _, _, _, _⟩) (v := ?_) 6 rfl (.inl ⟨by rfl, ?_⟩) ?_; rotate_left
      · (intro wS hSw; (try dsimp only at hSw); go_simp); all_goals with_reducible rfl
      try go_frame
      refine tks (oi := ⟨_, _, _, _, _, _⟩) (v := ?_) 7 rfl (.inl ⟨by rfl, ?_⟩) ?_; rotate_left
      · (intro wS hSw; (try dsimp only at hSw); go_simp); all_goals with_reducible rfl
      try go_frame
      refine tks (oi := ⟨_, _, _, _, _, _⟩) (v := ?_) 8 rfl (.inl ⟨by rfl, ?_⟩) ?_; rotate_left
      · (intro wS hSw; (try dsimp only at hSw); go_simp); all_goals with_reducible rfl
      try go_frame
      refine tks (oi := ⟨_, _, _, _, _, _⟩) (v := ?_) 9 rfl (.inl ⟨by rfl, ?_⟩) ?_; rotate_left
      · (intro wS hSw; (try dsimp only at hSw); go_simp); all_goals with_reducible rfl
      try go_frame
      refine tks (oi := ⟨_, _, _, _, _, _⟩) (v := ?_) 10 rfl (.inl ⟨by rfl, ?_⟩) ?_; rotate_left
      · (intro wS hSw; (try dsimp only at hSw); go_simp); all_goals with_reducible rfl
      try go_frame
      refine tks (oi := ⟨_, _, _, _, _, _⟩) (v := ?_) 11 rfl (.inl ⟨by rfl, ?_⟩) ?_; rotate_left
      · (intro wS hSw; (try dsimp only at hSw); go_simp); all_goals with_reducible rfl
      try go_frame
      refine wpAnyH_done (by kernel_rfl) ?_ _
      clear hHeld
      have hcap := HO.out.cap
      have hcmax := HO.out.capMax
      have hc1 : (o.length : Int) - 1 ≤ (Oc : Int) := by omega
      have hc2 : (Oc : Int) ≤ 9223372036854775807 := by unfold maxLen at hcmax; omega
      clear hcap hcmax
      go_wp2_with fail
      refine wp_region_held_drew (S := fun _ => True) (by kernel_rfl) trivial (fun hHeld => ?_)
      refine tks (oi := ⟨_, _, _, _, _, _⟩) (v := ?_) 0 rfl (.inl ⟨by rfl, ?_⟩) ?_; rotate_left
      · (intro wS hSw; (try dsimp only at hSw); go_simp); all_goals with_reducible rfl
      try go_frame
      refine tks (oi := ⟨_, _, _, _, _, _⟩) (v := ?_) 1 rfl (.inl ⟨by rfl, ?_⟩) ?_; rotate_left
      · (intro wS hSw; (try dsimp only at hSw); go_simp); all_goals with_reducible rfl
      try go_frame
      refine tks (oi := ⟨_, _, _, _, _, _⟩) (v := ?_) 2 rfl (.inl ⟨by rfl, ?_⟩) ?_; rotate_left
      · (intro wS hSw; (try dsimp only at hSw); go_simp); all_goals with_reducible rfl
      try go_frame
      refine tks (oi := ⟨_, _, _, _, _, _⟩) (v := ?_) 3 rfl (.inl ⟨by rfl, ?_⟩) ?_; rotate_left
      · (intro wS hSw; (try dsimp only at hSw); go_simp); all_goals with_reducible rfl
      try go_frame
      refine tks (oi := ⟨_, _, _, _, _, _⟩) (v := ?_) 4 rfl (.inl ⟨by rfl, ?_⟩) ?_; rotate_left
      · (intro wS hSw; (try dsimp only at hSw); go_simp); all_goals with_reducible rfl
      try go_frame
      refine tks (oi := ⟨_, _, _, _, _, _⟩) (v := ?_) 5 rfl (.inl ⟨by rfl, ?_⟩) ?_; rotate_left
      · (intro wS hSw; (try dsimp only at hSw); go_simp); all_goals with_reducible rfl
      try go_frame
      refine tks (oi := ⟨_, _, _, _, _, _⟩) (v := ?_) 6 rfl (.inl ⟨by rfl, ?_⟩) ?_; rotate_left
      · (intro wS hSw; (try dsimp only at hSw); go_simp); all_goals with_reducible rfl
      try go_frame
      refine tks (oi := ⟨_, _, _, _, _, _⟩) (v := ?_) 7 rfl (.inl ⟨by rfl, ?_⟩) ?_; rotate_left
      · (intro wS hSw; (try dsimp only at hSw); go_simp); all_goals with_reducible rfl
      try go_frame
      refine wpAnyH_done (by kernel_rfl) ?_ _
      clear hHeld
      go_wp2_with fail
      go_ret3
      refine ⟨((hbW.mono hBw).drew).drew, S, IA, Ic, some ⟨g, 0, none⟩, Oc, ?_, ?_⟩
      · simp [List.length_dropLast]
      · exact (HI1.out.below ((Below.refl _ W1).drew)).below ((Below.refl _ W1.drew).drew) |>.cut hne.out
    | false =>
      have hxx : (x == t.name) = false := by
        have := of_decide_eq_false hv.out
        rw [hxl] at this
        simp only [beq_eq_false_iff_ne, ne_eq]
        exact fun e => this (by rw [e])
      clear hx hcell
      go_enter Try.func49, Try.ntmps49
      go_wp2_with fail
      rw [← hW1.out]
      refine wp_region_held_drew (S := fun w' => w'.cell? ((⟨g, 0, none⟩ : Addr).add (o.length - 1)) = some (.string ⟨x.toArray⟩) ∧ w'.cell? ⟨g, o.length - 1, none⟩ = some (.string ⟨x.toArray⟩) ∧ w'.cell? ⟨w.heap.size, 2, none⟩ = some (.string ⟨t.name.toArray⟩)) (by kernel_rfl) HS.out (fun hHeld => ?_)
      refine tks (oi := ⟨_, _, _, _, _, _⟩) (v := ?_) 0 rfl (.inl ⟨by rfl, ?_⟩) ?_; rotate_left
      · (intro wS hSw; (try dsimp only at hSw); go_simp); all_goals with_reducible rfl
      try go_frame
      refine tks (oi := ⟨_, _, _, _, _, _⟩) (v := ?_) 1 rfl (.inl ⟨by rfl, ?_⟩) ?_; rotate_left
      · (intro wS hSw; (try dsimp only at hSw); go_simp); all_goals with_reducible rfl
      try go_frame
      refine tks (oi := ⟨_, _, _, _, _, _⟩) (v := ?_) 2 rfl (.inl ⟨by rfl, ?_⟩) ?_; rotate_left
      · (intro wS hSw; (try dsimp only at hSw); go_simp); all_goals with_reducible rfl
      try go_frame
      refine tks (oi := ⟨_, _, _, _, _, _⟩) (v := ?_) 3 rfl (.inl ⟨by rfl, ?_⟩) ?_; rotate_left
      · (intro wS hSw; (try dsimp only at hSw); go_simp); all_goals with_reducible rfl
      try go_frame
      refine tks (oi := ⟨_, _, _, _, _, _⟩) (v := ?_) 4 rfl (.inl ⟨by rfl, ?_⟩) ?_; rotate_left
      · (intro wS hSw; (try dsimp only at hSw); go_simp); all_goals with_reducible rfl
      try go_frame
      refine tks (oi := ⟨_, _, _, _, _, _⟩) (v := ?_) 5 rfl (.inl ⟨by rfl, ?_⟩) ?_; rotate_left
      · (intro wS hSw; (try dsimp only at hSw); go_simp); all_goals with_reducible rfl
      try go_frame
      refine tks (oi := ⟨_, _, _, _, _, _⟩) (v := ?_) 6 rfl (.inl ⟨by rfl, ?_⟩) ?_; rotate_left
      · (intro wS hSw; (try dsimp only at hSw); go_simp); all_goals with_reducible rfl
      try go_frame
      refine tks (oi := ⟨_, _, _, _, _, _⟩) (v := ?_) 7 rfl (.inl ⟨by rfl, ?_⟩) ?_; rotate_left
      · (intro wS hSw; (try dsimp only at hSw); go_simp); all_goals with_reducible rfl
      try go_frame
      refine tks (oi := ⟨_, _, _, _, _, _⟩) (v := ?_) 8 rfl (.inl ⟨by rfl, ?_⟩) ?_; rotate_left
      · (intro wS hSw; (try dsimp only at hSw); go_simp); all_goals with_reducible rfl
      try go_frame
      refine tks (oi := ⟨_, _, _, _, _, _⟩) (v := ?_) 9 rfl (.inl ⟨by rfl, ?_⟩) ?_; rotate_left
      · (intro wS hSw; (try dsimp only at hSw); go_simp); all_goals with_reducible rfl
      try go_frame
      refine tks (oi := ⟨_, _, _, _, _, _⟩) (v := ?_) 10 rfl (.inl ⟨by rfl, ?_⟩) ?_; rotate_left
      · (intro wS hSw; (try dsimp only at hSw); go_simp); all_goals with_reducible rfl
      try go_frame
      refine tks (oi := ⟨_, _, _, _, _, _⟩) (v := ?_) 11 rfl (.inl ⟨by rfl, ?_⟩) ?_; rotate_left
      · (intro wS hSw; (try dsimp only at hSw); go_simp); all_goals with_reducible rfl
      try go_frame
      refine wpAnyH_done (by kernel_rfl) ?_ _
      clear hHeld
      go_wp2_with fail
      go_ret3
      exact ⟨(hbW.mono hBw).drew, _, _, rfl⟩
end Go.Proofs.Ythifddkmbjnncaa

/-
  The document's reader of documents: a token added.
-/
namespace Go.Proofs.Ythifddkmbjnncaa
open Go.RowKit

theorem addE_zero {items : List ItemD} {o : List (List UInt8)} {k : Int} (h : addE items o k = 0) : o.length < 40 ∧ items.length < 1000 ∧ (o = [] → k ≠ 4 ∧ items = []) := by
  unfold addE at h
  split at h
  · cases h
  · rename_i h1
    split at h
    · cases h
    · split at h
      · cases h
      · refine ⟨by omega, by omega, fun e => ⟨fun hk => h1 ⟨e, .inl hk⟩, ?_⟩⟩
        by_cases hi : items = []
        · exact hi
        · exact absurd ⟨e, .inr hi⟩ h1





set_option maxRecDepth 100000 in
set_option maxHeartbeats 2000000 in
theorem rpno_any (B : Nat) (items : List ItemD) (o : List (List UInt8)) (w : World) (S : List Slot) (IA OA : Option Addr) (Ic Oc : Nat) (hlen : S.length = items.length) (hBw : B ≤ w.heap.size) (ho : o.length ≤ 1000000000) (hi : items.length ≤ 1000000000) (t : TokD) (at_ : Int) (A : Option Addr) (c : Nat) (hk : t.kind ≠ 2) (E : Int) (hE : Hid (addE items o t.kind = E)) (hE0 : E ≠ 0) :
    Calls Try.prog 49 #[.slice IA S.length Ic, .slice OA o.length Oc, .agg #[.int .i64 t.kind, .int .i64 at_, .string ⟨t.name.toArray⟩, .string ⟨t.text.toArray⟩, .slice A t.attrs.length c]] w (ROneP w B (.inl E)) := by
  have hk2 : (t.kind == 2) = false := by simpa using hk
  by_cases h0 : o = []
  · have t0 : ((o.length : Int) == 0) = true := by rw [h0]; rfl
    by_cases hk4 : t.kind = 4
    · have HE : E = 40 := by rw [← hE.out]; unfold addE; rw [if_pos ⟨h0, .inl hk4⟩]
      have k4 : (t.kind == 4) = true := by simpa using hk4
      subst HE
      clear hk4 hk hE hE0 h0
      go_enter Try.func49, Try.ntmps49
      go_wp2_with fail
      all_goals try (exfalso; omega)
      go_ret3
      exact ⟨((Below.refl B w).alloc hBw _), _, _, rfl⟩
    · have k4 : (t.kind == 4) = false := by simpa using hk4
      have hne : items ≠ [] := fun e => hE0 (by rw [← hE.out]; unfold addE; rw [if_neg (fun hh => hh.2.elim hk4 (fun hn => hn e)), if_neg (by rw [h0]; decide), if_neg (by rw [e]; decide)])
      have HE : E = 40 := by rw [← hE.out]; unfold addE; rw [if_pos ⟨h0, .inr hne⟩]
      have hpos : 0 < items.length := List.length_pos_iff.2 hne
      have hpos' : 0 < S.length := by omega
      subst HE
      clear hk4 hk hE hE0 h0 hne
      go_enter Try.func49, Try.ntmps49
      go_wp2_with fail
      all_goals try (exfalso; omega)
      go_ret3
      exact ⟨((Below.refl B w).alloc hBw _), _, _, rfl⟩
  · have hpos : 0 < o.length := List.length_pos_iff.2 h0
    have t0 : ((o.length : Int) == 0) = false := by simp; omega
    by_cases h40 : 40 ≤ o.length
    · have HE : E = 42 := by rw [← hE.out]; unfold addE; rw [if_neg (fun hh => h0 hh.1), if_pos h40]
      have h40' : (40 : Int) ≤ o.length := by omega
      subst HE
      clear hk hE hE0 h0 h40
      go_enter Try.func49, Try.ntmps49
      go_wp2_with fail
      all_goals try (exfalso; omega)
      go_ret3
      exact ⟨((Below.refl B w).alloc hBw _), _, _, rfl⟩
    · have h1000 : 1000 ≤ items.length := by
        rcases Nat.lt_or_ge items.length 1000 with hlt | hge
        · exact absurd (by rw [← hE.out]; unfold addE; rw [if_neg (fun hh => h0 hh.1), if_neg h40, if_neg (by omega)]) hE0
        · exact hge
      have HE : E = 43 := by rw [← hE.out]; unfold addE; rw [if_neg (fun hh => h0 hh.1), if_neg h40, if_pos h1000]
      have h40' : (o.length : Int) < 40 := by omega
      have hS : (1000 : Int) ≤ S.length := by omega
      subst HE
      clear hk hE hE0 h0 h40
      go_enter Try.func49, Try.ntmps49
      go_wp2_with fail
      all_goals try (exfalso; omega)
      go_ret3
      exact ⟨((Below.refl B w).alloc hBw _), _, _, rfl⟩

set_option maxRecDepth 100000 in
set_option maxHeartbeats 2000000 in
theorem rpadd3_any (B : Nat) (items : List ItemD) (o : List (List UInt8)) (w : World) (S : List Slot) (IA OA : Option Addr) (Ic Oc : Nat) (h : RInv w B S IA Ic OA Oc items o) (hBw : B ≤ w.heap.size) (t : TokD) (at_ : Int) (A : Option Addr) (c : Nat) (hA : AttrsOwn w B A c t.attrs) (hE : addE items o 3 = 0) :
    Calls Try.prog 49 #[.slice IA S.length Ic, .slice OA o.length Oc, .agg #[.int .i64 3, .int .i64 at_, .string ⟨t.name.toArray⟩, .string ⟨t.text.toArray⟩, .slice A t.attrs.length c]] w (ROneP w B (if (0 : Int) = 0 then .inr (items ++ [⟨o.length, 1, t.name, [], t.attrs⟩], o) else .inl 0)) := by
  have hlen : S.length = items.length := by rw [← h.map, List.length_map]
  have HI := Lib.hid h
  have HA := Lib.hid hA
  obtain ⟨h1, h2, h3⟩ := addE_zero hE
  clear h hA hE
  have h40' : (o.length : Int) < 40 := by omega
  obtain ⟨W1, hW1⟩ : ∃ W1, Hid (W1 = w.alloc (.cells #[.int .i64 3, .int .i64 at_, .string ⟨t.name.toArray⟩, .string ⟨t.text.toArray⟩, .slice A t.attrs.length c] 33)) := ⟨_, rfl⟩
  have hbW1 : Below w.heap.size w W1 := by rw [hW1.out]; exact (Below.refl _ w).alloc (Nat.le_refl _) _
  have hz1 : w.heap.size < W1.heap.size := by rw [hW1.out]; simp
  have y0 : W1.cell? ⟨w.heap.size, 0, none⟩ = some (.int .i64 3) := by rw [hW1.out, World.cell?_alloc_at _ _ _ _ (by simp)]; rfl
  have y2 : W1.cell? ⟨w.heap.size, 2, none⟩ = some (.string ⟨t.name.toArray⟩) := by rw [hW1.out, World.cell?_alloc_at _ _ _ _ (by simp)]; rfl
  obtain ⟨x, hx⟩ : ∃ x : ItemD, Hid (x = ⟨o.length, 1, t.name, [], t.attrs⟩) := ⟨_, rfl⟩
  obtain ⟨W2, hW2⟩ : ∃ W2, Hid (W2 = W1.alloc (.cells #[.int .i64 o.length, .int .i64 1, .string ⟨t.name.toArray⟩, .string ⟨#[]⟩, .slice A t.attrs.length c] 50)) := ⟨_, rfl⟩
  have hW2' : Hid (W2 = (w.alloc (.cells #[.int .i64 3, .int .i64 at_, .string ⟨t.name.toArray⟩, .string ⟨t.text.toArray⟩, .slice A t.attrs.length c] 33)).alloc (.cells #[.int .i64 o.length, .int .i64 1, .string ⟨t.name.toArray⟩, .string ⟨#[]⟩, .slice A t.attrs.length c] 50)) := by show _ = _; rw [hW2.out, hW1.out]
  have hb12 : Below W1.heap.size W1 W2 := by rw [hW2.out]; exact (Below.refl _ W1).alloc (Nat.le_refl _) _
  have hbW2 : Below w.heap.size w W2 := hbW1.trans (hb12.mono hbW1.size)
  have x0 : W2.cell? ⟨w.heap.size, 0, none⟩ = some (.int .i64 3) := (hb12.cell (p := ⟨w.heap.size, 0, none⟩) hz1).trans y0
  have x2 : W2.cell? ⟨w.heap.size, 2, none⟩ = some (.string ⟨t.name.toArray⟩) := (hb12.cell (p := ⟨w.heap.size, 2, none⟩) hz1).trans y2
  have hz2 : w.heap.size < W2.heap.size := Nat.lt_of_lt_of_le hz1 hb12.size
  have HI2 := Lib.hid (RInv.below HI.out hbW2)
  have HX2 : Hid (AttrsOwn W2 B A c x.attrs) := by show AttrsOwn _ _ _ _ _; rw [hx.out]; exact own_keep HA.out hbW2
  have hzB : B ≤ W2.heap.size := Nat.le_trans hBw hbW2.size
  have hfar : ∀ g, (Value.slice IA S.length Ic).ownBlock = some g → g = w.heap.size → False := fun g hg e => by have := (own_type HI.out.own g hg).2.1; omega
  clear y0 y2
  by_cases h0 : o = []
  · have t0 : ((o.length : Int) == 0) = true := by rw [h0]; rfl
    have hi0 := (h3 h0).2
    have hil : items.length = 0 := by rw [hi0]; rfl
    have hSl : S.length < 1000 := by omega
    have hS2 : ¬ (0 < S.length) := by omega
    have hS1 : decide ((0 : Int) < (S.length : Int)) = false := decide_eq_false (by omega)
    clear h0 hi0 h3 hlen hil
    have HV : Hid ((if (0 : Int) = 0 then Sum.inr (items ++ [(⟨o.length, 1, t.name, [], t.attrs⟩ : ItemD)], o) else Sum.inl 0 : Int ⊕ (List ItemD × List (List UInt8))) = .inr (items ++ [x], o)) := by show _ = _; rw [if_pos rfl, hx.out]
    rw [HV.out]
    go_enter Try.func49, Try.ntmps49
    go_wp2_with (at_builtin; rw [← hW2'.out]; go_loud (refine appendS rfl (.tmp 72) (.tmp 74) 45 rfl B 50 (.agg #[.int .i64 0, .int .i64 0, .string ByteArray.empty, .string ByteArray.empty, .slice none 0 0]) 5 72 Try.underlying45 infoItem rfl (by decide) _ S.length _ (cellsI (⟨o.length, 1, t.name, [], t.attrs⟩, A, c)) rfl HI2.out.own hzB _ rfl (by rw [hW2'.out]; simp) (cellsI_length _) (cellsI_cell _) (by omega) (by decide) ?_))
    intro a4 c4 w4 hown4 hb4 hz4 hg4
    have hkeep4 : ∀ j, w4.cell? ⟨w.heap.size, j, none⟩ = W2.cell? ⟨w.heap.size, j, none⟩ := fun j =>
      (World.grownBy.cell_far hg4 ⟨w.heap.size, j, none⟩ (by show w.heap.size < _; simp; omega) (fun e => hfar _ e.symm rfl)).trans (World.cell?_alloc_lt _ _ _ (by show w.heap.size < _; exact hz2))
    have HI4 : Hid (RInv w4 B (S ++ [(x, A, c)]) a4 c4 OA Oc (items ++ [x]) o) := by
      have hgrow : ∀ {e : TypeId} {size : Nat} {v : Value} {n : Nat} {xs : List Value}, W2.ownsRow B e size v n xs → e ≠ 50 → w4.ownsRow B e size v n xs := fun hr he =>
        own_grown (World.ownsRow.alloc hr _) (World.ownsRow.alloc HI2.out.own _) he hg4
      refine ⟨?_, fun s hs => ?_, hgrow HI2.out.names (by decide), by rw [List.map_append, HI2.out.map]; rfl⟩
      · unfold ItemsOwn
        rw [List.length_append, List.flatMap_append, hx.out]
        simpa using hown4
      · rcases List.mem_append.1 hs with hm | hm
        · exact hgrow (HI2.out.attrs s hm) (by decide)
        · simp at hm; subst hm
          exact hgrow HX2.out (by decide)
    have z0 : w4.cell? ⟨w.heap.size, 0, none⟩ = some (.int .i64 3) := (hkeep4 0).trans x0
    have z2 : w4.cell? ⟨w.heap.size, 2, none⟩ = some (.string ⟨t.name.toArray⟩) := (hkeep4 2).trans x2
    have hbw4 : Below B w w4 := (hbW2.mono hBw).trans hb4
    clear hown4 hg4 hkeep4 x0 x2
    go_wp2_with fail
    go_ret3
    exact ⟨hbw4, S ++ [(x, A, c)], a4, c4, OA, Oc, by simp, HI4.out⟩
  · have hpos : 0 < o.length := List.length_pos_iff.2 h0
    have t0 : ((o.length : Int) == 0) = false := by simp; omega
    have hS : (S.length : Int) < 1000 := by omega
    have hSl : S.length < 1000 := by omega
    clear h0 h3 hlen
    have HV : Hid ((if (0 : Int) = 0 then Sum.inr (items ++ [(⟨o.length, 1, t.name, [], t.attrs⟩ : ItemD)], o) else Sum.inl 0 : Int ⊕ (List ItemD × List (List UInt8))) = .inr (items ++ [x], o)) := by show _ = _; rw [if_pos rfl, hx.out]
    rw [HV.out]
    go_enter Try.func49, Try.ntmps49
    go_wp2_with (at_builtin; rw [← hW2'.out]; go_loud (refine appendS rfl (.tmp 72) (.tmp 74) 45 rfl B 50 (.agg #[.int .i64 0, .int .i64 0, .string ByteArray.empty, .string ByteArray.empty, .slice none 0 0]) 5 72 Try.underlying45 infoItem rfl (by decide) _ S.length _ (cellsI (⟨o.length, 1, t.name, [], t.attrs⟩, A, c)) rfl HI2.out.own hzB _ rfl (by rw [hW2'.out]; simp) (cellsI_length _) (cellsI_cell _) (by omega) (by decide) ?_))
    intro a4 c4 w4 hown4 hb4 hz4 hg4
    have hkeep4 : ∀ j, w4.cell? ⟨w.heap.size, j, none⟩ = W2.cell? ⟨w.heap.size, j, none⟩ := fun j =>
      (World.grownBy.cell_far hg4 ⟨w.heap.size, j, none⟩ (by show w.heap.size < _; simp; omega) (fun e => hfar _ e.symm rfl)).trans (World.cell?_alloc_lt _ _ _ (by show w.heap.size < _; exact hz2))
    have HI4 : Hid (RInv w4 B (S ++ [(x, A, c)]) a4 c4 OA Oc (items ++ [x]) o) := by
      have hgrow : ∀ {e : TypeId} {size : Nat} {v : Value} {n : Nat} {xs : List Value}, W2.ownsRow B e size v n xs → e ≠ 50 → w4.ownsRow B e size v n xs := fun hr he =>
        own_grown (World.ownsRow.alloc hr _) (World.ownsRow.alloc HI2.out.own _) he hg4
      refine ⟨?_, fun s hs => ?_, hgrow HI2.out.names (by decide), by rw [List.map_append, HI2.out.map]; rfl⟩
      · unfold ItemsOwn
        rw [List.length_append, List.flatMap_append, hx.out]
        simpa using hown4
      · rcases List.mem_append.1 hs with hm | hm
        · exact hgrow (HI2.out.attrs s hm) (by decide)
        · simp at hm; subst hm
          exact hgrow HX2.out (by decide)
    have z0 : w4.cell? ⟨w.heap.size, 0, none⟩ = some (.int .i64 3) := (hkeep4 0).trans x0
    have z2 : w4.cell? ⟨w.heap.size, 2, none⟩ = some (.string ⟨t.name.toArray⟩) := (hkeep4 2).trans x2
    have hbw4 : Below B w w4 := (hbW2.mono hBw).trans hb4
    clear hown4 hg4 hkeep4 x0 x2
    go_wp2_with fail
    go_ret3
    exact ⟨hbw4, S ++ [(x, A, c)], a4, c4, OA, Oc, by simp, HI4.out⟩
end Go.Proofs.Ythifddkmbjnncaa
