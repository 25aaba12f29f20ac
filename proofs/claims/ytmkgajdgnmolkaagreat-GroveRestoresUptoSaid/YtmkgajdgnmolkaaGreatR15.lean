/-
  Texts of this claim, joined (by a program of the claim's author): GRIt, SameA, SameQ, SameR, GStd, GGro2, GRsP, GRs.
-/
import Derived.Test.YtmkgajdgnmolkaaGreatR14
import Derived.Test.YtmkgajdgnmolkaaGreatR9
import Derived.Test.YtmkgajdgnmolkaaGreatR1
import Derived.Test.YtmkgajdgnmolkaaGreatR2
import Derived.Deep.RegionHeld3
import Derived.Laws.StructEq
import Derived.Test.YtmkgajdgnmolkaaGreatR7
import Derived.Test.YtmkgajdgnmolkaaGreatR6
import Derived.Test.YtmkgajdgnmolkaaGreatR5
namespace Go.Proofs.YtmkgajdgnmolkaaGreat
set_option maxRecDepth 100000
set_option maxHeartbeats 16000000
section
open Go.RowKit Go.Shelf
variable {X : Nat → Prop}
theorem AttrsX.any {w : World} {B : Nat} {A : Option Addr} {l : List AttrD} (h : AttrsX X w B A l) : AttrsX (fun _ => True) w B A l := ⟨h.1, fun _ _ _ => trivial⟩
theorem TreeR.any {w : World} {A : Option Addr} {c : Nat} {L : List RowD} (h : TreeR X w A c L) : TreeR (fun _ => True) w A c L := ⟨fun hl => by
 obtain ⟨ad, e, hb, hr⟩ := h.1 hl
 refine ⟨ad, e, ⟨hb.1, trivial⟩, fun k r hk => ?_⟩
 obtain ⟨A', c', h1, h2, h3⟩ := hr k r hk
 exact ⟨A', c', h1.any, h2, h3⟩, h.2⟩
def ItemsPost (w : World) (IT : List ItemD) (er : Ending) (w' : World) : Prop := ∃ A2 c2, er = .returned (.slice A2 IT.length c2) ∧ ItemsAt w' w'.heap.size A2 IT ∧ Below w.heap.size w w'
theorem run_append_item {W : World} {A : Option Addr} {c : Nat} {S0 : List Slot} (hown : ItemsOwn W 0 A c S0) (s : Slot) (a : Addr) (hc : ∀ j u, (cellsI s)[j]? = some u → W.cell? (a.add j) = some u) (hl : S0.length ≤ 1000000) :
  ∃ pa pc w', (Builtin.append_ #[34, 34] 34 #[.slice A S0.length c, .slice (some a) 1 1]).run Tryz.prog W = .ok (.slice pa (S0.length + 1) pc) w' ∧ ItemsOwn w' 0 pa pc (S0 ++ [s]) ∧ W.grownBy w' (Value.slice A S0.length c).ownBlock ∧
   ∀ b, (Value.slice pa (S0.length + 1) pc).ownBlock = some b → (Value.slice A S0.length c).ownBlock = some b ∨ W.heap.size ≤ b := by
 obtain ⟨v', w', hr, hrow, hg, hf⟩ := run_appendG (P := Tryz.prog) W 34 34 62 _ 5 72 Tryz.underlying34 infoItem rfl (by decide) (by decide) _ S0.length _ hown a 1 1 (cellsI s) (by decide) rfl hc (cellsI_one' s) (by omega) (by decide)
 obtain ⟨pa, pc, rfl, _⟩ := row_shape hrow
 refine ⟨pa, pc, w', hr, ?_, hg, hf⟩
 unfold ItemsOwn
 rw [List.length_append, List.flatMap_append]
 simpa using hrow
theorem RItems_any (L : List RowD) (A : Option Addr) (c : Nat) (next id : Int) (w : World) (hT : TreeR X w A c L) (hs : SmallRows L) (hlen : L.length ≤ 100000) (IT : List ItemD) (hIT : Hid (itemsAt L id = IT)) :
  Calls Tryz.prog 28 #[.agg #[.slice A L.length c, .int .i64 next], .int .i64 id] w (ItemsPost w IT) := by
 obtain ⟨v, hr⟩ : ∃ v, Hid (findI L id = v) := ⟨_, rfl⟩
 obtain ⟨W1, hW1⟩ : ∃ W1, Hid (W1 = w.alloc (.cells #[.slice A L.length c, .int .i64 next] 29)) := ⟨_, rfl⟩
 have hb1 : Below w.heap.size w W1 := by rw [hW1.out]; exact (Below.refl _ w).alloc (Nat.le_refl _) _
 have hx1 : W1.heap[w.heap.size]? = some (.cells (treeV A L.length c next) 29 (0, 0)) := by rw [hW1.out]; exact heap_alloc_new w _
 have HZ1 : Hid (w.heap.size < W1.heap.size) := by show _ < _; rw [hW1.out]; simp
 have x0 : W1.cell? ⟨w.heap.size, 0, none⟩ = some (.slice A L.length c) := cell_row hx1 0 _ rfl
 have x1 : W1.cell? ⟨w.heap.size, 1, none⟩ = some (.int .i64 next) := cell_row hx1 1 _ rfl
 have HX1 := Lib.hid hx1
 have HB1 := Lib.hid hb1
 have HT := Lib.hid hT.any
 have HT1 := Lib.hid (hT.any.below hb1)
 have HS := Lib.hid hs
 have HLEN := Lib.hid hlen
 clear hT hs hb1 hx1
 have n0 : (0 : Int) ≤ (L.length : Int) := by omega
 have n1 : (L.length : Int) ≤ 100000 := by omega
 cases hf : findL L id with
 | none =>
  have hv1 : v = -1 := by rw [← hr.out]; unfold findI; rw [hf]
  have HE : Hid (IT = []) := by show _ = _; rw [← hIT.out]; unfold itemsAt; rw [hf]
  clear hf
  subst hv1
  go_enter Tryz.func28, Tryz.ntmps28
  go_wp2_with fail
  rw [← hW1.out]
  refine (RFind_any L A c next id W1 HT1.out.1 HS.out (-1) hr).mono ?_
  rintro e3 w3 ⟨rfl, hb3⟩
  have HB3 : Hid (Below w.heap.size w w3) := HB1.out.trans (hb3.mono HB1.out.size)
  clear hb3 x0 x1
  go_wp2_with fail
  go_ret
  rw [HE.out]
  exact ⟨none, 0, rfl, fun h => absurd h (by simp), HB3.out⟩
 | some k =>
  have hv1 : v = (k : Int) := by rw [← hr.out]; unfold findI; rw [hf]
  have hk : k < L.length := find_lt hf
  have hkc : (k : Int) < (L.length : Int) := by omega
  have k0 : (0 : Int) ≤ (k : Int) := by omega
  subst hv1
  have HAD : Hid (∃ ad, A = some ad) := by
   obtain ⟨ad, hA, _⟩ := HT.out.1 (by omega)
   exact ⟨ad, hA⟩
  obtain ⟨E, hE⟩ : ∃ E, Hid (endL L k = E) := ⟨_, rfl⟩
  obtain ⟨⟨rj, x⟩, hrk⟩ : ∃ r, Hid (L[k]? = some r) := ⟨L[k], List.getElem?_eq_getElem _⟩
  obtain ⟨new, hnew⟩ : ∃ new, Hid (partL ((L.drop k).take (E - k)) x.level = new) := ⟨_, rfl⟩
  have HE : Hid (IT = new.map (·.x)) := by
   show _ = _
   rw [← hIT.out, ← hnew.out]
   unfold itemsAt
   rw [hf]
   show itemsL L k = _
   unfold itemsL
   rw [hE.out, lvl_get hrk.out]
  obtain ⟨⟨b0, b1⟩, _⟩ := HS.out.2 _ (List.mem_of_getElem? hrk.out)
  have b0' : -1000000 ≤ x.level := b0
  have b1' : x.level ≤ 1000000 := b1
  clear hf b0 b1
  go_enter Tryz.func28, Tryz.ntmps28
  go_wp2_with fail
  rw [← hW1.out]
  refine (RFind_any L A c next id W1 HT1.out.1 HS.out (k : Int) hr).mono ?_
  rintro e3 w3 ⟨rfl, hb3⟩
  obtain ⟨ad, rfl⟩ := HAD.out
  have HB3 : Hid (Below w.heap.size w w3) := HB1.out.trans (hb3.mono HB1.out.size)
  have HX3 : Hid (w3.heap[w.heap.size]? = some (.cells (treeV (some ad) L.length c next) 29 (0, 0))) := (hb3.block w.heap.size HZ1.out).trans HX1.out
  have HT3 := Lib.hid (HT1.out.below hb3)
  have HZ3 : Hid (w.heap.size < w3.heap.size) := Nat.lt_of_lt_of_le HZ1.out hb3.size
  clear hb3 x0 x1
  go_upto_region 5 with (fail)
  have hEl := end_le hk
  rw [hE.out] at hEl
  obtain ⟨hE0, hE1⟩ := hEl
  have hcl := HT3.out.2.1
  have i1 : (k : Int) ≤ (E : Int) := by omega
  have i2 : (E : Int) ≤ (c : Int) := by omega
  have i3 : (k : Int) ≤ (c : Int) := by omega
  have i4 : (0 : Int) ≤ (E : Int) := by omega
  have i5 : k ≤ E := by omega
  have i6 : E ≤ c := by omega
  have i7 : ¬ (c = k) := by omega
  have hSW : Hid (∀ W : World, Below w3.heap.size w3 W → W.cell? ⟨w.heap.size, 0, none⟩ = some (.slice (some ad) L.length c) ∧ W.cell? ⟨w.heap.size, 1, none⟩ = some (.int .i64 next) ∧ W.cell? ⟨(ad.add (k * 6)).block, (ad.add (k * 6)).off + 1, none⟩ = some (.int .i64 x.level)) := fun W hb => by
   have hx := (hb.block w.heap.size HZ3.out).trans HX3.out
   have hr := HT3.out.1.below hb
   obtain ⟨_, _, _, _, _, _, y1, _, _, _, _⟩ := hr.row hrk.out
   exact ⟨cell_row hx 0 _ rfl, cell_row hx 1 _ rfl, y1⟩
  have hS := hSW.out w3.drew ⟨rfl, rfl, rfl, Nat.le_refl _, fun _ _ => rfl⟩
  refine wp_region_held_drew (S := fun W => W.cell? ⟨w.heap.size, 0, none⟩ = some (.slice (some ad) L.length c) ∧ W.cell? ⟨w.heap.size, 1, none⟩ = some (.int .i64 next) ∧ W.cell? ⟨(ad.add (k * 6)).block, (ad.add (k * 6)).off + 1, none⟩ = some (.int .i64 x.level)) (by kernel_rfl) hS (fun hHeld => ?_)
  refine tkv 0 (h := tkv 1 (h := tkv 2 (h := tkv 3 (h := tkv 4 (h := ?_)))))
  refine tkv 7 (h := tkv 8 (h := tkv 9 (h := tkv 10 (h := tkv 11 (h := tkv 12 (h := ?_))))))
  refine tkv 13 (h := ?_)
  have hb5 : Below w3.heap.size w3 w3.drew := ⟨rfl, rfl, rfl, Nat.le_refl _, fun _ _ => rfl⟩
  obtain ⟨w5, hw5⟩ : ∃ w5, Hid (w3.drew = w5) := ⟨_, rfl⟩
  rw [hw5.out] at hb5 ⊢
  have HB35 := Lib.hid hb5
  have HT5 := Lib.hid (HT3.out.below hb5)
  clear hb5 hS
  refine rdy 5 (fun K hK => ?_)
  go_simp
  refine (Rend_g L (some ad) c next k w5 HT5.out.1 HS.out hk E hE).mono ?_
  rintro e6 w6 ⟨rfl, hb6⟩
  have HB36 : Hid (Below w3.heap.size w3 w6) := HB35.out.trans (hb6.mono HB35.out.size)
  have HT6 := Lib.hid (HT5.out.below hb6)
  clear hb6
  go_wp2_with fail
  refine hK.out _ _ (hSW.out w6 HB36.out) (fun hHeld => ?_)
  clear hK K
  try go_frame
  refine tkv 6 (h := ?_)
  refine rdy 14 (fun K hK => ?_)
  go_simp
  have hsub : RowsAt (fun _ => True) w6 w6.heap.size (some (ad.add (k * 6))) ((L.drop k).take (E - k)) := HT6.out.1.sub k (E - k)
  have hsm : SmallRows ((L.drop k).take (E - k)) := by
   refine ⟨by rw [List.length_take, List.length_drop]; have := HLEN.out; omega, fun z hz => HS.out.2 z (List.mem_of_mem_drop (List.mem_of_mem_take hz))⟩
  have hlt : ((L.drop k).take (E - k)).length = E - k := by rw [List.length_take, List.length_drop]; omega
  have hpc := Rpart_g ((L.drop k).take (E - k)) (some (ad.add (k * 6))) (c - k) w6.heap.size x.level w6 hsub (Nat.le_refl _) hsm (by omega)
  rw [hlt] at hpc
  refine hpc.mono ?_
  rintro e7 w7 ⟨A7, c7, S7, rfl, hS7, hown7, hat7, hb7⟩
  have hT7 := TreeR.of hown7 hat7 hb7 hS7 (fun _ _ => trivial)
  have hsl7 := congrArg List.length hS7
  rw [List.length_map] at hsl7
  have HNL : Hid (new.length ≤ 100000) := by
   show _ ≤ _
   rw [← hnew.out, part_length, hlt]
   have := HLEN.out
   omega
  rw [hnew.out] at hT7 hsl7
  rw [hsl7]
  have HN7 := Lib.hid hT7
  have HB37 : Hid (Below w3.heap.size w3 w7) := HB36.out.trans (hb7.mono HB36.out.size)
  clear hown7 hat7 hS7 hsl7 hT7 hpc hsub hsm hlt hb7
  go_wp2_with fail
  refine hK.out _ _ (hSW.out w7 HB37.out) (fun hHeld => ?_)
  clear hK K
  try go_frame
  refine tkv 15 (h := ?_)
  refine wpAnyH_done (by kernel_rfl) ?_ _
  go_wp2_with fail
  go_loopw [5, 8] (fun o i wr => ∃ (j : Nat) (A2 : Option Addr) (c2 : Nat) (S : List Slot), j ≤ new.length ∧ i = .int .i64 (j : Int) ∧ o = .slice A2 j c2 ∧ Hid (S.length = j) ∧ Hid (S.map (·.1) = (new.map (·.x)).take j) ∧ Hid (ItemsOwn wr w7.heap.size A2 c2 S) ∧
   Hid (∀ s ∈ S, AttrsAt w7 w7.heap.size s.2.1 s.1.attrs ∧ s.1.attrs.length ≤ s.2.2) ∧ Hid (Below w7.heap.size w7 wr)) (fun _ i _ => new.length - (intOf i).toNat)
  case atStart => exact ⟨0, none, 0, [], Nat.zero_le _, rfl, rfl, rfl, rfl, ⟨by simp, .inl ⟨rfl, rfl⟩⟩, fun s hs => (by cases hs), Below.refl _ _⟩
  case round =>
   obtain ⟨j, A2, c2, S, hj, rfl, rfl, hSl, hS, hown, hat, hbel⟩ := hrel
   have hnl0 : (new.length : Int) ≤ 100000 := by have := HNL.out; omega
   by_cases hlt : j < new.length
   ·have hlt' : (j : Int) < (new.length : Int) := by omega
    have j0 : (0 : Int) ≤ (j : Int) := by omega
    obtain ⟨z, hz⟩ : ∃ z, Hid (new[j]? = some z) := ⟨new[j], List.getElem?_eq_getElem _⟩
    obtain ⟨an, hAn, _⟩ := HN7.out.1 (by omega)
    subst hAn
    obtain ⟨hab, Az, cz, hza, hzc, z0, z1, z2, z3, z4, z5⟩ := HN7.out.1.row hz.out
    have hpb : ∀ q, (⟨(an.add (j * 6)).block, q, none⟩ : Addr).block < w7.heap.size := fun q => by show (an.add _).block < _; rw [block_of_add]; exact hab
    have y1 := (hbel.out.cell (hpb _)).trans z1
    have y2 := (hbel.out.cell (hpb _)).trans z2
    have y3 := (hbel.out.cell (hpb _)).trans z3
    have y4 := (hbel.out.cell (hpb _)).trans z4
    have y5 := (hbel.out.cell (hpb _)).trans z5
    unfold strV at y3 y4
    have HZA := Lib.hid (And.intro hza.1 hzc)
    obtain ⟨s, hs⟩ : ∃ s : Slot, Hid (s = (z.x, Az, cz)) := ⟨_, rfl⟩
    obtain ⟨W2, hW2⟩ : ∃ W2, Hid (W2 = wr.alloc (.cells #[.int .i64 z.x.level, .int .i64 z.x.kind, .string ⟨z.x.name.toArray⟩, .string ⟨z.x.text.toArray⟩, .slice Az z.x.attrs.length cz] 62)) := ⟨_, rfl⟩
    have hb2 : Below wr.heap.size wr W2 := by rw [hW2.out]; exact (Below.refl _ wr).alloc (Nat.le_refl _) _
    have hx2 : W2.heap[wr.heap.size]? = some (.cells #[.int .i64 z.x.level, .int .i64 z.x.kind, .string ⟨z.x.name.toArray⟩, .string ⟨z.x.text.toArray⟩, .slice Az z.x.attrs.length cz] 62 (0, 0)) := by rw [hW2.out]; exact heap_alloc_new wr _
    have hown2 : ItemsOwn W2 0 A2 c2 S := World.ownsRow.mono (own_below hown.out hb2) (Nat.zero_le _)
    obtain ⟨pa, pc, w4, hr4, hrow4, hg4, hf4⟩ := run_append_item hown2 s ⟨wr.heap.size, 0, none⟩ (fun i u hi => by
     rw [add_zero_block]
     refine cell_row hx2 i u ?_
     rw [hs.out] at hi
     match i, hi with
     | 0, hi => simpa [cellsI] using hi
     | 1, hi => simpa [cellsI] using hi
     | 2, hi => simpa [cellsI, strV] using hi
     | 3, hi => simpa [cellsI, strV] using hi
     | 4, hi => simpa [cellsI] using hi
     | i + 5, hi => simp [cellsI] at hi) (by rw [hSl.out]; omega)
    have hlow : ∀ b, (Value.slice A2 S.length c2).ownBlock = some b → w7.heap.size ≤ b := fun b hb => (hown.out.lt b hb).1
    have hb4 : Below w7.heap.size w7 w4 := (hbel.out.trans (hb2.mono hbel.out.size)).grown hg4 (Nat.le_trans hbel.out.size hb2.size) (fun b hb => hlow b hb)
    have hown4 : ItemsOwn w4 w7.heap.size pa pc (S ++ [s]) := by
     refine own_up hrow4 fun b hb => ?_
     rw [show (S ++ [s]).length = S.length + 1 by simp] at hb
     rcases hf4 b hb with h | h
     ·exact hlow b h
     ·have := hbel.out.size; have := hb2.size; omega
    rw [hSl.out, hW2.out] at hr4
    have HOWN4 := Lib.hid hown4
    have HB4 := Lib.hid hb4
    have hSn : Hid ((S ++ [s]).map (·.1) = (new.map (·.x)).take (j + 1)) := by
     show _ = _
     rw [List.map_append, hS.out, List.take_add_one, List.getElem?_map, hz.out, hs.out]; rfl
    have hatn : Hid (∀ s' ∈ S ++ [s], AttrsAt w7 w7.heap.size s'.2.1 s'.1.attrs ∧ s'.1.attrs.length ≤ s'.2.2) := fun s' hs' => by
     rcases List.mem_append.1 hs' with h | h
     ·exact hat.out s' h
     ·rw [List.mem_singleton.1 h, hs.out]; exact HZA.out
    clear z0 z1 z2 z3 z4 z5 hpb hza hzc hb2 hx2 hown2 hrow4 hg4 hf4 hlow hb4 hown4 hab
    go_wp2_with (at_builtin; refine wpList_append_runI _ rfl _ _ 34 rfl (.slice A2 j c2) (.slice (some ⟨wr.heap.size, 0, none⟩) 1 1) (by simp [Act.eval]) (by simp [Act.eval]) hr4 ?_)
    go_roundw
    case rel => exact ⟨j + 1, pa, pc, S ++ [s], by omega, by go_num, rfl, by show _ = _; simp [hSl.out], hSn.out, HOWN4.out, hatn.out, HB4.out⟩
    case measure => simp [intOf]; omega
   ·have hlt' : ¬ (j : Int) < (new.length : Int) := by omega
    have hfin : Hid (S.map (·.1) = new.map (·.x)) := by
     show _ = _
     rw [hS.out, List.take_of_length_le (by rw [List.length_map]; omega)]
    have HFL : Hid (j = IT.length) := by show _ = _; rw [HE.out, ← hfin.out, List.length_map, hSl.out]
    go_wp2_with fail
    go_ret
    refine ⟨A2, c2, by rw [← HFL.out]; rfl, ?_, HB3.out.trans ((HB37.out.trans (hbel.out.mono HB37.out.size)).mono HB3.out.size)⟩
    rw [HE.out, ← hfin.out]
    exact ItemsOwn.at (World.ownsRow.mono hown.out (Nat.zero_le _)) fun s hs => ⟨((hat.out s hs).1.below hbel.out).more hbel.out.size, (hat.out s hs).2⟩
end
section
open Go.RowKit
theorem beq_str (a c : List UInt8) : (ByteArray.toList ⟨a.toArray⟩ == ByteArray.toList ⟨c.toArray⟩) = decide (a = c) := by
 rw [ByteArray.toList_eq, ByteArray.toList_eq]
 show (a.toArray.toList == c.toArray.toList) = _
 cases h : (a == c) <;> simp_all
theorem attr_neq (a b c d : List UInt8) (w : World) : (binOp .neq 66 (.agg #[.string ⟨a.toArray⟩, .string ⟨b.toArray⟩]) (.agg #[.string ⟨c.toArray⟩, .string ⟨d.toArray⟩])).run Tryz.prog w = .ok (.bool (!(decide (a = c) && decide (b = d)))) w := by
 rw [run_neq_struct, run_equalIn_struct w 9999 _ _ _ (by kernel_rfl) (by kernel_rfl)]
 rw [← beq_str a c, ← beq_str b d]
 generalize (⟨a.toArray⟩ : ByteArray) = x
 generalize (⟨b.toArray⟩ : ByteArray) = y
 generalize (⟨c.toArray⟩ : ByteArray) = z
 generalize (⟨d.toArray⟩ : ByteArray) = v
 simp [go_sem]
 by_cases h1 : x.toList = z.toList <;> by_cases h2 : y.toList = v.toList <;> simp [h1, h2]
theorem SameAttrs_any (l m : List AttrD) (A B : Option Addr) (c d : Nat) (w : World) (hA : AttrsAt w w.heap.size A l) (hB : AttrsAt w w.heap.size B m) (hl : l.length ≤ 1000000000) (hm : m.length ≤ 1000000000) (R : Bool) (hR : Hid (decide (l = m) = R)) :
  Calls Tryz.prog 50 #[.slice A l.length c, .slice B m.length d] w (Ret w (.bool R)) := by
 have HA := Lib.hid hA
 have HB := Lib.hid hB
 clear hA hB
 by_cases hne : l.length = m.length
 ·have hR0 : Hid (decide (l.drop 0 = m.drop 0) = R) := hR
  have t0 : ((l.length : Int) != m.length) = false := by simp [hne]
  have HNE := Lib.hid hne
  clear hne hR
  go_enter Tryz.func50, Tryz.ntmps50
  go_wp2_with fail
  go_loopw [5] (fun i wr => ∃ (k : Nat), k ≤ l.length ∧ i = .int .i64 k ∧ Hid (decide (l.drop k = m.drop k) = R) ∧ Below w.heap.size w wr) (fun i _ => l.length - (intOf i).toNat)
  case atStart => exact ⟨0, Nat.zero_le _, rfl, hR0, Below.refl _ _⟩
  case round =>
   obtain ⟨k, hk, rfl, hin, hbel⟩ := hrel
   have hzr := hbel.size
   by_cases hlt : k < l.length
   ·have hlm : k < m.length := by have := HNE.out; omega
    obtain ⟨a, ha⟩ : ∃ a, Hid (l[k]? = some a) := ⟨l[k], List.getElem?_eq_getElem _⟩
    obtain ⟨b, hb⟩ : ∃ b, Hid (m[k]? = some b) := ⟨m[k], List.getElem?_eq_getElem _⟩
    obtain ⟨ad, hAd, hab, hac⟩ := HA.out (by omega)
    obtain ⟨bd, hBd, hbb, hbc⟩ := HB.out (by omega)
    subst hAd; subst hBd
    have hlt' : (k : Int) < l.length := by omega
    have hlm' : (k : Int) < m.length := by omega
    have hk0 : (0 : Int) ≤ (k : Int) := by omega
    have HS : Hid (wr.drew.cell? (ad.add (k * 2)) = some (.string ⟨a.name.toArray⟩) ∧ wr.drew.cell? ⟨(ad.add (k * 2)).block, (ad.add (k * 2)).off + 1, none⟩ = some (.string ⟨a.value.toArray⟩) ∧ wr.drew.cell? (bd.add (k * 2)) = some (.string ⟨b.name.toArray⟩) ∧ wr.drew.cell? ⟨(bd.add (k * 2)).block, (bd.add (k * 2)).off + 1, none⟩ = some (.string ⟨b.value.toArray⟩)) := by
     have hb' := hbel.drew
     refine ⟨?_, ?_, ?_, ?_⟩
     ·rw [hb'.cell (by rw [block_of_add]; exact hab)]; exact (hac k a ha.out).1
     ·rw [hb'.cell (by show (ad.add _).block < _; rw [block_of_add]; exact hab)]; exact (hac k a ha.out).2
     ·rw [hb'.cell (by rw [block_of_add]; exact hbb)]; exact (hbc k b hb.out).1
     ·rw [hb'.cell (by show (bd.add _).block < _; rw [block_of_add]; exact hbb)]; exact (hbc k b hb.out).2
    clear hac hbc
    have hin' := hin.out
    rw [drop_cons ha.out, drop_cons hb.out] at hin'
    have hneq := fun w' => attr_neq a.name a.value b.name b.value w'
    by_cases he : a.name = b.name ∧ a.value = b.value
    ·have HIN : Hid (decide (l.drop (k + 1) = m.drop (k + 1)) = R) := by
      show _ = _
      rw [← hin']
      have : a = b := by cases a; cases b; simp_all
      simp [this]
     have he' : (decide (a.name = b.name) && decide (a.value = b.value)) = true := by simpa using he
     simp only [he', Bool.not_true] at hneq
     clear he he' hin' hin
     go_wp2_with fail
     refine wp_region_held_drew (S := fun w' => w'.cell? (ad.add (k * 2)) = some (.string ⟨a.name.toArray⟩) ∧ w'.cell? ⟨(ad.add (k * 2)).block, (ad.add (k * 2)).off + 1, none⟩ = some (.string ⟨a.value.toArray⟩) ∧ w'.cell? (bd.add (k * 2)) = some (.string ⟨b.name.toArray⟩) ∧ w'.cell? ⟨(bd.add (k * 2)).block, (bd.add (k * 2)).off + 1, none⟩ = some (.string ⟨b.value.toArray⟩)) (by kernel_rfl) HS.out (fun hHeld => ?_)
     refine tkv 0 (h := tkv 1 (h := tkv 2 (h := tkv 3 (h := tkv 4 (h := tkv 5 (h := ?_))))))
     refine tkv 6 (h := tkv 7 (h := tkv 8 (h := ?_)))
     refine wpAnyH_done (by kernel_rfl) ?_ _
     clear hneq hHeld
     go_wp2_with fail
     go_roundw
     case rel => exact ⟨k + 1, by omega, by go_num, HIN, hbel.drew⟩
     case measure => simp [intOf]; omega
    ·have HIN : Hid (R = false) := by
      show _ = _
      rw [← hin']
      have : a ≠ b := fun h => he (by rw [h]; exact ⟨rfl, rfl⟩)
      simp [this]
     have he' : (decide (a.name = b.name) && decide (a.value = b.value)) = false := by
      cases h : (decide (a.name = b.name) && decide (a.value = b.value)) with
      | false => rfl
      | true => exact absurd (by simpa using h) he
     simp only [he', Bool.not_false] at hneq
     clear he he' hin' hin
     go_wp2_with fail
     refine wp_region_held_drew (S := fun w' => w'.cell? (ad.add (k * 2)) = some (.string ⟨a.name.toArray⟩) ∧ w'.cell? ⟨(ad.add (k * 2)).block, (ad.add (k * 2)).off + 1, none⟩ = some (.string ⟨a.value.toArray⟩) ∧ w'.cell? (bd.add (k * 2)) = some (.string ⟨b.name.toArray⟩) ∧ w'.cell? ⟨(bd.add (k * 2)).block, (bd.add (k * 2)).off + 1, none⟩ = some (.string ⟨b.value.toArray⟩)) (by kernel_rfl) HS.out (fun hHeld => ?_)
     refine tkv 0 (h := tkv 1 (h := tkv 2 (h := tkv 3 (h := tkv 4 (h := tkv 5 (h := ?_))))))
     refine tkv 6 (h := tkv 7 (h := tkv 8 (h := ?_)))
     refine wpAnyH_done (by kernel_rfl) ?_ _
     clear hneq hHeld
     go_wp2_with fail
     go_ret
     exact ⟨by rw [HIN.out]; rfl, hbel.drew⟩
   ·have HIN : Hid (R = true) := by
     show _ = _
     have := HNE.out
     rw [← hin.out, List.drop_eq_nil_of_le (by omega), List.drop_eq_nil_of_le (by omega)]; rfl
    have hk' : k = l.length := by omega
    subst hk'
    clear hin hlt hk
    go_wp2_with fail
    go_ret
    exact ⟨by rw [HIN.out]; rfl, hbel⟩
 ·have hv : Hid (R = false) := by
   show _ = _
   rw [← hR.out]
   simp only [decide_eq_false_iff_not]
   intro h; rw [h] at hne; exact hne rfl
  have t0 : ((l.length : Int) != m.length) = true := by simp; omega
  clear hne hR
  go_enter Tryz.func50, Tryz.ntmps50
  go_wp2_with fail
  go_ret
  exact ⟨by rw [hv.out]; rfl, Below.refl _ _⟩
end
section
open Go.RowKit
def TwoAt (ad bd : Addr) (k : Nat) (x y : ItemD) (A B : Option Addr) (c d : Nat) (w : World) : Prop :=
 w.cell? (ad.add (k * 5)) = some (.int .i64 x.level) ∧ w.cell? ⟨(ad.add (k * 5)).block, (ad.add (k * 5)).off + 1, none⟩ = some (.int .i64 x.kind) ∧ w.cell? ⟨(ad.add (k * 5)).block, (ad.add (k * 5)).off + 2, none⟩ = some (.string ⟨x.name.toArray⟩) ∧
 w.cell? ⟨(ad.add (k * 5)).block, (ad.add (k * 5)).off + 3, none⟩ = some (.string ⟨x.text.toArray⟩) ∧ w.cell? ⟨(ad.add (k * 5)).block, (ad.add (k * 5)).off + 4, none⟩ = some (.slice A x.attrs.length c) ∧
 w.cell? (bd.add (k * 5)) = some (.int .i64 y.level) ∧ w.cell? ⟨(bd.add (k * 5)).block, (bd.add (k * 5)).off + 1, none⟩ = some (.int .i64 y.kind) ∧ w.cell? ⟨(bd.add (k * 5)).block, (bd.add (k * 5)).off + 2, none⟩ = some (.string ⟨y.name.toArray⟩) ∧
 w.cell? ⟨(bd.add (k * 5)).block, (bd.add (k * 5)).off + 3, none⟩ = some (.string ⟨y.text.toArray⟩) ∧ w.cell? ⟨(bd.add (k * 5)).block, (bd.add (k * 5)).off + 4, none⟩ = some (.slice B y.attrs.length d)
theorem TwoAt.keep {ad bd : Addr} {k : Nat} {x y : ItemD} {A B : Option Addr} {c d : Nat} {w w' : World} (h : TwoAt ad bd k x y A B c d w) {N : Nat} (ha : ad.block < N) (hb : bd.block < N) (hw : Below N w w') : TwoAt ad bd k x y A B c d w' := by
 obtain ⟨h0, h1, h2, h3, h4, g0, g1, g2, g3, g4⟩ := h
 have ka : ∀ j, w'.cell? ⟨(ad.add (k * 5)).block, j, none⟩ = w.cell? ⟨(ad.add (k * 5)).block, j, none⟩ := fun j => hw.cell (by show (ad.add _).block < _; rw [block_of_add]; exact ha)
 have kb : ∀ j, w'.cell? ⟨(bd.add (k * 5)).block, j, none⟩ = w.cell? ⟨(bd.add (k * 5)).block, j, none⟩ := fun j => hw.cell (by show (bd.add _).block < _; rw [block_of_add]; exact hb)
 exact ⟨(hw.cell (by rw [block_of_add]; exact ha)).trans h0, (ka _).trans h1, (ka _).trans h2, (ka _).trans h3, (ka _).trans h4, (hw.cell (by rw [block_of_add]; exact hb)).trans g0, (kb _).trans g1, (kb _).trans g2, (kb _).trans g3, (kb _).trans g4⟩
theorem drop_eq_cons {α : Type} {l m : List α} {k : Nat} {a b : α} (ha : l[k]? = some a) (hb : m[k]? = some b) : l.drop k = m.drop k ↔ (a = b ∧ l.drop (k + 1) = m.drop (k + 1)) := by
 rw [drop_cons ha, drop_cons hb]
 simp
theorem item_eq (x y : ItemD) : x = y ↔ (x.level = y.level ∧ x.kind = y.kind ∧ x.name = y.name ∧ x.text = y.text ∧ x.attrs = y.attrs) := by
 constructor
 ·rintro rfl; exact ⟨rfl, rfl, rfl, rfl, rfl⟩
 ·rintro ⟨h1, h2, h3, h4, h5⟩; cases x; cases y; simp_all
end
section
open Go.RowKit
theorem RSame_any (l m : List ItemD) (A B : Option Addr) (c d : Nat) (w : World) (hA : ItemsAt w w.heap.size A l) (hB : ItemsAt w w.heap.size B m) (hl : SmallItems l) (hm : SmallItems m) (R : Bool) (hR : Hid (decide (l = m) = R)) :
  Calls Tryz.prog 21 #[.slice A l.length c, .slice B m.length d] w (Ret w (.bool R)) := by
 have HA := Lib.hid hA
 have HB := Lib.hid hB
 obtain ⟨hl1, hl2⟩ := hl
 obtain ⟨hm1, hm2⟩ := hm
 have HL := Lib.hid hl2
 have HM := Lib.hid hm2
 clear hA hB hl2 hm2
 by_cases hne : l.length = m.length
 ·have hR0 : Hid (decide (l.drop 0 = m.drop 0) = R) := hR
  have t0 : ((l.length : Int) != m.length) = false := by simp [hne]
  have HNE := Lib.hid hne
  clear hne hR
  go_enter Tryz.func21, Tryz.ntmps21
  go_wp2_with fail
  go_loopw [5] (fun i wr => ∃ (k : Nat), k ≤ l.length ∧ i = .int .i64 k ∧ Hid (decide (l.drop k = m.drop k) = R) ∧ Below w.heap.size w wr) (fun i _ => l.length - (intOf i).toNat)
  case atStart => exact ⟨0, Nat.zero_le _, rfl, hR0, Below.refl _ _⟩
  case round =>
   obtain ⟨k, hk, rfl, hin, hbel⟩ := hrel
   have hzr := hbel.size
   by_cases hlt : k < l.length
   ·have hlm : k < m.length := by have := HNE.out; omega
    obtain ⟨x, hx⟩ : ∃ x, Hid (l[k]? = some x) := ⟨l[k], List.getElem?_eq_getElem _⟩
    obtain ⟨y, hy⟩ : ∃ y, Hid (m[k]? = some y) := ⟨m[k], List.getElem?_eq_getElem _⟩
    obtain ⟨ad, hAd, _, _⟩ := HA.out (by omega)
    obtain ⟨bd, hBd, _, _⟩ := HB.out (by omega)
    subst hAd; subst hBd
    obtain ⟨hab, A', c', hat, _, h0, h1, h2, h3, h4⟩ := HA.out.item hx.out
    obtain ⟨hbb, B', d', hbt, _, g0, g1, g2, g3, g4⟩ := HB.out.item hy.out
    have HTW : Hid (TwoAt ad bd k x y A' B' c' d' wr.drew) := TwoAt.keep (w := w) ⟨h0, h1, h2, h3, h4, g0, g1, g2, g3, g4⟩ hab hbb hbel.drew
    have HAT := Lib.hid hat
    have HBT := Lib.hid hbt
    clear h0 h1 h2 h3 h4 g0 g1 g2 g3 g4 hat hbt
    have hsx := (HL.out k x hx.out).2.2.1
    have hsy := (HM.out k y hy.out).2.2.1
    have hlt' : (k : Int) < l.length := by omega
    have hlm' : (k : Int) < m.length := by omega
    have hk0 : (0 : Int) ≤ (k : Int) := by omega
    have hin' := hin.out
    have hde := drop_eq_cons hx.out hy.out
    rw [item_eq] at hde
    have HDE := Lib.hid hde
    clear hde
    by_cases e1 : x.level = y.level
    ·have f1 : (x.level != y.level) = false := by simp [e1]
     by_cases e2 : x.kind = y.kind
     ·have f2 : (x.kind != y.kind) = false := by simp [e2]
      by_cases e3 : x.name = y.name
      ·have f3 : (x.name == y.name) = true := by simp [e3]
       by_cases e4 : x.text = y.text
       ·have f4 : (x.text == y.text) = true := by simp [e4]
        obtain ⟨q, hq⟩ : ∃ q, Hid (decide (x.attrs = y.attrs) = q) := ⟨_, rfl⟩
        cases q with
        | true =>
         have HIN : Hid (decide (l.drop (k + 1) = m.drop (k + 1)) = R) := by
          show _ = _
          have e5 : x.attrs = y.attrs := of_decide_eq_true hq.out
          rw [← hin']
          exact decide_eq_decide.2 ⟨fun h => HDE.out.2 ⟨⟨e1, e2, e3, e4, e5⟩, h⟩, fun h => (HDE.out.1 h).2⟩
         clear e1 e2 e3 e4 hin' hin
         go_wp2_with fail
         refine wp_region_held_drew (S := fun w' => w'.cell? (ad.add (k * 5)) = some (.int .i64 x.level) ∧ w'.cell? ⟨(ad.add (k * 5)).block, (ad.add (k * 5)).off + 1, none⟩ = some (.int .i64 x.kind) ∧ w'.cell? ⟨(ad.add (k * 5)).block, (ad.add (k * 5)).off + 2, none⟩ = some (.string ⟨x.name.toArray⟩) ∧ w'.cell? ⟨(ad.add (k * 5)).block, (ad.add (k * 5)).off + 3, none⟩ = some (.string ⟨x.text.toArray⟩) ∧ w'.cell? ⟨(ad.add (k * 5)).block, (ad.add (k * 5)).off + 4, none⟩ = some (.slice A' x.attrs.length c') ∧ w'.cell? (bd.add (k * 5)) = some (.int .i64 y.level) ∧ w'.cell? ⟨(bd.add (k * 5)).block, (bd.add (k * 5)).off + 1, none⟩ = some (.int .i64 y.kind) ∧ w'.cell? ⟨(bd.add (k * 5)).block, (bd.add (k * 5)).off + 2, none⟩ = some (.string ⟨y.name.toArray⟩) ∧ w'.cell? ⟨(bd.add (k * 5)).block, (bd.add (k * 5)).off + 3, none⟩ = some (.string ⟨y.text.toArray⟩) ∧ w'.cell? ⟨(bd.add (k * 5)).block, (bd.add (k * 5)).off + 4, none⟩ = some (.slice B' y.attrs.length d')) (by kernel_rfl) HTW.out (fun hHeld => ?_)
         refine tkv 0 (h := tkv 1 (h := tkv 2 (h := tkv 3 (h := tkv 4 (h := tkv 5 (h := ?_))))))
         refine tkv 6 (h := tkv 7 (h := tkv 8 (h := tkv 9 (h := tkv 10 (h := tkv 11 (h := ?_))))))
         refine tkv 12 (h := tkv 13 (h := tkv 14 (h := tkv 15 (h := tkv 16 (h := tkv 17 (h := ?_))))))
         refine tkv 18 (h := tkv 19 (h := tkv 20 (h := tkv 21 (h := tkv 22 (h := tkv 23 (h := ?_))))))
         refine tkv 24 (h := tkv 25 (h := tkv 26 (h := tkv 27 (h := tkv 28 (h := tkv 29 (h := ?_))))))
         refine tkv 30 (h := tkv 31 (h := tkv 32 (h := tkv 33 (h := tkv 34 (h := tkv 35 (h := ?_))))))
         refine tkv 36 (h := tkv 37 (h := tkv 38 (h := tkv 39 (h := tkv 40 (h := tkv 41 (h := ?_))))))
         refine tkv 42 (h := tkv 43 (h := tkv 44 (h := tkv 45 (h := tkv 46 (h := tkv 47 (h := ?_))))))
         refine tkv 48 (h := tkv 49 (h := tkv 50 (h := tkv 51 (h := tkv 52 (h := tkv 53 (h := ?_))))))
         refine tkv 54 (h := tkv 55 (h := tkv 56 (h := tkv 57 (h := tkv 58 (h := tkv 59 (h := ?_))))))
         refine tkv 60 (h := ?_)
         refine rdy 61 (fun K hK => ?_)
         go_simp
         refine (SameAttrs_any x.attrs y.attrs A' B' c' d' _ ((HAT.out.below hbel.drew).more hbel.drew.size) ((HBT.out.below hbel.drew).more hbel.drew.size) hsx hsy true hq).mono ?_; rintro e w3 ⟨rfl, hb3⟩
         go_wp2_with fail
         refine hK.out _ _ (HTW.out.keep hab hbb (hb3.mono hbel.drew.size)) (fun hHeld => ?_)
         clear hK K
         try go_frame
         refine tkv 62 (h := tkv 63 (h := ?_))
         refine wpAnyH_done (by kernel_rfl) ?_ _
         have hb3' := hbel.drew.trans (hb3.mono hbel.drew.size)
         clear hHeld
         go_wp2_with fail
         go_roundw
         case rel => exact ⟨k + 1, by omega, by go_num, HIN, hb3'⟩
         case measure => simp [intOf]; omega
        | false =>
         have HIN : Hid (R = false) := by
          show _ = _
          have e5 : x.attrs ≠ y.attrs := of_decide_eq_false hq.out
          rw [← hin']
          simp only [decide_eq_false_iff_not]
          intro h
          exact e5 (HDE.out.1 h).1.2.2.2.2
         clear e1 e2 e3 e4 hin' hin
         go_wp2_with fail
         refine wp_region_held_drew (S := fun w' => w'.cell? (ad.add (k * 5)) = some (.int .i64 x.level) ∧ w'.cell? ⟨(ad.add (k * 5)).block, (ad.add (k * 5)).off + 1, none⟩ = some (.int .i64 x.kind) ∧ w'.cell? ⟨(ad.add (k * 5)).block, (ad.add (k * 5)).off + 2, none⟩ = some (.string ⟨x.name.toArray⟩) ∧ w'.cell? ⟨(ad.add (k * 5)).block, (ad.add (k * 5)).off + 3, none⟩ = some (.string ⟨x.text.toArray⟩) ∧ w'.cell? ⟨(ad.add (k * 5)).block, (ad.add (k * 5)).off + 4, none⟩ = some (.slice A' x.attrs.length c') ∧ w'.cell? (bd.add (k * 5)) = some (.int .i64 y.level) ∧ w'.cell? ⟨(bd.add (k * 5)).block, (bd.add (k * 5)).off + 1, none⟩ = some (.int .i64 y.kind) ∧ w'.cell? ⟨(bd.add (k * 5)).block, (bd.add (k * 5)).off + 2, none⟩ = some (.string ⟨y.name.toArray⟩) ∧ w'.cell? ⟨(bd.add (k * 5)).block, (bd.add (k * 5)).off + 3, none⟩ = some (.string ⟨y.text.toArray⟩) ∧ w'.cell? ⟨(bd.add (k * 5)).block, (bd.add (k * 5)).off + 4, none⟩ = some (.slice B' y.attrs.length d')) (by kernel_rfl) HTW.out (fun hHeld => ?_)
         refine tkv 0 (h := tkv 1 (h := tkv 2 (h := tkv 3 (h := tkv 4 (h := tkv 5 (h := ?_))))))
         refine tkv 6 (h := tkv 7 (h := tkv 8 (h := tkv 9 (h := tkv 10 (h := tkv 11 (h := ?_))))))
         refine tkv 12 (h := tkv 13 (h := tkv 14 (h := tkv 15 (h := tkv 16 (h := tkv 17 (h := ?_))))))
         refine tkv 18 (h := tkv 19 (h := tkv 20 (h := tkv 21 (h := tkv 22 (h := tkv 23 (h := ?_))))))
         refine tkv 24 (h := tkv 25 (h := tkv 26 (h := tkv 27 (h := tkv 28 (h := tkv 29 (h := ?_))))))
         refine tkv 30 (h := tkv 31 (h := tkv 32 (h := tkv 33 (h := tkv 34 (h := tkv 35 (h := ?_))))))
         refine tkv 36 (h := tkv 37 (h := tkv 38 (h := tkv 39 (h := tkv 40 (h := tkv 41 (h := ?_))))))
         refine tkv 42 (h := tkv 43 (h := tkv 44 (h := tkv 45 (h := tkv 46 (h := tkv 47 (h := ?_))))))
         refine tkv 48 (h := tkv 49 (h := tkv 50 (h := tkv 51 (h := tkv 52 (h := tkv 53 (h := ?_))))))
         refine tkv 54 (h := tkv 55 (h := tkv 56 (h := tkv 57 (h := tkv 58 (h := tkv 59 (h := ?_))))))
         refine tkv 60 (h := ?_)
         refine rdy 61 (fun K hK => ?_)
         go_simp
         refine (SameAttrs_any x.attrs y.attrs A' B' c' d' _ ((HAT.out.below hbel.drew).more hbel.drew.size) ((HBT.out.below hbel.drew).more hbel.drew.size) hsx hsy false hq).mono ?_; rintro e w3 ⟨rfl, hb3⟩
         go_wp2_with fail
         refine hK.out _ _ (HTW.out.keep hab hbb (hb3.mono hbel.drew.size)) (fun hHeld => ?_)
         clear hK K
         try go_frame
         refine tkv 62 (h := tkv 63 (h := ?_))
         refine wpAnyH_done (by kernel_rfl) ?_ _
         have hb3' := hbel.drew.trans (hb3.mono hbel.drew.size)
         clear hHeld
         go_wp2_with fail
         go_ret
         exact ⟨by rw [HIN.out]; rfl, hb3'⟩
       ·skip
        have HIN : Hid (R = false) := by
         show _ = _
         rw [← hin']
         simp only [decide_eq_false_iff_not]
         intro h
         exact e4 (HDE.out.1 h).1.2.2.2.1
        have f4 : (x.text == y.text) = false := by simp [e4]
        clear e1 e2 e3 e4
        clear hin' hin
        go_wp2_with fail
        refine wp_region_held_drew (S := fun w' => w'.cell? (ad.add (k * 5)) = some (.int .i64 x.level) ∧ w'.cell? ⟨(ad.add (k * 5)).block, (ad.add (k * 5)).off + 1, none⟩ = some (.int .i64 x.kind) ∧ w'.cell? ⟨(ad.add (k * 5)).block, (ad.add (k * 5)).off + 2, none⟩ = some (.string ⟨x.name.toArray⟩) ∧ w'.cell? ⟨(ad.add (k * 5)).block, (ad.add (k * 5)).off + 3, none⟩ = some (.string ⟨x.text.toArray⟩) ∧ w'.cell? ⟨(ad.add (k * 5)).block, (ad.add (k * 5)).off + 4, none⟩ = some (.slice A' x.attrs.length c') ∧ w'.cell? (bd.add (k * 5)) = some (.int .i64 y.level) ∧ w'.cell? ⟨(bd.add (k * 5)).block, (bd.add (k * 5)).off + 1, none⟩ = some (.int .i64 y.kind) ∧ w'.cell? ⟨(bd.add (k * 5)).block, (bd.add (k * 5)).off + 2, none⟩ = some (.string ⟨y.name.toArray⟩) ∧ w'.cell? ⟨(bd.add (k * 5)).block, (bd.add (k * 5)).off + 3, none⟩ = some (.string ⟨y.text.toArray⟩) ∧ w'.cell? ⟨(bd.add (k * 5)).block, (bd.add (k * 5)).off + 4, none⟩ = some (.slice B' y.attrs.length d')) (by kernel_rfl) HTW.out (fun hHeld => ?_)
        refine tkv 0 (h := tkv 1 (h := tkv 2 (h := tkv 3 (h := tkv 4 (h := tkv 5 (h := ?_))))))
        refine tkv 6 (h := tkv 7 (h := tkv 8 (h := tkv 9 (h := tkv 10 (h := tkv 11 (h := ?_))))))
        refine tkv 12 (h := tkv 13 (h := tkv 14 (h := tkv 15 (h := tkv 16 (h := tkv 17 (h := ?_))))))
        refine tkv 18 (h := tkv 19 (h := tkv 20 (h := tkv 21 (h := tkv 22 (h := tkv 23 (h := ?_))))))
        refine tkv 24 (h := tkv 25 (h := tkv 26 (h := tkv 27 (h := tkv 28 (h := tkv 29 (h := ?_))))))
        refine tkv 30 (h := tkv 31 (h := tkv 32 (h := tkv 33 (h := tkv 34 (h := tkv 35 (h := ?_))))))
        refine tkv 36 (h := tkv 37 (h := tkv 38 (h := tkv 39 (h := tkv 40 (h := tkv 41 (h := ?_))))))
        refine tkv 42 (h := tkv 43 (h := tkv 44 (h := tkv 45 (h := tkv 46 (h := tkv 47 (h := ?_))))))
        refine tkv 48 (h := tkv 49 (h := tkv 50 (h := ?_)))
        refine tkn 51 (h := tkn 52 (h := tkn 53 (h := tkn 54 (h := tkn 55 (h := tkn 56 (h := ?_))))))
        refine tkn 57 (h := tkn 58 (h := tkn 59 (h := tkn 60 (h := tkn 61 (h := tkn 62 (h := ?_))))))
        refine tkv 63 (h := ?_)
        refine wpAnyH_done (by kernel_rfl) ?_ _
        clear hHeld
        go_wp2_with fail
        go_ret
        exact ⟨by rw [HIN.out]; rfl, hbel.drew⟩
      ·skip
       have HIN : Hid (R = false) := by
        show _ = _
        rw [← hin']
        simp only [decide_eq_false_iff_not]
        intro h
        exact e3 (HDE.out.1 h).1.2.2.1
       have f3 : (x.name == y.name) = false := by simp [e3]
       clear e1 e2 e3
       clear hin' hin
       go_wp2_with fail
       refine wp_region_held_drew (S := fun w' => w'.cell? (ad.add (k * 5)) = some (.int .i64 x.level) ∧ w'.cell? ⟨(ad.add (k * 5)).block, (ad.add (k * 5)).off + 1, none⟩ = some (.int .i64 x.kind) ∧ w'.cell? ⟨(ad.add (k * 5)).block, (ad.add (k * 5)).off + 2, none⟩ = some (.string ⟨x.name.toArray⟩) ∧ w'.cell? ⟨(ad.add (k * 5)).block, (ad.add (k * 5)).off + 3, none⟩ = some (.string ⟨x.text.toArray⟩) ∧ w'.cell? ⟨(ad.add (k * 5)).block, (ad.add (k * 5)).off + 4, none⟩ = some (.slice A' x.attrs.length c') ∧ w'.cell? (bd.add (k * 5)) = some (.int .i64 y.level) ∧ w'.cell? ⟨(bd.add (k * 5)).block, (bd.add (k * 5)).off + 1, none⟩ = some (.int .i64 y.kind) ∧ w'.cell? ⟨(bd.add (k * 5)).block, (bd.add (k * 5)).off + 2, none⟩ = some (.string ⟨y.name.toArray⟩) ∧ w'.cell? ⟨(bd.add (k * 5)).block, (bd.add (k * 5)).off + 3, none⟩ = some (.string ⟨y.text.toArray⟩) ∧ w'.cell? ⟨(bd.add (k * 5)).block, (bd.add (k * 5)).off + 4, none⟩ = some (.slice B' y.attrs.length d')) (by kernel_rfl) HTW.out (fun hHeld => ?_)
       refine tkv 0 (h := tkv 1 (h := tkv 2 (h := tkv 3 (h := tkv 4 (h := tkv 5 (h := ?_))))))
       refine tkv 6 (h := tkv 7 (h := tkv 8 (h := tkv 9 (h := tkv 10 (h := tkv 11 (h := ?_))))))
       refine tkv 12 (h := tkv 13 (h := tkv 14 (h := tkv 15 (h := tkv 16 (h := tkv 17 (h := ?_))))))
       refine tkv 18 (h := tkv 19 (h := tkv 20 (h := tkv 21 (h := tkv 22 (h := tkv 23 (h := ?_))))))
       refine tkv 24 (h := tkv 25 (h := tkv 26 (h := tkv 27 (h := tkv 28 (h := tkv 29 (h := ?_))))))
       refine tkv 30 (h := tkv 31 (h := tkv 32 (h := tkv 33 (h := tkv 34 (h := tkv 35 (h := ?_))))))
       refine tkv 36 (h := tkv 37 (h := ?_))
       refine tkn 38 (h := tkn 39 (h := tkn 40 (h := tkn 41 (h := tkn 42 (h := tkn 43 (h := ?_))))))
       refine tkn 44 (h := tkn 45 (h := tkn 46 (h := tkn 47 (h := tkn 48 (h := ?_)))))
       refine tkv 49 (h := tkv 50 (h := ?_))
       refine tkn 51 (h := tkn 52 (h := tkn 53 (h := tkn 54 (h := tkn 55 (h := tkn 56 (h := ?_))))))
       refine tkn 57 (h := tkn 58 (h := tkn 59 (h := tkn 60 (h := tkn 61 (h := tkn 62 (h := ?_))))))
       refine tkv 63 (h := ?_)
       refine wpAnyH_done (by kernel_rfl) ?_ _
       clear hHeld
       go_wp2_with fail
       go_ret
       exact ⟨by rw [HIN.out]; rfl, hbel.drew⟩
     ·skip
      have HIN : Hid (R = false) := by
       show _ = _
       rw [← hin']
       simp only [decide_eq_false_iff_not]
       intro h
       exact e2 (HDE.out.1 h).1.2.1
      have f2 : (x.kind != y.kind) = true := by simp [e2]
      clear e1 e2
      clear hin' hin
      go_wp2_with fail
      refine wp_region_held_drew (S := fun w' => w'.cell? (ad.add (k * 5)) = some (.int .i64 x.level) ∧ w'.cell? ⟨(ad.add (k * 5)).block, (ad.add (k * 5)).off + 1, none⟩ = some (.int .i64 x.kind) ∧ w'.cell? ⟨(ad.add (k * 5)).block, (ad.add (k * 5)).off + 2, none⟩ = some (.string ⟨x.name.toArray⟩) ∧ w'.cell? ⟨(ad.add (k * 5)).block, (ad.add (k * 5)).off + 3, none⟩ = some (.string ⟨x.text.toArray⟩) ∧ w'.cell? ⟨(ad.add (k * 5)).block, (ad.add (k * 5)).off + 4, none⟩ = some (.slice A' x.attrs.length c') ∧ w'.cell? (bd.add (k * 5)) = some (.int .i64 y.level) ∧ w'.cell? ⟨(bd.add (k * 5)).block, (bd.add (k * 5)).off + 1, none⟩ = some (.int .i64 y.kind) ∧ w'.cell? ⟨(bd.add (k * 5)).block, (bd.add (k * 5)).off + 2, none⟩ = some (.string ⟨y.name.toArray⟩) ∧ w'.cell? ⟨(bd.add (k * 5)).block, (bd.add (k * 5)).off + 3, none⟩ = some (.string ⟨y.text.toArray⟩) ∧ w'.cell? ⟨(bd.add (k * 5)).block, (bd.add (k * 5)).off + 4, none⟩ = some (.slice B' y.attrs.length d')) (by kernel_rfl) HTW.out (fun hHeld => ?_)
      refine tkv 0 (h := tkv 1 (h := tkv 2 (h := tkv 3 (h := tkv 4 (h := tkv 5 (h := ?_))))))
      refine tkv 6 (h := tkv 7 (h := tkv 8 (h := tkv 9 (h := tkv 10 (h := tkv 11 (h := ?_))))))
      refine tkv 12 (h := tkv 13 (h := tkv 14 (h := tkv 15 (h := tkv 16 (h := tkv 17 (h := ?_))))))
      refine tkv 18 (h := tkv 19 (h := tkv 20 (h := tkv 21 (h := tkv 22 (h := tkv 23 (h := ?_))))))
      refine tkv 24 (h := ?_)
      refine tkn 25 (h := tkn 26 (h := tkn 27 (h := tkn 28 (h := tkn 29 (h := tkn 30 (h := ?_))))))
      refine tkn 31 (h := tkn 32 (h := tkn 33 (h := tkn 34 (h := tkn 35 (h := ?_)))))
      refine tkv 36 (h := tkv 37 (h := ?_))
      refine tkn 38 (h := tkn 39 (h := tkn 40 (h := tkn 41 (h := tkn 42 (h := tkn 43 (h := ?_))))))
      refine tkn 44 (h := tkn 45 (h := tkn 46 (h := tkn 47 (h := tkn 48 (h := ?_)))))
      refine tkv 49 (h := tkv 50 (h := ?_))
      refine tkn 51 (h := tkn 52 (h := tkn 53 (h := tkn 54 (h := tkn 55 (h := tkn 56 (h := ?_))))))
      refine tkn 57 (h := tkn 58 (h := tkn 59 (h := tkn 60 (h := tkn 61 (h := tkn 62 (h := ?_))))))
      refine tkv 63 (h := ?_)
      refine wpAnyH_done (by kernel_rfl) ?_ _
      clear hHeld
      go_wp2_with fail
      go_ret
      exact ⟨by rw [HIN.out]; rfl, hbel.drew⟩
    ·skip
     have HIN : Hid (R = false) := by
      show _ = _
      rw [← hin']
      simp only [decide_eq_false_iff_not]
      intro h
      exact e1 (HDE.out.1 h).1.1
     have f1 : (x.level != y.level) = true := by simp [e1]
     clear e1
     clear hin' hin
     go_wp2_with fail
     refine wp_region_held_drew (S := fun w' => w'.cell? (ad.add (k * 5)) = some (.int .i64 x.level) ∧ w'.cell? ⟨(ad.add (k * 5)).block, (ad.add (k * 5)).off + 1, none⟩ = some (.int .i64 x.kind) ∧ w'.cell? ⟨(ad.add (k * 5)).block, (ad.add (k * 5)).off + 2, none⟩ = some (.string ⟨x.name.toArray⟩) ∧ w'.cell? ⟨(ad.add (k * 5)).block, (ad.add (k * 5)).off + 3, none⟩ = some (.string ⟨x.text.toArray⟩) ∧ w'.cell? ⟨(ad.add (k * 5)).block, (ad.add (k * 5)).off + 4, none⟩ = some (.slice A' x.attrs.length c') ∧ w'.cell? (bd.add (k * 5)) = some (.int .i64 y.level) ∧ w'.cell? ⟨(bd.add (k * 5)).block, (bd.add (k * 5)).off + 1, none⟩ = some (.int .i64 y.kind) ∧ w'.cell? ⟨(bd.add (k * 5)).block, (bd.add (k * 5)).off + 2, none⟩ = some (.string ⟨y.name.toArray⟩) ∧ w'.cell? ⟨(bd.add (k * 5)).block, (bd.add (k * 5)).off + 3, none⟩ = some (.string ⟨y.text.toArray⟩) ∧ w'.cell? ⟨(bd.add (k * 5)).block, (bd.add (k * 5)).off + 4, none⟩ = some (.slice B' y.attrs.length d')) (by kernel_rfl) HTW.out (fun hHeld => ?_)
     refine tkv 0 (h := tkv 1 (h := tkv 2 (h := tkv 3 (h := tkv 4 (h := tkv 5 (h := ?_))))))
     refine tkv 6 (h := tkv 7 (h := tkv 8 (h := tkv 9 (h := tkv 10 (h := tkv 11 (h := ?_))))))
     refine tkn 12 (h := tkn 13 (h := tkn 14 (h := tkn 15 (h := tkn 16 (h := tkn 17 (h := ?_))))))
     refine tkn 18 (h := tkn 19 (h := tkn 20 (h := tkn 21 (h := tkn 22 (h := ?_)))))
     refine tkv 23 (h := tkv 24 (h := ?_))
     refine tkn 25 (h := tkn 26 (h := tkn 27 (h := tkn 28 (h := tkn 29 (h := tkn 30 (h := ?_))))))
     refine tkn 31 (h := tkn 32 (h := tkn 33 (h := tkn 34 (h := tkn 35 (h := ?_)))))
     refine tkv 36 (h := tkv 37 (h := ?_))
     refine tkn 38 (h := tkn 39 (h := tkn 40 (h := tkn 41 (h := tkn 42 (h := tkn 43 (h := ?_))))))
     refine tkn 44 (h := tkn 45 (h := tkn 46 (h := tkn 47 (h := tkn 48 (h := ?_)))))
     refine tkv 49 (h := tkv 50 (h := ?_))
     refine tkn 51 (h := tkn 52 (h := tkn 53 (h := tkn 54 (h := tkn 55 (h := tkn 56 (h := ?_))))))
     refine tkn 57 (h := tkn 58 (h := tkn 59 (h := tkn 60 (h := tkn 61 (h := tkn 62 (h := ?_))))))
     refine tkv 63 (h := ?_)
     refine wpAnyH_done (by kernel_rfl) ?_ _
     clear hHeld
     go_wp2_with fail
     go_ret
     exact ⟨by rw [HIN.out]; rfl, hbel.drew⟩
   ·have HIN : Hid (R = true) := by
     show _ = _
     have := HNE.out
     rw [← hin.out, List.drop_eq_nil_of_le (by omega), List.drop_eq_nil_of_le (by omega)]; rfl
    have hk' : k = l.length := by omega
    subst hk'
    clear hin hlt hk
    go_wp2_with fail
    go_ret
    exact ⟨by rw [HIN.out]; rfl, hbel⟩
 ·have hv : Hid (R = false) := by
   show _ = _
   rw [← hR.out]
   simp only [decide_eq_false_iff_not]
   intro h; rw [h] at hne; exact hne rfl
  have t0 : ((l.length : Int) != m.length) = true := by simp; omega
  clear hne hR
  go_enter Tryz.func21, Tryz.ntmps21
  go_wp2_with fail
  go_ret
  exact ⟨by rw [hv.out]; rfl, Below.refl _ _⟩
end
section
open Go.RowKit Go.Shelf
variable {X : Nat → Prop}
theorem root_flat : ∀ f : Fo, rootL (f.flat 0) = rootF f
 | .nil => rfl
 | .cons _ _ _ _ => rfl
theorem items_small {f : Fo} {next : Int} (h : InvF f next) (id : Int) : SmallItems (itemsAt (f.flat 0) id) := by
 have hl := h.len
 unfold itemsAt
 split
 ·rename_i k hk
  refine ⟨?_, fun j x hx => ?_⟩
  ·unfold itemsL
   rw [List.length_map, part_length, List.length_take, List.length_drop]
   omega
  ·unfold itemsL partL at hx
   rw [List.map_map, List.getElem?_map] at hx
   obtain ⟨r, hr, rfl⟩ := Option.map_eq_some_iff.1 hx
   have hm := List.mem_of_mem_drop (List.mem_of_mem_take (List.mem_of_getElem? hr))
   obtain ⟨h1, h2⟩ := h.ok r hm
   have h3 := Fo.flat_ge f 0 r hm
   obtain ⟨q1, q2, q3, q4, _⟩ := parts_fit h2 ⟨h3, h1⟩
   have hlv : -1000000 ≤ lvlL (f.flat 0) k ∧ lvlL (f.flat 0) k ≤ 1000000 := by
    unfold lvlL
    split
    ·rename_i r' hr'
     have := h.lv r' (List.mem_of_getElem? hr')
     omega
    ·omega
   exact ⟨q1, q2, q3, q4, by show -9223372036854775808 ≤ r.x.level - _; omega, by show r.x.level - _ ≤ 9223372036854775807; omega⟩
 ·exact ⟨by simp, fun j x hx => by simp at hx⟩
theorem items_of_own {w : World} {B : Nat} {A : Option Addr} {c : Nat} {S : List Slot} (h : ItemsOwn w B A c S) (ha : ∀ s ∈ S, AttrsOwn w B s.2.1 s.2.2 s.1.attrs) : ItemsAt w w.heap.size A (S.map (·.1)) :=
 ItemsOwn.at (World.ownsRow.mono h (Nat.zero_le _)) fun s hs => ⟨AttrsOwn.at (World.ownsRow.mono (ha s hs) (Nat.zero_le _)), AttrsOwn.cap (ha s hs)⟩
theorem stands_in {M : Nat → Prop} {t : Nat} {f : Fo} {next : Int} {w : World} (A : Option Addr) (c : Nat) (next' : Int) (h : TreeM M t f next w) (hR : TreeR X w A c (f.flat 0)) :
  Calls Tryz.prog 15 #[.pointer (some ⟨t, 0, none⟩), .agg (treeV A (f.flat 0).length c next')] w (Ret w (.bool true)) := by
 obtain ⟨W1, hW1⟩ : ∃ W1, Hid (W1 = w.alloc (.cells #[.slice A (f.flat 0).length c, .int .i64 next'] 29)) := ⟨_, rfl⟩
 have hb1 : Below w.heap.size w W1 := by rw [hW1.out]; exact (Below.refl _ w).alloc (Nat.le_refl _) _
 have hx1 : W1.heap[w.heap.size]? = some (.cells (treeV A (f.flat 0).length c next') 29 (0, 0)) := by rw [hW1.out]; exact heap_alloc_new w _
 have HZ1 : Hid (w.heap.size < W1.heap.size) := by show _ < _; rw [hW1.out]; simp
 have HSW : Hid (∀ W : World, Below W1.heap.size W1 W → W.cell? ⟨w.heap.size, 0, none⟩ = some (.slice A (f.flat 0).length c) ∧ W.cell? ⟨w.heap.size, 1, none⟩ = some (.int .i64 next')) := fun W hb => by
  have hx := (hb.block w.heap.size HZ1.out).trans hx1
  exact ⟨cell_row hx 0 _ rfl, cell_row hx 1 _ rfl⟩
 have HB1 := Lib.hid hb1
 have HT1 := Lib.hid (h.below hb1)
 have HR1 := Lib.hid (hR.below hb1)
 have HI := Lib.hid h.inv
 have HRW : Hid (SmallRows (f.flat 0)) := h.inv.rows
 have HRL : Hid ((f.flat 0).length ≤ 100000) := by have := h.inv.len; show _ ≤ _; omega
 have hrt : Hid (rootL (f.flat 0) = rootF f) := root_flat f
 obtain ⟨rt, hrt2⟩ : ∃ rt, Hid (rootF f = rt) := ⟨_, rfl⟩
 have hwf : Hid (wfI rt) := by
  rw [← hrt2.out]
  cases hf : f with
  | nil => exact ⟨by decide, by decide⟩
  | cons id d ks r =>
   have h1 := h.inv.rng id (by rw [hf]; simp [Fo.ids])
   have h2 := h.inv.nx
   exact ⟨by show _ ≤ id; omega, by show id ≤ _; omega⟩
 clear h hR hb1 hx1
 unfold treeV
 go_enter Tryz.func15, Tryz.ntmps15
 go_upto_region 1 with (fail)
 rw [← hW1.out]
 have hbd : Below W1.heap.size W1 W1.drew := ⟨rfl, rfl, rfl, Nat.le_refl _, fun _ _ => rfl⟩
 have hS := HSW.out W1.drew hbd
 refine wp_region_held_drew (S := fun W => W.cell? ⟨w.heap.size, 0, none⟩ = some (.slice A (f.flat 0).length c) ∧ W.cell? ⟨w.heap.size, 1, none⟩ = some (.int .i64 next')) (by kernel_rfl) hS (fun hHeld => ?_)
 clear hS
 refine tkv 0 (h := ?_)
 refine tkv 2 (h := ?_)
 obtain ⟨w2, hw2⟩ : ∃ w2, Hid (W1.drew = w2) := ⟨_, rfl⟩
 rw [hw2.out] at hbd ⊢
 have HB2 := Lib.hid hbd
 have HT2 := Lib.hid (HT1.out.below hbd)
 have HR2 := Lib.hid (HR1.out.below hbd)
 clear hbd
 refine rdy 1 (fun K hK => ?_)
 go_simp
 refine (Root_in HT2.out).mono ?_
 rintro e3 w3 ⟨rfl, rfl⟩
 rw [hrt2.out]
 refine hK.out _ _ (HSW.out w2 HB2.out) (fun hHeld => ?_)
 clear hK K
 try go_frame
 refine rdy 3 (fun K hK => ?_)
 go_simp
 refine (RRoot_any (f.flat 0) A c next' w2 HR2.out.1 HRW.out rt (by show _ = _; rw [hrt.out, hrt2.out])).mono ?_
 rintro e4 w4 ⟨rfl, hb4⟩
 have HB4 : Hid (Below W1.heap.size W1 w4) := HB2.out.trans (hb4.mono HB2.out.size)
 have HT4 := Lib.hid (HT2.out.below hb4)
 have HR4 := Lib.hid (HR2.out.below hb4)
 clear hb4
 refine hK.out _ _ (HSW.out w4 HB4.out) (fun hHeld => ?_)
 clear hK K
 try go_frame
 refine tkv 4 (h := tkv 5 (h := tkv 6 (h := ?_)))
 refine tkv 8 (h := ?_)
 refine rdy 7 (fun K hK => ?_)
 go_simp
 refine (Order_in HT4.out).mono ?_
 rintro e5 w5 ⟨v5, rfl, hr5, hb5, _⟩
 obtain ⟨A5, c5, rfl, _⟩ := row_shape hr5
 have HB5 : Hid (Below W1.heap.size W1 w5) := HB4.out.trans (hb5.mono HB4.out.size)
 have HT5 := Lib.hid (HT4.out.below hb5)
 have HR5 := Lib.hid (HR4.out.below hb5)
 have HO5 := Lib.hid hr5
 clear hb5 hr5
 refine hK.out _ _ (HSW.out w5 HB5.out) (fun hHeld => ?_)
 clear hK K
 try go_frame
 refine rdy 9 (fun K hK => ?_)
 go_simp
 refine (ROrder_any (f.flat 0) A c next' w5 HR5.out.1 HRW.out).mono ?_
 rintro e6 w6 ⟨A6, c6, rfl, hr6, hb6⟩
 have HB6 : Hid (Below W1.heap.size W1 w6) := HB5.out.trans (hb6.mono HB5.out.size)
 have HT6 := Lib.hid (HT5.out.below hb6)
 have HR6 := Lib.hid (HR5.out.below hb6)
 have HO6 : Hid (intRow w6 (.slice A5 f.ids.length c5) f.ids) := row_block HO5.out fun b hb => hb6.block b (row_lt HO5.out hb)
 have HP6 := Lib.hid hr6
 clear hb6 hr6
 refine hK.out _ _ (HSW.out w6 HB6.out) (fun hHeld => ?_)
 clear hK K
 try go_frame
 refine rdy 10 (fun K hK => ?_)
 go_simp
 refine (SameIds_any _ _ f.ids ((f.flat 0).map (·.id)) w6 HO6.out HP6.out true (by show _ = _; rw [Fo.flat_ids]; simp)).mono ?_
 rintro e7 w7 ⟨rfl, hb7⟩
 have HB7 : Hid (Below W1.heap.size W1 w7) := HB6.out.trans (hb7.mono HB6.out.size)
 have HT7 := Lib.hid (HT6.out.below hb7)
 have HR7 := Lib.hid (HR6.out.below hb7)
 clear hb7
 refine hK.out _ _ (HSW.out w7 HB7.out) (fun hHeld => ?_)
 clear hK K
 try go_frame
 refine tkv 11 (h := tkv 12 (h := tkv 13 (h := tkv 14 (h := ?_))))
 refine tkv 17 (h := tkv 18 (h := ?_))
 refine rdy 15 (fun K hK => ?_)
 go_simp
 refine (Root_in HT7.out).mono ?_
 rintro e8 w8 ⟨rfl, rfl⟩
 rw [hrt2.out]
 refine hK.out _ _ (HSW.out w7 HB7.out) (fun hHeld => ?_)
 clear hK K
 try go_frame
 refine rdy 16 (fun K hK => ?_)
 go_simp
 refine (Items_in HT7.out hwf.out).mono ?_
 rintro e9 w9 ⟨A9, c9, S9, rfl, hS9, hown9, hat9, hb9⟩
 have HB9 : Hid (Below W1.heap.size W1 w9) := HB7.out.trans (hb9.mono HB7.out.size)
 have HT9 := Lib.hid (HT7.out.below hb9)
 have HR9 := Lib.hid (HR7.out.below hb9)
 have hI9 := items_of_own hown9 hat9
 obtain ⟨IT, hIT⟩ : ∃ IT, Hid (itemsAt (f.flat 0) rt = IT) := ⟨_, rfl⟩
 rw [hS9, hIT.out] at hI9
 have hsl : S9.length = IT.length := by rw [← hIT.out, ← hS9, List.length_map]
 rw [hsl]
 have HI9 := Lib.hid hI9
 have HSI : Hid (SmallItems IT) := by
  show SmallItems IT
  rw [← hIT.out]
  exact items_small HI.out rt
 clear hb9 hS9 hown9 hat9 hI9 hsl
 refine hK.out _ _ (HSW.out w9 HB9.out) (fun hHeld => ?_)
 clear hK K
 try go_frame
 refine rdy 19 (fun K hK => ?_)
 go_simp
 refine (RRoot_any (f.flat 0) A c next' w9 HR9.out.1 HRW.out rt (by show _ = _; rw [hrt.out, hrt2.out])).mono ?_
 rintro e10 w10 ⟨rfl, hb10⟩
 have HB10 : Hid (Below W1.heap.size W1 w10) := HB9.out.trans (hb10.mono HB9.out.size)
 have HR10 := Lib.hid (HR9.out.below hb10)
 have HI10 : Hid (ItemsAt w10 w10.heap.size A9 IT) := (HI9.out.below hb10).more hb10.size
 clear hb10
 refine hK.out _ _ (HSW.out w10 HB10.out) (fun hHeld => ?_)
 clear hK K
 try go_frame
 refine rdy 20 (fun K hK => ?_)
 go_simp
 refine (RItems_any (f.flat 0) A c next' rt w10 HR10.out HRW.out HRL.out IT hIT).mono ?_
 rintro e11 w11 ⟨A11, c11, rfl, hi11, hb11⟩
 have HB11 : Hid (Below W1.heap.size W1 w11) := HB10.out.trans (hb11.mono HB10.out.size)
 have HI11 : Hid (ItemsAt w11 w11.heap.size A9 IT) := (HI10.out.below hb11).more hb11.size
 have HJ11 := Lib.hid hi11
 clear hb11 hi11
 refine hK.out _ _ (HSW.out w11 HB11.out) (fun hHeld => ?_)
 clear hK K
 try go_frame
 refine rdy 21 (fun K hK => ?_)
 go_simp
 refine (RSame_any IT IT A9 A11 c9 c11 w11 HI11.out HJ11.out HSI.out HSI.out true (by show _ = _; simp)).mono ?_
 rintro e12 w12 ⟨rfl, hb12⟩
 have HB12 : Hid (Below w.heap.size w w12) := HB1.out.trans ((HB11.out.trans (hb12.mono HB11.out.size)).mono HB1.out.size)
 have HB12' : Hid (Below W1.heap.size W1 w12) := HB11.out.trans (hb12.mono HB11.out.size)
 clear hb12
 refine hK.out _ _ (HSW.out w12 HB12'.out) (fun hHeld => ?_)
 clear hK K
 try go_frame
 refine tkv 22 (h := tkv 23 (h := ?_))
 refine wpAnyH_done (by kernel_rfl) ?_ _
 go_wp2_with fail
 go_ret
 exact ⟨rfl, HB12.out⟩
end
section
open Go.RowKit Go.Shelf
def IntsAt (w : World) (B : Nat) (A : Option Addr) (l : List Int) : Prop := 0 < l.length → ∃ ad, A = some ad ∧ ad.block < B ∧ ∀ (k : Nat) (x : Int), l[k]? = some x → w.cell? (ad.add k) = some (.int .i64 x)
theorem IntsAt.keep {w w' : World} {B : Nat} {A : Option Addr} {l : List Int} (h : IntsAt w B A l) (hk : ∀ p : Addr, p.block < B → w'.cell? p = w.cell? p) : IntsAt w' B A l := fun hp => by
 obtain ⟨ad, h1, h2, h3⟩ := h hp
 exact ⟨ad, h1, h2, fun k x hx => (hk _ (by rw [block_of_add]; exact h2)).trans (h3 k x hx)⟩
theorem IntsAt.more {w : World} {B B' : Nat} {A : Option Addr} {l : List Int} (h : IntsAt w B A l) (hB : B ≤ B') : IntsAt w B' A l := fun hp => by
 obtain ⟨ad, h1, h2, h3⟩ := h hp
 exact ⟨ad, h1, by omega, h3⟩
theorem IntsAt.below {w w' : World} {B : Nat} {A : Option Addr} {l : List Int} (h : IntsAt w B A l) (hb : Below B w w') : IntsAt w' B A l := h.keep fun _ hp => hb.cell hp
section
variable {w : World} {t mb : Nat} {y : Lay} {g : Int → Option Ent} {root next : Int} {n : Nat}
theorem grow2_any (h : TreeAt w t mb y g root next n) (parent : Int) (pl : Nat) (l : List ItemD) (ids : List Int) (A : Option Addr) (c B : Nat) (hi : StandI (Mine t mb y g) w B A l) (hBw : B ≤ w.heap.size) (VA : Option Addr) (vc : Nat) (hids : IntsAt w B VA ids) (hv : ∀ b, Mine t mb y g b → B ≤ b)
  (hal : ∀ (k : Nat) (x : ItemD), l[k]? = some x → x.attrs.length ≤ 1000000000) (hwi : ∀ i ∈ ids, wfI i) (hwp : wfI parent) (hn : n ≤ 1000000) (hkl : ∀ id e, g id = some e → e.kids.length ≤ 100000) (hl : l.length ≤ 100000) (hll : ids.length = l.length) (hl0 : 0 < l.length) (hpl : pl ≤ 100000) (s2 : GS) (hs : growS (l.zip ids) ⟨[parent], pl, g, root, n⟩ = some s2) :
  Calls Tryz.prog 46 #[.pointer (some ⟨t, 0, none⟩), .int .i64 parent, .int .i64 pl, .slice A l.length c, .slice VA ids.length vc] w (GrowPost ids t mb y g w s2 next) := by
 obtain ⟨W1, hW1⟩ : ∃ W1, Hid (W1 = w.alloc (.cells #[.int .i64 parent] 3)) := ⟨_, rfl⟩
 have hb1 : Below w.heap.size w W1 := by rw [hW1.out]; exact (Below.refl _ w).alloc (Nat.le_refl _) _
 have hX1 : W1.heap[w.heap.size]? = some (.cells #[.int .i64 parent] 3 (0, 0)) := by rw [hW1.out]; exact heap_alloc_new w _
 have HH := Lib.hid h
 have HI := Lib.hid hi
 have HIDS := Lib.hid hids
 have HS := Lib.hid hs
 have HV := Lib.hid hv
 have HX1 := Lib.hid hX1
 have HAL := Lib.hid hal
 have hGB0 : GB n pl 0 ⟨[parent], pl, g, root, n⟩ := ⟨fun z hz => by rw [List.mem_singleton.1 hz]; exact hwp, by simp, by simp, fun id e he => by have := hkl id e he; omega⟩
 have hzw : ∀ z ∈ l.zip ids, wfI z.2 := fun z hz => hwi z.2 (List.of_mem_zip hz).2
 have HGB : Hid (∀ (j : Nat) (s : GS), j ≤ (l.zip ids).length → growS ((l.zip ids).take j) ⟨[parent], pl, g, root, n⟩ = some s → GB n pl j s) := fun j s hj h => by
  have := growS_GB _ _ s n pl 0 hGB0 (fun z hz => hzw z (List.mem_of_mem_take hz)) h
  rw [List.length_take, Nat.min_eq_left hj, Nat.zero_add] at this
  exact this
 have HWI := Lib.hid hwi
 have HB1 := Lib.hid hb1
 obtain ⟨m, hm⟩ : ∃ m, Hid (l.length = m) := ⟨_, rfl⟩
 rw [hm.out] at hl hll hl0
 rw [hm.out]
 rw [hll]
 have HBW := Lib.hid hBw
 clear h hi hids hs hv hX1 hb1 hal hwi hGB0 hzw hkl
 go_enter Tryz.func46, Tryz.ntmps46
 go_wp2_with fail
 rw [← hW1.out]
 go_loopw [2, 11, 20] (fun at' op k wr => ∃ (j : Nat) (s0 : GS) (b cc : Nat) (y0 : Lay), k = .int .i64 (j : Int) ∧ j ≤ m ∧ at' = .int .i64 (s0.pl : Int) ∧ op = .slice (some ⟨b, 0, none⟩) s0.op.length cc ∧ s0.op.length ≤ j + 1 ∧ Hid (growS ((l.zip ids).take j) ⟨[parent], pl, g, root, n⟩ = some s0) ∧
  Hid (intRow wr (.slice (some ⟨b, 0, none⟩) s0.op.length cc) s0.op) ∧ Hid (w.heap.size ≤ b) ∧ Hid (¬ Mine t mb y0 s0.g b) ∧ Hid (TreeAt wr t mb y0 s0.g s0.root next s0.n) ∧ Hid (Grows (Mine t mb y g) (Mine t mb y0 s0.g) w wr)) (fun _ _ k _ => m - (intOf k).toNat)
 case atStart =>
  refine ⟨0, ⟨[parent], pl, g, root, n⟩, w.heap.size, 1, y, rfl, Nat.zero_le _, rfl, rfl, Nat.le_refl _, rfl, ?_, Nat.le_refl _, fun hm' => ?_, HH.out.below HB1.out, Grows.of_below HB1.out⟩
  ·exact row_mk (xs := [Value.int .i64 parent]) HX1.out (Nat.le_refl _) (by decide) rfl rfl
  ·have := HH.out.lt hm'; omega
 case round =>
  obtain ⟨j, s0, b, cc, y0, rfl, hj, rfl, rfl, hopl, hgs, hrow, hbw, hbm, ht, hgr⟩ := hrel
  have hz := hgr.out.1.size
  have hIr := HI.out wr hgr.out.1
  have hidr : IntsAt wr B VA ids := HIDS.out.keep fun p hp => by
   unfold World.cell?
   rw [hgr.out.1.block _ (Nat.lt_of_lt_of_le hp HBW.out) (fun hm => by have := HV.out _ hm; omega)]
  have j0 : (0 : Int) ≤ (j : Int) := by omega
  by_cases hjm : j < m
  ·have hjm' : (j : Int) < (m : Int) := by omega
   obtain ⟨x, hx⟩ : ∃ x, l[j]? = some x := ⟨_, List.getElem?_eq_getElem (by rw [hm.out]; exact hjm)⟩
   obtain ⟨i, hi⟩ : ∃ i, ids[j]? = some i := ⟨_, List.getElem?_eq_getElem (by rw [hll]; exact hjm)⟩
   have hzip : (l.zip ids)[j]? = some (x, i) := by rw [List.getElem?_zip_eq_some]; exact ⟨hx, hi⟩
   obtain ⟨s0', s1, e1, e2, e3⟩ := growS_take hzip HS.out
   have e0 : s0' = s0 := by rw [hgs.out] at e1; injection e1 with e1; exact e1.symm
   subst e0
   obtain ⟨ad, hA, hadB, hcells⟩ := hIr (by rw [hm.out]; omega)
   subst hA
   obtain ⟨A', c', hat, hac, k0, k1, k2, k3, k4⟩ := hcells j x hx
   have hgb := HGB.out j s0' (by rw [List.length_zip, hm.out]; omega) hgs.out
   have HGJ := Lib.hid hgb
   have hwj : wfI i := HWI.out i (List.mem_of_getElem? hi)
   have HWJ := Lib.hid hwj
   have HALX := Lib.hid (HAL.out j x hx)
   have HE2 := Lib.hid e2
   have HE3 := Lib.hid e3
   have HAT := Lib.hid hat
   cases VA with
   | none => exact absurd (hidr (by rw [hll]; omega)) (by rintro ⟨_, h, _⟩; cases h)
   | some va =>
    obtain ⟨va', hva, _, hvcl⟩ := hidr (by rw [hll]; omega)
    injection hva with hva
    subst hva
    have cid := hvcl j i (by assumption)
    clear hgb hwj hidr hvcl hcells hIr e1 e2 e3 hgs hat hz
    obtain ⟨lv, p, hlv, hp, hno⟩ : ∃ (lv : Nat) (p : Int), x.level = (lv : Int) ∧ s0'.op[lv]? = some p ∧ s0'.g i = none := by
     have h2 := HE2.out
     unfold growStep at h2
     split at h2
     ·cases h2
     ·rename_i hneg
      split at h2
      ·cases h2
      ·rename_i p hp
       split at h2
       ·cases h2
       ·rename_i hno
        exact ⟨x.level.toNat, p, by omega, hp, by simpa using hno⟩
    have hlvl := (List.getElem?_eq_some_iff.1 hp).1
    rw [hlv] at k0
    unfold strV at k2 k3
    obtain ⟨Wb, hWb⟩ : ∃ Wb, Hid (Wb = wr.alloc (.cells #[.int .i64 (lv : Int), .int .i64 x.kind, .string ⟨x.name.toArray⟩, .string ⟨x.text.toArray⟩, .slice A' x.attrs.length c'] 62)) := ⟨_, rfl⟩
    have hbb : Below wr.heap.size wr Wb := by rw [hWb.out]; exact (Below.refl _ wr).alloc (Nat.le_refl _) _
    have hxb : Wb.heap[wr.heap.size]? = some (.cells #[.int .i64 (lv : Int), .int .i64 x.kind, .string ⟨x.name.toArray⟩, .string ⟨x.text.toArray⟩, .slice A' x.attrs.length c'] 62 (0, 0)) := by rw [hWb.out]; exact heap_alloc_new wr _
    have cidb : Wb.cell? (va.add j) = some (.int .i64 i) := (hbb.cell (by exact World.block_lt_of_cell? _ _ cid)).trans cid
    have d0 : Wb.cell? ⟨wr.heap.size, 0, none⟩ = some (.int .i64 (lv : Int)) := cell_row hxb 0 _ rfl
    rw [hWb.out] at cidb d0
    have HBB2 := Lib.hid hbb
    have HXB := Lib.hid hxb
    have lv0 : (0 : Int) ≤ (lv : Int) := by omega
    have lv1 : (lv : Int) ≤ 100000 := by omega
    obtain ⟨_, cc2, hcv, hcc, _, _, _⟩ := row_shape hrow.out
    injection hcv with hc1 hc2 hc3
    subst hc3
    clear hc1 hc2
    have hcc' : ((s0'.op.length : Nat) : Int) ≤ (cc : Int) := by omega
    have hlv2 : (lv : Int) + 1 ≤ (cc : Int) := by omega
    have hrowb : intRow Wb (.slice (some ⟨b, 0, none⟩) s0'.op.length cc) s0'.op := row_block hrow.out fun q hq => hbb.block q (row_lt hrow.out hq)
    obtain ⟨q, pc, w2, hr2, hq2, hrow2, hb2⟩ := run_append_cut hrowb (lv + 1) (by omega) (by omega) i
    have HROW2 := Lib.hid hrow2
    have HB2 := Lib.hid hb2
    have HQ2 := Lib.hid hq2
    have hx2 : w2.heap[wr.heap.size]? = some (.cells #[.int .i64 (lv : Int), .int .i64 x.kind, .string ⟨x.name.toArray⟩, .string ⟨x.text.toArray⟩, .slice A' x.attrs.length c'] 62 (0, 0)) := (hb2.block _ (Array.getElem?_eq_some_iff.1 hxb).1).trans hxb
    have f0 : w2.cell? ⟨wr.heap.size, 0, none⟩ = some (.int .i64 (lv : Int)) := cell_row hx2 0 _ rfl
    have hltk : (s0'.op.take (lv + 1) ++ [i]).length = lv + 2 := by simp; omega
    have hrow3 : w2.ownsRow 0 3 1 (.slice (some ⟨q, 0, none⟩) (lv + 1 + 1) pc) (lv + 1 + 1) ((s0'.op.take (lv + 1) ++ [i]).map (Value.int .i64)) := by
     have := hrow2
     unfold intRow at this
     rw [hltk] at this
     exact this
    have cp := own_cell hrow3 lv (.int .i64 p) (by rw [List.getElem?_map, List.getElem?_append_left (by simp; omega), List.getElem?_take, if_pos (by omega), hp]; rfl)
    have HX2 := Lib.hid hx2
    clear hx2 hltk hrow3
    rw [hWb.out] at hr2
    have hzb : Wb.heap.size = wr.heap.size + 1 := by rw [hWb.out]; simp
    have HLV := Lib.hid hlv
    clear hbb hxb hlv hrowb hrow2 hb2 hq2 hcc
    go_wp2_with (at_builtin; refine wpList_append_runI _ rfl _ _ 43 rfl (.slice (some ⟨b, 0, none⟩) (lv + 1) (lv + 1)) (.slice (some ⟨(wr.alloc (.cells #[.int .i64 (lv : Int), .int .i64 x.kind, .string ⟨x.name.toArray⟩, .string ⟨x.text.toArray⟩, .slice A' x.attrs.length c'] 62)).heap.size, 0, none⟩) 1 1) (by simp [Act.eval]) (by simp [Act.eval]) hr2 ?_)
    have ht2 : TreeAt w2 t mb y0 s0'.g s0'.root next s0'.n := ht.out.below (HBB2.out.trans (HB2.out.mono (by omega)))
    have HT2 := Lib.hid ht2
    have HTD : Hid (TreeAt w2.drew t mb y0 s0'.g s0'.root next s0'.n) := HT2.out.keep fun _ _ => rfl
    have hkS : ∀ V : World, V.cell? ⟨t, 0, none⟩ = some (.map (some mb)) → V.heap[wr.heap.size]? = some (.cells #[.int .i64 (lv : Int), .int .i64 x.kind, .string ⟨x.name.toArray⟩, .string ⟨x.text.toArray⟩, .slice A' x.attrs.length c'] 62 (0, 0)) →
      V.cell? ⟨t, 0, none⟩ = some (.map (some mb)) ∧ V.cell? ⟨wr.heap.size, 1, none⟩ = some (.int .i64 x.kind) ∧ V.cell? ⟨wr.heap.size, 2, none⟩ = some (.string ⟨x.name.toArray⟩) ∧ V.cell? ⟨wr.heap.size, 3, none⟩ = some (.string ⟨x.text.toArray⟩) ∧ V.cell? ⟨wr.heap.size, 4, none⟩ = some (.slice A' x.attrs.length c') := fun V h hx =>
     ⟨h, cell_row hx 1 _ rfl, cell_row hx 2 _ rfl, cell_row hx 3 _ rfl, cell_row hx 4 _ rfl⟩
    have HKS := Lib.hid hkS
    clear hkS ht2
    refine wp_region_held_drew (S := fun V => V.cell? ⟨t, 0, none⟩ = some (.map (some mb)) ∧ V.cell? ⟨wr.heap.size, 1, none⟩ = some (.int .i64 x.kind) ∧ V.cell? ⟨wr.heap.size, 2, none⟩ = some (.string ⟨x.name.toArray⟩) ∧ V.cell? ⟨wr.heap.size, 3, none⟩ = some (.string ⟨x.text.toArray⟩) ∧ V.cell? ⟨wr.heap.size, 4, none⟩ = some (.slice A' x.attrs.length c')) (by kernel_rfl) (HKS.out _ HTD.out.c0 HX2.out) (fun hHeld => ?_)
    refine tkv 0 (h := tkv 1 (h := tkv 2 (h := tkv 3 (h := tkv 4 (h := tkv 5 (h := ?_))))))
    refine tkv 6 (h := tkv 7 (h := tkv 8 (h := tkv 9 (h := tkv 10 (h := tkv 11 (h := ?_))))))
    refine tkv 12 (h := tkv 13 (h := tkv 14 (h := ?_)))
    refine rdy 15 (fun K hK => ?_)
    go_simp
    have hzr := hgr.out.1.size
    have hat2 : AttrsAt w2.drew w2.drew.heap.size A' x.attrs := (HAT.out.keep (w' := w2.drew) (fun q hq => World.cell?_of_block (w := wr) ((HB2.out.block _ (by omega)).trans (HBB2.out.block _ (by omega))))).more (by have h1 := HBB2.out.size; have h2 := HB2.out.size; show B ≤ w2.heap.size; omega)
    refine (Clone_any x.attrs A' c' w2.drew hat2 HALX.out).mono ?_
    clear hat2 hzr
    rintro e w5 ⟨A5, c5, rfl, hown5, hb5⟩
    obtain ⟨w7, hr7, ht7, hg7⟩ := made_node HTD.out HWJ.out hno (by have := HGJ.out.2.1; unfold maxLen; omega) p x hown5 hb5
    have ht5 : TreeAt w5 t mb y0 s0'.g s0'.root next s0'.n := HTD.out.below hb5
    have hx5 : w5.heap[wr.heap.size]? = some (.cells #[.int .i64 (lv : Int), .int .i64 x.kind, .string ⟨x.name.toArray⟩, .string ⟨x.text.toArray⟩, .slice A' x.attrs.length c'] 62 (0, 0)) := (hb5.block _ (by show _ < w2.heap.size; have := (Array.getElem?_eq_some_iff.1 HX2.out).1; omega)).trans HX2.out
    have HT5 := Lib.hid ht5
    have HX5 := Lib.hid hx5
    have HT7 := Lib.hid ht7
    have HG7 := Lib.hid hg7
    have HOWN5 := Lib.hid hown5
    have HB5 := Lib.hid hb5
    have HR7 := Lib.hid hr7
    clear ht5 hx5 ht7 hg7 hown5 hb5 hr7
    go_wp2_with fail
    refine hK.out _ _ (HKS.out _ HT5.out.c0 HX5.out) (fun hHeld => ?_)
    clear hK K
    try go_frame
    refine tkv 16 (h := tkv 17 (h := ?_))
    refine rdy 18 (fun K hK => ?_)
    go_simp
    have HXA : Hid ((w5.alloc (.cells (nodeC i (Ent.new p x) (.slice A5 x.attrs.length c5) (.slice none 0 0)) 92)).heap[wr.heap.size]? = some (.cells #[.int .i64 (lv : Int), .int .i64 x.kind, .string ⟨x.name.toArray⟩, .string ⟨x.text.toArray⟩, .slice A' x.attrs.length c'] 62 (0, 0))) := (Below.heap_alloc w5 _ _ (Array.getElem?_eq_some_iff.1 HX5.out).1).trans HX5.out
    have HTA : Hid (TreeAt (w5.alloc (.cells (nodeC i (Ent.new p x) (.slice A5 x.attrs.length c5) (.slice none 0 0)) 92)) t mb y0 s0'.g s0'.root next s0'.n) := HT5.out.below ((Below.refl _ w5).alloc (Nat.le_refl _) _)
    have hr7 := HR7.out
    unfold nodeC Ent.new ItemD.node strV at hr7
    simp only at hr7
    refine hK.out _ _ (HKS.out _ HTA.out.c0 HXA.out) (fun hHeld => ?_)
    clear hK K
    try go_frame
    refine rdy 19 (fun K hK => ?_)
    go_simp
    have hx7 : w7.heap[wr.heap.size]? = some (.cells #[.int .i64 (lv : Int), .int .i64 x.kind, .string ⟨x.name.toArray⟩, .string ⟨x.text.toArray⟩, .slice A' x.attrs.length c'] 62 (0, 0)) := (HG7.out.1.block _ (by have := (Array.getElem?_eq_some_iff.1 HX2.out).1; exact this) (fun hm' => by have := ht.out.lt hm'; omega)).trans HX2.out
    have HX7 := Lib.hid hx7
    clear hx7 hr7
    refine hK.out _ _ (HKS.out _ HT7.out.c0 HX7.out) (fun hHeld => ?_)
    clear hK K
    try go_frame
    refine wpAnyH_done (by kernel_rfl) ?_ _
    clear hHeld
    have d7 := cell_row HX7.out 0 _ rfl
    obtain ⟨y7, hy7⟩ : ∃ y7, Hid (layN y0 i w5.heap.size (.slice A5 x.attrs.length c5) = y7) := ⟨_, rfl⟩
    rw [hy7.out] at HT7 HG7
    have HROW7 : Hid (intRow w7 (.slice (some ⟨q, 0, none⟩) (lv + 1 + 1) pc) (s0'.op.take (lv + 1) ++ [i])) := row_block HROW2.out fun b2 hb2 => (HG7.out.1.block b2 (row_lt HROW2.out hb2) (fun hm' => by have h1 := ht.out.lt hm'; have h3 := HQ2.out; have h2 : q = b2 := (by simpa [Value.ownBlock] using hb2); omega))
    have HP := Lib.hid hp
    have hqn : ¬ Mine t mb y7 (fset s0'.g i (some (Ent.new p x))) q ∧ q < w7.heap.size ∧ w.heap.size ≤ q := by
     have h3 := HQ2.out
     have h4 := (row_lt HROW2.out (b := q) rfl : q < w2.heap.size)
     have h5 : w2.heap.size ≤ w7.heap.size := HG7.out.1.size
     have h6 := hgr.out.1.size
     refine ⟨fun hm' => ?_, by omega, by omega⟩
     rcases HG7.out.2 _ hm' with h | h
     ·have := ht.out.lt h; omega
     ·have : w2.heap.size ≤ q := h
      omega
    have hend : ∀ (W : World) (y1 : Lay), TreeAt W t mb y1 s1.g s1.root next s1.n → Grows (Mine t mb y7 (fset s0'.g i (some (Ent.new p x)))) (Mine t mb y1 s1.g) w7 W → s1.op = s0'.op.take (lv + 1) ++ [i] →
      Hid (intRow W (.slice (some ⟨q, 0, none⟩) s1.op.length pc) s1.op) ∧ Hid (w.heap.size ≤ q) ∧ Hid (¬ Mine t mb y1 s1.g q) ∧ Hid (TreeAt W t mb y1 s1.g s1.root next s1.n) ∧ Hid (Grows (Mine t mb y g) (Mine t mb y1 s1.g) w W) := by
     intro W y1 q1 q2 q3
     have hlen : (s0'.op.take (lv + 1) ++ [i]).length = lv + 1 + 1 := by simp; omega
     refine ⟨?_, hqn.2.2, fun hm' => ?_, q1, ?_⟩
     ·show intRow W _ s1.op
      rw [q3, hlen]
      exact row_block HROW7.out fun b2 hb2 => by
       have h2 : q = b2 := (by simpa [Value.ownBlock] using hb2)
       rw [← h2]
       exact q2.1.block q hqn.2.1 hqn.1
     ·rcases q2.2 _ hm' with h | h
      ·exact hqn.1 h
      ·omega
     ·refine Grows.trans hgr.out ((Grows.of_below (HBB2.out.trans ((HB2.out.mono (by omega)).drew))).trans (HG7.out.trans q2))
    have HEND := Lib.hid hend
    clear hend hqn
    clear hp hno f0 cp d0 cid cidb d7
    by_cases hp0 : p = 0
    ·subst hp0
     have hs1 := growStep_root HLV.out HP.out HE2.out
     have HS1 := Lib.hid hs1
     have f1 := HT7.out.c1
     have f2 := free_row HT7.out.tree 1
     have ht8 := HT7.out.set_root i
     have HT8 := Lib.hid ht8
     clear hs1 ht8
     go_wp2_with fail
     go_roundw
     case rel =>
      obtain ⟨z1, z2, z3, z4, z5⟩ := HEND.out _ y7 (by rw [HS1.out]; exact HT8.out) (by rw [HS1.out]; exact ⟨(Turn.refl _ _).setCell (.inl (.inl rfl)) _, fun b h => .inl h⟩) (by rw [HS1.out])
      exact ⟨j + 1, s1, q, pc, y7, by go_num, by omega, by rw [HS1.out], by rw [HS1.out]; simp; omega, by rw [HS1.out]; simp; omega, HE3, z1, z2, z3, z4, z5⟩
     case measure => simp [intOf]; omega
    ·have hb0 : (p == 0) = false := by simpa using hp0
     have hwfp : wfI p := HGJ.out.1 p (List.mem_of_getElem? HP.out)
     have HWP := Lib.hid hwfp
     have d7 := cell_row HX7.out 0 _ rfl
     obtain ⟨g7, hg7⟩ : ∃ g7, Hid (fset s0'.g i (some (Ent.new p x)) = g7) := ⟨_, rfl⟩
     rw [hg7.out] at HT7 HG7 HEND
     have hkS7 : ∀ (V : World) (e : Ent), g7 p = some e → TreeAt V t mb y7 g7 s0'.root next (s0'.n + 1) → V.cell? ⟨t, 0, none⟩ = some (.map (some mb)) ∧ (Instr.lookup 73 (.map (some mb)) (.int .i64 p) false).run Tryz.prog V = .ok (.pointer (some ⟨y7.nb p, 0, none⟩)) V := fun V e he h => ⟨h.c0, (h.look_yes he HWP.out).2⟩
     have HKS7 := Lib.hid hkS7
     have HTD7 : Hid (TreeAt w7.drew t mb y7 g7 s0'.root next (s0'.n + 1)) := HT7.out.keep fun _ _ => rfl
     clear hkS7 hwfp
     by_cases hl0 : lv = 0
     ·have hl1 : ((lv : Int) == 0) = true := by rw [hl0]; rfl
      obtain ⟨e, he, hpe, hs1⟩ := growStep_first HLV.out hl0 HP.out hp0 HE2.out
      have hgb1 := HGJ.out.step HWJ.out HE2.out
      rw [hg7.out] at he hs1
      have hkl1 : e.kids.length ≤ 1000000 := by
       have := hgb1.2.2.2 p { e with kids := e.kids.take s0'.pl ++ i :: e.kids.drop s0'.pl } (by rw [hs1]; exact fset_same _ _ _)
       simp at this; omega
      have HE := Lib.hid he
      have HS1 := Lib.hid hs1
      have HPE := Lib.hid hpe
      have HKL1 := Lib.hid hkl1
      have hpl0 : (0 : Int) ≤ (s0'.pl : Int) := by omega
      have hpl1 : (s0'.pl : Int) ≤ 300000 := by have := HGJ.out.2.2.1; omega
      have HL0 := Lib.hid hl0
      clear he hs1 hpe hkl1 hgb1 hl0
      go_wp2_with fail
      refine wp_region_held_drew (S := fun V => V.cell? ⟨t, 0, none⟩ = some (.map (some mb)) ∧ (Instr.lookup 73 (.map (some mb)) (.int .i64 p) false).run Tryz.prog V = .ok (.pointer (some ⟨y7.nb p, 0, none⟩)) V) (by kernel_rfl) (HKS7.out _ e HE.out HTD7.out) (fun hHeld => ?_)
      have HTB : Hid (TreeAt (w7.drew.alloc (.cells #[.int .i64 i] 3)) t mb y7 g7 s0'.root next (s0'.n + 1)) := HTD7.out.below ((Below.refl _ _).alloc (Nat.le_refl _) _)
      have n7 := HT7.out.n7 HE.out
      have n7b : (w7.alloc (.cells #[.int .i64 i] 3)).cell? ⟨y7.nb p, 7, none⟩ = some (y7.kid p) := (World.cell?_alloc_lt _ _ _ (Array.getElem?_eq_some_iff.1 (HT7.out.node p e HE.out)).1).trans n7
      refine tkv 0 (h := tkv 1 (h := tkv 2 (h := tkv 3 (h := tkv 4 (h := tkv 5 (h := ?_))))))
      refine tkv 6 (h := tkv 7 (h := tkv 8 (h := tkv 9 (h := tkv 10 (h := tkv 11 (h := ?_))))))
      refine tkv 12 (h := tkv 13 (h := ?_))
      refine tkv 15 (h := tkv 16 (h := ?_))
      refine wpAnyH_ready (rs := [14, 17]) (by kernel_rfl) (by simp) ?_
      refine AllReadyH.cons (o := ⟨_, _, _, _, _, _⟩) rfl (fun K hK => ?_) (AllReadyH.cons (o := ⟨_, _, _, _, _, _⟩) rfl (fun K hK => ?_) AllReadyH.nil)
      ·go_simp
       refine hK.out _ _ (HKS7.out _ e HE.out HTD7.out) (fun hHeld => ?_)
       clear hK K
       try go_frame
       refine rdy 17 (fun K hK => ?_)
       go_simp
       refine hK.out _ _ (HKS7.out _ e HE.out HTB.out) (fun hHeld => ?_)
       clear hK K
       try go_frame
       clear n7 n7b
       refine rdy 18 (fun K hK => ?_)
       go_simp
       refine (kid_insert HTD7.out HE.out HKL1.out i s0'.pl HPE.out rfl).mono ?_
       rintro er w9 ⟨pa, pn, pk, rfl, k1, k2, k3⟩
       have e7 := cell_row k1 7 _ rfl
       have f7 := free_row k1 7
       have HK2 := Lib.hid k2
       have HK3 := Lib.hid k3
       clear k1 k2 k3
       go_wp2_with fail
       refine hK.out _ _ (kids_before HK2.out (fset_same _ _ _) rfl HWP.out) (fun hHeld => ?_)
       clear hK K
       try go_frame
       refine tkv 19 (h := tkv 20 (h := ?_))
       refine rdy 21 (fun K hK => ?_)
       go_simp
       refine hK.out _ _ (⟨HK2.out.c0, (HK2.out.look_yes (fset_same _ _ _) HWP.out).2⟩) (fun hHeld => ?_)
       clear hK K
       try go_frame
       refine wpAnyH_done (by kernel_rfl) ?_ _
       clear hHeld e7 f7
       go_wp2_with fail
       go_roundw
       case rel =>
        obtain ⟨z1, z2, z3, z4, z5⟩ := HEND.out _ (layK y7 p (.slice pa pn pk)) (by rw [HS1.out]; exact HK2.out) (by rw [HS1.out]; exact Grows.trans (Grows.of_below (Below.refl _ _).drew) HK3.out) (by rw [HS1.out])
        exact ⟨j + 1, s1, q, pc, _, by go_num, by omega, by rw [HS1.out]; go_num, by rw [HS1.out]; simp; omega, by rw [HS1.out]; simp; omega, HE3, z1, z2, z3, z4, z5⟩
       case measure => simp [intOf]; omega
      ·go_simp
       refine hK.out _ _ (HKS7.out _ e HE.out HTB.out) (fun hHeld => ?_)
       clear hK K
       try go_frame
       refine rdy 14 (fun K hK => ?_)
       go_simp
       refine hK.out _ _ (HKS7.out _ e HE.out HTB.out) (fun hHeld => ?_)
       clear hK K
       try go_frame
       clear n7 n7b
       refine rdy 18 (fun K hK => ?_)
       go_simp
       refine (kid_insert HTD7.out HE.out HKL1.out i s0'.pl HPE.out rfl).mono ?_
       rintro er w9 ⟨pa, pn, pk, rfl, k1, k2, k3⟩
       have e7 := cell_row k1 7 _ rfl
       have f7 := free_row k1 7
       have HK2 := Lib.hid k2
       have HK3 := Lib.hid k3
       clear k1 k2 k3
       go_wp2_with fail
       refine hK.out _ _ (kids_before HK2.out (fset_same _ _ _) rfl HWP.out) (fun hHeld => ?_)
       clear hK K
       try go_frame
       refine tkv 19 (h := tkv 20 (h := ?_))
       refine rdy 21 (fun K hK => ?_)
       go_simp
       refine hK.out _ _ (⟨HK2.out.c0, (HK2.out.look_yes (fset_same _ _ _) HWP.out).2⟩) (fun hHeld => ?_)
       clear hK K
       try go_frame
       refine wpAnyH_done (by kernel_rfl) ?_ _
       clear hHeld e7 f7
       go_wp2_with fail
       go_roundw
       case rel =>
        obtain ⟨z1, z2, z3, z4, z5⟩ := HEND.out _ (layK y7 p (.slice pa pn pk)) (by rw [HS1.out]; exact HK2.out) (by rw [HS1.out]; exact Grows.trans (Grows.of_below (Below.refl _ _).drew) HK3.out) (by rw [HS1.out])
        exact ⟨j + 1, s1, q, pc, _, by go_num, by omega, by rw [HS1.out]; go_num, by rw [HS1.out]; simp; omega, by rw [HS1.out]; simp; omega, HE3, z1, z2, z3, z4, z5⟩
       case measure => simp [intOf]; omega
     ·have hl1 : ((lv : Int) == 0) = false := by simpa using hl0
      obtain ⟨e, he, hs1⟩ := growStep_more HLV.out hl0 HP.out hp0 HE2.out
      have hgb1 := HGJ.out.step HWJ.out HE2.out
      rw [hg7.out] at he hs1
      have hkl1 : e.kids.length ≤ 1000000 := by
       have := hgb1.2.2.2 p { e with kids := e.kids ++ [i] } (by rw [hs1]; exact fset_same _ _ _)
       simp at this; omega
      have HE := Lib.hid he
      have HS1 := Lib.hid hs1
      have HKL1 := Lib.hid hkl1
      have HL0 := Lib.hid hl0
      clear he hs1 hkl1 hgb1 hl0
      go_wp2_with fail
      refine wp_region_held_drew (S := fun V => V.cell? ⟨t, 0, none⟩ = some (.map (some mb)) ∧ (Instr.lookup 73 (.map (some mb)) (.int .i64 p) false).run Tryz.prog V = .ok (.pointer (some ⟨y7.nb p, 0, none⟩)) V) (by kernel_rfl) (HKS7.out _ e HE.out HTD7.out) (fun hHeld => ?_)
      have HTB : Hid (TreeAt (w7.drew.alloc (.cells #[.int .i64 i] 3)) t mb y7 g7 s0'.root next (s0'.n + 1)) := HTD7.out.below ((Below.refl _ _).alloc (Nat.le_refl _) _)
      have n7 := HT7.out.n7 HE.out
      have n7b : (w7.alloc (.cells #[.int .i64 i] 3)).cell? ⟨y7.nb p, 7, none⟩ = some (y7.kid p) := (World.cell?_alloc_lt _ _ _ (Array.getElem?_eq_some_iff.1 (HT7.out.node p e HE.out)).1).trans n7
      refine tkv 0 (h := tkv 1 (h := tkv 2 (h := tkv 3 (h := tkv 4 (h := tkv 5 (h := ?_))))))
      refine tkv 6 (h := tkv 7 (h := tkv 8 (h := tkv 9 (h := tkv 10 (h := tkv 11 (h := ?_))))))
      refine tkv 12 (h := tkv 13 (h := ?_))
      refine tkv 15 (h := ?_)
      refine wpAnyH_ready (rs := [14, 16]) (by kernel_rfl) (by simp) ?_
      refine AllReadyH.cons (o := ⟨_, _, _, _, _, _⟩) rfl (fun K hK => ?_) (AllReadyH.cons (o := ⟨_, _, _, _, _, _⟩) rfl (fun K hK => ?_) AllReadyH.nil)
      ·go_simp
       refine hK.out _ _ (HKS7.out _ e HE.out HTD7.out) (fun hHeld => ?_)
       clear hK K
       try go_frame
       refine rdy 16 (fun K hK => ?_)
       go_simp
       refine hK.out _ _ (HKS7.out _ e HE.out HTB.out) (fun hHeld => ?_)
       clear hK K
       try go_frame
       clear n7 n7b
       refine rdy 17 (fun K hK => ?_)
       obtain ⟨pa, pn, pk, w9, hra, k1, k2, k3⟩ := kid_append HTD7.out HE.out HKL1.out i
       refine step_append_runI rfl (.tmp 78) (.tmp 80) 43 43 rfl (y7.kid p) (.slice (some ⟨w7.heap.size, 0, none⟩) 1 1) (by simp [Act.eval]) (by simp [Act.eval]) hra ?_
       have e7 := cell_row k1 7 _ rfl
       have f7 := free_row k1 7
       have HK2 := Lib.hid k2
       have HK3 := Lib.hid k3
       clear k1 k2 k3
       refine hK.out _ _ (kids_before HK2.out (fset_same _ _ _) rfl HWP.out) (fun hHeld => ?_)
       clear hK K
       try go_frame
       refine tkv 18 (h := tkv 19 (h := ?_))
       refine rdy 20 (fun K hK => ?_)
       go_simp
       refine hK.out _ _ (⟨HK2.out.c0, (HK2.out.look_yes (fset_same _ _ _) HWP.out).2⟩) (fun hHeld => ?_)
       clear hK K
       try go_frame
       refine wpAnyH_done (by kernel_rfl) ?_ _
       clear hHeld e7 f7
       go_wp2_with fail
       go_roundw
       case rel =>
        obtain ⟨z1, z2, z3, z4, z5⟩ := HEND.out _ (layK y7 p (.slice pa pn pk)) (by rw [HS1.out]; exact HK2.out) (by rw [HS1.out]; exact Grows.trans (Grows.of_below (Below.refl _ _).drew) HK3.out) (by rw [HS1.out])
        exact ⟨j + 1, s1, q, pc, _, by go_num, by omega, by rw [HS1.out], by rw [HS1.out]; simp; omega, by rw [HS1.out]; simp; omega, HE3, z1, z2, z3, z4, z5⟩
       case measure => simp [intOf]; omega
      ·go_simp
       refine hK.out _ _ (HKS7.out _ e HE.out HTB.out) (fun hHeld => ?_)
       clear hK K
       try go_frame
       refine rdy 14 (fun K hK => ?_)
       go_simp
       refine hK.out _ _ (HKS7.out _ e HE.out HTB.out) (fun hHeld => ?_)
       clear hK K
       try go_frame
       clear n7 n7b
       refine rdy 17 (fun K hK => ?_)
       obtain ⟨pa, pn, pk, w9, hra, k1, k2, k3⟩ := kid_append HTD7.out HE.out HKL1.out i
       refine step_append_runI rfl (.tmp 78) (.tmp 80) 43 43 rfl (y7.kid p) (.slice (some ⟨w7.heap.size, 0, none⟩) 1 1) (by simp [Act.eval]) (by simp [Act.eval]) hra ?_
       have e7 := cell_row k1 7 _ rfl
       have f7 := free_row k1 7
       have HK2 := Lib.hid k2
       have HK3 := Lib.hid k3
       clear k1 k2 k3
       refine hK.out _ _ (kids_before HK2.out (fset_same _ _ _) rfl HWP.out) (fun hHeld => ?_)
       clear hK K
       try go_frame
       refine tkv 18 (h := tkv 19 (h := ?_))
       refine rdy 20 (fun K hK => ?_)
       go_simp
       refine hK.out _ _ (⟨HK2.out.c0, (HK2.out.look_yes (fset_same _ _ _) HWP.out).2⟩) (fun hHeld => ?_)
       clear hK K
       try go_frame
       refine wpAnyH_done (by kernel_rfl) ?_ _
       clear hHeld e7 f7
       go_wp2_with fail
       go_roundw
       case rel =>
        obtain ⟨z1, z2, z3, z4, z5⟩ := HEND.out _ (layK y7 p (.slice pa pn pk)) (by rw [HS1.out]; exact HK2.out) (by rw [HS1.out]; exact Grows.trans (Grows.of_below (Below.refl _ _).drew) HK3.out) (by rw [HS1.out])
        exact ⟨j + 1, s1, q, pc, _, by go_num, by omega, by rw [HS1.out], by rw [HS1.out]; simp; omega, by rw [HS1.out]; simp; omega, HE3, z1, z2, z3, z4, z5⟩
       case measure => simp [intOf]; omega
  ·have hjm' : ¬ (j : Int) < (m : Int) := by omega
   obtain ⟨i0, hi0⟩ : ∃ i, ids[0]? = some i := ⟨_, List.getElem?_eq_getElem (by rw [hll]; exact hl0)⟩
   have hjl : j = m := by omega
   have hzt : (l.zip ids).take j = l.zip ids := List.take_of_length_le (by rw [List.length_zip, hm.out]; omega)
   have h2 := hgs.out
   rw [hzt, HS.out] at h2
   injection h2 with h2
   cases VA with
   | none => exact absurd (hidr (by rw [hll]; omega)) (by rintro ⟨_, h, _⟩; cases h)
   | some va =>
    obtain ⟨va', hva, _, hvcl⟩ := hidr (by rw [hll]; omega)
    injection hva with hva
    subst hva
    have cid := hvcl 0 i0 (by assumption)
    rw [show va.add 0 = va from rfl] at cid
    have HI0 := Lib.hid hi0
    have HZ2 : Hid (s2 = s0) := h2
    clear hidr hvcl hIr hz hi0 h2 hzt hjl
    go_wp2_with fail
    go_ret
    refine ⟨i0, HI0.out, rfl, mb, y0, ?_, ?_⟩
    ·rw [HZ2.out]; exact ht.out
    ·rw [HZ2.out]; exact hgr.out
end
end
section
def restL (l : List ItemD) (ids : List Int) : List RowD := (l.zip ids).map fun z => ⟨z.2, z.1⟩
def OkIds (ids : List Int) (next : Int) : Prop := ids.Nodup ∧ ∀ x ∈ ids, 1 ≤ x ∧ x < next
instance (ids : List Int) (next : Int) : Decidable (OkIds ids next) := by unfold OkIds; infer_instance
def restE (l : List ItemD) (ids : List Int) (next : Int) : Int :=
 if ids.length ≠ l.length ∨ next < 1 ∨ 2147483647 < next then 1 else if ¬ OkIds ids next then 1 else if l = [] then 0 else (checkL l).2
theorem rest_x {l : List ItemD} {ids : List Int} (h : ids.length = l.length) : (restL l ids).map (·.x) = l := by
 unfold restL
 rw [List.map_map]
 exact List.map_fst_zip (by omega)
theorem rest_ids {l : List ItemD} {ids : List Int} (h : ids.length = l.length) : (restL l ids).map (·.id) = ids := by
 unfold restL
 rw [List.map_map]
 exact List.map_snd_zip (by omega)
theorem rest_len {l : List ItemD} {ids : List Int} (h : ids.length = l.length) : (restL l ids).length = l.length := by
 unfold restL
 rw [List.length_map, List.length_zip]
 omega
theorem ok_take {ids : List Int} {next : Int} {k : Nat} {x : Int} (hx : ids[k]? = some x) (h : OkIds (ids.take k) next) (h1 : 1 ≤ x) (h2 : x < next) (h3 : x ∉ ids.take k) : OkIds (ids.take (k + 1)) next := by
 rw [List.take_add_one, hx]
 refine ⟨?_, fun z hz => ?_⟩
 ·rw [List.nodup_append]
  exact ⟨h.1, by simp, fun a ha b hb e => by
   simp at hb
   subst hb
   subst e
   exact h3 ha⟩
 ·rcases List.mem_append.1 hz with hz | hz
  ·exact h.2 z hz
  ·simp at hz
   subst hz
   exact ⟨h1, h2⟩
theorem ok_no {ids : List Int} {next : Int} {k : Nat} {x : Int} (hx : ids[k]? = some x) (h : x < 1 ∨ next ≤ x ∨ x ∈ ids.take k) : ¬ OkIds ids next := fun hok => by
 have hm := List.mem_of_getElem? hx
 have h2 := hok.2 x hm
 rcases h with h | h | h
 ·omega
 ·omega
 ·have hs : ids = ids.take k ++ x :: ids.drop (k + 1) := by
   have := List.take_append_drop k ids
   rw [drop_cons hx] at this
   exact this.symm
  have hn := hok.1
  rw [hs, List.nodup_append] at hn
  exact hn.2.2 x h x (by simp) rfl
theorem rest_step {l : List ItemD} {ids : List Int} {next : Int} (hck : (checkL l).2 = 0) (hln : ids.length = l.length) (hok : OkIds ids next) (hn : 1 ≤ next ∧ next ≤ 2147483647) :
  ∃ F : Fo, InvF F next ∧ F.flat 0 = restL l ids ∧ ∃ s2, growS (l.zip ids) ⟨[0], 0, fun _ => none, 0, 0⟩ = some s2 ∧ s2.g = F.ent 0 ∧ s2.root = rootF F ∧ s2.n = F.cnt := by
 obtain ⟨x, r, hl, h0, h1, hs, hr, hoki, hlen⟩ := (check_ok l).1 hck
 have hx := rest_x hln
 have hge : ∀ z ∈ l, 0 ≤ z.level := fun z hz => by
  rw [hl] at hz
  rcases List.mem_cons.1 hz with rfl | hz
  ·omega
  ·have := hr z hz; omega
 obtain ⟨F, f1, f2⟩ := build (restL l ids).length (restL l ids) 0 (Nat.le_refl _) (fun q hq => hge q.x (by rw [← hx]; exact List.mem_map_of_mem hq)) (fun q hq => by
  have h2 : (restL l ids).map (·.x) = x :: r := by rw [hx, hl]
  cases hL : restL l ids with
  | nil => rw [hL] at hq; simp at hq
  | cons a b =>
   rw [hL] at hq h2
   simp only [List.map_cons, List.cons.injEq] at h2
   simp at hq
   rw [← hq, h2.1]
   exact h0) (by rw [hx]; exact hs)
 have hids : F.ids = ids := by rw [← Fo.flat_ids F 0, f1, rest_ids hln]
 have hcnt : F.cnt = l.length := by rw [← Fo.flat_len F 0, f1, rest_len hln]
 have hprs : prs 0 F = l.zip ids := by
  unfold prs
  rw [f1]
  unfold restL
  rw [List.map_map]
  have : ((fun r : RowD => (r.x, r.id)) ∘ fun z : ItemD × Int => (⟨z.2, z.1⟩ : RowD)) = fun z => z := by funext z; rfl
  rw [this, List.map_id']
 have hone : ∀ id d ks rr, F = .cons id d ks rr → rr = .nil ∧ d.kind = 1 := by
  intro id d ks rr hF
  have f6 : (F.flat 0).map (·.x) = l := by rw [f1, hx]
  subst hF
  rw [Fo.flat, List.map_cons, List.map_append, hl] at f6
  injection f6 with g1 g2
  refine ⟨?_, ?_⟩
  ·cases rr with
   | nil => rfl
   | cons i2 d2 k2 r2 =>
    exfalso
    have hz : d2.at 0 ∈ r := by rw [← g2, Fo.flat]; simp
    have := hr _ hz
    rw [at_level] at this; omega
  ·rw [← g1] at h1; exact h1
 have hinv : InvF F next := by
  refine ⟨by rw [hids]; exact hok.1, fun z hz => by rw [hids] at hz; exact hok.2 z hz, hn, hone, f2, fun z hz => ?_, by rw [hcnt]; exact hlen⟩
  rw [f1] at hz
  exact hoki z.x (by rw [← hx]; exact List.mem_map_of_mem hz)
 refine ⟨F, hinv, f1, ?_⟩
 cases F with
 | nil =>
  rw [hl] at hcnt
  simp [Fo.cnt] at hcnt
 | cons id d ks rr =>
  obtain ⟨rfl, _⟩ := hone id d ks rr rfl
  obtain ⟨s2, q1, q2, q3, q4⟩ := growS_root id d ks 0 0 hinv.nd hinv.q0 0
  rw [hprs] at q1
  exact ⟨s2, q1, q2, q3, by simpa using q4⟩
end
section
open Go.RowKit Go.Shelf
def MapU (w : World) (b : Nat) (S : List Int) : Prop :=
 ∃ D, w.ownsMap (H := Unit) Tryz.prog 3 (plainElem Tryz.prog 3) b S.length D ∧ ∀ id, wfI id → D.atKey (.int .i64 id) (.lit (.int .i64 0)) = .lit (.int .i64 (if id ∈ S then 1 else 0))
theorem zeroInt (w : World) : (zeroValue 3).run Tryz.prog w = .ok (.int .i64 0) w := Tryz.zeroValue3 w
theorem MapU.new (w : World) : MapU (w.alloc (.map #[] 0)) w.heap.size [] := ⟨.map [], World.ownsMap_made _ _ _ _, fun id _ => by simp [DataW.atKey]⟩
theorem MapU.keep {w w' : World} {b : Nat} {S : List Int} (h : MapU w b S) (hk : w'.heap[b]? = w.heap[b]?) : MapU w' b S := by
 obtain ⟨D, ⟨es, clock, hb, F, hs, hD⟩, hr⟩ := h
 exact ⟨D, ⟨es, clock, hk.trans hb, F, hs, hD⟩, hr⟩
theorem MapU.look {w : World} {b : Nat} {S : List Int} (h : MapU w b S) {id : Int} (hw : wfI id) : (Instr.lookup 106 (.map (some b)) (.int .i64 id) false).run Tryz.prog w = .ok (.int .i64 (if id ∈ S then 1 else 0)) w := by
 obtain ⟨D, h, hf⟩ := h
 obtain ⟨c, hr, hc, _⟩ := h.lookup_int keyedI Tryz.underlying106 Tryz.underlying3 (zeroInt w) (keyI hw)
 rw [hf id hw] at hc
 injection hc with hc
 injection hc with _ hc
 rw [hr, hc]
theorem MapU.put {w : World} {b : Nat} {S : List Int} (h : MapU w b S) {id : Int} (hw : wfI id) (hn : S.length < maxLen) :
  ∃ w', (Instr.mapUpdate 106 (.map (some b)) (.int .i64 id) (.int .i64 1)).run Tryz.prog w = .ok () w' ∧ MapU w' b (S ++ [id]) ∧ w.grownBy w' (some b) := by
 obtain ⟨D, h, hf⟩ := h
 obtain ⟨w', hr, ho, hg⟩ := h.update keyedI Tryz.underlying106 hn (keyI hw) (val := .int .i64 1) (plainElem_int Tryz.underlying3 (by decide))
 refine ⟨w', hr, ⟨_, by rw [List.length_append]; exact ho, fun x hx => ?_⟩, hg⟩
 by_cases e : x = id
 ·subst e
  rw [Maps.atKey_put_same h.isMap keyLitI _ _, if_pos (by simp)]
 ·rw [Maps.atKey_put_other (lit_ne e), hf x hx]
  simp [e]
def RestP (w : World) (l : List ItemD) (ids : List Int) (next : Int) (er : Ending) (w' : World) : Prop :=
 (restE l ids next ≠ 0 ∧ er = .returned (.tuple #[.pointer none, .int .i64 (restE l ids next)]) ∧ Below w.heap.size w w') ∨
 (restE l ids next = 0 ∧ ∃ t M f, er = .returned (.tuple #[.pointer (some ⟨t, 0, none⟩), .int .i64 0]) ∧ TreeM M t f next w' ∧ f.flat 0 = restL l ids ∧ (∀ b, M b → w.heap.size ≤ b) ∧ Below w.heap.size w w')
theorem Restore_in (l : List ItemD) (A : Option Addr) (c : Nat) (ids : List Int) (Av : Option Addr) (cv : Nat) (next : Int) (w : World) (hi : ItemsAt w w.heap.size A l) (hs : SmallItems l) (hd : IntsAt w w.heap.size Av ids) (hll : l.length ≤ 100000) (hli : ids.length ≤ 100000) (hwi : ∀ x ∈ ids, wfI x) :
  Calls Tryz.prog 34 #[.slice A l.length c, .slice Av ids.length cv, .int .i64 next] w (RestP w l ids next) := by
 have hmm := @run_makeMap Tryz.prog
 have HI := Lib.hid hi
 have HS := Lib.hid hs
 have HD := Lib.hid hd
 have HWI := Lib.hid hwi
 have l0 : (0 : Int) ≤ (l.length : Int) := by omega
 have l1 : (l.length : Int) ≤ 100000 := by omega
 have i0 : (0 : Int) ≤ (ids.length : Int) := by omega
 have i1 : (ids.length : Int) ≤ 100000 := by omega
 clear hi hs hd hwi
 by_cases hc1 : ids.length ≠ l.length
 ·have t1 : ((ids.length : Int) != (l.length : Int)) = true := by
   have : (ids.length : Int) ≠ (l.length : Int) := by omega
   simpa using this
  go_enter Tryz.func34, Tryz.ntmps34
  have HE : Hid (restE l ids next = 1) := by
   show _ = _
   unfold restE
   rw [if_pos (.inl hc1)]
  go_wp2_with fail
  go_ret2
  exact .inl ⟨by rw [HE.out]; decide, by rw [HE.out]; rfl, Below.refl _ _⟩
 have t1 : ((ids.length : Int) != (l.length : Int)) = false := by
  have : (ids.length : Int) = (l.length : Int) := by omega
  simpa using this
 by_cases hc2 : next < 1
 ·go_enter Tryz.func34, Tryz.ntmps34
  have HE : Hid (restE l ids next = 1) := by
   show _ = _
   unfold restE
   rw [if_pos (.inr (.inl hc2))]
  go_wp2_with fail
  go_ret2
  exact .inl ⟨by rw [HE.out]; decide, by rw [HE.out]; rfl, Below.refl _ _⟩
 by_cases hc3 : 2147483647 < next
 ·go_enter Tryz.func34, Tryz.ntmps34
  have HE : Hid (restE l ids next = 1) := by
   show _ = _
   unfold restE
   rw [if_pos (.inr (.inr hc3))]
  go_wp2_with fail
  go_ret2
  exact .inl ⟨by rw [HE.out]; decide, by rw [HE.out]; rfl, Below.refl _ _⟩
 have HLN : Hid (ids.length = l.length) := by
  show ids.length = l.length
  exact Decidable.not_not.1 hc1
 have HNX : Hid (1 ≤ next ∧ next ≤ 2147483647) := by show _ ∧ _; omega
 have hres : restE l ids next = if ¬ OkIds ids next then 1 else if l = [] then 0 else (checkL l).2 := by
  unfold restE
  rw [if_neg (by omega)]
 have HRES := Lib.hid hres
 clear hc1 hres
 go_enter Tryz.func34, Tryz.ntmps34
 go_wp2_with fail
 clear t1
 refine (New_any w).mono ?_
 rintro e w1 ⟨rfl, hb1, y, ht1⟩
 have c2 := ht1.c2
 have f2 := free_row ht1.tree 2
 have ht2 := ht1.set_next next
 have hzw : w.heap.size + 2 ≤ w1.heap.size := by
  have := ht1.lt (.inl rfl : Mine (w.heap.size + 1) w.heap.size y (fun _ => none) _)
  omega
 have hb2 : Below w.heap.size w (w1.setCell ⟨w.heap.size + 1, 2, none⟩ (.int .i64 next)) := hb1.setCell (by show w.heap.size ≤ w.heap.size + 1; omega) _
 have HZW := Lib.hid hzw
 have HB2 := Lib.hid hb2
 have HT2 := Lib.hid ht2
 clear hb1 ht1 ht2 hzw hb2
 go_upto_region 5 with (fail)
 obtain ⟨w2, hw2⟩ : ∃ w2, Hid (w1.setCell ⟨w.heap.size + 1, 2, none⟩ (.int .i64 next) = w2) := ⟨_, rfl⟩
 rw [hw2.out] at HB2 HT2 ⊢
 have HZ2 : Hid (w.heap.size + 2 ≤ w2.heap.size) := by show _ ≤ _; rw [← hw2.out]; simpa using HZW.out
 clear c2 f2
 obtain ⟨w3, hw3⟩ : ∃ w3, Hid (w3 = w2.alloc (.map #[] 0)) := ⟨_, rfl⟩
 have hb3 : Below w2.heap.size w2 w3 := by rw [hw3.out]; exact (Below.refl _ w2).alloc (Nat.le_refl _) _
 have HM3 : Hid (MapU w3 w2.heap.size []) := by rw [hw3.out]; exact MapU.new w2
 have HT3 := Lib.hid (HT2.out.below hb3)
 have HB3 : Hid (Below w.heap.size w w3) := HB2.out.trans (hb3.mono HB2.out.size)
 have HZ3 : Hid (w2.heap.size < w3.heap.size) := by show _ < _; rw [hw3.out]; simp
 obtain ⟨um, hum⟩ : ∃ um, Hid (w2.heap.size = um) := ⟨_, rfl⟩
 clear hb3
 go_upto_region 6 with (fail)
 rw [← hw3.out, hum.out]
 rw [hum.out] at HM3 HZ3 HZ2
 go_wp2_with fail
 go_loopw [35] (fun i wr => ∃ k : Nat, i = .int .i64 (k : Int) ∧ k ≤ ids.length ∧ Hid (OkIds (ids.take k) next) ∧ Hid (MapU wr um (ids.take k)) ∧ Hid (TreeAt wr (w.heap.size + 1) w.heap.size y (fun _ => none) 0 next 0) ∧ Hid (Below w.heap.size w wr) ∧ Hid (um < wr.heap.size)) (fun i _ => ids.length - (intOf i).toNat)
 case atStart => exact ⟨0, rfl, Nat.zero_le _, ⟨by simp, fun x hx => by simp at hx⟩, HM3.out, HT3.out, HB3.out, HZ3.out⟩
 case round =>
  obtain ⟨k, rfl, hk, hok, hm, ht, hbl, hum2⟩ := hrel
  have k0 : (0 : Int) ≤ (k : Int) := by omega
  by_cases hkl : k < ids.length
  ·have k1 : (k : Int) < (ids.length : Int) := by omega
   obtain ⟨x, hx⟩ : ∃ x, Hid (ids[k]? = some x) := ⟨ids[k], List.getElem?_eq_getElem _⟩
   have hwx := HWI.out x (List.mem_of_getElem? hx.out)
   obtain ⟨va, hva, _, hcl⟩ := (HD.out.below hbl.out) (by omega)
   subst hva
   have cid := hcl k x hx.out
   have hlk := hm.out.look hwx
   have HWX := Lib.hid hwx
   clear hcl hwx
   by_cases hx1 : x < 1
   ·have HE : Hid (restE l ids next = 1) := by
     show _ = _
     unfold restE
     rw [if_neg (by have := HLN.out; omega), if_pos (ok_no hx.out (.inl hx1))]
    go_wp2_with fail
    go_ret2
    exact .inl ⟨by rw [HE.out]; decide, by rw [HE.out]; rfl, hbl.out⟩
   by_cases hx2 : next ≤ x
   ·have HE : Hid (restE l ids next = 1) := by
     show _ = _
     unfold restE
     rw [if_neg (by have := HLN.out; omega), if_pos (ok_no hx.out (.inr (.inl hx2)))]
    go_wp2_with fail
    go_ret2
    exact .inl ⟨by rw [HE.out]; decide, by rw [HE.out]; rfl, hbl.out⟩
   by_cases hx3 : x ∈ ids.take k
   ·rw [if_pos hx3] at hlk
    have HE : Hid (restE l ids next = 1) := by
     show _ = _
     unfold restE
     rw [if_neg (by have := HLN.out; omega), if_pos (ok_no hx.out (.inr (.inr hx3)))]
    go_wp2_with fail
    go_ret2
    exact .inl ⟨by rw [HE.out]; decide, by rw [HE.out]; rfl, hbl.out⟩
   rw [if_neg hx3] at hlk
   obtain ⟨w4, hr4, hm4, hg4⟩ := hm.out.put HWX.out (by rw [List.length_take]; unfold maxLen; omega)
   have hsn : ids.take (k + 1) = ids.take k ++ [x] := by rw [List.take_add_one, hx.out]; rfl
   rw [← hsn] at hm4
   have HM4 := Lib.hid hm4
   have HOK4 := Lib.hid (ok_take hx.out hok.out (by omega) (by omega) hx3)
   have HT4 : Hid (TreeAt w4 (w.heap.size + 1) w.heap.size y (fun _ => none) 0 next 0) := ht.out.keep fun b hb => hg4.block b (ht.out.lt hb) (fun e' => by
    injection e' with e'
    have := HZ2.out
    rcases hb with h | h | ⟨_, _, h, _⟩
    ·omega
    ·omega
    ·cases h)
   have HB4 : Hid (Below w.heap.size w w4) := hbl.out.grown hg4 hbl.out.size (fun j hj => by have := HZ2.out; cases hj; omega)
   have HU4 : Hid (um < w4.heap.size) := Nat.lt_of_lt_of_le hum2.out hg4.size
   clear hm4 hg4 hsn hx3
   go_wp2_with fail
   go_roundw
   case rel => exact ⟨k + 1, by go_num, by omega, HOK4.out, HM4.out, HT4.out, HB4.out, HU4.out⟩
   case measure => simp [intOf]; omega
  ·have k1 : ¬ (k : Int) < (ids.length : Int) := by omega
   have hok' := hok.out
   rw [List.take_of_length_le (by omega)] at hok'
   have HOK := Lib.hid hok'
   have hres : restE l ids next = if l = [] then 0 else (checkL l).2 := by rw [HRES.out, if_neg (by simpa using HOK.out)]
   have HRS := Lib.hid hres
   clear hok' hres
   by_cases hl : l = []
   ·have t2 : ((l.length : Int) == 0) = true := by simp [hl]
    have HE : Hid (restE l ids next = 0) := HRS.out.trans (if_pos hl)
    have HLE := Lib.hid hl
    clear hl
    go_wp2_with fail
    go_ret2
    refine .inr ⟨HE.out, w.heap.size + 1, Mine (w.heap.size + 1) w.heap.size y (fun _ => none), .nil, rfl, ⟨w.heap.size, y, ht.out, ⟨by simp [Fo.ids], by simp [Fo.ids], HNX.out, (fun _ _ _ _ h => (by cases h)), trivial, by simp [Fo.flat], by simp [Fo.cnt]⟩, fun b hb => hb, fun b hb => ht.out.lt hb⟩, by rw [HLE.out]; rfl, fun b hb => ?_, hbl.out⟩
    rcases hb with h | h | ⟨_, _, h, _⟩
    ·omega
    ·omega
    ·cases h
   ·have t2 : ((l.length : Int) == 0) = false := by
     have : l.length ≠ 0 := fun h => hl (List.length_eq_zero_iff.1 h)
     simp; omega
    have HPOS : Hid (0 < l.length) := by
     have : l.length ≠ 0 := fun h => hl (List.length_eq_zero_iff.1 h)
     show _ < _
     omega
    have HRS2 : Hid (restE l ids next = (checkL l).2) := HRS.out.trans (if_neg hl)
    obtain ⟨cn, ce, hce⟩ : ∃ cn ce, Hid (checkL l = (cn, ce)) := ⟨_, _, rfl⟩
    have HRS3 : Hid (restE l ids next = ce) := by show _ = _; rw [HRS2.out, hce.out]
    clear hl
    go_wp2_with fail
    refine (Check_any l A c wr ((HI.out.below hbl.out).more hbl.out.size) HS.out cn ce hce).mono ?_
    rintro e w5 ⟨rfl, hb5⟩
    have HB5 : Hid (Below w.heap.size w w5) := hbl.out.trans (hb5.mono hbl.out.size)
    have HT5 := Lib.hid (ht.out.below hb5)
    clear hb5 t2
    by_cases h0 : ce ≠ 0
    ·have t3 : (ce != 0) = true := by simpa using h0
     have HC0 := Lib.hid h0
     clear h0
     go_wp2_with fail
     go_ret2
     exact .inl ⟨by rw [HRS3.out]; exact HC0.out, by rw [HRS3.out]; rfl, HB5.out⟩
    ·have h0' : ce = 0 := Decidable.not_not.1 h0
     subst h0'
     clear h0
     have hck0 : (checkL l).2 = 0 := by rw [hce.out]
     obtain ⟨F, q1, q2, s2, q3, q4, q5, q6⟩ := rest_step hck0 HLN.out HOK.out HNX.out
     have hpost : ∀ b, Mine (w.heap.size + 1) w.heap.size y (fun _ => none) b → w.heap.size ≤ b := fun b hb => by
      rcases hb with h | h | ⟨_, _, h, _⟩
      ·omega
      ·omega
      ·cases h
     have HP := Lib.hid hpost
     have HF1 := Lib.hid q1
     have HF2 := Lib.hid q2
     have HG := Lib.hid (And.intro q4 (And.intro q5 q6))
     have HAL : Hid (∀ (k : Nat) (x : ItemD), l[k]? = some x → x.attrs.length ≤ 1000000000) := fun k x hx => (HS.out.2 k x hx).2.2.1
     clear q1 q2 q4 q5 q6 hck0 hpost
     go_wp2_with fail
     refine (grow2_any HT5.out 0 0 l ids A c w.heap.size (StandI.of (HI.out.below HB5.out) HP.out HB5.out.size) HB5.out.size Av cv (HD.out.below HB5.out) HP.out HAL.out HWI.out ⟨by decide, by decide⟩ (by decide) (fun _ _ h => by cases h) (by omega) HLN.out HPOS.out (by decide) s2 q3).mono ?_
     rintro e2 w6 ⟨i0', _, rfl, mb', y', ht6, hg6⟩
     rw [HG.out.1, HG.out.2.1, HG.out.2.2] at ht6
     have HT6 := Lib.hid ht6
     have HG6 := Lib.hid hg6
     clear ht6 hg6
     go_wp2_with fail
     go_ret2
     refine .inr ⟨HRS3.out, w.heap.size + 1, Mine (w.heap.size + 1) mb' y' (F.ent 0), F, rfl, ⟨mb', y', HT6.out, HF1.out, fun b hb => hb, fun b hb => HT6.out.lt hb⟩, HF2.out, fun b hb => ?_, HB5.out.trans (HG6.out.1.below HP.out HB5.out.size)⟩
     have h2 := HG6.out.2 b (by rw [HG.out.1]; exact hb)
     rcases h2 with h | h
     ·exact HP.out b h
     ·have := HB5.out.size; omega
end
end Go.Proofs.YtmkgajdgnmolkaaGreat
