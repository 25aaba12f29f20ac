/-
  Texts of this claim, joined (by a program of the claim's author): GInsA, GDelA, GAtt, GAtS, GAttP, GGrC, GGrow, Parts.
-/
import Derived.Test.YtmkgajdgnmolkaaGreatR1
import Derived.Test.YtmkgajdgnmolkaaGreatR3
import Derived.Test.YtmkgajdgnmolkaaGreatR4
import Derived.Shelf.Spec.SlicesInsert
import Derived.WalkSpells
import Derived.Test.YtmkgajdgnmolkaaGreatR5
import Derived.Test.YtmkgajdgnmolkaaGreatR2
import Derived.Sort.Walk0
namespace Go.Proofs.YtmkgajdgnmolkaaGreat
set_option maxRecDepth 100000
set_option maxHeartbeats 16000000
section
open Go.RowKit Go.Lib
theorem ins_att_end (v : Value) (xs : List Value) (n : Nat) (us : List Value) (X : Nat) (w : World) (hrow : w.ownsRow 0 66 2 v n xs) (hX : w.heap[X]? = some (.cells us.toArray 66 (0, 0))) (hul : us.length = 2) (hu : ∀ u ∈ us, u.oneCell' = true) (hn : n ≤ 1000000) :
  Calls Tryz.prog 73 #[v, .int .i64 n, .slice (some ⟨X, 0, none⟩) 1 1] w (RowPost w v fun w' v' => w'.ownsRow 0 66 2 v' (n + 1) (xs ++ us)) := by
 obtain ⟨v', w', hr, hrow', hg', hf'⟩ := run_appendG (P := Tryz.prog) w 48 48 66 (.agg #[.string ByteArray.empty, .string ByteArray.empty]) 2 32 Tryz.underlying48 infoAttr rfl (by decide) (by decide) v n xs hrow ⟨X, 0, none⟩ 1 1 us (by decide) (by omega) (fun j u0 hj => by rw [add_zero_block]; exact cell_row hX j _ (by simpa using hj)) hu (by omega) (by decide)
 obtain ⟨A, c, rfl, hnc, hcm, hA0, hA1⟩ := row_shape hrow
 have HPOST : Hid (RowPost w (.slice A n c) (fun w' v' => w'.ownsRow 0 66 2 v' (n + 1) (xs ++ us)) (.returned v') w') := ⟨v', rfl, hrow', hg', hf'⟩
 unfold maxLen at hcm
 have hnc' : (n : Int) ≤ c := by omega
 clear hrow hX hul hu hrow' hg' hf'
 cases A with
 | none =>
  obtain ⟨rfl, rfl⟩ := hA0 rfl
  clear hA0 hA1
  go_enter Tryz.func73, Tryz.ntmps73
  go_wp2_with (at_builtin; refine wpList_append_run _ rfl (.tmp 23) (.tmp 24) 48 48 rfl _ _ rfl rfl _ _ hr ?_)
  go_ret
  exact HPOST.out
 | some ad =>
  obtain ⟨g, rfl, _⟩ := hA1 ad rfl
  clear hA0 hA1
  by_cases hc : c = n
  ·subst hc
   go_enter Tryz.func73, Tryz.ntmps73
   go_wp2_with (at_builtin; refine wpList_append_run _ rfl (.tmp 23) (.tmp 24) 48 48 rfl _ _ rfl rfl _ _ hr ?_)
   go_ret
   exact HPOST.out
  ·go_enter Tryz.func73, Tryz.ntmps73
   go_wp2_with (at_builtin; refine wpList_append_run _ rfl (.tmp 23) (.tmp 24) 48 48 rfl _ _ rfl rfl _ _ hr ?_)
   go_ret
   exact HPOST.out
theorem ins_att_room (g c k n : Nat) (cur : Array Value) (xs : List Value) (us : List Value) (X : Nat) (w : World) (hg : w.heap[g]? = some (.cells cur 66 (0, 0))) (hcs : cur.size = c * 2) (hx : cur.toList.take (n * 2) = xs) (h1 : ∀ v ∈ xs, v.oneCell' = true)
  (hX : w.heap[X]? = some (.cells us.toArray 66 (0, 0))) (hul : us.length = 2) (hu : ∀ u ∈ us, u.oneCell' = true) (hne : X ≠ g) (hn : n ≤ 1000000) (hk : k < n) (hroom : n + 1 ≤ c) (hcm : c ≤ maxLen) :
  Calls Tryz.prog 73 #[.slice (some ⟨g, 0, none⟩) n c, .int .i64 k, .slice (some ⟨X, 0, none⟩) 1 1] w (RowPost w (.slice (some ⟨g, 0, none⟩) n c) fun w' v' => w'.ownsRow 0 66 2 v' (n + 1) (xs.take (k * 2) ++ us ++ xs.drop (k * 2))) := by
 have hov : ∀ o lb cb, (callFunc 101 #[.slice (some ⟨X, 0, none⟩) 1 1, .slice (some ⟨g, o, none⟩) lb cb]).run Tryz.prog w = .ok (.value (.bool false)) w := fun o lb cb => by
  rw [run_callFunc_extern Tryz.func101 (by kernel_rfl) (by kernel_rfl) (by kernel_rfl) (e := Extern.SlicesOverlaps.overlaps #[48, 48] #[4]) (by kernel_rfl),
   Lib.run_overlaps_apart w 48 4 66 Tryz.underlying48 2 Tryz.sizeOf66 ⟨X, 0, none⟩ ⟨g, o, none⟩ 1 1 lb cb hne 66 66 2 cur.size (by simp [World.shape?, hX, hul]) (by simp [World.shape?, hg]) (by omega) (free_row hX 0) (free_row hX 2)]
  rfl
 have hsz : (Tryz.prog.info? 66).map (·.size) = some 2 := by
  obtain ⟨i0, hi0, h0, h1, h2⟩ := info_parts infoAttr
  rw [hi0]; simp [h1]
 have hxl : xs.length = n * 2 := by rw [← hx, List.length_take, Array.length_toList, hcs]; omega
 have hcur : ∀ j v, xs[j]? = some v → w.cell? ⟨g, j, none⟩ = some v := fun j v hj => by
  have : cur[j]? = some v := by
   rw [← hx, List.getElem?_take] at hj
   split at hj
   ·simpa using hj
   ·cases hj
  simp [World.cell?, hg, this]
 obtain ⟨cur1, hcur1⟩ : ∃ cur1 : Array Value, cur1 = (cur.toList.take (k * 2 + 2) ++ xs.drop (k * 2) ++ cur.toList.drop (k * 2 + 2 + (xs.drop (k * 2)).length)).toArray := ⟨_, rfl⟩
 have hc1s : cur1.size = c * 2 := by rw [hcur1]; simp only [List.size_toArray, List.length_append, List.length_take, List.length_drop, Array.length_toList]; omega
 have hcp1 : ∀ ty dc sc, (Builtin.copy_ #[48, 48] ty #[.slice (some ⟨g, (k + 1) * 2, none⟩) (n - k) dc, .slice (some ⟨g, k * 2, none⟩) (n + 1 - k) sc]).run Tryz.prog w.drew = .ok (goInt (n - k : Nat)) (w.drew.setRow g cur1) := fun ty dc sc => by
  rw [hcur1, Nat.add_mul]
  exact run_copyS w.drew _ _ ty 66 2 g (k * 2 + 2) _ _ ⟨g, k * 2, none⟩ _ _ cur 66 (n - k) (xs.drop (k * 2)) Tryz.underlying48 hsz hg (by simp only [Nat.min_def]; split <;> omega) (by rw [List.length_drop]; omega)
   (fun j v hj => by rw [Addr.add_lit]; exact hcur (k * 2 + j) v (by rwa [List.getElem?_drop] at hj)) (by rw [List.length_drop]; omega) (fun v hv => h1 v (List.mem_of_mem_drop hv))
 obtain ⟨W1, hW1⟩ : ∃ W1, W1 = w.drew.setRow g cur1 := ⟨_, rfl⟩
 have hg1 : W1.heap[g]? = some (.cells cur1 66 (0, 0)) := by rw [hW1]; exact setRow_heap w.drew g cur cur1 _ _ hg
 have hX1 : W1.heap[X]? = some (.cells us.toArray 66 (0, 0)) := by rw [hW1, setRow_other w.drew g X _ hne]; exact hX
 obtain ⟨cur2, hcur2⟩ : ∃ cur2 : Array Value, cur2 = (cur1.toList.take (k * 2) ++ us ++ cur1.toList.drop (k * 2 + us.length)).toArray := ⟨_, rfl⟩
 have hcp2 : ∀ ty dc, (Builtin.copy_ #[48, 48] ty #[.slice (some ⟨g, k * 2, none⟩) (n + 1 - k) dc, .slice (some ⟨X, 0, none⟩) 1 1]).run Tryz.prog W1 = .ok (goInt 1) (W1.setRow g cur2) := fun ty dc => by
  rw [hcur2]
  exact run_copyS W1 _ _ ty 66 2 g (k * 2) _ _ ⟨X, 0, none⟩ _ _ cur1 66 1 us Tryz.underlying48 hsz hg1 (by simp only [Nat.min_def]; split <;> omega) (by omega)
   (fun j v hj => by rw [Addr.add_lit, Nat.zero_add]; exact cell_row hX1 j _ (by simpa using hj)) (by omega) hu
 obtain ⟨W2, hW2⟩ : ∃ W2, W2 = W1.setRow g cur2 := ⟨_, rfl⟩
 have hg2 : W2.heap[g]? = some (.cells cur2 66 (0, 0)) := by rw [hW2]; exact setRow_heap W1 g cur1 cur2 _ _ hg1
 rw [← hW2] at hcp2
 rw [← hW1] at hcp1
 have hgr : w.grownBy W2 (some g) := by
  rw [hW2, hW1]
  refine ⟨rfl, rfl, rfl, by simp, fun j hj hne' => ?_⟩
  have hne2 : j ≠ g := fun e => hne' (by rw [e])
  rw [setRow_other _ g j _ hne2, setRow_other _ g j _ hne2]; rfl
 have hrow2 : W2.ownsRow 0 66 2 (.slice (some ⟨g, 0, none⟩) (n + 1) c) (n + 1) (xs.take (k * 2) ++ us ++ xs.drop (k * 2)) := by
  refine row_mk hg2 hroom hcm ?_ ?_
  ·rw [hcur2]; simp only [List.size_toArray, List.length_append, List.length_take, List.length_drop, Array.length_toList, hul]; omega
  ·have := ins_list cur.toList us (k * 2) 2 (n * 2) hul (by omega) (by rw [Array.length_toList]; omega) cur1.toList (by rw [hcur1, hx])
   rw [hcur2, Nat.add_mul]
   rw [hx] at this
   exact this
 have HPOST : Hid (RowPost w (.slice (some ⟨g, 0, none⟩) n c) (fun w' v' => w'.ownsRow 0 66 2 v' (n + 1) (xs.take (k * 2) ++ us ++ xs.drop (k * 2))) (.returned (.slice (some ⟨g, 0, none⟩) (n + 1) c)) W2) := ⟨_, rfl, hrow2, hgr, fun b hb => .inl hb⟩
 have hk1 : (k : Int) < n := by omega
 have hk0 : (0 : Int) ≤ k := by omega
 have hnk : ((k : Int) == (n : Int)) = false := by simp; omega
 have hroom' : (n : Int) + 1 ≤ c := by omega
 unfold maxLen at hcm
 have hcn1 : ¬ (c = k) := by omega
 have hcn2 : ¬ (c = k + 1) := by omega
 have hw1 : IntKind.i64.wrap ((k : Int) + 1) = (k : Int) + 1 := by rw [IntKind.wrap_i64]; omega
 have htn : ((k : Int) + 1).toNat = k + 1 := by omega
 have htn2 : ((n : Int) + 1).toNat = n + 1 := by omega
 have hb0 : (0 : Int) ≤ (k : Int) + 1 := by omega
 have hb1 : (k : Int) + 1 ≤ (n : Int) + 1 := by omega
 have hb2 : (k : Int) ≤ (n : Int) + 1 := by omega
 clear hgr hrow2 hg2 hg1 hX1 hg hX hcs hx h1 hul hu hcur hxl hc1s hcur1 hcur2 hW1 hW2
 go_enter Tryz.func73, Tryz.ntmps73
 go_wp2_with (simp only [hov])
 go_region_law (refine Go.Proofs.step_copy_runI rfl _ _ 48 48 rfl _ _ (by simp [Act.eval, Act.put]) (by simp [Act.eval, Act.put]) (hcp1 _ _ _) ?_)
 go_wp2_with (at_builtin; refine Go.Proofs.wpList_copy_runI _ rfl _ _ 48 48 rfl _ _ rfl rfl (hcp2 _ _) ?_)
 go_ret
 exact HPOST.out
theorem ins_att_grow (g c k n : Nat) (cur : Array Value) (xs : List Value) (us : List Value) (X : Nat) (w : World) (hg : w.heap[g]? = some (.cells cur 66 (0, 0))) (hcs : cur.size = c * 2) (hx : cur.toList.take (n * 2) = xs) (h1 : ∀ v ∈ xs, v.oneCell' = true)
  (hX : w.heap[X]? = some (.cells us.toArray 66 (0, 0))) (hul : us.length = 2) (hu : ∀ u ∈ us, u.oneCell' = true) (hn : n ≤ 1000000) (hk : k < n) (hnc : n ≤ c) (hroom : c < n + 1) :
  Calls Tryz.prog 73 #[.slice (some ⟨g, 0, none⟩) n c, .int .i64 k, .slice (some ⟨X, 0, none⟩) 1 1] w (RowPost w (.slice (some ⟨g, 0, none⟩) n c) fun w' v' => w'.ownsRow 0 66 2 v' (n + 1) (xs.take (k * 2) ++ us ++ xs.drop (k * 2))) := by
 obtain ⟨i0, hi0, hz0, hzs, hzb⟩ := info_parts infoAttr
 have hsz : (Tryz.prog.info? 66).map (·.size) = some 2 := by rw [hi0]; simp [hzs]
 have hxl : xs.length = n * 2 := by rw [← hx, List.length_take, Array.length_toList, hcs]; omega
 have hcur : ∀ j v, xs[j]? = some v → w.cell? ⟨g, j, none⟩ = some v := fun j v hj => by
  have : cur[j]? = some v := by
   rw [← hx, List.getElem?_take] at hj
   split at hj
   ·simpa using hj
   ·cases hj
  simp [World.cell?, hg, this]
 have hgw : g < w.heap.size := (Array.getElem?_eq_some_iff.1 hg).1
 have hXw : X < w.heap.size := (Array.getElem?_eq_some_iff.1 hX).1
 have hkk : (n : Int) + 1 - (k : Int) = ((n + 1 - k : Nat) : Int) := by omega
 have hik : k + (n + 1 - k) = n + 1 := by omega
 have hold : (Builtin.firstCells i0.size k (.slice (some ⟨g, 0, none⟩) k c)).run Tryz.prog w.drew = .ok (xs.take (k * 2)).toArray w.drew := by
  rw [hzs]
  exact run_firstCells_some w.drew 2 k ⟨g, 0, none⟩ k c (xs.take (k * 2)) (by rw [List.length_take]; omega) (fun j v hj => by
   rw [Addr.add_lit, Nat.zero_add]
   rw [List.getElem?_take] at hj
   split at hj
   ·exact hcur j v hj
   ·cases hj)
 obtain ⟨G, hG⟩ : ∃ G, G = grownCap w (n + 1) c 66 := ⟨_, rfl⟩
 obtain ⟨ROW, hROW⟩ : ∃ ROW : Array Value, ROW = (xs.take (k * 2)).toArray ++ Builtin.zeroCells (Value.agg #[.string ByteArray.empty, .string ByteArray.empty]).cells (n + 1 - k) ++ Builtin.zeroCells (Value.agg #[.string ByteArray.empty, .string ByteArray.empty]).cells (G - (n + 1)) := ⟨_, rfl⟩
 have hrz : ∀ ty, (Builtin.append_ #[48, 3] ty #[.slice (some ⟨g, 0, none⟩) k c, .int .i64 ((n : Int) + 1 - (k : Int))]).run Tryz.prog w = .ok (.slice (some ⟨w.heap.size, 0, none⟩) (n + 1) G) (w.drew.alloc (.cells ROW 66)) := fun ty => by
  have h := Lib.run_append_grow_zeros w 48 3 ty 66 i0 _ .i64 .i64 Tryz.underlying48 Tryz.underlying3 hi0 hz0 (some ⟨g, 0, none⟩) k c (xs.take (k * 2)) hold (n + 1 - k) (by omega) (by omega) (by omega) (by omega) (by rw [hzb]; omega) (by rw [hzb, hik]; exact growslice_fits hroom (by omega))
  rw [hik] at h
  rw [hkk, h, hG, hROW, hG]
 have hGn : n + 1 ≤ G := by rw [hG]; exact grownCap_ge w _ _ _
 have hGm : G ≤ maxLen := by rw [hG]; exact grownCap_le_maxLen w (n + 1) c 66 (by unfold maxLen; omega)
 have hRl : ROW.size = G * 2 := by
  rw [hROW]
  simp only [Array.size_append, List.size_toArray, List.length_take, size_zeroCells]
  have : (Value.agg #[.string ByteArray.empty, .string ByteArray.empty]).cells.size = 2 := rfl
  rw [this]; omega
 have hRt : ROW.toList.take (k * 2) = xs.take (k * 2) := by
  rw [hROW]
  simp only [Array.toList_append, List.append_assoc]
  rw [List.take_append_of_le_length (by simp only [List.length_take]; omega)]
  exact List.take_of_length_le (by simp only [List.length_take]; omega)
 obtain ⟨q, hq⟩ : ∃ q, q = w.heap.size := ⟨_, rfl⟩
 rw [← hq] at hrz
 obtain ⟨W1, hW1⟩ : ∃ W1, W1 = w.drew.alloc (.cells ROW 66) := ⟨_, rfl⟩
 rw [← hW1] at hrz
 have hq1 : W1.heap[q]? = some (.cells ROW 66 (0, 0)) := by rw [hW1, hq]; exact heap_alloc_new w.drew _
 have hold1 : ∀ b, b < q → W1.heap[b]? = w.heap[b]? := fun b hb => by rw [hW1]; exact Below.heap_alloc w.drew _ b (by rw [hq] at hb; exact hb)
 have hX1 : W1.heap[X]? = some (.cells us.toArray 66 (0, 0)) := by rw [hold1 X (by omega)]; exact hX
 obtain ⟨c1, hc1⟩ : ∃ c1 : Array Value, c1 = (ROW.toList.take (k * 2) ++ us ++ ROW.toList.drop (k * 2 + us.length)).toArray := ⟨_, rfl⟩
 have hc1s : c1.size = G * 2 := by rw [hc1]; simp only [List.size_toArray, List.length_append, List.length_take, List.length_drop, Array.length_toList, hul]; omega
 have hcpA : ∀ ty dc, (Builtin.copy_ #[48, 48] ty #[.slice (some ⟨q, k * 2, none⟩) (n + 1 - k) dc, .slice (some ⟨X, 0, none⟩) 1 1]).run Tryz.prog W1 = .ok (goInt 1) (W1.setRow q c1) := fun ty dc => by
  rw [hc1]
  exact run_copyS W1 _ _ ty 66 2 q (k * 2) _ _ ⟨X, 0, none⟩ _ _ ROW 66 1 us Tryz.underlying48 hsz hq1 (by simp only [Nat.min_def]; split <;> omega) (by omega)
   (fun j v hj => by rw [Addr.add_lit, Nat.zero_add]; exact cell_row hX1 j _ (by simpa using hj)) (by omega) hu
 obtain ⟨W2, hW2⟩ : ∃ W2, W2 = W1.setRow q c1 := ⟨_, rfl⟩
 rw [← hW2] at hcpA
 have hq2 : W2.heap[q]? = some (.cells c1 66 (0, 0)) := by rw [hW2]; exact setRow_heap W1 q ROW c1 _ _ hq1
 have hold2 : ∀ b, b < q → W2.heap[b]? = w.heap[b]? := fun b hb => by rw [hW2, setRow_other W1 q b _ (by omega)]; exact hold1 b hb
 obtain ⟨c2, hc2⟩ : ∃ c2 : Array Value, c2 = (c1.toList.take (k * 2 + 2) ++ xs.drop (k * 2) ++ c1.toList.drop (k * 2 + 2 + (xs.drop (k * 2)).length)).toArray := ⟨_, rfl⟩
 have hcpB : ∀ ty dc sc, (Builtin.copy_ #[48, 48] ty #[.slice (some ⟨q, (k + 1) * 2, none⟩) (n - k) dc, .slice (some ⟨g, k * 2, none⟩) (n - k) sc]).run Tryz.prog W2.drew = .ok (goInt (n - k : Nat)) (W2.drew.setRow q c2) := fun ty dc sc => by
  rw [hc2, Nat.add_mul]
  exact run_copyS W2.drew _ _ ty 66 2 q (k * 2 + 2) _ _ ⟨g, k * 2, none⟩ _ _ c1 66 (n - k) (xs.drop (k * 2)) Tryz.underlying48 hsz hq2 (by simp only [Nat.min_def]; split <;> omega) (by rw [List.length_drop]; omega)
   (fun j v hj => by
    rw [Addr.add_lit]
    have := hcur (k * 2 + j) v (by rwa [List.getElem?_drop] at hj)
    rw [← this]
    exact World.cell?_of_block (a := ⟨g, k * 2 + j, none⟩) (hold2 g (by omega))) (by rw [List.length_drop]; omega) (fun v hv => h1 v (List.mem_of_mem_drop hv))
 obtain ⟨W3, hW3⟩ : ∃ W3, W3 = W2.drew.setRow q c2 := ⟨_, rfl⟩
 rw [← hW3] at hcpB
 have hq3 : W3.heap[q]? = some (.cells c2 66 (0, 0)) := by rw [hW3]; exact setRow_heap W2.drew q c1 c2 _ _ hq2
 have hgr : w.grownBy W3 (some g) := by
  rw [hW3, hW2, hW1]
  refine ⟨rfl, rfl, rfl, by simp, fun j hj _ => ?_⟩
  have := hold2 j (by omega)
  rw [hW2, hW1] at this
  rw [← this]
  exact setRow_other _ q j _ (by omega)
 have hrow3 : W3.ownsRow 0 66 2 (.slice (some ⟨q, 0, none⟩) (n + 1) G) (n + 1) (xs.take (k * 2) ++ us ++ xs.drop (k * 2)) := by
  refine row_mk hq3 hGn hGm ?_ ?_
  ·rw [hc2]; simp only [List.size_toArray, List.length_append, List.length_take, List.length_drop, Array.length_toList]; omega
  ·have := ins_list2 (xs.take (k * 2)) us xs (k * 2) 2 (n * 2) hul rfl (by omega) hxl ROW.toList c1.toList c2.toList hRt (by rw [hc1]) (by rw [hc2])
   rw [Nat.add_mul]
   exact this
 have HPOST : Hid (RowPost w (.slice (some ⟨g, 0, none⟩) n c) (fun w' v' => w'.ownsRow 0 66 2 v' (n + 1) (xs.take (k * 2) ++ us ++ xs.drop (k * 2))) (.returned (.slice (some ⟨q, 0, none⟩) (n + 1) G)) W3) := ⟨_, rfl, hrow3, hgr, fun b hb => by injection hb with hb; exact .inr (by show w.heap.size ≤ b; rw [← hb, hq]; exact Nat.le_refl _)⟩
 have hk1 : (k : Int) < n := by omega
 have hk0 : (0 : Int) ≤ k := by omega
 have hnk : ((k : Int) == (n : Int)) = false := by simp; omega
 have hroom' : (c : Int) < (n : Int) + 1 := by omega
 have hncc : (n : Int) ≤ c := by omega
 unfold maxLen at hGm
 have hci : ¬ (c = k) := by omega
 have hGi : ¬ (G = k) := by omega
 have hGim : ¬ (G = k + 1) := by omega
 have hw1 : IntKind.i64.wrap ((k : Int) + 1) = (k : Int) + 1 := by rw [IntKind.wrap_i64]; omega
 have htn : ((k : Int) + 1).toNat = k + 1 := by omega
 have hb0 : (0 : Int) ≤ (k : Int) + 1 := by omega
 have hb1 : (k : Int) + 1 ≤ (n : Int) + 1 := by omega
 have hb2 : (k : Int) ≤ (n : Int) + 1 := by omega
 have hkn : (k : Int) ≤ (n : Int) := by omega
 clear hgr hrow3 hq3 hq2 hq1 hX1 hg hX hcs hx h1 hul hu hcur hxl hc1s hc1 hc2 hW1 hW2 hW3 hold hold1 hold2 hROW hRl hRt hG hkk hik hi0 hz0 hzs hzb hq
 go_enter Tryz.func73, Tryz.ntmps73
 go_wp2_with (first
  | (at_builtin; refine Lib.wpList_append_run _ rfl _ _ _ _ rfl _ _ rfl rfl _ _ (hrz _) ?_)
  | (at_builtin; refine Go.Proofs.wpList_copy_runI _ rfl _ _ 48 48 rfl _ _ rfl rfl (hcpA _ _) ?_))
 go_region_law (refine Go.Proofs.step_copy_runI rfl _ _ 48 48 rfl _ _ (by simp [Act.eval, Act.put]) (by simp [Act.eval, Act.put]) (hcpB _ _ _) ?_)
 go_wp2_with fail
 go_ret
 exact HPOST.out
theorem Insert_att (v : Value) (l : List AttrD) (k : Nat) (x : AttrD) (X : Nat) (w : World) (hrow : attRow w v l) (hX : w.heap[X]? = some (.cells #[strV x.name, strV x.value] 66 (0, 0))) (hne : v.ownBlock ≠ some X) (hn : l.length ≤ 1000000) (hk : k ≤ l.length) :
  Calls Tryz.prog 73 #[v, .int .i64 k, .slice (some ⟨X, 0, none⟩) 1 1] w (RowPost w v fun w' v' => attRow w' v' (l.take k ++ x :: l.drop k)) := by
 have h1 := cellsA_one l
 have hus : ∀ u ∈ cellsA x, u.oneCell' = true := fun u hu => cellsA_one [x] u (by simpa using hu)
 have e1 : (l.take k ++ x :: l.drop k).length = l.length + 1 := by simp only [List.length_append, List.length_take, List.length_cons, List.length_drop]; omega
 have ft : (l.flatMap cellsA).take (k * 2) = (l.take k).flatMap cellsA := by
  have e : l.flatMap cellsA = (l.take k).flatMap cellsA ++ (l.drop k).flatMap cellsA := by rw [← List.flatMap_append, List.take_append_drop]
  rw [e, List.take_append_of_le_length (by rw [flat_length cellsA 2 cellsA_length, List.length_take]; omega)]
  exact List.take_of_length_le (by rw [flat_length cellsA 2 cellsA_length, List.length_take]; omega)
 have fd : (l.flatMap cellsA).drop (k * 2) = (l.drop k).flatMap cellsA := by
  have e : l.flatMap cellsA = (l.take k).flatMap cellsA ++ (l.drop k).flatMap cellsA := by rw [← List.flatMap_append, List.take_append_drop]
  rw [e, List.drop_append_of_le_length (by rw [flat_length cellsA 2 cellsA_length, List.length_take]; omega), List.drop_eq_nil_of_le (by rw [flat_length cellsA 2 cellsA_length, List.length_take]; omega), List.nil_append]
 have e2 : (l.take k ++ x :: l.drop k).flatMap cellsA = (l.flatMap cellsA).take (k * 2) ++ cellsA x ++ (l.flatMap cellsA).drop (k * 2) := by rw [ft, fd]; simp
 unfold attRow
 rw [e1, e2]
 by_cases hkn : k = l.length
 ·have := ins_att_end v _ l.length (cellsA x) X w hrow hX rfl hus hn
  rw [hkn, List.take_of_length_le (by rw [flat_length cellsA 2 cellsA_length]; exact Nat.le_refl _), List.drop_eq_nil_of_le (by rw [flat_length cellsA 2 cellsA_length]; exact Nat.le_refl _), List.append_nil]
  exact this
 ·rcases hrow.2 with ⟨rfl, h0⟩ | ⟨g, cap, cur, rfl, _, hg, hnc, hcm, hcs, htake⟩
  ·omega
  ·have hXg : X ≠ g := fun e => hne (by rw [e]; rfl)
   by_cases hroom : l.length + 1 ≤ cap
   ·exact ins_att_room g cap k l.length cur _ _ X w hg hcs htake h1 hX rfl hus hXg hn (by omega) hroom hcm
   ·exact ins_att_grow g cap k l.length cur _ _ X w hg hcs htake h1 hX rfl hus hn (by omega) hnc (by omega)
end
section
open Go.RowKit Go.Lib
theorem flat_take (l : List AttrD) (k : Nat) (hk : k ≤ l.length) : (l.take k).flatMap cellsA = (l.flatMap cellsA).take (k * 2) := by
 have e : l.flatMap cellsA = (l.take k).flatMap cellsA ++ (l.drop k).flatMap cellsA := by rw [← List.flatMap_append, List.take_append_drop]
 rw [e, List.take_append_of_le_length (by rw [flat_length cellsA 2 cellsA_length, List.length_take]; omega)]
 exact (List.take_of_length_le (by rw [flat_length cellsA 2 cellsA_length, List.length_take]; omega)).symm
theorem flat_drop (l : List AttrD) (k : Nat) (hk : k ≤ l.length) : (l.drop k).flatMap cellsA = (l.flatMap cellsA).drop (k * 2) := by
 have e : l.flatMap cellsA = (l.take k).flatMap cellsA ++ (l.drop k).flatMap cellsA := by rw [← List.flatMap_append, List.take_append_drop]
 have h0 : ((l.take k).flatMap cellsA).drop (k * 2) = [] := List.drop_eq_nil_of_le (by rw [flat_length cellsA 2 cellsA_length, List.length_take]; omega)
 rw [e, List.drop_append_of_le_length (by rw [flat_length cellsA 2 cellsA_length, List.length_take]; omega), h0, List.nil_append]
theorem del_att (g c k m : Nat) (cur : Array Value) (xs : List Value) (w : World) (hg : w.heap[g]? = some (.cells cur 66 (0, 0))) (hcs : cur.size = c * 2) (hx : cur.toList.take ((m + 1) * 2) = xs) (h1 : ∀ v ∈ xs, v.oneCell' = true)
  (hn : m ≤ 1000000) (hk : k ≤ m) (hnc : m + 1 ≤ c) (hcm : c ≤ maxLen) :
  Calls Tryz.prog 74 #[.slice (some ⟨g, 0, none⟩) (m + 1) c, .int .i64 k, .int .i64 ((k : Int) + 1)] w (RowPost w (.slice (some ⟨g, 0, none⟩) (m + 1) c) fun w' v' => w'.ownsRow 0 66 2 v' m (xs.take (k * 2) ++ xs.drop ((k + 1) * 2)) ∧ v'.ownBlock = some g) := by
 obtain ⟨i0, hi0, hz0, hzs, hzb⟩ := info_parts infoAttr
 have hxl : xs.length = (m + 1) * 2 := by rw [← hx, List.length_take, Array.length_toList, hcs]; omega
 have hcur : ∀ j v, xs[j]? = some v → w.cell? ⟨g, j, none⟩ = some v := fun j v hj => by
  have : cur[j]? = some v := by
   rw [← hx, List.getElem?_take] at hj
   split at hj
   ·simpa using hj
   ·cases hj
  simp [World.cell?, hg, this]
 obtain ⟨c1, hc1⟩ : ∃ c1 : Array Value, c1 = (cur.toList.take (k * i0.size) ++ xs.drop ((k + 1) * 2) ++ cur.toList.drop (k * i0.size + (xs.drop ((k + 1) * 2)).length)).toArray := ⟨_, rfl⟩
 have hc1s : c1.size = c * 2 := by rw [hc1, hzs]; simp only [List.size_toArray, List.length_append, List.length_take, List.length_drop, Array.length_toList]; omega
 have hap : ∀ ty (a : Addr) sc, (k < m → a = ⟨g, (k + 1) * 2, none⟩) → (Builtin.append_ #[48, 48] ty #[.slice (some ⟨g, 0, none⟩) k c, .slice (some a) (m - k) sc]).run Tryz.prog w.drew = .ok (.slice (some ⟨g, 0, none⟩) m c) (w.drew.setRow g c1) := fun ty a sc ha => by
  have h := run_append_room (P := Tryz.prog) w.drew 48 ty 66 i0 Tryz.underlying48 hi0 g k c cur hg a (m - k) sc (xs.drop ((k + 1) * 2)) (by rw [List.length_drop, hzs]; omega) (fun j v hj => by
   have hj' : j < xs.length - (k + 1) * 2 := by have := (List.getElem?_eq_some_iff.1 hj).1; rwa [List.length_drop] at this
   rw [ha (by omega), Addr.add_lit]
   exact hcur ((k + 1) * 2 + j) v (by rwa [List.getElem?_drop] at hj)) (fun v hv => h1 v (List.mem_of_mem_drop hv)) (by omega) (by rw [List.length_drop, hzs]; omega)
  rw [h, hc1, show k + (m - k) = m by omega]
 have fin : ∀ (W1 : World) (c1 : Array Value), W1.heap[g]? = some (.cells c1 66 (0, 0)) → c1.size = c * 2 → c1.toList.take (m * 2) = xs.take (k * 2) ++ xs.drop ((k + 1) * 2) → w.grownBy W1 (some g) →
   ∃ W2, (∀ ty sc, (Builtin.clear_ #[48] ty #[.slice (some ⟨g, m * 2, none⟩) 1 sc]).run Tryz.prog W1 = .ok (.tuple #[]) W2) ∧ RowPost w (.slice (some ⟨g, 0, none⟩) (m + 1) c) (fun w' v' => w'.ownsRow 0 66 2 v' m (xs.take (k * 2) ++ xs.drop ((k + 1) * 2)) ∧ v'.ownBlock = some g) (.returned (.slice (some ⟨g, 0, none⟩) m c)) W2 := by
  intro W1 c1 hg1 hc1s e1 hgr1
  obtain ⟨c2, hc2⟩ : ∃ c2 : Array Value, c2 = (c1.toList.take (m * 2) ++ [Value.string ByteArray.empty, Value.string ByteArray.empty] ++ c1.toList.drop (m * 2 + 2)).toArray := ⟨_, rfl⟩
  have hg2 : (W1.setRow g c2).heap[g]? = some (.cells c2 66 (0, 0)) := setRow_heap W1 g c1 c2 _ _ hg1
  refine ⟨W1.setRow g c2, fun ty sc => ?_, _, rfl, ⟨row_mk hg2 (by omega) hcm ?_ ?_, rfl⟩, ?_, fun b hb => .inl hb⟩
  ·have hst := run_storeCells_at Tryz.prog g (m * 2) 66 [Value.string ByteArray.empty, Value.string ByteArray.empty] 0 c1 W1 hg1 (by rw [hc1s]; show _ + _ + 2 ≤ _; omega) (by decide)
   have hz : (zeroValue 66).run Tryz.prog W1 = .ok (Value.agg #[.string ByteArray.empty, .string ByteArray.empty]) W1 := Tryz.zeroValue66 W1
   rw [hc2]
   simp only [Nat.add_zero] at hst
   simp only [Builtin.clear_, List.getElem?_toArray, List.getElem?_cons_zero, Sem.run_bind, run_underlying Tryz.underlying48, Result.andThen_ok, hz]
   have hzc : (Builtin.zeroCells (Value.agg #[.string ByteArray.empty, .string ByteArray.empty]).cells 1).toList = [Value.string ByteArray.empty, Value.string ByteArray.empty] := by kernel_rfl
   rw [hzc, hst]
   rfl
  ·rw [hc2]; simp only [List.size_toArray, List.length_append, List.length_take, List.length_drop, Array.length_toList]; show _ + 2 + _ = _; omega
  ·rw [hc2]
   show List.take _ (_ ++ _ ++ _) = _
   rw [List.append_assoc, List.take_append_of_le_length (by simp only [List.length_take, Array.length_toList]; omega), List.take_take, Nat.min_self, e1]
  ·refine ⟨hgr1.os, hgr1.tape, hgr1.output, by simp; exact hgr1.size, fun j hj hne' => ?_⟩
   have hne2 : j ≠ g := fun e => hne' (by rw [e]; rfl)
   rw [setRow_other _ g j _ hne2]; exact hgr1.block j hj hne'
 unfold maxLen at hcm
 have hk0 : (0 : Int) ≤ k := by omega
 have hk1 : (k : Int) ≤ (m : Int) + 1 := by omega
 have hk2 : (k : Int) + 1 ≤ (m : Int) + 1 := by omega
 have hm1 : (m : Int) + 1 ≤ c := by omega
 have hkne : ((k : Int) == (k : Int) + 1) = false := by simp; omega
 have hck : ¬ (c = k) := by omega
 have hcm1 : ¬ (c = m) := by omega
 have htn : ((k : Int) + 1).toNat = k + 1 := by omega
 have htm : ((m : Int) + 1).toNat = m + 1 := by omega
 have hb0 : (0 : Int) ≤ (k : Int) + 1 := by omega
 have hkk : (k : Int) ≤ (k : Int) + 1 := by omega
 have hmm : (m : Int) ≤ (m : Int) + 1 := by omega
 have hmc : (m : Int) ≤ c := by omega
 have hsub : m + 1 - m = 1 := by omega
 have hkc : k ≤ c := by omega
 have hkc' : (k : Int) ≤ c := by omega
 by_cases hkm : k < m
 ·obtain ⟨W2, hcl, hpost⟩ := fin (w.drew.setRow g c1) c1 (setRow_heap w.drew g cur c1 _ _ hg) hc1s (by
   rw [hc1, hzs]
   show List.take _ (_ ++ _ ++ _) = _
   rw [List.take_append_of_le_length (by simp only [List.length_append, List.length_take, List.length_drop, Array.length_toList]; omega), ← hx, List.take_take, Nat.min_eq_left (by omega)]
   exact List.take_of_length_le (by simp only [List.length_append, List.length_take, List.length_drop, Array.length_toList]; omega)) ⟨rfl, rfl, rfl, by simp, fun j hj hne' => by
    rw [setRow_other _ g j _ (fun e => hne' (by rw [e]))]; rfl⟩
  have HPOST := Lib.hid hpost
  obtain ⟨W1, hW1⟩ : ∃ W1, W1 = w.drew.setRow g c1 := ⟨_, rfl⟩
  have hap1 : ∀ ty sc, _ := fun (ty : TypeId) (sc : Nat) => hap ty ⟨g, (k + 1) * 2, none⟩ sc (fun _ => rfl)
  rw [← hW1] at hap1 hcl
  skip
  have hck1 : ¬ (c = k + 1) := by omega
  clear hap fin hpost hg hcs hx h1 hcur hxl hc1s hc1 hW1 hi0 hz0 hzs hzb hkm
  go_enter Tryz.func74, Tryz.ntmps74
  go_wp2_with fail
  go_region_law (refine step_append_runI rfl (.tmp 22) (.tmp 25) 48 48 rfl (.slice (some ⟨g, 0, none⟩) k c) (.slice (some ⟨g, (k + 1) * 2, none⟩) (m - k) (c - (k + 1))) (by simp [Act.eval, Act.put]) (by simp [Act.eval, Act.put]) (hap1 _ _) ?_)
  go_wp2_with (at_builtin; refine wpList_clear_runI _ rfl _ 48 rfl _ rfl (hcl _ _) ?_)
  go_ret
  exact HPOST.out
 ·have hmk : m = k := by omega
  subst hmk
  obtain ⟨W2, hcl, hpost⟩ := fin w.drew cur hg hcs (by
   rw [← hx, List.take_take, Nat.min_eq_left (by omega), List.drop_eq_nil_of_le (by rw [List.length_take]; omega), List.append_nil]) ⟨rfl, rfl, rfl, Nat.le_refl _, fun _ _ _ => rfl⟩
  skip
  have HPOST := Lib.hid hpost
  clear hap fin hpost hg hcs hx h1 hcur hxl hc1s hc1 hi0 hz0 hzs hzb hkm
  by_cases hck1 : c = m + 1
  ·subst hck1
   go_enter Tryz.func74, Tryz.ntmps74
   go_wp2_with fail
   go_region_law fail
   go_wp2_with (at_builtin; refine wpList_clear_runI _ rfl _ 48 rfl _ rfl (hcl _ _) ?_)
   go_ret
   exact HPOST.out
  ·go_enter Tryz.func74, Tryz.ntmps74
   go_wp2_with fail
   go_region_law fail
   go_wp2_with (at_builtin; refine wpList_clear_runI _ rfl _ 48 rfl _ rfl (hcl _ _) ?_)
   go_ret
   exact HPOST.out
theorem Delete_att (v : Value) (l : List AttrD) (k : Nat) (w : World) (hrow : attRow w v l) (hn : l.length ≤ 1000000) (hk : k < l.length) :
  Calls Tryz.prog 74 #[v, .int .i64 k, .int .i64 ((k : Int) + 1)] w (RowPost w v fun w' v' => attRow w' v' (l.eraseIdx k)) := by
 have h1 := cellsA_one l
 rcases hrow.2 with ⟨_, h0⟩ | ⟨g, cap, cur, rfl, _, hg, hnc, hcm, hcs, htake⟩
 ·omega
 ·obtain ⟨m, hm⟩ : ∃ m, l.length = m + 1 := ⟨l.length - 1, by omega⟩
  have e1 : (l.eraseIdx k).length = m := by rw [List.length_eraseIdx, if_pos hk]; omega
  have e2 : (l.eraseIdx k).flatMap cellsA = (l.flatMap cellsA).take (k * 2) ++ (l.flatMap cellsA).drop ((k + 1) * 2) := by
   rw [List.eraseIdx_eq_take_drop_succ, List.flatMap_append, flat_take, flat_drop _ (k + 1) (by omega)]
   omega
  rw [hm] at hnc htake ⊢
  refine (del_att g cap k m cur _ w hg hcs htake h1 (by omega) (by omega) hnc hcm).mono ?_
  rintro e w' ⟨v', he, ⟨hr, _⟩, hgr, hf⟩
  exact ⟨v', he, by show World.ownsRow _ _ _ _ _ _ _; rw [e1, e2]; exact hr, hgr, hf⟩
end
section
open Go.RowKit Go.Shelf
def Ent.setAttrs (e : Ent) (l : List AttrD) : Ent := { e with d := { e.d with attrs := l } }
def delAttrG (g : Int → Option Ent) (id : Int) (name : List UInt8) (k : Nat) : Int × (Int → Option Ent) := match g id with
 | none => (60, g)
 | some e => if e.d.kind ≠ 1 then (68, g) else if foundB e.d.attrs name k = true then (0, fset g id (some (e.setAttrs (e.d.attrs.eraseIdx k)))) else (63, g)
def FindG (g : Int → Option Ent) (id : Int) (name : List UInt8) (k : Nat) : Prop := ∀ e, g id = some e → e.d.kind = 1 → FindAt e.d.attrs name k
section
variable {w : World} {t mb : Nat} {y : Lay} {g : Int → Option Ent} {root next : Int} {n : Nat}
theorem found_lt {l : List AttrD} {name : List UInt8} {k : Nat} (h : foundB l name k = true) : k < l.length := by
 unfold foundB at h
 cases ha : l[k]? with
 | none => rw [ha] at h; cases h
 | some a => exact (List.getElem?_eq_some_iff.1 ha).1
theorem DelAttr_any (h : TreeAt w t mb y g root next n) {id : Int} (hw : wfI id) (name : List UInt8) (hal : ∀ id e, g id = some e → e.d.attrs.length ≤ 1000000) :
  Calls Tryz.prog 43 #[.pointer (some ⟨t, 0, none⟩), .int .i64 id, strV name] w fun er w' => ∃ k, FindG g id name k ∧ er = .returned (.int .i64 (delAttrG g id name k).1) ∧ TP t mb y g w (delAttrG g id name k).2 root next n w' := by
 have stay : ∀ w', Below w.heap.size w w' → TP t mb y g w g root next n w' := fun w' hb => ⟨mb, y, h.below hb, Grows.of_below hb⟩
 have STAY := Lib.hid stay
 have HH := Lib.hid h
 clear stay
 cases he : g id with
 | none =>
  have hr : ∀ k, delAttrG g id name k = (60, g) := fun k => by unfold delAttrG; rw [he]
  have hf : Hid (FindG g id name 0) := fun e h1 => by rw [he] at h1; cases h1
  have HR := Lib.hid hr
  have HE := Lib.hid he
  clear h hr he
  go_enter Tryz.func43, Tryz.ntmps43
  go_wp2_with (refine (element_no HH.out hw HE.out).mono ?_; rintro e w2 ⟨rfl, rfl⟩)
  go_ret
  exact ⟨0, hf.out, by rw [HR.out]; rfl, by rw [HR.out]; exact STAY.out _ (Below.refl _ _)⟩
 | some e =>
  by_cases hk : e.d.kind = 1
  ·have HE := Lib.hid he
   have HK := Lib.hid hk
   have HAL : Hid (e.d.attrs.length ≤ 1000000) := hal _ _ he
   clear h he hk hal
   go_enter Tryz.func43, Tryz.ntmps43
   go_wp2_with fail
   refine (element_yes HH.out hw HE.out HK.out).mono ?_
   rintro e1 w2 ⟨rfl, rfl⟩
   go_wp2_with fail
   refine (find_any HH.out HE.out HAL.out name).mono ?_
   rintro e1 w2 ⟨k, hfk, rfl, hb2⟩
   have HF : Hid (FindG g id name k) := fun e' h1 _ => by rw [HE.out] at h1; injection h1 with h1; rw [← h1]; exact hfk
   clear hfk
   cases hfb : foundB e.d.attrs name k with
   | false =>
    have hr : Hid (delAttrG g id name k = (63, g)) := by show _ = _; unfold delAttrG; rw [HE.out]; simp [HK.out, hfb]
    clear hfb
    go_wp2_with fail
    go_ret
    exact ⟨k, HF.out, by rw [hr.out]; rfl, by rw [hr.out]; exact STAY.out _ hb2⟩
   | true =>
    have hr : Hid (delAttrG g id name k = (0, fset g id (some (e.setAttrs (e.d.attrs.eraseIdx k))))) := by show _ = _; unfold delAttrG; rw [HE.out]; simp [HK.out, hfb]
    have hkl := found_lt hfb
    have H2 := Lib.hid (HH.out.below hb2)
    have HB2 := Lib.hid hb2
    have c6 := H2.out.n6 HE.out
    have k0 : (0 : Int) ≤ (k : Int) := by omega
    have k1 : (k : Int) ≤ 1000000 := by have := HAL.out; omega
    clear hfb hb2
    go_wp2_with fail
    refine (Delete_att _ _ k _ (H2.out.att _ _ HE.out) HAL.out hkl).mono ?_
    rintro e1 w3 ⟨v', rfl, hr3, hg3, hf3⟩
    obtain ⟨q0, q1, q2⟩ := H2.out.set_attrs HE.out hr3 hg3 hf3
    have f7 := cell_row q0 6 _ rfl
    have f8 := free_row q0 6
    have HQ1 := Lib.hid q1
    have HQ2 := Lib.hid q2
    clear q0 q1 q2
    obtain ⟨pa, pn, pc, hv'⟩ : ∃ pa pn pc, v' = .slice pa pn pc := by
     rcases hr3.2 with ⟨h, _⟩ | ⟨_, _, _, h, _⟩
     ·exact ⟨_, _, _, h⟩
     ·exact ⟨_, _, _, h⟩
    clear hr3 hg3 hf3
    subst hv'
    go_wp2_with fail
    go_ret
    refine ⟨k, HF.out, by rw [hr.out]; rfl, ?_⟩
    rw [hr.out]
    exact ⟨mb, _, HQ1.out, (Grows.of_below HB2.out).trans HQ2.out⟩
  ·have hr : ∀ k, delAttrG g id name k = (68, g) := fun k => by unfold delAttrG; rw [he]; simp [hk]
   have hf : Hid (FindG g id name 0) := fun e' h1 h2 => by rw [he] at h1; injection h1 with h1; rw [← h1] at h2; exact absurd h2 hk
   have HR := Lib.hid hr
   have HE := Lib.hid he
   have HK := Lib.hid hk
   clear h hr he hk
   go_enter Tryz.func43, Tryz.ntmps43
   go_wp2_with (refine (element_bad HH.out hw HE.out HK.out).mono ?_; rintro e w2 ⟨rfl, rfl⟩)
   go_ret
   exact ⟨0, hf.out, by rw [HR.out]; rfl, by rw [HR.out]; exact STAY.out _ (Below.refl _ _)⟩
end
end
section
open Go.RowKit Go.Shelf
def setAttrG (g : Int → Option Ent) (id : Int) (name value : List UInt8) (k : Nat) : Int × (Int → Option Ent) := match g id with
 | none => (60, g)
 | some e => if e.d.kind ≠ 1 then (68, g) else if nameL name = false then (63, g) else if textE value ≠ 0 then (textE value, g) else
  if foundB e.d.attrs name k = true then (0, fset g id (some (e.setAttrs (e.d.attrs.set k ⟨name, value⟩)))) else
  if 20 ≤ e.d.attrs.length then (67, g) else (0, fset g id (some (e.setAttrs (e.d.attrs.take k ++ ⟨name, value⟩ :: e.d.attrs.drop k))))
section
variable {w : World} {t mb : Nat} {y : Lay} {g : Int → Option Ent} {root next : Int} {n : Nat}
theorem TreeAt.set_value (h : TreeAt w t mb y g root next n) {p : Int} {e : Ent} (he : g p = some e) {k : Nat} {a : AttrD} (hk : e.d.attrs[k]? = some a) (value : List UInt8) :
  ∃ b c, y.att p = .slice (some ⟨b, 0, none⟩) e.d.attrs.length c ∧ w.cell? ⟨b, k * 2 + 1, none⟩ = some (strV a.value) ∧ w.frozen? ⟨b, k * 2 + 1, none⟩ = false ∧
   TreeAt (w.setCell ⟨b, k * 2 + 1, none⟩ (strV value)) t mb (layA y p (y.att p)) (fset g p (some (e.setAttrs (e.d.attrs.set k { a with value := value })))) root next n ∧
   Grows (Mine t mb y g) (Mine t mb (layA y p (y.att p)) (fset g p (some (e.setAttrs (e.d.attrs.set k { a with value := value }))))) w (w.setCell ⟨b, k * 2 + 1, none⟩ (strV value)) := by
 have hrow := h.att p e he
 have hkl := (List.getElem?_eq_some_iff.1 hk).1
 have hno := h.nb_not he p e he
 have hnd := h.node p e he
 obtain ⟨A, c, hv, _, _, hA0, hA1⟩ := row_shape hrow
 cases A with
 | none => have := (hA0 rfl).1; omega
 | some ad =>
  obtain ⟨b, rfl, hbl⟩ := hA1 ad rfl
  have hrow' : w.ownsRow 0 66 2 (.slice (some ⟨b, 0, none⟩) e.d.attrs.length c) e.d.attrs.length (e.d.attrs.flatMap cellsA) := by rw [← hv]; exact hrow
  have hob : (y.att p).ownBlock = some b := by rw [hv]; rfl
  obtain ⟨cur, hcur⟩ := row_type hrow hob
  have hso : ∀ x, x ≠ b → (w.setCell ⟨b, k * 2 + 1, none⟩ (strV value)).heap[x]? = w.heap[x]? := fun x hne => Below.heap_setCell _ _ _ _ hne
  have hst := own_stored hrow' (k * 2 + 1) (strV value)
  rw [flat_set cellsA 2 cellsA_length e.d.attrs k 1 a { a with value := value } (strV value) hk (by decide) rfl] at hst
  have hnb : y.nb p ≠ b := fun e' => hno.1 (by rw [hob, e'])
  obtain ⟨q1, q2⟩ := h.turn_node he (e.setAttrs (e.d.attrs.set k { a with value := value })) (y.att p) (y.kid p) (w' := w.setCell ⟨b, k * 2 + 1, none⟩ (strV value))
   (fun x _ _ hx _ => hso x (fun e' => hx (by rw [hob, e']))) ((hso _ hnb).trans hnd) (by
    show (w.setCell ⟨b, k * 2 + 1, none⟩ (strV value)).ownsRow 0 66 2 (y.att p) (e.d.attrs.set k { a with value := value }).length _
    rw [hv, List.length_set]; exact hst)
   (row_block (h.kid p e he) fun x hx => hso x (fun e' => h.rows_not p e p e he he b hob (by rw [hx, e']))) (fun _ hb => .inl hb) (fun _ hb => .inl hb)
  refine ⟨b, c, hv, own_cell hrow' (k * 2 + 1) _ (flat_get cellsA 2 cellsA_length _ k 1 a hk (by decide)), free_row hcur _, q1, ⟨rfl, rfl, rfl, by simp, fun x _ hm => hso x (fun e' => hm (.inr (.inr ⟨p, e, he, .inr (.inl (by rw [hob, e']))⟩)))⟩, q2⟩
theorem SetAttr_any (h : TreeAt w t mb y g root next n) {id : Int} (hw : wfI id) (name value : List UInt8) (hn : name.length ≤ maxLen) (hv : value.length ≤ maxLen) (hal : ∀ id e, g id = some e → e.d.attrs.length ≤ 1000000) :
  Calls Tryz.prog 42 #[.pointer (some ⟨t, 0, none⟩), .int .i64 id, strV name, strV value] w fun er w' => ∃ k, FindG g id name k ∧ er = .returned (.int .i64 (setAttrG g id name value k).1) ∧ TP t mb y g w (setAttrG g id name value k).2 root next n w' := by
 have stay : ∀ w', Below w.heap.size w w' → TP t mb y g w g root next n w' := fun w' hb => ⟨mb, y, h.below hb, Grows.of_below hb⟩
 have STAY := Lib.hid stay
 have HH := Lib.hid h
 have hs1 : (⟨name.toArray⟩ : ByteArray).size ≤ maxLen := hn
 have hs2 : (⟨value.toArray⟩ : ByteArray).size ≤ maxLen := hv
 clear stay
 cases he : g id with
 | none =>
  have hr : ∀ k, setAttrG g id name value k = (60, g) := fun k => by unfold setAttrG; rw [he]
  have hf : Hid (FindG g id name 0) := fun e h1 => by rw [he] at h1; cases h1
  have HR := Lib.hid hr
  have HE := Lib.hid he
  clear h hr he
  go_enter Tryz.func42, Tryz.ntmps42
  go_wp2_with (refine (element_no HH.out hw HE.out).mono ?_; rintro e w2 ⟨rfl, rfl⟩)
  go_ret
  exact ⟨0, hf.out, by rw [HR.out]; rfl, by rw [HR.out]; exact STAY.out _ (Below.refl _ _)⟩
 | some e =>
  by_cases hk : e.d.kind = 1
  ·have HE := Lib.hid he
   have HK := Lib.hid hk
   have HAL : Hid (e.d.attrs.length ≤ 1000000) := hal _ _ he
   obtain ⟨nm, hnm⟩ : ∃ nm, Hid (nameL (⟨name.toArray⟩ : ByteArray).data.toList = nm) := ⟨_, rfl⟩
   obtain ⟨r, hr⟩ : ∃ r, Hid (textE (⟨value.toArray⟩ : ByteArray).data.toList = r) := ⟨_, rfl⟩
   have hnm' : Hid (nameL name = nm) := hnm
   have hr' : Hid (textE value = r) := hr
   have hfx : Hid (∃ k, FindG g id name k) := by
    refine Classical.byContradiction fun hno => ?_
    have hbs : ∀ m, ∃ k, m ≤ e.d.attrs.length → k ≤ m ∧ (∀ (j : Nat) (a : AttrD), j + 1 = k → e.d.attrs[j]? = some a → cmpN a.name name < 0) ∧ (k < m → ∀ a : AttrD, e.d.attrs[k]? = some a → 0 ≤ cmpN a.name name) := by
     intro m
     induction m with
     | zero => exact ⟨0, fun _ => ⟨Nat.le_refl _, fun j a h => by omega, fun h => by omega⟩⟩
     | succ m ih =>
      obtain ⟨k, hk'⟩ := ih
      by_cases hm : m + 1 ≤ e.d.attrs.length
      ·obtain ⟨q1, q2, q3⟩ := hk' (by omega)
       by_cases hkm : k < m
       ·exact ⟨k, fun _ => ⟨by omega, q2, fun _ => q3 hkm⟩⟩
       ·have hkm' : k = m := by omega
        subst hkm'
        obtain ⟨a, ha⟩ : ∃ a, e.d.attrs[k]? = some a := ⟨_, List.getElem?_eq_getElem (by omega)⟩
        by_cases hneg : cmpN a.name name < 0
        ·exact ⟨k + 1, fun _ => ⟨Nat.le_refl _, fun j b hj hb => by
          have : j = k := by omega
          subst this
          rw [ha] at hb
          injection hb with hb
          rw [← hb]; exact hneg, fun h => by omega⟩⟩
        ·exact ⟨k, fun _ => ⟨by omega, q2, fun _ b hb => by rw [ha] at hb; injection hb with hb; rw [← hb]; omega⟩⟩
      ·exact ⟨0, fun h => absurd h hm⟩
    obtain ⟨k, hk'⟩ := hbs e.d.attrs.length
    obtain ⟨q1, q2, q3⟩ := hk' (Nat.le_refl _)
    refine hno ⟨k, fun e' h1 _ => ?_⟩
    rw [he] at h1
    injection h1 with h1
    rw [← h1]
    exact ⟨q1, q2, fun a ha => q3 (List.getElem?_eq_some_iff.1 ha).1 a ha⟩
   clear h he hk hal hn hv
   unfold strV
   cases nm with
   | false =>
    have hg : Hid (∀ k, setAttrG g id name value k = (63, g)) := fun k => by unfold setAttrG; rw [HE.out]; simp [HK.out, hnm'.out]
    go_enter Tryz.func42, Tryz.ntmps42
    go_wp2_with fail
    refine (element_yes HH.out hw HE.out HK.out).mono ?_
    rintro e1 w2 ⟨rfl, rfl⟩
    go_wp2_with fail
    refine (Name_any ⟨name.toArray⟩ _ hs1 false hnm).mono ?_
    rintro e1 w2 ⟨rfl, hb2⟩
    go_wp2_with fail
    go_ret
    obtain ⟨k, hk⟩ := hfx.out
    exact ⟨k, hk, by rw [hg.out]; rfl, by rw [hg.out]; exact STAY.out _ hb2⟩
   | true =>
    by_cases hr0 : r = 0
    ·subst hr0
     go_enter Tryz.func42, Tryz.ntmps42
     go_wp2_with fail
     refine (element_yes HH.out hw HE.out HK.out).mono ?_
     rintro e1 w2 ⟨rfl, rfl⟩
     go_wp2_with fail
     refine (Name_any ⟨name.toArray⟩ _ hs1 true hnm).mono ?_
     rintro e1 w2 ⟨rfl, hb2⟩
     go_wp2_with fail
     refine (text_any ⟨value.toArray⟩ _ hs2 0 hr).mono ?_
     rintro e1 w3 ⟨rfl, hb3⟩
     have hb23 := hb2.trans (hb3.mono hb2.size)
     have H3 := Lib.hid (HH.out.below hb23)
     have HB3 := Lib.hid hb23
     clear hb2 hb3 hb23
     go_wp2_with fail
     refine (find_any H3.out HE.out HAL.out name).mono ?_
     rintro e1 w4 ⟨k, hfk, rfl, hb4⟩
     have HF : Hid (FindG g id name k) := fun e' h1 _ => by rw [HE.out] at h1; injection h1 with h1; rw [← h1]; exact hfk
     have hkle := hfk.1
     have hb34 := HB3.out.trans (hb4.mono HB3.out.size)
     have H4 := Lib.hid (HH.out.below hb34)
     have HB4 := Lib.hid hb34
     have c6 := H4.out.n6 HE.out
     have k0 : (0 : Int) ≤ (k : Int) := by omega
     have k1 : (k : Int) ≤ 1000000 := by have := HAL.out; omega
     clear hb4 hb34 hfk
     obtain ⟨fb, hfb⟩ : ∃ fb, foundB e.d.attrs name k = fb := ⟨_, rfl⟩
     rw [hfb]
     cases fb with
     | true =>
      have hkl := found_lt hfb
      obtain ⟨a, ha⟩ : ∃ a, e.d.attrs[k]? = some a := ⟨_, List.getElem?_eq_getElem hkl⟩
      have han : a.name = name := by unfold foundB at hfb; rw [ha] at hfb; simpa using hfb
      have hg : Hid (setAttrG g id name value k = (0, fset g id (some (e.setAttrs (e.d.attrs.set k { a with value := value }))))) := by
       show _ = _
       have e0 : ({ a with value := value } : AttrD) = ⟨name, value⟩ := by rw [← han]
       rw [e0]
       unfold setAttrG; rw [HE.out]; simp [HK.out, hnm'.out, hr'.out, hfb]
      obtain ⟨b, c, hab, hc, hfz, q1, q2⟩ := H4.out.set_value HE.out ha value
      rw [hab] at c6
      have HQ1 := Lib.hid q1
      have HQ2 := Lib.hid q2
      have hkl' : (k : Int) < (e.d.attrs.length : Int) := by omega
      unfold strV at hc
      clear q1 q2 hab hfb hkle ha han
      go_wp2_with fail
      go_ret
      refine ⟨k, HF.out, by rw [hg.out]; rfl, ?_⟩
      rw [hg.out]
      exact ⟨mb, _, HQ1.out, (Grows.of_below HB4.out).trans HQ2.out⟩
     | false =>
      by_cases h20 : 20 ≤ e.d.attrs.length
      ·have hg : Hid (setAttrG g id name value k = (67, g)) := by
        show _ = _
        unfold setAttrG; rw [HE.out]; simp [HK.out, hnm'.out, hr'.out, hfb, h20]
       have h20' : (20 : Int) ≤ (e.d.attrs.length : Int) := by omega
       obtain ⟨A, c, hat, _⟩ := row_shape (H4.out.att _ _ HE.out)
       rw [hat] at c6
       clear hat hfb hkle
       go_wp2_with fail
       go_ret
       exact ⟨k, HF.out, by rw [hg.out]; rfl, by rw [hg.out]; exact STAY.out _ HB4.out⟩
      ·have hg : Hid (setAttrG g id name value k = (0, fset g id (some (e.setAttrs (e.d.attrs.take k ++ ⟨name, value⟩ :: e.d.attrs.drop k))))) := by
        show _ = _
        unfold setAttrG; rw [HE.out]; simp [HK.out, hnm'.out, hr'.out, hfb]; omega
       have h20' : (e.d.attrs.length : Int) < 20 := by omega
       obtain ⟨A, c, hat, _⟩ := row_shape (H4.out.att _ _ HE.out)
       rw [hat] at c6
       have HAT := Lib.hid hat
       clear hat hfb
       go_wp2_with fail
       have hb5 : Below w4.heap.size w4 (w4.alloc (.cells #[.string ⟨name.toArray⟩, .string ⟨value.toArray⟩] 66)) := (Below.refl _ w4).alloc (Nat.le_refl _) _
       have hX5 : (w4.alloc (.cells #[.string ⟨name.toArray⟩, .string ⟨value.toArray⟩] 66)).heap[w4.heap.size]? = some (.cells #[strV name, strV value] 66 (0, 0)) := heap_alloc_new w4 _
       obtain ⟨w5, hw5⟩ : ∃ w5, w4.alloc (.cells #[.string ⟨name.toArray⟩, .string ⟨value.toArray⟩] 66) = w5 := ⟨_, rfl⟩
       rw [hw5] at hb5 hX5 ⊢
       have H5 := Lib.hid (H4.out.below hb5)
       have HB5 := Lib.hid (HB4.out.trans (hb5.mono HB4.out.size))
       have hat5 := H5.out.att _ _ HE.out
       rw [HAT.out] at hat5
       have hne : (Value.slice A e.d.attrs.length c).ownBlock ≠ some w4.heap.size := by
        rw [← HAT.out]
        intro h
        have := row_lt (H4.out.att _ _ HE.out) h
        omega
       clear hw5 hb5
       refine (Insert_att _ _ k ⟨name, value⟩ w4.heap.size _ hat5 hX5 hne HAL.out hkle).mono ?_
       rintro e1 w6 ⟨v', rfl, hr6, hg6, hf6⟩
       rw [← HAT.out] at hg6 hf6
       obtain ⟨q0, q1, q2⟩ := H5.out.set_attrs HE.out hr6 hg6 hf6
       have f7 := cell_row q0 6 _ rfl
       have f8 := free_row q0 6
       have HQ1 := Lib.hid q1
       have HQ2 := Lib.hid q2
       clear q0 q1 q2
       obtain ⟨pa, pn, pc, hv'⟩ : ∃ pa pn pc, v' = .slice pa pn pc := by
        rcases hr6.2 with ⟨h, _⟩ | ⟨_, _, _, h, _⟩
        ·exact ⟨_, _, _, h⟩
        ·exact ⟨_, _, _, h⟩
       clear hr6 hg6 hf6 hat5 hX5 hne hkle
       subst hv'
       go_wp2_with fail
       go_ret
       refine ⟨k, HF.out, by rw [hg.out]; rfl, ?_⟩
       rw [hg.out]
       exact ⟨mb, _, HQ1.out, (Grows.of_below HB5.out).trans HQ2.out⟩
    ·have hg : Hid (∀ k, setAttrG g id name value k = (r, g)) := fun k => by unfold setAttrG; rw [HE.out]; simp [HK.out, hnm'.out, hr'.out, hr0]
     have hr1 : (r != 0) = true := by simpa using hr0
     go_enter Tryz.func42, Tryz.ntmps42
     go_wp2_with fail
     refine (element_yes HH.out hw HE.out HK.out).mono ?_
     rintro e1 w2 ⟨rfl, rfl⟩
     go_wp2_with fail
     refine (Name_any ⟨name.toArray⟩ _ hs1 true hnm).mono ?_
     rintro e1 w2 ⟨rfl, hb2⟩
     go_wp2_with fail
     refine (text_any ⟨value.toArray⟩ _ hs2 r hr).mono ?_
     rintro e1 w3 ⟨rfl, hb3⟩
     go_wp2_with fail
     refine (text_any ⟨value.toArray⟩ _ hs2 r hr).mono ?_
     rintro e1 w4 ⟨rfl, hb4⟩
     go_wp2_with fail
     go_ret
     obtain ⟨k, hk⟩ := hfx.out
     have hb23 := hb2.trans (hb3.mono hb2.size)
     exact ⟨k, hk, by rw [hg.out]; rfl, by rw [hg.out]; exact STAY.out _ (hb23.trans (hb4.mono hb23.size))⟩
  ·have hr : ∀ k, setAttrG g id name value k = (68, g) := fun k => by unfold setAttrG; rw [he]; simp [hk]
   have hf : Hid (FindG g id name 0) := fun e' h1 h2 => by rw [he] at h1; injection h1 with h1; rw [← h1] at h2; exact absurd h2 hk
   have HR := Lib.hid hr
   have HE := Lib.hid he
   have HK := Lib.hid hk
   clear h hr he hk
   go_enter Tryz.func42, Tryz.ntmps42
   go_wp2_with (refine (element_bad HH.out hw HE.out HK.out).mono ?_; rintro e w2 ⟨rfl, rfl⟩)
   go_ret
   exact ⟨0, hf.out, by rw [HR.out]; rfl, by rw [HR.out]; exact STAY.out _ (Below.refl _ _)⟩
end
end
section
theorem bl_irrefl (x : List UInt8) : Op.bytesLess x x = false := by
 rw [bytesLess_eq]; exact decide_eq_false (List.lt_irrefl x)
theorem bl_trans {x y z : List UInt8} (h : Op.bytesLess x y = true) (h' : Op.bytesLess y z = true) : Op.bytesLess x z = true := by
 rw [bytesLess_eq] at *
 exact decide_eq_true (List.lt_trans (of_decide_eq_true h) (of_decide_eq_true h'))
theorem bl_tri {x y : List UInt8} (h : Op.bytesLess x y = false) (h' : Op.bytesLess y x = false) : x = y := by
 rw [bytesLess_eq] at *
 have h1 := of_decide_eq_false h
 have h2 := of_decide_eq_false h'
 exact List.le_antisymm (List.not_lt.1 h2) (List.not_lt.1 h1)
theorem bl_asymm {x y : List UInt8} (h : Op.bytesLess x y = true) : Op.bytesLess y x = false := by
 cases h' : Op.bytesLess y x with
 | false => rfl
 | true => have := bl_trans h h'; rw [bl_irrefl] at this; cases this
theorem bl_ne {x y : List UInt8} (h : Op.bytesLess x y = true) : x ≠ y := by
 intro e; subst e; rw [bl_irrefl] at h; cases h
theorem bl_nil {x : List UInt8} (h : x ≠ []) : Op.bytesLess [] x = true := by
 cases x with
 | nil => exact absurd rfl h
 | cons a x => simp [Op.bytesLess]
theorem leB_not (a b : List UInt8) : leB a b = !Op.bytesLess b a := by
 unfold leB
 cases h : Op.bytesLess a b with
 | true => rw [bl_asymm h]; rfl
 | false =>
  cases h' : Op.bytesLess b a with
  | true => have := bl_ne h'; simp; exact fun e => this e.symm
  | false => rw [bl_tri h h']; simp
theorem cmpN_neg {a b : List UInt8} : cmpN a b < 0 ↔ Op.bytesLess a b = true := by
 unfold cmpN
 by_cases h : Op.bytesLess a b = true
 ·rw [if_pos h]; simp [h]
 ·rw [if_neg h]
  constructor
  ·intro h'; split at h' <;> omega
  ·intro h'; exact absurd h' h
def RiseG (l : List AttrD) : Prop := l.Pairwise fun a b => Op.bytesLess a.name b.name = true
theorem attrNames_iff : ∀ (l : List AttrD) (last : List UInt8), attrNames last l = true ↔ RiseG l ∧ (∀ a ∈ l, nameL a.name = true) ∧ ∀ a ∈ l, Op.bytesLess last a.name = true
 | [], _ => by simp [attrNames, RiseG]
 | b :: l, last => by
  unfold attrNames
  rw [Bool.and_eq_true, Bool.and_eq_true, attrNames_iff l b.name, leB_not]
  simp only [Bool.not_not]
  unfold RiseG
  rw [List.pairwise_cons]
  constructor
  ·rintro ⟨⟨h1, h2⟩, h3, h4, h5⟩
   refine ⟨⟨h5, h3⟩, fun a ha => ?_, fun a ha => ?_⟩
   ·rcases List.mem_cons.1 ha with rfl | ha
    ·exact h1
    ·exact h4 a ha
   ·rcases List.mem_cons.1 ha with rfl | ha
    ·exact h2
    ·exact bl_trans h2 (h5 a ha)
  ·rintro ⟨⟨h1, h2⟩, h3, h4⟩
   exact ⟨⟨h3 b (by simp), h4 b (by simp)⟩, h2, fun a ha => h3 a (by simp [ha]), h1⟩
theorem nameL_ne {x : List UInt8} (h : nameL x = true) : x ≠ [] := by
 intro e; subst e; revert h; decide
theorem attrNames_nilG (l : List AttrD) : attrNames [] l = true ↔ RiseG l ∧ ∀ a ∈ l, nameL a.name = true := by
 rw [attrNames_iff]
 exact ⟨fun h => ⟨h.1, h.2.1⟩, fun h => ⟨h.1, h.2, fun a ha => bl_nil (nameL_ne (h.2 a ha))⟩⟩
theorem values_iff : ∀ (l : List AttrD), valuesE l = 0 ↔ ∀ a ∈ l, charsE a.value = 0
 | [] => by simp [valuesE]
 | a :: r => by
  unfold valuesE
  by_cases h : charsE a.value = 0
  ·rw [if_pos h, values_iff r]; simp [h]
  ·rw [if_neg h]; simp [h]
theorem parts_elem {x : ItemD} (hk : x.kind = 1) : partsE x = 0 ↔ x.text = [] ∧ nameL x.name = true ∧ RiseG x.attrs ∧ (∀ a ∈ x.attrs, nameL a.name = true) ∧ x.attrs.length ≤ 20 ∧ ∀ a ∈ x.attrs, charsE a.value = 0 := by
 unfold partsE
 rw [if_neg (by omega)]
 by_cases ht : x.text = []
 ·rw [if_neg (by simp [hk, ht])]
  unfold namesE
  by_cases hn : nameL x.name && attrNames [] x.attrs
  ·rw [if_pos hn]
   simp only [Bool.and_eq_true, attrNames_nilG] at hn
   by_cases h20 : 20 < x.attrs.length
   ·rw [if_pos h20, if_neg (by decide)]
    exact ⟨fun h => (by cases h), fun h => by have := h.2.2.2.2.1; omega⟩
   ·rw [if_neg h20, if_pos rfl, values_iff]
    exact ⟨fun h => ⟨ht, hn.1, hn.2.1, hn.2.2, by omega, h⟩, fun h => h.2.2.2.2.2⟩
  ·rw [if_neg hn, if_neg (by decide)]
   simp only [Bool.and_eq_true, attrNames_nilG] at hn
   exact ⟨fun h => (by cases h), fun h => absurd ⟨h.2.1, h.2.2.1, h.2.2.2.1⟩ hn⟩
 ·rw [if_pos (.inr ht)]
  exact ⟨fun h => (by cases h), fun h => absurd h.1 ht⟩
theorem parts_text {x : ItemD} (hk : x.kind = 2) : partsE x = 0 ↔ x.name = [] ∧ x.attrs = [] ∧ charsE x.text = 0 := by
 unfold partsE
 by_cases h : x.name = [] ∧ x.attrs = []
 ·rw [if_pos ⟨hk, h.1, h.2⟩]
  exact ⟨fun h' => ⟨h.1, h.2, h'⟩, fun h' => h'.2.2⟩
 ·rw [if_neg (fun h' => h h'.2), if_pos (.inl (by omega))]
  exact ⟨fun h' => (by cases h'), fun h' => absurd ⟨h'.1, h'.2.1⟩ h⟩
/-! ## One put in, one taken out -/
theorem find_split {l : List AttrD} (hr : RiseG l) {name : List UInt8} {k : Nat} (h : FindAt l name k) : (∀ a ∈ l.take k, Op.bytesLess a.name name = true) ∧ ∀ a ∈ l.drop k, Op.bytesLess a.name name = false := by
 obtain ⟨h1, h2, h3⟩ := h
 unfold RiseG at hr
 rw [List.pairwise_iff_getElem] at hr
 constructor
 ·intro a ha
  obtain ⟨j, hj, rfl⟩ := List.mem_iff_getElem.1 ha
  rw [List.length_take] at hj
  rw [List.getElem_take]
  have hk := h2 (k - 1) l[k - 1] (by omega) (List.getElem?_eq_getElem (by omega))
  rw [cmpN_neg] at hk
  by_cases e : j = k - 1
  ·subst e; exact hk
  ·exact bl_trans (hr j (k - 1) (by omega) (by omega) (by omega)) hk
 ·intro a ha
  obtain ⟨j, hj, rfl⟩ := List.mem_iff_getElem.1 ha
  rw [List.length_drop] at hj
  rw [List.getElem_drop]
  have hk := h3 l[k] (List.getElem?_eq_getElem (by omega))
  have hk' : Op.bytesLess (l[k]).name name = false := by
   cases hb : Op.bytesLess (l[k]).name name with
   | false => rfl
   | true => rw [← cmpN_neg] at hb; omega
  by_cases e : j = 0
  ·subst e; exact hk'
  ·have hlt := hr k (k + j) (by omega) (by omega) (by omega)
   cases hb : Op.bytesLess (l[k + j]).name name with
   | false => rfl
   | true => rw [bl_trans hlt hb] at hk'; cases hk'
theorem withA_app : ∀ (X R : List AttrD) (a : AttrD), (∀ b ∈ X, Op.bytesLess b.name a.name = true) → withA (X ++ R) a = X ++ withA R a
 | [], _, _, _ => rfl
 | b :: X, R, a, h => by
  have := h b (by simp)
  rw [List.cons_append, withA, leB_not, this]
  simp [withA_app X R a (fun c hc => h c (by simp [hc]))]
theorem filter_ne (l : List AttrD) (name : List UInt8) (h : ∀ a ∈ l, a.name ≠ name) : l.filter (fun c => decide (c.name ≠ name)) = l := by
 rw [List.filter_eq_self]
 intro a ha
 simpa using h a ha
theorem take_drop_get {l : List AttrD} {k : Nat} {a : AttrD} (h : l[k]? = some a) : l = l.take k ++ a :: l.drop (k + 1) := by
 rw [← drop_cons h, List.take_append_drop]
theorem with_found {l : List AttrD} (hr : RiseG l) {name value : List UInt8} {k : Nat} (h : FindAt l name k) (hf : foundB l name k = true) :
  withA l ⟨name, value⟩ = l.set k ⟨name, value⟩ ∧ lessA l name = l.eraseIdx k ∧ (l.eraseIdx k).length + 1 = l.length := by
 obtain ⟨s1, s2⟩ := find_split hr h
 have hk := found_lt hf
 obtain ⟨a, ha⟩ : ∃ a, l[k]? = some a := ⟨_, List.getElem?_eq_getElem hk⟩
 have hn : a.name = name := by
  unfold foundB at hf
  rw [ha] at hf
  simpa using hf
 have hl := take_drop_get ha
 have htl : (l.take k).length = k := by simp; omega
 have hY : ∀ b ∈ l.drop (k + 1), b.name ≠ name := fun b hb => by
  have hr' := hr
  unfold RiseG at hr'
  rw [hl, List.pairwise_append] at hr'
  have := (List.pairwise_cons.1 hr'.2.1).1 b hb
  rw [hn] at this
  exact fun e => bl_ne this e.symm
 have hX : ∀ b ∈ l.take k, b.name ≠ name := fun b hb => bl_ne (s1 b hb)
 refine ⟨?_, ?_, by rw [List.length_eraseIdx]; rw [if_pos hk]; omega⟩
 ·rw [List.set_eq_take_append_cons_drop, if_pos hk]
  conv => lhs; rw [hl]
  rw [withA_app _ _ _ s1, withA, leB_not]
  have : Op.bytesLess a.name name = false := by rw [hn]; exact bl_irrefl _
  simp only [this, Bool.not_false, if_true]
  rw [List.filter_cons_of_neg (by simp [hn]), filter_ne _ _ hY]
 ·rw [List.eraseIdx_eq_take_drop_succ]
  unfold lessA
  conv => lhs; rw [hl]
  rw [List.filter_append, filter_ne _ _ hX, List.filter_cons_of_neg (by simp [hn]), filter_ne _ _ hY]
theorem with_new {l : List AttrD} (hr : RiseG l) {name value : List UInt8} {k : Nat} (h : FindAt l name k) (hf : foundB l name k = false) :
  withA l ⟨name, value⟩ = l.take k ++ ⟨name, value⟩ :: l.drop k ∧ lessA l name = l := by
 obtain ⟨s1, s2⟩ := find_split hr h
 have hX : ∀ b ∈ l.take k, b.name ≠ name := fun b hb => bl_ne (s1 b hb)
 have hY : ∀ b ∈ l.drop k, b.name ≠ name := fun b hb e => by
  obtain ⟨j, hj, hj'⟩ := List.mem_iff_getElem.1 hb
  rw [List.length_drop] at hj
  rw [List.getElem_drop] at hj'
  by_cases h0 : j = 0
  ·subst h0
   unfold foundB at hf
   have hjk : l[k]? = some b := by rw [← hj']; exact List.getElem?_eq_getElem (by omega)
   rw [hjk] at hf
   simp [e] at hf
  ·have hr' := hr
   unfold RiseG at hr'
   rw [List.pairwise_iff_getElem] at hr'
   have hlt := hr' k (k + j) (by omega) (by omega) (by omega)
   rw [hj', e] at hlt
   have := s2 l[k] (List.mem_iff_getElem.2 ⟨0, by rw [List.length_drop]; omega, by rw [List.getElem_drop]; rfl⟩)
   rw [this] at hlt; cases hlt
 have hall : ∀ b ∈ l, b.name ≠ name := fun b hb => by
  rw [← List.take_append_drop k l] at hb
  rcases List.mem_append.1 hb with h | h
  ·exact hX b h
  ·exact hY b h
 refine ⟨?_, filter_ne _ _ hall⟩
 conv => lhs; rw [← List.take_append_drop k l]
 rw [withA_app _ _ _ s1]
 cases hd : l.drop k with
 | nil => rfl
 | cons b R =>
  rw [hd] at s2 hY
  rw [withA, leB_not, s2 b (by simp)]
  simp only [Bool.not_false, if_true]
  rw [filter_ne _ _ hY]
theorem with_rise {l : List AttrD} (hr : RiseG l) {name value : List UInt8} {k : Nat} (h : FindAt l name k) : RiseG (withA l ⟨name, value⟩) ∧ ∀ a ∈ withA l ⟨name, value⟩, a = ⟨name, value⟩ ∨ a ∈ l := by
 obtain ⟨s1, s2⟩ := find_split hr h
 have hr' := hr
 unfold RiseG at hr'
 cases hf : foundB l name k with
 | true =>
  rw [(with_found hr h hf).1]
  have hk := found_lt hf
  obtain ⟨a, ha⟩ : ∃ a, l[k]? = some a := ⟨_, List.getElem?_eq_getElem hk⟩
  have hn : a.name = name := by
   unfold foundB at hf
   rw [ha] at hf
   simpa using hf
  rw [List.set_eq_take_append_cons_drop, if_pos hk]
  have hl := take_drop_get ha
  rw [hl, List.pairwise_append, List.pairwise_cons] at hr'
  refine ⟨?_, fun b hb => ?_⟩
  ·unfold RiseG
   rw [List.pairwise_append, List.pairwise_cons]
   refine ⟨hr'.1, ⟨fun b hb => ?_, hr'.2.1.2⟩, fun b hb c hc => ?_⟩
   ·have := hr'.2.1.1 b hb
    rw [hn] at this; exact this
   ·rcases List.mem_cons.1 hc with rfl | hc
    ·exact s1 b hb
    ·exact hr'.2.2 b hb c (by simp [hc])
  ·rcases List.mem_append.1 hb with hb | hb
   ·exact .inr (List.mem_of_mem_take hb)
   ·rcases List.mem_cons.1 hb with hb | hb
    ·exact .inl hb
    ·exact .inr (List.mem_of_mem_drop hb)
 | false =>
  rw [(with_new hr h hf).1]
  rw [← List.take_append_drop k l, List.pairwise_append] at hr'
  refine ⟨?_, fun b hb => ?_⟩
  ·unfold RiseG
   rw [List.pairwise_append, List.pairwise_cons]
   refine ⟨hr'.1, ⟨fun b hb => ?_, hr'.2.1⟩, fun b hb c hc => ?_⟩
   ·have h1 := s2 b hb
    cases h2 : Op.bytesLess name b.name with
    | true => rfl
    | false =>
     exfalso
     have e := bl_tri h1 h2
     have h3 := (with_new (value := value) hr h hf).2
     unfold lessA at h3
     rw [List.filter_eq_self] at h3
     have := h3 b (List.mem_of_mem_drop hb)
     simp [e] at this
   ·rcases List.mem_cons.1 hc with rfl | hc
    ·exact s1 b hb
    ·exact hr'.2.2 b hb c hc
  ·rcases List.mem_append.1 hb with hb | hb
   ·exact .inr (List.mem_of_mem_take hb)
   ·rcases List.mem_cons.1 hb with hb | hb
    ·exact .inl hb
    ·exact .inr (List.mem_of_mem_drop hb)
theorem less_rise {l : List AttrD} (hr : RiseG l) (name : List UInt8) : RiseG (lessA l name) ∧ (∀ a ∈ lessA l name, a ∈ l) ∧ (lessA l name).length ≤ l.length :=
 ⟨List.Pairwise.filter _ hr, fun _ ha => (List.mem_filter.1 ha).1, List.length_filter_le _ _⟩
end
section
open Go.RowKit Go.Shelf
theorem kid_append {w : World} {t mb : Nat} {y : Lay} {g : Int → Option Ent} {root next : Int} {n : Nat} (h : TreeAt w t mb y g root next n) {p : Int} {e : Ent} (he : g p = some e) (hl : e.kids.length ≤ 1000000) (id : Int) :
  ∃ pa pn pc w2, (Builtin.append_ #[43, 43] 43 #[y.kid p, .slice (some ⟨w.heap.size, 0, none⟩) 1 1]).run Tryz.prog (w.alloc (.cells #[.int .i64 id] 3)) = .ok (.slice pa pn pc) w2 ∧
   w2.heap[y.nb p]? = some (.cells (nodeC p e (y.att p) (y.kid p)) 92 (0, 0)) ∧
   TreeAt (w2.setCell ⟨y.nb p, 7, none⟩ (.slice pa pn pc)) t mb (layK y p (.slice pa pn pc)) (fset g p (some { e with kids := e.kids ++ [id] })) root next n ∧
   Grows (Mine t mb y g) (Mine t mb (layK y p (.slice pa pn pc)) (fset g p (some { e with kids := e.kids ++ [id] }))) w (w2.setCell ⟨y.nb p, 7, none⟩ (.slice pa pn pc)) := by
 obtain ⟨pa, pn, pc, w2, hr, _, hrow, hg, hf⟩ := run_append_int (h.kid p e he) hl id
 obtain ⟨q0, q1, q2⟩ := h.set_kids he hrow hg hf
 exact ⟨pa, pn, pc, w2, hr, q0, q1, q2⟩
theorem kid_insert {w w1 : World} {t mb : Nat} {y : Lay} {g : Int → Option Ent} {root next : Int} {n : Nat} (h : TreeAt w t mb y g root next n) {p : Int} {e : Ent} (he : g p = some e) (hl : e.kids.length ≤ 1000000) (id : Int) (k : Nat) (hk : k ≤ e.kids.length)
  (hw1 : w1 = w.alloc (.cells #[.int .i64 id] 3)) :
  Calls Tryz.prog 61 #[y.kid p, .int .i64 k, .slice (some ⟨w.heap.size, 0, none⟩) 1 1] w1 fun er w2 => ∃ pa pn pc, er = .returned (.slice pa pn pc) ∧
   w2.heap[y.nb p]? = some (.cells (nodeC p e (y.att p) (y.kid p)) 92 (0, 0)) ∧
   TreeAt (w2.setCell ⟨y.nb p, 7, none⟩ (.slice pa pn pc)) t mb (layK y p (.slice pa pn pc)) (fset g p (some { e with kids := e.kids.take k ++ id :: e.kids.drop k })) root next n ∧
   Grows (Mine t mb y g) (Mine t mb (layK y p (.slice pa pn pc)) (fset g p (some { e with kids := e.kids.take k ++ id :: e.kids.drop k }))) w (w2.setCell ⟨y.nb p, 7, none⟩ (.slice pa pn pc)) := by
 have hb : Below w.heap.size w w1 := by rw [hw1]; exact (Below.refl _ w).alloc (Nat.le_refl _) _
 have hX : w1.heap[w.heap.size]? = some (.cells #[.int .i64 id] 3 (0, 0)) := by rw [hw1]; exact heap_alloc_new w _
 have h1 := h.below hb
 refine (Insert_int (y.kid p) e.kids k id w.heap.size w1 (h1.kid p e he) hX (fun hh => by have := row_lt (h.kid p e he) hh; omega) hl hk).mono ?_
 rintro er w2 ⟨v', rfl, hr, hg, hf⟩
 obtain ⟨q0, q1, q2⟩ := h1.set_kids he hr hg hf
 obtain ⟨pa, pc, rfl⟩ : ∃ pa pc, v' = .slice pa (e.kids.take k ++ id :: e.kids.drop k).length pc := by
  obtain ⟨A, c, hv, _⟩ := row_shape hr
  exact ⟨A, c, hv⟩
 exact ⟨pa, _, pc, rfl, q0, q1, (Grows.of_below hb).trans q2⟩
end
section
open Go.RowKit Go.Shelf
attribute [local go_sem] Oper.semAt_some
def StandI (M : Nat → Prop) (w : World) (B : Nat) (A : Option Addr) (l : List ItemD) : Prop := ∀ wr, Turn M w wr → ItemsAt wr B A l
theorem StandI.now {M : Nat → Prop} {w : World} {B : Nat} {A : Option Addr} {l : List ItemD} (h : StandI M w B A l) : ItemsAt w B A l := h w (Turn.refl M w)
theorem StandI.of {M : Nat → Prop} {w : World} {B : Nat} {A : Option Addr} {l : List ItemD} (h : ItemsAt w B A l) (hB : ∀ b, M b → B ≤ b) (hBw : B ≤ w.heap.size) : StandI M w B A l := fun _ ht =>
 h.keep fun p hp => World.cell?_of_block (w := w) (ht.block p.block (by omega) (fun hm => by have := hB _ hm; omega))
theorem StandI.grow {M M' : Nat → Prop} {w w' : World} {B : Nat} {A : Option Addr} {l : List ItemD} (h : StandI M w B A l) (hg : Grows M M' w w') : StandI M' w' B A l := fun wr ht =>
 h wr ⟨ht.os.trans hg.1.os, ht.tape.trans hg.1.tape, ht.output.trans hg.1.output, Nat.le_trans hg.1.size ht.size, fun k hk hm => (ht.block k (Nat.lt_of_lt_of_le hk hg.1.size) (fun hm' => by
  rcases hg.2 k hm' with h' | h'
  ·exact hm h'
  ·omega)).trans (hg.1.block k hk hm)⟩
def GrowPost (ids : List Int) (t mb : Nat) (y : Lay) (g : Int → Option Ent) (w : World) (s2 : GS) (next : Int) (er : Ending) (w' : World) : Prop := ∃ i0, ids[0]? = some i0 ∧ er = .returned (.int .i64 i0) ∧ TP t mb y g w s2.g s2.root next s2.n w'
theorem kids_before {w : World} {t mb : Nat} {y y' : Lay} {g' : Int → Option Ent} {root next : Int} {n : Nat} {p : Int} {e' : Ent} {v : Value}
  (ht : TreeAt (w.setCell ⟨y.nb p, 7, none⟩ v) t mb y' g' root next n) (hg : g' p = some e') (hnb : y'.nb p = y.nb p) (hw : wfI p) :
  w.cell? ⟨t, 0, none⟩ = some (.map (some mb)) ∧ (Instr.lookup 73 (.map (some mb)) (.int .i64 p) false).run Tryz.prog w = .ok (.pointer (some ⟨y.nb p, 0, none⟩)) w := by
 have h1 := (ht.t_not.2 p e' hg).1
 have h2 := (ht.mb_not p e' hg).1
 rw [hnb] at h1 h2
 refine ⟨?_, ?_⟩
 ·have := ht.tree
  rw [Below.heap_setCell _ _ _ _ h1] at this
  exact cell_row this 0 _ rfl
 ·have hm := ht.map.keep (w' := w) (Below.heap_setCell _ _ _ _ h2).symm
  have := hm.look hw
  rw [hg] at this
  simpa [ptrOf, hnb] using this
section
variable {w : World} {t mb : Nat} {y : Lay} {g : Int → Option Ent} {root next : Int} {n : Nat}
theorem grow_any (h : TreeAt w t mb y g root next n) (parent : Int) (pl : Nat) (l : List ItemD) (ids : List Int) (A : Option Addr) (c B : Nat) (hi : StandI (Mine t mb y g) w B A l) (hBw : B ≤ w.heap.size) (vids : Value) (hids : intRow w vids ids) (hv : ∀ b, vids.ownBlock = some b → ¬ Mine t mb y g b)
  (hal : ∀ (k : Nat) (x : ItemD), l[k]? = some x → x.attrs.length ≤ 1000000000) (hwi : ∀ i ∈ ids, wfI i) (hwp : wfI parent) (hn : n ≤ 1000000) (hkl : ∀ id e, g id = some e → e.kids.length ≤ 100000) (hl : l.length ≤ 100000) (hll : ids.length = l.length) (hl0 : 0 < l.length) (hpl : pl ≤ 100000) (s2 : GS) (hs : growS (l.zip ids) ⟨[parent], pl, g, root, n⟩ = some s2) :
  Calls Tryz.prog 46 #[.pointer (some ⟨t, 0, none⟩), .int .i64 parent, .int .i64 pl, .slice A l.length c, vids] w (GrowPost ids t mb y g w s2 next) := by
 obtain ⟨W1, hW1⟩ : ∃ W1, Hid (W1 = w.alloc (.cells #[.int .i64 parent] 3)) := ⟨_, rfl⟩
 have hb1 : Below w.heap.size w W1 := by rw [hW1.out]; exact (Below.refl _ w).alloc (Nat.le_refl _) _
 have hX1 : W1.heap[w.heap.size]? = some (.cells #[.int .i64 parent] 3 (0, 0)) := by rw [hW1.out]; exact heap_alloc_new w _
 have HH := Lib.hid h
 have HI := Lib.hid hi
 have HIDS := Lib.hid hids
 have HS := Lib.hid hs
 have HV := Lib.hid hv
 have HX1 := Lib.hid hX1
 have HAL := Lib.hid hal
 have hGB0 : GB n pl 0 ⟨[parent], pl, g, root, n⟩ := ⟨fun z hz => by rw [List.mem_singleton.1 hz]; exact hwp, by simp, by simp, fun id e he => by have := hkl id e he; omega⟩
 have hzw : ∀ z ∈ l.zip ids, wfI z.2 := fun z hz => hwi z.2 (List.of_mem_zip hz).2
 have HGB : Hid (∀ (j : Nat) (s : GS), j ≤ (l.zip ids).length → growS ((l.zip ids).take j) ⟨[parent], pl, g, root, n⟩ = some s → GB n pl j s) := fun j s hj h => by
  have := growS_GB _ _ s n pl 0 hGB0 (fun z hz => hzw z (List.mem_of_mem_take hz)) h
  rw [List.length_take, Nat.min_eq_left hj, Nat.zero_add] at this
  exact this
 have HWI := Lib.hid hwi
 have HB1 := Lib.hid hb1
 obtain ⟨m, hm⟩ : ∃ m, Hid (l.length = m) := ⟨_, rfl⟩
 rw [hm.out] at hl hll hl0
 rw [hm.out]
 obtain ⟨VA, vc, hvids, _⟩ := row_shape hids
 rw [hll] at hvids
 have HVI := Lib.hid hvids
 rw [hvids]
 clear h hi hids hs hv hX1 hb1 hvids hal hwi hGB0 hzw hkl
 go_enter Tryz.func46, Tryz.ntmps46
 go_wp2_with fail
 rw [← hW1.out]
 go_loopw [2, 11, 20] (fun at' op k wr => ∃ (j : Nat) (s0 : GS) (b cc : Nat) (y0 : Lay), k = .int .i64 (j : Int) ∧ j ≤ m ∧ at' = .int .i64 (s0.pl : Int) ∧ op = .slice (some ⟨b, 0, none⟩) s0.op.length cc ∧ s0.op.length ≤ j + 1 ∧ Hid (growS ((l.zip ids).take j) ⟨[parent], pl, g, root, n⟩ = some s0) ∧
  Hid (intRow wr (.slice (some ⟨b, 0, none⟩) s0.op.length cc) s0.op) ∧ Hid (w.heap.size ≤ b) ∧ Hid (¬ Mine t mb y0 s0.g b) ∧ Hid (TreeAt wr t mb y0 s0.g s0.root next s0.n) ∧ Hid (Grows (Mine t mb y g) (Mine t mb y0 s0.g) w wr)) (fun _ _ k _ => m - (intOf k).toNat)
 case atStart =>
  refine ⟨0, ⟨[parent], pl, g, root, n⟩, w.heap.size, 1, y, rfl, Nat.zero_le _, rfl, rfl, Nat.le_refl _, rfl, ?_, Nat.le_refl _, fun hm' => ?_, HH.out.below HB1.out, Grows.of_below HB1.out⟩
  ·exact row_mk (xs := [Value.int .i64 parent]) HX1.out (Nat.le_refl _) (by decide) rfl rfl
  ·have := HH.out.lt hm'; omega
 case round =>
  obtain ⟨j, s0, b, cc, y0, rfl, hj, rfl, rfl, hopl, hgs, hrow, hbw, hbm, ht, hgr⟩ := hrel
  have hz := hgr.out.1.size
  have hIr := HI.out wr hgr.out.1
  have hidr : intRow wr vids ids := row_block HIDS.out fun q hq => hgr.out.1.block q (row_lt HIDS.out hq) (HV.out q hq)
  have j0 : (0 : Int) ≤ (j : Int) := by omega
  by_cases hjm : j < m
  ·have hjm' : (j : Int) < (m : Int) := by omega
   obtain ⟨x, hx⟩ : ∃ x, l[j]? = some x := ⟨_, List.getElem?_eq_getElem (by rw [hm.out]; exact hjm)⟩
   obtain ⟨i, hi⟩ : ∃ i, ids[j]? = some i := ⟨_, List.getElem?_eq_getElem (by rw [hll]; exact hjm)⟩
   have hzip : (l.zip ids)[j]? = some (x, i) := by rw [List.getElem?_zip_eq_some]; exact ⟨hx, hi⟩
   obtain ⟨s0', s1, e1, e2, e3⟩ := growS_take hzip HS.out
   have e0 : s0' = s0 := by rw [hgs.out] at e1; injection e1 with e1; exact e1.symm
   subst e0
   obtain ⟨ad, hA, hadB, hcells⟩ := hIr (by rw [hm.out]; omega)
   subst hA
   obtain ⟨A', c', hat, hac, k0, k1, k2, k3, k4⟩ := hcells j x hx
   have hgb := HGB.out j s0' (by rw [List.length_zip, hm.out]; omega) hgs.out
   have HGJ := Lib.hid hgb
   have hwj : wfI i := HWI.out i (List.mem_of_getElem? hi)
   have HWJ := Lib.hid hwj
   have HALX := Lib.hid (HAL.out j x hx)
   have HE2 := Lib.hid e2
   have HE3 := Lib.hid e3
   have HAT := Lib.hid hat
   rw [HVI.out] at hidr
   have hid2 : wr.ownsRow 0 3 1 (.slice VA m vc) m (ids.map (Value.int .i64)) := by
    have := hidr
    unfold intRow at this
    rw [hll] at this
    exact this
   obtain ⟨_, vc', hvv, _, _, hV0, hV1⟩ := row_shape hid2
   injection hvv with hvv _ hvc
   subst hvc
   cases VA with
   | none => rw [← hvv] at hV0; have := (hV0 rfl).1; omega
   | some va =>
    obtain ⟨vb, rfl, _⟩ := hV1 va hvv.symm
    have cid := own_cell hid2 j (.int .i64 i) (by rw [List.getElem?_map, hi]; rfl)
    clear hgb hwj hid2 hidr hV0 hV1 hvv hcells hIr e1 e2 e3 hgs hat hz
    obtain ⟨lv, p, hlv, hp, hno⟩ : ∃ (lv : Nat) (p : Int), x.level = (lv : Int) ∧ s0'.op[lv]? = some p ∧ s0'.g i = none := by
     have h2 := HE2.out
     unfold growStep at h2
     split at h2
     ·cases h2
     ·rename_i hneg
      split at h2
      ·cases h2
      ·rename_i p hp
       split at h2
       ·cases h2
       ·rename_i hno
        exact ⟨x.level.toNat, p, by omega, hp, by simpa using hno⟩
    have hlvl := (List.getElem?_eq_some_iff.1 hp).1
    rw [hlv] at k0
    unfold strV at k2 k3
    obtain ⟨Wb, hWb⟩ : ∃ Wb, Hid (Wb = wr.alloc (.cells #[.int .i64 (lv : Int), .int .i64 x.kind, .string ⟨x.name.toArray⟩, .string ⟨x.text.toArray⟩, .slice A' x.attrs.length c'] 62)) := ⟨_, rfl⟩
    have hbb : Below wr.heap.size wr Wb := by rw [hWb.out]; exact (Below.refl _ wr).alloc (Nat.le_refl _) _
    have hxb : Wb.heap[wr.heap.size]? = some (.cells #[.int .i64 (lv : Int), .int .i64 x.kind, .string ⟨x.name.toArray⟩, .string ⟨x.text.toArray⟩, .slice A' x.attrs.length c'] 62 (0, 0)) := by rw [hWb.out]; exact heap_alloc_new wr _
    have cidb : Wb.cell? ⟨vb, j, none⟩ = some (.int .i64 i) := (hbb.cell (by exact World.block_lt_of_cell? _ _ cid)).trans cid
    have d0 : Wb.cell? ⟨wr.heap.size, 0, none⟩ = some (.int .i64 (lv : Int)) := cell_row hxb 0 _ rfl
    rw [hWb.out] at cidb d0
    have HBB2 := Lib.hid hbb
    have HXB := Lib.hid hxb
    have lv0 : (0 : Int) ≤ (lv : Int) := by omega
    have lv1 : (lv : Int) ≤ 100000 := by omega
    obtain ⟨_, cc2, hcv, hcc, _, _, _⟩ := row_shape hrow.out
    injection hcv with hc1 hc2 hc3
    subst hc3
    clear hc1 hc2
    have hcc' : ((s0'.op.length : Nat) : Int) ≤ (cc : Int) := by omega
    have hlv2 : (lv : Int) + 1 ≤ (cc : Int) := by omega
    have hrowb : intRow Wb (.slice (some ⟨b, 0, none⟩) s0'.op.length cc) s0'.op := row_block hrow.out fun q hq => hbb.block q (row_lt hrow.out hq)
    obtain ⟨q, pc, w2, hr2, hq2, hrow2, hb2⟩ := run_append_cut hrowb (lv + 1) (by omega) (by omega) i
    have HROW2 := Lib.hid hrow2
    have HB2 := Lib.hid hb2
    have HQ2 := Lib.hid hq2
    have hx2 : w2.heap[wr.heap.size]? = some (.cells #[.int .i64 (lv : Int), .int .i64 x.kind, .string ⟨x.name.toArray⟩, .string ⟨x.text.toArray⟩, .slice A' x.attrs.length c'] 62 (0, 0)) := (hb2.block _ (Array.getElem?_eq_some_iff.1 hxb).1).trans hxb
    have f0 : w2.cell? ⟨wr.heap.size, 0, none⟩ = some (.int .i64 (lv : Int)) := cell_row hx2 0 _ rfl
    have hltk : (s0'.op.take (lv + 1) ++ [i]).length = lv + 2 := by simp; omega
    have hrow3 : w2.ownsRow 0 3 1 (.slice (some ⟨q, 0, none⟩) (lv + 1 + 1) pc) (lv + 1 + 1) ((s0'.op.take (lv + 1) ++ [i]).map (Value.int .i64)) := by
     have := hrow2
     unfold intRow at this
     rw [hltk] at this
     exact this
    have cp := own_cell hrow3 lv (.int .i64 p) (by rw [List.getElem?_map, List.getElem?_append_left (by simp; omega), List.getElem?_take, if_pos (by omega), hp]; rfl)
    have HX2 := Lib.hid hx2
    clear hx2 hltk hrow3
    rw [hWb.out] at hr2
    have hzb : Wb.heap.size = wr.heap.size + 1 := by rw [hWb.out]; simp
    have HLV := Lib.hid hlv
    clear hbb hxb hlv hrowb hrow2 hb2 hq2 hcc
    go_wp2_with (at_builtin; refine wpList_append_runI _ rfl _ _ 43 rfl (.slice (some ⟨b, 0, none⟩) (lv + 1) (lv + 1)) (.slice (some ⟨(wr.alloc (.cells #[.int .i64 (lv : Int), .int .i64 x.kind, .string ⟨x.name.toArray⟩, .string ⟨x.text.toArray⟩, .slice A' x.attrs.length c'] 62)).heap.size, 0, none⟩) 1 1) (by simp [Act.eval]) (by simp [Act.eval]) hr2 ?_)
    have ht2 : TreeAt w2 t mb y0 s0'.g s0'.root next s0'.n := ht.out.below (HBB2.out.trans (HB2.out.mono (by omega)))
    have HT2 := Lib.hid ht2
    have HTD : Hid (TreeAt w2.drew t mb y0 s0'.g s0'.root next s0'.n) := HT2.out.keep fun _ _ => rfl
    have hkS : ∀ V : World, V.cell? ⟨t, 0, none⟩ = some (.map (some mb)) → V.heap[wr.heap.size]? = some (.cells #[.int .i64 (lv : Int), .int .i64 x.kind, .string ⟨x.name.toArray⟩, .string ⟨x.text.toArray⟩, .slice A' x.attrs.length c'] 62 (0, 0)) →
      V.cell? ⟨t, 0, none⟩ = some (.map (some mb)) ∧ V.cell? ⟨wr.heap.size, 1, none⟩ = some (.int .i64 x.kind) ∧ V.cell? ⟨wr.heap.size, 2, none⟩ = some (.string ⟨x.name.toArray⟩) ∧ V.cell? ⟨wr.heap.size, 3, none⟩ = some (.string ⟨x.text.toArray⟩) ∧ V.cell? ⟨wr.heap.size, 4, none⟩ = some (.slice A' x.attrs.length c') := fun V h hx =>
     ⟨h, cell_row hx 1 _ rfl, cell_row hx 2 _ rfl, cell_row hx 3 _ rfl, cell_row hx 4 _ rfl⟩
    have HKS := Lib.hid hkS
    clear hkS ht2
    refine wp_region_held_drew (S := fun V => V.cell? ⟨t, 0, none⟩ = some (.map (some mb)) ∧ V.cell? ⟨wr.heap.size, 1, none⟩ = some (.int .i64 x.kind) ∧ V.cell? ⟨wr.heap.size, 2, none⟩ = some (.string ⟨x.name.toArray⟩) ∧ V.cell? ⟨wr.heap.size, 3, none⟩ = some (.string ⟨x.text.toArray⟩) ∧ V.cell? ⟨wr.heap.size, 4, none⟩ = some (.slice A' x.attrs.length c')) (by kernel_rfl) (HKS.out _ HTD.out.c0 HX2.out) (fun hHeld => ?_)
    refine tkv 0 (h := tkv 1 (h := tkv 2 (h := tkv 3 (h := tkv 4 (h := tkv 5 (h := ?_))))))
    refine tkv 6 (h := tkv 7 (h := tkv 8 (h := tkv 9 (h := tkv 10 (h := tkv 11 (h := ?_))))))
    refine tkv 12 (h := tkv 13 (h := tkv 14 (h := ?_)))
    refine rdy 15 (fun K hK => ?_)
    go_simp
    have hzr := hgr.out.1.size
    have hat2 : AttrsAt w2.drew w2.drew.heap.size A' x.attrs := (HAT.out.keep (w' := w2.drew) (fun q hq => World.cell?_of_block (w := wr) ((HB2.out.block _ (by omega)).trans (HBB2.out.block _ (by omega))))).more (by have h1 := HBB2.out.size; have h2 := HB2.out.size; show B ≤ w2.heap.size; omega)
    refine (Clone_any x.attrs A' c' w2.drew hat2 HALX.out).mono ?_
    clear hat2 hzr
    rintro e w5 ⟨A5, c5, rfl, hown5, hb5⟩
    obtain ⟨w7, hr7, ht7, hg7⟩ := made_node HTD.out HWJ.out hno (by have := HGJ.out.2.1; unfold maxLen; omega) p x hown5 hb5
    have ht5 : TreeAt w5 t mb y0 s0'.g s0'.root next s0'.n := HTD.out.below hb5
    have hx5 : w5.heap[wr.heap.size]? = some (.cells #[.int .i64 (lv : Int), .int .i64 x.kind, .string ⟨x.name.toArray⟩, .string ⟨x.text.toArray⟩, .slice A' x.attrs.length c'] 62 (0, 0)) := (hb5.block _ (by show _ < w2.heap.size; have := (Array.getElem?_eq_some_iff.1 HX2.out).1; omega)).trans HX2.out
    have HT5 := Lib.hid ht5
    have HX5 := Lib.hid hx5
    have HT7 := Lib.hid ht7
    have HG7 := Lib.hid hg7
    have HOWN5 := Lib.hid hown5
    have HB5 := Lib.hid hb5
    have HR7 := Lib.hid hr7
    clear ht5 hx5 ht7 hg7 hown5 hb5 hr7
    go_wp2_with fail
    refine hK.out _ _ (HKS.out _ HT5.out.c0 HX5.out) (fun hHeld => ?_)
    clear hK K
    try go_frame
    refine tkv 16 (h := tkv 17 (h := ?_))
    refine rdy 18 (fun K hK => ?_)
    go_simp
    have HXA : Hid ((w5.alloc (.cells (nodeC i (Ent.new p x) (.slice A5 x.attrs.length c5) (.slice none 0 0)) 92)).heap[wr.heap.size]? = some (.cells #[.int .i64 (lv : Int), .int .i64 x.kind, .string ⟨x.name.toArray⟩, .string ⟨x.text.toArray⟩, .slice A' x.attrs.length c'] 62 (0, 0))) := (Below.heap_alloc w5 _ _ (Array.getElem?_eq_some_iff.1 HX5.out).1).trans HX5.out
    have HTA : Hid (TreeAt (w5.alloc (.cells (nodeC i (Ent.new p x) (.slice A5 x.attrs.length c5) (.slice none 0 0)) 92)) t mb y0 s0'.g s0'.root next s0'.n) := HT5.out.below ((Below.refl _ w5).alloc (Nat.le_refl _) _)
    have hr7 := HR7.out
    unfold nodeC Ent.new ItemD.node strV at hr7
    simp only at hr7
    refine hK.out _ _ (HKS.out _ HTA.out.c0 HXA.out) (fun hHeld => ?_)
    clear hK K
    try go_frame
    refine rdy 19 (fun K hK => ?_)
    go_simp
    have hx7 : w7.heap[wr.heap.size]? = some (.cells #[.int .i64 (lv : Int), .int .i64 x.kind, .string ⟨x.name.toArray⟩, .string ⟨x.text.toArray⟩, .slice A' x.attrs.length c'] 62 (0, 0)) := (HG7.out.1.block _ (by have := (Array.getElem?_eq_some_iff.1 HX2.out).1; exact this) (fun hm' => by have := ht.out.lt hm'; omega)).trans HX2.out
    have HX7 := Lib.hid hx7
    clear hx7 hr7
    refine hK.out _ _ (HKS.out _ HT7.out.c0 HX7.out) (fun hHeld => ?_)
    clear hK K
    try go_frame
    refine wpAnyH_done (by kernel_rfl) ?_ _
    clear hHeld
    have d7 := cell_row HX7.out 0 _ rfl
    obtain ⟨y7, hy7⟩ : ∃ y7, Hid (layN y0 i w5.heap.size (.slice A5 x.attrs.length c5) = y7) := ⟨_, rfl⟩
    rw [hy7.out] at HT7 HG7
    have HROW7 : Hid (intRow w7 (.slice (some ⟨q, 0, none⟩) (lv + 1 + 1) pc) (s0'.op.take (lv + 1) ++ [i])) := row_block HROW2.out fun b2 hb2 => (HG7.out.1.block b2 (row_lt HROW2.out hb2) (fun hm' => by have h1 := ht.out.lt hm'; have h3 := HQ2.out; have h2 : q = b2 := (by simpa [Value.ownBlock] using hb2); omega))
    have HP := Lib.hid hp
    have hqn : ¬ Mine t mb y7 (fset s0'.g i (some (Ent.new p x))) q ∧ q < w7.heap.size ∧ w.heap.size ≤ q := by
     have h3 := HQ2.out
     have h4 := (row_lt HROW2.out (b := q) rfl : q < w2.heap.size)
     have h5 : w2.heap.size ≤ w7.heap.size := HG7.out.1.size
     have h6 := hgr.out.1.size
     refine ⟨fun hm' => ?_, by omega, by omega⟩
     rcases HG7.out.2 _ hm' with h | h
     ·have := ht.out.lt h; omega
     ·have : w2.heap.size ≤ q := h
      omega
    have hend : ∀ (W : World) (y1 : Lay), TreeAt W t mb y1 s1.g s1.root next s1.n → Grows (Mine t mb y7 (fset s0'.g i (some (Ent.new p x)))) (Mine t mb y1 s1.g) w7 W → s1.op = s0'.op.take (lv + 1) ++ [i] →
      Hid (intRow W (.slice (some ⟨q, 0, none⟩) s1.op.length pc) s1.op) ∧ Hid (w.heap.size ≤ q) ∧ Hid (¬ Mine t mb y1 s1.g q) ∧ Hid (TreeAt W t mb y1 s1.g s1.root next s1.n) ∧ Hid (Grows (Mine t mb y g) (Mine t mb y1 s1.g) w W) := by
     intro W y1 q1 q2 q3
     have hlen : (s0'.op.take (lv + 1) ++ [i]).length = lv + 1 + 1 := by simp; omega
     refine ⟨?_, hqn.2.2, fun hm' => ?_, q1, ?_⟩
     ·show intRow W _ s1.op
      rw [q3, hlen]
      exact row_block HROW7.out fun b2 hb2 => by
       have h2 : q = b2 := (by simpa [Value.ownBlock] using hb2)
       rw [← h2]
       exact q2.1.block q hqn.2.1 hqn.1
     ·rcases q2.2 _ hm' with h | h
      ·exact hqn.1 h
      ·omega
     ·refine Grows.trans hgr.out ((Grows.of_below (HBB2.out.trans ((HB2.out.mono (by omega)).drew))).trans (HG7.out.trans q2))
    have HEND := Lib.hid hend
    clear hend hqn
    clear hp hno f0 cp d0 cid cidb d7
    by_cases hp0 : p = 0
    ·subst hp0
     have hs1 := growStep_root HLV.out HP.out HE2.out
     have HS1 := Lib.hid hs1
     have f1 := HT7.out.c1
     have f2 := free_row HT7.out.tree 1
     have ht8 := HT7.out.set_root i
     have HT8 := Lib.hid ht8
     clear hs1 ht8
     go_wp2_with fail
     go_roundw
     case rel =>
      obtain ⟨z1, z2, z3, z4, z5⟩ := HEND.out _ y7 (by rw [HS1.out]; exact HT8.out) (by rw [HS1.out]; exact ⟨(Turn.refl _ _).setCell (.inl (.inl rfl)) _, fun b h => .inl h⟩) (by rw [HS1.out])
      exact ⟨j + 1, s1, q, pc, y7, by go_num, by omega, by rw [HS1.out], by rw [HS1.out]; simp; omega, by rw [HS1.out]; simp; omega, HE3, z1, z2, z3, z4, z5⟩
     case measure => simp [intOf]; omega
    ·have hb0 : (p == 0) = false := by simpa using hp0
     have hwfp : wfI p := HGJ.out.1 p (List.mem_of_getElem? HP.out)
     have HWP := Lib.hid hwfp
     have d7 := cell_row HX7.out 0 _ rfl
     obtain ⟨g7, hg7⟩ : ∃ g7, Hid (fset s0'.g i (some (Ent.new p x)) = g7) := ⟨_, rfl⟩
     rw [hg7.out] at HT7 HG7 HEND
     have hkS7 : ∀ (V : World) (e : Ent), g7 p = some e → TreeAt V t mb y7 g7 s0'.root next (s0'.n + 1) → V.cell? ⟨t, 0, none⟩ = some (.map (some mb)) ∧ (Instr.lookup 73 (.map (some mb)) (.int .i64 p) false).run Tryz.prog V = .ok (.pointer (some ⟨y7.nb p, 0, none⟩)) V := fun V e he h => ⟨h.c0, (h.look_yes he HWP.out).2⟩
     have HKS7 := Lib.hid hkS7
     have HTD7 : Hid (TreeAt w7.drew t mb y7 g7 s0'.root next (s0'.n + 1)) := HT7.out.keep fun _ _ => rfl
     clear hkS7 hwfp
     by_cases hl0 : lv = 0
     ·have hl1 : ((lv : Int) == 0) = true := by rw [hl0]; rfl
      obtain ⟨e, he, hpe, hs1⟩ := growStep_first HLV.out hl0 HP.out hp0 HE2.out
      have hgb1 := HGJ.out.step HWJ.out HE2.out
      rw [hg7.out] at he hs1
      have hkl1 : e.kids.length ≤ 1000000 := by
       have := hgb1.2.2.2 p { e with kids := e.kids.take s0'.pl ++ i :: e.kids.drop s0'.pl } (by rw [hs1]; exact fset_same _ _ _)
       simp at this; omega
      have HE := Lib.hid he
      have HS1 := Lib.hid hs1
      have HPE := Lib.hid hpe
      have HKL1 := Lib.hid hkl1
      have hpl0 : (0 : Int) ≤ (s0'.pl : Int) := by omega
      have hpl1 : (s0'.pl : Int) ≤ 300000 := by have := HGJ.out.2.2.1; omega
      have HL0 := Lib.hid hl0
      clear he hs1 hpe hkl1 hgb1 hl0
      go_wp2_with fail
      refine wp_region_held_drew (S := fun V => V.cell? ⟨t, 0, none⟩ = some (.map (some mb)) ∧ (Instr.lookup 73 (.map (some mb)) (.int .i64 p) false).run Tryz.prog V = .ok (.pointer (some ⟨y7.nb p, 0, none⟩)) V) (by kernel_rfl) (HKS7.out _ e HE.out HTD7.out) (fun hHeld => ?_)
      have HTB : Hid (TreeAt (w7.drew.alloc (.cells #[.int .i64 i] 3)) t mb y7 g7 s0'.root next (s0'.n + 1)) := HTD7.out.below ((Below.refl _ _).alloc (Nat.le_refl _) _)
      have n7 := HT7.out.n7 HE.out
      have n7b : (w7.alloc (.cells #[.int .i64 i] 3)).cell? ⟨y7.nb p, 7, none⟩ = some (y7.kid p) := (World.cell?_alloc_lt _ _ _ (Array.getElem?_eq_some_iff.1 (HT7.out.node p e HE.out)).1).trans n7
      refine tkv 0 (h := tkv 1 (h := tkv 2 (h := tkv 3 (h := tkv 4 (h := tkv 5 (h := ?_))))))
      refine tkv 6 (h := tkv 7 (h := tkv 8 (h := tkv 9 (h := tkv 10 (h := tkv 11 (h := ?_))))))
      refine tkv 12 (h := tkv 13 (h := ?_))
      refine tkv 15 (h := tkv 16 (h := ?_))
      refine wpAnyH_ready (rs := [14, 17]) (by kernel_rfl) (by simp) ?_
      refine AllReadyH.cons (o := ⟨_, _, _, _, _, _⟩) rfl (fun K hK => ?_) (AllReadyH.cons (o := ⟨_, _, _, _, _, _⟩) rfl (fun K hK => ?_) AllReadyH.nil)
      ·go_simp
       refine hK.out _ _ (HKS7.out _ e HE.out HTD7.out) (fun hHeld => ?_)
       clear hK K
       try go_frame
       refine rdy 17 (fun K hK => ?_)
       go_simp
       refine hK.out _ _ (HKS7.out _ e HE.out HTB.out) (fun hHeld => ?_)
       clear hK K
       try go_frame
       clear n7 n7b
       refine rdy 18 (fun K hK => ?_)
       go_simp
       refine (kid_insert HTD7.out HE.out HKL1.out i s0'.pl HPE.out rfl).mono ?_
       rintro er w9 ⟨pa, pn, pk, rfl, k1, k2, k3⟩
       have e7 := cell_row k1 7 _ rfl
       have f7 := free_row k1 7
       have HK2 := Lib.hid k2
       have HK3 := Lib.hid k3
       clear k1 k2 k3
       go_wp2_with fail
       refine hK.out _ _ (kids_before HK2.out (fset_same _ _ _) rfl HWP.out) (fun hHeld => ?_)
       clear hK K
       try go_frame
       refine tkv 19 (h := tkv 20 (h := ?_))
       refine rdy 21 (fun K hK => ?_)
       go_simp
       refine hK.out _ _ (⟨HK2.out.c0, (HK2.out.look_yes (fset_same _ _ _) HWP.out).2⟩) (fun hHeld => ?_)
       clear hK K
       try go_frame
       refine wpAnyH_done (by kernel_rfl) ?_ _
       clear hHeld e7 f7
       go_wp2_with fail
       go_roundw
       case rel =>
        obtain ⟨z1, z2, z3, z4, z5⟩ := HEND.out _ (layK y7 p (.slice pa pn pk)) (by rw [HS1.out]; exact HK2.out) (by rw [HS1.out]; exact Grows.trans (Grows.of_below (Below.refl _ _).drew) HK3.out) (by rw [HS1.out])
        exact ⟨j + 1, s1, q, pc, _, by go_num, by omega, by rw [HS1.out]; go_num, by rw [HS1.out]; simp; omega, by rw [HS1.out]; simp; omega, HE3, z1, z2, z3, z4, z5⟩
       case measure => simp [intOf]; omega
      ·go_simp
       refine hK.out _ _ (HKS7.out _ e HE.out HTB.out) (fun hHeld => ?_)
       clear hK K
       try go_frame
       refine rdy 14 (fun K hK => ?_)
       go_simp
       refine hK.out _ _ (HKS7.out _ e HE.out HTB.out) (fun hHeld => ?_)
       clear hK K
       try go_frame
       clear n7 n7b
       refine rdy 18 (fun K hK => ?_)
       go_simp
       refine (kid_insert HTD7.out HE.out HKL1.out i s0'.pl HPE.out rfl).mono ?_
       rintro er w9 ⟨pa, pn, pk, rfl, k1, k2, k3⟩
       have e7 := cell_row k1 7 _ rfl
       have f7 := free_row k1 7
       have HK2 := Lib.hid k2
       have HK3 := Lib.hid k3
       clear k1 k2 k3
       go_wp2_with fail
       refine hK.out _ _ (kids_before HK2.out (fset_same _ _ _) rfl HWP.out) (fun hHeld => ?_)
       clear hK K
       try go_frame
       refine tkv 19 (h := tkv 20 (h := ?_))
       refine rdy 21 (fun K hK => ?_)
       go_simp
       refine hK.out _ _ (⟨HK2.out.c0, (HK2.out.look_yes (fset_same _ _ _) HWP.out).2⟩) (fun hHeld => ?_)
       clear hK K
       try go_frame
       refine wpAnyH_done (by kernel_rfl) ?_ _
       clear hHeld e7 f7
       go_wp2_with fail
       go_roundw
       case rel =>
        obtain ⟨z1, z2, z3, z4, z5⟩ := HEND.out _ (layK y7 p (.slice pa pn pk)) (by rw [HS1.out]; exact HK2.out) (by rw [HS1.out]; exact Grows.trans (Grows.of_below (Below.refl _ _).drew) HK3.out) (by rw [HS1.out])
        exact ⟨j + 1, s1, q, pc, _, by go_num, by omega, by rw [HS1.out]; go_num, by rw [HS1.out]; simp; omega, by rw [HS1.out]; simp; omega, HE3, z1, z2, z3, z4, z5⟩
       case measure => simp [intOf]; omega
     ·have hl1 : ((lv : Int) == 0) = false := by simpa using hl0
      obtain ⟨e, he, hs1⟩ := growStep_more HLV.out hl0 HP.out hp0 HE2.out
      have hgb1 := HGJ.out.step HWJ.out HE2.out
      rw [hg7.out] at he hs1
      have hkl1 : e.kids.length ≤ 1000000 := by
       have := hgb1.2.2.2 p { e with kids := e.kids ++ [i] } (by rw [hs1]; exact fset_same _ _ _)
       simp at this; omega
      have HE := Lib.hid he
      have HS1 := Lib.hid hs1
      have HKL1 := Lib.hid hkl1
      have HL0 := Lib.hid hl0
      clear he hs1 hkl1 hgb1 hl0
      go_wp2_with fail
      refine wp_region_held_drew (S := fun V => V.cell? ⟨t, 0, none⟩ = some (.map (some mb)) ∧ (Instr.lookup 73 (.map (some mb)) (.int .i64 p) false).run Tryz.prog V = .ok (.pointer (some ⟨y7.nb p, 0, none⟩)) V) (by kernel_rfl) (HKS7.out _ e HE.out HTD7.out) (fun hHeld => ?_)
      have HTB : Hid (TreeAt (w7.drew.alloc (.cells #[.int .i64 i] 3)) t mb y7 g7 s0'.root next (s0'.n + 1)) := HTD7.out.below ((Below.refl _ _).alloc (Nat.le_refl _) _)
      have n7 := HT7.out.n7 HE.out
      have n7b : (w7.alloc (.cells #[.int .i64 i] 3)).cell? ⟨y7.nb p, 7, none⟩ = some (y7.kid p) := (World.cell?_alloc_lt _ _ _ (Array.getElem?_eq_some_iff.1 (HT7.out.node p e HE.out)).1).trans n7
      refine tkv 0 (h := tkv 1 (h := tkv 2 (h := tkv 3 (h := tkv 4 (h := tkv 5 (h := ?_))))))
      refine tkv 6 (h := tkv 7 (h := tkv 8 (h := tkv 9 (h := tkv 10 (h := tkv 11 (h := ?_))))))
      refine tkv 12 (h := tkv 13 (h := ?_))
      refine tkv 15 (h := ?_)
      refine wpAnyH_ready (rs := [14, 16]) (by kernel_rfl) (by simp) ?_
      refine AllReadyH.cons (o := ⟨_, _, _, _, _, _⟩) rfl (fun K hK => ?_) (AllReadyH.cons (o := ⟨_, _, _, _, _, _⟩) rfl (fun K hK => ?_) AllReadyH.nil)
      ·go_simp
       refine hK.out _ _ (HKS7.out _ e HE.out HTD7.out) (fun hHeld => ?_)
       clear hK K
       try go_frame
       refine rdy 16 (fun K hK => ?_)
       go_simp
       refine hK.out _ _ (HKS7.out _ e HE.out HTB.out) (fun hHeld => ?_)
       clear hK K
       try go_frame
       clear n7 n7b
       refine rdy 17 (fun K hK => ?_)
       obtain ⟨pa, pn, pk, w9, hra, k1, k2, k3⟩ := kid_append HTD7.out HE.out HKL1.out i
       refine step_append_runI rfl (.tmp 78) (.tmp 80) 43 43 rfl (y7.kid p) (.slice (some ⟨w7.heap.size, 0, none⟩) 1 1) (by simp [Act.eval]) (by simp [Act.eval]) hra ?_
       have e7 := cell_row k1 7 _ rfl
       have f7 := free_row k1 7
       have HK2 := Lib.hid k2
       have HK3 := Lib.hid k3
       clear k1 k2 k3
       refine hK.out _ _ (kids_before HK2.out (fset_same _ _ _) rfl HWP.out) (fun hHeld => ?_)
       clear hK K
       try go_frame
       refine tkv 18 (h := tkv 19 (h := ?_))
       refine rdy 20 (fun K hK => ?_)
       go_simp
       refine hK.out _ _ (⟨HK2.out.c0, (HK2.out.look_yes (fset_same _ _ _) HWP.out).2⟩) (fun hHeld => ?_)
       clear hK K
       try go_frame
       refine wpAnyH_done (by kernel_rfl) ?_ _
       clear hHeld e7 f7
       go_wp2_with fail
       go_roundw
       case rel =>
        obtain ⟨z1, z2, z3, z4, z5⟩ := HEND.out _ (layK y7 p (.slice pa pn pk)) (by rw [HS1.out]; exact HK2.out) (by rw [HS1.out]; exact Grows.trans (Grows.of_below (Below.refl _ _).drew) HK3.out) (by rw [HS1.out])
        exact ⟨j + 1, s1, q, pc, _, by go_num, by omega, by rw [HS1.out], by rw [HS1.out]; simp; omega, by rw [HS1.out]; simp; omega, HE3, z1, z2, z3, z4, z5⟩
       case measure => simp [intOf]; omega
      ·go_simp
       refine hK.out _ _ (HKS7.out _ e HE.out HTB.out) (fun hHeld => ?_)
       clear hK K
       try go_frame
       refine rdy 14 (fun K hK => ?_)
       go_simp
       refine hK.out _ _ (HKS7.out _ e HE.out HTB.out) (fun hHeld => ?_)
       clear hK K
       try go_frame
       clear n7 n7b
       refine rdy 17 (fun K hK => ?_)
       obtain ⟨pa, pn, pk, w9, hra, k1, k2, k3⟩ := kid_append HTD7.out HE.out HKL1.out i
       refine step_append_runI rfl (.tmp 78) (.tmp 80) 43 43 rfl (y7.kid p) (.slice (some ⟨w7.heap.size, 0, none⟩) 1 1) (by simp [Act.eval]) (by simp [Act.eval]) hra ?_
       have e7 := cell_row k1 7 _ rfl
       have f7 := free_row k1 7
       have HK2 := Lib.hid k2
       have HK3 := Lib.hid k3
       clear k1 k2 k3
       refine hK.out _ _ (kids_before HK2.out (fset_same _ _ _) rfl HWP.out) (fun hHeld => ?_)
       clear hK K
       try go_frame
       refine tkv 18 (h := tkv 19 (h := ?_))
       refine rdy 20 (fun K hK => ?_)
       go_simp
       refine hK.out _ _ (⟨HK2.out.c0, (HK2.out.look_yes (fset_same _ _ _) HWP.out).2⟩) (fun hHeld => ?_)
       clear hK K
       try go_frame
       refine wpAnyH_done (by kernel_rfl) ?_ _
       clear hHeld e7 f7
       go_wp2_with fail
       go_roundw
       case rel =>
        obtain ⟨z1, z2, z3, z4, z5⟩ := HEND.out _ (layK y7 p (.slice pa pn pk)) (by rw [HS1.out]; exact HK2.out) (by rw [HS1.out]; exact Grows.trans (Grows.of_below (Below.refl _ _).drew) HK3.out) (by rw [HS1.out])
        exact ⟨j + 1, s1, q, pc, _, by go_num, by omega, by rw [HS1.out], by rw [HS1.out]; simp; omega, by rw [HS1.out]; simp; omega, HE3, z1, z2, z3, z4, z5⟩
       case measure => simp [intOf]; omega
  ·have hjm' : ¬ (j : Int) < (m : Int) := by omega
   obtain ⟨i0, hi0⟩ : ∃ i, ids[0]? = some i := ⟨_, List.getElem?_eq_getElem (by rw [hll]; exact hl0)⟩
   have hjl : j = m := by omega
   have hzt : (l.zip ids).take j = l.zip ids := List.take_of_length_le (by rw [List.length_zip, hm.out]; omega)
   have h2 := hgs.out
   rw [hzt, HS.out] at h2
   injection h2 with h2
   rw [HVI.out] at hidr
   have hid2 : wr.ownsRow 0 3 1 (.slice VA m vc) m (ids.map (Value.int .i64)) := by
    have := hidr
    unfold intRow at this
    rw [hll] at this
    exact this
   obtain ⟨_, vc', hvv, _, _, hV0, hV1⟩ := row_shape hid2
   injection hvv with hvv _ hvc
   subst hvc
   cases VA with
   | none => rw [← hvv] at hV0; have := (hV0 rfl).1; omega
   | some va =>
    obtain ⟨vb, rfl, _⟩ := hV1 va hvv.symm
    have cid := own_cell hid2 0 (.int .i64 i0) (by rw [List.getElem?_map, hi0]; rfl)
    have HI0 := Lib.hid hi0
    have HZ2 : Hid (s2 = s0) := h2
    clear hid2 hidr hV0 hV1 hvv hIr hz hi0 h2 hzt hjl
    go_wp2_with fail
    go_ret
    refine ⟨i0, HI0.out, rfl, mb, y0, ?_, ?_⟩
    ·rw [HZ2.out]; exact ht.out
    ·rw [HZ2.out]; exact hgr.out
end
end
section
open Go.RowKit
theorem parts_any (x : ItemD) (A : Option Addr) (c : Nat) (w : World) (hA : AttrsAt w w.heap.size A x.attrs) (hs : SmallItem x) (V : Int) (hV : Hid (partsE x = V)) :
  Calls Tryz.prog 76 #[.agg (itemVal x A c)] w (Ret w (.int .i64 V)) := by
 have HSM := Lib.hid hs
 obtain ⟨hs1, hs2, hs3, hs4, hs5⟩ := hs
 have HS4 := Lib.hid hs4
 have HA := Lib.hid hA
 clear hs4 hA hs5
 have hV' := hV.out
 unfold partsE at hV'
 clear hV
 by_cases h1 : x.kind = 2 ∧ x.name = [] ∧ x.attrs = []
 ·rw [if_pos h1] at hV'
  obtain ⟨k1, k2, k3⟩ := h1
  have HV := Lib.hid hV'
  have e1 : (x.kind == 2) = true := by rw [k1]; rfl
  have e2 : (x.name == []) = true := by rw [k2]; rfl
  have e3 : x.attrs.length = 0 := by rw [k3]; rfl
  unfold itemVal strV
  rw [k2, e3, k1]
  clear k1 k2 k3 e1 e2 e3 hV'
  go_enter Tryz.func76, Tryz.ntmps76
  go_wp2_with fail
  refine (chars_l _ _ hs2 _ HV).mono ?_; rintro e w2 ⟨rfl, hb2⟩
  go_wp2_with fail
  go_ret
  exact ⟨rfl, ((Below.refl _ w).alloc (Nat.le_refl _) _).trans (hb2.mono (by simp))⟩
 ·rw [if_neg h1] at hV'
  by_cases h2 : x.kind ≠ 1 ∨ x.text ≠ []
  ·rw [if_pos h2] at hV'
   have hv : Hid (V = 68) := hV'.symm
   clear hV'
   by_cases k2 : x.kind = 2
   ·have e1 : (x.kind == 2) = true := by simp [k2]
    have e4 : (x.kind != 1) = true := by simp [k2]
    by_cases k3 : x.name = []
    ·have e2 : (x.name == []) = true := by simp [k3]
     have e3 : ((x.attrs.length : Int) == 0) = false := by
      have : x.attrs ≠ [] := fun h => h1 ⟨k2, k3, h⟩
      have : x.attrs.length ≠ 0 := fun h => this (List.eq_nil_of_length_eq_zero h)
      simp; omega
     clear h1 h2 k2 k3
     unfold itemVal strV
     go_enter Tryz.func76, Tryz.ntmps76
     go_wp2_with fail
     go_ret
     exact ⟨by rw [hv.out]; rfl, (Below.refl _ w).alloc (Nat.le_refl _) _⟩
    ·have e2 : (x.name == []) = false := by simp [k3]
     clear h1 h2 k2 k3
     unfold itemVal strV
     go_enter Tryz.func76, Tryz.ntmps76
     go_wp2_with fail
     go_ret
     exact ⟨by rw [hv.out]; rfl, (Below.refl _ w).alloc (Nat.le_refl _) _⟩
   ·have e1 : (x.kind == 2) = false := by simp [k2]
    by_cases k3 : x.kind = 1
    ·have e4 : (x.kind != 1) = false := by simp [k3]
     have e5 : (x.text == []) = false := by
      have : x.text ≠ [] := h2.resolve_left (fun h => h k3)
      simp [this]
     clear h1 h2 k2 k3
     unfold itemVal strV
     go_enter Tryz.func76, Tryz.ntmps76
     go_wp2_with fail
     go_ret
     exact ⟨by rw [hv.out]; rfl, (Below.refl _ w).alloc (Nat.le_refl _) _⟩
    ·have e4 : (x.kind != 1) = true := by simp [k3]
     clear h1 h2 k2 k3
     unfold itemVal strV
     go_enter Tryz.func76, Tryz.ntmps76
     go_wp2_with fail
     go_ret
     exact ⟨by rw [hv.out]; rfl, (Below.refl _ w).alloc (Nat.le_refl _) _⟩
  ·rw [if_neg h2] at hV'
   have k1 : x.kind = 1 := Decidable.of_not_not fun h => h2 (.inl h)
   have k5 : x.text = [] := Decidable.of_not_not fun h => h2 (.inr h)
   have e1 : (x.kind == 2) = false := by simp [k1]
   have e4 : (x.kind != 1) = false := by simp [k1]
   have e5 : (x.text == []) = true := by simp [k5]
   clear h1 h2 k1 k5
   obtain ⟨E, hE⟩ : ∃ E, Hid (namesE x = E) := ⟨_, rfl⟩
   rw [hE.out] at hV'
   have HV := Lib.hid hV'
   clear hV'
   have HN : ∀ w1 : World, Below w.heap.size w w1 → Calls Tryz.prog 104 #[.agg (itemVal x A c)] w1 (Ret w1 (.int .i64 E)) :=
    fun w1 hb => names_any x A c w1 ((HA.out.below hb).more hb.size) HSM.out E hE
   have HNH := Lib.hid HN
   clear HN
   unfold itemVal strV at *
   go_enter Tryz.func76, Tryz.ntmps76
   go_wp2_with fail
   obtain ⟨w1, hw1⟩ : ∃ w1, Hid (w1 = w.alloc (.cells #[.int .i64 x.level, .int .i64 x.kind, .string ⟨x.name.toArray⟩, .string ⟨x.text.toArray⟩, .slice A x.attrs.length c] 62)) := ⟨_, rfl⟩
   have hbw1 : Below w.heap.size w w1 := by rw [hw1.out]; exact (Below.refl _ w).alloc (Nat.le_refl _) _
   have hz1 : w.heap.size < w1.heap.size := by rw [hw1.out]; simp
   have hcell1 : Hid (w1.cell? ⟨w.heap.size, 4, none⟩ = some (.slice A x.attrs.length c)) := by
    show _ = _
    rw [hw1.out, World.cell?_alloc_at _ _ _ _ (by simp)]; rfl
   rw [← hw1.out]
   refine (HNH.out w1 hbw1).mono ?_; rintro e w2 ⟨rfl, hb2⟩
   have hz2 := hb2.size
   have hc4 : w2.cell? ⟨w.heap.size, 4, none⟩ = some (.slice A x.attrs.length c) := by
    rw [hb2.cell (p := ⟨w.heap.size, 4, none⟩) hz1]; exact hcell1.out
   go_wp2_with fail
   go_loopw [3, 38] (fun ev i wr => ∃ (k : Nat) (f : Int), k ≤ x.attrs.length ∧ i = .int .i64 k ∧ ev = .int .i64 f ∧ Hid ((if f = 0 then valuesE (x.attrs.drop k) else f) = V) ∧ Below w2.heap.size w2 wr) (fun _ i _ => x.attrs.length - (intOf i).toNat)
   case atStart => exact ⟨0, E, Nat.zero_le _, rfl, rfl, HV, Below.refl _ _⟩
   case round =>
    obtain ⟨k, f, hk, rfl, rfl, hin, hbel⟩ := hrel
    have hzr := hbel.size
    have hbwr : Below w.heap.size w wr := (hbw1.trans (hb2.mono (by omega))).trans (hbel.mono (by omega))
    by_cases hlt : k < x.attrs.length
    ·obtain ⟨a, ha⟩ : ∃ a, Hid (x.attrs[k]? = some a) := ⟨x.attrs[k], List.getElem?_eq_getElem _⟩
     obtain ⟨ad, hAd, hbl, hcs⟩ := (HA.out.below hbwr) (by omega)
     obtain ⟨hc0, hc1⟩ := hcs k a ha.out
     unfold strV at hc0 hc1
     clear hcs
     have hin' := hin.out
     rw [drop_cons ha.out, valuesE] at hin'
     have hnm := (HS4.out k a ha.out).2
     subst hAd
     have hlt' : (k : Int) < x.attrs.length := by omega
     by_cases hf : f = 0
     ·rw [if_pos hf] at hin'
      subst hf
      obtain ⟨q, hq⟩ : ∃ q, Hid (charsE a.value = q) := ⟨_, rfl⟩
      rw [hq.out] at hin'
      have hv : Hid ((if q = 0 then valuesE (x.attrs.drop (k + 1)) else q) = V) := hin'
      clear hin'
      go_wp2_with fail
      refine (chars_l _ _ hnm _ hq).mono ?_; rintro e w3 ⟨rfl, hb3⟩
      have hz3 := hb3.size
      simp only [World.size_alloc] at hz3
      go_wp2_with fail
      go_roundw
      case rel => exact ⟨k + 1, q, by omega, by go_num, rfl, hv, (hbel.alloc (by omega) _).trans (hb3.mono (by simp; omega))⟩
      case measure => simp [intOf]; omega
     ·rw [if_neg hf] at hin'
      have hv : Hid ((if f = 0 then valuesE (x.attrs.drop (k + 1)) else f) = V) := by show _ = _; rw [if_neg hf]; exact hin'
      clear hin'
      have ef : (f == 0) = false := by simp [hf]
      clear hf
      go_wp2_with fail
      go_roundw
      case rel => exact ⟨k + 1, f, by omega, by go_num, rfl, hv, hbel.alloc (by omega) _⟩
      case measure => simp [intOf]; omega
    ·have hk' : k = x.attrs.length := by omega
     have hv : Hid (V = f) := by
      show _ = _
      rw [← hin.out, List.drop_eq_nil_of_le (by omega)]
      simp only [valuesE]
      split <;> simp_all
     subst hk'
     go_wp2_with fail
     go_ret
     exact ⟨by rw [hv.out]; rfl, hbwr⟩
end
end Go.Proofs.YtmkgajdgnmolkaaGreat
